/- Steps through functions of the program, under conditions that each theorem states (part mod3 of a claim). -/
import Derived.Test.YtahpokcigdjilaaProg
import Derived.Test.YtahpokcigdjilaaL18
import Derived.Test.YtahpokcigdjilaaMod2
namespace Go.Proofs.Ytahpokcigdjilaa
open Go Go.Sp

set_option linter.unusedVariables false

namespace mod3
theorem fd36_3 : FD Try.prog 36 3 3 := .of Try.underlying36 (by kernel_rfl)
theorem na3 : NotAgg Try.prog 3 := ⟨_, Try.underlying3, trivial⟩
theorem fd36_4 : FD Try.prog 36 4 4 := .of Try.underlying36 (by kernel_rfl)
theorem bld85_0_1 (x0 : Int) (x1 : Int) (w : World) : (Instr.build 85 (([0, 1] : List Nat).zip [.int .i64 x0, .int .i64 x1]).toArray).run Try.prog w = .ok (.agg #[.int .i64 x0, .int .i64 x1]) w := by kernel_rfl
theorem fd36_9 : FD Try.prog 36 9 9 := .of Try.underlying36 (by kernel_rfl)
theorem na9 : NotAgg Try.prog 9 := ⟨_, Try.underlying9, trivial⟩
theorem bld79_0_1 (x0 : Int) (x1 : ByteArray) (w : World) : (Instr.build 79 (([0, 1] : List Nat).zip [.int .i64 x0, .string x1]).toArray).run Try.prog w = .ok (.agg #[.int .i64 x0, .string x1]) w := by kernel_rfl
theorem ti85 : TI Try.prog 85 2 16 (.agg #[.int .i64 0, .int .i64 0]) := .of (by kernel_rfl)
theorem ti79 : TI Try.prog 79 2 24 (.agg #[.int .i64 0, .string ⟨#[]⟩]) := .of (by kernel_rfl)
theorem ts85 : TS Try.prog 85 2 := .of (by kernel_rfl)
theorem ts79 : TS Try.prog 79 2 := .of (by kernel_rfl)
theorem fd59_6 : FD Try.prog 59 6 6 := .of Try.underlying59 (by kernel_rfl)
theorem na52 : NotAgg Try.prog 52 := ⟨_, Try.underlying52, trivial⟩
theorem ia79 : IsAgg Try.prog 79 := ⟨_, Try.underlying79, trivial⟩
theorem ti40 : TI Try.prog 40 1 24 (.slice none 0 0) := .of (by kernel_rfl)
theorem fd59_3 : FD Try.prog 59 3 3 := .of Try.underlying59 (by kernel_rfl)
theorem na49 : NotAgg Try.prog 49 := ⟨_, Try.underlying49, trivial⟩
theorem ia85 : IsAgg Try.prog 85 := ⟨_, Try.underlying85, trivial⟩
theorem ti9 : TI Try.prog 9 1 16 (.string ⟨#[]⟩) := .of (by kernel_rfl)
theorem fd36_2 : FD Try.prog 36 2 2 := .of Try.underlying36 (by kernel_rfl)
theorem fd59_4 : FD Try.prog 59 4 4 := .of Try.underlying59 (by kernel_rfl)
theorem na50 : NotAgg Try.prog 50 := ⟨_, Try.underlying50, trivial⟩
theorem ti4 : TI Try.prog 4 1 1 (.bool false) := .of (by kernel_rfl)
theorem fd59_5 : FD Try.prog 59 5 5 := .of Try.underlying59 (by kernel_rfl)
theorem na51 : NotAgg Try.prog 51 := ⟨_, Try.underlying51, trivial⟩
theorem ti3 : TI Try.prog 3 1 8 (.int .i64 0) := .of (by kernel_rfl)
theorem fd59_7 : FD Try.prog 59 7 7 := .of Try.underlying59 (by kernel_rfl)
theorem na53 : NotAgg Try.prog 53 := ⟨_, Try.underlying53, trivial⟩
theorem fd36_5 : FD Try.prog 36 5 5 := .of Try.underlying36 (by kernel_rfl)
theorem fd36_6 : FD Try.prog 36 6 6 := .of Try.underlying36 (by kernel_rfl)
theorem bld86_0_1_2 (x0 : Int) (x1 : Int) (x2 : Int) (w : World) : (Instr.build 86 (([0, 1, 2] : List Nat).zip [.int .i64 x0, .int .i64 x1, .int .i64 x2]).toArray).run Try.prog w = .ok (.agg #[.int .i64 x0, .int .i64 x1, .int .i64 x2]) w := by kernel_rfl
theorem ti22 : TI Try.prog 22 1 24 (.slice none 0 0) := .of (by kernel_rfl)
theorem ts36 : TS Try.prog 36 12 := .of (by kernel_rfl)
theorem ia36 : IsAgg Try.prog 36 := ⟨_, Try.underlying36, trivial⟩
theorem ti36 : TI Try.prog 36 12 112 (.agg #[.int .i64 0, .int .i64 0, .int .i64 0, .int .i64 0, .int .i64 0, .int .i64 0, .int .i64 0, .int .i64 0, .string ⟨#[]⟩, .string ⟨#[]⟩, .int .i64 0, .bool false]) := .of (by kernel_rfl)
theorem fd36_7 : FD Try.prog 36 7 7 := .of Try.underlying36 (by kernel_rfl)
theorem fd59_8 : FD Try.prog 59 8 8 := .of Try.underlying59 (by kernel_rfl)
theorem na54 : NotAgg Try.prog 54 := ⟨_, Try.underlying54, trivial⟩
theorem ti74 : TI Try.prog 74 1 24 (.slice none 0 0) := .of (by kernel_rfl)
theorem ts76 : TS Try.prog 76 2 := .of (by kernel_rfl)
theorem ia76 : IsAgg Try.prog 76 := ⟨_, Try.underlying76, trivial⟩
theorem ti76 : TI Try.prog 76 2 16 (.agg #[.int .i64 0, .int .i64 0]) := .of (by kernel_rfl)
theorem fd76_0 : FD Try.prog 76 0 0 := .of Try.underlying76 (by kernel_rfl)
theorem fd76_1 : FD Try.prog 76 1 1 := .of Try.underlying76 (by kernel_rfl)
end mod3
open mod3



set_option maxHeartbeats 2000000 in
set_option maxRecDepth 20000 in
theorem records_ok (c : Nat) (p : PS) (n : Nat) (s : Sn) (fr : Int) (hn : n ≤ 1000000) : Cn Try.prog 18 [ptrV c, .agg s.cells.toArray, .int .i64 fr] (fun _ => True) [chk c p n] fun v G => v = .string (str (recordsP p s fr)) ∧ G = [chk c p n] := by
  refine .enter Try.func18 rfl (by kernel_rfl) rfl fun R k => ?_
  refine .open_ (σ := CS × Bl) (φ := fun x => Rel x.1 p n) (B := fun x => chkL c x.1 x.2) .head chk_open (fun x hR => ?_)
  obtain ⟨S, b⟩ := x
  dsimp only at hR
  simp only [chkL, List.cons_append, List.nil_append]
  refine .seq ?_
  refine .region ?_   -- R0 model.go:114
  refine .ef (.box (l := s.cells) rfl rfl (ones.of rfl)) ?_
  rintro _ _ ⟨b4, rfl, rfl⟩
  refine .rd (.assign rfl) ?_
  refine .nil ?_
  refine .seq ?_
  refine .draws [1, 3, 6, 8] [blk b4 s.cells 36] (by kernel_rfl) ?_   -- R1 model.go:115
  refine .rp 0 rfl (by kernel_rfl) (by kernel_rfl) (by kernel_rfl) (Reads.pure (.fieldAddr fd36_3 rfl)) ?_
  refine .rd 1 rfl rfl (by kernel_rfl) (by kernel_rfl) (by kernel_rfl) (.ld na3 rfl .head rfl) (.cons .head .nil) ?_
  refine .rp 2 rfl (by kernel_rfl) (by kernel_rfl) (by kernel_rfl) (Reads.pure (.fieldAddr fd36_4 rfl)) ?_
  refine .rd 3 rfl rfl (by kernel_rfl) (by kernel_rfl) (by kernel_rfl) (.ld na3 rfl .head rfl) (.cons .head .nil) ?_
  refine .rp 4 rfl (by kernel_rfl) (by kernel_rfl) (by kernel_rfl) (Reads.pure (.build rfl (bld85_0_1 _ _))) ?_
  refine .rp 5 rfl (by kernel_rfl) (by kernel_rfl) (by kernel_rfl) (Reads.pure (.fieldAddr fd36_3 rfl)) ?_
  refine .rd 6 rfl rfl (by kernel_rfl) (by kernel_rfl) (by kernel_rfl) (.ld na3 rfl .head rfl) (.cons .head .nil) ?_
  refine .rp 7 rfl (by kernel_rfl) (by kernel_rfl) (by kernel_rfl) (Reads.pure (.fieldAddr fd36_9 rfl)) ?_
  refine .rd 8 rfl rfl (by kernel_rfl) (by kernel_rfl) (by kernel_rfl) (.ld na9 rfl .head rfl) (.cons .head .nil) ?_
  refine .rp 9 rfl (by kernel_rfl) (by kernel_rfl) (by kernel_rfl) (Reads.pure (.build rfl (bld79_0_1 _ _))) ?_
  refine .all (rs := [10, 11]) (by kernel_rfl) (by simp) (fun i hi => ?_)
  simp only [List.mem_cons, List.not_mem_nil, or_false] at hi
  rcases hi with rfl | rfl
  · refine .ef rfl (.alloc ti85 rfl (ones.of rfl)) ?_
    rintro _ _ ⟨b7, rfl, rfl⟩
    refine ⟨.inr ⟨_, (.cons (.tail .head) .nil)⟩, ?_⟩
    refine .ef 11 (by kernel_rfl) rfl (.alloc ti79 rfl (ones.of rfl)) ?_
    rintro _ _ ⟨b8, rfl, rfl⟩
    refine ⟨.inr ⟨_, (.cons (.tail (.tail .head)) .nil)⟩, ?_⟩
    refine .ef0 12 (by kernel_rfl) rfl (.storeAll ts85 rfl rfl rfl (.tail .head) rfl (ones.of rfl)) ?_
    rintro _ _ rfl
    refine ⟨.inr ⟨_, (.cons (.tail (.tail .head)) .nil)⟩, ?_⟩
    refine .ef0 13 (by kernel_rfl) rfl (.storeAll ts79 rfl rfl rfl (.tail .head) rfl (ones.of rfl)) ?_
    rintro _ _ rfl
    refine ⟨.inl (by kernel_rfl), ?_⟩
    refine .done (by kernel_rfl) ?_
    have hof := hR.offsets (s.part, s.text)
    have hon := hR.offsetsN (s.part, s.text)
    have hsn := hR.sentN (s.part, s.text)
    have hrow : Knows [bag (rowsOf 3 1 icell) S.offsets] (RowAt ((mget S.offsets (s.part, s.text)).getD row0).1 (((mget S.offsets (s.part, s.text)).getD row0).2.2.flatMap icell)) := Knows.row .head
    obtain ⟨r, hr⟩ : ∃ r, (mget S.offsets (s.part, s.text)).getD row0 = r := ⟨_, rfl⟩
    rw [hr] at hof hrow
    obtain ⟨ra, rc, rl⟩ := r
    dsimp only at hof hrow
    rw [← hof] at hon
    refine .seq ?_
    refine .draws [3, 4, 5] [blk c b.cells 59, blk b8 [.int .i64 s.part, .string (str s.text)] 79, mp encL rowV b.m6 S.offsets] (by kernel_rfl) ?_   -- R2 model.go:116
    refine .rp 0 rfl (by kernel_rfl) (by kernel_rfl) (by kernel_rfl) (Reads.pure (.move rfl)) ?_
    refine .rp 1 rfl (by kernel_rfl) (by kernel_rfl) (by kernel_rfl) (Reads.pure (.nilCheck rfl)) ?_
    refine .rp 2 rfl (by kernel_rfl) (by kernel_rfl) (by kernel_rfl) (Reads.pure (.fieldAddr fd59_6 rfl)) ?_
    refine .rd 3 rfl rfl (by kernel_rfl) (by kernel_rfl) (by kernel_rfl) (.ld na52 rfl .head rfl) (.cons (.tail (.tail (.tail .head))) (.cons .head (.cons (.tail (.tail (.tail (.tail (.tail (.tail (.tail (.tail .head)))))))) .nil))) ?_
    refine .rd 4 rfl rfl (by kernel_rfl) (by kernel_rfl) (by kernel_rfl) (.ldN ia79 ts79 rfl (.tail .head) rfl) (.cons (.tail (.tail (.tail .head))) (.cons .head (.cons (.tail (.tail (.tail (.tail (.tail (.tail (.tail (.tail .head)))))))) .nil))) ?_
    refine .rd 5 rfl rfl (by kernel_rfl) (by kernel_rfl) (by kernel_rfl) (.lookup (q := (s.part, s.text)) kl79 Try.underlying52 (fun w => ti40.zero w) rfl rfl (.tail (.tail .head))) (.cons (.tail (.tail (.tail .head))) (.cons .head (.cons (.tail (.tail (.tail (.tail (.tail (.tail (.tail (.tail .head)))))))) .nil))) ?_
    refine .alter (t := 31) (v' := rowV (ra, rc, rl)) rfl (by rw [← hr]; exact getD_map rowV _ row0) ?_
    refine .rp 6 rfl (by kernel_rfl) (by kernel_rfl) (by kernel_rfl) (Reads.pure (.lenL rfl rfl Try.underlying40 rfl)) ?_
    refine .rp 7 rfl (by kernel_rfl) (by kernel_rfl) (by kernel_rfl) (Reads.pure (.assign rfl)) ?_
    refine .done (by kernel_rfl) ?_
    refine .seq ?_
    refine .seq ?_
    refine .draws [3, 4, 5, 7] [blk c b.cells 59, blk b8 [.int .i64 s.part, .string (str s.text)] 79, mp encL rowV b.m6 S.offsets, blk b4 s.cells 36] (by kernel_rfl) ?_   -- R3 model.go:117
    refine .rp 0 rfl (by kernel_rfl) (by kernel_rfl) (by kernel_rfl) (Reads.pure (.move rfl)) ?_
    refine .rp 1 rfl (by kernel_rfl) (by kernel_rfl) (by kernel_rfl) (Reads.pure (.nilCheck rfl)) ?_
    refine .rp 2 rfl (by kernel_rfl) (by kernel_rfl) (by kernel_rfl) (Reads.pure (.fieldAddr fd59_6 rfl)) ?_
    refine .rd 3 rfl rfl (by kernel_rfl) (by kernel_rfl) (by kernel_rfl) (.ld na52 rfl .head rfl) (.cons (.tail (.tail (.tail .head))) (.cons .head (.cons (.tail (.tail (.tail (.tail (.tail (.tail (.tail (.tail .head)))))))) (.cons (.tail .head) .nil)))) ?_
    refine .rd 4 rfl rfl (by kernel_rfl) (by kernel_rfl) (by kernel_rfl) (.ldN ia79 ts79 rfl (.tail .head) rfl) (.cons (.tail (.tail (.tail .head))) (.cons .head (.cons (.tail (.tail (.tail (.tail (.tail (.tail (.tail (.tail .head)))))))) (.cons (.tail .head) .nil)))) ?_
    refine .rd 5 rfl rfl (by kernel_rfl) (by kernel_rfl) (by kernel_rfl) (.lookup (q := (s.part, s.text)) kl79 Try.underlying52 (fun w => ti40.zero w) rfl rfl (.tail (.tail .head))) (.cons (.tail (.tail (.tail .head))) (.cons .head (.cons (.tail (.tail (.tail (.tail (.tail (.tail (.tail (.tail .head)))))))) (.cons (.tail .head) .nil)))) ?_
    refine .alter (t := 38) (v' := rowV (ra, rc, rl)) rfl (by rw [← hr]; exact getD_map rowV _ row0) ?_
    refine .rp 6 rfl (by kernel_rfl) (by kernel_rfl) (by kernel_rfl) (Reads.pure (.fieldAddr fd36_4 rfl)) ?_
    refine .rd 7 rfl rfl (by kernel_rfl) (by kernel_rfl) (by kernel_rfl) (.ld na3 rfl (.tail (.tail (.tail .head))) rfl) (.cons (.tail (.tail (.tail .head))) (.cons .head (.cons (.tail (.tail (.tail (.tail (.tail (.tail (.tail (.tail .head)))))))) (.cons (.tail .head) .nil)))) ?_
    refine .ef 8 (by kernel_rfl) rfl (.fn rfl rfl .nil (Knows.pick (.tail (.tail (.tail (.tail (.tail (.tail (.tail (.tail (.tail (.tail (.tail (.tail (.tail (.tail (.tail (.tail .head)))))))))))))))) hrow) (Contains_ok ra rc rl s.offset (by omega))) ?_
    rintro v _ ⟨G1, hq, rfl⟩
    obtain ⟨rfl, rfl⟩ := hq
    simp only [List.nil_append]
    refine ⟨.inl (by kernel_rfl), ?_⟩
    refine .rp 9 rfl (by kernel_rfl) (by kernel_rfl) (by kernel_rfl) (Reads.pure (.not rfl)) ?_
    refine .done (by kernel_rfl) ?_
    refine .joinAt (E' := [(0, .pointer (some ⟨c, 0, none⟩)), (2, .int .i64 fr), (4, .pointer (some ⟨b4, 0, none⟩)), (7, .pointer (some ⟨b7, 0, none⟩)), (8, .pointer (some ⟨b8, 0, none⟩)), (9, .int .i64 (manyP p s))]) (Γ' := [blk c b.cells 59, mp encI inV b.m0 S.calls, mp encI askV b.m1 S.kinds, mp encI Value.bool b.m2 S.done, mp encI txV b.m3 S.values, mp encI Value.bool b.m4 S.acked, mp encL inV b.m5 S.sent, mp encL rowV b.m6 S.offsets, mp enc3 rowV b.m7 S.sends, mp encN rowV b.m8 S.deletes, mp encS rowV b.m9 S.gens, mp encP rowV b.m10 S.commits, mp encI ptrV b.m11 S.opened, bag (rowsOf 3 1 icell) S.offsets, bag (rowsOf 36 12 Sn.cells) S.sends, bag (rowsOf 76 2 Mark.cells) S.deletes, bag (rowsOf 76 2 Mark.cells) S.gens, bag (rowsOf 80 1 pcell) S.commits, bag spanOf S.spans, blk b4 s.cells 36, blk b7 [.int .i64 s.part, .int .i64 s.offset] 85, blk b8 [.int .i64 s.part, .string (str s.text)] 79, R]) ?_ (fun fin => ?_)
    · refine .seq ?_
      refine .draws [3, 4, 5] [blk c b.cells 59, blk b7 [.int .i64 s.part, .int .i64 s.offset] 85, mp encI txV b.m3 S.values] (by kernel_rfl) ?_   -- R5 model.go:120
      refine .rp 0 rfl (by kernel_rfl) (by kernel_rfl) (by kernel_rfl) (Reads.pure (.move rfl)) ?_
      refine .rp 1 rfl (by kernel_rfl) (by kernel_rfl) (by kernel_rfl) (Reads.pure (.nilCheck rfl)) ?_
      refine .rp 2 rfl (by kernel_rfl) (by kernel_rfl) (by kernel_rfl) (Reads.pure (.fieldAddr fd59_3 rfl)) ?_
      refine .rd 3 rfl rfl (by kernel_rfl) (by kernel_rfl) (by kernel_rfl) (.ld na49 rfl .head rfl) (.cons .head (.cons (.tail (.tail (.tail (.tail (.tail (.tail (.tail (.tail (.tail (.tail (.tail (.tail (.tail (.tail (.tail (.tail (.tail (.tail (.tail .head))))))))))))))))))) (.cons (.tail (.tail (.tail .head))) .nil))) ?_
      refine .rd 4 rfl rfl (by kernel_rfl) (by kernel_rfl) (by kernel_rfl) (.ldN ia85 ts85 rfl (.tail .head) rfl) (.cons .head (.cons (.tail (.tail (.tail (.tail (.tail (.tail (.tail (.tail (.tail (.tail (.tail (.tail (.tail (.tail (.tail (.tail (.tail (.tail (.tail .head))))))))))))))))))) (.cons (.tail (.tail (.tail .head))) .nil))) ?_
      refine .rd 5 rfl rfl (by kernel_rfl) (by kernel_rfl) (by kernel_rfl) (.lookupOk (q := (s.part, s.offset)) kl85 Try.underlying49 (fun w => ti9.zero w) rfl rfl (.tail (.tail .head))) (.cons .head (.cons (.tail (.tail (.tail (.tail (.tail (.tail (.tail (.tail (.tail (.tail (.tail (.tail (.tail (.tail (.tail (.tail (.tail (.tail (.tail .head))))))))))))))))))) (.cons (.tail (.tail (.tail .head))) .nil))) ?_
      have hva := hR.values (s.part, s.offset)
      refine .alter (t := 51) (v' := .tuple #[txV (((p.values (s.part, s.offset))).getD []), .bool (p.values (s.part, s.offset)).isSome]) rfl (by rw [hva]; cases p.values (s.part, s.offset) <;> rfl) ?_
      refine .rp 6 rfl (by kernel_rfl) (by kernel_rfl) (by kernel_rfl) (Reads.pure (.move rfl)) ?_
      refine .rp 7 rfl (by kernel_rfl) (by kernel_rfl) (by kernel_rfl) (Reads.pure (.extract rfl rfl)) ?_
      refine .rp 8 rfl (by kernel_rfl) (by kernel_rfl) (by kernel_rfl) (Reads.pure (.extract rfl rfl)) ?_
      refine .rp 9 rfl (by kernel_rfl) (by kernel_rfl) (by kernel_rfl) (Reads.pure (.assign rfl)) ?_
      refine .rp 10 rfl (by kernel_rfl) (by kernel_rfl) (by kernel_rfl) (Reads.pure (.assign rfl)) ?_
      refine .done (by kernel_rfl) ?_
      refine .seq ?_
      refine .block ?_
      refine .seq ?_
      refine .region ?_   -- R6 model.go:122
      refine RunO.join 7 61 (badV p s) ?_ ?_
      · refine .rd (.move rfl) ?_
        refine .rd (.move rfl) ?_
        refine .split (t := 56) rfl (fun g6_1 => ?_) (fun g6_1 => ?_)
        · refine .on (t := 56) rfl rfl ?_
          refine .rd (.move rfl) ?_
          refine .on (t := 56) rfl rfl ?_
          refine .rd (.fieldAddr fd36_9 rfl) ?_
          refine .on (t := 56) rfl rfl ?_
          refine .rd (.ld na9 rfl (.tail (.tail (.tail (.tail (.tail (.tail (.tail (.tail (.tail (.tail (.tail (.tail (.tail (.tail (.tail (.tail (.tail (.tail (.tail .head))))))))))))))))))) rfl) ?_
          refine .on (t := 56) rfl rfl ?_
          refine .rd (.neT rfl rfl) ?_
          refine .rd (.pickT rfl rfl) ?_
          refine .nil ⟨rfl, ?_, by repeat (first | exact Le.refl _ | refine Le.skip rfl ?_)⟩
          exact congrArg (fun x => some (Value.bool x)) (Eq.symm (show badV p s = _ by unfold badV; rw [g6_1]; rfl))
        · refine .off (t := 56) rfl rfl rfl ?_
          refine .off (t := 56) rfl rfl rfl ?_
          refine .off (t := 56) rfl rfl rfl ?_
          refine .off (t := 56) rfl rfl rfl ?_
          refine .rd (.pickF rfl rfl) ?_
          refine .nil ⟨rfl, ?_, by repeat (first | exact Le.refl _ | refine Le.skip rfl ?_)⟩
          exact congrArg (fun x => some (Value.bool x)) (Eq.symm (show badV p s = _ by unfold badV; rw [g6_1]; rfl))
      refine .rd (.assign rfl) ?_
      refine .nil ?_
      refine .cond rfl (fun h6 => ?_) (fun h6 => ?_)
      · refine .seq ?_
        refine .region ?_   -- R7 model.go:123
        refine .rd (.assign rfl) ?_
        refine .nil ?_
        refine .close (X := chk c p n) (B := chkL c S b) (.cons .head (.cons .head (.cons .head (.cons .head (.cons .head (.cons .head (.cons .head (.cons .head (.cons .head (.cons .head (.cons .head (.cons .head (.cons .head (.cons .head (.cons .head (.cons .head (.cons .head (.cons .head (.cons .head .nil))))))))))))))))))) (chk_close (hR)) ?_
        have hv : recordsP p s fr = wValue := by unfold recordsP; rw [if_pos ((badV_iff p s).1 h6)]
        rw [hv]
        refine .retP Try.func18 (.cons (.tmp rfl) .nil) (.cons .head (.cons (.tail (.tail (.tail .head))) .nil)) ?_
        exact ⟨[_], ⟨rfl, rfl⟩, rfl⟩
      · refine .seq ?_
        refine .drawsJoin [1, 7, 8, 9] [blk b4 s.cells 36, blk c b.cells 59, blk b7 [.int .i64 s.part, .int .i64 s.offset] 85, mp encI Value.bool b.m4 S.acked] 62 (badO p s) (by kernel_rfl) ?_ ?_   -- R8 model.go:124
        · refine .rp 0 rfl (by kernel_rfl) (by kernel_rfl) (by kernel_rfl) (Reads.pure (.fieldAddr fd36_2 rfl)) ?_
          refine .rd 1 rfl rfl (by kernel_rfl) (by kernel_rfl) (by kernel_rfl) (.ld na3 rfl .head rfl) (.cons (.tail (.tail (.tail (.tail (.tail (.tail (.tail (.tail (.tail (.tail (.tail (.tail (.tail (.tail (.tail (.tail (.tail (.tail (.tail .head))))))))))))))))))) (.cons .head (.cons (.tail (.tail (.tail (.tail (.tail (.tail (.tail (.tail (.tail (.tail (.tail (.tail (.tail (.tail (.tail (.tail (.tail (.tail .head)))))))))))))))))) (.cons (.tail (.tail (.tail (.tail .head)))) .nil)))) ?_
          refine .rp 2 rfl (by kernel_rfl) (by kernel_rfl) (by kernel_rfl) (Reads.pure (.eqI rfl rfl)) ?_
          refine .rp 3 rfl (by kernel_rfl) (by kernel_rfl) (by kernel_rfl) (Reads.pure (.move rfl)) ?_
          refine .split (t := 66) rfl (fun g8_3 => ?_) (fun g8_3 => ?_)
          · replace g8_3 := of_decide_eq_true g8_3
            refine .rpG 4 (t := 66) rfl rfl rfl (by kernel_rfl) (by kernel_rfl) (by kernel_rfl) (Reads.pure (.move rfl)) ?_
            refine .rpG 5 (t := 66) rfl rfl rfl (by kernel_rfl) (by kernel_rfl) (by kernel_rfl) (Reads.pure (.nilCheck rfl)) ?_
            refine .rpG 6 (t := 66) rfl rfl rfl (by kernel_rfl) (by kernel_rfl) (by kernel_rfl) (Reads.pure (.fieldAddr fd59_4 rfl)) ?_
            refine .rdG 7 (t := 66) rfl rfl rfl rfl (by kernel_rfl) (by kernel_rfl) (by kernel_rfl) (.ld na50 rfl (.tail .head) rfl) (.cons (.tail (.tail (.tail (.tail (.tail (.tail (.tail (.tail (.tail (.tail (.tail (.tail (.tail (.tail (.tail (.tail (.tail (.tail (.tail .head))))))))))))))))))) (.cons .head (.cons (.tail (.tail (.tail (.tail (.tail (.tail (.tail (.tail (.tail (.tail (.tail (.tail (.tail (.tail (.tail (.tail (.tail (.tail .head)))))))))))))))))) (.cons (.tail (.tail (.tail (.tail .head)))) .nil)))) ?_
            refine .rdG 8 (t := 66) rfl rfl rfl rfl (by kernel_rfl) (by kernel_rfl) (by kernel_rfl) (.ldN ia85 ts85 rfl (.tail (.tail .head)) rfl) (.cons (.tail (.tail (.tail (.tail (.tail (.tail (.tail (.tail (.tail (.tail (.tail (.tail (.tail (.tail (.tail (.tail (.tail (.tail (.tail .head))))))))))))))))))) (.cons .head (.cons (.tail (.tail (.tail (.tail (.tail (.tail (.tail (.tail (.tail (.tail (.tail (.tail (.tail (.tail (.tail (.tail (.tail (.tail .head)))))))))))))))))) (.cons (.tail (.tail (.tail (.tail .head)))) .nil)))) ?_
            refine .rdG 9 (t := 66) rfl rfl rfl rfl (by kernel_rfl) (by kernel_rfl) (by kernel_rfl) (.lookup (q := (s.part, s.offset)) kl85 Try.underlying50 (fun w => ti4.zero w) rfl rfl (.tail (.tail (.tail .head)))) (.cons (.tail (.tail (.tail (.tail (.tail (.tail (.tail (.tail (.tail (.tail (.tail (.tail (.tail (.tail (.tail (.tail (.tail (.tail (.tail .head))))))))))))))))))) (.cons .head (.cons (.tail (.tail (.tail (.tail (.tail (.tail (.tail (.tail (.tail (.tail (.tail (.tail (.tail (.tail (.tail (.tail (.tail (.tail .head)))))))))))))))))) (.cons (.tail (.tail (.tail (.tail .head)))) .nil)))) ?_
            refine .alter (t := 72) (v' := .bool (p.acked (s.part, s.offset))) rfl (by rw [← hR.acked]; exact getD_map Value.bool _ false) ?_
            refine .rp 10 rfl (by kernel_rfl) (by kernel_rfl) (by kernel_rfl) (Reads.pure (.pickT rfl rfl)) ?_
            refine .rp 11 rfl (by kernel_rfl) (by kernel_rfl) (by kernel_rfl) (Reads.pure (.assign rfl)) ?_
            refine .done (by kernel_rfl) ⟨rfl, ?_, by repeat (first | exact Le.refl _ | refine Le.skip rfl ?_)⟩
            exact congrArg (fun x => some (Value.bool x)) (Eq.symm (show badO p s = _ by unfold badO; rw [decide_eq_true (p := s.kind = 10) (by omega)]; rfl))
          · replace g8_3 := of_decide_eq_false g8_3
            refine .off 4 (t := 66) rfl rfl rfl rfl (by kernel_rfl) (by kernel_rfl) (by kernel_rfl) ?_
            refine .off 5 (t := 66) rfl rfl rfl rfl (by kernel_rfl) (by kernel_rfl) (by kernel_rfl) ?_
            refine .off 6 (t := 66) rfl rfl rfl rfl (by kernel_rfl) (by kernel_rfl) (by kernel_rfl) ?_
            refine .off 7 (t := 66) rfl rfl rfl rfl (by kernel_rfl) (by kernel_rfl) (by kernel_rfl) ?_
            refine .off 8 (t := 66) rfl rfl rfl rfl (by kernel_rfl) (by kernel_rfl) (by kernel_rfl) ?_
            refine .off 9 (t := 66) rfl rfl rfl rfl (by kernel_rfl) (by kernel_rfl) (by kernel_rfl) ?_
            refine .rp 10 rfl (by kernel_rfl) (by kernel_rfl) (by kernel_rfl) (Reads.pure (.pickF rfl rfl)) ?_
            refine .rp 11 rfl (by kernel_rfl) (by kernel_rfl) (by kernel_rfl) (Reads.pure (.assign rfl)) ?_
            refine .done (by kernel_rfl) ⟨rfl, ?_, by repeat (first | exact Le.refl _ | refine Le.skip rfl ?_)⟩
            exact congrArg (fun x => some (Value.bool x)) (Eq.symm (show badO p s = _ by unfold badO; rw [decide_eq_false (p := s.kind = 10) (by omega)]; rfl))
        refine .cond rfl (fun h8 => ?_) (fun h8 => ?_)
        · refine .seq ?_
          refine .region ?_   -- R9 model.go:125
          refine .rd (.assign rfl) ?_
          refine .nil ?_
          refine .close (X := chk c p n) (B := chkL c S b) (.cons .head (.cons .head (.cons .head (.cons .head (.cons .head (.cons .head (.cons .head (.cons .head (.cons .head (.cons .head (.cons .head (.cons .head (.cons .head (.cons .head (.cons .head (.cons .head (.cons .head (.cons .head (.cons .head .nil))))))))))))))))))) (chk_close (hR)) ?_
          have hv : recordsP p s fr = wOffset := by unfold recordsP; rw [if_neg (fun e => by rw [(badV_iff p s).2 e] at h6; cases h6), if_pos ((badO_iff p s).1 h8)]
          rw [hv]
          refine .retP Try.func18 (.cons (.tmp rfl) .nil) (.cons .head (.cons (.tail (.tail (.tail .head))) .nil)) ?_
          exact ⟨[_], ⟨rfl, rfl⟩, rfl⟩
        · refine .seq ?_
          refine .drawsJoin [1, 7, 8, 9] [blk b4 s.cells 36, blk c b.cells 59, blk b8 [.int .i64 s.part, .string (str s.text)] 79, mp encL inV b.m5 S.sent] 74 (badU p s) (by kernel_rfl) ?_ ?_   -- R10 model.go:126
          · refine .rp 0 rfl (by kernel_rfl) (by kernel_rfl) (by kernel_rfl) (Reads.pure (.fieldAddr fd36_2 rfl)) ?_
            refine .rd 1 rfl rfl (by kernel_rfl) (by kernel_rfl) (by kernel_rfl) (.ld na3 rfl .head rfl) (.cons (.tail (.tail (.tail (.tail (.tail (.tail (.tail (.tail (.tail (.tail (.tail (.tail (.tail (.tail (.tail (.tail (.tail (.tail (.tail .head))))))))))))))))))) (.cons .head (.cons (.tail (.tail (.tail (.tail (.tail (.tail (.tail (.tail (.tail (.tail (.tail (.tail (.tail (.tail (.tail (.tail (.tail (.tail (.tail .head))))))))))))))))))) (.cons (.tail (.tail (.tail (.tail (.tail .head))))) .nil)))) ?_
            refine .rp 2 rfl (by kernel_rfl) (by kernel_rfl) (by kernel_rfl) (Reads.pure (.eqI rfl rfl)) ?_
            refine .rp 3 rfl (by kernel_rfl) (by kernel_rfl) (by kernel_rfl) (Reads.pure (.move rfl)) ?_
            refine .split (t := 78) rfl (fun g10_3 => ?_) (fun g10_3 => ?_)
            · replace g10_3 := of_decide_eq_true g10_3
              refine .rpG 4 (t := 78) rfl rfl rfl (by kernel_rfl) (by kernel_rfl) (by kernel_rfl) (Reads.pure (.move rfl)) ?_
              refine .rpG 5 (t := 78) rfl rfl rfl (by kernel_rfl) (by kernel_rfl) (by kernel_rfl) (Reads.pure (.nilCheck rfl)) ?_
              refine .rpG 6 (t := 78) rfl rfl rfl (by kernel_rfl) (by kernel_rfl) (by kernel_rfl) (Reads.pure (.fieldAddr fd59_5 rfl)) ?_
              refine .rdG 7 (t := 78) rfl rfl rfl rfl (by kernel_rfl) (by kernel_rfl) (by kernel_rfl) (.ld na51 rfl (.tail .head) rfl) (.cons (.tail (.tail (.tail (.tail (.tail (.tail (.tail (.tail (.tail (.tail (.tail (.tail (.tail (.tail (.tail (.tail (.tail (.tail (.tail .head))))))))))))))))))) (.cons .head (.cons (.tail (.tail (.tail (.tail (.tail (.tail (.tail (.tail (.tail (.tail (.tail (.tail (.tail (.tail (.tail (.tail (.tail (.tail (.tail .head))))))))))))))))))) (.cons (.tail (.tail (.tail (.tail (.tail .head))))) .nil)))) ?_
              refine .rdG 8 (t := 78) rfl rfl rfl rfl (by kernel_rfl) (by kernel_rfl) (by kernel_rfl) (.ldN ia79 ts79 rfl (.tail (.tail .head)) rfl) (.cons (.tail (.tail (.tail (.tail (.tail (.tail (.tail (.tail (.tail (.tail (.tail (.tail (.tail (.tail (.tail (.tail (.tail (.tail (.tail .head))))))))))))))))))) (.cons .head (.cons (.tail (.tail (.tail (.tail (.tail (.tail (.tail (.tail (.tail (.tail (.tail (.tail (.tail (.tail (.tail (.tail (.tail (.tail (.tail .head))))))))))))))))))) (.cons (.tail (.tail (.tail (.tail (.tail .head))))) .nil)))) ?_
              refine .rdG 9 (t := 78) rfl rfl rfl rfl (by kernel_rfl) (by kernel_rfl) (by kernel_rfl) (.lookup (q := (s.part, s.text)) kl79 Try.underlying51 (fun w => ti3.zero w) rfl rfl (.tail (.tail (.tail .head)))) (.cons (.tail (.tail (.tail (.tail (.tail (.tail (.tail (.tail (.tail (.tail (.tail (.tail (.tail (.tail (.tail (.tail (.tail (.tail (.tail .head))))))))))))))))))) (.cons .head (.cons (.tail (.tail (.tail (.tail (.tail (.tail (.tail (.tail (.tail (.tail (.tail (.tail (.tail (.tail (.tail (.tail (.tail (.tail (.tail .head))))))))))))))))))) (.cons (.tail (.tail (.tail (.tail (.tail .head))))) .nil)))) ?_
              refine .alter (t := 84) (v' := .int .i64 (p.sent (s.part, s.text))) rfl (by rw [← hR.sent]; exact getD_map inV _ 0) ?_
              refine .rpG 10 (t := 78) rfl rfl rfl (by kernel_rfl) (by kernel_rfl) (by kernel_rfl) (Reads.pure (.eqI rfl rfl)) ?_
              refine .rp 11 rfl (by kernel_rfl) (by kernel_rfl) (by kernel_rfl) (Reads.pure (.pickT rfl rfl)) ?_
              refine .rp 12 rfl (by kernel_rfl) (by kernel_rfl) (by kernel_rfl) (Reads.pure (.assign rfl)) ?_
              refine .done (by kernel_rfl) ⟨rfl, ?_, by repeat (first | exact Le.refl _ | refine Le.skip rfl ?_)⟩
              exact congrArg (fun x => some (Value.bool x)) (Eq.symm (show badU p s = _ by unfold badU; rw [decide_eq_true (p := s.kind = 1) (by omega)]; rfl))
            · replace g10_3 := of_decide_eq_false g10_3
              refine .off 4 (t := 78) rfl rfl rfl rfl (by kernel_rfl) (by kernel_rfl) (by kernel_rfl) ?_
              refine .off 5 (t := 78) rfl rfl rfl rfl (by kernel_rfl) (by kernel_rfl) (by kernel_rfl) ?_
              refine .off 6 (t := 78) rfl rfl rfl rfl (by kernel_rfl) (by kernel_rfl) (by kernel_rfl) ?_
              refine .off 7 (t := 78) rfl rfl rfl rfl (by kernel_rfl) (by kernel_rfl) (by kernel_rfl) ?_
              refine .off 8 (t := 78) rfl rfl rfl rfl (by kernel_rfl) (by kernel_rfl) (by kernel_rfl) ?_
              refine .off 9 (t := 78) rfl rfl rfl rfl (by kernel_rfl) (by kernel_rfl) (by kernel_rfl) ?_
              refine .off 10 (t := 78) rfl rfl rfl rfl (by kernel_rfl) (by kernel_rfl) (by kernel_rfl) ?_
              refine .rp 11 rfl (by kernel_rfl) (by kernel_rfl) (by kernel_rfl) (Reads.pure (.pickF rfl rfl)) ?_
              refine .rp 12 rfl (by kernel_rfl) (by kernel_rfl) (by kernel_rfl) (Reads.pure (.assign rfl)) ?_
              refine .done (by kernel_rfl) ⟨rfl, ?_, by repeat (first | exact Le.refl _ | refine Le.skip rfl ?_)⟩
              exact congrArg (fun x => some (Value.bool x)) (Eq.symm (show badU p s = _ by unfold badU; rw [decide_eq_false (p := s.kind = 1) (by omega)]; rfl))
          refine .cond rfl (fun h10 => ?_) (fun h10 => ?_)
          · refine .seq ?_
            refine .region ?_   -- R11 model.go:127
            refine .rd (.assign rfl) ?_
            refine .nil ?_
            refine .close (X := chk c p n) (B := chkL c S b) (.cons .head (.cons .head (.cons .head (.cons .head (.cons .head (.cons .head (.cons .head (.cons .head (.cons .head (.cons .head (.cons .head (.cons .head (.cons .head (.cons .head (.cons .head (.cons .head (.cons .head (.cons .head (.cons .head .nil))))))))))))))))))) (chk_close (hR)) ?_
            have hv : recordsP p s fr = wUnsent := by unfold recordsP; rw [if_neg (fun e => by rw [(badV_iff p s).2 e] at h6; cases h6), if_neg (fun e => by rw [(badO_iff p s).2 e] at h8; cases h8), if_pos ((badU_iff p s).1 h10)]
            rw [hv]
            refine .retP Try.func18 (.cons (.tmp rfl) .nil) (.cons .head (.cons (.tail (.tail (.tail .head))) .nil)) ?_
            exact ⟨[_], ⟨rfl, rfl⟩, rfl⟩
          · refine .seq ?_
            refine .draws [4, 5, 6] [blk c b.cells 59, blk b8 [.int .i64 s.part, .string (str s.text)] 79, mp encL inV b.m5 S.sent] (by kernel_rfl) ?_   -- R12 model.go:128
            refine .rp 0 rfl (by kernel_rfl) (by kernel_rfl) (by kernel_rfl) (Reads.pure (.move rfl)) ?_
            refine .rp 1 rfl (by kernel_rfl) (by kernel_rfl) (by kernel_rfl) (Reads.pure (.move rfl)) ?_
            refine .rp 2 rfl (by kernel_rfl) (by kernel_rfl) (by kernel_rfl) (Reads.pure (.nilCheck rfl)) ?_
            refine .rp 3 rfl (by kernel_rfl) (by kernel_rfl) (by kernel_rfl) (Reads.pure (.fieldAddr fd59_5 rfl)) ?_
            refine .rd 4 rfl rfl (by kernel_rfl) (by kernel_rfl) (by kernel_rfl) (.ld na51 rfl .head rfl) (.cons .head (.cons (.tail (.tail (.tail (.tail (.tail (.tail (.tail (.tail (.tail (.tail (.tail (.tail (.tail (.tail (.tail (.tail (.tail (.tail (.tail (.tail .head)))))))))))))))))))) (.cons (.tail (.tail (.tail (.tail (.tail .head))))) .nil))) ?_
            refine .rd 5 rfl rfl (by kernel_rfl) (by kernel_rfl) (by kernel_rfl) (.ldN ia79 ts79 rfl (.tail .head) rfl) (.cons .head (.cons (.tail (.tail (.tail (.tail (.tail (.tail (.tail (.tail (.tail (.tail (.tail (.tail (.tail (.tail (.tail (.tail (.tail (.tail (.tail (.tail .head)))))))))))))))))))) (.cons (.tail (.tail (.tail (.tail (.tail .head))))) .nil))) ?_
            refine .rd 6 rfl rfl (by kernel_rfl) (by kernel_rfl) (by kernel_rfl) (.lookup (q := (s.part, s.text)) kl79 Try.underlying51 (fun w => ti3.zero w) rfl rfl (.tail (.tail .head))) (.cons .head (.cons (.tail (.tail (.tail (.tail (.tail (.tail (.tail (.tail (.tail (.tail (.tail (.tail (.tail (.tail (.tail (.tail (.tail (.tail (.tail (.tail .head)))))))))))))))))))) (.cons (.tail (.tail (.tail (.tail (.tail .head))))) .nil))) ?_
            refine .alter (t := 94) (v' := .int .i64 (p.sent (s.part, s.text))) rfl (by rw [← hR.sent]; exact getD_map inV _ 0) ?_
            refine .rp 7 rfl (by kernel_rfl) (by kernel_rfl) (by kernel_rfl) (Reads.pure (.gt rfl rfl)) ?_
            refine .rp 8 rfl (by kernel_rfl) (by kernel_rfl) (by kernel_rfl) (Reads.pure (.assign rfl)) ?_
            refine .done (by kernel_rfl) ?_
            refine .condP rfl (fun h12 => ?_) (fun h12 => ?_)
            · refine .seq ?_
              refine .region ?_   -- R13 model.go:129
              refine .rd (.assign rfl) ?_
              refine .nil ?_
              refine .close (X := chk c p n) (B := chkL c S b) (.cons .head (.cons .head (.cons .head (.cons .head (.cons .head (.cons .head (.cons .head (.cons .head (.cons .head (.cons .head (.cons .head (.cons .head (.cons .head (.cons .head (.cons .head (.cons .head (.cons .head (.cons .head (.cons .head .nil))))))))))))))))))) (chk_close (hR)) ?_
              have hv : recordsP p s fr = wTwice := by unfold recordsP; rw [if_neg (fun e => by rw [(badV_iff p s).2 e] at h6; cases h6), if_neg (fun e => by rw [(badO_iff p s).2 e] at h8; cases h8), if_neg (fun e => by rw [(badU_iff p s).2 e] at h10; cases h10), if_pos (by omega)]
              rw [hv]
              refine .retP Try.func18 (.cons (.tmp rfl) .nil) (.cons .head (.cons (.tail (.tail (.tail .head))) .nil)) ?_
              exact ⟨[_], ⟨rfl, rfl⟩, rfl⟩
            · refine .skip ?_
              refine .inBlock ?_
              refine .seq ?_
              refine .seq ?_
              refine .region ?_   -- R14 model.go:131
              refine .rd (.fieldAddr fd36_2 rfl) ?_
              refine .rd (.ld na3 rfl (.tail (.tail (.tail (.tail (.tail (.tail (.tail (.tail (.tail (.tail (.tail (.tail (.tail (.tail (.tail (.tail (.tail (.tail (.tail .head))))))))))))))))))) rfl) ?_
              refine .rd (.eqI rfl rfl) ?_
              refine .nil ?_
              refine .condP rfl (fun h14 => ?_) (fun h14 => ?_)
              · refine .seq ?_
                refine .seq ?_
                have hl2 := hR.sends (s.part, s.pid, s.pidEpoch)
                have hln := hR.sendsN (s.part, s.pid, s.pidEpoch)
                have hrow2 : Knows [bag (rowsOf 36 12 Sn.cells) S.sends] (RowAt ((mget S.sends (s.part, s.pid, s.pidEpoch)).getD row0).1 (((mget S.sends (s.part, s.pid, s.pidEpoch)).getD row0).2.2.flatMap Sn.cells)) := Knows.row .head
                obtain ⟨r2, hr2⟩ : ∃ r, (mget S.sends (s.part, s.pid, s.pidEpoch)).getD row0 = r := ⟨_, rfl⟩
                rw [hr2] at hl2 hrow2
                obtain ⟨qa, qc, ql⟩ := r2
                dsimp only at hl2 hrow2
                rw [← hl2] at hln
                refine .draws [3, 5, 7, 9, 11] [blk c b.cells 59, blk b4 s.cells 36, mp enc3 rowV b.m7 S.sends] (by kernel_rfl) ?_   -- R15 model.go:132
                refine .rp 0 rfl (by kernel_rfl) (by kernel_rfl) (by kernel_rfl) (Reads.pure (.move rfl)) ?_
                refine .rp 1 rfl (by kernel_rfl) (by kernel_rfl) (by kernel_rfl) (Reads.pure (.nilCheck rfl)) ?_
                refine .rp 2 rfl (by kernel_rfl) (by kernel_rfl) (by kernel_rfl) (Reads.pure (.fieldAddr fd59_7 rfl)) ?_
                refine .rd 3 rfl rfl (by kernel_rfl) (by kernel_rfl) (by kernel_rfl) (.ld na53 rfl .head rfl) (.cons .head (.cons (.tail (.tail (.tail (.tail (.tail (.tail (.tail (.tail (.tail (.tail (.tail (.tail (.tail (.tail (.tail (.tail (.tail (.tail .head)))))))))))))))))) (.cons (.tail (.tail (.tail (.tail (.tail (.tail (.tail .head))))))) .nil))) ?_
                refine .rp 4 rfl (by kernel_rfl) (by kernel_rfl) (by kernel_rfl) (Reads.pure (.fieldAddr fd36_3 rfl)) ?_
                refine .rd 5 rfl rfl (by kernel_rfl) (by kernel_rfl) (by kernel_rfl) (.ld na3 rfl (.tail .head) rfl) (.cons .head (.cons (.tail (.tail (.tail (.tail (.tail (.tail (.tail (.tail (.tail (.tail (.tail (.tail (.tail (.tail (.tail (.tail (.tail (.tail .head)))))))))))))))))) (.cons (.tail (.tail (.tail (.tail (.tail (.tail (.tail .head))))))) .nil))) ?_
                refine .rp 6 rfl (by kernel_rfl) (by kernel_rfl) (by kernel_rfl) (Reads.pure (.fieldAddr fd36_5 rfl)) ?_
                refine .rd 7 rfl rfl (by kernel_rfl) (by kernel_rfl) (by kernel_rfl) (.ld na3 rfl (.tail .head) rfl) (.cons .head (.cons (.tail (.tail (.tail (.tail (.tail (.tail (.tail (.tail (.tail (.tail (.tail (.tail (.tail (.tail (.tail (.tail (.tail (.tail .head)))))))))))))))))) (.cons (.tail (.tail (.tail (.tail (.tail (.tail (.tail .head))))))) .nil))) ?_
                refine .rp 8 rfl (by kernel_rfl) (by kernel_rfl) (by kernel_rfl) (Reads.pure (.fieldAddr fd36_6 rfl)) ?_
                refine .rd 9 rfl rfl (by kernel_rfl) (by kernel_rfl) (by kernel_rfl) (.ld na3 rfl (.tail .head) rfl) (.cons .head (.cons (.tail (.tail (.tail (.tail (.tail (.tail (.tail (.tail (.tail (.tail (.tail (.tail (.tail (.tail (.tail (.tail (.tail (.tail .head)))))))))))))))))) (.cons (.tail (.tail (.tail (.tail (.tail (.tail (.tail .head))))))) .nil))) ?_
                refine .rp 10 rfl (by kernel_rfl) (by kernel_rfl) (by kernel_rfl) (Reads.pure (.build rfl (bld86_0_1_2 _ _ _))) ?_
                refine .rd 11 rfl rfl (by kernel_rfl) (by kernel_rfl) (by kernel_rfl) (.lookup (q := (s.part, s.pid, s.pidEpoch)) kl86 Try.underlying53 (fun w => ti22.zero w) rfl rfl (.tail (.tail .head))) (.cons .head (.cons (.tail (.tail (.tail (.tail (.tail (.tail (.tail (.tail (.tail (.tail (.tail (.tail (.tail (.tail (.tail (.tail (.tail (.tail .head)))))))))))))))))) (.cons (.tail (.tail (.tail (.tail (.tail (.tail (.tail .head))))))) .nil))) ?_
                refine .alter (t := 110) (v' := rowV (qa, qc, ql)) rfl (by rw [← hr2]; exact getD_map rowV _ row0) ?_
                refine .rp 12 rfl (by kernel_rfl) (by kernel_rfl) (by kernel_rfl) (Reads.pure (.lenL rfl rfl Try.underlying22 rfl)) ?_
                refine .rp 13 rfl (by kernel_rfl) (by kernel_rfl) (by kernel_rfl) (Reads.pure (.move rfl)) ?_
                refine .done (by kernel_rfl) ?_
                refine .block ?_
                refine .loop (σ := Nat) (fun i => i ≤ ql.length ∧ ∀ y ∈ ql.take i, offOrder s y = false) (fun i => ql.length - i) (fun i => [(4, .pointer (some ⟨b4, 0, none⟩)), (110, .slice qa ql.length qc), (111, .int .i64 ql.length), (112, .int .i64 (i : Nat))]) (fun i => [blk c b.cells 59, mp encI inV b.m0 S.calls, mp encI askV b.m1 S.kinds, mp encI Value.bool b.m2 S.done, mp encI txV b.m3 S.values, mp encI Value.bool b.m4 S.acked, mp encL inV b.m5 S.sent, mp encL rowV b.m6 S.offsets, mp enc3 rowV b.m7 S.sends, mp encN rowV b.m8 S.deletes, mp encS rowV b.m9 S.gens, mp encP rowV b.m10 S.commits, mp encI ptrV b.m11 S.opened, bag (rowsOf 3 1 icell) S.offsets, bag (rowsOf 36 12 Sn.cells) S.sends, bag (rowsOf 76 2 Mark.cells) S.deletes, bag (rowsOf 76 2 Mark.cells) S.gens, bag (rowsOf 80 1 pcell) S.commits, bag spanOf S.spans, blk b4 s.cells 36, R]) 0 ⟨Nat.zero_le _, by simp⟩ (.cons rfl (.cons rfl (.cons rfl (.cons rfl .nil)))) (.cons .head (.cons .head (.cons .head (.cons .head (.cons .head (.cons .head (.cons .head (.cons .head (.cons .head (.cons .head (.cons .head (.cons .head (.cons .head (.cons .head (.cons .head (.cons .head (.cons .head (.cons .head (.cons .head (.cons .head (.cons (.tail (.tail .head)) .nil))))))))))))))))))))) (fun i hI ih => ?_)
                have hil := hI.1
                refine .seq ?_
                refine .region ?_   -- R16 model.go:132
                refine .rd (.lt rfl rfl) ?_
                refine .nil ?_
                refine .seq ?_
                refine .condP rfl (fun h16 => ?_) (fun h16 => ?_)
                · refine .skip ?_
                  refine .seq ?_
                  refine .block ?_
                  refine .seq ?_
                  obtain ⟨y, hy⟩ : ∃ y, ql[i]? = some y := ⟨_, List.getElem?_eq_getElem (by omega)⟩
                  refine .tell (φ := ∃ b o, qa = some ⟨b, o, none⟩) (Knows.pick (.tail (.tail (.tail (.tail (.tail (.tail (.tail (.tail (.tail (.tail (.tail (.tail (.tail (.tail .head)))))))))))))) (hrow2.mono fun _ h => RowAt.addr h (by rw [flat_length Sn.cells_len]; omega))) (fun hh => ?_)
                  obtain ⟨bb, oo, rfl⟩ := hh
                  refine .region ?_   -- R17 model.go:132
                  refine .rd (.indexAddr Try.underlying22 ts36 rfl rfl (by omega) (by omega)) ?_
                  refine .rd (.loadN ia36 ts36 rfl rfl (Knows.elem (f := Sn.cells) Sn.cells_len (by decide) (Knows.pick (.tail (.tail (.tail (.tail (.tail (.tail (.tail (.tail (.tail (.tail (.tail (.tail (.tail (.tail .head)))))))))))))) hrow2) hy)) ?_
                  refine .ef (.alloc ti36 rfl (ones.of rfl)) ?_
                  rintro _ _ ⟨b13, rfl, rfl⟩
                  refine .ef0 (.storeAll (vs := y.cells) ts36 rfl rfl rfl .head rfl (ones.of rfl)) ?_
                  rintro _ _ rfl
                  refine .nil ?_
                  refine .seq ?_
                  refine .region ?_   -- R18 model.go:133
                  refine RunO.join 25 140 (offOrder s y) ?_ ?_
                  · refine .rd (.fieldAddr fd36_7 rfl) ?_
                    refine .rd (.ld na3 rfl .head rfl) ?_
                    refine .rd (.fieldAddr fd36_7 rfl) ?_
                    refine .rd (.ld na3 rfl (.tail (.tail (.tail (.tail (.tail (.tail (.tail (.tail (.tail (.tail (.tail (.tail (.tail (.tail (.tail (.tail (.tail (.tail (.tail (.tail .head)))))))))))))))))))) rfl) ?_
                    refine .rd (.eqI rfl rfl) ?_
                    refine .rd (.move rfl) ?_
                    refine .split (t := 121) rfl (fun g18_5 => ?_) (fun g18_5 => ?_)
                    · replace g18_5 := of_decide_eq_true g18_5
                      refine .off (t := 121) rfl rfl rfl ?_
                      refine .off (t := 121) rfl rfl rfl ?_
                      refine .off (t := 121) rfl rfl rfl ?_
                      refine .off (t := 121) rfl rfl rfl ?_
                      refine .off (t := 121) rfl rfl rfl ?_
                      refine .off (t := 121) rfl rfl rfl ?_
                      refine .off (t := 121) rfl rfl rfl ?_
                      refine .off (t := 121) rfl rfl rfl ?_
                      refine .off (t := 121) rfl rfl rfl ?_
                      refine .off (t := 121) rfl rfl rfl ?_
                      refine .off (t := 121) rfl rfl rfl ?_
                      refine .rd (.pickT rfl rfl) ?_
                      refine .rd (.move rfl) ?_
                      refine .off (t := 134) rfl rfl rfl ?_
                      refine .off (t := 134) rfl rfl rfl ?_
                      refine .off (t := 134) rfl rfl rfl ?_
                      refine .off (t := 134) rfl rfl rfl ?_
                      refine .off (t := 134) rfl rfl rfl ?_
                      refine .rd (.pickT rfl rfl) ?_
                      refine .nil ⟨rfl, ?_, by repeat (first | exact Le.refl _ | refine Le.skip rfl ?_)⟩
                      exact congrArg (fun x => some (Value.bool x)) (Eq.symm (show offOrder s y = _ by unfold offOrder; rw [decide_eq_true (p := y.seq = s.seq) (by omega)]; rfl))
                    · replace g18_5 := of_decide_eq_false g18_5
                      refine .on (t := 121) rfl rfl ?_
                      refine .rd (.fieldAddr fd36_7 rfl) ?_
                      refine .on (t := 121) rfl rfl ?_
                      refine .rd (.ld na3 rfl .head rfl) ?_
                      refine .on (t := 121) rfl rfl ?_
                      refine .rd (.fieldAddr fd36_7 rfl) ?_
                      refine .on (t := 121) rfl rfl ?_
                      refine .rd (.ld na3 rfl (.tail (.tail (.tail (.tail (.tail (.tail (.tail (.tail (.tail (.tail (.tail (.tail (.tail (.tail (.tail (.tail (.tail (.tail (.tail (.tail .head)))))))))))))))))))) rfl) ?_
                      refine .on (t := 121) rfl rfl ?_
                      refine .rd (.lt rfl rfl) ?_
                      refine .on (t := 121) rfl rfl ?_
                      refine .rd (.fieldAddr fd36_4 rfl) ?_
                      refine .on (t := 121) rfl rfl ?_
                      refine .rd (.ld na3 rfl .head rfl) ?_
                      refine .on (t := 121) rfl rfl ?_
                      refine .rd (.fieldAddr fd36_4 rfl) ?_
                      refine .on (t := 121) rfl rfl ?_
                      refine .rd (.ld na3 rfl (.tail (.tail (.tail (.tail (.tail (.tail (.tail (.tail (.tail (.tail (.tail (.tail (.tail (.tail (.tail (.tail (.tail (.tail (.tail (.tail .head)))))))))))))))))))) rfl) ?_
                      refine .on (t := 121) rfl rfl ?_
                      refine .rd (.lt rfl rfl) ?_
                      refine .on (t := 121) rfl rfl ?_
                      refine .rd (.neB Try.underlying4 rfl rfl) ?_
                      refine .rd (.pickF rfl rfl) ?_
                      refine .rd (.move rfl) ?_
                      refine .split (t := 134) rfl (fun g18_18 => ?_) (fun g18_18 => ?_)
                      · refine .off (t := 134) rfl rfl rfl ?_
                        refine .off (t := 134) rfl rfl rfl ?_
                        refine .off (t := 134) rfl rfl rfl ?_
                        refine .off (t := 134) rfl rfl rfl ?_
                        refine .off (t := 134) rfl rfl rfl ?_
                        refine .rd (.pickT rfl rfl) ?_
                        refine .nil ⟨rfl, ?_, by repeat (first | exact Le.refl _ | refine Le.skip rfl ?_)⟩
                        exact congrArg (fun x => some (Value.bool x)) (Eq.symm (show offOrder s y = _ by unfold offOrder; rw [decide_eq_true (p := decide (y.seq < s.seq) ≠ decide (y.offset < s.offset)) (by simpa using g18_18)]; simp))
                      · refine .on (t := 134) rfl rfl ?_
                        refine .rd (.fieldAddr fd36_4 rfl) ?_
                        refine .on (t := 134) rfl rfl ?_
                        refine .rd (.ld na3 rfl .head rfl) ?_
                        refine .on (t := 134) rfl rfl ?_
                        refine .rd (.fieldAddr fd36_4 rfl) ?_
                        refine .on (t := 134) rfl rfl ?_
                        refine .rd (.ld na3 rfl (.tail (.tail (.tail (.tail (.tail (.tail (.tail (.tail (.tail (.tail (.tail (.tail (.tail (.tail (.tail (.tail (.tail (.tail (.tail (.tail .head)))))))))))))))))))) rfl) ?_
                        refine .on (t := 134) rfl rfl ?_
                        refine .rd (.eqI rfl rfl) ?_
                        refine .rd (.pickF rfl rfl) ?_
                        refine .nil ⟨rfl, ?_, by repeat (first | exact Le.refl _ | refine Le.skip rfl ?_)⟩
                        exact congrArg (fun x => some (Value.bool x)) (Eq.symm (show offOrder s y = _ by unfold offOrder; rw [decide_eq_false (p := y.seq = s.seq) (by omega), decide_eq_false (p := decide (y.seq < s.seq) ≠ decide (y.offset < s.offset)) (by simpa using g18_18)]; rfl))
                  refine .nil ?_
                  refine .cond rfl (fun h18 => ?_) (fun h18 => ?_)
                  · refine .seq ?_
                    refine .region ?_   -- R19 model.go:134
                    refine .rd (.assign rfl) ?_
                    refine .nil ?_
                    refine .close (X := chk c p n) (B := chkL c S b) (.cons (.tail .head) (.cons (.tail .head) (.cons (.tail .head) (.cons (.tail .head) (.cons (.tail .head) (.cons (.tail .head) (.cons (.tail .head) (.cons (.tail .head) (.cons (.tail .head) (.cons (.tail .head) (.cons (.tail .head) (.cons (.tail .head) (.cons (.tail .head) (.cons (.tail .head) (.cons (.tail .head) (.cons (.tail .head) (.cons (.tail .head) (.cons (.tail .head) (.cons (.tail .head) .nil))))))))))))))))))) (chk_close (hR)) ?_
                    have hv : recordsP p s fr = wOrder := by unfold recordsP; rw [if_neg (fun e => by rw [(badV_iff p s).2 e] at h6; cases h6), if_neg (fun e => by rw [(badO_iff p s).2 e] at h8; cases h8), if_neg (fun e => by rw [(badU_iff p s).2 e] at h10; cases h10), if_neg (by omega), if_pos (by omega), if_pos (by rw [← hl2]; exact List.any_eq_true.2 ⟨y, List.mem_of_getElem? hy, h18⟩)]
                    rw [hv]
                    refine .retP Try.func18 (.cons (.tmp rfl) .nil) (.cons .head (.cons (.tail (.tail .head)) .nil)) ?_
                    exact ⟨[_], ⟨rfl, rfl⟩, rfl⟩
                  · refine .skip ?_
                    refine .inBlock ?_
                    refine .region ?_   -- R20 model.go:132
                    refine .rd (.add rfl rfl (by omega) (by omega)) ?_
                    refine .rd (.move rfl) ?_
                    refine .nil ?_
                    exact (ih (i + 1) ⟨by omega, all_take (p := fun y => offOrder s y = false) hy h18 hI.2⟩ (by omega)).to (.cons rfl (.cons rfl (.cons rfl (.cons rfl .nil)))) (.cons (.tail .head) (.cons (.tail .head) (.cons (.tail .head) (.cons (.tail .head) (.cons (.tail .head) (.cons (.tail .head) (.cons (.tail .head) (.cons (.tail .head) (.cons (.tail .head) (.cons (.tail .head) (.cons (.tail .head) (.cons (.tail .head) (.cons (.tail .head) (.cons (.tail .head) (.cons (.tail .head) (.cons (.tail .head) (.cons (.tail .head) (.cons (.tail .head) (.cons (.tail .head) (.cons (.tail .head) (.cons (.tail .head) .nil)))))))))))))))))))))
                · have hall : ∀ y ∈ ql, offOrder s y = false := fun y hy => hI.2 y (by rw [List.take_of_length_le (by omega)]; exact hy)
                  refine .exit rfl ?_
                  refine .seq ?_
                  refine .region ?_   -- R21 model.go:137
                  refine .rd (.assign rfl) ?_
                  refine .nil ?_
                  refine .close (X := chk c p n) (B := chkL c S b) (.cons .head (.cons .head (.cons .head (.cons .head (.cons .head (.cons .head (.cons .head (.cons .head (.cons .head (.cons .head (.cons .head (.cons .head (.cons .head (.cons .head (.cons .head (.cons .head (.cons .head (.cons .head (.cons .head .nil))))))))))))))))))) (chk_close (hR)) ?_
                  have hv : recordsP p s fr = [] := by unfold recordsP; rw [if_neg (fun e => by rw [(badV_iff p s).2 e] at h6; cases h6), if_neg (fun e => by rw [(badO_iff p s).2 e] at h8; cases h8), if_neg (fun e => by rw [(badU_iff p s).2 e] at h10; cases h10), if_neg (by omega), if_pos (by omega), if_neg (by rw [← hl2]; simpa using hall)]
                  rw [hv]
                  refine .retP Try.func18 (.cons (.tmp rfl) .nil) (.cons .head (.cons (.tail .head) .nil)) ?_
                  exact ⟨[_], ⟨rfl, rfl⟩, rfl⟩
              · refine .skip ?_
                refine .seq ?_
                refine .seq ?_
                have hl2 := hR.deletes s.part
                have hln := hR.deletesN s.part
                have hrow2 : Knows [bag (rowsOf 76 2 Mark.cells) S.deletes] (RowAt ((mget S.deletes s.part).getD row0).1 (((mget S.deletes s.part).getD row0).2.2.flatMap Mark.cells)) := Knows.row .head
                obtain ⟨r2, hr2⟩ : ∃ r, (mget S.deletes s.part).getD row0 = r := ⟨_, rfl⟩
                rw [hr2] at hl2 hrow2
                obtain ⟨qa, qc, ql⟩ := r2
                dsimp only at hl2 hrow2
                rw [← hl2] at hln
                refine .draws [3, 5, 6] [blk c b.cells 59, blk b4 s.cells 36, mp encN rowV b.m8 S.deletes] (by kernel_rfl) ?_   -- R22 model.go:139
                refine .rp 0 rfl (by kernel_rfl) (by kernel_rfl) (by kernel_rfl) (Reads.pure (.move rfl)) ?_
                refine .rp 1 rfl (by kernel_rfl) (by kernel_rfl) (by kernel_rfl) (Reads.pure (.nilCheck rfl)) ?_
                refine .rp 2 rfl (by kernel_rfl) (by kernel_rfl) (by kernel_rfl) (Reads.pure (.fieldAddr fd59_8 rfl)) ?_
                refine .rd 3 rfl rfl (by kernel_rfl) (by kernel_rfl) (by kernel_rfl) (.ld na54 rfl .head rfl) (.cons .head (.cons (.tail (.tail (.tail (.tail (.tail (.tail (.tail (.tail (.tail (.tail (.tail (.tail (.tail (.tail (.tail (.tail (.tail (.tail .head)))))))))))))))))) (.cons (.tail (.tail (.tail (.tail (.tail (.tail (.tail (.tail .head)))))))) .nil))) ?_
                refine .rp 4 rfl (by kernel_rfl) (by kernel_rfl) (by kernel_rfl) (Reads.pure (.fieldAddr fd36_3 rfl)) ?_
                refine .rd 5 rfl rfl (by kernel_rfl) (by kernel_rfl) (by kernel_rfl) (.ld na3 rfl (.tail .head) rfl) (.cons .head (.cons (.tail (.tail (.tail (.tail (.tail (.tail (.tail (.tail (.tail (.tail (.tail (.tail (.tail (.tail (.tail (.tail (.tail (.tail .head)))))))))))))))))) (.cons (.tail (.tail (.tail (.tail (.tail (.tail (.tail (.tail .head)))))))) .nil))) ?_
                refine .rd 6 rfl rfl (by kernel_rfl) (by kernel_rfl) (by kernel_rfl) (.lookup (q := s.part) kl3 Try.underlying54 (fun w => ti74.zero w) rfl rfl (.tail (.tail .head))) (.cons .head (.cons (.tail (.tail (.tail (.tail (.tail (.tail (.tail (.tail (.tail (.tail (.tail (.tail (.tail (.tail (.tail (.tail (.tail (.tail .head)))))))))))))))))) (.cons (.tail (.tail (.tail (.tail (.tail (.tail (.tail (.tail .head)))))))) .nil))) ?_
                refine .alter (t := 148) (v' := rowV (qa, qc, ql)) rfl (by rw [← hr2]; exact getD_map rowV _ row0) ?_
                refine .rp 7 rfl (by kernel_rfl) (by kernel_rfl) (by kernel_rfl) (Reads.pure (.lenL rfl rfl Try.underlying74 rfl)) ?_
                refine .rp 8 rfl (by kernel_rfl) (by kernel_rfl) (by kernel_rfl) (Reads.pure (.move rfl)) ?_
                refine .done (by kernel_rfl) ?_
                refine .block ?_
                refine .loop (σ := Nat) (fun i => i ≤ ql.length ∧ ∀ y ∈ ql.take i, laterM fr s.offset y = false) (fun i => ql.length - i) (fun i => [(2, .int .i64 fr), (4, .pointer (some ⟨b4, 0, none⟩)), (148, .slice qa ql.length qc), (149, .int .i64 ql.length), (150, .int .i64 (i : Nat))]) (fun i => [blk c b.cells 59, mp encI inV b.m0 S.calls, mp encI askV b.m1 S.kinds, mp encI Value.bool b.m2 S.done, mp encI txV b.m3 S.values, mp encI Value.bool b.m4 S.acked, mp encL inV b.m5 S.sent, mp encL rowV b.m6 S.offsets, mp enc3 rowV b.m7 S.sends, mp encN rowV b.m8 S.deletes, mp encS rowV b.m9 S.gens, mp encP rowV b.m10 S.commits, mp encI ptrV b.m11 S.opened, bag (rowsOf 3 1 icell) S.offsets, bag (rowsOf 36 12 Sn.cells) S.sends, bag (rowsOf 76 2 Mark.cells) S.deletes, bag (rowsOf 76 2 Mark.cells) S.gens, bag (rowsOf 80 1 pcell) S.commits, bag spanOf S.spans, blk b4 s.cells 36, R]) 0 ⟨Nat.zero_le _, by simp⟩ (.cons rfl (.cons rfl (.cons rfl (.cons rfl (.cons rfl .nil))))) (.cons .head (.cons .head (.cons .head (.cons .head (.cons .head (.cons .head (.cons .head (.cons .head (.cons .head (.cons .head (.cons .head (.cons .head (.cons .head (.cons .head (.cons .head (.cons .head (.cons .head (.cons .head (.cons .head (.cons .head (.cons (.tail (.tail .head)) .nil))))))))))))))))))))) (fun i hI ih => ?_)
                have hil := hI.1
                refine .seq ?_
                refine .region ?_   -- R23 model.go:139
                refine .rd (.lt rfl rfl) ?_
                refine .nil ?_
                refine .seq ?_
                refine .condP rfl (fun h23 => ?_) (fun h23 => ?_)
                · refine .skip ?_
                  refine .seq ?_
                  refine .block ?_
                  refine .seq ?_
                  obtain ⟨y, hy⟩ : ∃ y, ql[i]? = some y := ⟨_, List.getElem?_eq_getElem (by omega)⟩
                  refine .tell (φ := ∃ b o, qa = some ⟨b, o, none⟩) (Knows.pick (.tail (.tail (.tail (.tail (.tail (.tail (.tail (.tail (.tail (.tail (.tail (.tail (.tail (.tail (.tail .head))))))))))))))) (hrow2.mono fun _ h => RowAt.addr h (by rw [flat_length Mark.cells_len]; omega))) (fun hh => ?_)
                  obtain ⟨bb, oo, rfl⟩ := hh
                  refine .region ?_   -- R24 model.go:139
                  refine .rd (.indexAddr Try.underlying74 ts76 rfl rfl (by omega) (by omega)) ?_
                  refine .rd (.loadN ia76 ts76 rfl rfl (Knows.elem (f := Mark.cells) Mark.cells_len (by decide) (Knows.pick (.tail (.tail (.tail (.tail (.tail (.tail (.tail (.tail (.tail (.tail (.tail (.tail (.tail (.tail (.tail .head))))))))))))))) hrow2) hy)) ?_
                  refine .ef (.alloc ti76 rfl (ones.of rfl)) ?_
                  rintro _ _ ⟨b15, rfl, rfl⟩
                  refine .ef0 (.storeAll (vs := y.cells) ts76 rfl rfl rfl .head rfl (ones.of rfl)) ?_
                  rintro _ _ rfl
                  refine .nil ?_
                  refine .seq ?_
                  refine .region ?_   -- R25 model.go:140
                  refine RunO.join 11 164 (laterM fr s.offset y) ?_ ?_
                  · refine .rd (.fieldAddr fd76_0 rfl) ?_
                    refine .rd (.ld na3 rfl .head rfl) ?_
                    refine .rd (.move rfl) ?_
                    refine .rd (.lt rfl rfl) ?_
                    refine .rd (.move rfl) ?_
                    refine .split (t := 158) rfl (fun g25_4 => ?_) (fun g25_4 => ?_)
                    · replace g25_4 := of_decide_eq_true g25_4
                      refine .on (t := 158) rfl rfl ?_
                      refine .rd (.fieldAddr fd76_1 rfl) ?_
                      refine .on (t := 158) rfl rfl ?_
                      refine .rd (.ld na3 rfl .head rfl) ?_
                      refine .on (t := 158) rfl rfl ?_
                      refine .rd (.fieldAddr fd36_4 rfl) ?_
                      refine .on (t := 158) rfl rfl ?_
                      refine .rd (.ld na3 rfl (.tail (.tail (.tail (.tail (.tail (.tail (.tail (.tail (.tail (.tail (.tail (.tail (.tail (.tail (.tail (.tail (.tail (.tail (.tail (.tail .head)))))))))))))))))))) rfl) ?_
                      refine .on (t := 158) rfl rfl ?_
                      refine .rd (.gt rfl rfl) ?_
                      refine .rd (.pickT rfl rfl) ?_
                      refine .nil ⟨rfl, ?_, by repeat (first | exact Le.refl _ | refine Le.skip rfl ?_)⟩
                      exact congrArg (fun x => some (Value.bool x)) (Eq.symm (show laterM fr s.offset y = _ by unfold laterM; rw [decide_eq_true (p := y.at_ < fr) (by omega)]; rfl))
                    · replace g25_4 := of_decide_eq_false g25_4
                      refine .off (t := 158) rfl rfl rfl ?_
                      refine .off (t := 158) rfl rfl rfl ?_
                      refine .off (t := 158) rfl rfl rfl ?_
                      refine .off (t := 158) rfl rfl rfl ?_
                      refine .off (t := 158) rfl rfl rfl ?_
                      refine .rd (.pickF rfl rfl) ?_
                      refine .nil ⟨rfl, ?_, by repeat (first | exact Le.refl _ | refine Le.skip rfl ?_)⟩
                      exact congrArg (fun x => some (Value.bool x)) (Eq.symm (show laterM fr s.offset y = _ by unfold laterM; rw [decide_eq_false (p := y.at_ < fr) (by omega)]; rfl))
                  refine .nil ?_
                  refine .cond rfl (fun h25 => ?_) (fun h25 => ?_)
                  · refine .seq ?_
                    refine .region ?_   -- R26 model.go:141
                    refine .rd (.assign rfl) ?_
                    refine .nil ?_
                    refine .close (X := chk c p n) (B := chkL c S b) (.cons (.tail .head) (.cons (.tail .head) (.cons (.tail .head) (.cons (.tail .head) (.cons (.tail .head) (.cons (.tail .head) (.cons (.tail .head) (.cons (.tail .head) (.cons (.tail .head) (.cons (.tail .head) (.cons (.tail .head) (.cons (.tail .head) (.cons (.tail .head) (.cons (.tail .head) (.cons (.tail .head) (.cons (.tail .head) (.cons (.tail .head) (.cons (.tail .head) (.cons (.tail .head) .nil))))))))))))))))))) (chk_close (hR)) ?_
                    have hv : recordsP p s fr = wDeleted := by unfold recordsP; rw [if_neg (fun e => by rw [(badV_iff p s).2 e] at h6; cases h6), if_neg (fun e => by rw [(badO_iff p s).2 e] at h8; cases h8), if_neg (fun e => by rw [(badU_iff p s).2 e] at h10; cases h10), if_neg (by omega), if_neg (by omega), if_pos (by rw [← hl2]; exact List.any_eq_true.2 ⟨y, List.mem_of_getElem? hy, h25⟩)]
                    rw [hv]
                    refine .retP Try.func18 (.cons (.tmp rfl) .nil) (.cons .head (.cons (.tail (.tail .head)) .nil)) ?_
                    exact ⟨[_], ⟨rfl, rfl⟩, rfl⟩
                  · refine .skip ?_
                    refine .inBlock ?_
                    refine .region ?_   -- R27 model.go:139
                    refine .rd (.add rfl rfl (by omega) (by omega)) ?_
                    refine .rd (.move rfl) ?_
                    refine .nil ?_
                    exact (ih (i + 1) ⟨by omega, all_take (p := fun y => laterM fr s.offset y = false) hy h25 hI.2⟩ (by omega)).to (.cons rfl (.cons rfl (.cons rfl (.cons rfl (.cons rfl .nil))))) (.cons (.tail .head) (.cons (.tail .head) (.cons (.tail .head) (.cons (.tail .head) (.cons (.tail .head) (.cons (.tail .head) (.cons (.tail .head) (.cons (.tail .head) (.cons (.tail .head) (.cons (.tail .head) (.cons (.tail .head) (.cons (.tail .head) (.cons (.tail .head) (.cons (.tail .head) (.cons (.tail .head) (.cons (.tail .head) (.cons (.tail .head) (.cons (.tail .head) (.cons (.tail .head) (.cons (.tail .head) (.cons (.tail .head) .nil)))))))))))))))))))))
                · have hall : ∀ y ∈ ql, laterM fr s.offset y = false := fun y hy => hI.2 y (by rw [List.take_of_length_le (by omega)]; exact hy)
                  refine .exit rfl ?_
                  refine .seq ?_
                  refine .region ?_   -- R28 model.go:144
                  refine .rd (.assign rfl) ?_
                  refine .nil ?_
                  refine .close (X := chk c p n) (B := chkL c S b) (.cons .head (.cons .head (.cons .head (.cons .head (.cons .head (.cons .head (.cons .head (.cons .head (.cons .head (.cons .head (.cons .head (.cons .head (.cons .head (.cons .head (.cons .head (.cons .head (.cons .head (.cons .head (.cons .head .nil))))))))))))))))))) (chk_close (hR)) ?_
                  have hv : recordsP p s fr = [] := by unfold recordsP; rw [if_neg (fun e => by rw [(badV_iff p s).2 e] at h6; cases h6), if_neg (fun e => by rw [(badO_iff p s).2 e] at h8; cases h8), if_neg (fun e => by rw [(badU_iff p s).2 e] at h10; cases h10), if_neg (by omega), if_neg (by omega), if_neg (by rw [← hl2]; simpa using hall)]
                  rw [hv]
                  refine .retP Try.func18 (.cons (.tmp rfl) .nil) (.cons .head (.cons (.tail .head) .nil)) ?_
                  exact ⟨[_], ⟨rfl, rfl⟩, rfl⟩
    · refine .condN rfl (fun h3 => ?_) (fun h3 => ?_)
      · refine .region ?_   -- R4 model.go:118
        refine .rd (.move rfl) ?_
        refine .rd (.add rfl rfl (by omega) (by omega)) ?_
        refine .rd (.assign rfl) ?_
        refine .nil ?_
        exact fin (.cons rfl (.cons rfl (.cons rfl (.cons rfl (.cons rfl (.cons (by show _ = some (Value.int .i64 (manyP p s)); unfold manyP; rw [← hof, if_neg h3]; rfl) .nil)))))) (.cons (.tail (.tail (.tail .head))) (.cons (.tail (.tail (.tail .head))) (.cons (.tail (.tail (.tail .head))) (.cons (.tail (.tail (.tail .head))) (.cons (.tail (.tail (.tail .head))) (.cons (.tail (.tail (.tail .head))) (.cons (.tail (.tail (.tail .head))) (.cons (.tail (.tail (.tail .head))) (.cons (.tail (.tail (.tail .head))) (.cons (.tail (.tail (.tail .head))) (.cons (.tail (.tail (.tail .head))) (.cons (.tail (.tail (.tail .head))) (.cons (.tail (.tail (.tail .head))) (.cons (.tail (.tail (.tail .head))) (.cons (.tail (.tail (.tail .head))) (.cons (.tail (.tail (.tail .head))) (.cons (.tail (.tail (.tail .head))) (.cons (.tail (.tail (.tail .head))) (.cons (.tail (.tail (.tail .head))) (.cons (.tail (.tail .head)) (.cons (.tail .head) (.cons .head (.cons .head .nil)))))))))))))))))))))))
      · refine .skip ?_
        exact fin (.cons rfl (.cons rfl (.cons rfl (.cons rfl (.cons rfl (.cons (by show _ = some (Value.int .i64 (manyP p s)); unfold manyP; rw [← hof, if_pos h3, Int.add_zero]; rfl) .nil)))))) (.cons (.tail (.tail (.tail .head))) (.cons (.tail (.tail (.tail .head))) (.cons (.tail (.tail (.tail .head))) (.cons (.tail (.tail (.tail .head))) (.cons (.tail (.tail (.tail .head))) (.cons (.tail (.tail (.tail .head))) (.cons (.tail (.tail (.tail .head))) (.cons (.tail (.tail (.tail .head))) (.cons (.tail (.tail (.tail .head))) (.cons (.tail (.tail (.tail .head))) (.cons (.tail (.tail (.tail .head))) (.cons (.tail (.tail (.tail .head))) (.cons (.tail (.tail (.tail .head))) (.cons (.tail (.tail (.tail .head))) (.cons (.tail (.tail (.tail .head))) (.cons (.tail (.tail (.tail .head))) (.cons (.tail (.tail (.tail .head))) (.cons (.tail (.tail (.tail .head))) (.cons (.tail (.tail (.tail .head))) (.cons (.tail (.tail .head)) (.cons (.tail .head) (.cons .head (.cons .head .nil)))))))))))))))))))))))
  · refine .ef rfl (.alloc ti79 rfl (ones.of rfl)) ?_
    rintro _ _ ⟨b8, rfl, rfl⟩
    refine ⟨.inr ⟨_, (.cons (.tail .head) .nil)⟩, ?_⟩
    refine .ef 10 (by kernel_rfl) rfl (.alloc ti85 rfl (ones.of rfl)) ?_
    rintro _ _ ⟨b7, rfl, rfl⟩
    refine ⟨.inr ⟨_, (.cons (.tail (.tail .head)) .nil)⟩, ?_⟩
    refine .ef0 12 (by kernel_rfl) rfl (.storeAll ts85 rfl rfl rfl .head rfl (ones.of rfl)) ?_
    rintro _ _ rfl
    refine ⟨.inr ⟨_, (.cons (.tail (.tail .head)) .nil)⟩, ?_⟩
    refine .ef0 13 (by kernel_rfl) rfl (.storeAll ts79 rfl rfl rfl (.tail .head) rfl (ones.of rfl)) ?_
    rintro _ _ rfl
    refine ⟨.inl (by kernel_rfl), ?_⟩
    refine .done (by kernel_rfl) ?_
    have hof := hR.offsets (s.part, s.text)
    have hon := hR.offsetsN (s.part, s.text)
    have hsn := hR.sentN (s.part, s.text)
    have hrow : Knows [bag (rowsOf 3 1 icell) S.offsets] (RowAt ((mget S.offsets (s.part, s.text)).getD row0).1 (((mget S.offsets (s.part, s.text)).getD row0).2.2.flatMap icell)) := Knows.row .head
    obtain ⟨r, hr⟩ : ∃ r, (mget S.offsets (s.part, s.text)).getD row0 = r := ⟨_, rfl⟩
    rw [hr] at hof hrow
    obtain ⟨ra, rc, rl⟩ := r
    dsimp only at hof hrow
    rw [← hof] at hon
    refine .seq ?_
    refine .draws [3, 4, 5] [blk c b.cells 59, blk b8 [.int .i64 s.part, .string (str s.text)] 79, mp encL rowV b.m6 S.offsets] (by kernel_rfl) ?_   -- R2 model.go:116
    refine .rp 0 rfl (by kernel_rfl) (by kernel_rfl) (by kernel_rfl) (Reads.pure (.move rfl)) ?_
    refine .rp 1 rfl (by kernel_rfl) (by kernel_rfl) (by kernel_rfl) (Reads.pure (.nilCheck rfl)) ?_
    refine .rp 2 rfl (by kernel_rfl) (by kernel_rfl) (by kernel_rfl) (Reads.pure (.fieldAddr fd59_6 rfl)) ?_
    refine .rd 3 rfl rfl (by kernel_rfl) (by kernel_rfl) (by kernel_rfl) (.ld na52 rfl .head rfl) (.cons (.tail (.tail (.tail .head))) (.cons .head (.cons (.tail (.tail (.tail (.tail (.tail (.tail (.tail (.tail .head)))))))) .nil))) ?_
    refine .rd 4 rfl rfl (by kernel_rfl) (by kernel_rfl) (by kernel_rfl) (.ldN ia79 ts79 rfl (.tail .head) rfl) (.cons (.tail (.tail (.tail .head))) (.cons .head (.cons (.tail (.tail (.tail (.tail (.tail (.tail (.tail (.tail .head)))))))) .nil))) ?_
    refine .rd 5 rfl rfl (by kernel_rfl) (by kernel_rfl) (by kernel_rfl) (.lookup (q := (s.part, s.text)) kl79 Try.underlying52 (fun w => ti40.zero w) rfl rfl (.tail (.tail .head))) (.cons (.tail (.tail (.tail .head))) (.cons .head (.cons (.tail (.tail (.tail (.tail (.tail (.tail (.tail (.tail .head)))))))) .nil))) ?_
    refine .alter (t := 31) (v' := rowV (ra, rc, rl)) rfl (by rw [← hr]; exact getD_map rowV _ row0) ?_
    refine .rp 6 rfl (by kernel_rfl) (by kernel_rfl) (by kernel_rfl) (Reads.pure (.lenL rfl rfl Try.underlying40 rfl)) ?_
    refine .rp 7 rfl (by kernel_rfl) (by kernel_rfl) (by kernel_rfl) (Reads.pure (.assign rfl)) ?_
    refine .done (by kernel_rfl) ?_
    refine .seq ?_
    refine .seq ?_
    refine .draws [3, 4, 5, 7] [blk c b.cells 59, blk b8 [.int .i64 s.part, .string (str s.text)] 79, mp encL rowV b.m6 S.offsets, blk b4 s.cells 36] (by kernel_rfl) ?_   -- R3 model.go:117
    refine .rp 0 rfl (by kernel_rfl) (by kernel_rfl) (by kernel_rfl) (Reads.pure (.move rfl)) ?_
    refine .rp 1 rfl (by kernel_rfl) (by kernel_rfl) (by kernel_rfl) (Reads.pure (.nilCheck rfl)) ?_
    refine .rp 2 rfl (by kernel_rfl) (by kernel_rfl) (by kernel_rfl) (Reads.pure (.fieldAddr fd59_6 rfl)) ?_
    refine .rd 3 rfl rfl (by kernel_rfl) (by kernel_rfl) (by kernel_rfl) (.ld na52 rfl .head rfl) (.cons (.tail (.tail (.tail .head))) (.cons .head (.cons (.tail (.tail (.tail (.tail (.tail (.tail (.tail (.tail .head)))))))) (.cons (.tail .head) .nil)))) ?_
    refine .rd 4 rfl rfl (by kernel_rfl) (by kernel_rfl) (by kernel_rfl) (.ldN ia79 ts79 rfl (.tail .head) rfl) (.cons (.tail (.tail (.tail .head))) (.cons .head (.cons (.tail (.tail (.tail (.tail (.tail (.tail (.tail (.tail .head)))))))) (.cons (.tail .head) .nil)))) ?_
    refine .rd 5 rfl rfl (by kernel_rfl) (by kernel_rfl) (by kernel_rfl) (.lookup (q := (s.part, s.text)) kl79 Try.underlying52 (fun w => ti40.zero w) rfl rfl (.tail (.tail .head))) (.cons (.tail (.tail (.tail .head))) (.cons .head (.cons (.tail (.tail (.tail (.tail (.tail (.tail (.tail (.tail .head)))))))) (.cons (.tail .head) .nil)))) ?_
    refine .alter (t := 38) (v' := rowV (ra, rc, rl)) rfl (by rw [← hr]; exact getD_map rowV _ row0) ?_
    refine .rp 6 rfl (by kernel_rfl) (by kernel_rfl) (by kernel_rfl) (Reads.pure (.fieldAddr fd36_4 rfl)) ?_
    refine .rd 7 rfl rfl (by kernel_rfl) (by kernel_rfl) (by kernel_rfl) (.ld na3 rfl (.tail (.tail (.tail .head))) rfl) (.cons (.tail (.tail (.tail .head))) (.cons .head (.cons (.tail (.tail (.tail (.tail (.tail (.tail (.tail (.tail .head)))))))) (.cons (.tail .head) .nil)))) ?_
    refine .ef 8 (by kernel_rfl) rfl (.fn rfl rfl .nil (Knows.pick (.tail (.tail (.tail (.tail (.tail (.tail (.tail (.tail (.tail (.tail (.tail (.tail (.tail (.tail (.tail (.tail .head)))))))))))))))) hrow) (Contains_ok ra rc rl s.offset (by omega))) ?_
    rintro v _ ⟨G1, hq, rfl⟩
    obtain ⟨rfl, rfl⟩ := hq
    simp only [List.nil_append]
    refine ⟨.inl (by kernel_rfl), ?_⟩
    refine .rp 9 rfl (by kernel_rfl) (by kernel_rfl) (by kernel_rfl) (Reads.pure (.not rfl)) ?_
    refine .done (by kernel_rfl) ?_
    refine .joinAt (E' := [(0, .pointer (some ⟨c, 0, none⟩)), (2, .int .i64 fr), (4, .pointer (some ⟨b4, 0, none⟩)), (7, .pointer (some ⟨b7, 0, none⟩)), (8, .pointer (some ⟨b8, 0, none⟩)), (9, .int .i64 (manyP p s))]) (Γ' := [blk c b.cells 59, mp encI inV b.m0 S.calls, mp encI askV b.m1 S.kinds, mp encI Value.bool b.m2 S.done, mp encI txV b.m3 S.values, mp encI Value.bool b.m4 S.acked, mp encL inV b.m5 S.sent, mp encL rowV b.m6 S.offsets, mp enc3 rowV b.m7 S.sends, mp encN rowV b.m8 S.deletes, mp encS rowV b.m9 S.gens, mp encP rowV b.m10 S.commits, mp encI ptrV b.m11 S.opened, bag (rowsOf 3 1 icell) S.offsets, bag (rowsOf 36 12 Sn.cells) S.sends, bag (rowsOf 76 2 Mark.cells) S.deletes, bag (rowsOf 76 2 Mark.cells) S.gens, bag (rowsOf 80 1 pcell) S.commits, bag spanOf S.spans, blk b4 s.cells 36, blk b7 [.int .i64 s.part, .int .i64 s.offset] 85, blk b8 [.int .i64 s.part, .string (str s.text)] 79, R]) ?_ (fun fin => ?_)
    · refine .seq ?_
      refine .draws [3, 4, 5] [blk c b.cells 59, blk b7 [.int .i64 s.part, .int .i64 s.offset] 85, mp encI txV b.m3 S.values] (by kernel_rfl) ?_   -- R5 model.go:120
      refine .rp 0 rfl (by kernel_rfl) (by kernel_rfl) (by kernel_rfl) (Reads.pure (.move rfl)) ?_
      refine .rp 1 rfl (by kernel_rfl) (by kernel_rfl) (by kernel_rfl) (Reads.pure (.nilCheck rfl)) ?_
      refine .rp 2 rfl (by kernel_rfl) (by kernel_rfl) (by kernel_rfl) (Reads.pure (.fieldAddr fd59_3 rfl)) ?_
      refine .rd 3 rfl rfl (by kernel_rfl) (by kernel_rfl) (by kernel_rfl) (.ld na49 rfl .head rfl) (.cons .head (.cons (.tail (.tail (.tail (.tail (.tail (.tail (.tail (.tail (.tail (.tail (.tail (.tail (.tail (.tail (.tail (.tail (.tail (.tail (.tail .head))))))))))))))))))) (.cons (.tail (.tail (.tail .head))) .nil))) ?_
      refine .rd 4 rfl rfl (by kernel_rfl) (by kernel_rfl) (by kernel_rfl) (.ldN ia85 ts85 rfl (.tail .head) rfl) (.cons .head (.cons (.tail (.tail (.tail (.tail (.tail (.tail (.tail (.tail (.tail (.tail (.tail (.tail (.tail (.tail (.tail (.tail (.tail (.tail (.tail .head))))))))))))))))))) (.cons (.tail (.tail (.tail .head))) .nil))) ?_
      refine .rd 5 rfl rfl (by kernel_rfl) (by kernel_rfl) (by kernel_rfl) (.lookupOk (q := (s.part, s.offset)) kl85 Try.underlying49 (fun w => ti9.zero w) rfl rfl (.tail (.tail .head))) (.cons .head (.cons (.tail (.tail (.tail (.tail (.tail (.tail (.tail (.tail (.tail (.tail (.tail (.tail (.tail (.tail (.tail (.tail (.tail (.tail (.tail .head))))))))))))))))))) (.cons (.tail (.tail (.tail .head))) .nil))) ?_
      have hva := hR.values (s.part, s.offset)
      refine .alter (t := 51) (v' := .tuple #[txV (((p.values (s.part, s.offset))).getD []), .bool (p.values (s.part, s.offset)).isSome]) rfl (by rw [hva]; cases p.values (s.part, s.offset) <;> rfl) ?_
      refine .rp 6 rfl (by kernel_rfl) (by kernel_rfl) (by kernel_rfl) (Reads.pure (.move rfl)) ?_
      refine .rp 7 rfl (by kernel_rfl) (by kernel_rfl) (by kernel_rfl) (Reads.pure (.extract rfl rfl)) ?_
      refine .rp 8 rfl (by kernel_rfl) (by kernel_rfl) (by kernel_rfl) (Reads.pure (.extract rfl rfl)) ?_
      refine .rp 9 rfl (by kernel_rfl) (by kernel_rfl) (by kernel_rfl) (Reads.pure (.assign rfl)) ?_
      refine .rp 10 rfl (by kernel_rfl) (by kernel_rfl) (by kernel_rfl) (Reads.pure (.assign rfl)) ?_
      refine .done (by kernel_rfl) ?_
      refine .seq ?_
      refine .block ?_
      refine .seq ?_
      refine .region ?_   -- R6 model.go:122
      refine RunO.join 7 61 (badV p s) ?_ ?_
      · refine .rd (.move rfl) ?_
        refine .rd (.move rfl) ?_
        refine .split (t := 56) rfl (fun g6_1 => ?_) (fun g6_1 => ?_)
        · refine .on (t := 56) rfl rfl ?_
          refine .rd (.move rfl) ?_
          refine .on (t := 56) rfl rfl ?_
          refine .rd (.fieldAddr fd36_9 rfl) ?_
          refine .on (t := 56) rfl rfl ?_
          refine .rd (.ld na9 rfl (.tail (.tail (.tail (.tail (.tail (.tail (.tail (.tail (.tail (.tail (.tail (.tail (.tail (.tail (.tail (.tail (.tail (.tail (.tail .head))))))))))))))))))) rfl) ?_
          refine .on (t := 56) rfl rfl ?_
          refine .rd (.neT rfl rfl) ?_
          refine .rd (.pickT rfl rfl) ?_
          refine .nil ⟨rfl, ?_, by repeat (first | exact Le.refl _ | refine Le.skip rfl ?_)⟩
          exact congrArg (fun x => some (Value.bool x)) (Eq.symm (show badV p s = _ by unfold badV; rw [g6_1]; rfl))
        · refine .off (t := 56) rfl rfl rfl ?_
          refine .off (t := 56) rfl rfl rfl ?_
          refine .off (t := 56) rfl rfl rfl ?_
          refine .off (t := 56) rfl rfl rfl ?_
          refine .rd (.pickF rfl rfl) ?_
          refine .nil ⟨rfl, ?_, by repeat (first | exact Le.refl _ | refine Le.skip rfl ?_)⟩
          exact congrArg (fun x => some (Value.bool x)) (Eq.symm (show badV p s = _ by unfold badV; rw [g6_1]; rfl))
      refine .rd (.assign rfl) ?_
      refine .nil ?_
      refine .cond rfl (fun h6 => ?_) (fun h6 => ?_)
      · refine .seq ?_
        refine .region ?_   -- R7 model.go:123
        refine .rd (.assign rfl) ?_
        refine .nil ?_
        refine .close (X := chk c p n) (B := chkL c S b) (.cons .head (.cons .head (.cons .head (.cons .head (.cons .head (.cons .head (.cons .head (.cons .head (.cons .head (.cons .head (.cons .head (.cons .head (.cons .head (.cons .head (.cons .head (.cons .head (.cons .head (.cons .head (.cons .head .nil))))))))))))))))))) (chk_close (hR)) ?_
        have hv : recordsP p s fr = wValue := by unfold recordsP; rw [if_pos ((badV_iff p s).1 h6)]
        rw [hv]
        refine .retP Try.func18 (.cons (.tmp rfl) .nil) (.cons .head (.cons (.tail (.tail (.tail .head))) .nil)) ?_
        exact ⟨[_], ⟨rfl, rfl⟩, rfl⟩
      · refine .seq ?_
        refine .drawsJoin [1, 7, 8, 9] [blk b4 s.cells 36, blk c b.cells 59, blk b7 [.int .i64 s.part, .int .i64 s.offset] 85, mp encI Value.bool b.m4 S.acked] 62 (badO p s) (by kernel_rfl) ?_ ?_   -- R8 model.go:124
        · refine .rp 0 rfl (by kernel_rfl) (by kernel_rfl) (by kernel_rfl) (Reads.pure (.fieldAddr fd36_2 rfl)) ?_
          refine .rd 1 rfl rfl (by kernel_rfl) (by kernel_rfl) (by kernel_rfl) (.ld na3 rfl .head rfl) (.cons (.tail (.tail (.tail (.tail (.tail (.tail (.tail (.tail (.tail (.tail (.tail (.tail (.tail (.tail (.tail (.tail (.tail (.tail (.tail .head))))))))))))))))))) (.cons .head (.cons (.tail (.tail (.tail (.tail (.tail (.tail (.tail (.tail (.tail (.tail (.tail (.tail (.tail (.tail (.tail (.tail (.tail (.tail .head)))))))))))))))))) (.cons (.tail (.tail (.tail (.tail .head)))) .nil)))) ?_
          refine .rp 2 rfl (by kernel_rfl) (by kernel_rfl) (by kernel_rfl) (Reads.pure (.eqI rfl rfl)) ?_
          refine .rp 3 rfl (by kernel_rfl) (by kernel_rfl) (by kernel_rfl) (Reads.pure (.move rfl)) ?_
          refine .split (t := 66) rfl (fun g8_3 => ?_) (fun g8_3 => ?_)
          · replace g8_3 := of_decide_eq_true g8_3
            refine .rpG 4 (t := 66) rfl rfl rfl (by kernel_rfl) (by kernel_rfl) (by kernel_rfl) (Reads.pure (.move rfl)) ?_
            refine .rpG 5 (t := 66) rfl rfl rfl (by kernel_rfl) (by kernel_rfl) (by kernel_rfl) (Reads.pure (.nilCheck rfl)) ?_
            refine .rpG 6 (t := 66) rfl rfl rfl (by kernel_rfl) (by kernel_rfl) (by kernel_rfl) (Reads.pure (.fieldAddr fd59_4 rfl)) ?_
            refine .rdG 7 (t := 66) rfl rfl rfl rfl (by kernel_rfl) (by kernel_rfl) (by kernel_rfl) (.ld na50 rfl (.tail .head) rfl) (.cons (.tail (.tail (.tail (.tail (.tail (.tail (.tail (.tail (.tail (.tail (.tail (.tail (.tail (.tail (.tail (.tail (.tail (.tail (.tail .head))))))))))))))))))) (.cons .head (.cons (.tail (.tail (.tail (.tail (.tail (.tail (.tail (.tail (.tail (.tail (.tail (.tail (.tail (.tail (.tail (.tail (.tail (.tail .head)))))))))))))))))) (.cons (.tail (.tail (.tail (.tail .head)))) .nil)))) ?_
            refine .rdG 8 (t := 66) rfl rfl rfl rfl (by kernel_rfl) (by kernel_rfl) (by kernel_rfl) (.ldN ia85 ts85 rfl (.tail (.tail .head)) rfl) (.cons (.tail (.tail (.tail (.tail (.tail (.tail (.tail (.tail (.tail (.tail (.tail (.tail (.tail (.tail (.tail (.tail (.tail (.tail (.tail .head))))))))))))))))))) (.cons .head (.cons (.tail (.tail (.tail (.tail (.tail (.tail (.tail (.tail (.tail (.tail (.tail (.tail (.tail (.tail (.tail (.tail (.tail (.tail .head)))))))))))))))))) (.cons (.tail (.tail (.tail (.tail .head)))) .nil)))) ?_
            refine .rdG 9 (t := 66) rfl rfl rfl rfl (by kernel_rfl) (by kernel_rfl) (by kernel_rfl) (.lookup (q := (s.part, s.offset)) kl85 Try.underlying50 (fun w => ti4.zero w) rfl rfl (.tail (.tail (.tail .head)))) (.cons (.tail (.tail (.tail (.tail (.tail (.tail (.tail (.tail (.tail (.tail (.tail (.tail (.tail (.tail (.tail (.tail (.tail (.tail (.tail .head))))))))))))))))))) (.cons .head (.cons (.tail (.tail (.tail (.tail (.tail (.tail (.tail (.tail (.tail (.tail (.tail (.tail (.tail (.tail (.tail (.tail (.tail (.tail .head)))))))))))))))))) (.cons (.tail (.tail (.tail (.tail .head)))) .nil)))) ?_
            refine .alter (t := 72) (v' := .bool (p.acked (s.part, s.offset))) rfl (by rw [← hR.acked]; exact getD_map Value.bool _ false) ?_
            refine .rp 10 rfl (by kernel_rfl) (by kernel_rfl) (by kernel_rfl) (Reads.pure (.pickT rfl rfl)) ?_
            refine .rp 11 rfl (by kernel_rfl) (by kernel_rfl) (by kernel_rfl) (Reads.pure (.assign rfl)) ?_
            refine .done (by kernel_rfl) ⟨rfl, ?_, by repeat (first | exact Le.refl _ | refine Le.skip rfl ?_)⟩
            exact congrArg (fun x => some (Value.bool x)) (Eq.symm (show badO p s = _ by unfold badO; rw [decide_eq_true (p := s.kind = 10) (by omega)]; rfl))
          · replace g8_3 := of_decide_eq_false g8_3
            refine .off 4 (t := 66) rfl rfl rfl rfl (by kernel_rfl) (by kernel_rfl) (by kernel_rfl) ?_
            refine .off 5 (t := 66) rfl rfl rfl rfl (by kernel_rfl) (by kernel_rfl) (by kernel_rfl) ?_
            refine .off 6 (t := 66) rfl rfl rfl rfl (by kernel_rfl) (by kernel_rfl) (by kernel_rfl) ?_
            refine .off 7 (t := 66) rfl rfl rfl rfl (by kernel_rfl) (by kernel_rfl) (by kernel_rfl) ?_
            refine .off 8 (t := 66) rfl rfl rfl rfl (by kernel_rfl) (by kernel_rfl) (by kernel_rfl) ?_
            refine .off 9 (t := 66) rfl rfl rfl rfl (by kernel_rfl) (by kernel_rfl) (by kernel_rfl) ?_
            refine .rp 10 rfl (by kernel_rfl) (by kernel_rfl) (by kernel_rfl) (Reads.pure (.pickF rfl rfl)) ?_
            refine .rp 11 rfl (by kernel_rfl) (by kernel_rfl) (by kernel_rfl) (Reads.pure (.assign rfl)) ?_
            refine .done (by kernel_rfl) ⟨rfl, ?_, by repeat (first | exact Le.refl _ | refine Le.skip rfl ?_)⟩
            exact congrArg (fun x => some (Value.bool x)) (Eq.symm (show badO p s = _ by unfold badO; rw [decide_eq_false (p := s.kind = 10) (by omega)]; rfl))
        refine .cond rfl (fun h8 => ?_) (fun h8 => ?_)
        · refine .seq ?_
          refine .region ?_   -- R9 model.go:125
          refine .rd (.assign rfl) ?_
          refine .nil ?_
          refine .close (X := chk c p n) (B := chkL c S b) (.cons .head (.cons .head (.cons .head (.cons .head (.cons .head (.cons .head (.cons .head (.cons .head (.cons .head (.cons .head (.cons .head (.cons .head (.cons .head (.cons .head (.cons .head (.cons .head (.cons .head (.cons .head (.cons .head .nil))))))))))))))))))) (chk_close (hR)) ?_
          have hv : recordsP p s fr = wOffset := by unfold recordsP; rw [if_neg (fun e => by rw [(badV_iff p s).2 e] at h6; cases h6), if_pos ((badO_iff p s).1 h8)]
          rw [hv]
          refine .retP Try.func18 (.cons (.tmp rfl) .nil) (.cons .head (.cons (.tail (.tail (.tail .head))) .nil)) ?_
          exact ⟨[_], ⟨rfl, rfl⟩, rfl⟩
        · refine .seq ?_
          refine .drawsJoin [1, 7, 8, 9] [blk b4 s.cells 36, blk c b.cells 59, blk b8 [.int .i64 s.part, .string (str s.text)] 79, mp encL inV b.m5 S.sent] 74 (badU p s) (by kernel_rfl) ?_ ?_   -- R10 model.go:126
          · refine .rp 0 rfl (by kernel_rfl) (by kernel_rfl) (by kernel_rfl) (Reads.pure (.fieldAddr fd36_2 rfl)) ?_
            refine .rd 1 rfl rfl (by kernel_rfl) (by kernel_rfl) (by kernel_rfl) (.ld na3 rfl .head rfl) (.cons (.tail (.tail (.tail (.tail (.tail (.tail (.tail (.tail (.tail (.tail (.tail (.tail (.tail (.tail (.tail (.tail (.tail (.tail (.tail .head))))))))))))))))))) (.cons .head (.cons (.tail (.tail (.tail (.tail (.tail (.tail (.tail (.tail (.tail (.tail (.tail (.tail (.tail (.tail (.tail (.tail (.tail (.tail (.tail .head))))))))))))))))))) (.cons (.tail (.tail (.tail (.tail (.tail .head))))) .nil)))) ?_
            refine .rp 2 rfl (by kernel_rfl) (by kernel_rfl) (by kernel_rfl) (Reads.pure (.eqI rfl rfl)) ?_
            refine .rp 3 rfl (by kernel_rfl) (by kernel_rfl) (by kernel_rfl) (Reads.pure (.move rfl)) ?_
            refine .split (t := 78) rfl (fun g10_3 => ?_) (fun g10_3 => ?_)
            · replace g10_3 := of_decide_eq_true g10_3
              refine .rpG 4 (t := 78) rfl rfl rfl (by kernel_rfl) (by kernel_rfl) (by kernel_rfl) (Reads.pure (.move rfl)) ?_
              refine .rpG 5 (t := 78) rfl rfl rfl (by kernel_rfl) (by kernel_rfl) (by kernel_rfl) (Reads.pure (.nilCheck rfl)) ?_
              refine .rpG 6 (t := 78) rfl rfl rfl (by kernel_rfl) (by kernel_rfl) (by kernel_rfl) (Reads.pure (.fieldAddr fd59_5 rfl)) ?_
              refine .rdG 7 (t := 78) rfl rfl rfl rfl (by kernel_rfl) (by kernel_rfl) (by kernel_rfl) (.ld na51 rfl (.tail .head) rfl) (.cons (.tail (.tail (.tail (.tail (.tail (.tail (.tail (.tail (.tail (.tail (.tail (.tail (.tail (.tail (.tail (.tail (.tail (.tail (.tail .head))))))))))))))))))) (.cons .head (.cons (.tail (.tail (.tail (.tail (.tail (.tail (.tail (.tail (.tail (.tail (.tail (.tail (.tail (.tail (.tail (.tail (.tail (.tail (.tail .head))))))))))))))))))) (.cons (.tail (.tail (.tail (.tail (.tail .head))))) .nil)))) ?_
              refine .rdG 8 (t := 78) rfl rfl rfl rfl (by kernel_rfl) (by kernel_rfl) (by kernel_rfl) (.ldN ia79 ts79 rfl (.tail (.tail .head)) rfl) (.cons (.tail (.tail (.tail (.tail (.tail (.tail (.tail (.tail (.tail (.tail (.tail (.tail (.tail (.tail (.tail (.tail (.tail (.tail (.tail .head))))))))))))))))))) (.cons .head (.cons (.tail (.tail (.tail (.tail (.tail (.tail (.tail (.tail (.tail (.tail (.tail (.tail (.tail (.tail (.tail (.tail (.tail (.tail (.tail .head))))))))))))))))))) (.cons (.tail (.tail (.tail (.tail (.tail .head))))) .nil)))) ?_
              refine .rdG 9 (t := 78) rfl rfl rfl rfl (by kernel_rfl) (by kernel_rfl) (by kernel_rfl) (.lookup (q := (s.part, s.text)) kl79 Try.underlying51 (fun w => ti3.zero w) rfl rfl (.tail (.tail (.tail .head)))) (.cons (.tail (.tail (.tail (.tail (.tail (.tail (.tail (.tail (.tail (.tail (.tail (.tail (.tail (.tail (.tail (.tail (.tail (.tail (.tail .head))))))))))))))))))) (.cons .head (.cons (.tail (.tail (.tail (.tail (.tail (.tail (.tail (.tail (.tail (.tail (.tail (.tail (.tail (.tail (.tail (.tail (.tail (.tail (.tail .head))))))))))))))))))) (.cons (.tail (.tail (.tail (.tail (.tail .head))))) .nil)))) ?_
              refine .alter (t := 84) (v' := .int .i64 (p.sent (s.part, s.text))) rfl (by rw [← hR.sent]; exact getD_map inV _ 0) ?_
              refine .rpG 10 (t := 78) rfl rfl rfl (by kernel_rfl) (by kernel_rfl) (by kernel_rfl) (Reads.pure (.eqI rfl rfl)) ?_
              refine .rp 11 rfl (by kernel_rfl) (by kernel_rfl) (by kernel_rfl) (Reads.pure (.pickT rfl rfl)) ?_
              refine .rp 12 rfl (by kernel_rfl) (by kernel_rfl) (by kernel_rfl) (Reads.pure (.assign rfl)) ?_
              refine .done (by kernel_rfl) ⟨rfl, ?_, by repeat (first | exact Le.refl _ | refine Le.skip rfl ?_)⟩
              exact congrArg (fun x => some (Value.bool x)) (Eq.symm (show badU p s = _ by unfold badU; rw [decide_eq_true (p := s.kind = 1) (by omega)]; rfl))
            · replace g10_3 := of_decide_eq_false g10_3
              refine .off 4 (t := 78) rfl rfl rfl rfl (by kernel_rfl) (by kernel_rfl) (by kernel_rfl) ?_
              refine .off 5 (t := 78) rfl rfl rfl rfl (by kernel_rfl) (by kernel_rfl) (by kernel_rfl) ?_
              refine .off 6 (t := 78) rfl rfl rfl rfl (by kernel_rfl) (by kernel_rfl) (by kernel_rfl) ?_
              refine .off 7 (t := 78) rfl rfl rfl rfl (by kernel_rfl) (by kernel_rfl) (by kernel_rfl) ?_
              refine .off 8 (t := 78) rfl rfl rfl rfl (by kernel_rfl) (by kernel_rfl) (by kernel_rfl) ?_
              refine .off 9 (t := 78) rfl rfl rfl rfl (by kernel_rfl) (by kernel_rfl) (by kernel_rfl) ?_
              refine .off 10 (t := 78) rfl rfl rfl rfl (by kernel_rfl) (by kernel_rfl) (by kernel_rfl) ?_
              refine .rp 11 rfl (by kernel_rfl) (by kernel_rfl) (by kernel_rfl) (Reads.pure (.pickF rfl rfl)) ?_
              refine .rp 12 rfl (by kernel_rfl) (by kernel_rfl) (by kernel_rfl) (Reads.pure (.assign rfl)) ?_
              refine .done (by kernel_rfl) ⟨rfl, ?_, by repeat (first | exact Le.refl _ | refine Le.skip rfl ?_)⟩
              exact congrArg (fun x => some (Value.bool x)) (Eq.symm (show badU p s = _ by unfold badU; rw [decide_eq_false (p := s.kind = 1) (by omega)]; rfl))
          refine .cond rfl (fun h10 => ?_) (fun h10 => ?_)
          · refine .seq ?_
            refine .region ?_   -- R11 model.go:127
            refine .rd (.assign rfl) ?_
            refine .nil ?_
            refine .close (X := chk c p n) (B := chkL c S b) (.cons .head (.cons .head (.cons .head (.cons .head (.cons .head (.cons .head (.cons .head (.cons .head (.cons .head (.cons .head (.cons .head (.cons .head (.cons .head (.cons .head (.cons .head (.cons .head (.cons .head (.cons .head (.cons .head .nil))))))))))))))))))) (chk_close (hR)) ?_
            have hv : recordsP p s fr = wUnsent := by unfold recordsP; rw [if_neg (fun e => by rw [(badV_iff p s).2 e] at h6; cases h6), if_neg (fun e => by rw [(badO_iff p s).2 e] at h8; cases h8), if_pos ((badU_iff p s).1 h10)]
            rw [hv]
            refine .retP Try.func18 (.cons (.tmp rfl) .nil) (.cons .head (.cons (.tail (.tail (.tail .head))) .nil)) ?_
            exact ⟨[_], ⟨rfl, rfl⟩, rfl⟩
          · refine .seq ?_
            refine .draws [4, 5, 6] [blk c b.cells 59, blk b8 [.int .i64 s.part, .string (str s.text)] 79, mp encL inV b.m5 S.sent] (by kernel_rfl) ?_   -- R12 model.go:128
            refine .rp 0 rfl (by kernel_rfl) (by kernel_rfl) (by kernel_rfl) (Reads.pure (.move rfl)) ?_
            refine .rp 1 rfl (by kernel_rfl) (by kernel_rfl) (by kernel_rfl) (Reads.pure (.move rfl)) ?_
            refine .rp 2 rfl (by kernel_rfl) (by kernel_rfl) (by kernel_rfl) (Reads.pure (.nilCheck rfl)) ?_
            refine .rp 3 rfl (by kernel_rfl) (by kernel_rfl) (by kernel_rfl) (Reads.pure (.fieldAddr fd59_5 rfl)) ?_
            refine .rd 4 rfl rfl (by kernel_rfl) (by kernel_rfl) (by kernel_rfl) (.ld na51 rfl .head rfl) (.cons .head (.cons (.tail (.tail (.tail (.tail (.tail (.tail (.tail (.tail (.tail (.tail (.tail (.tail (.tail (.tail (.tail (.tail (.tail (.tail (.tail (.tail .head)))))))))))))))))))) (.cons (.tail (.tail (.tail (.tail (.tail .head))))) .nil))) ?_
            refine .rd 5 rfl rfl (by kernel_rfl) (by kernel_rfl) (by kernel_rfl) (.ldN ia79 ts79 rfl (.tail .head) rfl) (.cons .head (.cons (.tail (.tail (.tail (.tail (.tail (.tail (.tail (.tail (.tail (.tail (.tail (.tail (.tail (.tail (.tail (.tail (.tail (.tail (.tail (.tail .head)))))))))))))))))))) (.cons (.tail (.tail (.tail (.tail (.tail .head))))) .nil))) ?_
            refine .rd 6 rfl rfl (by kernel_rfl) (by kernel_rfl) (by kernel_rfl) (.lookup (q := (s.part, s.text)) kl79 Try.underlying51 (fun w => ti3.zero w) rfl rfl (.tail (.tail .head))) (.cons .head (.cons (.tail (.tail (.tail (.tail (.tail (.tail (.tail (.tail (.tail (.tail (.tail (.tail (.tail (.tail (.tail (.tail (.tail (.tail (.tail (.tail .head)))))))))))))))))))) (.cons (.tail (.tail (.tail (.tail (.tail .head))))) .nil))) ?_
            refine .alter (t := 94) (v' := .int .i64 (p.sent (s.part, s.text))) rfl (by rw [← hR.sent]; exact getD_map inV _ 0) ?_
            refine .rp 7 rfl (by kernel_rfl) (by kernel_rfl) (by kernel_rfl) (Reads.pure (.gt rfl rfl)) ?_
            refine .rp 8 rfl (by kernel_rfl) (by kernel_rfl) (by kernel_rfl) (Reads.pure (.assign rfl)) ?_
            refine .done (by kernel_rfl) ?_
            refine .condP rfl (fun h12 => ?_) (fun h12 => ?_)
            · refine .seq ?_
              refine .region ?_   -- R13 model.go:129
              refine .rd (.assign rfl) ?_
              refine .nil ?_
              refine .close (X := chk c p n) (B := chkL c S b) (.cons .head (.cons .head (.cons .head (.cons .head (.cons .head (.cons .head (.cons .head (.cons .head (.cons .head (.cons .head (.cons .head (.cons .head (.cons .head (.cons .head (.cons .head (.cons .head (.cons .head (.cons .head (.cons .head .nil))))))))))))))))))) (chk_close (hR)) ?_
              have hv : recordsP p s fr = wTwice := by unfold recordsP; rw [if_neg (fun e => by rw [(badV_iff p s).2 e] at h6; cases h6), if_neg (fun e => by rw [(badO_iff p s).2 e] at h8; cases h8), if_neg (fun e => by rw [(badU_iff p s).2 e] at h10; cases h10), if_pos (by omega)]
              rw [hv]
              refine .retP Try.func18 (.cons (.tmp rfl) .nil) (.cons .head (.cons (.tail (.tail (.tail .head))) .nil)) ?_
              exact ⟨[_], ⟨rfl, rfl⟩, rfl⟩
            · refine .skip ?_
              refine .inBlock ?_
              refine .seq ?_
              refine .seq ?_
              refine .region ?_   -- R14 model.go:131
              refine .rd (.fieldAddr fd36_2 rfl) ?_
              refine .rd (.ld na3 rfl (.tail (.tail (.tail (.tail (.tail (.tail (.tail (.tail (.tail (.tail (.tail (.tail (.tail (.tail (.tail (.tail (.tail (.tail (.tail .head))))))))))))))))))) rfl) ?_
              refine .rd (.eqI rfl rfl) ?_
              refine .nil ?_
              refine .condP rfl (fun h14 => ?_) (fun h14 => ?_)
              · refine .seq ?_
                refine .seq ?_
                have hl2 := hR.sends (s.part, s.pid, s.pidEpoch)
                have hln := hR.sendsN (s.part, s.pid, s.pidEpoch)
                have hrow2 : Knows [bag (rowsOf 36 12 Sn.cells) S.sends] (RowAt ((mget S.sends (s.part, s.pid, s.pidEpoch)).getD row0).1 (((mget S.sends (s.part, s.pid, s.pidEpoch)).getD row0).2.2.flatMap Sn.cells)) := Knows.row .head
                obtain ⟨r2, hr2⟩ : ∃ r, (mget S.sends (s.part, s.pid, s.pidEpoch)).getD row0 = r := ⟨_, rfl⟩
                rw [hr2] at hl2 hrow2
                obtain ⟨qa, qc, ql⟩ := r2
                dsimp only at hl2 hrow2
                rw [← hl2] at hln
                refine .draws [3, 5, 7, 9, 11] [blk c b.cells 59, blk b4 s.cells 36, mp enc3 rowV b.m7 S.sends] (by kernel_rfl) ?_   -- R15 model.go:132
                refine .rp 0 rfl (by kernel_rfl) (by kernel_rfl) (by kernel_rfl) (Reads.pure (.move rfl)) ?_
                refine .rp 1 rfl (by kernel_rfl) (by kernel_rfl) (by kernel_rfl) (Reads.pure (.nilCheck rfl)) ?_
                refine .rp 2 rfl (by kernel_rfl) (by kernel_rfl) (by kernel_rfl) (Reads.pure (.fieldAddr fd59_7 rfl)) ?_
                refine .rd 3 rfl rfl (by kernel_rfl) (by kernel_rfl) (by kernel_rfl) (.ld na53 rfl .head rfl) (.cons .head (.cons (.tail (.tail (.tail (.tail (.tail (.tail (.tail (.tail (.tail (.tail (.tail (.tail (.tail (.tail (.tail (.tail (.tail (.tail .head)))))))))))))))))) (.cons (.tail (.tail (.tail (.tail (.tail (.tail (.tail .head))))))) .nil))) ?_
                refine .rp 4 rfl (by kernel_rfl) (by kernel_rfl) (by kernel_rfl) (Reads.pure (.fieldAddr fd36_3 rfl)) ?_
                refine .rd 5 rfl rfl (by kernel_rfl) (by kernel_rfl) (by kernel_rfl) (.ld na3 rfl (.tail .head) rfl) (.cons .head (.cons (.tail (.tail (.tail (.tail (.tail (.tail (.tail (.tail (.tail (.tail (.tail (.tail (.tail (.tail (.tail (.tail (.tail (.tail .head)))))))))))))))))) (.cons (.tail (.tail (.tail (.tail (.tail (.tail (.tail .head))))))) .nil))) ?_
                refine .rp 6 rfl (by kernel_rfl) (by kernel_rfl) (by kernel_rfl) (Reads.pure (.fieldAddr fd36_5 rfl)) ?_
                refine .rd 7 rfl rfl (by kernel_rfl) (by kernel_rfl) (by kernel_rfl) (.ld na3 rfl (.tail .head) rfl) (.cons .head (.cons (.tail (.tail (.tail (.tail (.tail (.tail (.tail (.tail (.tail (.tail (.tail (.tail (.tail (.tail (.tail (.tail (.tail (.tail .head)))))))))))))))))) (.cons (.tail (.tail (.tail (.tail (.tail (.tail (.tail .head))))))) .nil))) ?_
                refine .rp 8 rfl (by kernel_rfl) (by kernel_rfl) (by kernel_rfl) (Reads.pure (.fieldAddr fd36_6 rfl)) ?_
                refine .rd 9 rfl rfl (by kernel_rfl) (by kernel_rfl) (by kernel_rfl) (.ld na3 rfl (.tail .head) rfl) (.cons .head (.cons (.tail (.tail (.tail (.tail (.tail (.tail (.tail (.tail (.tail (.tail (.tail (.tail (.tail (.tail (.tail (.tail (.tail (.tail .head)))))))))))))))))) (.cons (.tail (.tail (.tail (.tail (.tail (.tail (.tail .head))))))) .nil))) ?_
                refine .rp 10 rfl (by kernel_rfl) (by kernel_rfl) (by kernel_rfl) (Reads.pure (.build rfl (bld86_0_1_2 _ _ _))) ?_
                refine .rd 11 rfl rfl (by kernel_rfl) (by kernel_rfl) (by kernel_rfl) (.lookup (q := (s.part, s.pid, s.pidEpoch)) kl86 Try.underlying53 (fun w => ti22.zero w) rfl rfl (.tail (.tail .head))) (.cons .head (.cons (.tail (.tail (.tail (.tail (.tail (.tail (.tail (.tail (.tail (.tail (.tail (.tail (.tail (.tail (.tail (.tail (.tail (.tail .head)))))))))))))))))) (.cons (.tail (.tail (.tail (.tail (.tail (.tail (.tail .head))))))) .nil))) ?_
                refine .alter (t := 110) (v' := rowV (qa, qc, ql)) rfl (by rw [← hr2]; exact getD_map rowV _ row0) ?_
                refine .rp 12 rfl (by kernel_rfl) (by kernel_rfl) (by kernel_rfl) (Reads.pure (.lenL rfl rfl Try.underlying22 rfl)) ?_
                refine .rp 13 rfl (by kernel_rfl) (by kernel_rfl) (by kernel_rfl) (Reads.pure (.move rfl)) ?_
                refine .done (by kernel_rfl) ?_
                refine .block ?_
                refine .loop (σ := Nat) (fun i => i ≤ ql.length ∧ ∀ y ∈ ql.take i, offOrder s y = false) (fun i => ql.length - i) (fun i => [(4, .pointer (some ⟨b4, 0, none⟩)), (110, .slice qa ql.length qc), (111, .int .i64 ql.length), (112, .int .i64 (i : Nat))]) (fun i => [blk c b.cells 59, mp encI inV b.m0 S.calls, mp encI askV b.m1 S.kinds, mp encI Value.bool b.m2 S.done, mp encI txV b.m3 S.values, mp encI Value.bool b.m4 S.acked, mp encL inV b.m5 S.sent, mp encL rowV b.m6 S.offsets, mp enc3 rowV b.m7 S.sends, mp encN rowV b.m8 S.deletes, mp encS rowV b.m9 S.gens, mp encP rowV b.m10 S.commits, mp encI ptrV b.m11 S.opened, bag (rowsOf 3 1 icell) S.offsets, bag (rowsOf 36 12 Sn.cells) S.sends, bag (rowsOf 76 2 Mark.cells) S.deletes, bag (rowsOf 76 2 Mark.cells) S.gens, bag (rowsOf 80 1 pcell) S.commits, bag spanOf S.spans, blk b4 s.cells 36, R]) 0 ⟨Nat.zero_le _, by simp⟩ (.cons rfl (.cons rfl (.cons rfl (.cons rfl .nil)))) (.cons .head (.cons .head (.cons .head (.cons .head (.cons .head (.cons .head (.cons .head (.cons .head (.cons .head (.cons .head (.cons .head (.cons .head (.cons .head (.cons .head (.cons .head (.cons .head (.cons .head (.cons .head (.cons .head (.cons .head (.cons (.tail (.tail .head)) .nil))))))))))))))))))))) (fun i hI ih => ?_)
                have hil := hI.1
                refine .seq ?_
                refine .region ?_   -- R16 model.go:132
                refine .rd (.lt rfl rfl) ?_
                refine .nil ?_
                refine .seq ?_
                refine .condP rfl (fun h16 => ?_) (fun h16 => ?_)
                · refine .skip ?_
                  refine .seq ?_
                  refine .block ?_
                  refine .seq ?_
                  obtain ⟨y, hy⟩ : ∃ y, ql[i]? = some y := ⟨_, List.getElem?_eq_getElem (by omega)⟩
                  refine .tell (φ := ∃ b o, qa = some ⟨b, o, none⟩) (Knows.pick (.tail (.tail (.tail (.tail (.tail (.tail (.tail (.tail (.tail (.tail (.tail (.tail (.tail (.tail .head)))))))))))))) (hrow2.mono fun _ h => RowAt.addr h (by rw [flat_length Sn.cells_len]; omega))) (fun hh => ?_)
                  obtain ⟨bb, oo, rfl⟩ := hh
                  refine .region ?_   -- R17 model.go:132
                  refine .rd (.indexAddr Try.underlying22 ts36 rfl rfl (by omega) (by omega)) ?_
                  refine .rd (.loadN ia36 ts36 rfl rfl (Knows.elem (f := Sn.cells) Sn.cells_len (by decide) (Knows.pick (.tail (.tail (.tail (.tail (.tail (.tail (.tail (.tail (.tail (.tail (.tail (.tail (.tail (.tail .head)))))))))))))) hrow2) hy)) ?_
                  refine .ef (.alloc ti36 rfl (ones.of rfl)) ?_
                  rintro _ _ ⟨b13, rfl, rfl⟩
                  refine .ef0 (.storeAll (vs := y.cells) ts36 rfl rfl rfl .head rfl (ones.of rfl)) ?_
                  rintro _ _ rfl
                  refine .nil ?_
                  refine .seq ?_
                  refine .region ?_   -- R18 model.go:133
                  refine RunO.join 25 140 (offOrder s y) ?_ ?_
                  · refine .rd (.fieldAddr fd36_7 rfl) ?_
                    refine .rd (.ld na3 rfl .head rfl) ?_
                    refine .rd (.fieldAddr fd36_7 rfl) ?_
                    refine .rd (.ld na3 rfl (.tail (.tail (.tail (.tail (.tail (.tail (.tail (.tail (.tail (.tail (.tail (.tail (.tail (.tail (.tail (.tail (.tail (.tail (.tail (.tail .head)))))))))))))))))))) rfl) ?_
                    refine .rd (.eqI rfl rfl) ?_
                    refine .rd (.move rfl) ?_
                    refine .split (t := 121) rfl (fun g18_5 => ?_) (fun g18_5 => ?_)
                    · replace g18_5 := of_decide_eq_true g18_5
                      refine .off (t := 121) rfl rfl rfl ?_
                      refine .off (t := 121) rfl rfl rfl ?_
                      refine .off (t := 121) rfl rfl rfl ?_
                      refine .off (t := 121) rfl rfl rfl ?_
                      refine .off (t := 121) rfl rfl rfl ?_
                      refine .off (t := 121) rfl rfl rfl ?_
                      refine .off (t := 121) rfl rfl rfl ?_
                      refine .off (t := 121) rfl rfl rfl ?_
                      refine .off (t := 121) rfl rfl rfl ?_
                      refine .off (t := 121) rfl rfl rfl ?_
                      refine .off (t := 121) rfl rfl rfl ?_
                      refine .rd (.pickT rfl rfl) ?_
                      refine .rd (.move rfl) ?_
                      refine .off (t := 134) rfl rfl rfl ?_
                      refine .off (t := 134) rfl rfl rfl ?_
                      refine .off (t := 134) rfl rfl rfl ?_
                      refine .off (t := 134) rfl rfl rfl ?_
                      refine .off (t := 134) rfl rfl rfl ?_
                      refine .rd (.pickT rfl rfl) ?_
                      refine .nil ⟨rfl, ?_, by repeat (first | exact Le.refl _ | refine Le.skip rfl ?_)⟩
                      exact congrArg (fun x => some (Value.bool x)) (Eq.symm (show offOrder s y = _ by unfold offOrder; rw [decide_eq_true (p := y.seq = s.seq) (by omega)]; rfl))
                    · replace g18_5 := of_decide_eq_false g18_5
                      refine .on (t := 121) rfl rfl ?_
                      refine .rd (.fieldAddr fd36_7 rfl) ?_
                      refine .on (t := 121) rfl rfl ?_
                      refine .rd (.ld na3 rfl .head rfl) ?_
                      refine .on (t := 121) rfl rfl ?_
                      refine .rd (.fieldAddr fd36_7 rfl) ?_
                      refine .on (t := 121) rfl rfl ?_
                      refine .rd (.ld na3 rfl (.tail (.tail (.tail (.tail (.tail (.tail (.tail (.tail (.tail (.tail (.tail (.tail (.tail (.tail (.tail (.tail (.tail (.tail (.tail (.tail .head)))))))))))))))))))) rfl) ?_
                      refine .on (t := 121) rfl rfl ?_
                      refine .rd (.lt rfl rfl) ?_
                      refine .on (t := 121) rfl rfl ?_
                      refine .rd (.fieldAddr fd36_4 rfl) ?_
                      refine .on (t := 121) rfl rfl ?_
                      refine .rd (.ld na3 rfl .head rfl) ?_
                      refine .on (t := 121) rfl rfl ?_
                      refine .rd (.fieldAddr fd36_4 rfl) ?_
                      refine .on (t := 121) rfl rfl ?_
                      refine .rd (.ld na3 rfl (.tail (.tail (.tail (.tail (.tail (.tail (.tail (.tail (.tail (.tail (.tail (.tail (.tail (.tail (.tail (.tail (.tail (.tail (.tail (.tail .head)))))))))))))))))))) rfl) ?_
                      refine .on (t := 121) rfl rfl ?_
                      refine .rd (.lt rfl rfl) ?_
                      refine .on (t := 121) rfl rfl ?_
                      refine .rd (.neB Try.underlying4 rfl rfl) ?_
                      refine .rd (.pickF rfl rfl) ?_
                      refine .rd (.move rfl) ?_
                      refine .split (t := 134) rfl (fun g18_18 => ?_) (fun g18_18 => ?_)
                      · refine .off (t := 134) rfl rfl rfl ?_
                        refine .off (t := 134) rfl rfl rfl ?_
                        refine .off (t := 134) rfl rfl rfl ?_
                        refine .off (t := 134) rfl rfl rfl ?_
                        refine .off (t := 134) rfl rfl rfl ?_
                        refine .rd (.pickT rfl rfl) ?_
                        refine .nil ⟨rfl, ?_, by repeat (first | exact Le.refl _ | refine Le.skip rfl ?_)⟩
                        exact congrArg (fun x => some (Value.bool x)) (Eq.symm (show offOrder s y = _ by unfold offOrder; rw [decide_eq_true (p := decide (y.seq < s.seq) ≠ decide (y.offset < s.offset)) (by simpa using g18_18)]; simp))
                      · refine .on (t := 134) rfl rfl ?_
                        refine .rd (.fieldAddr fd36_4 rfl) ?_
                        refine .on (t := 134) rfl rfl ?_
                        refine .rd (.ld na3 rfl .head rfl) ?_
                        refine .on (t := 134) rfl rfl ?_
                        refine .rd (.fieldAddr fd36_4 rfl) ?_
                        refine .on (t := 134) rfl rfl ?_
                        refine .rd (.ld na3 rfl (.tail (.tail (.tail (.tail (.tail (.tail (.tail (.tail (.tail (.tail (.tail (.tail (.tail (.tail (.tail (.tail (.tail (.tail (.tail (.tail .head)))))))))))))))))))) rfl) ?_
                        refine .on (t := 134) rfl rfl ?_
                        refine .rd (.eqI rfl rfl) ?_
                        refine .rd (.pickF rfl rfl) ?_
                        refine .nil ⟨rfl, ?_, by repeat (first | exact Le.refl _ | refine Le.skip rfl ?_)⟩
                        exact congrArg (fun x => some (Value.bool x)) (Eq.symm (show offOrder s y = _ by unfold offOrder; rw [decide_eq_false (p := y.seq = s.seq) (by omega), decide_eq_false (p := decide (y.seq < s.seq) ≠ decide (y.offset < s.offset)) (by simpa using g18_18)]; rfl))
                  refine .nil ?_
                  refine .cond rfl (fun h18 => ?_) (fun h18 => ?_)
                  · refine .seq ?_
                    refine .region ?_   -- R19 model.go:134
                    refine .rd (.assign rfl) ?_
                    refine .nil ?_
                    refine .close (X := chk c p n) (B := chkL c S b) (.cons (.tail .head) (.cons (.tail .head) (.cons (.tail .head) (.cons (.tail .head) (.cons (.tail .head) (.cons (.tail .head) (.cons (.tail .head) (.cons (.tail .head) (.cons (.tail .head) (.cons (.tail .head) (.cons (.tail .head) (.cons (.tail .head) (.cons (.tail .head) (.cons (.tail .head) (.cons (.tail .head) (.cons (.tail .head) (.cons (.tail .head) (.cons (.tail .head) (.cons (.tail .head) .nil))))))))))))))))))) (chk_close (hR)) ?_
                    have hv : recordsP p s fr = wOrder := by unfold recordsP; rw [if_neg (fun e => by rw [(badV_iff p s).2 e] at h6; cases h6), if_neg (fun e => by rw [(badO_iff p s).2 e] at h8; cases h8), if_neg (fun e => by rw [(badU_iff p s).2 e] at h10; cases h10), if_neg (by omega), if_pos (by omega), if_pos (by rw [← hl2]; exact List.any_eq_true.2 ⟨y, List.mem_of_getElem? hy, h18⟩)]
                    rw [hv]
                    refine .retP Try.func18 (.cons (.tmp rfl) .nil) (.cons .head (.cons (.tail (.tail .head)) .nil)) ?_
                    exact ⟨[_], ⟨rfl, rfl⟩, rfl⟩
                  · refine .skip ?_
                    refine .inBlock ?_
                    refine .region ?_   -- R20 model.go:132
                    refine .rd (.add rfl rfl (by omega) (by omega)) ?_
                    refine .rd (.move rfl) ?_
                    refine .nil ?_
                    exact (ih (i + 1) ⟨by omega, all_take (p := fun y => offOrder s y = false) hy h18 hI.2⟩ (by omega)).to (.cons rfl (.cons rfl (.cons rfl (.cons rfl .nil)))) (.cons (.tail .head) (.cons (.tail .head) (.cons (.tail .head) (.cons (.tail .head) (.cons (.tail .head) (.cons (.tail .head) (.cons (.tail .head) (.cons (.tail .head) (.cons (.tail .head) (.cons (.tail .head) (.cons (.tail .head) (.cons (.tail .head) (.cons (.tail .head) (.cons (.tail .head) (.cons (.tail .head) (.cons (.tail .head) (.cons (.tail .head) (.cons (.tail .head) (.cons (.tail .head) (.cons (.tail .head) (.cons (.tail .head) .nil)))))))))))))))))))))
                · have hall : ∀ y ∈ ql, offOrder s y = false := fun y hy => hI.2 y (by rw [List.take_of_length_le (by omega)]; exact hy)
                  refine .exit rfl ?_
                  refine .seq ?_
                  refine .region ?_   -- R21 model.go:137
                  refine .rd (.assign rfl) ?_
                  refine .nil ?_
                  refine .close (X := chk c p n) (B := chkL c S b) (.cons .head (.cons .head (.cons .head (.cons .head (.cons .head (.cons .head (.cons .head (.cons .head (.cons .head (.cons .head (.cons .head (.cons .head (.cons .head (.cons .head (.cons .head (.cons .head (.cons .head (.cons .head (.cons .head .nil))))))))))))))))))) (chk_close (hR)) ?_
                  have hv : recordsP p s fr = [] := by unfold recordsP; rw [if_neg (fun e => by rw [(badV_iff p s).2 e] at h6; cases h6), if_neg (fun e => by rw [(badO_iff p s).2 e] at h8; cases h8), if_neg (fun e => by rw [(badU_iff p s).2 e] at h10; cases h10), if_neg (by omega), if_pos (by omega), if_neg (by rw [← hl2]; simpa using hall)]
                  rw [hv]
                  refine .retP Try.func18 (.cons (.tmp rfl) .nil) (.cons .head (.cons (.tail .head) .nil)) ?_
                  exact ⟨[_], ⟨rfl, rfl⟩, rfl⟩
              · refine .skip ?_
                refine .seq ?_
                refine .seq ?_
                have hl2 := hR.deletes s.part
                have hln := hR.deletesN s.part
                have hrow2 : Knows [bag (rowsOf 76 2 Mark.cells) S.deletes] (RowAt ((mget S.deletes s.part).getD row0).1 (((mget S.deletes s.part).getD row0).2.2.flatMap Mark.cells)) := Knows.row .head
                obtain ⟨r2, hr2⟩ : ∃ r, (mget S.deletes s.part).getD row0 = r := ⟨_, rfl⟩
                rw [hr2] at hl2 hrow2
                obtain ⟨qa, qc, ql⟩ := r2
                dsimp only at hl2 hrow2
                rw [← hl2] at hln
                refine .draws [3, 5, 6] [blk c b.cells 59, blk b4 s.cells 36, mp encN rowV b.m8 S.deletes] (by kernel_rfl) ?_   -- R22 model.go:139
                refine .rp 0 rfl (by kernel_rfl) (by kernel_rfl) (by kernel_rfl) (Reads.pure (.move rfl)) ?_
                refine .rp 1 rfl (by kernel_rfl) (by kernel_rfl) (by kernel_rfl) (Reads.pure (.nilCheck rfl)) ?_
                refine .rp 2 rfl (by kernel_rfl) (by kernel_rfl) (by kernel_rfl) (Reads.pure (.fieldAddr fd59_8 rfl)) ?_
                refine .rd 3 rfl rfl (by kernel_rfl) (by kernel_rfl) (by kernel_rfl) (.ld na54 rfl .head rfl) (.cons .head (.cons (.tail (.tail (.tail (.tail (.tail (.tail (.tail (.tail (.tail (.tail (.tail (.tail (.tail (.tail (.tail (.tail (.tail (.tail .head)))))))))))))))))) (.cons (.tail (.tail (.tail (.tail (.tail (.tail (.tail (.tail .head)))))))) .nil))) ?_
                refine .rp 4 rfl (by kernel_rfl) (by kernel_rfl) (by kernel_rfl) (Reads.pure (.fieldAddr fd36_3 rfl)) ?_
                refine .rd 5 rfl rfl (by kernel_rfl) (by kernel_rfl) (by kernel_rfl) (.ld na3 rfl (.tail .head) rfl) (.cons .head (.cons (.tail (.tail (.tail (.tail (.tail (.tail (.tail (.tail (.tail (.tail (.tail (.tail (.tail (.tail (.tail (.tail (.tail (.tail .head)))))))))))))))))) (.cons (.tail (.tail (.tail (.tail (.tail (.tail (.tail (.tail .head)))))))) .nil))) ?_
                refine .rd 6 rfl rfl (by kernel_rfl) (by kernel_rfl) (by kernel_rfl) (.lookup (q := s.part) kl3 Try.underlying54 (fun w => ti74.zero w) rfl rfl (.tail (.tail .head))) (.cons .head (.cons (.tail (.tail (.tail (.tail (.tail (.tail (.tail (.tail (.tail (.tail (.tail (.tail (.tail (.tail (.tail (.tail (.tail (.tail .head)))))))))))))))))) (.cons (.tail (.tail (.tail (.tail (.tail (.tail (.tail (.tail .head)))))))) .nil))) ?_
                refine .alter (t := 148) (v' := rowV (qa, qc, ql)) rfl (by rw [← hr2]; exact getD_map rowV _ row0) ?_
                refine .rp 7 rfl (by kernel_rfl) (by kernel_rfl) (by kernel_rfl) (Reads.pure (.lenL rfl rfl Try.underlying74 rfl)) ?_
                refine .rp 8 rfl (by kernel_rfl) (by kernel_rfl) (by kernel_rfl) (Reads.pure (.move rfl)) ?_
                refine .done (by kernel_rfl) ?_
                refine .block ?_
                refine .loop (σ := Nat) (fun i => i ≤ ql.length ∧ ∀ y ∈ ql.take i, laterM fr s.offset y = false) (fun i => ql.length - i) (fun i => [(2, .int .i64 fr), (4, .pointer (some ⟨b4, 0, none⟩)), (148, .slice qa ql.length qc), (149, .int .i64 ql.length), (150, .int .i64 (i : Nat))]) (fun i => [blk c b.cells 59, mp encI inV b.m0 S.calls, mp encI askV b.m1 S.kinds, mp encI Value.bool b.m2 S.done, mp encI txV b.m3 S.values, mp encI Value.bool b.m4 S.acked, mp encL inV b.m5 S.sent, mp encL rowV b.m6 S.offsets, mp enc3 rowV b.m7 S.sends, mp encN rowV b.m8 S.deletes, mp encS rowV b.m9 S.gens, mp encP rowV b.m10 S.commits, mp encI ptrV b.m11 S.opened, bag (rowsOf 3 1 icell) S.offsets, bag (rowsOf 36 12 Sn.cells) S.sends, bag (rowsOf 76 2 Mark.cells) S.deletes, bag (rowsOf 76 2 Mark.cells) S.gens, bag (rowsOf 80 1 pcell) S.commits, bag spanOf S.spans, blk b4 s.cells 36, R]) 0 ⟨Nat.zero_le _, by simp⟩ (.cons rfl (.cons rfl (.cons rfl (.cons rfl (.cons rfl .nil))))) (.cons .head (.cons .head (.cons .head (.cons .head (.cons .head (.cons .head (.cons .head (.cons .head (.cons .head (.cons .head (.cons .head (.cons .head (.cons .head (.cons .head (.cons .head (.cons .head (.cons .head (.cons .head (.cons .head (.cons .head (.cons (.tail (.tail .head)) .nil))))))))))))))))))))) (fun i hI ih => ?_)
                have hil := hI.1
                refine .seq ?_
                refine .region ?_   -- R23 model.go:139
                refine .rd (.lt rfl rfl) ?_
                refine .nil ?_
                refine .seq ?_
                refine .condP rfl (fun h23 => ?_) (fun h23 => ?_)
                · refine .skip ?_
                  refine .seq ?_
                  refine .block ?_
                  refine .seq ?_
                  obtain ⟨y, hy⟩ : ∃ y, ql[i]? = some y := ⟨_, List.getElem?_eq_getElem (by omega)⟩
                  refine .tell (φ := ∃ b o, qa = some ⟨b, o, none⟩) (Knows.pick (.tail (.tail (.tail (.tail (.tail (.tail (.tail (.tail (.tail (.tail (.tail (.tail (.tail (.tail (.tail .head))))))))))))))) (hrow2.mono fun _ h => RowAt.addr h (by rw [flat_length Mark.cells_len]; omega))) (fun hh => ?_)
                  obtain ⟨bb, oo, rfl⟩ := hh
                  refine .region ?_   -- R24 model.go:139
                  refine .rd (.indexAddr Try.underlying74 ts76 rfl rfl (by omega) (by omega)) ?_
                  refine .rd (.loadN ia76 ts76 rfl rfl (Knows.elem (f := Mark.cells) Mark.cells_len (by decide) (Knows.pick (.tail (.tail (.tail (.tail (.tail (.tail (.tail (.tail (.tail (.tail (.tail (.tail (.tail (.tail (.tail .head))))))))))))))) hrow2) hy)) ?_
                  refine .ef (.alloc ti76 rfl (ones.of rfl)) ?_
                  rintro _ _ ⟨b15, rfl, rfl⟩
                  refine .ef0 (.storeAll (vs := y.cells) ts76 rfl rfl rfl .head rfl (ones.of rfl)) ?_
                  rintro _ _ rfl
                  refine .nil ?_
                  refine .seq ?_
                  refine .region ?_   -- R25 model.go:140
                  refine RunO.join 11 164 (laterM fr s.offset y) ?_ ?_
                  · refine .rd (.fieldAddr fd76_0 rfl) ?_
                    refine .rd (.ld na3 rfl .head rfl) ?_
                    refine .rd (.move rfl) ?_
                    refine .rd (.lt rfl rfl) ?_
                    refine .rd (.move rfl) ?_
                    refine .split (t := 158) rfl (fun g25_4 => ?_) (fun g25_4 => ?_)
                    · replace g25_4 := of_decide_eq_true g25_4
                      refine .on (t := 158) rfl rfl ?_
                      refine .rd (.fieldAddr fd76_1 rfl) ?_
                      refine .on (t := 158) rfl rfl ?_
                      refine .rd (.ld na3 rfl .head rfl) ?_
                      refine .on (t := 158) rfl rfl ?_
                      refine .rd (.fieldAddr fd36_4 rfl) ?_
                      refine .on (t := 158) rfl rfl ?_
                      refine .rd (.ld na3 rfl (.tail (.tail (.tail (.tail (.tail (.tail (.tail (.tail (.tail (.tail (.tail (.tail (.tail (.tail (.tail (.tail (.tail (.tail (.tail (.tail .head)))))))))))))))))))) rfl) ?_
                      refine .on (t := 158) rfl rfl ?_
                      refine .rd (.gt rfl rfl) ?_
                      refine .rd (.pickT rfl rfl) ?_
                      refine .nil ⟨rfl, ?_, by repeat (first | exact Le.refl _ | refine Le.skip rfl ?_)⟩
                      exact congrArg (fun x => some (Value.bool x)) (Eq.symm (show laterM fr s.offset y = _ by unfold laterM; rw [decide_eq_true (p := y.at_ < fr) (by omega)]; rfl))
                    · replace g25_4 := of_decide_eq_false g25_4
                      refine .off (t := 158) rfl rfl rfl ?_
                      refine .off (t := 158) rfl rfl rfl ?_
                      refine .off (t := 158) rfl rfl rfl ?_
                      refine .off (t := 158) rfl rfl rfl ?_
                      refine .off (t := 158) rfl rfl rfl ?_
                      refine .rd (.pickF rfl rfl) ?_
                      refine .nil ⟨rfl, ?_, by repeat (first | exact Le.refl _ | refine Le.skip rfl ?_)⟩
                      exact congrArg (fun x => some (Value.bool x)) (Eq.symm (show laterM fr s.offset y = _ by unfold laterM; rw [decide_eq_false (p := y.at_ < fr) (by omega)]; rfl))
                  refine .nil ?_
                  refine .cond rfl (fun h25 => ?_) (fun h25 => ?_)
                  · refine .seq ?_
                    refine .region ?_   -- R26 model.go:141
                    refine .rd (.assign rfl) ?_
                    refine .nil ?_
                    refine .close (X := chk c p n) (B := chkL c S b) (.cons (.tail .head) (.cons (.tail .head) (.cons (.tail .head) (.cons (.tail .head) (.cons (.tail .head) (.cons (.tail .head) (.cons (.tail .head) (.cons (.tail .head) (.cons (.tail .head) (.cons (.tail .head) (.cons (.tail .head) (.cons (.tail .head) (.cons (.tail .head) (.cons (.tail .head) (.cons (.tail .head) (.cons (.tail .head) (.cons (.tail .head) (.cons (.tail .head) (.cons (.tail .head) .nil))))))))))))))))))) (chk_close (hR)) ?_
                    have hv : recordsP p s fr = wDeleted := by unfold recordsP; rw [if_neg (fun e => by rw [(badV_iff p s).2 e] at h6; cases h6), if_neg (fun e => by rw [(badO_iff p s).2 e] at h8; cases h8), if_neg (fun e => by rw [(badU_iff p s).2 e] at h10; cases h10), if_neg (by omega), if_neg (by omega), if_pos (by rw [← hl2]; exact List.any_eq_true.2 ⟨y, List.mem_of_getElem? hy, h25⟩)]
                    rw [hv]
                    refine .retP Try.func18 (.cons (.tmp rfl) .nil) (.cons .head (.cons (.tail (.tail .head)) .nil)) ?_
                    exact ⟨[_], ⟨rfl, rfl⟩, rfl⟩
                  · refine .skip ?_
                    refine .inBlock ?_
                    refine .region ?_   -- R27 model.go:139
                    refine .rd (.add rfl rfl (by omega) (by omega)) ?_
                    refine .rd (.move rfl) ?_
                    refine .nil ?_
                    exact (ih (i + 1) ⟨by omega, all_take (p := fun y => laterM fr s.offset y = false) hy h25 hI.2⟩ (by omega)).to (.cons rfl (.cons rfl (.cons rfl (.cons rfl (.cons rfl .nil))))) (.cons (.tail .head) (.cons (.tail .head) (.cons (.tail .head) (.cons (.tail .head) (.cons (.tail .head) (.cons (.tail .head) (.cons (.tail .head) (.cons (.tail .head) (.cons (.tail .head) (.cons (.tail .head) (.cons (.tail .head) (.cons (.tail .head) (.cons (.tail .head) (.cons (.tail .head) (.cons (.tail .head) (.cons (.tail .head) (.cons (.tail .head) (.cons (.tail .head) (.cons (.tail .head) (.cons (.tail .head) (.cons (.tail .head) .nil)))))))))))))))))))))
                · have hall : ∀ y ∈ ql, laterM fr s.offset y = false := fun y hy => hI.2 y (by rw [List.take_of_length_le (by omega)]; exact hy)
                  refine .exit rfl ?_
                  refine .seq ?_
                  refine .region ?_   -- R28 model.go:144
                  refine .rd (.assign rfl) ?_
                  refine .nil ?_
                  refine .close (X := chk c p n) (B := chkL c S b) (.cons .head (.cons .head (.cons .head (.cons .head (.cons .head (.cons .head (.cons .head (.cons .head (.cons .head (.cons .head (.cons .head (.cons .head (.cons .head (.cons .head (.cons .head (.cons .head (.cons .head (.cons .head (.cons .head .nil))))))))))))))))))) (chk_close (hR)) ?_
                  have hv : recordsP p s fr = [] := by unfold recordsP; rw [if_neg (fun e => by rw [(badV_iff p s).2 e] at h6; cases h6), if_neg (fun e => by rw [(badO_iff p s).2 e] at h8; cases h8), if_neg (fun e => by rw [(badU_iff p s).2 e] at h10; cases h10), if_neg (by omega), if_neg (by omega), if_neg (by rw [← hl2]; simpa using hall)]
                  rw [hv]
                  refine .retP Try.func18 (.cons (.tmp rfl) .nil) (.cons .head (.cons (.tail .head) .nil)) ?_
                  exact ⟨[_], ⟨rfl, rfl⟩, rfl⟩
    · refine .condN rfl (fun h3 => ?_) (fun h3 => ?_)
      · refine .region ?_   -- R4 model.go:118
        refine .rd (.move rfl) ?_
        refine .rd (.add rfl rfl (by omega) (by omega)) ?_
        refine .rd (.assign rfl) ?_
        refine .nil ?_
        exact fin (.cons rfl (.cons rfl (.cons rfl (.cons rfl (.cons rfl (.cons (by show _ = some (Value.int .i64 (manyP p s)); unfold manyP; rw [← hof, if_neg h3]; rfl) .nil)))))) (.cons (.tail (.tail (.tail .head))) (.cons (.tail (.tail (.tail .head))) (.cons (.tail (.tail (.tail .head))) (.cons (.tail (.tail (.tail .head))) (.cons (.tail (.tail (.tail .head))) (.cons (.tail (.tail (.tail .head))) (.cons (.tail (.tail (.tail .head))) (.cons (.tail (.tail (.tail .head))) (.cons (.tail (.tail (.tail .head))) (.cons (.tail (.tail (.tail .head))) (.cons (.tail (.tail (.tail .head))) (.cons (.tail (.tail (.tail .head))) (.cons (.tail (.tail (.tail .head))) (.cons (.tail (.tail (.tail .head))) (.cons (.tail (.tail (.tail .head))) (.cons (.tail (.tail (.tail .head))) (.cons (.tail (.tail (.tail .head))) (.cons (.tail (.tail (.tail .head))) (.cons (.tail (.tail (.tail .head))) (.cons (.tail (.tail .head)) (.cons (.tail .head) (.cons .head (.cons .head .nil)))))))))))))))))))))))
      · refine .skip ?_
        exact fin (.cons rfl (.cons rfl (.cons rfl (.cons rfl (.cons rfl (.cons (by show _ = some (Value.int .i64 (manyP p s)); unfold manyP; rw [← hof, if_pos h3, Int.add_zero]; rfl) .nil)))))) (.cons (.tail (.tail (.tail .head))) (.cons (.tail (.tail (.tail .head))) (.cons (.tail (.tail (.tail .head))) (.cons (.tail (.tail (.tail .head))) (.cons (.tail (.tail (.tail .head))) (.cons (.tail (.tail (.tail .head))) (.cons (.tail (.tail (.tail .head))) (.cons (.tail (.tail (.tail .head))) (.cons (.tail (.tail (.tail .head))) (.cons (.tail (.tail (.tail .head))) (.cons (.tail (.tail (.tail .head))) (.cons (.tail (.tail (.tail .head))) (.cons (.tail (.tail (.tail .head))) (.cons (.tail (.tail (.tail .head))) (.cons (.tail (.tail (.tail .head))) (.cons (.tail (.tail (.tail .head))) (.cons (.tail (.tail (.tail .head))) (.cons (.tail (.tail (.tail .head))) (.cons (.tail (.tail (.tail .head))) (.cons (.tail (.tail .head)) (.cons (.tail .head) (.cons .head (.cons .head .nil)))))))))))))))))))))))

end Go.Proofs.Ytahpokcigdjilaa

