/- Steps through functions of the program, under conditions that each theorem states (part mod4 of a claim). -/
import Derived.Test.YtahpokcigdjilaaProg
import Derived.Test.YtahpokcigdjilaaL18
import Derived.Test.YtahpokcigdjilaaMod3
namespace Go.Proofs.Ytahpokcigdjilaa
open Go Go.Sp

set_option linter.unusedVariables false

namespace mod4
theorem fd36_0 : FD Try.prog 36 0 0 := .of Try.underlying36 (by kernel_rfl)
theorem na3 : NotAgg Try.prog 3 := ⟨_, Try.underlying3, trivial⟩
theorem fd36_1 : FD Try.prog 36 1 1 := .of Try.underlying36 (by kernel_rfl)
theorem bld67_0_1 (x0 : Int) (x1 : Int) (w : World) : (Instr.build 67 (([0, 1] : List Nat).zip [.int .i64 x0, .int .i64 x1]).toArray).run Try.prog w = .ok (.agg #[.int .i64 x0, .int .i64 x1]) w := by kernel_rfl
theorem ti67 : TI Try.prog 67 2 16 (.agg #[.int .i64 0, .int .i64 0]) := .of (by kernel_rfl)
theorem ts67 : TS Try.prog 67 2 := .of (by kernel_rfl)
theorem fd59_0 : FD Try.prog 59 0 0 := .of Try.underlying59 (by kernel_rfl)
theorem na46 : NotAgg Try.prog 46 := ⟨_, Try.underlying46, trivial⟩
theorem ia67 : IsAgg Try.prog 67 := ⟨_, Try.underlying67, trivial⟩
theorem ti3 : TI Try.prog 3 1 8 (.int .i64 0) := .of (by kernel_rfl)
theorem fd36_11 : FD Try.prog 36 11 11 := .of Try.underlying36 (by kernel_rfl)
theorem na4 : NotAgg Try.prog 4 := ⟨_, Try.underlying4, trivial⟩
theorem fd36_10 : FD Try.prog 36 10 10 := .of Try.underlying36 (by kernel_rfl)
theorem na34 : NotAgg Try.prog 34 := ⟨_, Try.underlying34, trivial⟩
theorem fd36_2 : FD Try.prog 36 2 2 := .of Try.underlying36 (by kernel_rfl)
theorem ia36 : IsAgg Try.prog 36 := ⟨_, Try.underlying36, trivial⟩
theorem ts36 : TS Try.prog 36 12 := .of (by kernel_rfl)
theorem fd59_9 : FD Try.prog 59 9 9 := .of Try.underlying59 (by kernel_rfl)
theorem na55 : NotAgg Try.prog 55 := ⟨_, Try.underlying55, trivial⟩
theorem fd36_8 : FD Try.prog 36 8 8 := .of Try.underlying36 (by kernel_rfl)
theorem na9 : NotAgg Try.prog 9 := ⟨_, Try.underlying9, trivial⟩
theorem ti74 : TI Try.prog 74 1 24 (.slice none 0 0) := .of (by kernel_rfl)
theorem ts76 : TS Try.prog 76 2 := .of (by kernel_rfl)
theorem ia76 : IsAgg Try.prog 76 := ⟨_, Try.underlying76, trivial⟩
theorem ti76 : TI Try.prog 76 2 16 (.agg #[.int .i64 0, .int .i64 0]) := .of (by kernel_rfl)
theorem fd76_1 : FD Try.prog 76 1 1 := .of Try.underlying76 (by kernel_rfl)
theorem fd36_7 : FD Try.prog 36 7 7 := .of Try.underlying36 (by kernel_rfl)
theorem fd76_0 : FD Try.prog 76 0 0 := .of Try.underlying76 (by kernel_rfl)
theorem fd59_2 : FD Try.prog 59 2 2 := .of Try.underlying59 (by kernel_rfl)
theorem na48 : NotAgg Try.prog 48 := ⟨_, Try.underlying48, trivial⟩
theorem ti4 : TI Try.prog 4 1 1 (.bool false) := .of (by kernel_rfl)
theorem fd59_1 : FD Try.prog 59 1 1 := .of Try.underlying59 (by kernel_rfl)
theorem na47 : NotAgg Try.prog 47 := ⟨_, Try.underlying47, trivial⟩
theorem ti72 : TI Try.prog 72 3 32 (.agg #[.int .i64 0, .string ⟨#[]⟩, .int .i64 0]) := .of (by kernel_rfl)
theorem fd36_3 : FD Try.prog 36 3 3 := .of Try.underlying36 (by kernel_rfl)
theorem bld70_0_1 (x0 : ByteArray) (x1 : Int) (w : World) : (Instr.build 70 (([0, 1] : List Nat).zip [.string x0, .int .i64 x1]).toArray).run Try.prog w = .ok (.agg #[.string x0, .int .i64 x1]) w := by kernel_rfl
theorem bld72_0_1 (x0 : Int) (x1_0 : ByteArray) (x1_1 : Int) (w : World) : (Instr.build 72 (([0, 1] : List Nat).zip [.int .i64 x0, .agg #[.string x1_0, .int .i64 x1_1]]).toArray).run Try.prog w = .ok (.agg #[.int .i64 x0, .string x1_0, .int .i64 x1_1]) w := by kernel_rfl
end mod4
open mod4



set_option maxHeartbeats 2000000 in
set_option maxRecDepth 20000 in
theorem wrong_ok (c : Nat) (p : PS) (n : Nat) (s : Sn) (hn : n ≤ 1000000) : Cn Try.prog 13 [ptrV c, .agg s.cells.toArray] (fun _ => True) [chk c p n] fun v G => v = .string (str (wrongP p s)) ∧ G = [chk c p n] := by
  refine .enter Try.func13 rfl (by kernel_rfl) rfl fun R k => ?_
  refine .open_ (σ := CS × Bl) (φ := fun x => Rel x.1 p n) (B := fun x => chkL c x.1 x.2) .head chk_open (fun x hR => ?_)
  obtain ⟨S, b⟩ := x
  dsimp only at hR
  simp only [chkL, List.cons_append, List.nil_append]
  refine .seq ?_
  refine .region ?_   -- R0 model.go:81
  refine .ef (.box (l := s.cells) rfl rfl (ones.of rfl)) ?_
  rintro _ _ ⟨b3, rfl, rfl⟩
  refine .rd (.assign rfl) ?_
  refine .nil ?_
  refine .seq ?_
  refine .region ?_   -- R1 model.go:82
  refine .rd (.fieldAddr fd36_0 rfl) ?_
  refine .rd (.ld na3 rfl .head rfl) ?_
  refine .rd (.fieldAddr fd36_1 rfl) ?_
  refine .rd (.ld na3 rfl .head rfl) ?_
  refine .rd (.build rfl (bld67_0_1 _ _)) ?_
  refine .ef (.alloc ti67 rfl (ones.of rfl)) ?_
  rintro _ _ ⟨b5, rfl, rfl⟩
  refine .ef0 (.storeAll ts67 rfl rfl rfl .head rfl (ones.of rfl)) ?_
  rintro _ _ rfl
  refine .nil ?_
  refine .seq ?_
  refine .draws [3, 4, 5] [blk c b.cells 59, blk b5 [.int .i64 s.client, .int .i64 s.call] 67, mp encI inV b.m0 S.calls] (by kernel_rfl) ?_   -- R2 model.go:83
  refine .rp 0 rfl (by kernel_rfl) (by kernel_rfl) (by kernel_rfl) (Reads.pure (.move rfl)) ?_
  refine .rp 1 rfl (by kernel_rfl) (by kernel_rfl) (by kernel_rfl) (Reads.pure (.nilCheck rfl)) ?_
  refine .rp 2 rfl (by kernel_rfl) (by kernel_rfl) (by kernel_rfl) (Reads.pure (.fieldAddr fd59_0 rfl)) ?_
  refine .rd 3 rfl rfl (by kernel_rfl) (by kernel_rfl) (by kernel_rfl) (.ld na46 rfl .head rfl) (.cons (.tail (.tail .head)) (.cons .head (.cons (.tail .head) .nil))) ?_
  refine .rd 4 rfl rfl (by kernel_rfl) (by kernel_rfl) (by kernel_rfl) (.ldN ia67 ts67 rfl (.tail .head) rfl) (.cons (.tail (.tail .head)) (.cons .head (.cons (.tail .head) .nil))) ?_
  refine .rd 5 rfl rfl (by kernel_rfl) (by kernel_rfl) (by kernel_rfl) (.lookupOk (q := s.id) kl67 Try.underlying46 (fun w => ti3.zero w) rfl rfl (.tail (.tail .head))) (.cons (.tail (.tail .head)) (.cons .head (.cons (.tail .head) .nil))) ?_
  refine .alter (t := 23) (v' := .tuple #[.int .i64 ((p.calls s.id).getD 0), .bool (p.calls s.id).isSome]) rfl (by rw [← hR.calls]; cases mget S.calls s.id <;> rfl) ?_
  refine .rp 6 rfl (by kernel_rfl) (by kernel_rfl) (by kernel_rfl) (Reads.pure (.move rfl)) ?_
  refine .rp 7 rfl (by kernel_rfl) (by kernel_rfl) (by kernel_rfl) (Reads.pure (.extract rfl rfl)) ?_
  refine .rp 8 rfl (by kernel_rfl) (by kernel_rfl) (by kernel_rfl) (Reads.pure (.extract rfl rfl)) ?_
  refine .rp 9 rfl (by kernel_rfl) (by kernel_rfl) (by kernel_rfl) (Reads.pure (.assign rfl)) ?_
  refine .rp 10 rfl (by kernel_rfl) (by kernel_rfl) (by kernel_rfl) (Reads.pure (.assign rfl)) ?_
  refine .done (by kernel_rfl) ?_
  refine .seq ?_
  refine .block ?_
  refine .seq ?_
  refine .seq ?_
  refine .region ?_   -- R3 model.go:85
  refine RunO.join 7 26 (badC1 p s) ?_ ?_
  · refine .rd (.fieldAddr fd36_11 rfl) ?_
    refine .rd (.ld na4 rfl (.tail .head) rfl) ?_
    refine .rd (.not rfl) ?_
    refine .rd (.move rfl) ?_
    refine .split (t := 30) rfl (fun g3 => ?_) (fun g3 => ?_)
    · refine .on (t := 30) rfl rfl ?_
      refine .rd (.move rfl) ?_
      refine .rd (.pickT rfl rfl) ?_
      refine .rd (.assign rfl) ?_
      refine .nil ⟨rfl, ?_, by repeat (first | exact Le.refl _ | refine Le.skip rfl ?_)⟩
      exact congrArg (fun x => some (Value.bool x)) (Eq.symm (show badC1 p s = _ by unfold badC1; rw [g3]; rfl))
    · refine .off (t := 30) rfl rfl rfl ?_
      refine .rd (.pickF rfl rfl) ?_
      refine .rd (.assign rfl) ?_
      refine .nil ⟨rfl, ?_, by repeat (first | exact Le.refl _ | refine Le.skip rfl ?_)⟩
      exact congrArg (fun x => some (Value.bool x)) (Eq.symm (show badC1 p s = _ by unfold badC1; rw [g3]; rfl))
  refine .nil ?_
  refine .joinAt (E' := [(0, .pointer (some ⟨c, 0, none⟩)), (3, .pointer (some ⟨b3, 0, none⟩)), (5, .pointer (some ⟨b5, 0, none⟩)), (6, .int .i64 ((p.calls s.id).getD 0)), (7, .bool (p.calls s.id).isSome), (26, .bool (badC1 p s || badC2 p s))]) (Γ' := [blk c b.cells 59, mp encI inV b.m0 S.calls, mp encI askV b.m1 S.kinds, mp encI Value.bool b.m2 S.done, mp encI txV b.m3 S.values, mp encI Value.bool b.m4 S.acked, mp encL inV b.m5 S.sent, mp encL rowV b.m6 S.offsets, mp enc3 rowV b.m7 S.sends, mp encN rowV b.m8 S.deletes, mp encS rowV b.m9 S.gens, mp encP rowV b.m10 S.commits, mp encI ptrV b.m11 S.opened, bag (rowsOf 3 1 icell) S.offsets, bag (rowsOf 36 12 Sn.cells) S.sends, bag (rowsOf 76 2 Mark.cells) S.deletes, bag (rowsOf 76 2 Mark.cells) S.gens, bag (rowsOf 80 1 pcell) S.commits, bag spanOf S.spans, blk b3 s.cells 36, blk b5 [.int .i64 s.client, .int .i64 s.call] 67, R]) ?_ (fun fin => ?_)
  · refine .cond rfl (fun h103 => ?_) (fun h103 => ?_)
    · refine .seq ?_
      refine .region ?_   -- R5 model.go:86
      refine .rd (.assign rfl) ?_
      refine .nil ?_
      refine .close (X := chk c p n) (B := chkL c S b) (.cons .head (.cons .head (.cons .head (.cons .head (.cons .head (.cons .head (.cons .head (.cons .head (.cons .head (.cons .head (.cons .head (.cons .head (.cons .head (.cons .head (.cons .head (.cons .head (.cons .head (.cons .head (.cons .head .nil))))))))))))))))))) (chk_close (hR)) ?_
      have hv : wrongP p s = wCall := by exact wrong_call h103
      rw [hv]
      refine .retP Try.func13 (.cons (.tmp rfl) .nil) (.cons .head (.cons (.tail (.tail .head)) .nil)) ?_
      exact ⟨[_], ⟨rfl, rfl⟩, rfl⟩
    · refine .seq ?_
      refine .region ?_   -- R6 model.go:87
      refine RunO.join 9 64 (quiet s) ?_ ?_
      · refine .rd (.fieldAddr fd36_11 rfl) ?_
        refine .rd (.ld na4 rfl (.tail (.tail (.tail (.tail (.tail (.tail (.tail (.tail (.tail (.tail (.tail (.tail (.tail (.tail (.tail (.tail (.tail (.tail (.tail .head))))))))))))))))))) rfl) ?_
        refine .rd (.not rfl) ?_
        refine .rd (.move rfl) ?_
        refine .split (t := 68) rfl (fun g6 => ?_) (fun g6 => ?_)
        · refine .off (t := 68) rfl rfl rfl ?_
          refine .off (t := 68) rfl rfl rfl ?_
          refine .off (t := 68) rfl rfl rfl ?_
          refine .rd (.pickT rfl rfl) ?_
          refine .rd (.assign rfl) ?_
          refine .nil ⟨rfl, ?_, by repeat (first | exact Le.refl _ | refine Le.skip rfl ?_)⟩
          exact congrArg (fun x => some (Value.bool x)) (Eq.symm (show quiet s = _ by unfold quiet; rw [g6]; rfl))
        · refine .on (t := 68) rfl rfl ?_
          refine .rd (.fieldAddr fd36_10 rfl) ?_
          refine .on (t := 68) rfl rfl ?_
          refine .rd (.ld na34 rfl (.tail (.tail (.tail (.tail (.tail (.tail (.tail (.tail (.tail (.tail (.tail (.tail (.tail (.tail (.tail (.tail (.tail (.tail (.tail .head))))))))))))))))))) rfl) ?_
          refine .on (t := 68) rfl rfl ?_
          refine .rd (.neI rfl rfl) ?_
          refine .rd (.pickF rfl rfl) ?_
          refine .rd (.assign rfl) ?_
          refine .nil ⟨rfl, ?_, by repeat (first | exact Le.refl _ | refine Le.skip rfl ?_)⟩
          exact congrArg (fun x => some (Value.bool x)) (Eq.symm (show quiet s = _ by unfold quiet; rw [g6]; rfl))
      refine .nil ?_
      refine .cond rfl (fun h6 => ?_) (fun h6 => ?_)
      · refine .seq ?_
        refine .region ?_   -- R7 model.go:88
        refine .rd (.assign rfl) ?_
        refine .nil ?_
        refine .close (X := chk c p n) (B := chkL c S b) (.cons .head (.cons .head (.cons .head (.cons .head (.cons .head (.cons .head (.cons .head (.cons .head (.cons .head (.cons .head (.cons .head (.cons .head (.cons .head (.cons .head (.cons .head (.cons .head (.cons .head (.cons .head (.cons .head .nil))))))))))))))))))) (chk_close (hR)) ?_
        have hv : wrongP p s = [] := by exact wrong_quiet h103 h6
        rw [hv]
        refine .retP Try.func13 (.cons (.tmp rfl) .nil) (.cons .head (.cons (.tail (.tail .head)) .nil)) ?_
        exact ⟨[_], ⟨rfl, rfl⟩, rfl⟩
      · refine .skip ?_
        refine .inBlock ?_
        refine .seq ?_
        refine .seq ?_
        refine .region ?_   -- R8 model.go:90
        refine .rd (.fieldAddr fd36_2 rfl) ?_
        refine .rd (.ld na3 rfl (.tail (.tail (.tail (.tail (.tail (.tail (.tail (.tail (.tail (.tail (.tail (.tail (.tail (.tail (.tail (.tail (.tail (.tail (.tail .head))))))))))))))))))) rfl) ?_
        refine .nil ?_
        refine .block ?_
        refine .seq ?_
        refine .seq ?_
        refine .region ?_   -- R9 model.go:91
        refine .rd (.eqI rfl rfl) ?_
        refine .rd (.assign rfl) ?_
        refine .nil ?_
        refine .joinAt (E' := [(0, .pointer (some ⟨c, 0, none⟩)), (3, .pointer (some ⟨b3, 0, none⟩)), (6, .int .i64 ((p.calls s.id).getD 0)), (74, .int .i64 s.kind), (75, .bool (decide (s.kind = 10) || decide (s.kind = 1)))]) (Γ' := [blk c b.cells 59, mp encI inV b.m0 S.calls, mp encI askV b.m1 S.kinds, mp encI Value.bool b.m2 S.done, mp encI txV b.m3 S.values, mp encI Value.bool b.m4 S.acked, mp encL inV b.m5 S.sent, mp encL rowV b.m6 S.offsets, mp enc3 rowV b.m7 S.sends, mp encN rowV b.m8 S.deletes, mp encS rowV b.m9 S.gens, mp encP rowV b.m10 S.commits, mp encI ptrV b.m11 S.opened, bag (rowsOf 3 1 icell) S.offsets, bag (rowsOf 36 12 Sn.cells) S.sends, bag (rowsOf 76 2 Mark.cells) S.deletes, bag (rowsOf 76 2 Mark.cells) S.gens, bag (rowsOf 80 1 pcell) S.commits, bag spanOf S.spans, blk b3 s.cells 36, blk b5 [.int .i64 s.client, .int .i64 s.call] 67, R]) ?_ (fun fin => ?_)
        · refine .cond rfl (fun h109 => ?_) (fun h109 => ?_)
          · refine .seq ?_
            refine .close (X := chk c p n) (B := chkL c S b) (.cons .head (.cons .head (.cons .head (.cons .head (.cons .head (.cons .head (.cons .head (.cons .head (.cons .head (.cons .head (.cons .head (.cons .head (.cons .head (.cons .head (.cons .head (.cons .head (.cons .head (.cons .head (.cons .head .nil))))))))))))))))))) (chk_close (hR)) ?_
            refine .region ?_   -- R11 model.go:92
            refine .rd (.move rfl) ?_
            refine .rd (.ldN ia36 ts36 rfl (.tail .head) rfl) ?_
            refine .rd (.move rfl) ?_
            refine .fn rfl rfl (.cons .head .nil) (fun _ _ _ => trivial) (records_ok c p n s ((p.calls s.id).getD 0) hn) (fun v G1 hq => ?_)
            obtain ⟨rfl, rfl⟩ := hq
            simp only [List.cons_append, List.nil_append]
            refine .rd (.assign rfl) ?_
            refine .nil ?_
            have hv : wrongP p s = recordsP p s ((p.calls s.id).getD 0) := by rw [wrong_go h103 h6, if_pos (by simpa using h109)]
            rw [hv]
            refine .retP Try.func13 (.cons (.tmp rfl) .nil) (.cons .head (.cons (.tail (.tail .head)) .nil)) ?_
            exact ⟨[_], ⟨rfl, rfl⟩, rfl⟩
          · refine .seq ?_
            refine .seq ?_
            refine .region ?_   -- R12 model.go:93
            refine .rd (.eqI rfl rfl) ?_
            refine .rd (.assign rfl) ?_
            refine .nil ?_
            refine .joinAt (E' := [(0, .pointer (some ⟨c, 0, none⟩)), (3, .pointer (some ⟨b3, 0, none⟩)), (6, .int .i64 ((p.calls s.id).getD 0)), (74, .int .i64 s.kind), (82, .bool (decide (s.kind = 2) || decide (s.kind = 3)))]) (Γ' := [blk c b.cells 59, mp encI inV b.m0 S.calls, mp encI askV b.m1 S.kinds, mp encI Value.bool b.m2 S.done, mp encI txV b.m3 S.values, mp encI Value.bool b.m4 S.acked, mp encL inV b.m5 S.sent, mp encL rowV b.m6 S.offsets, mp enc3 rowV b.m7 S.sends, mp encN rowV b.m8 S.deletes, mp encS rowV b.m9 S.gens, mp encP rowV b.m10 S.commits, mp encI ptrV b.m11 S.opened, bag (rowsOf 3 1 icell) S.offsets, bag (rowsOf 36 12 Sn.cells) S.sends, bag (rowsOf 76 2 Mark.cells) S.deletes, bag (rowsOf 76 2 Mark.cells) S.gens, bag (rowsOf 80 1 pcell) S.commits, bag spanOf S.spans, blk b3 s.cells 36, blk b5 [.int .i64 s.client, .int .i64 s.call] 67, R]) ?_ (fun fin => ?_)
            · refine .cond rfl (fun h112 => ?_) (fun h112 => ?_)
              · refine .seq ?_
                have hl2 := hR.gens s.name
                have hln := hR.gensN s.name
                have hrow2 : Knows [bag (rowsOf 76 2 Mark.cells) S.gens] (RowAt ((mget S.gens s.name).getD row0).1 (((mget S.gens s.name).getD row0).2.2.flatMap Mark.cells)) := Knows.row .head
                obtain ⟨r2, hr2⟩ : ∃ r, (mget S.gens s.name).getD row0 = r := ⟨_, rfl⟩
                rw [hr2] at hl2 hrow2
                obtain ⟨qa, qc, ql⟩ := r2
                dsimp only at hl2 hrow2
                rw [← hl2] at hln
                refine .draws [3, 5, 6] [blk c b.cells 59, blk b3 s.cells 36, mp encS rowV b.m9 S.gens] (by kernel_rfl) ?_   -- R14 model.go:94
                refine .rp 0 rfl (by kernel_rfl) (by kernel_rfl) (by kernel_rfl) (Reads.pure (.move rfl)) ?_
                refine .rp 1 rfl (by kernel_rfl) (by kernel_rfl) (by kernel_rfl) (Reads.pure (.nilCheck rfl)) ?_
                refine .rp 2 rfl (by kernel_rfl) (by kernel_rfl) (by kernel_rfl) (Reads.pure (.fieldAddr fd59_9 rfl)) ?_
                refine .rd 3 rfl rfl (by kernel_rfl) (by kernel_rfl) (by kernel_rfl) (.ld na55 rfl .head rfl) (.cons .head (.cons (.tail (.tail (.tail (.tail (.tail (.tail (.tail (.tail (.tail (.tail (.tail (.tail (.tail (.tail (.tail (.tail (.tail (.tail .head)))))))))))))))))) (.cons (.tail (.tail (.tail (.tail (.tail (.tail (.tail (.tail (.tail .head))))))))) .nil))) ?_
                refine .rp 4 rfl (by kernel_rfl) (by kernel_rfl) (by kernel_rfl) (Reads.pure (.fieldAddr fd36_8 rfl)) ?_
                refine .rd 5 rfl rfl (by kernel_rfl) (by kernel_rfl) (by kernel_rfl) (.ld na9 rfl (.tail .head) rfl) (.cons .head (.cons (.tail (.tail (.tail (.tail (.tail (.tail (.tail (.tail (.tail (.tail (.tail (.tail (.tail (.tail (.tail (.tail (.tail (.tail .head)))))))))))))))))) (.cons (.tail (.tail (.tail (.tail (.tail (.tail (.tail (.tail (.tail .head))))))))) .nil))) ?_
                refine .rd 6 rfl rfl (by kernel_rfl) (by kernel_rfl) (by kernel_rfl) (.lookup (q := s.name) kl9 Try.underlying55 (fun w => ti74.zero w) rfl rfl (.tail (.tail .head))) (.cons .head (.cons (.tail (.tail (.tail (.tail (.tail (.tail (.tail (.tail (.tail (.tail (.tail (.tail (.tail (.tail (.tail (.tail (.tail (.tail .head)))))))))))))))))) (.cons (.tail (.tail (.tail (.tail (.tail (.tail (.tail (.tail (.tail .head))))))))) .nil))) ?_
                refine .alter (t := 91) (v' := rowV (qa, qc, ql)) rfl (by rw [← hr2]; exact getD_map rowV _ row0) ?_
                refine .rp 7 rfl (by kernel_rfl) (by kernel_rfl) (by kernel_rfl) (Reads.pure (.lenL rfl rfl Try.underlying74 rfl)) ?_
                refine .rp 8 rfl (by kernel_rfl) (by kernel_rfl) (by kernel_rfl) (Reads.pure (.move rfl)) ?_
                refine .done (by kernel_rfl) ?_
                refine .block ?_
                refine .loop (σ := Nat) (fun i => i ≤ ql.length ∧ ∀ y ∈ ql.take i, genM ((p.calls s.id).getD 0) s.seq y = false) (fun i => ql.length - i) (fun i => [(0, .pointer (some ⟨c, 0, none⟩)), (3, .pointer (some ⟨b3, 0, none⟩)), (6, .int .i64 ((p.calls s.id).getD 0)), (91, .slice qa ql.length qc), (92, .int .i64 ql.length), (93, .int .i64 (i : Nat))]) (fun i => [blk c b.cells 59, mp encI inV b.m0 S.calls, mp encI askV b.m1 S.kinds, mp encI Value.bool b.m2 S.done, mp encI txV b.m3 S.values, mp encI Value.bool b.m4 S.acked, mp encL inV b.m5 S.sent, mp encL rowV b.m6 S.offsets, mp enc3 rowV b.m7 S.sends, mp encN rowV b.m8 S.deletes, mp encS rowV b.m9 S.gens, mp encP rowV b.m10 S.commits, mp encI ptrV b.m11 S.opened, bag (rowsOf 3 1 icell) S.offsets, bag (rowsOf 36 12 Sn.cells) S.sends, bag (rowsOf 76 2 Mark.cells) S.deletes, bag (rowsOf 76 2 Mark.cells) S.gens, bag (rowsOf 80 1 pcell) S.commits, bag spanOf S.spans, blk b3 s.cells 36, R]) 0 ⟨Nat.zero_le _, by simp⟩ (.cons rfl (.cons rfl (.cons rfl (.cons rfl (.cons rfl (.cons rfl .nil)))))) (.cons .head (.cons .head (.cons .head (.cons .head (.cons .head (.cons .head (.cons .head (.cons .head (.cons .head (.cons .head (.cons .head (.cons .head (.cons .head (.cons .head (.cons .head (.cons .head (.cons .head (.cons .head (.cons .head (.cons .head (.cons (.tail .head) .nil))))))))))))))))))))) (fun i hI ih => ?_)
                have hil := hI.1
                refine .seq ?_
                refine .region ?_   -- R15 model.go:94
                refine .rd (.lt rfl rfl) ?_
                refine .nil ?_
                refine .seq ?_
                refine .condP rfl (fun h15 => ?_) (fun h15 => ?_)
                · refine .skip ?_
                  refine .seq ?_
                  refine .block ?_
                  refine .seq ?_
                  obtain ⟨y, hy⟩ : ∃ y, ql[i]? = some y := ⟨_, List.getElem?_eq_getElem (by omega)⟩
                  refine .tell (φ := ∃ b o, qa = some ⟨b, o, none⟩) (Knows.pick (.tail (.tail (.tail (.tail (.tail (.tail (.tail (.tail (.tail (.tail (.tail (.tail (.tail (.tail (.tail (.tail .head)))))))))))))))) (hrow2.mono fun _ h => RowAt.addr h (by rw [flat_length Mark.cells_len]; omega))) (fun hh => ?_)
                  obtain ⟨bb, oo, rfl⟩ := hh
                  refine .region ?_   -- R16 model.go:94
                  refine .rd (.indexAddr Try.underlying74 ts76 rfl rfl (by omega) (by omega)) ?_
                  refine .rd (.loadN ia76 ts76 rfl rfl (Knows.elem (f := Mark.cells) Mark.cells_len (by decide) (Knows.pick (.tail (.tail (.tail (.tail (.tail (.tail (.tail (.tail (.tail (.tail (.tail (.tail (.tail (.tail (.tail (.tail .head)))))))))))))))) hrow2) hy)) ?_
                  refine .ef (.alloc ti76 rfl (ones.of rfl)) ?_
                  rintro _ _ ⟨b9, rfl, rfl⟩
                  refine .ef0 (.storeAll (vs := y.cells) ts76 rfl rfl rfl .head rfl (ones.of rfl)) ?_
                  rintro _ _ rfl
                  refine .nil ?_
                  refine .seq ?_
                  refine .region ?_   -- R17 model.go:95
                  refine RunO.join 18 114 (genM ((p.calls s.id).getD 0) s.seq y) ?_ ?_
                  · refine .rd (.fieldAddr fd76_1 rfl) ?_
                    refine .rd (.ld na3 rfl .head rfl) ?_
                    refine .rd (.fieldAddr fd36_7 rfl) ?_
                    refine .rd (.ld na3 rfl (.tail (.tail (.tail (.tail (.tail (.tail (.tail (.tail (.tail (.tail (.tail (.tail (.tail (.tail (.tail (.tail (.tail (.tail (.tail (.tail .head)))))))))))))))))))) rfl) ?_
                    refine .rd (.eqI rfl rfl) ?_
                    refine .rd (.move rfl) ?_
                    refine .split (t := 102) rfl (fun g17_5 => ?_) (fun g17_5 => ?_)
                    · replace g17_5 := of_decide_eq_true g17_5
                      refine .off (t := 102) rfl rfl rfl ?_
                      refine .off (t := 102) rfl rfl rfl ?_
                      refine .off (t := 102) rfl rfl rfl ?_
                      refine .off (t := 102) rfl rfl rfl ?_
                      refine .offU (t := 102) rfl rfl rfl rfl ?_
                      refine .offX (t := 107) rfl rfl rfl ?_
                      refine .offX (t := 107) rfl rfl rfl ?_
                      refine .offX (t := 107) rfl rfl rfl ?_
                      refine .offX (t := 107) rfl rfl rfl ?_
                      refine .offX (t := 107) rfl rfl rfl ?_
                      refine .off (t := 102) rfl rfl rfl ?_
                      refine .rd (.pickT rfl rfl) ?_
                      refine .nil ⟨rfl, ?_, by repeat (first | exact Le.refl _ | refine Le.skip rfl ?_)⟩
                      exact congrArg (fun x => some (Value.bool x)) (Eq.symm (show genM ((p.calls s.id).getD 0) s.seq y = _ by unfold genM; rw [decide_eq_true (p := y.n = s.seq) (by omega)]; rfl))
                    · replace g17_5 := of_decide_eq_false g17_5
                      refine .on (t := 102) rfl rfl ?_
                      refine .rd (.fieldAddr fd76_0 rfl) ?_
                      refine .on (t := 102) rfl rfl ?_
                      refine .rd (.ld na3 rfl .head rfl) ?_
                      refine .on (t := 102) rfl rfl ?_
                      refine .rd (.move rfl) ?_
                      refine .on (t := 102) rfl rfl ?_
                      refine .rd (.lt rfl rfl) ?_
                      refine .on (t := 102) rfl rfl ?_
                      refine .rd (.move rfl) ?_
                      refine .split (t := 107) rfl (fun g17_10 => ?_) (fun g17_10 => ?_)
                      · replace g17_10 := of_decide_eq_true g17_10
                        refine .on (t := 107) rfl rfl ?_
                        refine .rd (.fieldAddr fd76_1 rfl) ?_
                        refine .on (t := 107) rfl rfl ?_
                        refine .rd (.ld na3 rfl .head rfl) ?_
                        refine .on (t := 107) rfl rfl ?_
                        refine .rd (.fieldAddr fd36_7 rfl) ?_
                        refine .on (t := 107) rfl rfl ?_
                        refine .rd (.ld na3 rfl (.tail (.tail (.tail (.tail (.tail (.tail (.tail (.tail (.tail (.tail (.tail (.tail (.tail (.tail (.tail (.tail (.tail (.tail (.tail (.tail .head)))))))))))))))))))) rfl) ?_
                        refine .on (t := 107) rfl rfl ?_
                        refine .rd (.gt rfl rfl) ?_
                        refine .on (t := 102) rfl rfl ?_
                        refine .rd (.pickT rfl rfl) ?_
                        refine .rd (.pickF rfl rfl) ?_
                        refine .nil ⟨rfl, ?_, by repeat (first | exact Le.refl _ | refine Le.skip rfl ?_)⟩
                        exact congrArg (fun x => some (Value.bool x)) (Eq.symm (show genM ((p.calls s.id).getD 0) s.seq y = _ by unfold genM laterM; rw [decide_eq_false (p := y.n = s.seq) (by omega), decide_eq_true (p := y.at_ < ((p.calls s.id).getD 0)) (by omega)]; rfl))
                      · replace g17_10 := of_decide_eq_false g17_10
                        refine .off (t := 107) rfl rfl rfl ?_
                        refine .off (t := 107) rfl rfl rfl ?_
                        refine .off (t := 107) rfl rfl rfl ?_
                        refine .off (t := 107) rfl rfl rfl ?_
                        refine .off (t := 107) rfl rfl rfl ?_
                        refine .on (t := 102) rfl rfl ?_
                        refine .rd (.pickF rfl rfl) ?_
                        refine .rd (.pickF rfl rfl) ?_
                        refine .nil ⟨rfl, ?_, by repeat (first | exact Le.refl _ | refine Le.skip rfl ?_)⟩
                        exact congrArg (fun x => some (Value.bool x)) (Eq.symm (show genM ((p.calls s.id).getD 0) s.seq y = _ by unfold genM laterM; rw [decide_eq_false (p := y.n = s.seq) (by omega), decide_eq_false (p := y.at_ < ((p.calls s.id).getD 0)) (by omega)]; rfl))
                  refine .nil ?_
                  refine .cond rfl (fun h17 => ?_) (fun h17 => ?_)
                  · refine .seq ?_
                    refine .region ?_   -- R18 model.go:96
                    refine .rd (.assign rfl) ?_
                    refine .nil ?_
                    refine .close (X := chk c p n) (B := chkL c S b) (.cons (.tail .head) (.cons (.tail .head) (.cons (.tail .head) (.cons (.tail .head) (.cons (.tail .head) (.cons (.tail .head) (.cons (.tail .head) (.cons (.tail .head) (.cons (.tail .head) (.cons (.tail .head) (.cons (.tail .head) (.cons (.tail .head) (.cons (.tail .head) (.cons (.tail .head) (.cons (.tail .head) (.cons (.tail .head) (.cons (.tail .head) (.cons (.tail .head) (.cons (.tail .head) .nil))))))))))))))))))) (chk_close (hR)) ?_
                    have hv : wrongP p s = wGeneration := by rw [wrong_go h103 h6, if_neg (by simpa using h109), if_pos (by simpa using h112), if_pos (by rw [← hl2]; exact List.any_eq_true.2 ⟨y, List.mem_of_getElem? hy, h17⟩)]
                    rw [hv]
                    refine .retP Try.func13 (.cons (.tmp rfl) .nil) (.cons .head (.cons (.tail (.tail .head)) .nil)) ?_
                    exact ⟨[_], ⟨rfl, rfl⟩, rfl⟩
                  · refine .skip ?_
                    refine .inBlock ?_
                    refine .region ?_   -- R19 model.go:94
                    refine .rd (.add rfl rfl (by omega) (by omega)) ?_
                    refine .rd (.move rfl) ?_
                    refine .nil ?_
                    exact (ih (i + 1) ⟨by omega, all_take (p := fun y => genM ((p.calls s.id).getD 0) s.seq y = false) hy h17 hI.2⟩ (by omega)).to (.cons rfl (.cons rfl (.cons rfl (.cons rfl (.cons rfl (.cons rfl .nil)))))) (.cons (.tail .head) (.cons (.tail .head) (.cons (.tail .head) (.cons (.tail .head) (.cons (.tail .head) (.cons (.tail .head) (.cons (.tail .head) (.cons (.tail .head) (.cons (.tail .head) (.cons (.tail .head) (.cons (.tail .head) (.cons (.tail .head) (.cons (.tail .head) (.cons (.tail .head) (.cons (.tail .head) (.cons (.tail .head) (.cons (.tail .head) (.cons (.tail .head) (.cons (.tail .head) (.cons (.tail .head) (.cons (.tail .head) .nil)))))))))))))))))))))
                · have hall : ∀ y ∈ ql, genM ((p.calls s.id).getD 0) s.seq y = false := fun y hy => hI.2 y (by rw [List.take_of_length_le (by omega)]; exact hy)
                  refine .exit rfl ?_
                  refine .inBlock ?_
                  refine .seq ?_
                  refine .region ?_   -- R30 model.go:110
                  refine .rd (.assign rfl) ?_
                  refine .nil ?_
                  refine .close (X := chk c p n) (B := chkL c S b) (.cons .head (.cons .head (.cons .head (.cons .head (.cons .head (.cons .head (.cons .head (.cons .head (.cons .head (.cons .head (.cons .head (.cons .head (.cons .head (.cons .head (.cons .head (.cons .head (.cons .head (.cons .head (.cons .head .nil))))))))))))))))))) (chk_close (hR)) ?_
                  have hv : wrongP p s = [] := by rw [wrong_go h103 h6, if_neg (by simpa using h109), if_pos (by simpa using h112), if_neg (by rw [← hl2]; simpa using hall)]
                  rw [hv]
                  refine .retP Try.func13 (.cons (.tmp rfl) .nil) (.cons .head (.cons (.tail .head) .nil)) ?_
                  exact ⟨[_], ⟨rfl, rfl⟩, rfl⟩
              · refine .seq ?_
                refine .region ?_   -- R20 model.go:99
                refine .rd (.eqI rfl rfl) ?_
                refine .rd (.assign rfl) ?_
                refine .nil ?_
                refine .condP rfl (fun h20 => ?_) (fun h20 => ?_)
                · refine .seq ?_
                  have hl2 := hR.gens s.name
                  have hln := hR.gensN s.name
                  have hrow2 : Knows [bag (rowsOf 76 2 Mark.cells) S.gens] (RowAt ((mget S.gens s.name).getD row0).1 (((mget S.gens s.name).getD row0).2.2.flatMap Mark.cells)) := Knows.row .head
                  obtain ⟨r2, hr2⟩ : ∃ r, (mget S.gens s.name).getD row0 = r := ⟨_, rfl⟩
                  rw [hr2] at hl2 hrow2
                  obtain ⟨qa, qc, ql⟩ := r2
                  dsimp only at hl2 hrow2
                  rw [← hl2] at hln
                  refine .draws [3, 5, 6] [blk c b.cells 59, blk b3 s.cells 36, mp encS rowV b.m9 S.gens] (by kernel_rfl) ?_   -- R21 model.go:100
                  refine .rp 0 rfl (by kernel_rfl) (by kernel_rfl) (by kernel_rfl) (Reads.pure (.move rfl)) ?_
                  refine .rp 1 rfl (by kernel_rfl) (by kernel_rfl) (by kernel_rfl) (Reads.pure (.nilCheck rfl)) ?_
                  refine .rp 2 rfl (by kernel_rfl) (by kernel_rfl) (by kernel_rfl) (Reads.pure (.fieldAddr fd59_9 rfl)) ?_
                  refine .rd 3 rfl rfl (by kernel_rfl) (by kernel_rfl) (by kernel_rfl) (.ld na55 rfl .head rfl) (.cons .head (.cons (.tail (.tail (.tail (.tail (.tail (.tail (.tail (.tail (.tail (.tail (.tail (.tail (.tail (.tail (.tail (.tail (.tail (.tail .head)))))))))))))))))) (.cons (.tail (.tail (.tail (.tail (.tail (.tail (.tail (.tail (.tail .head))))))))) .nil))) ?_
                  refine .rp 4 rfl (by kernel_rfl) (by kernel_rfl) (by kernel_rfl) (Reads.pure (.fieldAddr fd36_8 rfl)) ?_
                  refine .rd 5 rfl rfl (by kernel_rfl) (by kernel_rfl) (by kernel_rfl) (.ld na9 rfl (.tail .head) rfl) (.cons .head (.cons (.tail (.tail (.tail (.tail (.tail (.tail (.tail (.tail (.tail (.tail (.tail (.tail (.tail (.tail (.tail (.tail (.tail (.tail .head)))))))))))))))))) (.cons (.tail (.tail (.tail (.tail (.tail (.tail (.tail (.tail (.tail .head))))))))) .nil))) ?_
                  refine .rd 6 rfl rfl (by kernel_rfl) (by kernel_rfl) (by kernel_rfl) (.lookup (q := s.name) kl9 Try.underlying55 (fun w => ti74.zero w) rfl rfl (.tail (.tail .head))) (.cons .head (.cons (.tail (.tail (.tail (.tail (.tail (.tail (.tail (.tail (.tail (.tail (.tail (.tail (.tail (.tail (.tail (.tail (.tail (.tail .head)))))))))))))))))) (.cons (.tail (.tail (.tail (.tail (.tail (.tail (.tail (.tail (.tail .head))))))))) .nil))) ?_
                  refine .alter (t := 124) (v' := rowV (qa, qc, ql)) rfl (by rw [← hr2]; exact getD_map rowV _ row0) ?_
                  refine .rp 7 rfl (by kernel_rfl) (by kernel_rfl) (by kernel_rfl) (Reads.pure (.lenL rfl rfl Try.underlying74 rfl)) ?_
                  refine .rp 8 rfl (by kernel_rfl) (by kernel_rfl) (by kernel_rfl) (Reads.pure (.move rfl)) ?_
                  refine .done (by kernel_rfl) ?_
                  refine .block ?_
                  refine .loop (σ := Nat) (fun i => i ≤ ql.length ∧ ∀ y ∈ ql.take i, laterM ((p.calls s.id).getD 0) s.seq y = false) (fun i => ql.length - i) (fun i => [(0, .pointer (some ⟨c, 0, none⟩)), (3, .pointer (some ⟨b3, 0, none⟩)), (6, .int .i64 ((p.calls s.id).getD 0)), (124, .slice qa ql.length qc), (125, .int .i64 ql.length), (126, .int .i64 (i : Nat))]) (fun i => [blk c b.cells 59, mp encI inV b.m0 S.calls, mp encI askV b.m1 S.kinds, mp encI Value.bool b.m2 S.done, mp encI txV b.m3 S.values, mp encI Value.bool b.m4 S.acked, mp encL inV b.m5 S.sent, mp encL rowV b.m6 S.offsets, mp enc3 rowV b.m7 S.sends, mp encN rowV b.m8 S.deletes, mp encS rowV b.m9 S.gens, mp encP rowV b.m10 S.commits, mp encI ptrV b.m11 S.opened, bag (rowsOf 3 1 icell) S.offsets, bag (rowsOf 36 12 Sn.cells) S.sends, bag (rowsOf 76 2 Mark.cells) S.deletes, bag (rowsOf 76 2 Mark.cells) S.gens, bag (rowsOf 80 1 pcell) S.commits, bag spanOf S.spans, blk b3 s.cells 36, R]) 0 ⟨Nat.zero_le _, by simp⟩ (.cons rfl (.cons rfl (.cons rfl (.cons rfl (.cons rfl (.cons rfl .nil)))))) (.cons .head (.cons .head (.cons .head (.cons .head (.cons .head (.cons .head (.cons .head (.cons .head (.cons .head (.cons .head (.cons .head (.cons .head (.cons .head (.cons .head (.cons .head (.cons .head (.cons .head (.cons .head (.cons .head (.cons .head (.cons (.tail .head) .nil))))))))))))))))))))) (fun i hI ih => ?_)
                  have hil := hI.1
                  refine .seq ?_
                  refine .region ?_   -- R22 model.go:100
                  refine .rd (.lt rfl rfl) ?_
                  refine .nil ?_
                  refine .seq ?_
                  refine .condP rfl (fun h22 => ?_) (fun h22 => ?_)
                  · refine .skip ?_
                    refine .seq ?_
                    refine .block ?_
                    refine .seq ?_
                    obtain ⟨y, hy⟩ : ∃ y, ql[i]? = some y := ⟨_, List.getElem?_eq_getElem (by omega)⟩
                    refine .tell (φ := ∃ b o, qa = some ⟨b, o, none⟩) (Knows.pick (.tail (.tail (.tail (.tail (.tail (.tail (.tail (.tail (.tail (.tail (.tail (.tail (.tail (.tail (.tail (.tail .head)))))))))))))))) (hrow2.mono fun _ h => RowAt.addr h (by rw [flat_length Mark.cells_len]; omega))) (fun hh => ?_)
                    obtain ⟨bb, oo, rfl⟩ := hh
                    refine .region ?_   -- R23 model.go:100
                    refine .rd (.indexAddr Try.underlying74 ts76 rfl rfl (by omega) (by omega)) ?_
                    refine .rd (.loadN ia76 ts76 rfl rfl (Knows.elem (f := Mark.cells) Mark.cells_len (by decide) (Knows.pick (.tail (.tail (.tail (.tail (.tail (.tail (.tail (.tail (.tail (.tail (.tail (.tail (.tail (.tail (.tail (.tail .head)))))))))))))))) hrow2) hy)) ?_
                    refine .ef (.alloc ti76 rfl (ones.of rfl)) ?_
                    rintro _ _ ⟨b11, rfl, rfl⟩
                    refine .ef0 (.storeAll (vs := y.cells) ts76 rfl rfl rfl .head rfl (ones.of rfl)) ?_
                    rintro _ _ rfl
                    refine .nil ?_
                    refine .seq ?_
                    refine .region ?_   -- R24 model.go:101
                    refine RunO.join 11 140 (laterM ((p.calls s.id).getD 0) s.seq y) ?_ ?_
                    · refine .rd (.fieldAddr fd76_0 rfl) ?_
                      refine .rd (.ld na3 rfl .head rfl) ?_
                      refine .rd (.move rfl) ?_
                      refine .rd (.lt rfl rfl) ?_
                      refine .rd (.move rfl) ?_
                      refine .split (t := 134) rfl (fun g24_4 => ?_) (fun g24_4 => ?_)
                      · replace g24_4 := of_decide_eq_true g24_4
                        refine .on (t := 134) rfl rfl ?_
                        refine .rd (.fieldAddr fd76_1 rfl) ?_
                        refine .on (t := 134) rfl rfl ?_
                        refine .rd (.ld na3 rfl .head rfl) ?_
                        refine .on (t := 134) rfl rfl ?_
                        refine .rd (.fieldAddr fd36_7 rfl) ?_
                        refine .on (t := 134) rfl rfl ?_
                        refine .rd (.ld na3 rfl (.tail (.tail (.tail (.tail (.tail (.tail (.tail (.tail (.tail (.tail (.tail (.tail (.tail (.tail (.tail (.tail (.tail (.tail (.tail (.tail .head)))))))))))))))))))) rfl) ?_
                        refine .on (t := 134) rfl rfl ?_
                        refine .rd (.gt rfl rfl) ?_
                        refine .rd (.pickT rfl rfl) ?_
                        refine .nil ⟨rfl, ?_, by repeat (first | exact Le.refl _ | refine Le.skip rfl ?_)⟩
                        exact congrArg (fun x => some (Value.bool x)) (Eq.symm (show laterM ((p.calls s.id).getD 0) s.seq y = _ by unfold laterM; rw [decide_eq_true (p := y.at_ < ((p.calls s.id).getD 0)) (by omega)]; rfl))
                      · replace g24_4 := of_decide_eq_false g24_4
                        refine .off (t := 134) rfl rfl rfl ?_
                        refine .off (t := 134) rfl rfl rfl ?_
                        refine .off (t := 134) rfl rfl rfl ?_
                        refine .off (t := 134) rfl rfl rfl ?_
                        refine .off (t := 134) rfl rfl rfl ?_
                        refine .rd (.pickF rfl rfl) ?_
                        refine .nil ⟨rfl, ?_, by repeat (first | exact Le.refl _ | refine Le.skip rfl ?_)⟩
                        exact congrArg (fun x => some (Value.bool x)) (Eq.symm (show laterM ((p.calls s.id).getD 0) s.seq y = _ by unfold laterM; rw [decide_eq_false (p := y.at_ < ((p.calls s.id).getD 0)) (by omega)]; rfl))
                    refine .nil ?_
                    refine .cond rfl (fun h24 => ?_) (fun h24 => ?_)
                    · refine .seq ?_
                      refine .region ?_   -- R25 model.go:102
                      refine .rd (.assign rfl) ?_
                      refine .nil ?_
                      refine .close (X := chk c p n) (B := chkL c S b) (.cons (.tail .head) (.cons (.tail .head) (.cons (.tail .head) (.cons (.tail .head) (.cons (.tail .head) (.cons (.tail .head) (.cons (.tail .head) (.cons (.tail .head) (.cons (.tail .head) (.cons (.tail .head) (.cons (.tail .head) (.cons (.tail .head) (.cons (.tail .head) (.cons (.tail .head) (.cons (.tail .head) (.cons (.tail .head) (.cons (.tail .head) (.cons (.tail .head) (.cons (.tail .head) .nil))))))))))))))))))) (chk_close (hR)) ?_
                      have hv : wrongP p s = wFenced := by rw [wrong_go h103 h6, if_neg (by simpa using h109), if_neg (by simpa using h112), if_pos (by omega), if_pos (by rw [← hl2]; exact List.any_eq_true.2 ⟨y, List.mem_of_getElem? hy, h24⟩)]
                      rw [hv]
                      refine .retP Try.func13 (.cons (.tmp rfl) .nil) (.cons .head (.cons (.tail (.tail .head)) .nil)) ?_
                      exact ⟨[_], ⟨rfl, rfl⟩, rfl⟩
                    · refine .skip ?_
                      refine .inBlock ?_
                      refine .region ?_   -- R26 model.go:100
                      refine .rd (.add rfl rfl (by omega) (by omega)) ?_
                      refine .rd (.move rfl) ?_
                      refine .nil ?_
                      exact (ih (i + 1) ⟨by omega, all_take (p := fun y => laterM ((p.calls s.id).getD 0) s.seq y = false) hy h24 hI.2⟩ (by omega)).to (.cons rfl (.cons rfl (.cons rfl (.cons rfl (.cons rfl (.cons rfl .nil)))))) (.cons (.tail .head) (.cons (.tail .head) (.cons (.tail .head) (.cons (.tail .head) (.cons (.tail .head) (.cons (.tail .head) (.cons (.tail .head) (.cons (.tail .head) (.cons (.tail .head) (.cons (.tail .head) (.cons (.tail .head) (.cons (.tail .head) (.cons (.tail .head) (.cons (.tail .head) (.cons (.tail .head) (.cons (.tail .head) (.cons (.tail .head) (.cons (.tail .head) (.cons (.tail .head) (.cons (.tail .head) (.cons (.tail .head) .nil)))))))))))))))))))))
                  · have hall : ∀ y ∈ ql, laterM ((p.calls s.id).getD 0) s.seq y = false := fun y hy => hI.2 y (by rw [List.take_of_length_le (by omega)]; exact hy)
                    refine .exit rfl ?_
                    refine .inBlock ?_
                    refine .seq ?_
                    refine .region ?_   -- R30 model.go:110
                    refine .rd (.assign rfl) ?_
                    refine .nil ?_
                    refine .close (X := chk c p n) (B := chkL c S b) (.cons .head (.cons .head (.cons .head (.cons .head (.cons .head (.cons .head (.cons .head (.cons .head (.cons .head (.cons .head (.cons .head (.cons .head (.cons .head (.cons .head (.cons .head (.cons .head (.cons .head (.cons .head (.cons .head .nil))))))))))))))))))) (chk_close (hR)) ?_
                    have hv : wrongP p s = [] := by rw [wrong_go h103 h6, if_neg (by simpa using h109), if_neg (by simpa using h112), if_pos (by omega), if_neg (by rw [← hl2]; simpa using hall)]
                    rw [hv]
                    refine .retP Try.func13 (.cons (.tmp rfl) .nil) (.cons .head (.cons (.tail .head) .nil)) ?_
                    exact ⟨[_], ⟨rfl, rfl⟩, rfl⟩
                · refine .seq ?_
                  refine .region ?_   -- R27 model.go:105
                  refine .rd (.eqI rfl rfl) ?_
                  refine .rd (.assign rfl) ?_
                  refine .nil ?_
                  refine .condP rfl (fun h27 => ?_) (fun h27 => ?_)
                  · refine .seq ?_
                    refine .close (X := chk c p n) (B := chkL c S b) (.cons .head (.cons .head (.cons .head (.cons .head (.cons .head (.cons .head (.cons .head (.cons .head (.cons .head (.cons .head (.cons .head (.cons .head (.cons .head (.cons .head (.cons .head (.cons .head (.cons .head (.cons .head (.cons .head .nil))))))))))))))))))) (chk_close (hR)) ?_
                    refine .region ?_   -- R28 model.go:106
                    refine .rd (.move rfl) ?_
                    refine .rd (.ldN ia36 ts36 rfl (.tail .head) rfl) ?_
                    refine .rd (.move rfl) ?_
                    refine .fn rfl rfl (.cons .head .nil) (fun _ _ _ => trivial) (stale_ok c p n s ((p.calls s.id).getD 0) hn) (fun v G1 hq => ?_)
                    obtain ⟨rfl, rfl⟩ := hq
                    simp only [List.cons_append, List.nil_append]
                    refine .nil ?_
                    refine .cond rfl (fun h28 => ?_) (fun h28 => ?_)
                    · refine .seq ?_
                      refine .region ?_   -- R29 model.go:107
                      refine .rd (.assign rfl) ?_
                      refine .nil ?_
                      have hv : wrongP p s = wCommit := by rw [wrong_go h103 h6, if_neg (by simpa using h109), if_neg (by simpa using h112), if_neg (by omega), if_pos (by omega), if_pos h28]
                      rw [hv]
                      refine .retP Try.func13 (.cons (.tmp rfl) .nil) (.cons .head (.cons (.tail (.tail .head)) .nil)) ?_
                      exact ⟨[_], ⟨rfl, rfl⟩, rfl⟩
                    · refine .skip ?_
                      refine .inBlock ?_
                      refine .seq ?_
                      refine .region ?_   -- R30 model.go:110
                      refine .rd (.assign rfl) ?_
                      refine .nil ?_
                      have hv : wrongP p s = [] := by rw [wrong_go h103 h6, if_neg (by simpa using h109), if_neg (by simpa using h112), if_neg (by omega), if_pos (by omega), if_neg (by rw [h28]; decide)]
                      rw [hv]
                      refine .retP Try.func13 (.cons (.tmp rfl) .nil) (.cons .head (.cons (.tail (.tail .head)) .nil)) ?_
                      exact ⟨[_], ⟨rfl, rfl⟩, rfl⟩
                  · refine .skip ?_
                    refine .inBlock ?_
                    refine .seq ?_
                    refine .region ?_   -- R30 model.go:110
                    refine .rd (.assign rfl) ?_
                    refine .nil ?_
                    refine .close (X := chk c p n) (B := chkL c S b) (.cons .head (.cons .head (.cons .head (.cons .head (.cons .head (.cons .head (.cons .head (.cons .head (.cons .head (.cons .head (.cons .head (.cons .head (.cons .head (.cons .head (.cons .head (.cons .head (.cons .head (.cons .head (.cons .head .nil))))))))))))))))))) (chk_close (hR)) ?_
                    have hv : wrongP p s = [] := by rw [wrong_go h103 h6, if_neg (by simpa using h109), if_neg (by simpa using h112), if_neg (by omega), if_neg (by omega)]
                    rw [hv]
                    refine .retP Try.func13 (.cons (.tmp rfl) .nil) (.cons .head (.cons (.tail (.tail .head)) .nil)) ?_
                    exact ⟨[_], ⟨rfl, rfl⟩, rfl⟩
            · refine .condP rfl (fun h12 => ?_) (fun h12 => ?_)
              · refine .skip ?_
                exact fin (.cons rfl (.cons rfl (.cons rfl (.cons rfl (.cons (by show some (Value.bool (decide (s.kind = 2))) = some (Value.bool (decide (s.kind = 2) || decide (s.kind = 3))); rw [decide_eq_true (p := s.kind = 2) h12]; rfl) .nil))))) (.cons .head (.cons .head (.cons .head (.cons .head (.cons .head (.cons .head (.cons .head (.cons .head (.cons .head (.cons .head (.cons .head (.cons .head (.cons .head (.cons .head (.cons .head (.cons .head (.cons .head (.cons .head (.cons .head (.cons .head (.cons .head (.cons .head .nil))))))))))))))))))))))
              · refine .region ?_   -- R13 model.go:93
                refine .rd (.eqI rfl rfl) ?_
                refine .rd (.assign rfl) ?_
                refine .nil ?_
                exact fin (.cons rfl (.cons rfl (.cons rfl (.cons rfl (.cons (by show some (Value.bool (decide (s.kind = 3))) = some (Value.bool (decide (s.kind = 2) || decide (s.kind = 3))); rw [decide_eq_false (p := s.kind = 2) h12]; rfl) .nil))))) (.cons .head (.cons .head (.cons .head (.cons .head (.cons .head (.cons .head (.cons .head (.cons .head (.cons .head (.cons .head (.cons .head (.cons .head (.cons .head (.cons .head (.cons .head (.cons .head (.cons .head (.cons .head (.cons .head (.cons .head (.cons .head (.cons .head .nil))))))))))))))))))))))
        · refine .condP rfl (fun h9 => ?_) (fun h9 => ?_)
          · refine .skip ?_
            exact fin (.cons rfl (.cons rfl (.cons rfl (.cons rfl (.cons (by show some (Value.bool (decide (s.kind = 10))) = some (Value.bool (decide (s.kind = 10) || decide (s.kind = 1))); rw [decide_eq_true (p := s.kind = 10) h9]; rfl) .nil))))) (.cons .head (.cons .head (.cons .head (.cons .head (.cons .head (.cons .head (.cons .head (.cons .head (.cons .head (.cons .head (.cons .head (.cons .head (.cons .head (.cons .head (.cons .head (.cons .head (.cons .head (.cons .head (.cons .head (.cons .head (.cons .head (.cons .head .nil))))))))))))))))))))))
          · refine .region ?_   -- R10 model.go:91
            refine .rd (.eqI rfl rfl) ?_
            refine .rd (.assign rfl) ?_
            refine .nil ?_
            exact fin (.cons rfl (.cons rfl (.cons rfl (.cons rfl (.cons (by show some (Value.bool (decide (s.kind = 1))) = some (Value.bool (decide (s.kind = 10) || decide (s.kind = 1))); rw [decide_eq_false (p := s.kind = 10) h9]; rfl) .nil))))) (.cons .head (.cons .head (.cons .head (.cons .head (.cons .head (.cons .head (.cons .head (.cons .head (.cons .head (.cons .head (.cons .head (.cons .head (.cons .head (.cons .head (.cons .head (.cons .head (.cons .head (.cons .head (.cons .head (.cons .head (.cons .head (.cons .head .nil))))))))))))))))))))))
  · refine .cond rfl (fun h3 => ?_) (fun h3 => ?_)
    · refine .skip ?_
      exact fin (.cons rfl (.cons rfl (.cons rfl (.cons rfl (.cons rfl (.cons (by show some (Value.bool (badC1 p s)) = some (Value.bool (badC1 p s || badC2 p s)); rw [h3]; rfl) .nil)))))) (.cons (.tail (.tail .head)) (.cons (.tail (.tail .head)) (.cons (.tail (.tail .head)) (.cons (.tail (.tail .head)) (.cons (.tail (.tail .head)) (.cons (.tail (.tail .head)) (.cons (.tail (.tail .head)) (.cons (.tail (.tail .head)) (.cons (.tail (.tail .head)) (.cons (.tail (.tail .head)) (.cons (.tail (.tail .head)) (.cons (.tail (.tail .head)) (.cons (.tail (.tail .head)) (.cons (.tail (.tail .head)) (.cons (.tail (.tail .head)) (.cons (.tail (.tail .head)) (.cons (.tail (.tail .head)) (.cons (.tail (.tail .head)) (.cons (.tail (.tail .head)) (.cons (.tail .head) (.cons .head (.cons .head .nil))))))))))))))))))))))
    · refine .weak (.skip rfl (.refl _)) ?_
      refine .drawsJoin [1, 9, 10, 11, 17, 18, 19, 21, 23, 25] [blk b3 s.cells 36, blk c b.cells 59, mp encI Value.bool b.m2 S.done, blk b5 [.int .i64 s.client, .int .i64 s.call] 67, mp encI askV b.m1 S.kinds] 26 (badC2 p s) (by kernel_rfl) ?_ ?_   -- R4 model.go:85
      · refine .rp 0 rfl (by kernel_rfl) (by kernel_rfl) (by kernel_rfl) (Reads.pure (.fieldAddr fd36_11 rfl)) ?_
        refine .rd 1 rfl rfl (by kernel_rfl) (by kernel_rfl) (by kernel_rfl) (.ld na4 rfl .head rfl) (.cons (.tail .head) (.cons (.tail .head) (.cons (.tail (.tail (.tail .head))) (.cons .head (.cons (.tail .head) .nil))))) ?_
        refine .rp 2 rfl (by kernel_rfl) (by kernel_rfl) (by kernel_rfl) (Reads.pure (.move rfl)) ?_
        refine .split (t := 35) rfl (fun g4_2 => ?_) (fun g4_2 => ?_)
        · refine .rpG 3 (t := 35) rfl rfl rfl (by kernel_rfl) (by kernel_rfl) (by kernel_rfl) (Reads.pure (.move rfl)) ?_
          refine .rpG 4 (t := 35) rfl rfl rfl (by kernel_rfl) (by kernel_rfl) (by kernel_rfl) (Reads.pure (.not rfl)) ?_
          refine .rpG 5 (t := 35) rfl rfl rfl (by kernel_rfl) (by kernel_rfl) (by kernel_rfl) (Reads.pure (.move rfl)) ?_
          refine .split (t := 38) rfl (fun g4_5 => ?_) (fun g4_5 => ?_)
          · refine .off 6 (t := 38) rfl rfl rfl rfl (by kernel_rfl) (by kernel_rfl) (by kernel_rfl) ?_
            refine .off 7 (t := 38) rfl rfl rfl rfl (by kernel_rfl) (by kernel_rfl) (by kernel_rfl) ?_
            refine .off 8 (t := 38) rfl rfl rfl rfl (by kernel_rfl) (by kernel_rfl) (by kernel_rfl) ?_
            refine .off 9 (t := 38) rfl rfl rfl rfl (by kernel_rfl) (by kernel_rfl) (by kernel_rfl) ?_
            refine .off 10 (t := 38) rfl rfl rfl rfl (by kernel_rfl) (by kernel_rfl) (by kernel_rfl) ?_
            refine .off 11 (t := 38) rfl rfl rfl rfl (by kernel_rfl) (by kernel_rfl) (by kernel_rfl) ?_
            refine .rpG 12 (t := 35) rfl rfl rfl (by kernel_rfl) (by kernel_rfl) (by kernel_rfl) (Reads.pure (.pickT rfl rfl)) ?_
            refine .rpG 13 (t := 35) rfl rfl rfl (by kernel_rfl) (by kernel_rfl) (by kernel_rfl) (Reads.pure (.move rfl)) ?_
            refine .off 14 (t := 46) rfl rfl rfl rfl (by kernel_rfl) (by kernel_rfl) (by kernel_rfl) ?_
            refine .off 15 (t := 46) rfl rfl rfl rfl (by kernel_rfl) (by kernel_rfl) (by kernel_rfl) ?_
            refine .off 16 (t := 46) rfl rfl rfl rfl (by kernel_rfl) (by kernel_rfl) (by kernel_rfl) ?_
            refine .off 17 (t := 46) rfl rfl rfl rfl (by kernel_rfl) (by kernel_rfl) (by kernel_rfl) ?_
            refine .off 18 (t := 46) rfl rfl rfl rfl (by kernel_rfl) (by kernel_rfl) (by kernel_rfl) ?_
            refine .off 19 (t := 46) rfl rfl rfl rfl (by kernel_rfl) (by kernel_rfl) (by kernel_rfl) ?_
            refine .off 20 (t := 46) rfl rfl rfl rfl (by kernel_rfl) (by kernel_rfl) (by kernel_rfl) ?_
            refine .off 21 (t := 46) rfl rfl rfl rfl (by kernel_rfl) (by kernel_rfl) (by kernel_rfl) ?_
            refine .off 22 (t := 46) rfl rfl rfl rfl (by kernel_rfl) (by kernel_rfl) (by kernel_rfl) ?_
            refine .off 23 (t := 46) rfl rfl rfl rfl (by kernel_rfl) (by kernel_rfl) (by kernel_rfl) ?_
            refine .off 24 (t := 46) rfl rfl rfl rfl (by kernel_rfl) (by kernel_rfl) (by kernel_rfl) ?_
            refine .off 25 (t := 46) rfl rfl rfl rfl (by kernel_rfl) (by kernel_rfl) (by kernel_rfl) ?_
            refine .off 26 (t := 46) rfl rfl rfl rfl (by kernel_rfl) (by kernel_rfl) (by kernel_rfl) ?_
            refine .off 27 (t := 46) rfl rfl rfl rfl (by kernel_rfl) (by kernel_rfl) (by kernel_rfl) ?_
            refine .off 28 (t := 46) rfl rfl rfl rfl (by kernel_rfl) (by kernel_rfl) (by kernel_rfl) ?_
            refine .rpG 29 (t := 35) rfl rfl rfl (by kernel_rfl) (by kernel_rfl) (by kernel_rfl) (Reads.pure (.pickT rfl rfl)) ?_
            refine .rp 30 rfl (by kernel_rfl) (by kernel_rfl) (by kernel_rfl) (Reads.pure (.pickT rfl rfl)) ?_
            refine .rp 31 rfl (by kernel_rfl) (by kernel_rfl) (by kernel_rfl) (Reads.pure (.assign rfl)) ?_
            refine .done (by kernel_rfl) ⟨rfl, ?_, by repeat (first | exact Le.refl _ | refine Le.skip rfl ?_)⟩
            exact congrArg (fun x => some (Value.bool x)) (Eq.symm (show badC2 p s = _ by unfold badC2; rw [g4_2, g4_5]; rfl))
          · refine .rpG 6 (t := 38) rfl rfl rfl (by kernel_rfl) (by kernel_rfl) (by kernel_rfl) (Reads.pure (.move rfl)) ?_
            refine .rpG 7 (t := 38) rfl rfl rfl (by kernel_rfl) (by kernel_rfl) (by kernel_rfl) (Reads.pure (.nilCheck rfl)) ?_
            refine .rpG 8 (t := 38) rfl rfl rfl (by kernel_rfl) (by kernel_rfl) (by kernel_rfl) (Reads.pure (.fieldAddr fd59_2 rfl)) ?_
            refine .rdG 9 (t := 38) rfl rfl rfl rfl (by kernel_rfl) (by kernel_rfl) (by kernel_rfl) (.ld na48 rfl (.tail .head) rfl) (.cons (.tail .head) (.cons (.tail .head) (.cons (.tail (.tail (.tail .head))) (.cons .head (.cons (.tail .head) .nil))))) ?_
            refine .rdG 10 (t := 38) rfl rfl rfl rfl (by kernel_rfl) (by kernel_rfl) (by kernel_rfl) (.ldN ia67 ts67 rfl (.tail (.tail (.tail .head))) rfl) (.cons (.tail .head) (.cons (.tail .head) (.cons (.tail (.tail (.tail .head))) (.cons .head (.cons (.tail .head) .nil))))) ?_
            refine .rdG 11 (t := 38) rfl rfl rfl rfl (by kernel_rfl) (by kernel_rfl) (by kernel_rfl) (.lookup (q := s.id) kl67 Try.underlying48 (fun w => ti4.zero w) rfl rfl (.tail (.tail .head))) (.cons (.tail .head) (.cons (.tail .head) (.cons (.tail (.tail (.tail .head))) (.cons .head (.cons (.tail .head) .nil))))) ?_
            refine .alter (t := 44) (v' := .bool (p.done s.id)) rfl (by rw [← hR.done]; exact getD_map Value.bool _ false) ?_
            refine .rpG 12 (t := 35) rfl rfl rfl (by kernel_rfl) (by kernel_rfl) (by kernel_rfl) (Reads.pure (.pickF rfl rfl)) ?_
            refine .rpG 13 (t := 35) rfl rfl rfl (by kernel_rfl) (by kernel_rfl) (by kernel_rfl) (Reads.pure (.move rfl)) ?_
            refine .split (t := 46) rfl (fun g4_13 => ?_) (fun g4_13 => ?_)
            · refine .off 14 (t := 46) rfl rfl rfl rfl (by kernel_rfl) (by kernel_rfl) (by kernel_rfl) ?_
              refine .off 15 (t := 46) rfl rfl rfl rfl (by kernel_rfl) (by kernel_rfl) (by kernel_rfl) ?_
              refine .off 16 (t := 46) rfl rfl rfl rfl (by kernel_rfl) (by kernel_rfl) (by kernel_rfl) ?_
              refine .off 17 (t := 46) rfl rfl rfl rfl (by kernel_rfl) (by kernel_rfl) (by kernel_rfl) ?_
              refine .off 18 (t := 46) rfl rfl rfl rfl (by kernel_rfl) (by kernel_rfl) (by kernel_rfl) ?_
              refine .off 19 (t := 46) rfl rfl rfl rfl (by kernel_rfl) (by kernel_rfl) (by kernel_rfl) ?_
              refine .off 20 (t := 46) rfl rfl rfl rfl (by kernel_rfl) (by kernel_rfl) (by kernel_rfl) ?_
              refine .off 21 (t := 46) rfl rfl rfl rfl (by kernel_rfl) (by kernel_rfl) (by kernel_rfl) ?_
              refine .off 22 (t := 46) rfl rfl rfl rfl (by kernel_rfl) (by kernel_rfl) (by kernel_rfl) ?_
              refine .off 23 (t := 46) rfl rfl rfl rfl (by kernel_rfl) (by kernel_rfl) (by kernel_rfl) ?_
              refine .off 24 (t := 46) rfl rfl rfl rfl (by kernel_rfl) (by kernel_rfl) (by kernel_rfl) ?_
              refine .off 25 (t := 46) rfl rfl rfl rfl (by kernel_rfl) (by kernel_rfl) (by kernel_rfl) ?_
              refine .off 26 (t := 46) rfl rfl rfl rfl (by kernel_rfl) (by kernel_rfl) (by kernel_rfl) ?_
              refine .off 27 (t := 46) rfl rfl rfl rfl (by kernel_rfl) (by kernel_rfl) (by kernel_rfl) ?_
              refine .off 28 (t := 46) rfl rfl rfl rfl (by kernel_rfl) (by kernel_rfl) (by kernel_rfl) ?_
              refine .rpG 29 (t := 35) rfl rfl rfl (by kernel_rfl) (by kernel_rfl) (by kernel_rfl) (Reads.pure (.pickT rfl rfl)) ?_
              refine .rp 30 rfl (by kernel_rfl) (by kernel_rfl) (by kernel_rfl) (Reads.pure (.pickT rfl rfl)) ?_
              refine .rp 31 rfl (by kernel_rfl) (by kernel_rfl) (by kernel_rfl) (Reads.pure (.assign rfl)) ?_
              refine .done (by kernel_rfl) ⟨rfl, ?_, by repeat (first | exact Le.refl _ | refine Le.skip rfl ?_)⟩
              exact congrArg (fun x => some (Value.bool x)) (Eq.symm (show badC2 p s = _ by unfold badC2; rw [g4_2, g4_5, g4_13]; rfl))
            · refine .rpG 14 (t := 46) rfl rfl rfl (by kernel_rfl) (by kernel_rfl) (by kernel_rfl) (Reads.pure (.move rfl)) ?_
              refine .rpG 15 (t := 46) rfl rfl rfl (by kernel_rfl) (by kernel_rfl) (by kernel_rfl) (Reads.pure (.nilCheck rfl)) ?_
              refine .rpG 16 (t := 46) rfl rfl rfl (by kernel_rfl) (by kernel_rfl) (by kernel_rfl) (Reads.pure (.fieldAddr fd59_1 rfl)) ?_
              refine .rdG 17 (t := 46) rfl rfl rfl rfl (by kernel_rfl) (by kernel_rfl) (by kernel_rfl) (.ld na47 rfl (.tail .head) rfl) (.cons (.tail .head) (.cons (.tail .head) (.cons (.tail (.tail (.tail .head))) (.cons .head (.cons (.tail .head) .nil))))) ?_
              refine .rdG 18 (t := 46) rfl rfl rfl rfl (by kernel_rfl) (by kernel_rfl) (by kernel_rfl) (.ldN ia67 ts67 rfl (.tail (.tail (.tail .head))) rfl) (.cons (.tail .head) (.cons (.tail .head) (.cons (.tail (.tail (.tail .head))) (.cons .head (.cons (.tail .head) .nil))))) ?_
              refine .rdG 19 (t := 46) rfl rfl rfl rfl (by kernel_rfl) (by kernel_rfl) (by kernel_rfl) (.lookup (q := s.id) kl67 Try.underlying47 (fun w => ti72.zero w) rfl rfl (.tail (.tail (.tail (.tail .head))))) (.cons (.tail .head) (.cons (.tail .head) (.cons (.tail (.tail (.tail .head))) (.cons .head (.cons (.tail .head) .nil))))) ?_
              refine .alter (t := 52) (v' := askV (p.kinds s.id)) rfl (by rw [← hR.kinds]; exact getD_map askV _ ask0) ?_
              refine .rpG 20 (t := 46) rfl rfl rfl (by kernel_rfl) (by kernel_rfl) (by kernel_rfl) (Reads.pure (.fieldAddr fd36_2 rfl)) ?_
              refine .rdG 21 (t := 46) rfl rfl rfl rfl (by kernel_rfl) (by kernel_rfl) (by kernel_rfl) (.ld na3 rfl .head rfl) (.cons (.tail .head) (.cons (.tail .head) (.cons (.tail (.tail (.tail .head))) (.cons .head (.cons (.tail .head) .nil))))) ?_
              refine .rpG 22 (t := 46) rfl rfl rfl (by kernel_rfl) (by kernel_rfl) (by kernel_rfl) (Reads.pure (.fieldAddr fd36_8 rfl)) ?_
              refine .rdG 23 (t := 46) rfl rfl rfl rfl (by kernel_rfl) (by kernel_rfl) (by kernel_rfl) (.ld na9 rfl .head rfl) (.cons (.tail .head) (.cons (.tail .head) (.cons (.tail (.tail (.tail .head))) (.cons .head (.cons (.tail .head) .nil))))) ?_
              refine .rpG 24 (t := 46) rfl rfl rfl (by kernel_rfl) (by kernel_rfl) (by kernel_rfl) (Reads.pure (.fieldAddr fd36_3 rfl)) ?_
              refine .rdG 25 (t := 46) rfl rfl rfl rfl (by kernel_rfl) (by kernel_rfl) (by kernel_rfl) (.ld na3 rfl .head rfl) (.cons (.tail .head) (.cons (.tail .head) (.cons (.tail (.tail (.tail .head))) (.cons .head (.cons (.tail .head) .nil))))) ?_
              refine .rpG 26 (t := 46) rfl rfl rfl (by kernel_rfl) (by kernel_rfl) (by kernel_rfl) (Reads.pure (.build rfl (bld70_0_1 _ _))) ?_
              refine .rpG 27 (t := 46) rfl rfl rfl (by kernel_rfl) (by kernel_rfl) (by kernel_rfl) (Reads.pure (.build rfl (bld72_0_1 _ _ _))) ?_
              refine .rpG 28 (t := 46) rfl rfl rfl (by kernel_rfl) (by kernel_rfl) (by kernel_rfl) (Reads.pure (.neA (xs := (p.kinds s.id).cells.toArray) (ys := s.ask.cells.toArray) (by kernel_rfl) rfl (eq72 (p.kinds s.id) s.ask) rfl rfl)) ?_
              refine .rpG 29 (t := 35) rfl rfl rfl (by kernel_rfl) (by kernel_rfl) (by kernel_rfl) (Reads.pure (.pickF rfl rfl)) ?_
              refine .rp 30 rfl (by kernel_rfl) (by kernel_rfl) (by kernel_rfl) (Reads.pure (.pickT rfl rfl)) ?_
              refine .rp 31 rfl (by kernel_rfl) (by kernel_rfl) (by kernel_rfl) (Reads.pure (.assign rfl)) ?_
              refine .done (by kernel_rfl) ⟨rfl, ?_, by repeat (first | exact Le.refl _ | refine Le.skip rfl ?_)⟩
              exact congrArg (fun x => some (Value.bool x)) (Eq.symm (show badC2 p s = _ by unfold badC2; rw [g4_2, g4_5, g4_13]; rfl))
        · refine .off 3 (t := 35) rfl rfl rfl rfl (by kernel_rfl) (by kernel_rfl) (by kernel_rfl) ?_
          refine .off 4 (t := 35) rfl rfl rfl rfl (by kernel_rfl) (by kernel_rfl) (by kernel_rfl) ?_
          refine .offU 5 (t := 35) rfl rfl rfl rfl (by kernel_rfl) (by kernel_rfl) (by kernel_rfl) ?_
          refine .offX 6 (t := 38) rfl rfl rfl (by kernel_rfl) (by kernel_rfl) (by kernel_rfl) ?_
          refine .offX 7 (t := 38) rfl rfl rfl (by kernel_rfl) (by kernel_rfl) (by kernel_rfl) ?_
          refine .offX 8 (t := 38) rfl rfl rfl (by kernel_rfl) (by kernel_rfl) (by kernel_rfl) ?_
          refine .offX 9 (t := 38) rfl rfl rfl (by kernel_rfl) (by kernel_rfl) (by kernel_rfl) ?_
          refine .offX 10 (t := 38) rfl rfl rfl (by kernel_rfl) (by kernel_rfl) (by kernel_rfl) ?_
          refine .offX 11 (t := 38) rfl rfl rfl (by kernel_rfl) (by kernel_rfl) (by kernel_rfl) ?_
          refine .off 12 (t := 35) rfl rfl rfl rfl (by kernel_rfl) (by kernel_rfl) (by kernel_rfl) ?_
          refine .offU 13 (t := 35) rfl rfl rfl rfl (by kernel_rfl) (by kernel_rfl) (by kernel_rfl) ?_
          refine .offX 14 (t := 46) rfl rfl rfl (by kernel_rfl) (by kernel_rfl) (by kernel_rfl) ?_
          refine .offX 15 (t := 46) rfl rfl rfl (by kernel_rfl) (by kernel_rfl) (by kernel_rfl) ?_
          refine .offX 16 (t := 46) rfl rfl rfl (by kernel_rfl) (by kernel_rfl) (by kernel_rfl) ?_
          refine .offX 17 (t := 46) rfl rfl rfl (by kernel_rfl) (by kernel_rfl) (by kernel_rfl) ?_
          refine .offX 18 (t := 46) rfl rfl rfl (by kernel_rfl) (by kernel_rfl) (by kernel_rfl) ?_
          refine .offX 19 (t := 46) rfl rfl rfl (by kernel_rfl) (by kernel_rfl) (by kernel_rfl) ?_
          refine .offX 20 (t := 46) rfl rfl rfl (by kernel_rfl) (by kernel_rfl) (by kernel_rfl) ?_
          refine .offX 21 (t := 46) rfl rfl rfl (by kernel_rfl) (by kernel_rfl) (by kernel_rfl) ?_
          refine .offX 22 (t := 46) rfl rfl rfl (by kernel_rfl) (by kernel_rfl) (by kernel_rfl) ?_
          refine .offX 23 (t := 46) rfl rfl rfl (by kernel_rfl) (by kernel_rfl) (by kernel_rfl) ?_
          refine .offX 24 (t := 46) rfl rfl rfl (by kernel_rfl) (by kernel_rfl) (by kernel_rfl) ?_
          refine .offX 25 (t := 46) rfl rfl rfl (by kernel_rfl) (by kernel_rfl) (by kernel_rfl) ?_
          refine .offX 26 (t := 46) rfl rfl rfl (by kernel_rfl) (by kernel_rfl) (by kernel_rfl) ?_
          refine .offX 27 (t := 46) rfl rfl rfl (by kernel_rfl) (by kernel_rfl) (by kernel_rfl) ?_
          refine .offX 28 (t := 46) rfl rfl rfl (by kernel_rfl) (by kernel_rfl) (by kernel_rfl) ?_
          refine .off 29 (t := 35) rfl rfl rfl rfl (by kernel_rfl) (by kernel_rfl) (by kernel_rfl) ?_
          refine .rp 30 rfl (by kernel_rfl) (by kernel_rfl) (by kernel_rfl) (Reads.pure (.pickF rfl rfl)) ?_
          refine .rp 31 rfl (by kernel_rfl) (by kernel_rfl) (by kernel_rfl) (Reads.pure (.assign rfl)) ?_
          refine .done (by kernel_rfl) ⟨rfl, ?_, by repeat (first | exact Le.refl _ | refine Le.skip rfl ?_)⟩
          exact congrArg (fun x => some (Value.bool x)) (Eq.symm (show badC2 p s = _ by unfold badC2; rw [g4_2]; rfl))
      exact fin (.cons rfl (.cons rfl (.cons rfl (.cons rfl (.cons rfl (.cons (by show some (Value.bool (badC2 p s)) = some (Value.bool (badC1 p s || badC2 p s)); rw [h3]; rfl) .nil)))))) (.cons (.tail (.tail .head)) (.cons (.tail (.tail .head)) (.cons (.tail (.tail .head)) (.cons (.tail (.tail .head)) (.cons (.tail (.tail .head)) (.cons (.tail (.tail .head)) (.cons (.tail (.tail .head)) (.cons (.tail (.tail .head)) (.cons (.tail (.tail .head)) (.cons (.tail (.tail .head)) (.cons (.tail (.tail .head)) (.cons (.tail (.tail .head)) (.cons (.tail (.tail .head)) (.cons (.tail (.tail .head)) (.cons (.tail (.tail .head)) (.cons (.tail (.tail .head)) (.cons (.tail (.tail .head)) (.cons (.tail (.tail .head)) (.cons (.tail (.tail .head)) (.cons (.tail .head) (.cons .head (.cons .head .nil))))))))))))))))))))))

end Go.Proofs.Ytahpokcigdjilaa

