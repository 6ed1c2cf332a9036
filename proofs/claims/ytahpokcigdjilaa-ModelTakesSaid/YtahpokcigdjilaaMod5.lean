/- Steps through functions of the program, under conditions that each theorem states (part mod5 of a claim). -/
import Derived.Test.YtahpokcigdjilaaProg
import Derived.Test.YtahpokcigdjilaaL18
import Derived.Test.YtahpokcigdjilaaDefs22b
import Derived.Test.YtahpokcigdjilaaMod4
namespace Go.Proofs.Ytahpokcigdjilaa
open Go Go.Sp

set_option linter.unusedVariables false

namespace mod5
theorem fd36_0 : FD Try.prog 36 0 0 := .of Try.underlying36 (by kernel_rfl)
theorem na3 : NotAgg Try.prog 3 := ⟨_, Try.underlying3, trivial⟩
theorem fd36_1 : FD Try.prog 36 1 1 := .of Try.underlying36 (by kernel_rfl)
theorem bld67_0_1 (x0 : Int) (x1 : Int) (w : World) : (Instr.build 67 (([0, 1] : List Nat).zip [.int .i64 x0, .int .i64 x1]).toArray).run Try.prog w = .ok (.agg #[.int .i64 x0, .int .i64 x1]) w := by kernel_rfl
theorem ti67 : TI Try.prog 67 2 16 (.agg #[.int .i64 0, .int .i64 0]) := .of (by kernel_rfl)
theorem ts67 : TS Try.prog 67 2 := .of (by kernel_rfl)
theorem fd36_11 : FD Try.prog 36 11 11 := .of Try.underlying36 (by kernel_rfl)
theorem na4 : NotAgg Try.prog 4 := ⟨_, Try.underlying4, trivial⟩
theorem fd59_0 : FD Try.prog 59 0 0 := .of Try.underlying59 (by kernel_rfl)
theorem na46 : NotAgg Try.prog 46 := ⟨_, Try.underlying46, trivial⟩
theorem ia67 : IsAgg Try.prog 67 := ⟨_, Try.underlying67, trivial⟩
theorem fd59_1 : FD Try.prog 59 1 1 := .of Try.underlying59 (by kernel_rfl)
theorem na47 : NotAgg Try.prog 47 := ⟨_, Try.underlying47, trivial⟩
theorem fd36_2 : FD Try.prog 36 2 2 := .of Try.underlying36 (by kernel_rfl)
theorem fd36_8 : FD Try.prog 36 8 8 := .of Try.underlying36 (by kernel_rfl)
theorem na9 : NotAgg Try.prog 9 := ⟨_, Try.underlying9, trivial⟩
theorem fd36_3 : FD Try.prog 36 3 3 := .of Try.underlying36 (by kernel_rfl)
theorem bld70_0_1 (x0 : ByteArray) (x1 : Int) (w : World) : (Instr.build 70 (([0, 1] : List Nat).zip [.string x0, .int .i64 x1]).toArray).run Try.prog w = .ok (.agg #[.string x0, .int .i64 x1]) w := by kernel_rfl
theorem bld72_0_1 (x0 : Int) (x1_0 : ByteArray) (x1_1 : Int) (w : World) : (Instr.build 72 (([0, 1] : List Nat).zip [.int .i64 x0, .agg #[.string x1_0, .int .i64 x1_1]]).toArray).run Try.prog w = .ok (.agg #[.int .i64 x0, .string x1_0, .int .i64 x1_1]) w := by kernel_rfl
theorem ti3 : TI Try.prog 3 1 8 (.int .i64 0) := .of (by kernel_rfl)
theorem ti72 : TI Try.prog 72 3 32 (.agg #[.int .i64 0, .string ⟨#[]⟩, .int .i64 0]) := .of (by kernel_rfl)
theorem fd59_5 : FD Try.prog 59 5 5 := .of Try.underlying59 (by kernel_rfl)
theorem na51 : NotAgg Try.prog 51 := ⟨_, Try.underlying51, trivial⟩
theorem fd36_9 : FD Try.prog 36 9 9 := .of Try.underlying36 (by kernel_rfl)
theorem bld79_0_1 (x0 : Int) (x1 : ByteArray) (w : World) : (Instr.build 79 (([0, 1] : List Nat).zip [.int .i64 x0, .string x1]).toArray).run Try.prog w = .ok (.agg #[.int .i64 x0, .string x1]) w := by kernel_rfl
theorem fd36_4 : FD Try.prog 36 4 4 := .of Try.underlying36 (by kernel_rfl)
theorem bld82_0_1_2 (x0 : Int) (x1 : Int) (x2 : Int) (w : World) : (Instr.build 82 (([0, 1, 2] : List Nat).zip [.int .i64 x0, .int .i64 x1, .int .i64 x2]).toArray).run Try.prog w = .ok (.agg #[.int .i64 x0, .int .i64 x1, .int .i64 x2, .int .i64 0]) w := by kernel_rfl
theorem fd59_11 : FD Try.prog 59 11 11 := .of Try.underlying59 (by kernel_rfl)
theorem na57 : NotAgg Try.prog 57 := ⟨_, Try.underlying57, trivial⟩
theorem fd59_10 : FD Try.prog 59 10 10 := .of Try.underlying59 (by kernel_rfl)
theorem na56 : NotAgg Try.prog 56 := ⟨_, Try.underlying56, trivial⟩
theorem ti83 : TI Try.prog 83 1 24 (.slice none 0 0) := .of (by kernel_rfl)
theorem ti80 : TI Try.prog 80 1 8 (.pointer none) := .of (by kernel_rfl)
theorem fd59_2 : FD Try.prog 59 2 2 := .of Try.underlying59 (by kernel_rfl)
theorem na48 : NotAgg Try.prog 48 := ⟨_, Try.underlying48, trivial⟩
theorem fd36_10 : FD Try.prog 36 10 10 := .of Try.underlying36 (by kernel_rfl)
theorem na34 : NotAgg Try.prog 34 := ⟨_, Try.underlying34, trivial⟩
theorem bld85_0_1 (x0 : Int) (x1 : Int) (w : World) : (Instr.build 85 (([0, 1] : List Nat).zip [.int .i64 x0, .int .i64 x1]).toArray).run Try.prog w = .ok (.agg #[.int .i64 x0, .int .i64 x1]) w := by kernel_rfl
theorem ti85 : TI Try.prog 85 2 16 (.agg #[.int .i64 0, .int .i64 0]) := .of (by kernel_rfl)
theorem ti79 : TI Try.prog 79 2 24 (.agg #[.int .i64 0, .string ⟨#[]⟩]) := .of (by kernel_rfl)
theorem ts85 : TS Try.prog 85 2 := .of (by kernel_rfl)
theorem ts79 : TS Try.prog 79 2 := .of (by kernel_rfl)
theorem fd59_3 : FD Try.prog 59 3 3 := .of Try.underlying59 (by kernel_rfl)
theorem na49 : NotAgg Try.prog 49 := ⟨_, Try.underlying49, trivial⟩
theorem ia85 : IsAgg Try.prog 85 := ⟨_, Try.underlying85, trivial⟩
theorem fd59_6 : FD Try.prog 59 6 6 := .of Try.underlying59 (by kernel_rfl)
theorem na52 : NotAgg Try.prog 52 := ⟨_, Try.underlying52, trivial⟩
theorem ia79 : IsAgg Try.prog 79 := ⟨_, Try.underlying79, trivial⟩
theorem ti40 : TI Try.prog 40 1 24 (.slice none 0 0) := .of (by kernel_rfl)
theorem fd59_4 : FD Try.prog 59 4 4 := .of Try.underlying59 (by kernel_rfl)
theorem na50 : NotAgg Try.prog 50 := ⟨_, Try.underlying50, trivial⟩
theorem fd36_5 : FD Try.prog 36 5 5 := .of Try.underlying36 (by kernel_rfl)
theorem fd36_6 : FD Try.prog 36 6 6 := .of Try.underlying36 (by kernel_rfl)
theorem bld86_0_1_2 (x0 : Int) (x1 : Int) (x2 : Int) (w : World) : (Instr.build 86 (([0, 1, 2] : List Nat).zip [.int .i64 x0, .int .i64 x1, .int .i64 x2]).toArray).run Try.prog w = .ok (.agg #[.int .i64 x0, .int .i64 x1, .int .i64 x2]) w := by kernel_rfl
theorem ti86 : TI Try.prog 86 3 24 (.agg #[.int .i64 0, .int .i64 0, .int .i64 0]) := .of (by kernel_rfl)
theorem ts86 : TS Try.prog 86 3 := .of (by kernel_rfl)
theorem fd59_7 : FD Try.prog 59 7 7 := .of Try.underlying59 (by kernel_rfl)
theorem na53 : NotAgg Try.prog 53 := ⟨_, Try.underlying53, trivial⟩
theorem ia86 : IsAgg Try.prog 86 := ⟨_, Try.underlying86, trivial⟩
theorem ia36 : IsAgg Try.prog 36 := ⟨_, Try.underlying36, trivial⟩
theorem ts36 : TS Try.prog 36 12 := .of (by kernel_rfl)
theorem ti36 : TI Try.prog 36 12 112 (.agg #[.int .i64 0, .int .i64 0, .int .i64 0, .int .i64 0, .int .i64 0, .int .i64 0, .int .i64 0, .int .i64 0, .string ⟨#[]⟩, .string ⟨#[]⟩, .int .i64 0, .bool false]) := .of (by kernel_rfl)
theorem ti22 : TI Try.prog 22 1 24 (.slice none 0 0) := .of (by kernel_rfl)
theorem fd59_8 : FD Try.prog 59 8 8 := .of Try.underlying59 (by kernel_rfl)
theorem na54 : NotAgg Try.prog 54 := ⟨_, Try.underlying54, trivial⟩
theorem ti74 : TI Try.prog 74 1 24 (.slice none 0 0) := .of (by kernel_rfl)
theorem bld76_0_1 (x0 : Int) (x1 : Int) (w : World) : (Instr.build 76 (([0, 1] : List Nat).zip [.int .i64 x0, .int .i64 x1]).toArray).run Try.prog w = .ok (.agg #[.int .i64 x0, .int .i64 x1]) w := by kernel_rfl
theorem ti76 : TI Try.prog 76 2 16 (.agg #[.int .i64 0, .int .i64 0]) := .of (by kernel_rfl)
theorem fd59_9 : FD Try.prog 59 9 9 := .of Try.underlying59 (by kernel_rfl)
theorem na55 : NotAgg Try.prog 55 := ⟨_, Try.underlying55, trivial⟩
theorem fd36_7 : FD Try.prog 36 7 7 := .of Try.underlying36 (by kernel_rfl)
theorem fd82_2 : FD Try.prog 82 2 2 := .of Try.underlying82 (by kernel_rfl)
theorem ts3 : TS Try.prog 3 1 := .of (by kernel_rfl)
theorem fd82_3 : FD Try.prog 82 3 3 := .of Try.underlying82 (by kernel_rfl)
theorem ts34 : TS Try.prog 34 1 := .of (by kernel_rfl)
end mod5
open mod5



set_option maxHeartbeats 2000000 in
set_option maxRecDepth 20000 in
theorem note_ok (c : Nat) (p : PS) (n : Nat) (i : Int) (s : Sn) (hn : n ≤ 1000000) (hcalls : s.done = false → p.calls s.id = none) : Cn Try.prog 14 [ptrV c, .int .i64 i, .agg s.cells.toArray] (fun _ => True) [chk c p n] fun v G => G = [chk c (noteP p i s) (n + 1)] := by
  refine .enter Try.func14 rfl (by kernel_rfl) rfl fun R k => ?_
  refine .open_ (σ := CS × Bl) (φ := fun x => Rel x.1 p n) (B := fun x => chkL c x.1 x.2) .head chk_open (fun x hR => ?_)
  obtain ⟨S, b⟩ := x
  dsimp only at hR
  simp only [chkL, List.cons_append, List.nil_append]
  refine .seq ?_
  refine .region ?_   -- R0 model.go:168
  refine .ef (.box (l := s.cells) rfl rfl (ones.of rfl)) ?_
  rintro _ _ ⟨b5, rfl, rfl⟩
  refine .nil ?_
  refine .seq ?_
  refine .region ?_   -- R1 model.go:169
  refine .rd (.fieldAddr fd36_0 rfl) ?_
  refine .rd (.ld na3 rfl .head rfl) ?_
  refine .rd (.fieldAddr fd36_1 rfl) ?_
  refine .rd (.ld na3 rfl .head rfl) ?_
  refine .rd (.build rfl (bld67_0_1 _ _)) ?_
  refine .ef (.alloc ti67 rfl (ones.of rfl)) ?_
  rintro _ _ ⟨b6, rfl, rfl⟩
  refine .ef0 (.storeAll ts67 rfl rfl rfl .head rfl (ones.of rfl)) ?_
  rintro _ _ rfl
  refine .nil ?_
  refine .seq ?_
  refine .seq ?_
  refine .region ?_   -- R2 model.go:170
  refine .rd (.fieldAddr fd36_11 rfl) ?_
  refine .rd (.ld na4 rfl (.tail .head) rfl) ?_
  refine .rd (.not rfl) ?_
  refine .nil ?_
  refine .cond rfl (fun h2 => ?_) (fun h2 => ?_)
  · have hd : s.done = false := by simpa using h2
    have hcn := hcalls hd
    refine .seq ?_
    refine .draws [3, 4, 8, 9, 12, 14, 16] [blk c b.cells 59, blk b6 [.int .i64 s.client, .int .i64 s.call] 67, blk b5 s.cells 36] (by kernel_rfl) ?_   -- R3 model.go:171
    refine .rp 0 rfl (by kernel_rfl) (by kernel_rfl) (by kernel_rfl) (Reads.pure (.move rfl)) ?_
    refine .rp 1 rfl (by kernel_rfl) (by kernel_rfl) (by kernel_rfl) (Reads.pure (.nilCheck rfl)) ?_
    refine .rp 2 rfl (by kernel_rfl) (by kernel_rfl) (by kernel_rfl) (Reads.pure (.fieldAddr fd59_0 rfl)) ?_
    refine .rd 3 rfl rfl (by kernel_rfl) (by kernel_rfl) (by kernel_rfl) (.ld na46 rfl .head rfl) (.cons (.tail (.tail .head)) (.cons .head (.cons .head .nil))) ?_
    refine .rd 4 rfl rfl (by kernel_rfl) (by kernel_rfl) (by kernel_rfl) (.ldN ia67 ts67 rfl (.tail .head) rfl) (.cons (.tail (.tail .head)) (.cons .head (.cons .head .nil))) ?_
    refine .rp 5 rfl (by kernel_rfl) (by kernel_rfl) (by kernel_rfl) (Reads.pure (.move rfl)) ?_
    refine .rp 6 rfl (by kernel_rfl) (by kernel_rfl) (by kernel_rfl) (Reads.pure (.nilCheck rfl)) ?_
    refine .rp 7 rfl (by kernel_rfl) (by kernel_rfl) (by kernel_rfl) (Reads.pure (.fieldAddr fd59_1 rfl)) ?_
    refine .rd 8 rfl rfl (by kernel_rfl) (by kernel_rfl) (by kernel_rfl) (.ld na47 rfl .head rfl) (.cons (.tail (.tail .head)) (.cons .head (.cons .head .nil))) ?_
    refine .rd 9 rfl rfl (by kernel_rfl) (by kernel_rfl) (by kernel_rfl) (.ldN ia67 ts67 rfl (.tail .head) rfl) (.cons (.tail (.tail .head)) (.cons .head (.cons .head .nil))) ?_
    refine .rp 10 rfl (by kernel_rfl) (by kernel_rfl) (by kernel_rfl) (Reads.pure (.move rfl)) ?_
    refine .rp 11 rfl (by kernel_rfl) (by kernel_rfl) (by kernel_rfl) (Reads.pure (.fieldAddr fd36_2 rfl)) ?_
    refine .rd 12 rfl rfl (by kernel_rfl) (by kernel_rfl) (by kernel_rfl) (.ld na3 rfl (.tail (.tail .head)) rfl) (.cons (.tail (.tail .head)) (.cons .head (.cons .head .nil))) ?_
    refine .rp 13 rfl (by kernel_rfl) (by kernel_rfl) (by kernel_rfl) (Reads.pure (.fieldAddr fd36_8 rfl)) ?_
    refine .rd 14 rfl rfl (by kernel_rfl) (by kernel_rfl) (by kernel_rfl) (.ld na9 rfl (.tail (.tail .head)) rfl) (.cons (.tail (.tail .head)) (.cons .head (.cons .head .nil))) ?_
    refine .rp 15 rfl (by kernel_rfl) (by kernel_rfl) (by kernel_rfl) (Reads.pure (.fieldAddr fd36_3 rfl)) ?_
    refine .rd 16 rfl rfl (by kernel_rfl) (by kernel_rfl) (by kernel_rfl) (.ld na3 rfl (.tail (.tail .head)) rfl) (.cons (.tail (.tail .head)) (.cons .head (.cons .head .nil))) ?_
    refine .rp 17 rfl (by kernel_rfl) (by kernel_rfl) (by kernel_rfl) (Reads.pure (.build rfl (bld70_0_1 _ _))) ?_
    refine .rp 18 rfl (by kernel_rfl) (by kernel_rfl) (by kernel_rfl) (Reads.pure (.build rfl (bld72_0_1 _ _ _))) ?_
    refine .ef 19 (by kernel_rfl) rfl (.mapEntry (q := s.id) (z0 := 0) kl67 Try.underlying46 (fun w => ti3.zero w) rfl rfl rfl (.tail (.tail (.tail .head)))) ?_
    rintro _ _ ⟨st0, rfl, rfl⟩
    refine ⟨.inr ⟨_, (.cons (.tail (.tail (.tail .head))) (.cons (.tail .head) (.cons (.tail .head) .nil)))⟩, ?_⟩
    refine .rp 20 rfl (by kernel_rfl) (by kernel_rfl) (by kernel_rfl) (Reads.pure (.extract rfl rfl)) ?_
    refine .ef0 21 (by kernel_rfl) rfl (.entryStore (s := st0) (u := i) rfl rfl rfl .head) ?_
    rintro _ _ rfl
    refine ⟨.inr ⟨_, (.cons (.tail (.tail (.tail .head))) (.cons (.tail .head) (.cons (.tail .head) .nil)))⟩, ?_⟩
    refine .ef 22 (by kernel_rfl) rfl (.mapEntry (q := s.id) (z0 := ask0) kl67 Try.underlying47 (fun w => ti72.zero w) rfl rfl rfl (.tail (.tail (.tail (.tail .head))))) ?_
    rintro _ _ ⟨st1, rfl, rfl⟩
    refine ⟨.inr ⟨_, (.cons (.tail (.tail (.tail (.tail .head)))) (.cons (.tail (.tail .head)) (.cons (.tail (.tail .head)) .nil)))⟩, ?_⟩
    refine .rp 23 rfl (by kernel_rfl) (by kernel_rfl) (by kernel_rfl) (Reads.pure (.extract rfl rfl)) ?_
    refine .ef0 24 (by kernel_rfl) rfl (.entryStore (s := st1) (u := s.ask) rfl rfl rfl .head) ?_
    rintro _ _ rfl
    refine ⟨.inl (by kernel_rfl), ?_⟩
    refine .done (by kernel_rfl) ?_
    refine .seq ?_
    refine .seq ?_
    refine .region ?_   -- R4 model.go:172
    refine .rd (.fieldAddr fd36_2 rfl) ?_
    refine .rd (.ld na3 rfl (.tail (.tail (.tail .head))) rfl) ?_
    refine .nil ?_
    refine .block ?_
    refine .seq ?_
    refine .region ?_   -- R5 model.go:173
    refine .rd (.eqI rfl rfl) ?_
    refine .rd (.assign rfl) ?_
    refine .nil ?_
    refine .condP rfl (fun h5 => ?_) (fun h5 => ?_)
    · have hsn := hR.sentN (s.part, s.text)
      refine .draws [3, 5, 7] [blk c b.cells 59, blk b5 s.cells 36] (by kernel_rfl) ?_   -- R6 model.go:174
      refine .rp 0 rfl (by kernel_rfl) (by kernel_rfl) (by kernel_rfl) (Reads.pure (.move rfl)) ?_
      refine .rp 1 rfl (by kernel_rfl) (by kernel_rfl) (by kernel_rfl) (Reads.pure (.nilCheck rfl)) ?_
      refine .rp 2 rfl (by kernel_rfl) (by kernel_rfl) (by kernel_rfl) (Reads.pure (.fieldAddr fd59_5 rfl)) ?_
      refine .rd 3 rfl rfl (by kernel_rfl) (by kernel_rfl) (by kernel_rfl) (.ld na51 rfl .head rfl) (.cons (.tail (.tail (.tail (.tail .head)))) (.cons (.tail (.tail (.tail .head))) .nil)) ?_
      refine .rp 4 rfl (by kernel_rfl) (by kernel_rfl) (by kernel_rfl) (Reads.pure (.fieldAddr fd36_3 rfl)) ?_
      refine .rd 5 rfl rfl (by kernel_rfl) (by kernel_rfl) (by kernel_rfl) (.ld na3 rfl (.tail .head) rfl) (.cons (.tail (.tail (.tail (.tail .head)))) (.cons (.tail (.tail (.tail .head))) .nil)) ?_
      refine .rp 6 rfl (by kernel_rfl) (by kernel_rfl) (by kernel_rfl) (Reads.pure (.fieldAddr fd36_9 rfl)) ?_
      refine .rd 7 rfl rfl (by kernel_rfl) (by kernel_rfl) (by kernel_rfl) (.ld na9 rfl (.tail .head) rfl) (.cons (.tail (.tail (.tail (.tail .head)))) (.cons (.tail (.tail (.tail .head))) .nil)) ?_
      refine .rp 8 rfl (by kernel_rfl) (by kernel_rfl) (by kernel_rfl) (Reads.pure (.build rfl (bld79_0_1 _ _))) ?_
      refine .all (rs := [9, 11]) (by kernel_rfl) (by simp) (fun i hi => ?_)
      simp only [List.mem_cons, List.not_mem_nil, or_false] at hi
      rcases hi with rfl | rfl
      · refine .rd rfl (.lookup (q := (s.part, s.text)) kl79 Try.underlying51 (fun w => ti3.zero w) rfl rfl (.tail (.tail (.tail (.tail (.tail (.tail (.tail (.tail .head))))))))) (.cons (.tail (.tail (.tail (.tail .head)))) (.cons (.tail (.tail (.tail .head))) .nil)) ?_
        refine .alter (t := 56) (v' := .int .i64 (p.sent (s.part, s.text))) rfl (by rw [← hR.sent]; exact getD_map inV _ 0) ?_
        refine .rp 10 rfl (by kernel_rfl) (by kernel_rfl) (by kernel_rfl) (Reads.pure (.add (m := p.sent (s.part, s.text)) (n := 1) rfl rfl (by omega) (by omega))) ?_
        refine .ef 11 (by kernel_rfl) rfl (.mapEntry (q := (s.part, s.text)) (z0 := 0) kl79 Try.underlying51 (fun w => ti3.zero w) rfl rfl rfl (.tail (.tail (.tail (.tail (.tail (.tail (.tail (.tail .head))))))))) ?_
        rintro _ _ ⟨st2, rfl, rfl⟩
        refine ⟨.inl (by kernel_rfl), ?_⟩
        refine .rp 12 rfl (by kernel_rfl) (by kernel_rfl) (by kernel_rfl) (Reads.pure (.extract rfl rfl)) ?_
        refine .ef0 13 (by kernel_rfl) rfl (.entryStore (s := st2) (u := (p.sent (s.part, s.text) + 1)) rfl rfl rfl .head) ?_
        rintro _ _ rfl
        refine ⟨.inl (by kernel_rfl), ?_⟩
        refine .done (by kernel_rfl) ?_
        refine .inBlock ?_
        refine .close (X := chk c (noteP p i s) (n + 1)) (B := chkL c { S with calls := (mset (mset S.calls s.id ((mget S.calls s.id).getD 0)) s.id i), kinds := (mset (mset S.kinds s.id ((mget S.kinds s.id).getD ask0)) s.id s.ask), sent := (mset (mset S.sent (s.part, s.text) ((mget S.sent (s.part, s.text)).getD 0)) (s.part, s.text) (p.sent (s.part, s.text) + 1)) } b) (.cons (.tail (.tail (.tail (.tail (.tail .head))))) (.cons (.tail (.tail .head)) (.cons (.tail .head) (.cons (.tail (.tail (.tail .head))) (.cons (.tail (.tail (.tail .head))) (.cons (.tail (.tail (.tail .head))) (.cons .head (.cons (.tail (.tail .head)) (.cons (.tail (.tail .head)) (.cons (.tail (.tail .head)) (.cons (.tail (.tail .head)) (.cons (.tail (.tail .head)) (.cons (.tail (.tail .head)) (.cons (.tail (.tail .head)) (.cons (.tail (.tail .head)) (.cons (.tail (.tail .head)) (.cons (.tail (.tail .head)) (.cons (.tail (.tail .head)) (.cons (.tail (.tail .head)) .nil))))))))))))))))))) (chk_close (by rw [note_send hd h5]; exact (hR.setCall (Sets.twice _ _ _ _) (Sets.twice _ _ _ _)).setSent (Sets.twice _ _ _ _))) ?_
        refine .retP Try.func14 .nil (.cons .head (.cons (.tail (.tail .head)) .nil)) ?_
        exact ⟨[_], rfl, rfl⟩
      · refine .ef rfl (.mapEntry (q := (s.part, s.text)) (z0 := 0) kl79 Try.underlying51 (fun w => ti3.zero w) rfl rfl rfl (.tail (.tail (.tail (.tail (.tail (.tail (.tail (.tail .head))))))))) ?_
        rintro _ _ ⟨st2, rfl, rfl⟩
        refine ⟨.inl (by kernel_rfl), ?_⟩
        refine .rp 12 rfl (by kernel_rfl) (by kernel_rfl) (by kernel_rfl) (Reads.pure (.extract rfl rfl)) ?_
        refine .rs (Δ := []) 9 (by kernel_rfl) rfl (.lookupE (q := (s.part, s.text)) kl79 Try.underlying51 (fun w => ti3.zero w) rfl rfl .head) (.inl (by kernel_rfl)) ?_
        refine .alter (t := 56) (v' := .int .i64 (p.sent (s.part, s.text))) rfl (by rw [mget_mset, if_pos rfl, ← hR.sent]; rfl) ?_
        refine .rp 10 rfl (by kernel_rfl) (by kernel_rfl) (by kernel_rfl) (Reads.pure (.add (m := p.sent (s.part, s.text)) (n := 1) rfl rfl (by omega) (by omega))) ?_
        refine .ef0 13 (by kernel_rfl) rfl (.entryStore (s := st2) (u := (p.sent (s.part, s.text) + 1)) rfl rfl rfl .head) ?_
        rintro _ _ rfl
        refine ⟨.inl (by kernel_rfl), ?_⟩
        refine .done (by kernel_rfl) ?_
        refine .inBlock ?_
        refine .close (X := chk c (noteP p i s) (n + 1)) (B := chkL c { S with calls := (mset (mset S.calls s.id ((mget S.calls s.id).getD 0)) s.id i), kinds := (mset (mset S.kinds s.id ((mget S.kinds s.id).getD ask0)) s.id s.ask), sent := (mset (mset S.sent (s.part, s.text) ((mget S.sent (s.part, s.text)).getD 0)) (s.part, s.text) (p.sent (s.part, s.text) + 1)) } b) (.cons (.tail (.tail (.tail (.tail (.tail .head))))) (.cons (.tail (.tail .head)) (.cons (.tail .head) (.cons (.tail (.tail (.tail .head))) (.cons (.tail (.tail (.tail .head))) (.cons (.tail (.tail (.tail .head))) (.cons .head (.cons (.tail (.tail .head)) (.cons (.tail (.tail .head)) (.cons (.tail (.tail .head)) (.cons (.tail (.tail .head)) (.cons (.tail (.tail .head)) (.cons (.tail (.tail .head)) (.cons (.tail (.tail .head)) (.cons (.tail (.tail .head)) (.cons (.tail (.tail .head)) (.cons (.tail (.tail .head)) (.cons (.tail (.tail .head)) (.cons (.tail (.tail .head)) .nil))))))))))))))))))) (chk_close (by rw [note_send hd h5]; exact (hR.setCall (Sets.twice _ _ _ _) (Sets.twice _ _ _ _)).setSent (Sets.twice _ _ _ _))) ?_
        refine .retP Try.func14 .nil (.cons .head (.cons (.tail (.tail .head)) .nil)) ?_
        exact ⟨[_], rfl, rfl⟩
    · refine .seq ?_
      refine .region ?_   -- R7 model.go:175
      refine .rd (.eqI rfl rfl) ?_
      refine .rd (.assign rfl) ?_
      refine .nil ?_
      refine .condP rfl (fun h7 => ?_) (fun h7 => ?_)
      · refine .seq ?_
        refine .region ?_   -- R8 model.go:176
        refine .rd (.fieldAddr fd36_4 rfl) ?_
        refine .rd (.ld na3 rfl (.tail (.tail (.tail .head))) rfl) ?_
        refine .rd (.move rfl) ?_
        refine .rd (.build rfl (bld82_0_1_2 _ _ _)) ?_
        refine .ef (.box (l := Sg.cells ⟨s.id, s.offset, i, -1, 0⟩) rfl rfl (ones.of rfl)) ?_
        rintro _ _ ⟨nb, rfl, rfl⟩
        refine .rd (.assign rfl) ?_
        refine .nil ?_
        refine .seq ?_
        refine .draws [3, 4] [blk c b.cells 59, blk b6 [.int .i64 s.client, .int .i64 s.call] 67] (by kernel_rfl) ?_   -- R9 model.go:177
        refine .rp 0 rfl (by kernel_rfl) (by kernel_rfl) (by kernel_rfl) (Reads.pure (.move rfl)) ?_
        refine .rp 1 rfl (by kernel_rfl) (by kernel_rfl) (by kernel_rfl) (Reads.pure (.nilCheck rfl)) ?_
        refine .rp 2 rfl (by kernel_rfl) (by kernel_rfl) (by kernel_rfl) (Reads.pure (.fieldAddr fd59_11 rfl)) ?_
        refine .rd 3 rfl rfl (by kernel_rfl) (by kernel_rfl) (by kernel_rfl) (.ld na57 rfl .head rfl) (.cons (.tail (.tail (.tail (.tail (.tail .head))))) (.cons (.tail (.tail (.tail .head))) .nil)) ?_
        refine .rd 4 rfl rfl (by kernel_rfl) (by kernel_rfl) (by kernel_rfl) (.ldN ia67 ts67 rfl (.tail .head) rfl) (.cons (.tail (.tail (.tail (.tail (.tail .head))))) (.cons (.tail (.tail (.tail .head))) .nil)) ?_
        refine .rp 5 rfl (by kernel_rfl) (by kernel_rfl) (by kernel_rfl) (Reads.pure (.move rfl)) ?_
        refine .ef0 6 (by kernel_rfl) rfl (.mapUpdate (q := s.id) (u := nb) kl67 Try.underlying57 rfl rfl rfl (.tail (.tail (.tail (.tail (.tail (.tail (.tail (.tail (.tail (.tail (.tail (.tail (.tail (.tail (.tail .head)))))))))))))))) ?_
        rintro _ _ rfl
        refine ⟨.inl (by kernel_rfl), ?_⟩
        refine .done (by kernel_rfl) ?_
        have hln := hR.commitsN (s.name, s.part)
        rw [← hR.commits (s.name, s.part), List.length_map] at hln
        refine .tell (mp_nodup (.tail (.tail (.tail (.tail (.tail (.tail (.tail (.tail (.tail (.tail (.tail (.tail (.tail (.tail (.tail .head)))))))))))))))) (fun hnd => ?_)
        obtain ⟨⟨ra, rc, rl⟩, hr⟩ : ∃ r, (mget S.commits (s.name, s.part)).getD row0 = r := ⟨_, rfl⟩
        refine .open_ (σ := Unit) (φ := fun _ => True) (B := fun _ => [arr 80 1 ra rc (rl.flatMap pcell), bag (rowsOf 80 1 pcell) (mdel S.commits (s.name, s.part))]) (.tail (.tail (.tail (.tail (.tail (.tail (.tail (.tail (.tail (.tail (.tail (.tail (.tail (.tail (.tail (.tail (.tail (.tail (.tail (.tail .head)))))))))))))))))))) (fun h H => ⟨(), trivial, by have := row_take (f := pcell) (s.name, s.part) hnd h H; rw [hr] at this; exact this⟩) (fun _ _ => ?_)
        simp only [List.cons_append, List.nil_append]
        rw [hr] at hln
        dsimp only at hln
        refine .draws [3, 5, 7, 12, 14, 16, 18] [blk c b.cells 59, blk b5 s.cells 36, mp encP rowV b.m10 S.commits] (by kernel_rfl) ?_   -- R10 model.go:178
        refine .rp 0 rfl (by kernel_rfl) (by kernel_rfl) (by kernel_rfl) (Reads.pure (.move rfl)) ?_
        refine .rp 1 rfl (by kernel_rfl) (by kernel_rfl) (by kernel_rfl) (Reads.pure (.nilCheck rfl)) ?_
        refine .rp 2 rfl (by kernel_rfl) (by kernel_rfl) (by kernel_rfl) (Reads.pure (.fieldAddr fd59_10 rfl)) ?_
        refine .rd 3 rfl rfl (by kernel_rfl) (by kernel_rfl) (by kernel_rfl) (.ld na56 rfl .head rfl) (.cons (.tail (.tail (.tail (.tail (.tail (.tail (.tail (.tail .head)))))))) (.cons (.tail (.tail (.tail (.tail (.tail (.tail (.tail .head))))))) (.cons (.tail (.tail (.tail (.tail (.tail (.tail (.tail (.tail (.tail (.tail (.tail (.tail (.tail (.tail (.tail .head))))))))))))))) .nil))) ?_
        refine .rp 4 rfl (by kernel_rfl) (by kernel_rfl) (by kernel_rfl) (Reads.pure (.fieldAddr fd36_8 rfl)) ?_
        refine .rd 5 rfl rfl (by kernel_rfl) (by kernel_rfl) (by kernel_rfl) (.ld na9 rfl (.tail .head) rfl) (.cons (.tail (.tail (.tail (.tail (.tail (.tail (.tail (.tail .head)))))))) (.cons (.tail (.tail (.tail (.tail (.tail (.tail (.tail .head))))))) (.cons (.tail (.tail (.tail (.tail (.tail (.tail (.tail (.tail (.tail (.tail (.tail (.tail (.tail (.tail (.tail .head))))))))))))))) .nil))) ?_
        refine .rp 6 rfl (by kernel_rfl) (by kernel_rfl) (by kernel_rfl) (Reads.pure (.fieldAddr fd36_3 rfl)) ?_
        refine .rd 7 rfl rfl (by kernel_rfl) (by kernel_rfl) (by kernel_rfl) (.ld na3 rfl (.tail .head) rfl) (.cons (.tail (.tail (.tail (.tail (.tail (.tail (.tail (.tail .head)))))))) (.cons (.tail (.tail (.tail (.tail (.tail (.tail (.tail .head))))))) (.cons (.tail (.tail (.tail (.tail (.tail (.tail (.tail (.tail (.tail (.tail (.tail (.tail (.tail (.tail (.tail .head))))))))))))))) .nil))) ?_
        refine .rp 8 rfl (by kernel_rfl) (by kernel_rfl) (by kernel_rfl) (Reads.pure (.build rfl (bld70_0_1 _ _))) ?_
        refine .rp 9 rfl (by kernel_rfl) (by kernel_rfl) (by kernel_rfl) (Reads.pure (.move rfl)) ?_
        refine .rp 10 rfl (by kernel_rfl) (by kernel_rfl) (by kernel_rfl) (Reads.pure (.nilCheck rfl)) ?_
        refine .rp 11 rfl (by kernel_rfl) (by kernel_rfl) (by kernel_rfl) (Reads.pure (.fieldAddr fd59_10 rfl)) ?_
        refine .rd 12 rfl rfl (by kernel_rfl) (by kernel_rfl) (by kernel_rfl) (.ld na56 rfl .head rfl) (.cons (.tail (.tail (.tail (.tail (.tail (.tail (.tail (.tail .head)))))))) (.cons (.tail (.tail (.tail (.tail (.tail (.tail (.tail .head))))))) (.cons (.tail (.tail (.tail (.tail (.tail (.tail (.tail (.tail (.tail (.tail (.tail (.tail (.tail (.tail (.tail .head))))))))))))))) .nil))) ?_
        refine .rp 13 rfl (by kernel_rfl) (by kernel_rfl) (by kernel_rfl) (Reads.pure (.fieldAddr fd36_8 rfl)) ?_
        refine .rd 14 rfl rfl (by kernel_rfl) (by kernel_rfl) (by kernel_rfl) (.ld na9 rfl (.tail .head) rfl) (.cons (.tail (.tail (.tail (.tail (.tail (.tail (.tail (.tail .head)))))))) (.cons (.tail (.tail (.tail (.tail (.tail (.tail (.tail .head))))))) (.cons (.tail (.tail (.tail (.tail (.tail (.tail (.tail (.tail (.tail (.tail (.tail (.tail (.tail (.tail (.tail .head))))))))))))))) .nil))) ?_
        refine .rp 15 rfl (by kernel_rfl) (by kernel_rfl) (by kernel_rfl) (Reads.pure (.fieldAddr fd36_3 rfl)) ?_
        refine .rd 16 rfl rfl (by kernel_rfl) (by kernel_rfl) (by kernel_rfl) (.ld na3 rfl (.tail .head) rfl) (.cons (.tail (.tail (.tail (.tail (.tail (.tail (.tail (.tail .head)))))))) (.cons (.tail (.tail (.tail (.tail (.tail (.tail (.tail .head))))))) (.cons (.tail (.tail (.tail (.tail (.tail (.tail (.tail (.tail (.tail (.tail (.tail (.tail (.tail (.tail (.tail .head))))))))))))))) .nil))) ?_
        refine .rp 17 rfl (by kernel_rfl) (by kernel_rfl) (by kernel_rfl) (Reads.pure (.build rfl (bld70_0_1 _ _))) ?_
        refine .rd 18 rfl rfl (by kernel_rfl) (by kernel_rfl) (by kernel_rfl) (.lookup (q := (s.name, s.part)) kl70 Try.underlying56 (fun w => ti83.zero w) rfl rfl (.tail (.tail .head))) (.cons (.tail (.tail (.tail (.tail (.tail (.tail (.tail (.tail .head)))))))) (.cons (.tail (.tail (.tail (.tail (.tail (.tail (.tail .head))))))) (.cons (.tail (.tail (.tail (.tail (.tail (.tail (.tail (.tail (.tail (.tail (.tail (.tail (.tail (.tail (.tail .head))))))))))))))) .nil))) ?_
        refine .alter (t := 91) (v' := rowV (ra, rc, rl)) rfl (by rw [← hr]; exact getD_map rowV _ row0) ?_
        refine .rp 19 rfl (by kernel_rfl) (by kernel_rfl) (by kernel_rfl) (Reads.pure (.move rfl)) ?_
        refine .ef 20 (by kernel_rfl) rfl (.buildOne (cs := pcell nb) Try.underlying83 ti80 (by decide) rfl rfl rfl (ones.of rfl)) ?_
        rintro _ _ ⟨bs1, rfl, rfl⟩
        refine ⟨.inr ⟨_, (.cons (.tail (.tail (.tail (.tail (.tail (.tail (.tail (.tail (.tail .head))))))))) (.cons (.tail (.tail (.tail (.tail (.tail (.tail (.tail (.tail .head)))))))) (.cons (.tail (.tail (.tail (.tail (.tail (.tail (.tail (.tail (.tail (.tail (.tail (.tail (.tail (.tail (.tail (.tail .head)))))))))))))))) .nil)))⟩, ?_⟩
        refine .ef 21 (by kernel_rfl) rfl (.append rfl rfl Try.underlying83 ti80 rfl (ones.of rfl) (by decide) (by decide) rfl rfl (.tail .head) (n := rl.length) (m := 1) (by rw [flat_length pcell_len]) (.srcBlk (ys := pcell nb) .head Try.underlying83 rfl (by decide)) (by omega)) ?_
        rintro _ _ ⟨wa, wc, rfl, wn, rfl⟩
        refine ⟨.inr ⟨_, (.cons (.tail (.tail (.tail (.tail (.tail (.tail (.tail (.tail (.tail .head))))))))) (.cons (.tail (.tail (.tail (.tail (.tail (.tail (.tail (.tail .head)))))))) (.cons (.tail (.tail (.tail (.tail (.tail (.tail (.tail (.tail (.tail (.tail (.tail (.tail (.tail (.tail (.tail (.tail .head)))))))))))))))) .nil)))⟩, ?_⟩
        refine .alter (t := 94) (v' := rowV (wa, wc, rl ++ [nb])) rfl (by show _ = Value.slice _ (List.length (_ ++ _)) _; rw [List.length_append]; rfl) ?_
        refine .ef0 22 (by kernel_rfl) rfl (.mapUpdate (q := (s.name, s.part)) (u := (wa, wc, rl ++ [nb])) kl70 Try.underlying56 rfl rfl rfl (.tail (.tail (.tail (.tail (.tail (.tail (.tail (.tail (.tail (.tail (.tail (.tail (.tail (.tail (.tail (.tail (.tail (.tail .head))))))))))))))))))) ?_
        rintro _ _ rfl
        refine ⟨.inl (by kernel_rfl), ?_⟩
        refine .done (by kernel_rfl) ?_
        refine .perm (.cons (.tail .head) (.cons .head (.cons .head (.cons .head (.cons .head (.cons .head (.cons .head (.cons .head (.cons .head (.cons .head (.cons .head (.cons .head (.cons .head (.cons .head (.cons .head (.cons .head (.cons .head (.cons .head (.cons .head (.cons .head (.cons .head (.cons .head (.cons .head (.cons .head (.cons .head .nil))))))))))))))))))))))))) ?_
        refine .cast (X' := arr 80 1 wa wc ((rl ++ [nb]).flatMap pcell)) (by rw [List.flatMap_append]; simp) ?_
        refine .close (X := bag (rowsOf 80 1 pcell) (mset S.commits (s.name, s.part) (wa, wc, rl ++ [nb]))) (B := [arr 80 1 wa wc ((rl ++ [nb]).flatMap pcell), bag (rowsOf 80 1 pcell) (mdel S.commits (s.name, s.part))]) (.cons .head (.cons (.tail (.tail .head)) .nil)) (row_put hnd) ?_
        refine .perm (.cons (.tail (.tail (.tail (.tail .head)))) (.cons (.tail (.tail (.tail (.tail (.tail (.tail (.tail (.tail (.tail (.tail (.tail (.tail (.tail (.tail (.tail (.tail (.tail (.tail (.tail (.tail (.tail .head))))))))))))))))))))) (.cons .head (.cons .head (.cons .head (.cons .head (.cons .head (.cons .head (.cons .head (.cons .head (.cons .head (.cons .head (.cons .head (.cons .head (.cons .head (.cons .head (.cons .head (.cons .head (.cons .head (.cons .head (.cons .head (.cons .head (.cons .head (.cons .head .nil)))))))))))))))))))))))) ?_
        refine .tell (span_new (T := S.spans) .head .head) (fun hnew => ?_)
        refine .close (X := bag spanOf (mset S.spans nb ⟨s.id, s.offset, i, -1, 0⟩)) (B := [blk nb (Sg.cells ⟨s.id, s.offset, i, -1, 0⟩) 82, bag spanOf (mdel S.spans nb)]) (.cons .head (.cons (by rw [mdel_none hnew]; exact .head) .nil)) (span_put hR.nodup) ?_
        refine .inBlock ?_
        refine .close (X := chk c (noteP p i s) (n + 1)) (B := chkL c { S with calls := (mset (mset S.calls s.id ((mget S.calls s.id).getD 0)) s.id i), kinds := (mset (mset S.kinds s.id ((mget S.kinds s.id).getD ask0)) s.id s.ask), commits := mset S.commits (s.name, s.part) (wa, wc, rl ++ [nb]), opened := mset S.opened s.id nb, spans := mset S.spans nb ⟨s.id, s.offset, i, -1, 0⟩ } b) (.cons (.tail (.tail (.tail (.tail (.tail (.tail (.tail (.tail (.tail .head))))))))) (.cons (.tail (.tail (.tail (.tail (.tail (.tail .head)))))) (.cons (.tail (.tail (.tail (.tail (.tail .head))))) (.cons (.tail (.tail (.tail (.tail (.tail (.tail (.tail .head))))))) (.cons (.tail (.tail (.tail (.tail (.tail (.tail (.tail .head))))))) (.cons (.tail (.tail (.tail (.tail (.tail (.tail (.tail .head))))))) (.cons (.tail (.tail (.tail (.tail (.tail (.tail (.tail .head))))))) (.cons (.tail (.tail (.tail (.tail (.tail (.tail (.tail .head))))))) (.cons (.tail (.tail (.tail (.tail (.tail (.tail (.tail .head))))))) (.cons (.tail (.tail (.tail (.tail (.tail (.tail (.tail .head))))))) (.cons (.tail (.tail (.tail (.tail (.tail (.tail (.tail .head))))))) (.cons (.tail (.tail .head)) (.cons (.tail (.tail (.tail .head))) (.cons (.tail (.tail (.tail (.tail (.tail .head))))) (.cons (.tail (.tail (.tail (.tail (.tail .head))))) (.cons (.tail (.tail (.tail (.tail (.tail .head))))) (.cons (.tail (.tail (.tail (.tail (.tail .head))))) (.cons (.tail .head) (.cons .head .nil))))))))))))))))))) (chk_close (by rw [note_commit hd h7]; exact hR.setCommit (g := ⟨s.id, s.offset, i, -1, 0⟩) hcn hnew (by rw [hr]) (Sets.twice _ _ _ _) (Sets.twice _ _ _ _) (Sets.set _ _ _) (Sets.set _ _ _) (Sets.set _ _ _) (mset_nodup hR.nodup _ _))) ?_
        refine .retP Try.func14 .nil (.cons .head (.cons (.tail (.tail (.tail .head))) .nil)) ?_
        exact ⟨[_], rfl, rfl⟩
      · refine .skip ?_
        refine .inBlock ?_
        refine .close (X := chk c (noteP p i s) (n + 1)) (B := chkL c { S with calls := (mset (mset S.calls s.id ((mget S.calls s.id).getD 0)) s.id i), kinds := (mset (mset S.kinds s.id ((mget S.kinds s.id).getD ask0)) s.id s.ask) } b) (.cons (.tail (.tail (.tail (.tail .head)))) (.cons (.tail .head) (.cons .head (.cons (.tail (.tail .head)) (.cons (.tail (.tail .head)) (.cons (.tail (.tail .head)) (.cons (.tail (.tail .head)) (.cons (.tail (.tail .head)) (.cons (.tail (.tail .head)) (.cons (.tail (.tail .head)) (.cons (.tail (.tail .head)) (.cons (.tail (.tail .head)) (.cons (.tail (.tail .head)) (.cons (.tail (.tail .head)) (.cons (.tail (.tail .head)) (.cons (.tail (.tail .head)) (.cons (.tail (.tail .head)) (.cons (.tail (.tail .head)) (.cons (.tail (.tail .head)) .nil))))))))))))))))))) (chk_close (by rw [note_call hd h5 h7]; exact (hR.setCall (Sets.twice _ _ _ _) (Sets.twice _ _ _ _)).up)) ?_
        refine .retP Try.func14 .nil (.cons .head (.cons (.tail (.tail .head)) .nil)) ?_
        exact ⟨[_], rfl, rfl⟩
  · have hd : s.done = true := by simpa using h2
    refine .skip ?_
    refine .seq ?_
    refine .draws [3, 4] [blk c b.cells 59, blk b6 [.int .i64 s.client, .int .i64 s.call] 67] (by kernel_rfl) ?_   -- R11 model.go:182
    refine .rp 0 rfl (by kernel_rfl) (by kernel_rfl) (by kernel_rfl) (Reads.pure (.move rfl)) ?_
    refine .rp 1 rfl (by kernel_rfl) (by kernel_rfl) (by kernel_rfl) (Reads.pure (.nilCheck rfl)) ?_
    refine .rp 2 rfl (by kernel_rfl) (by kernel_rfl) (by kernel_rfl) (Reads.pure (.fieldAddr fd59_2 rfl)) ?_
    refine .rd 3 rfl rfl (by kernel_rfl) (by kernel_rfl) (by kernel_rfl) (.ld na48 rfl .head rfl) (.cons (.tail (.tail .head)) (.cons .head .nil)) ?_
    refine .rd 4 rfl rfl (by kernel_rfl) (by kernel_rfl) (by kernel_rfl) (.ldN ia67 ts67 rfl (.tail .head) rfl) (.cons (.tail (.tail .head)) (.cons .head .nil)) ?_
    refine .ef0 5 (by kernel_rfl) rfl (.mapUpdate (q := s.id) (u := true) kl67 Try.underlying48 rfl rfl rfl (.tail (.tail (.tail (.tail (.tail .head)))))) ?_
    rintro _ _ rfl
    refine ⟨.inl (by kernel_rfl), ?_⟩
    refine .done (by kernel_rfl) ?_
    refine .seq ?_
    refine .seq ?_
    refine .draws [3, 4, 5] [blk c b.cells 59, blk b6 [.int .i64 s.client, .int .i64 s.call] 67, mp encI ptrV b.m11 S.opened] (by kernel_rfl) ?_   -- R12 model.go:183
    refine .rp 0 rfl (by kernel_rfl) (by kernel_rfl) (by kernel_rfl) (Reads.pure (.move rfl)) ?_
    refine .rp 1 rfl (by kernel_rfl) (by kernel_rfl) (by kernel_rfl) (Reads.pure (.nilCheck rfl)) ?_
    refine .rp 2 rfl (by kernel_rfl) (by kernel_rfl) (by kernel_rfl) (Reads.pure (.fieldAddr fd59_11 rfl)) ?_
    refine .rd 3 rfl rfl (by kernel_rfl) (by kernel_rfl) (by kernel_rfl) (.ld na57 rfl .head rfl) (.cons (.tail (.tail (.tail .head))) (.cons (.tail .head) (.cons (.tail (.tail (.tail (.tail (.tail (.tail (.tail (.tail (.tail (.tail (.tail (.tail .head)))))))))))) .nil))) ?_
    refine .rd 4 rfl rfl (by kernel_rfl) (by kernel_rfl) (by kernel_rfl) (.ldN ia67 ts67 rfl (.tail .head) rfl) (.cons (.tail (.tail (.tail .head))) (.cons (.tail .head) (.cons (.tail (.tail (.tail (.tail (.tail (.tail (.tail (.tail (.tail (.tail (.tail (.tail .head)))))))))))) .nil))) ?_
    refine .rd 5 rfl rfl (by kernel_rfl) (by kernel_rfl) (by kernel_rfl) (.lookup (q := s.id) kl67 Try.underlying57 (fun w => ti80.zero w) rfl rfl (.tail (.tail .head))) (.cons (.tail (.tail (.tail .head))) (.cons (.tail .head) (.cons (.tail (.tail (.tail (.tail (.tail (.tail (.tail (.tail (.tail (.tail (.tail (.tail .head)))))))))))) .nil))) ?_
    refine .alter (t := 105) (v' := .pointer ((mget S.opened s.id).map fun b => ⟨b, 0, none⟩)) rfl (by cases (mget S.opened s.id) <;> rfl) ?_
    refine .rp 6 rfl (by kernel_rfl) (by kernel_rfl) (by kernel_rfl) (Reads.pure (.assign rfl)) ?_
    refine .done (by kernel_rfl) ?_
    refine .seq ?_
    refine .region ?_   -- R13 model.go:183
    refine .rd (.move rfl) ?_
    refine .rd (.neNilP Try.underlying80 rfl rfl) ?_
    refine .alter (t := 107) (v' := .bool (mget S.opened s.id).isSome) rfl (by cases (mget S.opened s.id) <;> rfl) ?_
    refine .nil ?_
    refine .joinAt (E' := [(0, .pointer (some ⟨c, 0, none⟩)), (1, .int .i64 i), (5, .pointer (some ⟨b5, 0, none⟩))]) (Γ' := [chk c (noteR p i s) n, blk b5 s.cells 36, R]) ?_ (fun fin => ?_)
    · have hpn := hR.sendsN
      refine .open_ (σ := CS × Bl) (φ := fun x => Rel x.1 (noteR p i s) n) (B := fun x => chkL c x.1 x.2) .head chk_open (fun x hR => ?_)
      obtain ⟨S, b⟩ := x
      dsimp only at hR
      simp only [chkL, List.cons_append, List.nil_append]
      refine .seq ?_
      refine .seq ?_
      refine .region ?_   -- R15 model.go:186
      refine .rd (.fieldAddr fd36_10 rfl) ?_
      refine .rd (.ld na34 rfl (.tail (.tail (.tail (.tail (.tail (.tail (.tail (.tail (.tail (.tail (.tail (.tail (.tail (.tail (.tail (.tail (.tail (.tail (.tail .head))))))))))))))))))) rfl) ?_
      refine .rd (.neI rfl rfl) ?_
      refine .nil ?_
      refine .condN rfl (fun h15 => ?_) (fun h15 => ?_)
      · refine .close (X := chk c (noteP p i s) (n + 1)) (B := chkL c S b) (.cons .head (.cons .head (.cons .head (.cons .head (.cons .head (.cons .head (.cons .head (.cons .head (.cons .head (.cons .head (.cons .head (.cons .head (.cons .head (.cons .head (.cons .head (.cons .head (.cons .head (.cons .head (.cons .head .nil))))))))))))))))))) (chk_close (by rw [note_err hd (by omega)]; exact hR.up)) ?_
        refine .retP Try.func14 .nil (.cons .head (.cons (.tail .head) .nil)) ?_
        exact ⟨[_], rfl, rfl⟩
      · have he : s.err = 0 := by omega
        refine .skip ?_
        refine .seq ?_
        refine .region ?_   -- R16 model.go:189
        refine .rd (.fieldAddr fd36_2 rfl) ?_
        refine .rd (.ld na3 rfl (.tail (.tail (.tail (.tail (.tail (.tail (.tail (.tail (.tail (.tail (.tail (.tail (.tail (.tail (.tail (.tail (.tail (.tail (.tail .head))))))))))))))))))) rfl) ?_
        refine .nil ?_
        refine .block ?_
        refine .seq ?_
        refine .seq ?_
        refine .region ?_   -- R17 model.go:190
        refine .rd (.eqI rfl rfl) ?_
        refine .rd (.assign rfl) ?_
        refine .nil ?_
        refine .joinAt (E' := [(0, .pointer (some ⟨c, 0, none⟩)), (1, .int .i64 i), (5, .pointer (some ⟨b5, 0, none⟩)), (121, .int .i64 s.kind), (122, .bool (decide (s.kind = 10) || decide (s.kind = 1)))]) (Γ' := [blk c b.cells 59, mp encI inV b.m0 S.calls, mp encI askV b.m1 S.kinds, mp encI Value.bool b.m2 S.done, mp encI txV b.m3 S.values, mp encI Value.bool b.m4 S.acked, mp encL inV b.m5 S.sent, mp encL rowV b.m6 S.offsets, mp enc3 rowV b.m7 S.sends, mp encN rowV b.m8 S.deletes, mp encS rowV b.m9 S.gens, mp encP rowV b.m10 S.commits, mp encI ptrV b.m11 S.opened, bag (rowsOf 3 1 icell) S.offsets, bag (rowsOf 36 12 Sn.cells) S.sends, bag (rowsOf 76 2 Mark.cells) S.deletes, bag (rowsOf 76 2 Mark.cells) S.gens, bag (rowsOf 80 1 pcell) S.commits, bag spanOf S.spans, blk b5 s.cells 36, R]) ?_ (fun fin => ?_)
        · refine .cond rfl (fun h117 => ?_) (fun h117 => ?_)
          · refine .seq ?_
            refine .draws [1, 3, 6, 8] [blk b5 s.cells 36] (by kernel_rfl) ?_   -- R19 model.go:191
            refine .rp 0 rfl (by kernel_rfl) (by kernel_rfl) (by kernel_rfl) (Reads.pure (.fieldAddr fd36_3 rfl)) ?_
            refine .rd 1 rfl rfl (by kernel_rfl) (by kernel_rfl) (by kernel_rfl) (.ld na3 rfl .head rfl) (.cons (.tail (.tail (.tail (.tail (.tail (.tail (.tail (.tail (.tail (.tail (.tail (.tail (.tail (.tail (.tail (.tail (.tail (.tail (.tail .head))))))))))))))))))) .nil) ?_
            refine .rp 2 rfl (by kernel_rfl) (by kernel_rfl) (by kernel_rfl) (Reads.pure (.fieldAddr fd36_4 rfl)) ?_
            refine .rd 3 rfl rfl (by kernel_rfl) (by kernel_rfl) (by kernel_rfl) (.ld na3 rfl .head rfl) (.cons (.tail (.tail (.tail (.tail (.tail (.tail (.tail (.tail (.tail (.tail (.tail (.tail (.tail (.tail (.tail (.tail (.tail (.tail (.tail .head))))))))))))))))))) .nil) ?_
            refine .rp 4 rfl (by kernel_rfl) (by kernel_rfl) (by kernel_rfl) (Reads.pure (.build rfl (bld85_0_1 _ _))) ?_
            refine .rp 5 rfl (by kernel_rfl) (by kernel_rfl) (by kernel_rfl) (Reads.pure (.fieldAddr fd36_3 rfl)) ?_
            refine .rd 6 rfl rfl (by kernel_rfl) (by kernel_rfl) (by kernel_rfl) (.ld na3 rfl .head rfl) (.cons (.tail (.tail (.tail (.tail (.tail (.tail (.tail (.tail (.tail (.tail (.tail (.tail (.tail (.tail (.tail (.tail (.tail (.tail (.tail .head))))))))))))))))))) .nil) ?_
            refine .rp 7 rfl (by kernel_rfl) (by kernel_rfl) (by kernel_rfl) (Reads.pure (.fieldAddr fd36_9 rfl)) ?_
            refine .rd 8 rfl rfl (by kernel_rfl) (by kernel_rfl) (by kernel_rfl) (.ld na9 rfl .head rfl) (.cons (.tail (.tail (.tail (.tail (.tail (.tail (.tail (.tail (.tail (.tail (.tail (.tail (.tail (.tail (.tail (.tail (.tail (.tail (.tail .head))))))))))))))))))) .nil) ?_
            refine .rp 9 rfl (by kernel_rfl) (by kernel_rfl) (by kernel_rfl) (Reads.pure (.build rfl (bld79_0_1 _ _))) ?_
            refine .all (rs := [10, 11]) (by kernel_rfl) (by simp) (fun i hi => ?_)
            simp only [List.mem_cons, List.not_mem_nil, or_false] at hi
            rcases hi with rfl | rfl
            · refine .ef rfl (.alloc ti85 rfl (ones.of rfl)) ?_
              rintro _ _ ⟨b9, rfl, rfl⟩
              refine ⟨.inr ⟨_, (.cons (.tail (.tail (.tail (.tail (.tail (.tail (.tail (.tail (.tail (.tail (.tail (.tail (.tail (.tail (.tail (.tail (.tail (.tail (.tail (.tail .head)))))))))))))))))))) .nil)⟩, ?_⟩
              refine .ef 11 (by kernel_rfl) rfl (.alloc ti79 rfl (ones.of rfl)) ?_
              rintro _ _ ⟨b10, rfl, rfl⟩
              refine ⟨.inr ⟨_, (.cons (.tail (.tail (.tail (.tail (.tail (.tail (.tail (.tail (.tail (.tail (.tail (.tail (.tail (.tail (.tail (.tail (.tail (.tail (.tail (.tail (.tail .head))))))))))))))))))))) .nil)⟩, ?_⟩
              refine .ef0 12 (by kernel_rfl) rfl (.storeAll ts85 rfl rfl rfl (.tail .head) rfl (ones.of rfl)) ?_
              rintro _ _ rfl
              refine ⟨.inr ⟨_, (.cons (.tail (.tail (.tail (.tail (.tail (.tail (.tail (.tail (.tail (.tail (.tail (.tail (.tail (.tail (.tail (.tail (.tail (.tail (.tail (.tail (.tail .head))))))))))))))))))))) .nil)⟩, ?_⟩
              refine .ef0 13 (by kernel_rfl) rfl (.storeAll ts79 rfl rfl rfl (.tail .head) rfl (ones.of rfl)) ?_
              rintro _ _ rfl
              refine ⟨.inl (by kernel_rfl), ?_⟩
              refine .done (by kernel_rfl) ?_
              refine .seq ?_
              refine .draws [3, 4, 6] [blk c b.cells 59, blk b9 [.int .i64 s.part, .int .i64 s.offset] 85, blk b5 s.cells 36] (by kernel_rfl) ?_   -- R20 model.go:192
              refine .rp 0 rfl (by kernel_rfl) (by kernel_rfl) (by kernel_rfl) (Reads.pure (.move rfl)) ?_
              refine .rp 1 rfl (by kernel_rfl) (by kernel_rfl) (by kernel_rfl) (Reads.pure (.nilCheck rfl)) ?_
              refine .rp 2 rfl (by kernel_rfl) (by kernel_rfl) (by kernel_rfl) (Reads.pure (.fieldAddr fd59_3 rfl)) ?_
              refine .rd 3 rfl rfl (by kernel_rfl) (by kernel_rfl) (by kernel_rfl) (.ld na49 rfl .head rfl) (.cons (.tail (.tail .head)) (.cons (.tail .head) (.cons (.tail (.tail (.tail (.tail (.tail (.tail (.tail (.tail (.tail (.tail (.tail (.tail (.tail (.tail (.tail (.tail (.tail (.tail (.tail .head))))))))))))))))))) .nil))) ?_
              refine .rd 4 rfl rfl (by kernel_rfl) (by kernel_rfl) (by kernel_rfl) (.ldN ia85 ts85 rfl (.tail .head) rfl) (.cons (.tail (.tail .head)) (.cons (.tail .head) (.cons (.tail (.tail (.tail (.tail (.tail (.tail (.tail (.tail (.tail (.tail (.tail (.tail (.tail (.tail (.tail (.tail (.tail (.tail (.tail .head))))))))))))))))))) .nil))) ?_
              refine .rp 5 rfl (by kernel_rfl) (by kernel_rfl) (by kernel_rfl) (Reads.pure (.fieldAddr fd36_9 rfl)) ?_
              refine .rd 6 rfl rfl (by kernel_rfl) (by kernel_rfl) (by kernel_rfl) (.ld na9 rfl (.tail (.tail .head)) rfl) (.cons (.tail (.tail .head)) (.cons (.tail .head) (.cons (.tail (.tail (.tail (.tail (.tail (.tail (.tail (.tail (.tail (.tail (.tail (.tail (.tail (.tail (.tail (.tail (.tail (.tail (.tail .head))))))))))))))))))) .nil))) ?_
              refine .ef0 7 (by kernel_rfl) rfl (.mapUpdate (q := (s.part, s.offset)) (u := s.text) kl85 Try.underlying49 rfl rfl rfl (.tail (.tail (.tail (.tail (.tail (.tail .head))))))) ?_
              rintro _ _ rfl
              refine ⟨.inl (by kernel_rfl), ?_⟩
              refine .done (by kernel_rfl) ?_
              refine .seq ?_
              refine .seq ?_
              have hof := hR.offsets (s.part, s.text)
              have hon := hR.offsetsN (s.part, s.text)
              refine .tell (mp_nodup (.tail (.tail (.tail (.tail (.tail (.tail (.tail (.tail (.tail .head)))))))))) (fun hnd => ?_)
              obtain ⟨⟨ra, rc, rl⟩, hr⟩ : ∃ r, (mget S.offsets (s.part, s.text)).getD row0 = r := ⟨_, rfl⟩
              refine .open_ (σ := Unit) (φ := fun _ => True) (B := fun _ => [arr 3 1 ra rc (rl.flatMap icell), bag (rowsOf 3 1 icell) (mdel S.offsets (s.part, s.text))]) (.tail (.tail (.tail (.tail (.tail (.tail (.tail (.tail (.tail (.tail (.tail (.tail (.tail (.tail (.tail .head))))))))))))))) (fun h H => ⟨(), trivial, by have := row_take (f := icell) (s.part, s.text) hnd h H; rw [hr] at this; exact this⟩) (fun _ _ => ?_)
              simp only [List.cons_append, List.nil_append]
              rw [hr] at hof
              dsimp only at hof
              rw [← hof] at hon
              refine .draws [3, 4, 5, 7] [blk c b.cells 59, blk b10 [.int .i64 s.part, .string (str s.text)] 79, mp encL rowV b.m6 S.offsets, blk b5 s.cells 36] (by kernel_rfl) ?_   -- R21 model.go:193
              refine .rp 0 rfl (by kernel_rfl) (by kernel_rfl) (by kernel_rfl) (Reads.pure (.move rfl)) ?_
              refine .rp 1 rfl (by kernel_rfl) (by kernel_rfl) (by kernel_rfl) (Reads.pure (.nilCheck rfl)) ?_
              refine .rp 2 rfl (by kernel_rfl) (by kernel_rfl) (by kernel_rfl) (Reads.pure (.fieldAddr fd59_6 rfl)) ?_
              refine .rd 3 rfl rfl (by kernel_rfl) (by kernel_rfl) (by kernel_rfl) (.ld na52 rfl .head rfl) (.cons (.tail (.tail (.tail (.tail (.tail .head))))) (.cons (.tail (.tail (.tail .head))) (.cons (.tail (.tail (.tail (.tail (.tail (.tail (.tail (.tail (.tail .head))))))))) (.cons (.tail (.tail (.tail (.tail (.tail (.tail (.tail (.tail (.tail (.tail (.tail (.tail (.tail (.tail (.tail (.tail (.tail (.tail (.tail .head))))))))))))))))))) .nil)))) ?_
              refine .rd 4 rfl rfl (by kernel_rfl) (by kernel_rfl) (by kernel_rfl) (.ldN ia79 ts79 rfl (.tail .head) rfl) (.cons (.tail (.tail (.tail (.tail (.tail .head))))) (.cons (.tail (.tail (.tail .head))) (.cons (.tail (.tail (.tail (.tail (.tail (.tail (.tail (.tail (.tail .head))))))))) (.cons (.tail (.tail (.tail (.tail (.tail (.tail (.tail (.tail (.tail (.tail (.tail (.tail (.tail (.tail (.tail (.tail (.tail (.tail (.tail .head))))))))))))))))))) .nil)))) ?_
              refine .rd 5 rfl rfl (by kernel_rfl) (by kernel_rfl) (by kernel_rfl) (.lookup (q := (s.part, s.text)) kl79 Try.underlying52 (fun w => ti40.zero w) rfl rfl (.tail (.tail .head))) (.cons (.tail (.tail (.tail (.tail (.tail .head))))) (.cons (.tail (.tail (.tail .head))) (.cons (.tail (.tail (.tail (.tail (.tail (.tail (.tail (.tail (.tail .head))))))))) (.cons (.tail (.tail (.tail (.tail (.tail (.tail (.tail (.tail (.tail (.tail (.tail (.tail (.tail (.tail (.tail (.tail (.tail (.tail (.tail .head))))))))))))))))))) .nil)))) ?_
              refine .alter (t := 147) (v' := rowV (ra, rc, rl)) rfl (by rw [← hr]; exact getD_map rowV _ row0) ?_
              refine .rp 6 rfl (by kernel_rfl) (by kernel_rfl) (by kernel_rfl) (Reads.pure (.fieldAddr fd36_4 rfl)) ?_
              refine .rd 7 rfl rfl (by kernel_rfl) (by kernel_rfl) (by kernel_rfl) (.ld na3 rfl (.tail (.tail (.tail .head))) rfl) (.cons (.tail (.tail (.tail (.tail (.tail .head))))) (.cons (.tail (.tail (.tail .head))) (.cons (.tail (.tail (.tail (.tail (.tail (.tail (.tail (.tail (.tail .head))))))))) (.cons (.tail (.tail (.tail (.tail (.tail (.tail (.tail (.tail (.tail (.tail (.tail (.tail (.tail (.tail (.tail (.tail (.tail (.tail (.tail .head))))))))))))))))))) .nil)))) ?_
              refine .ef 8 (by kernel_rfl) rfl (.fn rfl rfl .nil (Knows.arr .head) (Contains_ok ra rc rl s.offset (by omega))) ?_
              rintro v _ ⟨G1, hq, rfl⟩
              obtain ⟨rfl, rfl⟩ := hq
              simp only [List.nil_append]
              refine ⟨.inl (by kernel_rfl), ?_⟩
              refine .rp 9 rfl (by kernel_rfl) (by kernel_rfl) (by kernel_rfl) (Reads.pure (.not rfl)) ?_
              refine .done (by kernel_rfl) ?_
              refine .joinAt (E' := [(0, .pointer (some ⟨c, 0, none⟩)), (1, .int .i64 i), (5, .pointer (some ⟨b5, 0, none⟩)), (9, .pointer (some ⟨b9, 0, none⟩))]) (Γ' := [chk c (noteO (noteR p i s) s) (n + 1), blk b5 s.cells 36, blk b9 [.int .i64 s.part, .int .i64 s.offset] 85, R]) ?_ (fun fin => ?_)
              · refine .open_ (σ := CS × Bl) (φ := fun x => Rel x.1 (noteO (noteR p i s) s) (n + 1)) (B := fun x => chkL c x.1 x.2) .head chk_open (fun x hR => ?_)
                obtain ⟨S, b⟩ := x
                dsimp only at hR
                simp only [chkL, List.cons_append, List.nil_append]
                refine .seq ?_
                refine .region ?_   -- R23 model.go:196
                refine .rd (.fieldAddr fd36_2 rfl) ?_
                refine .rd (.ld na3 rfl (.tail (.tail (.tail (.tail (.tail (.tail (.tail (.tail (.tail (.tail (.tail (.tail (.tail (.tail (.tail (.tail (.tail (.tail (.tail .head))))))))))))))))))) rfl) ?_
                refine .rd (.eqI rfl rfl) ?_
                refine .nil ?_
                refine .condP rfl (fun h23 => ?_) (fun h23 => ?_)
                · refine .seq ?_
                  refine .draws [3, 4] [blk c b.cells 59, blk b9 [.int .i64 s.part, .int .i64 s.offset] 85] (by kernel_rfl) ?_   -- R24 model.go:197
                  refine .rp 0 rfl (by kernel_rfl) (by kernel_rfl) (by kernel_rfl) (Reads.pure (.move rfl)) ?_
                  refine .rp 1 rfl (by kernel_rfl) (by kernel_rfl) (by kernel_rfl) (Reads.pure (.nilCheck rfl)) ?_
                  refine .rp 2 rfl (by kernel_rfl) (by kernel_rfl) (by kernel_rfl) (Reads.pure (.fieldAddr fd59_4 rfl)) ?_
                  refine .rd 3 rfl rfl (by kernel_rfl) (by kernel_rfl) (by kernel_rfl) (.ld na50 rfl .head rfl) (.cons .head (.cons (.tail (.tail (.tail (.tail (.tail (.tail (.tail (.tail (.tail (.tail (.tail (.tail (.tail (.tail (.tail (.tail (.tail (.tail (.tail .head))))))))))))))))))) .nil)) ?_
                  refine .rd 4 rfl rfl (by kernel_rfl) (by kernel_rfl) (by kernel_rfl) (.ldN ia85 ts85 rfl (.tail .head) rfl) (.cons .head (.cons (.tail (.tail (.tail (.tail (.tail (.tail (.tail (.tail (.tail (.tail (.tail (.tail (.tail (.tail (.tail (.tail (.tail (.tail (.tail .head))))))))))))))))))) .nil)) ?_
                  refine .ef0 5 (by kernel_rfl) rfl (.mapUpdate (q := (s.part, s.offset)) (u := true) kl85 Try.underlying50 rfl rfl rfl (.tail (.tail (.tail (.tail (.tail .head)))))) ?_
                  rintro _ _ rfl
                  refine ⟨.inl (by kernel_rfl), ?_⟩
                  refine .done (by kernel_rfl) ?_
                  refine .seq ?_
                  refine .region ?_   -- R25 model.go:198
                  refine .rd (.fieldAddr fd36_3 rfl) ?_
                  refine .rd (.ld na3 rfl (.tail (.tail (.tail (.tail (.tail (.tail (.tail (.tail (.tail (.tail (.tail (.tail (.tail (.tail (.tail (.tail (.tail (.tail (.tail .head))))))))))))))))))) rfl) ?_
                  refine .rd (.fieldAddr fd36_5 rfl) ?_
                  refine .rd (.ld na3 rfl (.tail (.tail (.tail (.tail (.tail (.tail (.tail (.tail (.tail (.tail (.tail (.tail (.tail (.tail (.tail (.tail (.tail (.tail (.tail .head))))))))))))))))))) rfl) ?_
                  refine .rd (.fieldAddr fd36_6 rfl) ?_
                  refine .rd (.ld na3 rfl (.tail (.tail (.tail (.tail (.tail (.tail (.tail (.tail (.tail (.tail (.tail (.tail (.tail (.tail (.tail (.tail (.tail (.tail (.tail .head))))))))))))))))))) rfl) ?_
                  refine .rd (.build rfl (bld86_0_1_2 _ _ _)) ?_
                  refine .ef (.alloc ti86 rfl (ones.of rfl)) ?_
                  rintro _ _ ⟨b11, rfl, rfl⟩
                  refine .ef0 (.storeAll ts86 rfl rfl rfl .head rfl (ones.of rfl)) ?_
                  rintro _ _ rfl
                  refine .nil ?_
                  have hsn := hpn (s.part, s.pid, s.pidEpoch)
                  have hsd := hR.sends (s.part, s.pid, s.pidEpoch)
                  refine .tell (mp_nodup (.tail (.tail (.tail (.tail (.tail (.tail (.tail (.tail (.tail .head)))))))))) (fun hnd => ?_)
                  obtain ⟨⟨ra, rc, rl⟩, hr⟩ : ∃ r, (mget S.sends (s.part, s.pid, s.pidEpoch)).getD row0 = r := ⟨_, rfl⟩
                  refine .open_ (σ := Unit) (φ := fun _ => True) (B := fun _ => [arr 36 12 ra rc (rl.flatMap Sn.cells), bag (rowsOf 36 12 Sn.cells) (mdel S.sends (s.part, s.pid, s.pidEpoch))]) (.tail (.tail (.tail (.tail (.tail (.tail (.tail (.tail (.tail (.tail (.tail (.tail (.tail (.tail (.tail .head))))))))))))))) (fun h H => ⟨(), trivial, by have := row_take (f := Sn.cells) (s.part, s.pid, s.pidEpoch) hnd h H; rw [hr] at this; exact this⟩) (fun _ _ => ?_)
                  simp only [List.cons_append, List.nil_append]
                  rw [hr] at hsd
                  dsimp only at hsd
                  rw [show p.sends (s.part, s.pid, s.pidEpoch) = rl from hsd.symm] at hsn
                  refine .draws [3, 4, 5] [blk c b.cells 59, blk b11 [.int .i64 s.part, .int .i64 s.pid, .int .i64 s.pidEpoch] 86, blk b5 s.cells 36] (by kernel_rfl) ?_   -- R26 model.go:199
                  refine .rp 0 rfl (by kernel_rfl) (by kernel_rfl) (by kernel_rfl) (Reads.pure (.move rfl)) ?_
                  refine .rp 1 rfl (by kernel_rfl) (by kernel_rfl) (by kernel_rfl) (Reads.pure (.nilCheck rfl)) ?_
                  refine .rp 2 rfl (by kernel_rfl) (by kernel_rfl) (by kernel_rfl) (Reads.pure (.fieldAddr fd59_7 rfl)) ?_
                  refine .rd 3 rfl rfl (by kernel_rfl) (by kernel_rfl) (by kernel_rfl) (.ld na53 rfl .head rfl) (.cons (.tail (.tail (.tail (.tail .head)))) (.cons (.tail (.tail .head)) (.cons (.tail (.tail (.tail (.tail (.tail (.tail (.tail (.tail (.tail (.tail (.tail (.tail (.tail (.tail (.tail (.tail (.tail (.tail (.tail .head))))))))))))))))))) .nil))) ?_
                  refine .rd 4 rfl rfl (by kernel_rfl) (by kernel_rfl) (by kernel_rfl) (.ldN ia86 ts86 rfl (.tail .head) rfl) (.cons (.tail (.tail (.tail (.tail .head)))) (.cons (.tail (.tail .head)) (.cons (.tail (.tail (.tail (.tail (.tail (.tail (.tail (.tail (.tail (.tail (.tail (.tail (.tail (.tail (.tail (.tail (.tail (.tail (.tail .head))))))))))))))))))) .nil))) ?_
                  refine .rd 5 rfl rfl (by kernel_rfl) (by kernel_rfl) (by kernel_rfl) (.ldN ia36 ts36 rfl (.tail (.tail .head)) rfl) (.cons (.tail (.tail (.tail (.tail .head)))) (.cons (.tail (.tail .head)) (.cons (.tail (.tail (.tail (.tail (.tail (.tail (.tail (.tail (.tail (.tail (.tail (.tail (.tail (.tail (.tail (.tail (.tail (.tail (.tail .head))))))))))))))))))) .nil))) ?_
                  refine .ef 6 (by kernel_rfl) rfl (.buildOne (cs := s.cells) Try.underlying22 ti36 (by decide) rfl rfl rfl (ones.of rfl)) ?_
                  rintro _ _ ⟨bs1, rfl, rfl⟩
                  refine ⟨.inr ⟨_, (.cons (.tail (.tail (.tail (.tail (.tail .head))))) (.cons (.tail (.tail (.tail .head))) (.cons (.tail (.tail (.tail (.tail (.tail (.tail (.tail (.tail (.tail (.tail (.tail (.tail (.tail (.tail (.tail (.tail (.tail (.tail (.tail (.tail .head)))))))))))))))))))) .nil)))⟩, ?_⟩
                  refine .ef 7 (by kernel_rfl) rfl (.mapEntry (q := (s.part, s.pid, s.pidEpoch)) (z0 := row0) kl86 Try.underlying53 (fun w => ti22.zero w) rfl rfl rfl (.tail (.tail (.tail (.tail (.tail (.tail (.tail (.tail (.tail (.tail (.tail (.tail .head))))))))))))) ?_
                  rintro _ _ ⟨st4, rfl, rfl⟩
                  refine ⟨.inl (by kernel_rfl), ?_⟩
                  refine .rp 8 rfl (by kernel_rfl) (by kernel_rfl) (by kernel_rfl) (Reads.pure (.extract rfl rfl)) ?_
                  refine .rp 10 rfl (by kernel_rfl) (by kernel_rfl) (by kernel_rfl) (Reads.pure (.extract rfl rfl)) ?_
                  refine .alter (t := 184) (v' := rowV (ra, rc, rl)) rfl (by show rowV _ = _; rw [hr]) ?_
                  refine .ef 9 (by kernel_rfl) rfl (.append rfl rfl Try.underlying22 ti36 rfl (ones.of rfl) (by decide) (by decide) rfl rfl (.tail (.tail .head)) (n := rl.length) (m := 1) (by rw [flat_length Sn.cells_len]) (.srcBlk (ys := s.cells) (.tail .head) Try.underlying22 rfl (by decide)) (by omega)) ?_
                  rintro _ _ ⟨wa, wc, rfl, wn, rfl⟩
                  refine ⟨.inl (by kernel_rfl), ?_⟩
                  refine .alter (t := 188) (v' := rowV (wa, wc, rl ++ [s])) rfl (by show _ = Value.slice _ (List.length (_ ++ _)) _; rw [List.length_append]; rfl) ?_
                  refine .ef0 11 (by kernel_rfl) rfl (.entryStore (s := st4) (u := (wa, wc, rl ++ [s])) rfl rfl rfl (.tail .head)) ?_
                  rintro _ _ rfl
                  refine ⟨.inl (by kernel_rfl), ?_⟩
                  refine .done (by kernel_rfl) ?_
                  refine .cast (X' := mp enc3 rowV b.m7 (mset S.sends (s.part, s.pid, s.pidEpoch) (wa, wc, rl ++ [s]))) (by rw [mset_mset]) ?_
                  refine .perm (.cons (.tail .head) (.cons .head (.cons .head (.cons .head (.cons .head (.cons .head (.cons .head (.cons .head (.cons .head (.cons .head (.cons .head (.cons .head (.cons .head (.cons .head (.cons .head (.cons .head (.cons .head (.cons .head (.cons .head (.cons .head (.cons .head (.cons .head (.cons .head (.cons .head (.cons .head .nil))))))))))))))))))))))))) ?_
                  refine .cast (X' := arr 36 12 wa wc ((rl ++ [s]).flatMap Sn.cells)) (by rw [List.flatMap_append]; simp) ?_
                  refine .close (X := bag (rowsOf 36 12 Sn.cells) (mset S.sends (s.part, s.pid, s.pidEpoch) (wa, wc, rl ++ [s]))) (B := [arr 36 12 wa wc ((rl ++ [s]).flatMap Sn.cells), bag (rowsOf 36 12 Sn.cells) (mdel S.sends (s.part, s.pid, s.pidEpoch))]) (.cons .head (.cons (.tail (.tail .head)) .nil)) (row_put hnd) ?_
                  refine .inBlock ?_
                  refine .close (X := chk c (noteP p i s) (n + 1)) (B := chkL c { S with acked := mset S.acked (s.part, s.offset) true, sends := mset S.sends (s.part, s.pid, s.pidEpoch) (wa, wc, rl ++ [s]) } b) (.cons (.tail (.tail (.tail (.tail (.tail .head))))) (.cons (.tail (.tail (.tail (.tail (.tail .head))))) (.cons (.tail (.tail (.tail (.tail (.tail .head))))) (.cons (.tail (.tail (.tail (.tail (.tail .head))))) (.cons (.tail (.tail (.tail (.tail (.tail .head))))) (.cons (.tail (.tail (.tail (.tail .head)))) (.cons (.tail (.tail (.tail (.tail .head)))) (.cons (.tail (.tail (.tail (.tail .head)))) (.cons (.tail .head) (.cons (.tail (.tail (.tail .head))) (.cons (.tail (.tail (.tail .head))) (.cons (.tail (.tail (.tail .head))) (.cons (.tail (.tail (.tail .head))) (.cons (.tail (.tail (.tail .head))) (.cons .head (.cons (.tail (.tail .head)) (.cons (.tail (.tail .head)) (.cons (.tail (.tail .head)) (.cons (.tail (.tail .head)) .nil))))))))))))))))))) (chk_close (by rw [note_sent hd he h23]; exact (hR.setAcked (Sets.set _ _ _)).setSend (m := n) hpn (by rw [show ({ (noteO (noteR p i s) s) with acked := put (noteO (noteR p i s) s).acked (s.part, s.offset) true } : PS).sends (s.part, s.pid, s.pidEpoch) = rl from hsd.symm]; exact Sets.set _ _ _) (Nat.le_refl _))) ?_
                  refine .endP Try.func14 .nil (.cons .head (.cons (.tail (.tail (.tail (.tail .head)))) .nil)) ?_
                  exact ⟨[_], rfl, rfl⟩
                · refine .skip ?_
                  refine .inBlock ?_
                  refine .close (X := chk c (noteP p i s) (n + 1)) (B := chkL c S b) (.cons .head (.cons .head (.cons .head (.cons .head (.cons .head (.cons .head (.cons .head (.cons .head (.cons .head (.cons .head (.cons .head (.cons .head (.cons .head (.cons .head (.cons .head (.cons .head (.cons .head (.cons .head (.cons .head .nil))))))))))))))))))) (chk_close (by rw [note_read hd he (by simpa using h117) h23]; exact hR)) ?_
                  refine .endP Try.func14 .nil (.cons .head (.cons (.tail (.tail .head)) .nil)) ?_
                  exact ⟨[_], rfl, rfl⟩
              · refine .condN rfl (fun h21 => ?_) (fun h21 => ?_)
                · refine .draws [3, 4, 6] [blk c b.cells 59, blk b10 [.int .i64 s.part, .string (str s.text)] 79, blk b5 s.cells 36] (by kernel_rfl) ?_   -- R22 model.go:194
                  refine .rp 0 rfl (by kernel_rfl) (by kernel_rfl) (by kernel_rfl) (Reads.pure (.move rfl)) ?_
                  refine .rp 1 rfl (by kernel_rfl) (by kernel_rfl) (by kernel_rfl) (Reads.pure (.nilCheck rfl)) ?_
                  refine .rp 2 rfl (by kernel_rfl) (by kernel_rfl) (by kernel_rfl) (Reads.pure (.fieldAddr fd59_6 rfl)) ?_
                  refine .rd 3 rfl rfl (by kernel_rfl) (by kernel_rfl) (by kernel_rfl) (.ld na52 rfl .head rfl) (.cons (.tail (.tail (.tail (.tail (.tail .head))))) (.cons (.tail (.tail (.tail .head))) (.cons (.tail (.tail (.tail (.tail (.tail (.tail (.tail (.tail (.tail (.tail (.tail (.tail (.tail (.tail (.tail (.tail (.tail (.tail (.tail (.tail .head)))))))))))))))))))) .nil))) ?_
                  refine .rd 4 rfl rfl (by kernel_rfl) (by kernel_rfl) (by kernel_rfl) (.ldN ia79 ts79 rfl (.tail .head) rfl) (.cons (.tail (.tail (.tail (.tail (.tail .head))))) (.cons (.tail (.tail (.tail .head))) (.cons (.tail (.tail (.tail (.tail (.tail (.tail (.tail (.tail (.tail (.tail (.tail (.tail (.tail (.tail (.tail (.tail (.tail (.tail (.tail (.tail .head)))))))))))))))))))) .nil))) ?_
                  refine .rp 5 rfl (by kernel_rfl) (by kernel_rfl) (by kernel_rfl) (Reads.pure (.fieldAddr fd36_4 rfl)) ?_
                  refine .rd 6 rfl rfl (by kernel_rfl) (by kernel_rfl) (by kernel_rfl) (.ld na3 rfl (.tail (.tail .head)) rfl) (.cons (.tail (.tail (.tail (.tail (.tail .head))))) (.cons (.tail (.tail (.tail .head))) (.cons (.tail (.tail (.tail (.tail (.tail (.tail (.tail (.tail (.tail (.tail (.tail (.tail (.tail (.tail (.tail (.tail (.tail (.tail (.tail (.tail .head)))))))))))))))))))) .nil))) ?_
                  refine .ef 7 (by kernel_rfl) rfl (.buildOne (cs := icell s.offset) Try.underlying40 ti3 (by decide) rfl rfl rfl (ones.of rfl)) ?_
                  rintro _ _ ⟨bs1, rfl, rfl⟩
                  refine ⟨.inr ⟨_, (.cons (.tail (.tail (.tail (.tail (.tail (.tail .head)))))) (.cons (.tail (.tail (.tail (.tail .head)))) (.cons (.tail (.tail (.tail (.tail (.tail (.tail (.tail (.tail (.tail (.tail (.tail (.tail (.tail (.tail (.tail (.tail (.tail (.tail (.tail (.tail (.tail .head))))))))))))))))))))) .nil)))⟩, ?_⟩
                  refine .ef 8 (by kernel_rfl) rfl (.mapEntry (q := (s.part, s.text)) (z0 := row0) kl79 Try.underlying52 (fun w => ti40.zero w) rfl rfl rfl (.tail (.tail (.tail (.tail (.tail (.tail (.tail (.tail (.tail (.tail (.tail (.tail .head))))))))))))) ?_
                  rintro _ _ ⟨st3, rfl, rfl⟩
                  refine ⟨.inl (by kernel_rfl), ?_⟩
                  refine .rp 9 rfl (by kernel_rfl) (by kernel_rfl) (by kernel_rfl) (Reads.pure (.extract rfl rfl)) ?_
                  refine .rp 11 rfl (by kernel_rfl) (by kernel_rfl) (by kernel_rfl) (Reads.pure (.extract rfl rfl)) ?_
                  refine .alter (t := 157) (v' := rowV (ra, rc, rl)) rfl (by show rowV _ = _; rw [hr]) ?_
                  refine .ef 10 (by kernel_rfl) rfl (.append rfl rfl Try.underlying40 ti3 rfl (ones.of rfl) (by decide) (by decide) rfl rfl (.tail (.tail .head)) (n := rl.length) (m := 1) (by rw [flat_length icell_len]) (.srcBlk (ys := icell s.offset) (.tail .head) Try.underlying40 rfl (by decide)) (by omega)) ?_
                  rintro _ _ ⟨wa, wc, rfl, wn, rfl⟩
                  refine ⟨.inl (by kernel_rfl), ?_⟩
                  refine .alter (t := 162) (v' := rowV (wa, wc, rl ++ [s.offset])) rfl (by show _ = Value.slice _ (List.length (_ ++ _)) _; rw [List.length_append]; rfl) ?_
                  refine .ef0 12 (by kernel_rfl) rfl (.entryStore (s := st3) (u := (wa, wc, rl ++ [s.offset])) rfl rfl rfl (.tail .head)) ?_
                  rintro _ _ rfl
                  refine ⟨.inl (by kernel_rfl), ?_⟩
                  refine .done (by kernel_rfl) ?_
                  refine .cast (X' := mp encL rowV b.m6 (mset S.offsets (s.part, s.text) (wa, wc, rl ++ [s.offset]))) (by rw [mset_mset]) ?_
                  refine .perm (.cons (.tail .head) (.cons .head (.cons .head (.cons .head (.cons .head (.cons .head (.cons .head (.cons .head (.cons .head (.cons .head (.cons .head (.cons .head (.cons .head (.cons .head (.cons .head (.cons .head (.cons .head (.cons .head (.cons .head (.cons .head (.cons .head (.cons .head (.cons .head (.cons .head (.cons .head .nil))))))))))))))))))))))))) ?_
                  refine .cast (X' := arr 3 1 wa wc ((rl ++ [s.offset]).flatMap icell)) (by rw [List.flatMap_append]; simp) ?_
                  refine .close (X := bag (rowsOf 3 1 icell) (mset S.offsets (s.part, s.text) (wa, wc, rl ++ [s.offset]))) (B := [arr 3 1 wa wc ((rl ++ [s.offset]).flatMap icell), bag (rowsOf 3 1 icell) (mdel S.offsets (s.part, s.text))]) (.cons .head (.cons (.tail (.tail .head)) .nil)) (row_put hnd) ?_
                  refine .close (X := chk c (noteO (noteR p i s) s) (n + 1)) (B := chkL c { S with values := (mset S.values (s.part, s.offset) s.text), offsets := mset S.offsets (s.part, s.text) (wa, wc, rl ++ [s.offset]) } b) (.cons (.tail (.tail (.tail (.tail (.tail (.tail .head)))))) (.cons (.tail (.tail (.tail (.tail (.tail (.tail .head)))))) (.cons (.tail (.tail (.tail (.tail (.tail (.tail .head)))))) (.cons (.tail (.tail (.tail (.tail (.tail (.tail .head)))))) (.cons (.tail (.tail (.tail .head))) (.cons (.tail (.tail (.tail (.tail (.tail .head))))) (.cons (.tail (.tail (.tail (.tail (.tail .head))))) (.cons (.tail .head) (.cons (.tail (.tail (.tail (.tail .head)))) (.cons (.tail (.tail (.tail (.tail .head)))) (.cons (.tail (.tail (.tail (.tail .head)))) (.cons (.tail (.tail (.tail (.tail .head)))) (.cons (.tail (.tail (.tail (.tail .head)))) (.cons .head (.cons (.tail (.tail (.tail .head))) (.cons (.tail (.tail (.tail .head))) (.cons (.tail (.tail (.tail .head))) (.cons (.tail (.tail (.tail .head))) (.cons (.tail (.tail (.tail .head))) .nil))))))))))))))))))) (chk_close (by unfold noteO; rw [if_neg (by rw [← hof]; exact h21)]; exact (hR.setValue (Sets.set _ _ _)).setOffset (by rw [show ({ noteR p i s with values := put (noteR p i s).values (s.part, s.offset) (some s.text) } : PS).offsets = (noteR p i s).offsets from rfl, ← hof]; exact Sets.set _ _ _))) ?_
                  exact fin (.cons rfl (.cons rfl (.cons rfl (.cons rfl .nil)))) (.cons .head (.cons (.tail (.tail (.tail .head))) (.cons (.tail (.tail .head)) (.cons (.tail (.tail .head)) .nil))))
                · refine .close (X := bag (rowsOf 3 1 icell) S.offsets) (B := [arr 3 1 ra rc (rl.flatMap icell), bag (rowsOf 3 1 icell) (mdel S.offsets (s.part, s.text))]) (.cons .head (.cons .head .nil)) (fun h H => row_back (q := (s.part, s.text)) hnd h (by rw [hr]; exact H)) ?_
                  refine .skip ?_
                  refine .close (X := chk c (noteO (noteR p i s) s) (n + 1)) (B := chkL c { S with values := (mset S.values (s.part, s.offset) s.text) } b) (.cons (.tail (.tail (.tail (.tail .head)))) (.cons (.tail (.tail (.tail (.tail .head)))) (.cons (.tail (.tail (.tail (.tail .head)))) (.cons (.tail (.tail (.tail (.tail .head)))) (.cons (.tail .head) (.cons (.tail (.tail (.tail .head))) (.cons (.tail (.tail (.tail .head))) (.cons (.tail (.tail (.tail .head))) (.cons (.tail (.tail (.tail .head))) (.cons (.tail (.tail (.tail .head))) (.cons (.tail (.tail (.tail .head))) (.cons (.tail (.tail (.tail .head))) (.cons (.tail (.tail (.tail .head))) (.cons .head (.cons (.tail (.tail .head)) (.cons (.tail (.tail .head)) (.cons (.tail (.tail .head)) (.cons (.tail (.tail .head)) (.cons (.tail (.tail .head)) .nil))))))))))))))))))) (chk_close (by unfold noteO; rw [if_pos (by rw [← hof]; exact h21)]; exact (hR.setValue (Sets.set _ _ _)).up)) ?_
                  exact fin (.cons rfl (.cons rfl (.cons rfl (.cons rfl .nil)))) (.cons .head (.cons (.tail (.tail .head)) (.cons (.tail .head) (.cons (.tail .head) .nil))))
            · refine .ef rfl (.alloc ti79 rfl (ones.of rfl)) ?_
              rintro _ _ ⟨b10, rfl, rfl⟩
              refine ⟨.inr ⟨_, (.cons (.tail (.tail (.tail (.tail (.tail (.tail (.tail (.tail (.tail (.tail (.tail (.tail (.tail (.tail (.tail (.tail (.tail (.tail (.tail (.tail .head)))))))))))))))))))) .nil)⟩, ?_⟩
              refine .ef 10 (by kernel_rfl) rfl (.alloc ti85 rfl (ones.of rfl)) ?_
              rintro _ _ ⟨b9, rfl, rfl⟩
              refine ⟨.inr ⟨_, (.cons (.tail (.tail (.tail (.tail (.tail (.tail (.tail (.tail (.tail (.tail (.tail (.tail (.tail (.tail (.tail (.tail (.tail (.tail (.tail (.tail (.tail .head))))))))))))))))))))) .nil)⟩, ?_⟩
              refine .ef0 12 (by kernel_rfl) rfl (.storeAll ts85 rfl rfl rfl .head rfl (ones.of rfl)) ?_
              rintro _ _ rfl
              refine ⟨.inr ⟨_, (.cons (.tail (.tail (.tail (.tail (.tail (.tail (.tail (.tail (.tail (.tail (.tail (.tail (.tail (.tail (.tail (.tail (.tail (.tail (.tail (.tail (.tail .head))))))))))))))))))))) .nil)⟩, ?_⟩
              refine .ef0 13 (by kernel_rfl) rfl (.storeAll ts79 rfl rfl rfl (.tail .head) rfl (ones.of rfl)) ?_
              rintro _ _ rfl
              refine ⟨.inl (by kernel_rfl), ?_⟩
              refine .done (by kernel_rfl) ?_
              refine .seq ?_
              refine .draws [3, 4, 6] [blk c b.cells 59, blk b9 [.int .i64 s.part, .int .i64 s.offset] 85, blk b5 s.cells 36] (by kernel_rfl) ?_   -- R20 model.go:192
              refine .rp 0 rfl (by kernel_rfl) (by kernel_rfl) (by kernel_rfl) (Reads.pure (.move rfl)) ?_
              refine .rp 1 rfl (by kernel_rfl) (by kernel_rfl) (by kernel_rfl) (Reads.pure (.nilCheck rfl)) ?_
              refine .rp 2 rfl (by kernel_rfl) (by kernel_rfl) (by kernel_rfl) (Reads.pure (.fieldAddr fd59_3 rfl)) ?_
              refine .rd 3 rfl rfl (by kernel_rfl) (by kernel_rfl) (by kernel_rfl) (.ld na49 rfl .head rfl) (.cons (.tail (.tail .head)) (.cons (.tail .head) (.cons (.tail (.tail (.tail (.tail (.tail (.tail (.tail (.tail (.tail (.tail (.tail (.tail (.tail (.tail (.tail (.tail (.tail (.tail (.tail .head))))))))))))))))))) .nil))) ?_
              refine .rd 4 rfl rfl (by kernel_rfl) (by kernel_rfl) (by kernel_rfl) (.ldN ia85 ts85 rfl (.tail .head) rfl) (.cons (.tail (.tail .head)) (.cons (.tail .head) (.cons (.tail (.tail (.tail (.tail (.tail (.tail (.tail (.tail (.tail (.tail (.tail (.tail (.tail (.tail (.tail (.tail (.tail (.tail (.tail .head))))))))))))))))))) .nil))) ?_
              refine .rp 5 rfl (by kernel_rfl) (by kernel_rfl) (by kernel_rfl) (Reads.pure (.fieldAddr fd36_9 rfl)) ?_
              refine .rd 6 rfl rfl (by kernel_rfl) (by kernel_rfl) (by kernel_rfl) (.ld na9 rfl (.tail (.tail .head)) rfl) (.cons (.tail (.tail .head)) (.cons (.tail .head) (.cons (.tail (.tail (.tail (.tail (.tail (.tail (.tail (.tail (.tail (.tail (.tail (.tail (.tail (.tail (.tail (.tail (.tail (.tail (.tail .head))))))))))))))))))) .nil))) ?_
              refine .ef0 7 (by kernel_rfl) rfl (.mapUpdate (q := (s.part, s.offset)) (u := s.text) kl85 Try.underlying49 rfl rfl rfl (.tail (.tail (.tail (.tail (.tail (.tail .head))))))) ?_
              rintro _ _ rfl
              refine ⟨.inl (by kernel_rfl), ?_⟩
              refine .done (by kernel_rfl) ?_
              refine .seq ?_
              refine .seq ?_
              have hof := hR.offsets (s.part, s.text)
              have hon := hR.offsetsN (s.part, s.text)
              refine .tell (mp_nodup (.tail (.tail (.tail (.tail (.tail (.tail (.tail (.tail (.tail .head)))))))))) (fun hnd => ?_)
              obtain ⟨⟨ra, rc, rl⟩, hr⟩ : ∃ r, (mget S.offsets (s.part, s.text)).getD row0 = r := ⟨_, rfl⟩
              refine .open_ (σ := Unit) (φ := fun _ => True) (B := fun _ => [arr 3 1 ra rc (rl.flatMap icell), bag (rowsOf 3 1 icell) (mdel S.offsets (s.part, s.text))]) (.tail (.tail (.tail (.tail (.tail (.tail (.tail (.tail (.tail (.tail (.tail (.tail (.tail (.tail (.tail .head))))))))))))))) (fun h H => ⟨(), trivial, by have := row_take (f := icell) (s.part, s.text) hnd h H; rw [hr] at this; exact this⟩) (fun _ _ => ?_)
              simp only [List.cons_append, List.nil_append]
              rw [hr] at hof
              dsimp only at hof
              rw [← hof] at hon
              refine .draws [3, 4, 5, 7] [blk c b.cells 59, blk b10 [.int .i64 s.part, .string (str s.text)] 79, mp encL rowV b.m6 S.offsets, blk b5 s.cells 36] (by kernel_rfl) ?_   -- R21 model.go:193
              refine .rp 0 rfl (by kernel_rfl) (by kernel_rfl) (by kernel_rfl) (Reads.pure (.move rfl)) ?_
              refine .rp 1 rfl (by kernel_rfl) (by kernel_rfl) (by kernel_rfl) (Reads.pure (.nilCheck rfl)) ?_
              refine .rp 2 rfl (by kernel_rfl) (by kernel_rfl) (by kernel_rfl) (Reads.pure (.fieldAddr fd59_6 rfl)) ?_
              refine .rd 3 rfl rfl (by kernel_rfl) (by kernel_rfl) (by kernel_rfl) (.ld na52 rfl .head rfl) (.cons (.tail (.tail (.tail (.tail (.tail .head))))) (.cons (.tail (.tail (.tail .head))) (.cons (.tail (.tail (.tail (.tail (.tail (.tail (.tail (.tail (.tail .head))))))))) (.cons (.tail (.tail (.tail (.tail (.tail (.tail (.tail (.tail (.tail (.tail (.tail (.tail (.tail (.tail (.tail (.tail (.tail (.tail (.tail .head))))))))))))))))))) .nil)))) ?_
              refine .rd 4 rfl rfl (by kernel_rfl) (by kernel_rfl) (by kernel_rfl) (.ldN ia79 ts79 rfl (.tail .head) rfl) (.cons (.tail (.tail (.tail (.tail (.tail .head))))) (.cons (.tail (.tail (.tail .head))) (.cons (.tail (.tail (.tail (.tail (.tail (.tail (.tail (.tail (.tail .head))))))))) (.cons (.tail (.tail (.tail (.tail (.tail (.tail (.tail (.tail (.tail (.tail (.tail (.tail (.tail (.tail (.tail (.tail (.tail (.tail (.tail .head))))))))))))))))))) .nil)))) ?_
              refine .rd 5 rfl rfl (by kernel_rfl) (by kernel_rfl) (by kernel_rfl) (.lookup (q := (s.part, s.text)) kl79 Try.underlying52 (fun w => ti40.zero w) rfl rfl (.tail (.tail .head))) (.cons (.tail (.tail (.tail (.tail (.tail .head))))) (.cons (.tail (.tail (.tail .head))) (.cons (.tail (.tail (.tail (.tail (.tail (.tail (.tail (.tail (.tail .head))))))))) (.cons (.tail (.tail (.tail (.tail (.tail (.tail (.tail (.tail (.tail (.tail (.tail (.tail (.tail (.tail (.tail (.tail (.tail (.tail (.tail .head))))))))))))))))))) .nil)))) ?_
              refine .alter (t := 147) (v' := rowV (ra, rc, rl)) rfl (by rw [← hr]; exact getD_map rowV _ row0) ?_
              refine .rp 6 rfl (by kernel_rfl) (by kernel_rfl) (by kernel_rfl) (Reads.pure (.fieldAddr fd36_4 rfl)) ?_
              refine .rd 7 rfl rfl (by kernel_rfl) (by kernel_rfl) (by kernel_rfl) (.ld na3 rfl (.tail (.tail (.tail .head))) rfl) (.cons (.tail (.tail (.tail (.tail (.tail .head))))) (.cons (.tail (.tail (.tail .head))) (.cons (.tail (.tail (.tail (.tail (.tail (.tail (.tail (.tail (.tail .head))))))))) (.cons (.tail (.tail (.tail (.tail (.tail (.tail (.tail (.tail (.tail (.tail (.tail (.tail (.tail (.tail (.tail (.tail (.tail (.tail (.tail .head))))))))))))))))))) .nil)))) ?_
              refine .ef 8 (by kernel_rfl) rfl (.fn rfl rfl .nil (Knows.arr .head) (Contains_ok ra rc rl s.offset (by omega))) ?_
              rintro v _ ⟨G1, hq, rfl⟩
              obtain ⟨rfl, rfl⟩ := hq
              simp only [List.nil_append]
              refine ⟨.inl (by kernel_rfl), ?_⟩
              refine .rp 9 rfl (by kernel_rfl) (by kernel_rfl) (by kernel_rfl) (Reads.pure (.not rfl)) ?_
              refine .done (by kernel_rfl) ?_
              refine .joinAt (E' := [(0, .pointer (some ⟨c, 0, none⟩)), (1, .int .i64 i), (5, .pointer (some ⟨b5, 0, none⟩)), (9, .pointer (some ⟨b9, 0, none⟩))]) (Γ' := [chk c (noteO (noteR p i s) s) (n + 1), blk b5 s.cells 36, blk b9 [.int .i64 s.part, .int .i64 s.offset] 85, R]) ?_ (fun fin => ?_)
              · refine .open_ (σ := CS × Bl) (φ := fun x => Rel x.1 (noteO (noteR p i s) s) (n + 1)) (B := fun x => chkL c x.1 x.2) .head chk_open (fun x hR => ?_)
                obtain ⟨S, b⟩ := x
                dsimp only at hR
                simp only [chkL, List.cons_append, List.nil_append]
                refine .seq ?_
                refine .region ?_   -- R23 model.go:196
                refine .rd (.fieldAddr fd36_2 rfl) ?_
                refine .rd (.ld na3 rfl (.tail (.tail (.tail (.tail (.tail (.tail (.tail (.tail (.tail (.tail (.tail (.tail (.tail (.tail (.tail (.tail (.tail (.tail (.tail .head))))))))))))))))))) rfl) ?_
                refine .rd (.eqI rfl rfl) ?_
                refine .nil ?_
                refine .condP rfl (fun h23 => ?_) (fun h23 => ?_)
                · refine .seq ?_
                  refine .draws [3, 4] [blk c b.cells 59, blk b9 [.int .i64 s.part, .int .i64 s.offset] 85] (by kernel_rfl) ?_   -- R24 model.go:197
                  refine .rp 0 rfl (by kernel_rfl) (by kernel_rfl) (by kernel_rfl) (Reads.pure (.move rfl)) ?_
                  refine .rp 1 rfl (by kernel_rfl) (by kernel_rfl) (by kernel_rfl) (Reads.pure (.nilCheck rfl)) ?_
                  refine .rp 2 rfl (by kernel_rfl) (by kernel_rfl) (by kernel_rfl) (Reads.pure (.fieldAddr fd59_4 rfl)) ?_
                  refine .rd 3 rfl rfl (by kernel_rfl) (by kernel_rfl) (by kernel_rfl) (.ld na50 rfl .head rfl) (.cons .head (.cons (.tail (.tail (.tail (.tail (.tail (.tail (.tail (.tail (.tail (.tail (.tail (.tail (.tail (.tail (.tail (.tail (.tail (.tail (.tail .head))))))))))))))))))) .nil)) ?_
                  refine .rd 4 rfl rfl (by kernel_rfl) (by kernel_rfl) (by kernel_rfl) (.ldN ia85 ts85 rfl (.tail .head) rfl) (.cons .head (.cons (.tail (.tail (.tail (.tail (.tail (.tail (.tail (.tail (.tail (.tail (.tail (.tail (.tail (.tail (.tail (.tail (.tail (.tail (.tail .head))))))))))))))))))) .nil)) ?_
                  refine .ef0 5 (by kernel_rfl) rfl (.mapUpdate (q := (s.part, s.offset)) (u := true) kl85 Try.underlying50 rfl rfl rfl (.tail (.tail (.tail (.tail (.tail .head)))))) ?_
                  rintro _ _ rfl
                  refine ⟨.inl (by kernel_rfl), ?_⟩
                  refine .done (by kernel_rfl) ?_
                  refine .seq ?_
                  refine .region ?_   -- R25 model.go:198
                  refine .rd (.fieldAddr fd36_3 rfl) ?_
                  refine .rd (.ld na3 rfl (.tail (.tail (.tail (.tail (.tail (.tail (.tail (.tail (.tail (.tail (.tail (.tail (.tail (.tail (.tail (.tail (.tail (.tail (.tail .head))))))))))))))))))) rfl) ?_
                  refine .rd (.fieldAddr fd36_5 rfl) ?_
                  refine .rd (.ld na3 rfl (.tail (.tail (.tail (.tail (.tail (.tail (.tail (.tail (.tail (.tail (.tail (.tail (.tail (.tail (.tail (.tail (.tail (.tail (.tail .head))))))))))))))))))) rfl) ?_
                  refine .rd (.fieldAddr fd36_6 rfl) ?_
                  refine .rd (.ld na3 rfl (.tail (.tail (.tail (.tail (.tail (.tail (.tail (.tail (.tail (.tail (.tail (.tail (.tail (.tail (.tail (.tail (.tail (.tail (.tail .head))))))))))))))))))) rfl) ?_
                  refine .rd (.build rfl (bld86_0_1_2 _ _ _)) ?_
                  refine .ef (.alloc ti86 rfl (ones.of rfl)) ?_
                  rintro _ _ ⟨b11, rfl, rfl⟩
                  refine .ef0 (.storeAll ts86 rfl rfl rfl .head rfl (ones.of rfl)) ?_
                  rintro _ _ rfl
                  refine .nil ?_
                  have hsn := hpn (s.part, s.pid, s.pidEpoch)
                  have hsd := hR.sends (s.part, s.pid, s.pidEpoch)
                  refine .tell (mp_nodup (.tail (.tail (.tail (.tail (.tail (.tail (.tail (.tail (.tail .head)))))))))) (fun hnd => ?_)
                  obtain ⟨⟨ra, rc, rl⟩, hr⟩ : ∃ r, (mget S.sends (s.part, s.pid, s.pidEpoch)).getD row0 = r := ⟨_, rfl⟩
                  refine .open_ (σ := Unit) (φ := fun _ => True) (B := fun _ => [arr 36 12 ra rc (rl.flatMap Sn.cells), bag (rowsOf 36 12 Sn.cells) (mdel S.sends (s.part, s.pid, s.pidEpoch))]) (.tail (.tail (.tail (.tail (.tail (.tail (.tail (.tail (.tail (.tail (.tail (.tail (.tail (.tail (.tail .head))))))))))))))) (fun h H => ⟨(), trivial, by have := row_take (f := Sn.cells) (s.part, s.pid, s.pidEpoch) hnd h H; rw [hr] at this; exact this⟩) (fun _ _ => ?_)
                  simp only [List.cons_append, List.nil_append]
                  rw [hr] at hsd
                  dsimp only at hsd
                  rw [show p.sends (s.part, s.pid, s.pidEpoch) = rl from hsd.symm] at hsn
                  refine .draws [3, 4, 5] [blk c b.cells 59, blk b11 [.int .i64 s.part, .int .i64 s.pid, .int .i64 s.pidEpoch] 86, blk b5 s.cells 36] (by kernel_rfl) ?_   -- R26 model.go:199
                  refine .rp 0 rfl (by kernel_rfl) (by kernel_rfl) (by kernel_rfl) (Reads.pure (.move rfl)) ?_
                  refine .rp 1 rfl (by kernel_rfl) (by kernel_rfl) (by kernel_rfl) (Reads.pure (.nilCheck rfl)) ?_
                  refine .rp 2 rfl (by kernel_rfl) (by kernel_rfl) (by kernel_rfl) (Reads.pure (.fieldAddr fd59_7 rfl)) ?_
                  refine .rd 3 rfl rfl (by kernel_rfl) (by kernel_rfl) (by kernel_rfl) (.ld na53 rfl .head rfl) (.cons (.tail (.tail (.tail (.tail .head)))) (.cons (.tail (.tail .head)) (.cons (.tail (.tail (.tail (.tail (.tail (.tail (.tail (.tail (.tail (.tail (.tail (.tail (.tail (.tail (.tail (.tail (.tail (.tail (.tail .head))))))))))))))))))) .nil))) ?_
                  refine .rd 4 rfl rfl (by kernel_rfl) (by kernel_rfl) (by kernel_rfl) (.ldN ia86 ts86 rfl (.tail .head) rfl) (.cons (.tail (.tail (.tail (.tail .head)))) (.cons (.tail (.tail .head)) (.cons (.tail (.tail (.tail (.tail (.tail (.tail (.tail (.tail (.tail (.tail (.tail (.tail (.tail (.tail (.tail (.tail (.tail (.tail (.tail .head))))))))))))))))))) .nil))) ?_
                  refine .rd 5 rfl rfl (by kernel_rfl) (by kernel_rfl) (by kernel_rfl) (.ldN ia36 ts36 rfl (.tail (.tail .head)) rfl) (.cons (.tail (.tail (.tail (.tail .head)))) (.cons (.tail (.tail .head)) (.cons (.tail (.tail (.tail (.tail (.tail (.tail (.tail (.tail (.tail (.tail (.tail (.tail (.tail (.tail (.tail (.tail (.tail (.tail (.tail .head))))))))))))))))))) .nil))) ?_
                  refine .ef 6 (by kernel_rfl) rfl (.buildOne (cs := s.cells) Try.underlying22 ti36 (by decide) rfl rfl rfl (ones.of rfl)) ?_
                  rintro _ _ ⟨bs1, rfl, rfl⟩
                  refine ⟨.inr ⟨_, (.cons (.tail (.tail (.tail (.tail (.tail .head))))) (.cons (.tail (.tail (.tail .head))) (.cons (.tail (.tail (.tail (.tail (.tail (.tail (.tail (.tail (.tail (.tail (.tail (.tail (.tail (.tail (.tail (.tail (.tail (.tail (.tail (.tail .head)))))))))))))))))))) .nil)))⟩, ?_⟩
                  refine .ef 7 (by kernel_rfl) rfl (.mapEntry (q := (s.part, s.pid, s.pidEpoch)) (z0 := row0) kl86 Try.underlying53 (fun w => ti22.zero w) rfl rfl rfl (.tail (.tail (.tail (.tail (.tail (.tail (.tail (.tail (.tail (.tail (.tail (.tail .head))))))))))))) ?_
                  rintro _ _ ⟨st4, rfl, rfl⟩
                  refine ⟨.inl (by kernel_rfl), ?_⟩
                  refine .rp 8 rfl (by kernel_rfl) (by kernel_rfl) (by kernel_rfl) (Reads.pure (.extract rfl rfl)) ?_
                  refine .rp 10 rfl (by kernel_rfl) (by kernel_rfl) (by kernel_rfl) (Reads.pure (.extract rfl rfl)) ?_
                  refine .alter (t := 184) (v' := rowV (ra, rc, rl)) rfl (by show rowV _ = _; rw [hr]) ?_
                  refine .ef 9 (by kernel_rfl) rfl (.append rfl rfl Try.underlying22 ti36 rfl (ones.of rfl) (by decide) (by decide) rfl rfl (.tail (.tail .head)) (n := rl.length) (m := 1) (by rw [flat_length Sn.cells_len]) (.srcBlk (ys := s.cells) (.tail .head) Try.underlying22 rfl (by decide)) (by omega)) ?_
                  rintro _ _ ⟨wa, wc, rfl, wn, rfl⟩
                  refine ⟨.inl (by kernel_rfl), ?_⟩
                  refine .alter (t := 188) (v' := rowV (wa, wc, rl ++ [s])) rfl (by show _ = Value.slice _ (List.length (_ ++ _)) _; rw [List.length_append]; rfl) ?_
                  refine .ef0 11 (by kernel_rfl) rfl (.entryStore (s := st4) (u := (wa, wc, rl ++ [s])) rfl rfl rfl (.tail .head)) ?_
                  rintro _ _ rfl
                  refine ⟨.inl (by kernel_rfl), ?_⟩
                  refine .done (by kernel_rfl) ?_
                  refine .cast (X' := mp enc3 rowV b.m7 (mset S.sends (s.part, s.pid, s.pidEpoch) (wa, wc, rl ++ [s]))) (by rw [mset_mset]) ?_
                  refine .perm (.cons (.tail .head) (.cons .head (.cons .head (.cons .head (.cons .head (.cons .head (.cons .head (.cons .head (.cons .head (.cons .head (.cons .head (.cons .head (.cons .head (.cons .head (.cons .head (.cons .head (.cons .head (.cons .head (.cons .head (.cons .head (.cons .head (.cons .head (.cons .head (.cons .head (.cons .head .nil))))))))))))))))))))))))) ?_
                  refine .cast (X' := arr 36 12 wa wc ((rl ++ [s]).flatMap Sn.cells)) (by rw [List.flatMap_append]; simp) ?_
                  refine .close (X := bag (rowsOf 36 12 Sn.cells) (mset S.sends (s.part, s.pid, s.pidEpoch) (wa, wc, rl ++ [s]))) (B := [arr 36 12 wa wc ((rl ++ [s]).flatMap Sn.cells), bag (rowsOf 36 12 Sn.cells) (mdel S.sends (s.part, s.pid, s.pidEpoch))]) (.cons .head (.cons (.tail (.tail .head)) .nil)) (row_put hnd) ?_
                  refine .inBlock ?_
                  refine .close (X := chk c (noteP p i s) (n + 1)) (B := chkL c { S with acked := mset S.acked (s.part, s.offset) true, sends := mset S.sends (s.part, s.pid, s.pidEpoch) (wa, wc, rl ++ [s]) } b) (.cons (.tail (.tail (.tail (.tail (.tail .head))))) (.cons (.tail (.tail (.tail (.tail (.tail .head))))) (.cons (.tail (.tail (.tail (.tail (.tail .head))))) (.cons (.tail (.tail (.tail (.tail (.tail .head))))) (.cons (.tail (.tail (.tail (.tail (.tail .head))))) (.cons (.tail (.tail (.tail (.tail .head)))) (.cons (.tail (.tail (.tail (.tail .head)))) (.cons (.tail (.tail (.tail (.tail .head)))) (.cons (.tail .head) (.cons (.tail (.tail (.tail .head))) (.cons (.tail (.tail (.tail .head))) (.cons (.tail (.tail (.tail .head))) (.cons (.tail (.tail (.tail .head))) (.cons (.tail (.tail (.tail .head))) (.cons .head (.cons (.tail (.tail .head)) (.cons (.tail (.tail .head)) (.cons (.tail (.tail .head)) (.cons (.tail (.tail .head)) .nil))))))))))))))))))) (chk_close (by rw [note_sent hd he h23]; exact (hR.setAcked (Sets.set _ _ _)).setSend (m := n) hpn (by rw [show ({ (noteO (noteR p i s) s) with acked := put (noteO (noteR p i s) s).acked (s.part, s.offset) true } : PS).sends (s.part, s.pid, s.pidEpoch) = rl from hsd.symm]; exact Sets.set _ _ _) (Nat.le_refl _))) ?_
                  refine .endP Try.func14 .nil (.cons .head (.cons (.tail (.tail (.tail (.tail .head)))) .nil)) ?_
                  exact ⟨[_], rfl, rfl⟩
                · refine .skip ?_
                  refine .inBlock ?_
                  refine .close (X := chk c (noteP p i s) (n + 1)) (B := chkL c S b) (.cons .head (.cons .head (.cons .head (.cons .head (.cons .head (.cons .head (.cons .head (.cons .head (.cons .head (.cons .head (.cons .head (.cons .head (.cons .head (.cons .head (.cons .head (.cons .head (.cons .head (.cons .head (.cons .head .nil))))))))))))))))))) (chk_close (by rw [note_read hd he (by simpa using h117) h23]; exact hR)) ?_
                  refine .endP Try.func14 .nil (.cons .head (.cons (.tail (.tail .head)) .nil)) ?_
                  exact ⟨[_], rfl, rfl⟩
              · refine .condN rfl (fun h21 => ?_) (fun h21 => ?_)
                · refine .draws [3, 4, 6] [blk c b.cells 59, blk b10 [.int .i64 s.part, .string (str s.text)] 79, blk b5 s.cells 36] (by kernel_rfl) ?_   -- R22 model.go:194
                  refine .rp 0 rfl (by kernel_rfl) (by kernel_rfl) (by kernel_rfl) (Reads.pure (.move rfl)) ?_
                  refine .rp 1 rfl (by kernel_rfl) (by kernel_rfl) (by kernel_rfl) (Reads.pure (.nilCheck rfl)) ?_
                  refine .rp 2 rfl (by kernel_rfl) (by kernel_rfl) (by kernel_rfl) (Reads.pure (.fieldAddr fd59_6 rfl)) ?_
                  refine .rd 3 rfl rfl (by kernel_rfl) (by kernel_rfl) (by kernel_rfl) (.ld na52 rfl .head rfl) (.cons (.tail (.tail (.tail (.tail (.tail .head))))) (.cons (.tail (.tail (.tail .head))) (.cons (.tail (.tail (.tail (.tail (.tail (.tail (.tail (.tail (.tail (.tail (.tail (.tail (.tail (.tail (.tail (.tail (.tail (.tail (.tail (.tail .head)))))))))))))))))))) .nil))) ?_
                  refine .rd 4 rfl rfl (by kernel_rfl) (by kernel_rfl) (by kernel_rfl) (.ldN ia79 ts79 rfl (.tail .head) rfl) (.cons (.tail (.tail (.tail (.tail (.tail .head))))) (.cons (.tail (.tail (.tail .head))) (.cons (.tail (.tail (.tail (.tail (.tail (.tail (.tail (.tail (.tail (.tail (.tail (.tail (.tail (.tail (.tail (.tail (.tail (.tail (.tail (.tail .head)))))))))))))))))))) .nil))) ?_
                  refine .rp 5 rfl (by kernel_rfl) (by kernel_rfl) (by kernel_rfl) (Reads.pure (.fieldAddr fd36_4 rfl)) ?_
                  refine .rd 6 rfl rfl (by kernel_rfl) (by kernel_rfl) (by kernel_rfl) (.ld na3 rfl (.tail (.tail .head)) rfl) (.cons (.tail (.tail (.tail (.tail (.tail .head))))) (.cons (.tail (.tail (.tail .head))) (.cons (.tail (.tail (.tail (.tail (.tail (.tail (.tail (.tail (.tail (.tail (.tail (.tail (.tail (.tail (.tail (.tail (.tail (.tail (.tail (.tail .head)))))))))))))))))))) .nil))) ?_
                  refine .ef 7 (by kernel_rfl) rfl (.buildOne (cs := icell s.offset) Try.underlying40 ti3 (by decide) rfl rfl rfl (ones.of rfl)) ?_
                  rintro _ _ ⟨bs1, rfl, rfl⟩
                  refine ⟨.inr ⟨_, (.cons (.tail (.tail (.tail (.tail (.tail (.tail .head)))))) (.cons (.tail (.tail (.tail (.tail .head)))) (.cons (.tail (.tail (.tail (.tail (.tail (.tail (.tail (.tail (.tail (.tail (.tail (.tail (.tail (.tail (.tail (.tail (.tail (.tail (.tail (.tail (.tail .head))))))))))))))))))))) .nil)))⟩, ?_⟩
                  refine .ef 8 (by kernel_rfl) rfl (.mapEntry (q := (s.part, s.text)) (z0 := row0) kl79 Try.underlying52 (fun w => ti40.zero w) rfl rfl rfl (.tail (.tail (.tail (.tail (.tail (.tail (.tail (.tail (.tail (.tail (.tail (.tail .head))))))))))))) ?_
                  rintro _ _ ⟨st3, rfl, rfl⟩
                  refine ⟨.inl (by kernel_rfl), ?_⟩
                  refine .rp 9 rfl (by kernel_rfl) (by kernel_rfl) (by kernel_rfl) (Reads.pure (.extract rfl rfl)) ?_
                  refine .rp 11 rfl (by kernel_rfl) (by kernel_rfl) (by kernel_rfl) (Reads.pure (.extract rfl rfl)) ?_
                  refine .alter (t := 157) (v' := rowV (ra, rc, rl)) rfl (by show rowV _ = _; rw [hr]) ?_
                  refine .ef 10 (by kernel_rfl) rfl (.append rfl rfl Try.underlying40 ti3 rfl (ones.of rfl) (by decide) (by decide) rfl rfl (.tail (.tail .head)) (n := rl.length) (m := 1) (by rw [flat_length icell_len]) (.srcBlk (ys := icell s.offset) (.tail .head) Try.underlying40 rfl (by decide)) (by omega)) ?_
                  rintro _ _ ⟨wa, wc, rfl, wn, rfl⟩
                  refine ⟨.inl (by kernel_rfl), ?_⟩
                  refine .alter (t := 162) (v' := rowV (wa, wc, rl ++ [s.offset])) rfl (by show _ = Value.slice _ (List.length (_ ++ _)) _; rw [List.length_append]; rfl) ?_
                  refine .ef0 12 (by kernel_rfl) rfl (.entryStore (s := st3) (u := (wa, wc, rl ++ [s.offset])) rfl rfl rfl (.tail .head)) ?_
                  rintro _ _ rfl
                  refine ⟨.inl (by kernel_rfl), ?_⟩
                  refine .done (by kernel_rfl) ?_
                  refine .cast (X' := mp encL rowV b.m6 (mset S.offsets (s.part, s.text) (wa, wc, rl ++ [s.offset]))) (by rw [mset_mset]) ?_
                  refine .perm (.cons (.tail .head) (.cons .head (.cons .head (.cons .head (.cons .head (.cons .head (.cons .head (.cons .head (.cons .head (.cons .head (.cons .head (.cons .head (.cons .head (.cons .head (.cons .head (.cons .head (.cons .head (.cons .head (.cons .head (.cons .head (.cons .head (.cons .head (.cons .head (.cons .head (.cons .head .nil))))))))))))))))))))))))) ?_
                  refine .cast (X' := arr 3 1 wa wc ((rl ++ [s.offset]).flatMap icell)) (by rw [List.flatMap_append]; simp) ?_
                  refine .close (X := bag (rowsOf 3 1 icell) (mset S.offsets (s.part, s.text) (wa, wc, rl ++ [s.offset]))) (B := [arr 3 1 wa wc ((rl ++ [s.offset]).flatMap icell), bag (rowsOf 3 1 icell) (mdel S.offsets (s.part, s.text))]) (.cons .head (.cons (.tail (.tail .head)) .nil)) (row_put hnd) ?_
                  refine .close (X := chk c (noteO (noteR p i s) s) (n + 1)) (B := chkL c { S with values := (mset S.values (s.part, s.offset) s.text), offsets := mset S.offsets (s.part, s.text) (wa, wc, rl ++ [s.offset]) } b) (.cons (.tail (.tail (.tail (.tail (.tail (.tail .head)))))) (.cons (.tail (.tail (.tail (.tail (.tail (.tail .head)))))) (.cons (.tail (.tail (.tail (.tail (.tail (.tail .head)))))) (.cons (.tail (.tail (.tail (.tail (.tail (.tail .head)))))) (.cons (.tail (.tail (.tail .head))) (.cons (.tail (.tail (.tail (.tail (.tail .head))))) (.cons (.tail (.tail (.tail (.tail (.tail .head))))) (.cons (.tail .head) (.cons (.tail (.tail (.tail (.tail .head)))) (.cons (.tail (.tail (.tail (.tail .head)))) (.cons (.tail (.tail (.tail (.tail .head)))) (.cons (.tail (.tail (.tail (.tail .head)))) (.cons (.tail (.tail (.tail (.tail .head)))) (.cons .head (.cons (.tail (.tail (.tail .head))) (.cons (.tail (.tail (.tail .head))) (.cons (.tail (.tail (.tail .head))) (.cons (.tail (.tail (.tail .head))) (.cons (.tail (.tail (.tail .head))) .nil))))))))))))))))))) (chk_close (by unfold noteO; rw [if_neg (by rw [← hof]; exact h21)]; exact (hR.setValue (Sets.set _ _ _)).setOffset (by rw [show ({ noteR p i s with values := put (noteR p i s).values (s.part, s.offset) (some s.text) } : PS).offsets = (noteR p i s).offsets from rfl, ← hof]; exact Sets.set _ _ _))) ?_
                  exact fin (.cons rfl (.cons rfl (.cons rfl (.cons rfl .nil)))) (.cons .head (.cons (.tail (.tail (.tail .head))) (.cons (.tail (.tail .head)) (.cons (.tail (.tail .head)) .nil))))
                · refine .close (X := bag (rowsOf 3 1 icell) S.offsets) (B := [arr 3 1 ra rc (rl.flatMap icell), bag (rowsOf 3 1 icell) (mdel S.offsets (s.part, s.text))]) (.cons .head (.cons .head .nil)) (fun h H => row_back (q := (s.part, s.text)) hnd h (by rw [hr]; exact H)) ?_
                  refine .skip ?_
                  refine .close (X := chk c (noteO (noteR p i s) s) (n + 1)) (B := chkL c { S with values := (mset S.values (s.part, s.offset) s.text) } b) (.cons (.tail (.tail (.tail (.tail .head)))) (.cons (.tail (.tail (.tail (.tail .head)))) (.cons (.tail (.tail (.tail (.tail .head)))) (.cons (.tail (.tail (.tail (.tail .head)))) (.cons (.tail .head) (.cons (.tail (.tail (.tail .head))) (.cons (.tail (.tail (.tail .head))) (.cons (.tail (.tail (.tail .head))) (.cons (.tail (.tail (.tail .head))) (.cons (.tail (.tail (.tail .head))) (.cons (.tail (.tail (.tail .head))) (.cons (.tail (.tail (.tail .head))) (.cons (.tail (.tail (.tail .head))) (.cons .head (.cons (.tail (.tail .head)) (.cons (.tail (.tail .head)) (.cons (.tail (.tail .head)) (.cons (.tail (.tail .head)) (.cons (.tail (.tail .head)) .nil))))))))))))))))))) (chk_close (by unfold noteO; rw [if_pos (by rw [← hof]; exact h21)]; exact (hR.setValue (Sets.set _ _ _)).up)) ?_
                  exact fin (.cons rfl (.cons rfl (.cons rfl (.cons rfl .nil)))) (.cons .head (.cons (.tail (.tail .head)) (.cons (.tail .head) (.cons (.tail .head) .nil))))
          · refine .seq ?_
            refine .region ?_   -- R27 model.go:201
            refine .rd (.eqI rfl rfl) ?_
            refine .rd (.assign rfl) ?_
            refine .nil ?_
            refine .condP rfl (fun h27 => ?_) (fun h27 => ?_)
            · have hsn := hR.deletesN s.part
              have hsd := hR.deletes s.part
              refine .tell (mp_nodup (.tail (.tail (.tail (.tail (.tail (.tail (.tail (.tail (.tail .head)))))))))) (fun hnd => ?_)
              obtain ⟨⟨ra, rc, rl⟩, hr⟩ : ∃ r, (mget S.deletes s.part).getD row0 = r := ⟨_, rfl⟩
              refine .open_ (σ := Unit) (φ := fun _ => True) (B := fun _ => [arr 76 2 ra rc (rl.flatMap Mark.cells), bag (rowsOf 76 2 Mark.cells) (mdel S.deletes s.part)]) (.tail (.tail (.tail (.tail (.tail (.tail (.tail (.tail (.tail (.tail (.tail (.tail (.tail (.tail (.tail .head))))))))))))))) (fun h H => ⟨(), trivial, by have := row_take (f := Mark.cells) s.part hnd h H; rw [hr] at this; exact this⟩) (fun _ _ => ?_)
              simp only [List.cons_append, List.nil_append]
              rw [hr] at hsd
              dsimp only at hsd
              rw [← hsd] at hsn
              refine .draws [3, 5, 9, 11, 12, 15] [blk c b.cells 59, blk b5 s.cells 36, mp encN rowV b.m8 S.deletes] (by kernel_rfl) ?_   -- R28 model.go:202
              refine .rp 0 rfl (by kernel_rfl) (by kernel_rfl) (by kernel_rfl) (Reads.pure (.move rfl)) ?_
              refine .rp 1 rfl (by kernel_rfl) (by kernel_rfl) (by kernel_rfl) (Reads.pure (.nilCheck rfl)) ?_
              refine .rp 2 rfl (by kernel_rfl) (by kernel_rfl) (by kernel_rfl) (Reads.pure (.fieldAddr fd59_8 rfl)) ?_
              refine .rd 3 rfl rfl (by kernel_rfl) (by kernel_rfl) (by kernel_rfl) (.ld na54 rfl .head rfl) (.cons (.tail (.tail .head)) (.cons (.tail (.tail (.tail (.tail (.tail (.tail (.tail (.tail (.tail (.tail (.tail (.tail (.tail (.tail (.tail (.tail (.tail (.tail (.tail .head))))))))))))))))))) (.cons (.tail (.tail (.tail (.tail (.tail (.tail (.tail (.tail (.tail (.tail .head)))))))))) .nil))) ?_
              refine .rp 4 rfl (by kernel_rfl) (by kernel_rfl) (by kernel_rfl) (Reads.pure (.fieldAddr fd36_3 rfl)) ?_
              refine .rd 5 rfl rfl (by kernel_rfl) (by kernel_rfl) (by kernel_rfl) (.ld na3 rfl (.tail .head) rfl) (.cons (.tail (.tail .head)) (.cons (.tail (.tail (.tail (.tail (.tail (.tail (.tail (.tail (.tail (.tail (.tail (.tail (.tail (.tail (.tail (.tail (.tail (.tail (.tail .head))))))))))))))))))) (.cons (.tail (.tail (.tail (.tail (.tail (.tail (.tail (.tail (.tail (.tail .head)))))))))) .nil))) ?_
              refine .rp 6 rfl (by kernel_rfl) (by kernel_rfl) (by kernel_rfl) (Reads.pure (.move rfl)) ?_
              refine .rp 7 rfl (by kernel_rfl) (by kernel_rfl) (by kernel_rfl) (Reads.pure (.nilCheck rfl)) ?_
              refine .rp 8 rfl (by kernel_rfl) (by kernel_rfl) (by kernel_rfl) (Reads.pure (.fieldAddr fd59_8 rfl)) ?_
              refine .rd 9 rfl rfl (by kernel_rfl) (by kernel_rfl) (by kernel_rfl) (.ld na54 rfl .head rfl) (.cons (.tail (.tail .head)) (.cons (.tail (.tail (.tail (.tail (.tail (.tail (.tail (.tail (.tail (.tail (.tail (.tail (.tail (.tail (.tail (.tail (.tail (.tail (.tail .head))))))))))))))))))) (.cons (.tail (.tail (.tail (.tail (.tail (.tail (.tail (.tail (.tail (.tail .head)))))))))) .nil))) ?_
              refine .rp 10 rfl (by kernel_rfl) (by kernel_rfl) (by kernel_rfl) (Reads.pure (.fieldAddr fd36_3 rfl)) ?_
              refine .rd 11 rfl rfl (by kernel_rfl) (by kernel_rfl) (by kernel_rfl) (.ld na3 rfl (.tail .head) rfl) (.cons (.tail (.tail .head)) (.cons (.tail (.tail (.tail (.tail (.tail (.tail (.tail (.tail (.tail (.tail (.tail (.tail (.tail (.tail (.tail (.tail (.tail (.tail (.tail .head))))))))))))))))))) (.cons (.tail (.tail (.tail (.tail (.tail (.tail (.tail (.tail (.tail (.tail .head)))))))))) .nil))) ?_
              refine .rd 12 rfl rfl (by kernel_rfl) (by kernel_rfl) (by kernel_rfl) (.lookup (q := s.part) kl3 Try.underlying54 (fun w => ti74.zero w) rfl rfl (.tail (.tail .head))) (.cons (.tail (.tail .head)) (.cons (.tail (.tail (.tail (.tail (.tail (.tail (.tail (.tail (.tail (.tail (.tail (.tail (.tail (.tail (.tail (.tail (.tail (.tail (.tail .head))))))))))))))))))) (.cons (.tail (.tail (.tail (.tail (.tail (.tail (.tail (.tail (.tail (.tail .head)))))))))) .nil))) ?_
              refine .alter (t := 204) (v' := rowV (ra, rc, rl)) rfl (by rw [← hr]; exact getD_map rowV _ row0) ?_
              refine .rp 13 rfl (by kernel_rfl) (by kernel_rfl) (by kernel_rfl) (Reads.pure (.move rfl)) ?_
              refine .rp 14 rfl (by kernel_rfl) (by kernel_rfl) (by kernel_rfl) (Reads.pure (.fieldAddr fd36_4 rfl)) ?_
              refine .rd 15 rfl rfl (by kernel_rfl) (by kernel_rfl) (by kernel_rfl) (.ld na3 rfl (.tail .head) rfl) (.cons (.tail (.tail .head)) (.cons (.tail (.tail (.tail (.tail (.tail (.tail (.tail (.tail (.tail (.tail (.tail (.tail (.tail (.tail (.tail (.tail (.tail (.tail (.tail .head))))))))))))))))))) (.cons (.tail (.tail (.tail (.tail (.tail (.tail (.tail (.tail (.tail (.tail .head)))))))))) .nil))) ?_
              refine .rp 16 rfl (by kernel_rfl) (by kernel_rfl) (by kernel_rfl) (Reads.pure (.build rfl (bld76_0_1 _ _))) ?_
              refine .ef 17 (by kernel_rfl) rfl (.buildOne (cs := Mark.cells ⟨i, s.offset⟩) Try.underlying74 ti76 (by decide) rfl rfl rfl (ones.of rfl)) ?_
              rintro _ _ ⟨bs1, rfl, rfl⟩
              refine ⟨.inr ⟨_, (.cons (.tail (.tail (.tail .head))) (.cons (.tail (.tail (.tail (.tail (.tail (.tail (.tail (.tail (.tail (.tail (.tail (.tail (.tail (.tail (.tail (.tail (.tail (.tail (.tail (.tail .head)))))))))))))))))))) (.cons (.tail (.tail (.tail (.tail (.tail (.tail (.tail (.tail (.tail (.tail (.tail .head))))))))))) .nil)))⟩, ?_⟩
              refine .ef 18 (by kernel_rfl) rfl (.append rfl rfl Try.underlying74 ti76 rfl (ones.of rfl) (by decide) (by decide) rfl rfl (.tail .head) (n := rl.length) (m := 1) (by rw [flat_length Mark.cells_len]) (.srcBlk (ys := Mark.cells ⟨i, s.offset⟩) .head Try.underlying74 rfl (by decide)) (by omega)) ?_
              rintro _ _ ⟨wa, wc, rfl, wn, rfl⟩
              refine ⟨.inr ⟨_, (.cons (.tail (.tail (.tail .head))) (.cons (.tail (.tail (.tail (.tail (.tail (.tail (.tail (.tail (.tail (.tail (.tail (.tail (.tail (.tail (.tail (.tail (.tail (.tail (.tail (.tail .head)))))))))))))))))))) (.cons (.tail (.tail (.tail (.tail (.tail (.tail (.tail (.tail (.tail (.tail (.tail .head))))))))))) .nil)))⟩, ?_⟩
              refine .alter (t := 210) (v' := rowV (wa, wc, rl ++ [(⟨i, s.offset⟩ : Mark)])) rfl (by show _ = Value.slice _ (List.length (_ ++ _)) _; rw [List.length_append]; rfl) ?_
              refine .ef0 19 (by kernel_rfl) rfl (.mapUpdate (q := s.part) (u := (wa, wc, rl ++ [(⟨i, s.offset⟩ : Mark)])) kl3 Try.underlying54 rfl rfl rfl (.tail (.tail (.tail (.tail (.tail (.tail (.tail (.tail (.tail (.tail (.tail (.tail .head))))))))))))) ?_
              rintro _ _ rfl
              refine ⟨.inl (by kernel_rfl), ?_⟩
              refine .done (by kernel_rfl) ?_
              refine .perm (.cons (.tail .head) (.cons .head (.cons .head (.cons .head (.cons .head (.cons .head (.cons .head (.cons .head (.cons .head (.cons .head (.cons .head (.cons .head (.cons .head (.cons .head (.cons .head (.cons .head (.cons .head (.cons .head (.cons .head (.cons .head (.cons .head (.cons .head (.cons .head .nil))))))))))))))))))))))) ?_
              refine .cast (X' := arr 76 2 wa wc ((rl ++ [(⟨i, s.offset⟩ : Mark)]).flatMap Mark.cells)) (by rw [List.flatMap_append]; simp) ?_
              refine .close (X := bag (rowsOf 76 2 Mark.cells) (mset S.deletes s.part (wa, wc, rl ++ [(⟨i, s.offset⟩ : Mark)]))) (B := [arr 76 2 wa wc ((rl ++ [(⟨i, s.offset⟩ : Mark)]).flatMap Mark.cells), bag (rowsOf 76 2 Mark.cells) (mdel S.deletes s.part)]) (.cons .head (.cons (.tail (.tail .head)) .nil)) (row_put hnd) ?_
              refine .inBlock ?_
              refine .close (X := chk c (noteP p i s) (n + 1)) (B := chkL c { S with deletes := mset S.deletes s.part (wa, wc, rl ++ [(⟨i, s.offset⟩ : Mark)]) } b) (.cons (.tail (.tail (.tail .head))) (.cons (.tail (.tail (.tail .head))) (.cons (.tail (.tail (.tail .head))) (.cons (.tail (.tail (.tail .head))) (.cons (.tail (.tail (.tail .head))) (.cons (.tail (.tail (.tail .head))) (.cons (.tail (.tail (.tail .head))) (.cons (.tail (.tail (.tail .head))) (.cons (.tail (.tail (.tail .head))) (.cons (.tail .head) (.cons (.tail (.tail .head)) (.cons (.tail (.tail .head)) (.cons (.tail (.tail .head)) (.cons (.tail (.tail .head)) (.cons (.tail (.tail .head)) (.cons .head (.cons (.tail .head) (.cons (.tail .head) (.cons (.tail .head) .nil))))))))))))))))))) (chk_close (by rw [note_delete hd he (by simpa using h117) h27]; exact hR.setDelete (by rw [← hsd]; exact Sets.set _ _ _))) ?_
              refine .endP Try.func14 .nil (.cons .head (.cons (.tail (.tail .head)) .nil)) ?_
              exact ⟨[_], rfl, rfl⟩
            · refine .seq ?_
              refine .seq ?_
              refine .region ?_   -- R29 model.go:203
              refine .rd (.eqI rfl rfl) ?_
              refine .rd (.assign rfl) ?_
              refine .nil ?_
              refine .joinAt (E' := [(0, .pointer (some ⟨c, 0, none⟩)), (1, .int .i64 i), (5, .pointer (some ⟨b5, 0, none⟩)), (211, .bool (decide (s.kind = 2) || decide (s.kind = 3)))]) (Γ' := [blk c b.cells 59, mp encI inV b.m0 S.calls, mp encI askV b.m1 S.kinds, mp encI Value.bool b.m2 S.done, mp encI txV b.m3 S.values, mp encI Value.bool b.m4 S.acked, mp encL inV b.m5 S.sent, mp encL rowV b.m6 S.offsets, mp enc3 rowV b.m7 S.sends, mp encN rowV b.m8 S.deletes, mp encS rowV b.m9 S.gens, mp encP rowV b.m10 S.commits, mp encI ptrV b.m11 S.opened, bag (rowsOf 3 1 icell) S.offsets, bag (rowsOf 36 12 Sn.cells) S.sends, bag (rowsOf 76 2 Mark.cells) S.deletes, bag (rowsOf 76 2 Mark.cells) S.gens, bag (rowsOf 80 1 pcell) S.commits, bag spanOf S.spans, blk b5 s.cells 36, R]) ?_ (fun fin => ?_)
              · refine .cond rfl (fun h129 => ?_) (fun h129 => ?_)
                · have hsn := hR.gensN s.name
                  have hsd := hR.gens s.name
                  refine .tell (mp_nodup (.tail (.tail (.tail (.tail (.tail (.tail (.tail (.tail (.tail (.tail .head))))))))))) (fun hnd => ?_)
                  obtain ⟨⟨ra, rc, rl⟩, hr⟩ : ∃ r, (mget S.gens s.name).getD row0 = r := ⟨_, rfl⟩
                  refine .open_ (σ := Unit) (φ := fun _ => True) (B := fun _ => [arr 76 2 ra rc (rl.flatMap Mark.cells), bag (rowsOf 76 2 Mark.cells) (mdel S.gens s.name)]) (.tail (.tail (.tail (.tail (.tail (.tail (.tail (.tail (.tail (.tail (.tail (.tail (.tail (.tail (.tail (.tail .head)))))))))))))))) (fun h H => ⟨(), trivial, by have := row_take (f := Mark.cells) s.name hnd h H; rw [hr] at this; exact this⟩) (fun _ _ => ?_)
                  simp only [List.cons_append, List.nil_append]
                  rw [hr] at hsd
                  dsimp only at hsd
                  rw [← hsd] at hsn
                  refine .draws [3, 5, 9, 11, 12, 15] [blk c b.cells 59, blk b5 s.cells 36, mp encS rowV b.m9 S.gens] (by kernel_rfl) ?_   -- R31 model.go:204
                  refine .rp 0 rfl (by kernel_rfl) (by kernel_rfl) (by kernel_rfl) (Reads.pure (.move rfl)) ?_
                  refine .rp 1 rfl (by kernel_rfl) (by kernel_rfl) (by kernel_rfl) (Reads.pure (.nilCheck rfl)) ?_
                  refine .rp 2 rfl (by kernel_rfl) (by kernel_rfl) (by kernel_rfl) (Reads.pure (.fieldAddr fd59_9 rfl)) ?_
                  refine .rd 3 rfl rfl (by kernel_rfl) (by kernel_rfl) (by kernel_rfl) (.ld na55 rfl .head rfl) (.cons (.tail (.tail .head)) (.cons (.tail (.tail (.tail (.tail (.tail (.tail (.tail (.tail (.tail (.tail (.tail (.tail (.tail (.tail (.tail (.tail (.tail (.tail (.tail .head))))))))))))))))))) (.cons (.tail (.tail (.tail (.tail (.tail (.tail (.tail (.tail (.tail (.tail (.tail .head))))))))))) .nil))) ?_
                  refine .rp 4 rfl (by kernel_rfl) (by kernel_rfl) (by kernel_rfl) (Reads.pure (.fieldAddr fd36_8 rfl)) ?_
                  refine .rd 5 rfl rfl (by kernel_rfl) (by kernel_rfl) (by kernel_rfl) (.ld na9 rfl (.tail .head) rfl) (.cons (.tail (.tail .head)) (.cons (.tail (.tail (.tail (.tail (.tail (.tail (.tail (.tail (.tail (.tail (.tail (.tail (.tail (.tail (.tail (.tail (.tail (.tail (.tail .head))))))))))))))))))) (.cons (.tail (.tail (.tail (.tail (.tail (.tail (.tail (.tail (.tail (.tail (.tail .head))))))))))) .nil))) ?_
                  refine .rp 6 rfl (by kernel_rfl) (by kernel_rfl) (by kernel_rfl) (Reads.pure (.move rfl)) ?_
                  refine .rp 7 rfl (by kernel_rfl) (by kernel_rfl) (by kernel_rfl) (Reads.pure (.nilCheck rfl)) ?_
                  refine .rp 8 rfl (by kernel_rfl) (by kernel_rfl) (by kernel_rfl) (Reads.pure (.fieldAddr fd59_9 rfl)) ?_
                  refine .rd 9 rfl rfl (by kernel_rfl) (by kernel_rfl) (by kernel_rfl) (.ld na55 rfl .head rfl) (.cons (.tail (.tail .head)) (.cons (.tail (.tail (.tail (.tail (.tail (.tail (.tail (.tail (.tail (.tail (.tail (.tail (.tail (.tail (.tail (.tail (.tail (.tail (.tail .head))))))))))))))))))) (.cons (.tail (.tail (.tail (.tail (.tail (.tail (.tail (.tail (.tail (.tail (.tail .head))))))))))) .nil))) ?_
                  refine .rp 10 rfl (by kernel_rfl) (by kernel_rfl) (by kernel_rfl) (Reads.pure (.fieldAddr fd36_8 rfl)) ?_
                  refine .rd 11 rfl rfl (by kernel_rfl) (by kernel_rfl) (by kernel_rfl) (.ld na9 rfl (.tail .head) rfl) (.cons (.tail (.tail .head)) (.cons (.tail (.tail (.tail (.tail (.tail (.tail (.tail (.tail (.tail (.tail (.tail (.tail (.tail (.tail (.tail (.tail (.tail (.tail (.tail .head))))))))))))))))))) (.cons (.tail (.tail (.tail (.tail (.tail (.tail (.tail (.tail (.tail (.tail (.tail .head))))))))))) .nil))) ?_
                  refine .rd 12 rfl rfl (by kernel_rfl) (by kernel_rfl) (by kernel_rfl) (.lookup (q := s.name) kl9 Try.underlying55 (fun w => ti74.zero w) rfl rfl (.tail (.tail .head))) (.cons (.tail (.tail .head)) (.cons (.tail (.tail (.tail (.tail (.tail (.tail (.tail (.tail (.tail (.tail (.tail (.tail (.tail (.tail (.tail (.tail (.tail (.tail (.tail .head))))))))))))))))))) (.cons (.tail (.tail (.tail (.tail (.tail (.tail (.tail (.tail (.tail (.tail (.tail .head))))))))))) .nil))) ?_
                  refine .alter (t := 226) (v' := rowV (ra, rc, rl)) rfl (by rw [← hr]; exact getD_map rowV _ row0) ?_
                  refine .rp 13 rfl (by kernel_rfl) (by kernel_rfl) (by kernel_rfl) (Reads.pure (.move rfl)) ?_
                  refine .rp 14 rfl (by kernel_rfl) (by kernel_rfl) (by kernel_rfl) (Reads.pure (.fieldAddr fd36_7 rfl)) ?_
                  refine .rd 15 rfl rfl (by kernel_rfl) (by kernel_rfl) (by kernel_rfl) (.ld na3 rfl (.tail .head) rfl) (.cons (.tail (.tail .head)) (.cons (.tail (.tail (.tail (.tail (.tail (.tail (.tail (.tail (.tail (.tail (.tail (.tail (.tail (.tail (.tail (.tail (.tail (.tail (.tail .head))))))))))))))))))) (.cons (.tail (.tail (.tail (.tail (.tail (.tail (.tail (.tail (.tail (.tail (.tail .head))))))))))) .nil))) ?_
                  refine .rp 16 rfl (by kernel_rfl) (by kernel_rfl) (by kernel_rfl) (Reads.pure (.build rfl (bld76_0_1 _ _))) ?_
                  refine .ef 17 (by kernel_rfl) rfl (.buildOne (cs := Mark.cells ⟨i, s.seq⟩) Try.underlying74 ti76 (by decide) rfl rfl rfl (ones.of rfl)) ?_
                  rintro _ _ ⟨bs1, rfl, rfl⟩
                  refine ⟨.inr ⟨_, (.cons (.tail (.tail (.tail .head))) (.cons (.tail (.tail (.tail (.tail (.tail (.tail (.tail (.tail (.tail (.tail (.tail (.tail (.tail (.tail (.tail (.tail (.tail (.tail (.tail (.tail .head)))))))))))))))))))) (.cons (.tail (.tail (.tail (.tail (.tail (.tail (.tail (.tail (.tail (.tail (.tail (.tail .head)))))))))))) .nil)))⟩, ?_⟩
                  refine .ef 18 (by kernel_rfl) rfl (.append rfl rfl Try.underlying74 ti76 rfl (ones.of rfl) (by decide) (by decide) rfl rfl (.tail .head) (n := rl.length) (m := 1) (by rw [flat_length Mark.cells_len]) (.srcBlk (ys := Mark.cells ⟨i, s.seq⟩) .head Try.underlying74 rfl (by decide)) (by omega)) ?_
                  rintro _ _ ⟨wa, wc, rfl, wn, rfl⟩
                  refine ⟨.inr ⟨_, (.cons (.tail (.tail (.tail .head))) (.cons (.tail (.tail (.tail (.tail (.tail (.tail (.tail (.tail (.tail (.tail (.tail (.tail (.tail (.tail (.tail (.tail (.tail (.tail (.tail (.tail .head)))))))))))))))))))) (.cons (.tail (.tail (.tail (.tail (.tail (.tail (.tail (.tail (.tail (.tail (.tail (.tail .head)))))))))))) .nil)))⟩, ?_⟩
                  refine .alter (t := 232) (v' := rowV (wa, wc, rl ++ [(⟨i, s.seq⟩ : Mark)])) rfl (by show _ = Value.slice _ (List.length (_ ++ _)) _; rw [List.length_append]; rfl) ?_
                  refine .ef0 19 (by kernel_rfl) rfl (.mapUpdate (q := s.name) (u := (wa, wc, rl ++ [(⟨i, s.seq⟩ : Mark)])) kl9 Try.underlying55 rfl rfl rfl (.tail (.tail (.tail (.tail (.tail (.tail (.tail (.tail (.tail (.tail (.tail (.tail (.tail .head)))))))))))))) ?_
                  rintro _ _ rfl
                  refine ⟨.inl (by kernel_rfl), ?_⟩
                  refine .done (by kernel_rfl) ?_
                  refine .perm (.cons (.tail .head) (.cons .head (.cons .head (.cons .head (.cons .head (.cons .head (.cons .head (.cons .head (.cons .head (.cons .head (.cons .head (.cons .head (.cons .head (.cons .head (.cons .head (.cons .head (.cons .head (.cons .head (.cons .head (.cons .head (.cons .head (.cons .head (.cons .head .nil))))))))))))))))))))))) ?_
                  refine .cast (X' := arr 76 2 wa wc ((rl ++ [(⟨i, s.seq⟩ : Mark)]).flatMap Mark.cells)) (by rw [List.flatMap_append]; simp) ?_
                  refine .close (X := bag (rowsOf 76 2 Mark.cells) (mset S.gens s.name (wa, wc, rl ++ [(⟨i, s.seq⟩ : Mark)]))) (B := [arr 76 2 wa wc ((rl ++ [(⟨i, s.seq⟩ : Mark)]).flatMap Mark.cells), bag (rowsOf 76 2 Mark.cells) (mdel S.gens s.name)]) (.cons .head (.cons (.tail (.tail .head)) .nil)) (row_put hnd) ?_
                  refine .inBlock ?_
                  refine .close (X := chk c (noteP p i s) (n + 1)) (B := chkL c { S with gens := mset S.gens s.name (wa, wc, rl ++ [(⟨i, s.seq⟩ : Mark)]) } b) (.cons (.tail (.tail (.tail .head))) (.cons (.tail (.tail (.tail .head))) (.cons (.tail (.tail (.tail .head))) (.cons (.tail (.tail (.tail .head))) (.cons (.tail (.tail (.tail .head))) (.cons (.tail (.tail (.tail .head))) (.cons (.tail (.tail (.tail .head))) (.cons (.tail (.tail (.tail .head))) (.cons (.tail (.tail (.tail .head))) (.cons (.tail (.tail (.tail .head))) (.cons (.tail .head) (.cons (.tail (.tail .head)) (.cons (.tail (.tail .head)) (.cons (.tail (.tail .head)) (.cons (.tail (.tail .head)) (.cons (.tail (.tail .head)) (.cons .head (.cons (.tail .head) (.cons (.tail .head) .nil))))))))))))))))))) (chk_close (by rw [note_gen hd he (by simpa using h117) h27 (by simpa using h129)]; exact hR.setGen (by rw [← hsd]; exact Sets.set _ _ _))) ?_
                  refine .endP Try.func14 .nil (.cons .head (.cons (.tail (.tail .head)) .nil)) ?_
                  exact ⟨[_], rfl, rfl⟩
                · refine .skip ?_
                  refine .inBlock ?_
                  refine .close (X := chk c (noteP p i s) (n + 1)) (B := chkL c S b) (.cons .head (.cons .head (.cons .head (.cons .head (.cons .head (.cons .head (.cons .head (.cons .head (.cons .head (.cons .head (.cons .head (.cons .head (.cons .head (.cons .head (.cons .head (.cons .head (.cons .head (.cons .head (.cons .head .nil))))))))))))))))))) (chk_close (by rw [note_other hd he (by simpa using h117) h27 (by simpa using h129)]; exact hR.up)) ?_
                  refine .endP Try.func14 .nil (.cons .head (.cons (.tail .head) .nil)) ?_
                  exact ⟨[_], rfl, rfl⟩
              · refine .condP rfl (fun h29 => ?_) (fun h29 => ?_)
                · refine .skip ?_
                  exact fin (.cons rfl (.cons rfl (.cons rfl (.cons (by show some (Value.bool (decide (s.kind = 2))) = some (Value.bool (decide (s.kind = 2) || decide (s.kind = 3))); rw [decide_eq_true (p := s.kind = 2) h29]; rfl) .nil)))) (.cons .head (.cons .head (.cons .head (.cons .head (.cons .head (.cons .head (.cons .head (.cons .head (.cons .head (.cons .head (.cons .head (.cons .head (.cons .head (.cons .head (.cons .head (.cons .head (.cons .head (.cons .head (.cons .head (.cons .head (.cons .head .nil)))))))))))))))))))))
                · refine .region ?_   -- R30 model.go:203
                  refine .rd (.eqI rfl rfl) ?_
                  refine .rd (.assign rfl) ?_
                  refine .nil ?_
                  exact fin (.cons rfl (.cons rfl (.cons rfl (.cons (by show some (Value.bool (decide (s.kind = 3))) = some (Value.bool (decide (s.kind = 2) || decide (s.kind = 3))); rw [decide_eq_false (p := s.kind = 2) h29]; rfl) .nil)))) (.cons .head (.cons .head (.cons .head (.cons .head (.cons .head (.cons .head (.cons .head (.cons .head (.cons .head (.cons .head (.cons .head (.cons .head (.cons .head (.cons .head (.cons .head (.cons .head (.cons .head (.cons .head (.cons .head (.cons .head (.cons .head .nil)))))))))))))))))))))
        · refine .condP rfl (fun h17 => ?_) (fun h17 => ?_)
          · refine .skip ?_
            exact fin (.cons rfl (.cons rfl (.cons rfl (.cons rfl (.cons (by show some (Value.bool (decide (s.kind = 10))) = some (Value.bool (decide (s.kind = 10) || decide (s.kind = 1))); rw [decide_eq_true (p := s.kind = 10) h17]; rfl) .nil))))) (.cons .head (.cons .head (.cons .head (.cons .head (.cons .head (.cons .head (.cons .head (.cons .head (.cons .head (.cons .head (.cons .head (.cons .head (.cons .head (.cons .head (.cons .head (.cons .head (.cons .head (.cons .head (.cons .head (.cons .head (.cons .head .nil)))))))))))))))))))))
          · refine .region ?_   -- R18 model.go:190
            refine .rd (.eqI rfl rfl) ?_
            refine .rd (.assign rfl) ?_
            refine .nil ?_
            exact fin (.cons rfl (.cons rfl (.cons rfl (.cons rfl (.cons (by show some (Value.bool (decide (s.kind = 1))) = some (Value.bool (decide (s.kind = 10) || decide (s.kind = 1))); rw [decide_eq_false (p := s.kind = 10) h17]; rfl) .nil))))) (.cons .head (.cons .head (.cons .head (.cons .head (.cons .head (.cons .head (.cons .head (.cons .head (.cons .head (.cons .head (.cons .head (.cons .head (.cons .head (.cons .head (.cons .head (.cons .head (.cons .head (.cons .head (.cons .head (.cons .head (.cons .head .nil)))))))))))))))))))))
    · refine .cond rfl (fun h13 => ?_) (fun h13 => ?_)
      · obtain ⟨sb, hsb⟩ := Option.isSome_iff_exists.1 h13
        obtain ⟨gs, hgs, hgi⟩ := hR.opened s.id sb hsb
        refine .alter (t := 8) (v' := ptrV sb) rfl (by rw [hsb]; rfl) ?_
        refine .open_ (σ := Unit) (φ := fun _ => True) (B := fun _ => [blk sb gs.cells 82, bag spanOf (mdel S.spans sb)]) (.tail (.tail (.tail (.tail (.tail (.tail (.tail (.tail (.tail (.tail (.tail (.tail (.tail (.tail (.tail (.tail (.tail (.tail (.tail (.tail .head)))))))))))))))))))) (fun h H => ⟨(), trivial, span_take hR.nodup hgs h H⟩) (fun _ _ => ?_)
        simp only [List.cons_append, List.nil_append]
        refine .draws [] [blk b5 s.cells 36] (by kernel_rfl) ?_   -- R14 model.go:184
        refine .rp 0 rfl (by kernel_rfl) (by kernel_rfl) (by kernel_rfl) (Reads.pure (.move rfl)) ?_
        refine .rp 1 rfl (by kernel_rfl) (by kernel_rfl) (by kernel_rfl) (Reads.pure (.move rfl)) ?_
        refine .rp 2 rfl (by kernel_rfl) (by kernel_rfl) (by kernel_rfl) (Reads.pure (.move rfl)) ?_
        refine .rp 3 rfl (by kernel_rfl) (by kernel_rfl) (by kernel_rfl) (Reads.pure (.fieldAddr fd36_10 rfl)) ?_
        refine .rp 5 rfl (by kernel_rfl) (by kernel_rfl) (by kernel_rfl) (Reads.pure (.nilCheck rfl)) ?_
        refine .rp 6 rfl (by kernel_rfl) (by kernel_rfl) (by kernel_rfl) (Reads.pure (.fieldAddr fd82_2 rfl)) ?_
        refine .all (rs := [4, 7]) (by kernel_rfl) (by simp) (fun i hi => ?_)
        simp only [List.mem_cons, List.not_mem_nil, or_false] at hi
        rcases hi with rfl | rfl
        · refine .rd rfl (.ld na34 rfl (.tail (.tail (.tail (.tail .head)))) rfl) (.cons (.tail (.tail (.tail (.tail .head)))) .nil) ?_
          refine .ef0 7 (by kernel_rfl) rfl (.store ts3 rfl rfl .head rfl (Nat.le_of_ble_eq_true rfl)) ?_
          rintro _ _ rfl
          refine ⟨.inl (by kernel_rfl), ?_⟩
          refine .rp 8 rfl (by kernel_rfl) (by kernel_rfl) (by kernel_rfl) (Reads.pure (.nilCheck rfl)) ?_
          refine .rp 9 rfl (by kernel_rfl) (by kernel_rfl) (by kernel_rfl) (Reads.pure (.fieldAddr fd82_3 rfl)) ?_
          refine .ef0 10 (by kernel_rfl) rfl (.store ts34 rfl rfl .head rfl (Nat.le_of_ble_eq_true rfl)) ?_
          rintro _ _ rfl
          refine ⟨.inl (by kernel_rfl), ?_⟩
          refine .done (by kernel_rfl) ?_
          refine .cast (X' := blk sb (Sg.cells { gs with to := i, err := s.err }) 82) (rfl) ?_
          refine .close (X := bag spanOf (mset S.spans sb { gs with to := i, err := s.err })) (B := [blk sb (Sg.cells { gs with to := i, err := s.err }) 82, bag spanOf (mdel S.spans sb)]) (.cons .head (.cons .head .nil)) (span_put hR.nodup) ?_
          refine .close (X := chk c (noteR p i s) n) (B := chkL c { S with done := (mset S.done s.id true), spans := mset S.spans sb { gs with to := i, err := s.err } } b) (.cons (.tail (.tail (.tail (.tail .head)))) (.cons (.tail (.tail (.tail (.tail .head)))) (.cons (.tail (.tail (.tail (.tail .head)))) (.cons (.tail .head) (.cons (.tail (.tail (.tail .head))) (.cons (.tail (.tail (.tail .head))) (.cons (.tail (.tail (.tail .head))) (.cons (.tail (.tail (.tail .head))) (.cons (.tail (.tail (.tail .head))) (.cons (.tail (.tail (.tail .head))) (.cons (.tail (.tail (.tail .head))) (.cons (.tail (.tail (.tail .head))) (.cons (.tail (.tail (.tail .head))) (.cons (.tail (.tail (.tail .head))) (.cons (.tail (.tail (.tail .head))) (.cons (.tail (.tail (.tail .head))) (.cons (.tail (.tail (.tail .head))) (.cons (.tail (.tail (.tail .head))) (.cons .head .nil))))))))))))))))))) (chk_close ((hR.setDone (Sets.set _ _ _)).atEnd hsb hgs (Sets.set _ _ _) (mset_nodup hR.nodup _ _))) ?_
          exact fin (.cons rfl (.cons rfl (.cons rfl .nil))) (.cons .head (.cons (.tail .head) (.cons (.tail .head) .nil)))
        · refine .ef0 rfl (.store ts3 rfl rfl .head rfl (Nat.le_of_ble_eq_true rfl)) ?_
          rintro _ _ rfl
          refine ⟨.inl (by kernel_rfl), ?_⟩
          refine .rs (Δ := []) 4 (by kernel_rfl) rfl (.ld na34 rfl (.tail (.tail (.tail (.tail .head)))) rfl) (.inl (by kernel_rfl)) ?_
          refine .rp 8 rfl (by kernel_rfl) (by kernel_rfl) (by kernel_rfl) (Reads.pure (.nilCheck rfl)) ?_
          refine .rp 9 rfl (by kernel_rfl) (by kernel_rfl) (by kernel_rfl) (Reads.pure (.fieldAddr fd82_3 rfl)) ?_
          refine .ef0 10 (by kernel_rfl) rfl (.store ts34 rfl rfl .head rfl (Nat.le_of_ble_eq_true rfl)) ?_
          rintro _ _ rfl
          refine ⟨.inl (by kernel_rfl), ?_⟩
          refine .done (by kernel_rfl) ?_
          refine .cast (X' := blk sb (Sg.cells { gs with to := i, err := s.err }) 82) (rfl) ?_
          refine .close (X := bag spanOf (mset S.spans sb { gs with to := i, err := s.err })) (B := [blk sb (Sg.cells { gs with to := i, err := s.err }) 82, bag spanOf (mdel S.spans sb)]) (.cons .head (.cons .head .nil)) (span_put hR.nodup) ?_
          refine .close (X := chk c (noteR p i s) n) (B := chkL c { S with done := (mset S.done s.id true), spans := mset S.spans sb { gs with to := i, err := s.err } } b) (.cons (.tail (.tail (.tail (.tail .head)))) (.cons (.tail (.tail (.tail (.tail .head)))) (.cons (.tail (.tail (.tail (.tail .head)))) (.cons (.tail .head) (.cons (.tail (.tail (.tail .head))) (.cons (.tail (.tail (.tail .head))) (.cons (.tail (.tail (.tail .head))) (.cons (.tail (.tail (.tail .head))) (.cons (.tail (.tail (.tail .head))) (.cons (.tail (.tail (.tail .head))) (.cons (.tail (.tail (.tail .head))) (.cons (.tail (.tail (.tail .head))) (.cons (.tail (.tail (.tail .head))) (.cons (.tail (.tail (.tail .head))) (.cons (.tail (.tail (.tail .head))) (.cons (.tail (.tail (.tail .head))) (.cons (.tail (.tail (.tail .head))) (.cons (.tail (.tail (.tail .head))) (.cons .head .nil))))))))))))))))))) (chk_close ((hR.setDone (Sets.set _ _ _)).atEnd hsb hgs (Sets.set _ _ _) (mset_nodup hR.nodup _ _))) ?_
          exact fin (.cons rfl (.cons rfl (.cons rfl .nil))) (.cons .head (.cons (.tail .head) (.cons (.tail .head) .nil)))
      · refine .skip ?_
        refine .close (X := chk c (noteR p i s) n) (B := chkL c { S with done := (mset S.done s.id true) } b) (.cons (.tail (.tail (.tail .head))) (.cons (.tail (.tail (.tail .head))) (.cons (.tail (.tail (.tail .head))) (.cons .head (.cons (.tail (.tail .head)) (.cons (.tail (.tail .head)) (.cons (.tail (.tail .head)) (.cons (.tail (.tail .head)) (.cons (.tail (.tail .head)) (.cons (.tail (.tail .head)) (.cons (.tail (.tail .head)) (.cons (.tail (.tail .head)) (.cons (.tail (.tail .head)) (.cons (.tail (.tail .head)) (.cons (.tail (.tail .head)) (.cons (.tail (.tail .head)) (.cons (.tail (.tail .head)) (.cons (.tail (.tail .head)) (.cons (.tail (.tail .head)) .nil))))))))))))))))))) (chk_close ((hR.setDone (Sets.set _ _ _)).noEnd (by show mget S.opened s.id = none; cases ho : mget S.opened s.id with | none => rfl | some b => rw [ho] at h13; cases h13))) ?_
        exact fin (.cons rfl (.cons rfl (.cons rfl .nil))) (.cons .head (.cons (.tail .head) (.cons (.tail .head) .nil)))

end Go.Proofs.Ytahpokcigdjilaa

