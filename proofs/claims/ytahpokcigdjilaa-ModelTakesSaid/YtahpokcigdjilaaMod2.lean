/- Steps through functions of the program, under conditions that each theorem states (part mod2 of a claim). -/
import Derived.Test.YtahpokcigdjilaaProg
import Derived.Test.YtahpokcigdjilaaMod1
namespace Go.Proofs.Ytahpokcigdjilaa
open Go Go.Sp

set_option linter.unusedVariables false

namespace mod2
theorem na3 : NotAgg Try.prog 3 := ⟨_, Try.underlying3, trivial⟩
theorem na4 : NotAgg Try.prog 4 := ⟨_, Try.underlying4, trivial⟩
theorem na9 : NotAgg Try.prog 9 := ⟨_, Try.underlying9, trivial⟩
theorem ia70 : IsAgg Try.prog 70 := ⟨_, Try.underlying70, trivial⟩
theorem ts70 : TS Try.prog 70 2 := .of (by kernel_rfl)
theorem ti3 : TI Try.prog 3 1 8 (.int .i64 0) := .of (by kernel_rfl)
theorem fd59_10 : FD Try.prog 59 10 10 := .of Try.underlying59 (by kernel_rfl)
theorem na56 : NotAgg Try.prog 56 := ⟨_, Try.underlying56, trivial⟩
theorem fd36_8 : FD Try.prog 36 8 8 := .of Try.underlying36 (by kernel_rfl)
theorem fd36_3 : FD Try.prog 36 3 3 := .of Try.underlying36 (by kernel_rfl)
theorem bld70_0_1 (x0 : ByteArray) (x1 : Int) (w : World) : (Instr.build 70 (([0, 1] : List Nat).zip [.string x0, .int .i64 x1]).toArray).run Try.prog w = .ok (.agg #[.string x0, .int .i64 x1]) w := by kernel_rfl
theorem ti83 : TI Try.prog 83 1 24 (.slice none 0 0) := .of (by kernel_rfl)
theorem ts83 : TS Try.prog 83 1 := .of (by kernel_rfl)
theorem ti95 : TI Try.prog 95 1 8 (.nilFunc) := .of (by kernel_rfl)
theorem ts95 : TS Try.prog 95 1 := .of (by kernel_rfl)
theorem fd36_4 : FD Try.prog 36 4 4 := .of Try.underlying36 (by kernel_rfl)
theorem na83 : NotAgg Try.prog 83 := ⟨_, Try.underlying83, trivial⟩
theorem na95 : NotAgg Try.prog 95 := ⟨_, Try.underlying95, trivial⟩
end mod2
open mod2

theorem str_dec (a b : List UInt8) : decide (str a = str b) = decide (a = b) := decide_eq_decide.2 str_inj
theorem eq67 (p q : Int × Int) : EqV Try.prog 2 67 (encI p) (encI q) (decide (p = q)) := by
  have h : EqV Try.prog 2 67 (encI p) (encI q) (decide (p.1 = q.1) && (decide (p.2 = q.2) && true)) :=
    .struct Try.underlying67 (by kernel_rfl) (.cons (by decide) (part1 na3 rfl) (part1 na3 rfl) (.int Try.underlying3) (.cons (by decide) (part1 na3 rfl) (part1 na3 rfl) (.int Try.underlying3) .nil))
  have e : (decide (p.1 = q.1) && (decide (p.2 = q.2) && true)) = decide (p = q) := by
    rw [Bool.eq_iff_iff]; simp [Prod.ext_iff]
  rwa [e] at h
theorem kl67 : KL Try.prog 67 encI := by
  refine KL.struct (enc := fun p : Int × Int => #[.int .i64 p.1, .int .i64 p.2]) Try.underlying67 (fun x y h => ?_) (fun x => ?_) (fun x y => (eq67 x y).up (by omega)) (fun x n => ?_)
  · simp at h; exact Prod.ext h.1 h.2
  · exact (CkV.struct Try.underlying67 (.cons (by decide) (part1 na3 rfl) (.int Try.underlying3) (.cons (by decide) (part1 na3 rfl) (.int Try.underlying3) .nil))).up (by omega)
  · simp [Instr.sameBits]
theorem eq85 (p q : Int × Int) : EqV Try.prog 2 85 (encI p) (encI q) (decide (p = q)) := by
  have h : EqV Try.prog 2 85 (encI p) (encI q) (decide (p.1 = q.1) && (decide (p.2 = q.2) && true)) :=
    .struct Try.underlying85 (by kernel_rfl) (.cons (by decide) (part1 na3 rfl) (part1 na3 rfl) (.int Try.underlying3) (.cons (by decide) (part1 na3 rfl) (part1 na3 rfl) (.int Try.underlying3) .nil))
  have e : (decide (p.1 = q.1) && (decide (p.2 = q.2) && true)) = decide (p = q) := by
    rw [Bool.eq_iff_iff]; simp [Prod.ext_iff]
  rwa [e] at h
theorem kl85 : KL Try.prog 85 encI := by
  refine KL.struct (enc := fun p : Int × Int => #[.int .i64 p.1, .int .i64 p.2]) Try.underlying85 (fun x y h => ?_) (fun x => ?_) (fun x y => (eq85 x y).up (by omega)) (fun x n => ?_)
  · simp at h; exact Prod.ext h.1 h.2
  · exact (CkV.struct Try.underlying85 (.cons (by decide) (part1 na3 rfl) (.int Try.underlying3) (.cons (by decide) (part1 na3 rfl) (.int Try.underlying3) .nil))).up (by omega)
  · simp [Instr.sameBits]
theorem eq79 (p q : Int × Tx) : EqV Try.prog 2 79 (encL p) (encL q) (decide (p = q)) := by
  have h : EqV Try.prog 2 79 (encL p) (encL q) (decide (p.1 = q.1) && (decide (str p.2 = str q.2) && true)) :=
    .struct Try.underlying79 (by kernel_rfl) (.cons (by decide) (part1 na3 rfl) (part1 na3 rfl) (.int Try.underlying3) (.cons (by decide) (part1 na9 rfl) (part1 na9 rfl) (.string Try.underlying9) .nil))
  have e : (decide (p.1 = q.1) && (decide (str p.2 = str q.2) && true)) = decide (p = q) := by
    rw [Bool.eq_iff_iff]; simp [str_dec, Prod.ext_iff]
  rwa [e] at h
theorem kl79 : KL Try.prog 79 encL := by
  refine KL.struct (enc := fun p : Int × Tx => #[.int .i64 p.1, .string (str p.2)]) Try.underlying79 (fun x y h => ?_) (fun x => ?_) (fun x y => (eq79 x y).up (by omega)) (fun x n => ?_)
  · simp [str_inj] at h; exact Prod.ext h.1 h.2
  · exact (CkV.struct Try.underlying79 (.cons (by decide) (part1 na3 rfl) (.int Try.underlying3) (.cons (by decide) (part1 na9 rfl) (.string Try.underlying9) .nil))).up (by omega)
  · simp [Instr.sameBits, beqS]
theorem eq70 (p q : Tx × Int) : EqV Try.prog 2 70 (encP p) (encP q) (decide (p = q)) := by
  have h : EqV Try.prog 2 70 (encP p) (encP q) (decide (str p.1 = str q.1) && (decide (p.2 = q.2) && true)) :=
    .struct Try.underlying70 (by kernel_rfl) (.cons (by decide) (part1 na9 rfl) (part1 na9 rfl) (.string Try.underlying9) (.cons (by decide) (part1 na3 rfl) (part1 na3 rfl) (.int Try.underlying3) .nil))
  have e : (decide (str p.1 = str q.1) && (decide (p.2 = q.2) && true)) = decide (p = q) := by
    rw [Bool.eq_iff_iff]; simp [str_dec, Prod.ext_iff]
  rwa [e] at h
theorem kl70 : KL Try.prog 70 encP := by
  refine KL.struct (enc := fun p : Tx × Int => #[.string (str p.1), .int .i64 p.2]) Try.underlying70 (fun x y h => ?_) (fun x => ?_) (fun x y => (eq70 x y).up (by omega)) (fun x n => ?_)
  · simp [str_inj] at h; exact Prod.ext h.1 h.2
  · exact (CkV.struct Try.underlying70 (.cons (by decide) (part1 na9 rfl) (.string Try.underlying9) (.cons (by decide) (part1 na3 rfl) (.int Try.underlying3) .nil))).up (by omega)
  · simp [Instr.sameBits, beqS]
theorem kl86 : KL Try.prog 86 enc3 := by
  obtain ⟨i, h1, h2, h3, h4⟩ := ti3
  exact KL.three Try.underlying86 Try.underlying3 h1 (by kernel_rfl)
theorem kl3 : KL Try.prog 3 encN := KL.int Try.underlying3
theorem kl9 : KL Try.prog 9 encS := KL.comap str (fun _ _ h => str_inj.1 h) (KL.string Try.underlying9)
theorem eq72 (x y : Asked) : EqV Try.prog 3 72 (askV x) (askV y) (decide (x = y)) := by
  have h : EqV Try.prog 3 72 (askV x) (askV y) (decide (x.kind = y.kind) && (decide ((x.name, x.part) = (y.name, y.part)) && true)) :=
    .struct Try.underlying72 (by kernel_rfl) (.cons (by decide) (part1 na3 rfl) (part1 na3 rfl) ((EqV.int Try.underlying3).up (by omega)) (.cons (by decide) (partN ia70 ts70) (partN ia70 ts70) (eq70 (x.name, x.part) (y.name, y.part)) .nil))
  have e : (decide (x.kind = y.kind) && (decide ((x.name, x.part) = (y.name, y.part)) && true)) = decide (x = y) := by
    rw [Bool.eq_iff_iff]; cases x; cases y; simp
  rwa [e] at h

set_option maxHeartbeats 1000000 in
set_option maxRecDepth 20000 in
theorem stale_ok (c : Nat) (p : PS) (n : Nat) (s : Sn) (fr : Int) (hn : n ≤ 1000000) : Cn Try.prog 19 [ptrV c, .agg s.cells.toArray, .int .i64 fr] (fun _ => True) [chk c p n] fun v G => v = .bool (staleP p s fr) ∧ G = [chk c p n] := by
  refine .enter Try.func19 rfl (by kernel_rfl) rfl fun R k => ?_
  refine .open_ (σ := CS × Bl) (φ := fun x => Rel x.1 p n) (B := fun x => chkL c x.1 x.2) .head chk_open (fun x hR => ?_)
  obtain ⟨S, b⟩ := x
  dsimp only at hR
  simp only [chkL, List.cons_append, List.nil_append]
  refine .seq ?_
  refine .region ?_   -- R0 model.go:148
  refine .ef (.box (l := s.cells) rfl rfl (ones.of rfl)) ?_
  rintro _ _ ⟨b4, rfl, rfl⟩
  refine .ef (.box (l := [.int .i64 fr]) rfl rfl (ones.of rfl)) ?_
  rintro _ _ ⟨b5, rfl, rfl⟩
  refine .rd (.assign rfl) ?_
  refine .nil ?_
  refine .seq ?_
  refine .draws [3, 5, 7, 9] [blk c b.cells 59, blk b4 s.cells 36, mp encP rowV b.m10 S.commits] (by kernel_rfl) ?_   -- R1 model.go:149
  refine .rp 0 rfl (by kernel_rfl) (by kernel_rfl) (by kernel_rfl) (Reads.pure (.move rfl)) ?_
  refine .rp 1 rfl (by kernel_rfl) (by kernel_rfl) (by kernel_rfl) (Reads.pure (.nilCheck rfl)) ?_
  refine .rp 2 rfl (by kernel_rfl) (by kernel_rfl) (by kernel_rfl) (Reads.pure (.fieldAddr fd59_10 rfl)) ?_
  refine .rd 3 rfl rfl (by kernel_rfl) (by kernel_rfl) (by kernel_rfl) (.ld na56 rfl .head rfl) (.cons (.tail (.tail .head)) (.cons (.tail .head) (.cons (.tail (.tail (.tail (.tail (.tail (.tail (.tail (.tail (.tail (.tail (.tail .head))))))))))) .nil))) ?_
  refine .rp 4 rfl (by kernel_rfl) (by kernel_rfl) (by kernel_rfl) (Reads.pure (.fieldAddr fd36_8 rfl)) ?_
  refine .rd 5 rfl rfl (by kernel_rfl) (by kernel_rfl) (by kernel_rfl) (.ld na9 rfl (.tail .head) rfl) (.cons (.tail (.tail .head)) (.cons (.tail .head) (.cons (.tail (.tail (.tail (.tail (.tail (.tail (.tail (.tail (.tail (.tail (.tail .head))))))))))) .nil))) ?_
  refine .rp 6 rfl (by kernel_rfl) (by kernel_rfl) (by kernel_rfl) (Reads.pure (.fieldAddr fd36_3 rfl)) ?_
  refine .rd 7 rfl rfl (by kernel_rfl) (by kernel_rfl) (by kernel_rfl) (.ld na3 rfl (.tail .head) rfl) (.cons (.tail (.tail .head)) (.cons (.tail .head) (.cons (.tail (.tail (.tail (.tail (.tail (.tail (.tail (.tail (.tail (.tail (.tail .head))))))))))) .nil))) ?_
  refine .rp 8 rfl (by kernel_rfl) (by kernel_rfl) (by kernel_rfl) (Reads.pure (.build rfl (bld70_0_1 _ _))) ?_
  refine .rd 9 rfl rfl (by kernel_rfl) (by kernel_rfl) (by kernel_rfl) (.lookup (q := (s.name, s.part)) kl70 Try.underlying56 (fun w => ti83.zero w) rfl rfl (.tail (.tail .head))) (.cons (.tail (.tail .head)) (.cons (.tail .head) (.cons (.tail (.tail (.tail (.tail (.tail (.tail (.tail (.tail (.tail (.tail (.tail .head))))))))))) .nil))) ?_
  refine .alter (t := 18) (v' := rowV ((mget S.commits (s.name, s.part)).getD row0)) rfl (getD_map rowV _ row0) ?_
  refine .ef 10 (by kernel_rfl) rfl (.alloc ti83 rfl (ones.of rfl)) ?_
  rintro _ _ ⟨b7, rfl, rfl⟩
  refine ⟨.inr ⟨_, (.cons (.tail (.tail (.tail .head))) (.cons (.tail (.tail .head)) (.cons (.tail (.tail (.tail (.tail (.tail (.tail (.tail (.tail (.tail (.tail (.tail (.tail .head)))))))))))) .nil)))⟩, ?_⟩
  refine .ef0 11 (by kernel_rfl) rfl (.store ts83 rfl rfl .head rfl (Nat.le_of_ble_eq_true rfl)) ?_
  rintro _ _ rfl
  refine ⟨.inl (by kernel_rfl), ?_⟩
  refine .done (by kernel_rfl) ?_
  have hrc := hR.commits (s.name, s.part)
  have hrk := hR.known (s.name, s.part)
  have hrn := hR.commitsN (s.name, s.part)
  have hrow : Knows [bag (rowsOf 80 1 pcell) S.commits] (RowAt ((mget S.commits (s.name, s.part)).getD row0).1 (((mget S.commits (s.name, s.part)).getD row0).2.2.flatMap pcell)) := Knows.row .head
  generalize (mget S.commits (s.name, s.part)).getD row0 = r at hrc hrk hrow ⊢
  obtain ⟨ra, rc, rl⟩ := r
  dsimp only at hrc hrk hrow
  rw [← hrc, List.length_map] at hrn
  refine .seq ?_
  refine .region ?_   -- R2 model.go:150
  refine .rd (.makeFunc rfl rfl) ?_
  refine .ef (.alloc ti95 rfl (ones.of rfl)) ?_
  rintro _ _ ⟨b8, rfl, rfl⟩
  refine .ef0 (.store ts95 rfl rfl .head rfl (Nat.le_of_ble_eq_true rfl)) ?_
  rintro _ _ rfl
  refine .nil ?_
  refine .seq ?_
  refine .seq ?_
  refine .region ?_   -- R3 model.go:153
  refine .rd (.fieldAddr fd36_4 rfl) ?_
  refine .rd (.ld na3 rfl (.tail (.tail (.tail .head))) rfl) ?_
  refine .rd (.eqI rfl rfl) ?_
  refine .nil ?_
  refine .condP rfl (fun h3 => ?_) (fun h3 => ?_)
  · refine .seq ?_
    refine .region ?_   -- R4 model.go:154
    refine .rd (.ld na83 rfl (.tail .head) rfl) ?_
    refine .rd (.ld na95 rfl .head rfl) ?_
    refine .fn rfl rfl .nil (fun A w h => ⟨(Knows.pick (.tail (.tail (.tail (.tail (.tail (.tail (.tail (.tail (.tail (.tail (.tail (.tail (.tail (.tail (.tail (.tail (.tail (.tail (.tail (.tail (.tail .head))))))))))))))))))))) hrow) A w h, (Knows.blk (.tail (.tail .head))) A w h, fun b hb => by obtain ⟨g, hg⟩ := hrk b hb; have := Knows.span (.tail (.tail (.tail (.tail (.tail (.tail (.tail (.tail (.tail (.tail (.tail (.tail (.tail (.tail (.tail (.tail (.tail (.tail (.tail (.tail (.tail (.tail .head)))))))))))))))))))))) hg A w h; unfold cont; rw [hg]; exact this⟩) (ContainsFunc_ok ra rc rl 35 #[ptrV b5] (fun b => over fr (cont S b)) (fun w => CellsAt b5 0 [.int .i64 fr] w ∧ ∀ b ∈ rl, CellsAt b 0 (cont S b).cells w) (fun b hb => Cn.reads (over_ok b b5 (cont S b) fr) fun w h => ⟨h.2 b hb, h.1⟩) (by omega)) (fun v G1 hq => ?_)
    obtain ⟨rfl, rfl⟩ := hq
    simp only [List.nil_append]
    refine .rd (.assign rfl) ?_
    refine .nil ?_
    refine .close (X := chk c p n) (B := chkL c S b) (.cons (.tail (.tail (.tail (.tail .head)))) (.cons (.tail (.tail (.tail (.tail .head)))) (.cons (.tail (.tail (.tail (.tail .head)))) (.cons (.tail (.tail (.tail (.tail .head)))) (.cons (.tail (.tail (.tail (.tail .head)))) (.cons (.tail (.tail (.tail (.tail .head)))) (.cons (.tail (.tail (.tail (.tail .head)))) (.cons (.tail (.tail (.tail (.tail .head)))) (.cons (.tail (.tail (.tail (.tail .head)))) (.cons (.tail (.tail (.tail (.tail .head)))) (.cons (.tail (.tail (.tail (.tail .head)))) (.cons (.tail (.tail (.tail (.tail .head)))) (.cons (.tail (.tail (.tail (.tail .head)))) (.cons (.tail (.tail (.tail (.tail .head)))) (.cons (.tail (.tail (.tail (.tail .head)))) (.cons (.tail (.tail (.tail (.tail .head)))) (.cons (.tail (.tail (.tail (.tail .head)))) (.cons (.tail (.tail (.tail (.tail .head)))) (.cons (.tail (.tail (.tail (.tail .head)))) .nil))))))))))))))))))) (chk_close (hR)) ?_
    have hv : staleP p s fr = rl.any fun b => over fr (cont S b) := by unfold staleP; rw [if_pos h3, ← hrc, List.any_map]; rfl
    rw [hv]
    refine .retP Try.func19 (.cons (.tmp rfl) .nil) (.cons .head (.cons (.tail (.tail (.tail (.tail .head)))) .nil)) ?_
    exact ⟨[_], ⟨rfl, rfl⟩, rfl⟩
  · refine .skip ?_
    refine .seq ?_
    refine .region ?_   -- R5 model.go:156
    refine .rd (.ld na83 rfl (.tail .head) rfl) ?_
    refine .rd (.makeFunc rfl rfl) ?_
    refine .fn rfl rfl .nil (fun A w h => ⟨(Knows.pick (.tail (.tail (.tail (.tail (.tail (.tail (.tail (.tail (.tail (.tail (.tail (.tail (.tail (.tail (.tail (.tail (.tail (.tail (.tail (.tail (.tail .head))))))))))))))))))))) hrow) A w h, (Knows.blk (.tail (.tail (.tail .head)))) A w h, (Knows.blk (.tail .head)) A w h, (Knows.blk .head) A w h, (Knows.blk (.tail (.tail .head))) A w h, (Knows.pick (.tail (.tail (.tail (.tail (.tail (.tail (.tail (.tail (.tail (.tail (.tail (.tail (.tail (.tail (.tail (.tail (.tail (.tail (.tail (.tail (.tail .head))))))))))))))))))))) hrow) A w h, fun b hb => by obtain ⟨g, hg⟩ := hrk b hb; have := Knows.span (.tail (.tail (.tail (.tail (.tail (.tail (.tail (.tail (.tail (.tail (.tail (.tail (.tail (.tail (.tail (.tail (.tail (.tail (.tail (.tail (.tail (.tail .head)))))))))))))))))))))) hg A w h; unfold cont; rw [hg]; exact this⟩) (ContainsFunc_ok ra rc rl 37 #[ptrV b4, ptrV b7, ptrV b8] (fun b => stays (rl.map (cont S)) s.offset fr (cont S b)) (fun w => CellsAt b4 0 s.cells w ∧ CellsAt b7 0 [.slice ra rl.length rc] w ∧ CellsAt b8 0 [overV b5] w ∧ CellsAt b5 0 [.int .i64 fr] w ∧ RowAt ra (rl.flatMap pcell) w ∧ ∀ b ∈ rl, CellsAt b 0 (cont S b).cells w) (fun b hb => stays_ok b b4 b7 b8 b5 s ra rc rl (cont S) fr hb (by omega)) (by omega)) (fun v G1 hq => ?_)
    obtain ⟨rfl, rfl⟩ := hq
    simp only [List.nil_append]
    refine .rd (.not rfl) ?_
    refine .rd (.assign rfl) ?_
    refine .nil ?_
    refine .close (X := chk c p n) (B := chkL c S b) (.cons (.tail (.tail (.tail (.tail .head)))) (.cons (.tail (.tail (.tail (.tail .head)))) (.cons (.tail (.tail (.tail (.tail .head)))) (.cons (.tail (.tail (.tail (.tail .head)))) (.cons (.tail (.tail (.tail (.tail .head)))) (.cons (.tail (.tail (.tail (.tail .head)))) (.cons (.tail (.tail (.tail (.tail .head)))) (.cons (.tail (.tail (.tail (.tail .head)))) (.cons (.tail (.tail (.tail (.tail .head)))) (.cons (.tail (.tail (.tail (.tail .head)))) (.cons (.tail (.tail (.tail (.tail .head)))) (.cons (.tail (.tail (.tail (.tail .head)))) (.cons (.tail (.tail (.tail (.tail .head)))) (.cons (.tail (.tail (.tail (.tail .head)))) (.cons (.tail (.tail (.tail (.tail .head)))) (.cons (.tail (.tail (.tail (.tail .head)))) (.cons (.tail (.tail (.tail (.tail .head)))) (.cons (.tail (.tail (.tail (.tail .head)))) (.cons (.tail (.tail (.tail (.tail .head)))) .nil))))))))))))))))))) (chk_close (hR)) ?_
    have hv : staleP p s fr = !rl.any fun b => stays (rl.map (cont S)) s.offset fr (cont S b) := by unfold staleP; rw [if_neg h3, ← hrc, List.any_map]; rfl
    rw [hv]
    refine .retP Try.func19 (.cons (.tmp rfl) .nil) (.cons .head (.cons (.tail (.tail (.tail (.tail .head)))) .nil)) ?_
    exact ⟨[_], ⟨rfl, rfl⟩, rfl⟩

end Go.Proofs.Ytahpokcigdjilaa

