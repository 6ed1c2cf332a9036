/- Part 4 of a claim's texts: rules for the machine's steps, and steps through functions of the program, under the conditions that each theorem states. -/
import Derived.Test.YtlcglmimndkleaaProg
import Derived.KernelRfl
import Derived.Test.YtlcglmimndkleaaPart1
import Derived.Test.YtlcglmimndkleaaPart3
set_option linter.unusedVariables false
/- Chapter 18: steps of a script, in plain Lean and in memory. -/
namespace Go.Proofs.Ytlcglmimndkleaa
open Go Go.Sp

abbrev Sl := Option Addr × Nat × Nat
def Sl.v (y : Sl) : Value := .slice y.1 y.2.1 y.2.2
structure MX where
  m0 : Int
  m1 : Int
  m2 : Int
  m3 : Int
  m4 : Int
  m5 : Int
  m6 : Int
  m7 : Int
  m8 : Int
  m9 : Int
  m10 : Int
  m11 : Int
  m12 : Int
  m13 : Int
  m14 : Int
  err : Int
  nm : List UInt8
  tx : List UInt8
  b : Sl
  e : Sl
  i : Sl
def MX.cells (m : MX) : List Value := [.int .i64 m.m0, .int .i64 m.m1, .int .i64 m.m2, .int .i64 m.m3, .int .i64 m.m4, .int .i64 m.m5, .int .i64 m.m6, .int .i64 m.m7, .int .i64 m.m8, .int .i64 m.m9, .int .i64 m.m10, .int .i64 m.m11, .int .i64 m.m12, .int .i64 m.m13, .int .i64 m.m14, .int .i64 m.err, .string (str m.nm), .string (str m.tx), .slice m.b.1 m.b.2.1 m.b.2.2, .slice m.e.1 m.e.2.1 m.e.2.2, .slice m.i.1 m.i.2.1 m.i.2.2]
structure OpX where
  kind : Int
  forth : Int
  part : Int
  l : Sl
  m : MX
  fits : Bool
def OpX.cells (x : OpX) : List Value := [.int .i64 x.kind, .int .i64 x.forth, .int .i64 x.part, .slice x.l.1 x.l.2.1 x.l.2.2] ++ x.m.cells ++ [.bool x.fits]
theorem OpX.cells_len (x : OpX) : x.cells.length = 26 := rfl
theorem OpX.cells_ones (x : OpX) : ones x.cells := .of rfl
structure OpX.good (x : OpX) : Prop where
  kind : i64 x.kind
  forth : i64 x.forth
  off : i64 x.m.m6
/-- The last message: none yet, or one that was said. -/
def lastC : Option OutX → List Value
  | none => (Ans.mk 0 0 0 0 0 0 0).cells
  | some z => z.cells
def lastK : Option OutX → Int
  | none => 0
  | some z => z.kind
def lastTo : Option OutX → Int
  | none => 0
  | some z => z.o.to
def lastId : Option OutX → Int
  | none => 0
  | some z => z.o.id
theorem lastK_at (u : Option OutX) : (lastC u)[0]? = some (.int .i64 (lastK u)) := by cases u <;> rfl
theorem lastTo_at (u : Option OutX) : (lastC u)[2]? = some (.int .i64 (lastTo u)) := by cases u <;> rfl
theorem lastId_at (u : Option OutX) : (lastC u)[3]? = some (.int .i64 (lastId u)) := by cases u <;> rfl
theorem lastK_in (u : Option OutX) : 0 ≤ lastK u ∧ lastK u ≤ 17 := by
  cases u with
  | none => exact ⟨by show (0 : Int) ≤ 0; omega, by show (0 : Int) ≤ 17; omega⟩
  | some z => show 0 ≤ z.kind ∧ z.kind ≤ 17; unfold OutX.kind; split <;> omega
theorem nlx {s t : PS} {o : Option Out} {zs : List OutX} (h : NL s t o) (hz : zs.map (·.o) = o.toList) : zs.length ≤ 1 ∧ (zs = [] → t.number = s.number) ∧ ∀ z ∈ zs, z.o.id = nextN s.number ∧ t.number = nextN s.number := by
  cases o with
  | none =>
    have e : zs = [] := by simpa using hz
    subst e
    exact ⟨by simp, fun _ => h, fun z hz => by cases hz⟩
  | some o =>
    match zs, hz with
    | [z], hz =>
      have e : z.o = o := by simpa using hz
      refine ⟨Nat.le_refl _, fun h => (by cases h), fun y hy => ?_⟩
      rw [List.mem_singleton.1 hy, e]; exact h
theorem endsS_calls (s : PS) (of : Option Nat) (err : Int) : (endsS s of err).calls.length = s.calls.length := endsGo_calls of err s _
theorem tick_calls (s : PS) (now : Int) : (tick s now).1.calls.length = s.calls.length := by
  cases hu : s.under with
  | none => rw [tick_none hu]; exact pump_calls s now
  | some r =>
    rw [(tick_some (now := now) (t := (due s now r).1) (r' := (due s now r).2.1) (o := (due s now r).2.2) hu rfl).1, pump_calls]
    show (due s now r).1.calls.length = _
    unfold due
    split
    · rfl
    · split
      · exact endsS_calls s r.of 21
      · obtain ⟨a, e⟩ := moved_eq s r; rw [e]; rfl
theorem step_calls (s : PS) (now : Int) (m : Ans) : (step s now m).1.calls.length = s.calls.length := by
  unfold step
  split
  · rfl
  · rename_i r hu
    split
    · rfl
    · split
      · unfold led; split <;> rfl
      · split
        · rfl
        · rw [pump_calls]
          unfold ended
          split
          · exact endsS_calls _ _ _
          · split
            · show (List.set _ _ _).length = _; rw [List.length_set]
            · rfl
theorem send_calls (s : PS) (now : Int) (t : List UInt8) : (send s now t).1.calls.length ≤ s.calls.length + 1 := by
  unfold send
  split
  · show s.calls.length ≤ _; omega
  · show (pump (sendS s t) now).1.calls.length ≤ _; rw [pump_calls]; show (s.calls ++ [_]).length ≤ _; simp
end Go.Proofs.Ytlcglmimndkleaa

namespace Go.Proofs.Ytlcglmimndkleaa
open Go Go.Sp

set_option linter.unusedVariables false

namespace prod11
theorem ti3 : TI Try.prog 3 1 8 (.int .i64 0) := .of (by kernel_rfl)
theorem bld32_  (w : World) : (Instr.build 32 (([] : List Nat).zip []).toArray).run Try.prog w = .ok (.agg #[.int .i64 0, .int .i64 0, .int .i64 0, .int .i64 0, .int .i64 0, .int .i64 0, .int .i64 0, .int .i64 0, .int .i64 0, .int .i64 0, .int .i64 0, .int .i64 0, .int .i64 0, .int .i64 0, .int .i64 0, .int .i64 0, .string ⟨#[]⟩, .string ⟨#[]⟩, .slice none 0 0, .slice none 0 0, .slice none 0 0]) w := by kernel_rfl
theorem ti32 : TI Try.prog 32 21 232 (.agg #[.int .i64 0, .int .i64 0, .int .i64 0, .int .i64 0, .int .i64 0, .int .i64 0, .int .i64 0, .int .i64 0, .int .i64 0, .int .i64 0, .int .i64 0, .int .i64 0, .int .i64 0, .int .i64 0, .int .i64 0, .int .i64 0, .string ⟨#[]⟩, .string ⟨#[]⟩, .slice none 0 0, .slice none 0 0, .slice none 0 0]) := .of (by kernel_rfl)
theorem ts32 : TS Try.prog 32 21 := .of (by kernel_rfl)
theorem ts35 : TS Try.prog 35 26 := .of (by kernel_rfl)
theorem ia35 : IsAgg Try.prog 35 := ⟨_, Try.underlying35, trivial⟩
theorem ti35 : TI Try.prog 35 26 288 (.agg #[.int .i64 0, .int .i64 0, .int .i64 0, .slice none 0 0, .int .i64 0, .int .i64 0, .int .i64 0, .int .i64 0, .int .i64 0, .int .i64 0, .int .i64 0, .int .i64 0, .int .i64 0, .int .i64 0, .int .i64 0, .int .i64 0, .int .i64 0, .int .i64 0, .int .i64 0, .int .i64 0, .string ⟨#[]⟩, .string ⟨#[]⟩, .slice none 0 0, .slice none 0 0, .slice none 0 0, .bool false]) := .of (by kernel_rfl)
theorem fd35_0 : FD Try.prog 35 0 0 := .of Try.underlying35 (by kernel_rfl)
theorem na3 : NotAgg Try.prog 3 := ⟨_, Try.underlying3, trivial⟩
theorem ts47 : TS Try.prog 47 12 := .of (by kernel_rfl)
theorem fd47_1 : FD Try.prog 47 1 1 := .of Try.underlying47 (by kernel_rfl)
theorem ia32 : IsAgg Try.prog 32 := ⟨_, Try.underlying32, trivial⟩
theorem fd32_3 : FD Try.prog 32 3 3 := .of Try.underlying32 (by kernel_rfl)
theorem fd32_1 : FD Try.prog 32 1 1 := .of Try.underlying32 (by kernel_rfl)
theorem bld41_1 (x0 : ByteArray) (w : World) : (Instr.build 41 (([1] : List Nat).zip [.string x0]).toArray).run Try.prog w = .ok (.agg #[.string ⟨#[]⟩, .string x0, .int .i64 0]) w := by kernel_rfl
theorem ti41 : TI Try.prog 41 3 40 (.agg #[.string ⟨#[]⟩, .string ⟨#[]⟩, .int .i64 0]) := .of (by kernel_rfl)
theorem fd35_1 : FD Try.prog 35 1 1 := .of Try.underlying35 (by kernel_rfl)
theorem fd32_0 : FD Try.prog 32 0 0 := .of Try.underlying32 (by kernel_rfl)
theorem fd32_2 : FD Try.prog 32 2 2 := .of Try.underlying32 (by kernel_rfl)
theorem fd35_4 : FD Try.prog 35 4 4 := .of Try.underlying35 (by kernel_rfl)
theorem fd32_15 : FD Try.prog 32 15 15 := .of Try.underlying32 (by kernel_rfl)
theorem na25 : NotAgg Try.prog 25 := ⟨_, Try.underlying25, trivial⟩
theorem fd32_6 : FD Try.prog 32 6 6 := .of Try.underlying32 (by kernel_rfl)
theorem fd32_7 : FD Try.prog 32 7 7 := .of Try.underlying32 (by kernel_rfl)
theorem bld32_0_1_2_3_15_6_7 (x0 : Int) (x1 : Int) (x2 : Int) (x3 : Int) (x4 : Int) (x5 : Int) (x6 : Int) (w : World) : (Instr.build 32 (([0, 1, 2, 3, 15, 6, 7] : List Nat).zip [.int .i64 x0, .int .i64 x1, .int .i64 x2, .int .i64 x3, .int .i64 x4, .int .i64 x5, .int .i64 x6]).toArray).run Try.prog w = .ok (.agg #[.int .i64 x0, .int .i64 x1, .int .i64 x2, .int .i64 x3, .int .i64 0, .int .i64 0, .int .i64 x5, .int .i64 x6, .int .i64 0, .int .i64 0, .int .i64 0, .int .i64 0, .int .i64 0, .int .i64 0, .int .i64 0, .int .i64 x4, .string ⟨#[]⟩, .string ⟨#[]⟩, .slice none 0 0, .slice none 0 0, .slice none 0 0]) w := by kernel_rfl
end prod11
open prod11

theorem lastC_len (u : Option OutX) : (lastC u).length = 21 := by cases u <;> rfl

set_option maxHeartbeats 4000000 in
set_option maxRecDepth 20000 in
theorem ProducerOrder_ok (a : Option Addr) (c : Nat) (l : List OpX) (hl : l.length ≤ 140737488351232) (hgood : ∀ x ∈ l, x.good) : Cn Try.prog 3 [.slice a l.length c] (RowAt a (l.flatMap OpX.cells)) [] fun v G => v = .bool true ∧ G = [] := by
  refine .enter Try.func3 rfl (by kernel_rfl) rfl fun R k => ?_
  have k' := k
  refine .seq ?_
  refine .region ?_
  refine .rd (.assign rfl) ?_
  refine .nil ?_
  refine .seq ?_
  refine .region ?_
  refine .fn rfl rfl .nil (fun _ _ _ => trivial) (shown_ok) (fun v G1 hq => ?_)
  obtain ⟨rfl, rfl⟩ := hq
  simp only [List.nil_append]
  refine .rd (.assign rfl) ?_
  refine .nil ?_
  refine .seq ?_
  refine .region ?_
  refine .ef (.buildSlice (vs := [.int .i64 1, .int .i64 2, .int .i64 3]) (cs := [.int .i64 1, .int .i64 2, .int .i64 3]) Try.underlying28 ti3 rfl (by decide) (by first | rfl | kernel_rfl) (ones.of rfl)) ?_
  rintro _ _ ⟨bl, rfl, rfl⟩
  refine .fn rfl rfl .nil (((Knows.blk .head).mono fun _ h => rowBlk h)) (New_ok (some ⟨bl, 0, none⟩) _ [1, 2, 3] 10 3 rise3 (by decide) (by decide)) (fun v G1 hq => ?_)
  obtain ⟨pb, x, ⟨hx1, hx2, hx3⟩, rfl, rfl⟩ := hq
  simp only [List.cons_append, List.nil_append]
  refine .rd (.move rfl) ?_
  refine .rd (.extract rfl rfl) ?_
  refine .rd (.extract rfl rfl) ?_
  refine .rd (.assign rfl) ?_
  refine .rd (.assign rfl) ?_
  refine .nil ?_
  refine .cast (X' := blk pb (PS.cells (newS 10 3 [1, 2, 3]) x none 0 0) 60) (rfl) ?_
  refine .perm (.cons (.tail .head) (.cons .head (.cons .head (.cons .head (.cons .head (.cons .head .nil)))))) ?_
  refine .cast (X' := IM x.nb (PS.next (newS 10 3 [1, 2, 3]))) (rfl) ?_
  refine .perm (.cons (.tail (.tail .head)) (.cons .head (.cons .head (.cons .head (.cons .head (.cons .head .nil)))))) ?_
  refine .cast (X' := IM x.ab (PS.aims (newS 10 3 [1, 2, 3]))) (rfl) ?_
  refine .nilArr 62 1 x.ca ?_
  refine .cast (X' := RowC x []) (by unfold RowC; rw [hx1]; rfl) ?_
  refine .nilArr 69 1 x.ua ?_
  refine .cast (X' := UL (newS 10 3 [1, 2, 3]) x 0) (by unfold UL; rw [hx2]; rfl) ?_
  refine .nilArr 47 12 x.ea ?_
  refine .cast (X' := EL (newS 10 3 [1, 2, 3]) x) (by unfold EL; rw [hx3]; rfl) ?_
  refine .close (X := bag CB []) (B := []) .nil (fun _ _ => trivial) ?_
  refine .close (X := reqR [] (PS.under (newS 10 3 [1, 2, 3])) 0) (B := []) .nil (fun _ _ => trivial) ?_
  refine .knowMono (KN (newS 10 3 [1, 2, 3]) x []) (.tail (.tail (.tail (.tail (.tail (.tail (.tail (.tail .head)))))))) (fun w h => ⟨h, fun y hy => by cases hy⟩) ?_
  refine .close (X := PR pb (newS 10 3 [1, 2, 3])) (.cons (.tail (.tail (.tail (.tail (.tail (.tail (.tail (.tail .head)))))))) (.cons (.tail .head) (.cons (.tail .head) (.cons (.tail (.tail (.tail (.tail .head)))) (.cons (.tail (.tail (.tail (.tail .head)))) (.cons (.tail (.tail (.tail .head))) (.cons (.tail (.tail .head)) (.cons (.tail .head) (.cons .head .nil))))))))) (fun _ H => ⟨(x, 0, []), ⟨rfl, by simp⟩, H⟩) ?_
  refine .seq ?_
  refine .seq ?_
  refine .region ?_
  refine .rd (.move rfl) ?_
  refine .rd (.not rfl) ?_
  refine .rd (.move rfl) ?_
  refine .on (t := 24) rfl rfl ?_
  refine .rd (.move rfl) ?_
  refine .on (t := 24) rfl rfl ?_
  refine .rd (.eqNilP Try.underlying24 rfl rfl) ?_
  refine .rd (.pickF rfl rfl) ?_
  refine .rd (.move rfl) ?_
  refine .on (t := 28) rfl rfl ?_
  refine .rd (.move rfl) ?_
  refine .on (t := 28) rfl rfl ?_
  refine .rd (.neI rfl rfl) ?_
  refine .alter (t := 30) (v' := .bool false) rfl (congrArg Value.bool (by first | rfl | decide)) ?_
  refine .rd (.pickF rfl rfl) ?_
  refine .nil ?_
  refine .condF rfl ?_
  refine .skip ?_
  refine .seq ?_
  refine .region ?_
  refine .rd (.build rfl (bld32_)) ?_
  refine .ef (.alloc ti32 rfl (ones.of rfl)) ?_
  rintro _ _ ⟨b6, rfl, rfl⟩
  refine .ef0 (.storeAll (vs := Ans.cells ⟨0, 0, 0, 0, 0, 0, 0⟩) ts32 rfl rfl rfl .head rfl (Ans.cells_ones _)) ?_
  rintro _ _ rfl
  refine .nil ?_
  refine .cast (X' := blk b6 (lastC (none : Option OutX)) 32) (rfl) ?_
  refine .seq ?_
  refine .region ?_
  refine .rd (.assign rfl) ?_
  refine .nil ?_
  refine .seq ?_
  refine .region ?_
  refine .rd (.assign rfl) ?_
  refine .nil ?_
  refine .seq ?_
  refine .region ?_
  refine .rd (.assign rfl) ?_
  refine .nil ?_
  refine .seq ?_
  refine .seq ?_
  refine .region ?_
  refine .rd (.assign rfl) ?_
  refine .nil ?_
  refine .block ?_
  refine .loop (σ := Nat × Nat × PS × Option OutX × Int × Int) (fun ⟨i, k, s, u, lid, now⟩ => i ≤ l.length ∧ i ≤ 150 ∧ PI s k k ∧ s.number ≤ i ∧ lid ≤ s.number ∧ (0 ≤ now ∧ now ≤ 20 * i) ∧ s.calls.length ≤ i) (fun ⟨i, k, s, u, lid, now⟩ => l.length - i) (fun ⟨i, k, s, u, lid, now⟩ => [(0, .slice a l.length c), (4, .pointer (some ⟨pb, 0, none⟩)), (6, .pointer (some ⟨b6, 0, none⟩)), (7, .int .i64 lid), (8, .int .i64 (k : Nat)), (9, .int .i64 now), (10, .int .i64 (i : Nat))]) (fun ⟨i, k, s, u, lid, now⟩ => [PR pb s, blk b6 (lastC u) 32, R]) (0, 0, newS 10 3 [1, 2, 3], none, 0, 0) ⟨Nat.zero_le _, Nat.zero_le _, PI.new (by decide) (by decide) (by decide) (by decide), by show (0 : Int) ≤ 0; omega, by show (0 : Int) ≤ 0; omega, ⟨by show (0 : Int) ≤ 0; omega, by show (0 : Int) ≤ 0; omega⟩, Nat.zero_le _⟩ (.cons rfl (.cons rfl (.cons rfl (.cons rfl (.cons rfl (.cons rfl (.cons rfl .nil))))))) (.cons (.tail .head) (.cons .head (.cons (.tail .head) .nil))) (fun s' hI ih => ?_)
  obtain ⟨i, k, s, u, lid, now⟩ := s'
  dsimp only at hI ih ⊢
  obtain ⟨hil, hi150, hPI, hnum, hlid, ⟨hnow0, hnow1⟩, hcn⟩ := hI
  have hn0 := hPI.number.1
  have ih0 := ih
  refine .seq ?_
  refine .seq ?_
  refine .region ?_
  refine RunO.join 8 40 (decide (i < l.length ∧ i < 150)) ?_ ?_
  · refine .rd (.move rfl) ?_
    refine .rd (.move rfl) ?_
    refine .rd (.lenL rfl rfl Try.underlying22 rfl) ?_
    refine .rd (.lt rfl rfl) ?_
    refine .rd (.move rfl) ?_
    refine .split (t := 37) rfl (fun g10 => ?_) (fun g10 => ?_)
    · replace g10 := of_decide_eq_true g10
      refine .on (t := 37) rfl rfl ?_
      refine .rd (.move rfl) ?_
      refine .on (t := 37) rfl rfl ?_
      refine .rd (.lt rfl rfl) ?_
      refine .rd (.pickT rfl rfl) ?_
      refine .nil ⟨rfl, ?_, by repeat (first | exact Le.refl _ | refine Le.skip rfl ?_)⟩
      exact congrArg (fun x => some (Value.bool x)) (decide_eq_decide.2 (by omega))
    · replace g10 := of_decide_eq_false g10
      refine .off (t := 37) rfl rfl rfl ?_
      refine .off (t := 37) rfl rfl rfl ?_
      refine .rd (.pickF rfl rfl) ?_
      refine .nil ⟨rfl, ?_, by repeat (first | exact Le.refl _ | refine Le.skip rfl ?_)⟩
      exact congrArg (fun x => some (Value.bool x)) ((decide_eq_false (by omega)).symm)
  refine .nil ?_
  refine .condP rfl (fun h10 => ?_) (fun h10 => ?_)
  · refine .skip ?_
    refine .seq ?_
    refine .block ?_
    refine .seq ?_
    obtain ⟨hcl, hc150⟩ := h10
    obtain ⟨x, hx⟩ : ∃ x, l[i]? = some x := ⟨_, List.getElem?_eq_getElem hcl⟩
    have hxg := hgood x (List.mem_of_getElem? hx)
    refine .tell (φ := ∃ b o, a = some ⟨b, o, none⟩) (Knows.pick (.tail (.tail .head)) (k'.mono fun _ h => RowAt.addr h (by rw [flat_length OpX.cells_len]; omega))) (fun hh => ?_)
    obtain ⟨b9, o9, hab⟩ := hh
    refine .region ?_
    refine .rd (.move rfl) ?_
    refine .rd (.move rfl) ?_
    refine .rd (.indexAddr (b := b9) (o := o9) Try.underlying22 ts35 (by show some (Value.slice a _ _) = _; rw [hab]) rfl (by omega) (by omega)) ?_
    refine .rd (.loadN ia35 ts35 rfl rfl (Knows.elem (f := OpX.cells) OpX.cells_len (by decide) (Knows.pick (.tail (.tail .head)) (k'.mono fun _ h => hab ▸ h)) hx)) ?_
    refine .ef (.alloc ti35 rfl (ones.of rfl)) ?_
    rintro _ _ ⟨b11, rfl, rfl⟩
    refine .ef0 (.storeAll (vs := x.cells) ts35 rfl rfl rfl .head rfl x.cells_ones) ?_
    rintro _ _ rfl
    refine .cast (X' := blk b11 x.cells 35) (rfl) ?_
    refine .nil ?_
    refine .seq ?_
    refine .region ?_
    refine .rd (.assign rfl) ?_
    refine .nil ?_
    refine .seq ?_
    refine .seq ?_
    refine .region ?_
    refine .rd (.fieldAddr fd35_0 rfl) ?_
    refine .rd (.ld na3 rfl .head rfl) ?_
    refine .fn rfl rfl .nil (fun _ _ _ => trivial) (pick_ok x.kind 5 hxg.kind (by decide)) (fun v G1 hq => ?_)
    obtain ⟨rfl, rfl⟩ := hq
    simp only [List.nil_append]
    refine .nil ?_
    have hpk := pickN_nn (c := x.kind) (n := 5) (by decide)
    refine .joinEx (σ := Nat × PS × Int × List OutX × Option Addr × Nat) (φ := fun ⟨k2, s2, now2, zs, oa, oc⟩ => PI s2 k k2 ∧ (zs.length ≤ 1 ∧ (zs = [] → s2.number = s.number) ∧ ∀ z ∈ zs, z.o.id = nextN s.number ∧ s2.number = nextN s.number) ∧ (now ≤ now2 ∧ now2 ≤ now + 20) ∧ s2.calls.length ≤ s.calls.length + 1) (E' := fun ⟨k2, s2, now2, zs, oa, oc⟩ => [(0, .slice a l.length c), (4, .pointer (some ⟨pb, 0, none⟩)), (6, .pointer (some ⟨b6, 0, none⟩)), (7, .int .i64 lid), (8, .int .i64 (k : Nat)), (9, .int .i64 now2), (10, .int .i64 (i : Nat)), (12, .slice oa zs.length oc)]) (Γ' := fun ⟨k2, s2, now2, zs, oa, oc⟩ => [PR pb s2, Said oa oc zs, know (SaidK zs), blk b6 (lastC u) 32, R]) (fun sj hj => ?_) (fun fin => ?_)
    · obtain ⟨k2, s2, now2, zs, oa, oc⟩ := sj
      dsimp only at hj ⊢
      obtain ⟨hPI2, ⟨hz1, hz2, hz3⟩, ⟨hw1, hw2⟩, hc2⟩ := hj
      have hnx : nextN s.number = s.number + 1 := by unfold nextN; rw [if_neg (by omega)]
      refine .seq ?_
      refine .seq ?_
      refine .region ?_
      refine .rd (.move rfl) ?_
      refine .rd (.lenL rfl rfl Try.underlying36 rfl) ?_
      refine .rd (.gt rfl rfl) ?_
      refine .alter (t := 97) (v' := .bool false) rfl (congrArg Value.bool (decide_eq_false (by omega))) ?_
      refine .nil ?_
      refine .condF rfl ?_
      refine .skip ?_
      refine .seq ?_
      refine .seq ?_
      refine .region ?_
      refine .rd (.move rfl) ?_
      refine .rd (.lenL rfl rfl Try.underlying36 rfl) ?_
      refine .rd (.eqI rfl rfl) ?_
      refine .nil ?_
      refine .joinEx (σ := Option OutX × Int) (φ := fun ⟨u2, lid2⟩ => lid2 ≤ s2.number) (E' := fun ⟨u2, lid2⟩ => [(0, .slice a l.length c), (4, .pointer (some ⟨pb, 0, none⟩)), (6, .pointer (some ⟨b6, 0, none⟩)), (7, .int .i64 lid2), (8, .int .i64 (k : Nat)), (9, .int .i64 now2), (10, .int .i64 (i : Nat))]) (Γ' := fun ⟨u2, lid2⟩ => [PR pb s2, blk b6 (lastC u2) 32, R]) (fun sj hj => ?_) (fun fin => ?_)
      · obtain ⟨u2, lid2⟩ := sj
        have hlid2 : lid2 ≤ s2.number := hj
        dsimp only
        have hnum2 : s2.number ≤ s.number + 1 := by match zs, hz1, hz2, hz3 with | [], _, h, _ => have := h rfl; omega | z :: _, _, _, h => have := (h z (.head _)).2; omega
        refine .seq ?_
        refine .region ?_
        refine .rd (.move rfl) ?_
        refine .fn rfl rfl (.cons .head .nil) (fun _ _ _ => trivial) (done_ok pb s2) (fun v G1 hq => ?_)
        obtain ⟨ea, ec, rfl, rfl⟩ := hq
        simp only [List.cons_append, List.nil_append]
        refine .rd (.assign rfl) ?_
        refine .nil ?_
        refine .seq ?_
        refine .region ?_
        refine .rd (.assign rfl) ?_
        refine .nil ?_
        refine .block ?_
        refine .loop (σ := Nat) (fun j => j ≤ s2.ended.length) (fun j => s2.ended.length - j) (fun j => [(0, .slice a l.length c), (4, .pointer (some ⟨pb, 0, none⟩)), (6, .pointer (some ⟨b6, 0, none⟩)), (7, .int .i64 lid2), (9, .int .i64 now2), (10, .int .i64 (i : Nat)), (14, .slice ea s2.ended.length ec), (8, .int .i64 ((k : Int) + (j : Nat))), (15, .int .i64 (j : Nat))]) (fun j => [PR pb (doneS s2), arr 47 12 ea ec (s2.ended.flatMap Seen.cells), blk b6 (lastC u2) 32, R]) 0 (Nat.zero_le _) (.cons rfl (.cons rfl (.cons rfl (.cons rfl (.cons rfl (.cons rfl (.cons rfl (.cons (by show lk _ 8 = _; first | rfl | simp) (.cons rfl .nil))))))))) (.cons .head (.cons .head (.cons .head (.cons .head .nil)))) (fun j hI ih => ?_)
        have hel : s2.ended.length ≤ 1000 := by have := hPI2.bk; have := hPI2.kl; have := hPI2.many; omega
        refine .seq ?_
        refine .seq ?_
        refine .region ?_
        refine .rd (.move rfl) ?_
        refine .rd (.move rfl) ?_
        refine .rd (.lenL rfl rfl Try.underlying44 rfl) ?_
        refine .rd (.lt rfl rfl) ?_
        refine .nil ?_
        refine .condP rfl (fun h32 => ?_) (fun h32 => ?_)
        · refine .skip ?_
          refine .seq ?_
          refine .block ?_
          refine .seq ?_
          refine .seq ?_
          obtain ⟨e, he⟩ : ∃ e, s2.ended[j]? = some e := ⟨_, List.getElem?_eq_getElem (by omega)⟩
          have hec := hPI2.end_ j e he
          refine .tell (φ := ∃ b o, ea = some ⟨b, o, none⟩) ((Knows.arr (.tail .head)).mono fun _ h => RowAt.addr h (by rw [flat_length Seen.cells_len]; omega)) (fun hh => ?_)
          obtain ⟨b7, o7, hea⟩ := hh
          refine .region ?_
          refine .rd (.move rfl) ?_
          refine .rd (.move rfl) ?_
          refine .rd (.indexAddr (b := b7) (o := o7) Try.underlying44 ts47 (by show some (Value.slice ea _ _) = _; rw [hea]) rfl (by omega) (by omega)) ?_
          refine .rd (.fieldAddr fd47_1 rfl) ?_
          refine .rd (.load na3 rfl (Knows.one (i := 1) (Knows.elem (f := Seen.cells) Seen.cells_len (by decide) ((Knows.arr (.tail .head)).mono fun _ h => hea ▸ h) he) rfl)) ?_
          refine .rd (.move rfl) ?_
          refine .rd (.le rfl rfl) ?_
          refine .alter (t := 129) (v' := .bool false) rfl (congrArg Value.bool (decide_eq_false (by rw [hec]; omega))) ?_
          refine .nil ?_
          refine .condF rfl ?_
          refine .skip ?_
          refine .region ?_
          refine .rd (.move rfl) ?_
          refine .rd (.move rfl) ?_
          refine .rd (.indexAddr (b := b7) (o := o7) Try.underlying44 ts47 (by show some (Value.slice ea _ _) = _; rw [hea]) rfl (by omega) (by omega)) ?_
          refine .rd (.fieldAddr fd47_1 rfl) ?_
          refine .rd (.load na3 rfl (Knows.one (i := 1) (Knows.elem (f := Seen.cells) Seen.cells_len (by decide) ((Knows.arr (.tail .head)).mono fun _ h => hea ▸ h) he) rfl)) ?_
          refine .rd (.assign rfl) ?_
          refine .nil ?_
          refine .alter (t := 8) (v' := .int .i64 ((k : Int) + ((j + 1 : Nat) : Int))) rfl (congrArg (Value.int .i64) (by omega)) ?_
          refine .inBlock ?_
          refine .region ?_
          refine .rd (.move rfl) ?_
          refine .rd (.add rfl rfl (by omega) (by omega)) ?_
          refine .rd (.assign rfl) ?_
          refine .nil ?_
          exact (ih (j + 1) (by omega) (by omega)).to (.cons rfl (.cons rfl (.cons rfl (.cons rfl (.cons rfl (.cons rfl (.cons rfl (.cons rfl (.cons rfl .nil))))))))) (.cons .head (.cons .head (.cons .head (.cons .head .nil))))
        · obtain rfl : j = s2.ended.length := by omega
          have hk2 := hPI2.bk
          refine .alter (t := 8) (v' := .int .i64 (k2 : Nat)) rfl (congrArg (Value.int .i64) (by omega)) ?_
          refine .exit rfl ?_
          refine .inBlock ?_
          refine .region ?_
          refine .rd (.move rfl) ?_
          refine .rd (.add rfl rfl (by omega) (by omega)) ?_
          refine .rd (.assign rfl) ?_
          refine .nil ?_
          exact (ih0 (i + 1, k2, doneS s2, u2, lid2, now2) ⟨by show i + 1 ≤ _; omega, by show i + 1 ≤ _; omega, hPI2.done, by show s2.number ≤ ((i + 1 : Nat) : Int); omega, hlid2, ⟨by show 0 ≤ now2; omega, by show now2 ≤ 20 * ((i + 1 : Nat) : Int); omega⟩, by show s2.calls.length ≤ i + 1; omega⟩ (by show l.length - (i + 1) < l.length - i; omega)).to (.cons rfl (.cons rfl (.cons rfl (.cons rfl (.cons rfl (.cons rfl (.cons rfl .nil))))))) (.cons .head (.cons (.tail .head) (.cons (.tail .head) .nil)))
      · refine .condP rfl (fun h25 => ?_) (fun h25 => ?_)
        · obtain ⟨z, rfl⟩ : ∃ z, zs = [z] := by match zs, hz1, h25 with | [z], _, _ => exact ⟨z, rfl⟩ | [], _, h => simp at h | _ :: _ :: _, h, _ => simp at h
          obtain ⟨hz4, hz5⟩ := hz3 z (.head _)
          refine .tell (φ := ∃ b o, oa = some ⟨b, o, none⟩) ((Knows.arr (cs := [z].flatMap OutX.cells) (.tail .head)).mono fun _ h => RowAt.addr h (by rw [flat_length OutX.cells_len]; show 0 < 1 * 21; decide)) (fun hh => ?_)
          obtain ⟨b8, o8, hob⟩ := hh
          refine .seq ?_
          refine .region ?_
          refine .rd (.move rfl) ?_
          refine .rd (.indexAddr (b := b8) (o := o8) Try.underlying36 ts32 (by show some (Value.slice oa _ _) = _; rw [hob]) rfl (by decide) (by show (0 : Int) < ((1 : Nat) : Int); decide)) ?_
          refine .rd (.loadN ia32 ts32 rfl rfl (Knows.elem (f := OutX.cells) OutX.cells_len (by decide) ((Knows.arr (cs := [z].flatMap OutX.cells) (.tail .head)).mono fun _ h => hob ▸ h) (i := 0) rfl)) ?_
          refine .ef0 (.storeAll (vs := OutX.cells z) ts32 rfl rfl rfl (.tail (.tail (.tail .head))) (by rw [z.cells_len, lastC_len u]) z.cells_ones) ?_
          rintro _ _ rfl
          refine .nil ?_
          refine .cast (X' := blk b6 (lastC (some z)) 32) (rfl) ?_
          refine .seq ?_
          refine .seq ?_
          refine .region ?_
          refine .rd (.fieldAddr fd32_3 rfl) ?_
          refine .rd (.ld na3 rfl .head rfl) ?_
          refine .rd (.move rfl) ?_
          refine .rd (.le rfl rfl) ?_
          refine .alter (t := 107) (v' := .bool false) rfl (congrArg Value.bool (decide_eq_false (by omega))) ?_
          refine .rd (.move rfl) ?_
          refine .on (t := 108) rfl rfl ?_
          refine .rd (.fieldAddr fd32_1 rfl) ?_
          refine .on (t := 108) rfl rfl ?_
          refine .rd (.ld na3 rfl .head rfl) ?_
          refine .on (t := 108) rfl rfl ?_
          refine .rd (.neI rfl rfl) ?_
          refine .alter (t := 111) (v' := .bool false) rfl (congrArg Value.bool (by first | rfl | decide)) ?_
          refine .rd (.pickF rfl rfl) ?_
          refine .nil ?_
          refine .condF rfl ?_
          refine .skip ?_
          refine .region ?_
          refine .rd (.fieldAddr fd32_3 rfl) ?_
          refine .rd (.ld na3 rfl .head rfl) ?_
          refine .rd (.assign rfl) ?_
          refine .nil ?_
          exact fin (some z, z.o.id) (by show z.o.id ≤ s2.number; omega) (.cons rfl (.cons rfl (.cons rfl (.cons rfl (.cons rfl (.cons rfl (.cons rfl .nil))))))) (.cons (.tail .head) (.cons .head (.cons (.tail (.tail .head)) .nil)))
        · obtain rfl : zs = [] := by match zs, hz1, h25 with | [], _, _ => rfl | [z], _, h => exact absurd rfl h | _ :: _ :: _, h, _ => simp at h
          have hz4 := hz2 rfl
          refine .skip ?_
          exact fin (u, lid) (by show lid ≤ s2.number; omega) (.cons rfl (.cons rfl (.cons rfl (.cons rfl (.cons rfl (.cons rfl (.cons rfl .nil))))))) (.cons .head (.cons (.tail (.tail .head)) (.cons (.tail (.tail .head)) .nil)))
    · refine .block ?_
      refine .seq ?_
      refine .seq ?_
      refine .region ?_
      refine .rd (.eqI rfl rfl) ?_
      refine .rd (.assign rfl) ?_
      refine .nil ?_
      refine .joinAt (E' := [(0, .slice a l.length c), (4, .pointer (some ⟨pb, 0, none⟩)), (6, .pointer (some ⟨b6, 0, none⟩)), (7, .int .i64 lid), (8, .int .i64 (k : Nat)), (9, .int .i64 now), (10, .int .i64 (i : Nat)), (11, .pointer (some ⟨b11, 0, none⟩)), (12, .slice none 0 0), (49, .int .i64 (pickN x.kind 5)), (73, .bool (decide (pickN x.kind 5 = 0 ∨ pickN x.kind 5 = 1)))]) (Γ' := [PR pb s, blk b6 (lastC u) 32, blk b11 x.cells 35, R]) ?_ (fun fin => ?_)
      · refine .condP rfl (fun h100 => ?_) (fun h100 => ?_)
        · refine .region ?_
          refine .rd (.move rfl) ?_
          refine .rd (.move rfl) ?_
          refine .rd (.build rfl (bld41_1 _)) ?_
          refine .ef (.buildOne (cs := recC [118]) Try.underlying33 ti41 (by decide) rfl rfl rfl (ones.of rfl)) ?_
          rintro _ _ ⟨br, rfl, rfl⟩
          refine .fn rfl rfl (.cons (.tail .head) .nil) (((Knows.blk .head).mono fun _ h => rowBlk h)) (send_ok pb now s [118] (some ⟨br, 0, none⟩) 1 hPI.pb (fun h => (hPI.sendS h (by omega) [118]).pb) (by omega) (by decide) (right_bat (by decide))) (fun v G1 hq => ?_)
          obtain ⟨oa, oc, zs, rfl, hz, rfl⟩ := hq
          simp only [List.cons_append, List.nil_append]
          refine .rd (.move rfl) ?_
          refine .rd (.extract rfl rfl) ?_
          refine .rd (.extract rfl rfl) ?_
          refine .rd (.extract rfl rfl) ?_
          refine .rd (.assign rfl) ?_
          refine .nil ?_
          refine .inBlock ?_
          exact fin (k, (send s now [118]).1, now, zs, oa, oc) ⟨hPI.send (by omega) now [118], nlx (NL.send s now [118]) hz, ⟨by omega, by omega⟩, send_calls s now [118]⟩ (.cons rfl (.cons rfl (.cons rfl (.cons rfl (.cons rfl (.cons rfl (.cons rfl (.cons rfl .nil)))))))) (.cons .head (.cons .head (.cons .head (.cons (.tail .head) (.cons (.tail (.tail .head)) .nil)))))
        · refine .seq ?_
          refine .region ?_
          refine .rd (.eqI rfl rfl) ?_
          refine .rd (.assign rfl) ?_
          refine .nil ?_
          refine .condP rfl (fun h20 => ?_) (fun h20 => ?_)
          · refine .seq ?_
            have hq1 := pickN_nn (c := x.forth) (n := 20) (by decide)
            have hq2 := pickN_lt (c := x.forth) (n := 20) (by decide)
            refine .region ?_
            refine .rd (.move rfl) ?_
            refine .rd (.fieldAddr fd35_1 rfl) ?_
            refine .rd (.ld na3 rfl (.tail (.tail .head)) rfl) ?_
            refine .fn rfl rfl .nil (fun _ _ _ => trivial) (pick_ok x.forth 20 hxg.forth (by decide)) (fun v G1 hq => ?_)
            obtain ⟨rfl, rfl⟩ := hq
            simp only [List.nil_append]
            refine .rd (.add rfl rfl (by omega) (by omega)) ?_
            refine .rd (.assign rfl) ?_
            refine .nil ?_
            obtain ⟨kt, hkt⟩ := hPI.tick (now + pickN x.forth 20)
            refine .region ?_
            refine .rd (.move rfl) ?_
            refine .rd (.move rfl) ?_
            refine .fn rfl rfl (.cons .head .nil) (fun _ _ _ => trivial) (tick_ok pb (now + pickN x.forth 20) s hPI.pb (hPI.mid (now + pickN x.forth 20)).choose_spec.pb (by omega)) (fun v G1 hq => ?_)
            obtain ⟨oa, oc, zs, rfl, hz, rfl⟩ := hq
            simp only [List.cons_append, List.nil_append]
            refine .rd (.assign rfl) ?_
            refine .nil ?_
            refine .inBlock ?_
            exact fin (kt, (tick s (now + pickN x.forth 20)).1, (now + pickN x.forth 20), zs, oa, oc) ⟨hkt, nlx (NL.tick s (now + pickN x.forth 20)) hz, ⟨by omega, by omega⟩, by rw [tick_calls]; omega⟩ (.cons rfl (.cons rfl (.cons rfl (.cons rfl (.cons rfl (.cons rfl (.cons rfl (.cons rfl .nil)))))))) (.cons .head (.cons .head (.cons .head (.cons .head (.cons (.tail .head) .nil)))))
          · refine .seq ?_
            have hq1 := pickN_nn (c := x.m.m6) (n := 50) (by decide)
            have hq2 := pickN_lt (c := x.m.m6) (n := 50) (by decide)
            obtain ⟨hk1, hk2⟩ := lastK_in u
            obtain ⟨kt, hkt⟩ := hPI.step now (Ans.mk (lastK u + 1) (lastTo u) 101 (lastId u) x.m.err (1 + pickN x.m.m6 50) x.m.m7)
            refine .draws [1, 4, 6, 9, 12, 17] [blk b6 (lastC u) 32, blk b11 x.cells 35] (by kernel_rfl) ?_
            refine .rp 0 rfl (by kernel_rfl) (by kernel_rfl) (by kernel_rfl) (Reads.pure (.fieldAddr fd32_0 rfl)) ?_
            refine .rd 1 rfl rfl (by kernel_rfl) (by kernel_rfl) (by kernel_rfl) (.ld na3 rfl .head (lastK_at u)) (.cons (.tail .head) (.cons (.tail .head) .nil)) ?_
            refine .rp 2 rfl (by kernel_rfl) (by kernel_rfl) (by kernel_rfl) (Reads.pure (.add rfl rfl (by omega) (by omega))) ?_
            refine .rp 3 rfl (by kernel_rfl) (by kernel_rfl) (by kernel_rfl) (Reads.pure (.fieldAddr fd32_2 rfl)) ?_
            refine .rd 4 rfl rfl (by kernel_rfl) (by kernel_rfl) (by kernel_rfl) (.ld na3 rfl .head (lastTo_at u)) (.cons (.tail .head) (.cons (.tail .head) .nil)) ?_
            refine .rp 5 rfl (by kernel_rfl) (by kernel_rfl) (by kernel_rfl) (Reads.pure (.fieldAddr fd32_3 rfl)) ?_
            refine .rd 6 rfl rfl (by kernel_rfl) (by kernel_rfl) (by kernel_rfl) (.ld na3 rfl .head (lastId_at u)) (.cons (.tail .head) (.cons (.tail .head) .nil)) ?_
            refine .rp 7 rfl (by kernel_rfl) (by kernel_rfl) (by kernel_rfl) (Reads.pure (.fieldAddr fd35_4 rfl)) ?_
            refine .rp 8 rfl (by kernel_rfl) (by kernel_rfl) (by kernel_rfl) (Reads.pure (.fieldAddr fd32_15 rfl)) ?_
            refine .rd 9 rfl rfl (by kernel_rfl) (by kernel_rfl) (by kernel_rfl) (.ld na25 rfl (.tail .head) rfl) (.cons (.tail .head) (.cons (.tail .head) .nil)) ?_
            refine .rp 10 rfl (by kernel_rfl) (by kernel_rfl) (by kernel_rfl) (Reads.pure (.fieldAddr fd35_4 rfl)) ?_
            refine .rp 11 rfl (by kernel_rfl) (by kernel_rfl) (by kernel_rfl) (Reads.pure (.fieldAddr fd32_6 rfl)) ?_
            refine .rd 12 rfl rfl (by kernel_rfl) (by kernel_rfl) (by kernel_rfl) (.ld na3 rfl (.tail .head) rfl) (.cons (.tail .head) (.cons (.tail .head) .nil)) ?_
            refine .rp 15 rfl (by kernel_rfl) (by kernel_rfl) (by kernel_rfl) (Reads.pure (.fieldAddr fd35_4 rfl)) ?_
            refine .rp 16 rfl (by kernel_rfl) (by kernel_rfl) (by kernel_rfl) (Reads.pure (.fieldAddr fd32_7 rfl)) ?_
            refine .rd 17 rfl rfl (by kernel_rfl) (by kernel_rfl) (by kernel_rfl) (.ld na3 rfl (.tail .head) rfl) (.cons (.tail .head) (.cons (.tail .head) .nil)) ?_
            refine .all (rs := [13, 19]) (by kernel_rfl) (by simp) (fun i hi => ?_)
            simp only [List.mem_cons, List.not_mem_nil, or_false] at hi
            rcases hi with rfl | rfl
            · refine .ef rfl (.fn rfl rfl .nil (fun _ _ _ => trivial) (pick_ok x.m.m6 50 hxg.off (by decide))) ?_
              rintro v _ ⟨G1, hq, rfl⟩
              obtain ⟨rfl, rfl⟩ := hq
              simp only [List.nil_append]
              refine ⟨.inr ⟨_, (.cons (.tail .head) (.cons (.tail .head) .nil))⟩, ?_⟩
              refine .rp 14 rfl (by kernel_rfl) (by kernel_rfl) (by kernel_rfl) (Reads.pure (.add rfl rfl (by omega) (by omega))) ?_
              refine .rp 18 rfl (by kernel_rfl) (by kernel_rfl) (by kernel_rfl) (Reads.pure (.build rfl (bld32_0_1_2_3_15_6_7 _ _ _ _ _ _ _))) ?_
              refine .ef 19 (by kernel_rfl) rfl (.alloc ti32 rfl (ones.of rfl)) ?_
              rintro _ _ ⟨b13, rfl, rfl⟩
              refine ⟨.inr ⟨_, (.cons (.tail (.tail .head)) (.cons (.tail (.tail .head)) .nil))⟩, ?_⟩
              refine .ef0 20 (by kernel_rfl) rfl (.storeAll (vs := Ans.cells (Ans.mk (lastK u + 1) (lastTo u) 101 (lastId u) x.m.err (1 + pickN x.m.m6 50) x.m.m7)) ts32 rfl rfl rfl .head rfl (Ans.cells_ones _)) ?_
              rintro _ _ rfl
              refine ⟨.inl (by kernel_rfl), ?_⟩
              refine .done (by kernel_rfl) ?_
              refine .region ?_
              refine .rd (.move rfl) ?_
              refine .rd (.move rfl) ?_
              refine .rd (.ldN ia32 ts32 rfl .head rfl) ?_
              refine .fn rfl rfl (.cons (.tail .head) .nil) (fun _ _ _ => trivial) (step_ok pb now s (Ans.mk (lastK u + 1) (lastTo u) 101 (lastId u) x.m.err (1 + pickN x.m.m6 50) x.m.m7) hPI.pb (hPI.pb3 (Ans.mk (lastK u + 1) (lastTo u) 101 (lastId u) x.m.err (1 + pickN x.m.m6 50) x.m.m7)) (by omega)) (fun v G1 hq => ?_)
              obtain ⟨oa, oc, zs, rfl, hz, rfl⟩ := hq
              simp only [List.cons_append, List.nil_append]
              refine .rd (.assign rfl) ?_
              refine .nil ?_
              refine .inBlock ?_
              exact fin (kt, (step s now (Ans.mk (lastK u + 1) (lastTo u) 101 (lastId u) x.m.err (1 + pickN x.m.m6 50) x.m.m7)).1, now, zs, oa, oc) ⟨hkt, nlx (NL.step s now (Ans.mk (lastK u + 1) (lastTo u) 101 (lastId u) x.m.err (1 + pickN x.m.m6 50) x.m.m7)) hz, ⟨by omega, by omega⟩, by rw [step_calls]; omega⟩ (.cons rfl (.cons rfl (.cons rfl (.cons rfl (.cons rfl (.cons rfl (.cons rfl (.cons rfl .nil)))))))) (.cons .head (.cons .head (.cons .head (.cons (.tail .head) (.cons (.tail (.tail .head)) .nil)))))
            · refine .ef rfl (.alloc ti32 rfl (ones.of rfl)) ?_
              rintro _ _ ⟨b13, rfl, rfl⟩
              refine ⟨.inr ⟨_, (.cons (.tail (.tail .head)) (.cons (.tail (.tail .head)) .nil))⟩, ?_⟩
              refine .ef 13 (by kernel_rfl) rfl (.fn rfl rfl .nil (fun _ _ _ => trivial) (pick_ok x.m.m6 50 hxg.off (by decide))) ?_
              rintro v _ ⟨G1, hq, rfl⟩
              obtain ⟨rfl, rfl⟩ := hq
              simp only [List.nil_append]
              refine ⟨.inr ⟨_, (.cons (.tail (.tail .head)) (.cons (.tail (.tail .head)) .nil))⟩, ?_⟩
              refine .rp 14 rfl (by kernel_rfl) (by kernel_rfl) (by kernel_rfl) (Reads.pure (.add rfl rfl (by omega) (by omega))) ?_
              refine .rp 18 rfl (by kernel_rfl) (by kernel_rfl) (by kernel_rfl) (Reads.pure (.build rfl (bld32_0_1_2_3_15_6_7 _ _ _ _ _ _ _))) ?_
              refine .ef0 20 (by kernel_rfl) rfl (.storeAll (vs := Ans.cells (Ans.mk (lastK u + 1) (lastTo u) 101 (lastId u) x.m.err (1 + pickN x.m.m6 50) x.m.m7)) ts32 rfl rfl rfl .head rfl (Ans.cells_ones _)) ?_
              rintro _ _ rfl
              refine ⟨.inl (by kernel_rfl), ?_⟩
              refine .done (by kernel_rfl) ?_
              refine .region ?_
              refine .rd (.move rfl) ?_
              refine .rd (.move rfl) ?_
              refine .rd (.ldN ia32 ts32 rfl .head rfl) ?_
              refine .fn rfl rfl (.cons (.tail .head) .nil) (fun _ _ _ => trivial) (step_ok pb now s (Ans.mk (lastK u + 1) (lastTo u) 101 (lastId u) x.m.err (1 + pickN x.m.m6 50) x.m.m7) hPI.pb (hPI.pb3 (Ans.mk (lastK u + 1) (lastTo u) 101 (lastId u) x.m.err (1 + pickN x.m.m6 50) x.m.m7)) (by omega)) (fun v G1 hq => ?_)
              obtain ⟨oa, oc, zs, rfl, hz, rfl⟩ := hq
              simp only [List.cons_append, List.nil_append]
              refine .rd (.assign rfl) ?_
              refine .nil ?_
              refine .inBlock ?_
              exact fin (kt, (step s now (Ans.mk (lastK u + 1) (lastTo u) 101 (lastId u) x.m.err (1 + pickN x.m.m6 50) x.m.m7)).1, now, zs, oa, oc) ⟨hkt, nlx (NL.step s now (Ans.mk (lastK u + 1) (lastTo u) 101 (lastId u) x.m.err (1 + pickN x.m.m6 50) x.m.m7)) hz, ⟨by omega, by omega⟩, by rw [step_calls]; omega⟩ (.cons rfl (.cons rfl (.cons rfl (.cons rfl (.cons rfl (.cons rfl (.cons rfl (.cons rfl .nil)))))))) (.cons .head (.cons .head (.cons .head (.cons (.tail .head) (.cons (.tail (.tail .head)) .nil)))))
      · refine .condP rfl (fun h17 => ?_) (fun h17 => ?_)
        · refine .skip ?_
          refine .alter (t := 73) (v' := .bool (decide (pickN x.kind 5 = 0 ∨ pickN x.kind 5 = 1))) rfl (congrArg Value.bool (by simp [h17])) ?_
          exact fin (.cons rfl (.cons rfl (.cons rfl (.cons rfl (.cons rfl (.cons rfl (.cons rfl (.cons rfl (.cons rfl (.cons rfl (.cons rfl .nil))))))))))) (.cons (.tail .head) (.cons (.tail .head) (.cons .head (.cons .head .nil))))
        · refine .region ?_
          refine .rd (.eqI rfl rfl) ?_
          refine .rd (.assign rfl) ?_
          refine .nil ?_
          refine .alter (t := 73) (v' := .bool (decide (pickN x.kind 5 = 0 ∨ pickN x.kind 5 = 1))) rfl (congrArg Value.bool (by simp [h17])) ?_
          exact fin (.cons rfl (.cons rfl (.cons rfl (.cons rfl (.cons rfl (.cons rfl (.cons rfl (.cons rfl (.cons rfl (.cons rfl (.cons rfl .nil))))))))))) (.cons (.tail .head) (.cons (.tail .head) (.cons .head (.cons .head .nil))))
  · refine .exit rfl ?_
    refine .seq ?_
    refine .region ?_
    refine .rd (.assign rfl) ?_
    refine .nil ?_
    refine .retP Try.func3 (.cons (.tmp rfl) .nil) (.cons (.tail (.tail .head)) .nil) ?_
    exact ⟨[], ⟨rfl, rfl⟩, rfl⟩

end Go.Proofs.Ytlcglmimndkleaa


namespace Go.Proofs.Ytlcglmimndkleaa
open Go Go.Sp

set_option linter.unusedVariables false

namespace read18

end read18
open read18



theorem i64_wf {n : Int} (h : (Lit.int .i64 n).wf = true) : i64 n := by simpa [i64, Lit.wf, IntKind.min, IntKind.max, IntKind.signed, IntKind.bits] using h
theorem Rd.num {H : Type} {enc : TypeId × Value → H} {P : Program} {W : World} {spare : Nat → Bool} {held : Bool} {t} (ht : P.underlying t = some (.int .i64)) : Rd enc P W spare held t (fun n : Int => [.int .i64 n]) i64 := fun n cs x h hf => by
  obtain ⟨m, e, hm⟩ := Rd.int ht n cs x h hf
  exact ⟨m, e, i64_wf hm⟩
theorem Rd.text {H : Type} {enc : TypeId × Value → H} {P : Program} {W : World} {spare : Nat → Bool} {held : Bool} {t} (ht : P.underlying t = some .string) : Rd enc P W spare held t (fun s : List UInt8 => [.string (str s)]) (fun s => s.length ≤ 140737488351232) := fun n cs x h hf => by
  obtain ⟨s, e, hs⟩ := Rd.string ht n cs x h hf
  refine ⟨s.data.toList, ?_, ?_⟩
  · show cs = [Value.string (str s.data.toList)]; rw [str_data]; exact e
  · show s.data.toList.length ≤ _; rw [← str_size, str_data]; exact hs
theorem Rd.anyRow {H : Type} {enc : TypeId × Value → H} {P : Program} {W : World} {spare : Nat → Bool} {held : Bool} {t e} (ht : P.underlying t = some (.slice e)) : Rd enc P W spare held t (fun y : Sl => [.slice y.1 y.2.1 y.2.2]) (fun _ => True) := fun n cs x h _ => by
  rcases DataW.trod_slice ht h with ⟨rfl, _⟩ | ⟨a, len, cap, elems, rest, m, rfl, rfl, rfl, _⟩
  · exact ⟨(none, 0, 0), rfl, trivial⟩
  · exact ⟨(some a, len, cap), rfl, trivial⟩
theorem icell_ones (n : Int) : ones (icell n) := .of rfl

theorem rd32 {H : Type} {enc : TypeId × Value → H} {W : World} {spare : Nat → Bool} {held : Bool} : Rd enc Try.prog W spare held 32 MX.cells (fun m => i64 m.m6) := by
  intro n cs x h hf
  have hl : cs.length = 21 := (Rd.structLen Try.underlying32 h).trans (by kernel_rfl)
  obtain ⟨c0, cs0, rfl, hl0⟩ := cons_of_len hl
  obtain ⟨c1, cs1, rfl, hl1⟩ := cons_of_len hl0
  obtain ⟨c2, cs2, rfl, hl2⟩ := cons_of_len hl1
  obtain ⟨c3, cs3, rfl, hl3⟩ := cons_of_len hl2
  obtain ⟨c4, cs4, rfl, hl4⟩ := cons_of_len hl3
  obtain ⟨c5, cs5, rfl, hl5⟩ := cons_of_len hl4
  obtain ⟨c6, cs6, rfl, hl6⟩ := cons_of_len hl5
  obtain ⟨c7, cs7, rfl, hl7⟩ := cons_of_len hl6
  obtain ⟨c8, cs8, rfl, hl8⟩ := cons_of_len hl7
  obtain ⟨c9, cs9, rfl, hl9⟩ := cons_of_len hl8
  obtain ⟨c10, cs10, rfl, hl10⟩ := cons_of_len hl9
  obtain ⟨c11, cs11, rfl, hl11⟩ := cons_of_len hl10
  obtain ⟨c12, cs12, rfl, hl12⟩ := cons_of_len hl11
  obtain ⟨c13, cs13, rfl, hl13⟩ := cons_of_len hl12
  obtain ⟨c14, cs14, rfl, hl14⟩ := cons_of_len hl13
  obtain ⟨c15, cs15, rfl, hl15⟩ := cons_of_len hl14
  obtain ⟨c16, cs16, rfl, hl16⟩ := cons_of_len hl15
  obtain ⟨c17, cs17, rfl, hl17⟩ := cons_of_len hl16
  obtain ⟨c18, cs18, rfl, hl18⟩ := cons_of_len hl17
  obtain ⟨c19, cs19, rfl, hl19⟩ := cons_of_len hl18
  obtain ⟨c20, cs20, rfl, hl20⟩ := cons_of_len hl19
  obtain rfl : cs20 = [] := List.eq_nil_of_length_eq_zero hl20
  obtain ⟨f0, e0, w0⟩ := Rd.field Try.underlying32 h hf 0 0 1 rfl (by kernel_rfl) (Rd.num Try.underlying3)
  simp only [List.drop_zero, List.take_succ_cons, List.take_zero, List.cons.injEq, and_true] at e0
  obtain ⟨f1, e1, w1⟩ := Rd.field Try.underlying32 h hf 1 1 1 rfl (by kernel_rfl) (Rd.num Try.underlying3)
  simp only [List.drop_succ_cons, List.drop_zero, List.take_succ_cons, List.take_zero, List.cons.injEq, and_true] at e1
  obtain ⟨f2, e2, w2⟩ := Rd.field Try.underlying32 h hf 2 2 1 rfl (by kernel_rfl) (Rd.num Try.underlying3)
  simp only [List.drop_succ_cons, List.drop_zero, List.take_succ_cons, List.take_zero, List.cons.injEq, and_true] at e2
  obtain ⟨f3, e3, w3⟩ := Rd.field Try.underlying32 h hf 3 3 1 rfl (by kernel_rfl) (Rd.num Try.underlying3)
  simp only [List.drop_succ_cons, List.drop_zero, List.take_succ_cons, List.take_zero, List.cons.injEq, and_true] at e3
  obtain ⟨f4, e4, w4⟩ := Rd.field Try.underlying32 h hf 4 4 1 rfl (by kernel_rfl) (Rd.num Try.underlying3)
  simp only [List.drop_succ_cons, List.drop_zero, List.take_succ_cons, List.take_zero, List.cons.injEq, and_true] at e4
  obtain ⟨f5, e5, w5⟩ := Rd.field Try.underlying32 h hf 5 5 1 rfl (by kernel_rfl) (Rd.num Try.underlying3)
  simp only [List.drop_succ_cons, List.drop_zero, List.take_succ_cons, List.take_zero, List.cons.injEq, and_true] at e5
  obtain ⟨f6, e6, w6⟩ := Rd.field Try.underlying32 h hf 6 6 1 rfl (by kernel_rfl) (Rd.num Try.underlying3)
  simp only [List.drop_succ_cons, List.drop_zero, List.take_succ_cons, List.take_zero, List.cons.injEq, and_true] at e6
  obtain ⟨f7, e7, w7⟩ := Rd.field Try.underlying32 h hf 7 7 1 rfl (by kernel_rfl) (Rd.num Try.underlying3)
  simp only [List.drop_succ_cons, List.drop_zero, List.take_succ_cons, List.take_zero, List.cons.injEq, and_true] at e7
  obtain ⟨f8, e8, w8⟩ := Rd.field Try.underlying32 h hf 8 8 1 rfl (by kernel_rfl) (Rd.num Try.underlying3)
  simp only [List.drop_succ_cons, List.drop_zero, List.take_succ_cons, List.take_zero, List.cons.injEq, and_true] at e8
  obtain ⟨f9, e9, w9⟩ := Rd.field Try.underlying32 h hf 9 9 1 rfl (by kernel_rfl) (Rd.num Try.underlying3)
  simp only [List.drop_succ_cons, List.drop_zero, List.take_succ_cons, List.take_zero, List.cons.injEq, and_true] at e9
  obtain ⟨f10, e10, w10⟩ := Rd.field Try.underlying32 h hf 10 10 1 rfl (by kernel_rfl) (Rd.num Try.underlying3)
  simp only [List.drop_succ_cons, List.drop_zero, List.take_succ_cons, List.take_zero, List.cons.injEq, and_true] at e10
  obtain ⟨f11, e11, w11⟩ := Rd.field Try.underlying32 h hf 11 11 1 rfl (by kernel_rfl) (Rd.num Try.underlying3)
  simp only [List.drop_succ_cons, List.drop_zero, List.take_succ_cons, List.take_zero, List.cons.injEq, and_true] at e11
  obtain ⟨f12, e12, w12⟩ := Rd.field Try.underlying32 h hf 12 12 1 rfl (by kernel_rfl) (Rd.num Try.underlying3)
  simp only [List.drop_succ_cons, List.drop_zero, List.take_succ_cons, List.take_zero, List.cons.injEq, and_true] at e12
  obtain ⟨f13, e13, w13⟩ := Rd.field Try.underlying32 h hf 13 13 1 rfl (by kernel_rfl) (Rd.num Try.underlying3)
  simp only [List.drop_succ_cons, List.drop_zero, List.take_succ_cons, List.take_zero, List.cons.injEq, and_true] at e13
  obtain ⟨f14, e14, w14⟩ := Rd.field Try.underlying32 h hf 14 14 1 rfl (by kernel_rfl) (Rd.num Try.underlying3)
  simp only [List.drop_succ_cons, List.drop_zero, List.take_succ_cons, List.take_zero, List.cons.injEq, and_true] at e14
  obtain ⟨f15, e15, w15⟩ := Rd.field Try.underlying32 h hf 15 15 1 rfl (by kernel_rfl) (Rd.num Try.underlying25)
  simp only [List.drop_succ_cons, List.drop_zero, List.take_succ_cons, List.take_zero, List.cons.injEq, and_true] at e15
  obtain ⟨nm, e16, w16⟩ := Rd.field Try.underlying32 h hf 16 16 1 rfl (by kernel_rfl) (Rd.text Try.underlying9)
  simp only [List.drop_succ_cons, List.drop_zero, List.take_succ_cons, List.take_zero, List.cons.injEq, and_true] at e16
  obtain ⟨tx, e17, w17⟩ := Rd.field Try.underlying32 h hf 17 17 1 rfl (by kernel_rfl) (Rd.text Try.underlying9)
  simp only [List.drop_succ_cons, List.drop_zero, List.take_succ_cons, List.take_zero, List.cons.injEq, and_true] at e17
  obtain ⟨s0, e18, w18⟩ := Rd.field Try.underlying32 h hf 18 18 1 rfl (by kernel_rfl) (Rd.anyRow Try.underlying29)
  simp only [List.drop_succ_cons, List.drop_zero, List.take_succ_cons, List.take_zero, List.cons.injEq, and_true] at e18
  obtain ⟨s1, e19, w19⟩ := Rd.field Try.underlying32 h hf 19 19 1 rfl (by kernel_rfl) (Rd.anyRow Try.underlying30)
  simp only [List.drop_succ_cons, List.drop_zero, List.take_succ_cons, List.take_zero, List.cons.injEq, and_true] at e19
  obtain ⟨s2, e20, w20⟩ := Rd.field Try.underlying32 h hf 20 20 1 rfl (by kernel_rfl) (Rd.anyRow Try.underlying28)
  simp only [List.drop_succ_cons, List.drop_zero, List.take_succ_cons, List.take_zero, List.cons.injEq, and_true] at e20
  subst e0
  subst e1
  subst e2
  subst e3
  subst e4
  subst e5
  subst e6
  subst e7
  subst e8
  subst e9
  subst e10
  subst e11
  subst e12
  subst e13
  subst e14
  subst e15
  subst e16
  subst e17
  subst e18
  subst e19
  subst e20
  exact ⟨⟨f0, f1, f2, f3, f4, f5, f6, f7, f8, f9, f10, f11, f12, f13, f14, f15, nm, tx, s0, s1, s2⟩, rfl, w6⟩

theorem rd35 {H : Type} {enc : TypeId × Value → H} {W : World} {spare : Nat → Bool} {held : Bool} : Rd enc Try.prog W spare held 35 OpX.cells OpX.good := by
  intro n cs x h hf
  have hl : cs.length = 26 := (Rd.structLen Try.underlying35 h).trans (by kernel_rfl)
  obtain ⟨c0, cs0, rfl, hl0⟩ := cons_of_len hl
  obtain ⟨c1, cs1, rfl, hl1⟩ := cons_of_len hl0
  obtain ⟨c2, cs2, rfl, hl2⟩ := cons_of_len hl1
  obtain ⟨c3, cs3, rfl, hl3⟩ := cons_of_len hl2
  obtain ⟨c4, cs4, rfl, hl4⟩ := cons_of_len hl3
  obtain ⟨c5, cs5, rfl, hl5⟩ := cons_of_len hl4
  obtain ⟨c6, cs6, rfl, hl6⟩ := cons_of_len hl5
  obtain ⟨c7, cs7, rfl, hl7⟩ := cons_of_len hl6
  obtain ⟨c8, cs8, rfl, hl8⟩ := cons_of_len hl7
  obtain ⟨c9, cs9, rfl, hl9⟩ := cons_of_len hl8
  obtain ⟨c10, cs10, rfl, hl10⟩ := cons_of_len hl9
  obtain ⟨c11, cs11, rfl, hl11⟩ := cons_of_len hl10
  obtain ⟨c12, cs12, rfl, hl12⟩ := cons_of_len hl11
  obtain ⟨c13, cs13, rfl, hl13⟩ := cons_of_len hl12
  obtain ⟨c14, cs14, rfl, hl14⟩ := cons_of_len hl13
  obtain ⟨c15, cs15, rfl, hl15⟩ := cons_of_len hl14
  obtain ⟨c16, cs16, rfl, hl16⟩ := cons_of_len hl15
  obtain ⟨c17, cs17, rfl, hl17⟩ := cons_of_len hl16
  obtain ⟨c18, cs18, rfl, hl18⟩ := cons_of_len hl17
  obtain ⟨c19, cs19, rfl, hl19⟩ := cons_of_len hl18
  obtain ⟨c20, cs20, rfl, hl20⟩ := cons_of_len hl19
  obtain ⟨c21, cs21, rfl, hl21⟩ := cons_of_len hl20
  obtain ⟨c22, cs22, rfl, hl22⟩ := cons_of_len hl21
  obtain ⟨c23, cs23, rfl, hl23⟩ := cons_of_len hl22
  obtain ⟨c24, cs24, rfl, hl24⟩ := cons_of_len hl23
  obtain ⟨c25, cs25, rfl, hl25⟩ := cons_of_len hl24
  obtain rfl : cs25 = [] := List.eq_nil_of_length_eq_zero hl25
  obtain ⟨f0, e0, w0⟩ := Rd.field Try.underlying35 h hf 0 0 1 rfl (by kernel_rfl) (Rd.num Try.underlying3)
  simp only [List.drop_zero, List.take_succ_cons, List.take_zero, List.cons.injEq, and_true] at e0
  obtain ⟨f1, e1, w1⟩ := Rd.field Try.underlying35 h hf 1 1 1 rfl (by kernel_rfl) (Rd.num Try.underlying3)
  simp only [List.drop_succ_cons, List.drop_zero, List.take_succ_cons, List.take_zero, List.cons.injEq, and_true] at e1
  obtain ⟨f2, e2, w2⟩ := Rd.field Try.underlying35 h hf 2 2 1 rfl (by kernel_rfl) (Rd.num Try.underlying3)
  simp only [List.drop_succ_cons, List.drop_zero, List.take_succ_cons, List.take_zero, List.cons.injEq, and_true] at e2
  obtain ⟨s0, e3, w3⟩ := Rd.field Try.underlying35 h hf 3 3 1 rfl (by kernel_rfl) (Rd.anyRow Try.underlying33)
  simp only [List.drop_succ_cons, List.drop_zero, List.take_succ_cons, List.take_zero, List.cons.injEq, and_true] at e3
  obtain ⟨m, e4, w4⟩ := Rd.field Try.underlying35 h hf 4 4 21 rfl (by kernel_rfl) rd32
  simp only [List.drop_succ_cons, List.drop_zero, List.take_succ_cons, List.take_zero] at e4
  obtain ⟨b, e5, w5⟩ := Rd.field Try.underlying35 h hf 5 25 1 rfl (by kernel_rfl) (Rd.bool Try.underlying4)
  simp only [List.drop_succ_cons, List.drop_zero, List.take_succ_cons, List.take_zero, List.cons.injEq, and_true] at e5
  subst e0
  subst e1
  subst e2
  subst e3
  subst e5
  simp only [MX.cells, List.cons.injEq, and_true] at e4
  obtain ⟨rfl, rfl, rfl, rfl, rfl, rfl, rfl, rfl, rfl, rfl, rfl, rfl, rfl, rfl, rfl, rfl, rfl, rfl, rfl, rfl, rfl⟩ := e4
  exact ⟨⟨f0, f1, f2, s0, m, b⟩, rfl, ⟨w0, w1, w4⟩⟩

end Go.Proofs.Ytlcglmimndkleaa

