/- Steps through functions of the program, under conditions that each theorem states (part wire22 of a claim). -/
import Derived.Test.YtllpkagplfmlbaaProg
import Derived.Test.YtllpkagplfmlbaaL15
import Derived.Test.YtllpkagplfmlbaaDefs3m
import Derived.Test.YtllpkagplfmlbaaWire17
import Derived.Test.YtllpkagplfmlbaaWire20
namespace Go.Proofs.Ytllpkagplfmlbaa
open Go Go.Sp

set_option linter.unusedVariables false

namespace wire22
theorem ia27 : IsAgg Try.prog 27 := ⟨_, Try.underlying27, trivial⟩
theorem ts27 : TS Try.prog 27 6 := .of (by kernel_rfl)
theorem ti27 : TI Try.prog 27 6 64 (.agg #[.int .i64 0, .int .i64 0, .int .i64 0, .int .i64 0, .int .i64 0, .slice none 0 0]) := .of (by kernel_rfl)
theorem ts5 : TS Try.prog 5 1 := .of (by kernel_rfl)
theorem na5 : NotAgg Try.prog 5 := ⟨_, Try.underlying5, trivial⟩
theorem fd27_5 : FD Try.prog 27 5 5 := .of Try.underlying27 (by kernel_rfl)
theorem na25 : NotAgg Try.prog 25 := ⟨_, Try.underlying25, trivial⟩
end wire22
open wire22

theorem bcs_set (l : List UInt8) (j : Nat) (y : UInt8) : (bcs l).set j (Value.int .u8 (y.toNat : Int)) = bcs (l.set j y) := by unfold bcs; rw [List.map_set]
theorem bcs_at {l : List UInt8} {j : Nat} {x : UInt8} (h : l[j]? = some x) : (bcs l)[j]? = some (.int .u8 (x.toNat : Int)) := by unfold bcs; rw [List.getElem?_map, h]; rfl
theorem RowAt.one {b o : Nat} {cs : List Value} {w : World} (h : RowAt (some ⟨b, o, none⟩) cs w) {i : Nat} {v : Value} (hv : cs[i]? = some v) : CellsAt b (o + i) [v] w := by
  rcases h with rfl | ⟨b', o', e, h⟩
  · simp at hv
  · cases e; exact h.one hv

set_option maxHeartbeats 1000000 in
set_option maxRecDepth 20000 in
theorem WireTorn_ok (b : Bat) (a : Option Addr) (c : Nat) (at_ : Int) (by_ : UInt8) (hf : b.fits) (hat : i64 at_) : Cn Try.prog 4 [.agg (b.cells a c).toArray, .int .i64 at_, .int .u8 (by_.toNat : Int)] (RowAt a (b.recs.flatMap Rec.cells)) [] fun v G => v = .bool true ∧ G = [] := by
  refine .enter Try.func4 rfl (by kernel_rfl) rfl fun R k => ?_
  refine .seq ?_
  refine .region ?_   -- R0 law.go:133
  refine .ef (.box (l := b.cells a c) rfl rfl (ones.of rfl)) ?_
  rintro _ _ ⟨b3, rfl, rfl⟩
  refine .rd (.assign rfl) ?_
  refine .nil ?_
  refine .seq ?_
  refine .region ?_   -- R1 law.go:134
  refine .fn rfl rfl .nil (fun _ _ _ => trivial) (shown_ok) (fun v G1 hq => ?_)
  obtain ⟨rfl, rfl⟩ := hq
  simp only [List.nil_append]
  refine .rd (.assign rfl) ?_
  refine .nil ?_
  refine .seq ?_
  refine .region ?_   -- R2 law.go:135
  refine .rd (.ldN ia27 ts27 rfl .head rfl) ?_
  refine .fn rfl rfl .nil (Knows.pick (.tail .head) k) (Batch_ok b a c hf) (fun v G1 hq => ?_)
  obtain ⟨rfl, rfl⟩ := hq
  simp only [List.nil_append]
  refine .rd (.move rfl) ?_
  refine .rd (.extract rfl rfl) ?_
  refine .rd (.extract rfl rfl) ?_
  refine .rd (.assign rfl) ?_
  refine .rd (.assign rfl) ?_
  refine .nil ?_
  refine .seq ?_
  refine .seq ?_
  refine .region ?_   -- R3 law.go:136
  refine .rd (.move rfl) ?_
  refine .rd (.not rfl) ?_
  refine .rd (.move rfl) ?_
  refine .on (t := 27) rfl rfl ?_
  refine .rd (.move rfl) ?_
  refine .on (t := 27) rfl rfl ?_
  refine .rd (.neI rfl rfl) ?_
  refine .rd (.pickF rfl rfl) ?_
  refine .nil ?_
  refine .condN rfl (fun h3 => ?_) (fun h3 => ?_)
  · refine .seq ?_
    refine .region ?_   -- R4 law.go:137
    refine .rd (.move rfl) ?_
    refine .rd (.move rfl) ?_
    refine .on (t := 32) rfl rfl ?_
    refine .rd (.move rfl) ?_
    refine .on (t := 32) rfl rfl ?_
    refine .rd (.eqT (m := []) rfl rfl) ?_
    refine .alter (t := 34) (v' := .bool true) rfl (congrArg Value.bool (decide_eq_true (wbatch_not h3))) ?_
    refine .rd (.pickT rfl rfl) ?_
    refine .rd (.assign rfl) ?_
    refine .nil ?_
    refine .retP Try.func4 (.cons (.tmp rfl) .nil) (.cons (.tail .head) .nil) ?_
    exact ⟨[], ⟨rfl, rfl⟩, rfl⟩
  · have hr : right b = 0 := by rw [← wbatch_err]; exact h3
    obtain ⟨hl1, hl2, hl3, hl4, hl5⟩ := wbatch_is hr
    have hrw := read_write hf hr []
    rw [List.append_nil] at hrw
    have hcut := fun k hk => torn_cut hr (k := k) hk
    have hset := fun k x hk h4 hx => torn_set hr (k := k) (x := x) hk h4 hx
    rw [h3]
    generalize (wbatch b).1 = s at hl1 hl2 hl3 hl4 hrw hcut hset ⊢
    obtain ⟨k1, hk1⟩ : ∃ k : Nat, pickN at_ (s.length : Int) = k := ⟨(pickN at_ (s.length : Int)).toNat, by have := pickN_nn (c := at_) (n := (s.length : Int)) (by omega); omega⟩
    have hk1l : k1 < s.length := by have := pickN_lt (c := at_) (n := (s.length : Int)) (by omega); omega
    obtain ⟨j, hj⟩ : ∃ j : Nat, 4 + pickN at_ ((s.length : Int) - 4) = j := ⟨(4 + pickN at_ ((s.length : Int) - 4)).toNat, by have := pickN_nn (c := at_) (n := (s.length : Int) - 4) (by omega); omega⟩
    have hj4 : 4 ≤ j := by have := pickN_nn (c := at_) (n := (s.length : Int) - 4) (by omega); omega
    have hjl : j < s.length := by have := pickN_lt (c := at_) (n := (s.length : Int) - 4) (by omega); omega
    obtain ⟨x, hx⟩ : ∃ x, s[j]? = some x := ⟨_, List.getElem?_eq_getElem hjl⟩
    refine .skip ?_
    refine .seq ?_
    refine .region ?_   -- R5 law.go:139
    refine .rd (.move rfl) ?_
    refine .rd (.move rfl) ?_
    refine .rd (.move rfl) ?_
    refine .rd (.lenT rfl rfl Try.underlying9 rfl) ?_
    refine .fn rfl rfl .nil (fun _ _ _ => trivial) (pick_ok at_ (s.length : Int) hat (by omega)) (fun v G1 hq => ?_)
    obtain ⟨rfl, rfl⟩ := hq
    simp only [List.nil_append]
    refine .alter (t := 41) (v' := .int .i64 (k1 : Nat)) rfl (by rw [hk1]) ?_
    refine .rd (.sliceT (l := s) (a := 0) (h := k1) Try.underlying9 rfl rfl ⟨_, rfl⟩ (by omega) (by omega)) ?_
    refine .alter (t := 42) (v' := .string (str (s.take k1))) rfl (by rw [List.drop_zero, Nat.sub_zero]) ?_
    refine .fn rfl rfl .nil (fun _ _ _ => trivial) (ReadBatch_ok (s.take k1) (by rw [List.length_take]; omega)) (fun v G1 hq => ?_)
    obtain ⟨a1, c1, rfl, rfl⟩ := hq
    simp only [List.cons_append, List.nil_append]
    rw [hcut k1 hk1l]
    refine .rd (.move rfl) ?_
    refine .rd (.extract rfl rfl) ?_
    refine .rd (.extract rfl rfl) ?_
    refine .rd (.extract rfl rfl) ?_
    refine .ef (.alloc ti27 rfl (ones.of rfl)) ?_
    rintro _ _ ⟨b10, rfl, rfl⟩
    refine .ef0 (.storeAll (vs := zeroB.cells a1 c1) ts27 rfl rfl rfl .head rfl (ones.of rfl)) ?_
    rintro _ _ rfl
    refine .rd (.assign rfl) ?_
    refine .rd (.assign rfl) ?_
    refine .nil ?_
    refine .seq ?_
    refine .seq ?_
    refine .region ?_   -- R6 law.go:140
    refine .rd (.move rfl) ?_
    refine .rd (.neI rfl rfl) ?_
    refine .alter (t := 48) (v' := .bool false) rfl (congrArg Value.bool (by first | rfl | decide)) ?_
    refine .rd (.move rfl) ?_
    refine .on (t := 49) rfl rfl ?_
    refine .rd (.move rfl) ?_
    refine .on (t := 49) rfl rfl ?_
    refine .rd (.neI rfl rfl) ?_
    refine .alter (t := 51) (v' := .bool false) rfl (congrArg Value.bool (by first | rfl | decide)) ?_
    refine .rd (.pickF rfl rfl) ?_
    refine .nil ?_
    refine .condF rfl ?_
    refine .skip ?_
    refine .seq ?_
    refine .region ?_   -- R8 law.go:143
    refine .rd (.move rfl) ?_
    refine .rd (.move rfl) ?_
    refine .rd (.lenT rfl rfl Try.underlying9 rfl) ?_
    refine .rd (.sub rfl rfl (by omega) (by omega)) ?_
    refine .fn rfl rfl .nil (fun _ _ _ => trivial) (pick_ok at_ ((s.length : Int) - 4) hat (by omega)) (fun v G1 hq => ?_)
    obtain ⟨rfl, rfl⟩ := hq
    simp only [List.nil_append]
    refine .rd (.add rfl rfl (by omega) (by omega)) ?_
    refine .alter (t := 58) (v' := .int .i64 (j : Nat)) rfl (by rw [hj]) ?_
    refine .rd (.assign rfl) ?_
    refine .nil ?_
    refine .seq ?_
    refine .region ?_   -- R9 law.go:144
    refine .rd (.move rfl) ?_
    refine .ef (.strToBytes Try.underlying9 Try.underlying34 Try.underlying5 rfl) ?_
    rintro _ _ ⟨lb, lc, rfl, rfl⟩
    refine .rd (.assign rfl) ?_
    refine .nil ?_
    refine .seq ?_
    refine .region ?_   -- R10 law.go:145
    refine .rd (.move rfl) ?_
    refine .rd (.move rfl) ?_
    refine .rd (.move rfl) ?_
    refine .rd (.move rfl) ?_
    refine .rd (.indexAddr Try.underlying34 ts5 rfl rfl (by omega) (by omega)) ?_
    refine .alter (t := 65) (v' := .pointer (some ⟨lb, 0 + j, none⟩)) rfl (by rw [Int.toNat_natCast, Nat.mul_one]) ?_
    refine .rd (.load na5 rfl ((Knows.arr .head).mono fun _ h => RowAt.one h (bcs_at hx))) ?_
    refine .rd (.move rfl) ?_
    refine .rd (.xorU (k := .u8) (a := x.toBitVec) (b := by_.toBitVec) rfl rfl rfl) ?_
    refine .alter (t := 68) (v' := .int .u8 ((x ^^^ by_).toNat : Int)) rfl (rfl) ?_
    refine .rd (.indexAddr Try.underlying34 ts5 rfl rfl (by omega) (by omega)) ?_
    refine .alter (t := 69) (v' := .pointer (some ⟨lb, 0 + j, none⟩)) rfl (by rw [Int.toNat_natCast, Nat.mul_one]) ?_
    refine .ef0 (.storeArr (o := 0) (k := j) ts5 rfl rfl .head (by rw [bcs_len]; exact hjl)) ?_
    rintro _ _ rfl
    refine .nil ?_
    refine .cast (X' := arr 5 1 (some ⟨lb, 0, none⟩) lc (bcs (s.set j (x ^^^ by_)))) (by rw [bcs_set]) ?_
    refine .seq ?_
    refine .region ?_   -- R11 law.go:146
    refine .rd (.move rfl) ?_
    refine .rd (.bytesToStr (l := s.set j (x ^^^ by_)) Try.underlying34 Try.underlying5 Try.underlying9 rfl (by rw [List.length_set]) (Knows.arr .head)) ?_
    refine .fn rfl rfl .nil (fun _ _ _ => trivial) (ReadBatch_ok (s.set j (x ^^^ by_)) (by rw [List.length_set]; omega)) (fun v G1 hq => ?_)
    obtain ⟨a2, c2, rfl, rfl⟩ := hq
    simp only [List.cons_append, List.nil_append]
    refine .rd (.move rfl) ?_
    refine .rd (.extract rfl rfl) ?_
    refine .rd (.extract rfl rfl) ?_
    refine .rd (.extract rfl rfl) ?_
    refine .ef (.alloc ti27 rfl (ones.of rfl)) ?_
    rintro _ _ ⟨b15, rfl, rfl⟩
    refine .ef0 (.storeAll (vs := Bat.cells (readBatch (s.set j (x ^^^ by_))).1 a2 c2) ts27 rfl rfl rfl .head rfl (ones.of rfl)) ?_
    rintro _ _ rfl
    refine .rd (.assign rfl) ?_
    refine .rd (.assign rfl) ?_
    refine .nil ?_
    refine .seq ?_
    refine .seq ?_
    refine .region ?_   -- R12 law.go:147
    refine .rd (.move rfl) ?_
    refine .rd (.eqI rfl rfl) ?_
    refine .nil ?_
    refine .condP rfl (fun h12 => ?_) (fun h12 => ?_)
    · obtain rfl : by_ = 0 := UInt8.toNat_inj.1 (by show by_.toNat = 0; omega)
      have he : readBatch (s.set j (x ^^^ 0)) = (b, (s.length : Int), 0) := by
        rw [UInt8.xor_zero, show s.set j x = s from by rw [List.getElem?_eq_getElem hjl] at hx; cases hx; exact List.set_getElem_self hjl]; exact hrw
      rw [he]
      refine .seq ?_
      refine .region ?_   -- R13 law.go:148
      refine .rd (.ldN ia27 ts27 rfl .head rfl) ?_
      refine .rd (.ldN ia27 ts27 rfl (.tail (.tail (.tail (.tail (.tail .head))))) rfl) ?_
      refine .fn rfl rfl .nil (fun A w h => ⟨(Knows.arr (.tail .head)) A w h, (Knows.pick (.tail (.tail (.tail (.tail (.tail (.tail .head)))))) k) A w h⟩) (same_ok b b a2 a c2 c (by have := hf.len; omega) (by have := hf.len; omega)) (fun v G1 hq => ?_)
      obtain ⟨r, rfl, hr, rfl⟩ := hq
      simp only [List.nil_append]
      obtain rfl : r = true := hr.2 rfl
      refine .rd (.assign rfl) ?_
      refine .nil ?_
      refine .seq ?_
      refine .region ?_   -- R14 law.go:149
      refine .rd (.move rfl) ?_
      refine .rd (.move rfl) ?_
      refine .on (t := 83) rfl rfl ?_
      refine .rd (.move rfl) ?_
      refine .on (t := 83) rfl rfl ?_
      refine .rd (.move rfl) ?_
      refine .on (t := 83) rfl rfl ?_
      refine .rd (.lenT rfl rfl Try.underlying9 rfl) ?_
      refine .on (t := 83) rfl rfl ?_
      refine .rd (.eqI rfl rfl) ?_
      refine .alter (t := 87) (v' := .bool true) rfl (congrArg Value.bool (decide_eq_true (by first | rfl | decide))) ?_
      refine .rd (.pickT rfl rfl) ?_
      refine .rd (.move rfl) ?_
      refine .on (t := 89) rfl rfl ?_
      refine .rd (.move rfl) ?_
      refine .on (t := 89) rfl rfl ?_
      refine .rd (.eqI rfl rfl) ?_
      refine .alter (t := 91) (v' := .bool true) rfl (congrArg Value.bool (decide_eq_true (by first | rfl | decide))) ?_
      refine .rd (.pickT rfl rfl) ?_
      refine .rd (.assign rfl) ?_
      refine .nil ?_
      refine .retP Try.func4 (.cons (.tmp rfl) .nil) (.cons (.tail (.tail (.tail (.tail (.tail (.tail .head)))))) .nil) ?_
      exact ⟨[], ⟨rfl, rfl⟩, rfl⟩
    · have hb0 : by_ ≠ 0 := fun e => h12 (by rw [e]; rfl)
      have he : readBatch (s.set j (x ^^^ by_)) = (zeroB, 0, 6) := hset j _ hjl hj4 (by rw [List.getElem?_eq_getElem hjl] at hx; cases hx; exact xor_byte hb0)
      rw [he]
      refine .skip ?_
      refine .seq ?_
      refine .region ?_   -- R15 law.go:151
      refine .rd (.fieldAddr fd27_5 rfl) ?_
      refine .rd (.ld na25 rfl .head rfl) ?_
      refine .rd (.lenL rfl rfl Try.underlying25 rfl) ?_
      refine .rd (.eqI rfl rfl) ?_
      refine .alter (t := 96) (v' := .bool true) rfl (congrArg Value.bool (decide_eq_true (by first | rfl | decide))) ?_
      refine .rd (.move rfl) ?_
      refine .on (t := 97) rfl rfl ?_
      refine .rd (.move rfl) ?_
      refine .on (t := 97) rfl rfl ?_
      refine .rd (.eqI rfl rfl) ?_
      refine .alter (t := 99) (v' := .bool true) rfl (congrArg Value.bool (decide_eq_true (by first | rfl | decide))) ?_
      refine .rd (.pickT rfl rfl) ?_
      refine .rd (.move rfl) ?_
      refine .on (t := 101) rfl rfl ?_
      refine .rd (.move rfl) ?_
      refine .on (t := 101) rfl rfl ?_
      refine .rd (.eqI rfl rfl) ?_
      refine .alter (t := 103) (v' := .bool true) rfl (congrArg Value.bool (decide_eq_true (by first | rfl | decide))) ?_
      refine .rd (.pickT rfl rfl) ?_
      refine .rd (.assign rfl) ?_
      refine .nil ?_
      refine .retP Try.func4 (.cons (.tmp rfl) .nil) (.cons (.tail (.tail (.tail (.tail (.tail (.tail .head)))))) .nil) ?_
      exact ⟨[], ⟨rfl, rfl⟩, rfl⟩

end Go.Proofs.Ytllpkagplfmlbaa

