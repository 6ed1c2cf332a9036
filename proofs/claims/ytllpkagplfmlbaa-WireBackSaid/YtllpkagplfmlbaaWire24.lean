/- Steps through functions of the program, under conditions that each theorem states (part wire24 of a claim). -/
import Derived.Test.YtllpkagplfmlbaaProg
import Derived.Test.YtllpkagplfmlbaaL15
import Derived.Test.YtllpkagplfmlbaaDefs3m
import Derived.Test.YtllpkagplfmlbaaWire16
import Derived.Test.YtllpkagplfmlbaaWire17
import Derived.Test.YtllpkagplfmlbaaWire18
import Derived.Test.YtllpkagplfmlbaaWire20
namespace Go.Proofs.Ytllpkagplfmlbaa
open Go Go.Sp

set_option linter.unusedVariables false

namespace wire24
theorem ia27 : IsAgg Try.prog 27 := ⟨_, Try.underlying27, trivial⟩
theorem ts27 : TS Try.prog 27 6 := .of (by kernel_rfl)
theorem ti27 : TI Try.prog 27 6 64 (.agg #[.int .i64 0, .int .i64 0, .int .i64 0, .int .i64 0, .int .i64 0, .slice none 0 0]) := .of (by kernel_rfl)
theorem ia39 : IsAgg Try.prog 39 := ⟨_, Try.underlying39, trivial⟩
theorem ts39 : TS Try.prog 39 8 := .of (by kernel_rfl)
theorem ti39 : TI Try.prog 39 8 96 (.agg #[.int .i64 0, .int .i64 0, .int .i64 0, .int .i64 0, .int .i64 0, .string ⟨#[]⟩, .string ⟨#[]⟩, .slice none 0 0]) := .of (by kernel_rfl)
end wire24
open wire24



set_option maxHeartbeats 1000000 in
set_option maxRecDepth 20000 in
theorem WireBack_ok (n kk : Int) (b : Bat) (a : Option Addr) (c : Nat) (m : Met) (p : Option Addr) (q : Nat) (more : List UInt8) (hn : i64 n) (hk : i64 kk) (hf : b.fits) (hm : m.fits) (hmore : more.length ≤ 140737488351232) : Cn Try.prog 7 [.int .i64 n, .int .i64 kk, .agg (b.cells a c).toArray, .agg (m.cells p q).toArray, .string (str more)] (fun w => RowAt a (b.recs.flatMap Rec.cells) w ∧ RowAt p (m.list.flatMap icell) w) [] fun v G => v = .bool true ∧ G = [] := by
  refine .enter Try.func7 rfl (by kernel_rfl) rfl fun R k => ?_
  have hbl := hf.len
  have hml' := hm.len
  refine .seq ?_
  refine .region ?_   -- R0 law.go:105
  refine .ef (.box (l := b.cells a c) rfl rfl (ones.of rfl)) ?_
  rintro _ _ ⟨b7, rfl, rfl⟩
  refine .ef (.box (l := m.cells p q) rfl rfl (ones.of rfl)) ?_
  rintro _ _ ⟨b8, rfl, rfl⟩
  refine .rd (.assign rfl) ?_
  refine .nil ?_
  refine .seq ?_
  refine .region ?_   -- R1 law.go:106
  refine .fn rfl rfl .nil (fun _ _ _ => trivial) (shown_ok) (fun v G1 hq => ?_)
  obtain ⟨rfl, rfl⟩ := hq
  simp only [List.nil_append]
  refine .rd (.assign rfl) ?_
  refine .nil ?_
  refine .seq ?_
  refine .region ?_   -- R2 law.go:107
  refine .rd (.move rfl) ?_
  refine .fn rfl rfl .nil (fun _ _ _ => trivial) (Int_ok n hn) (fun v G1 hq => ?_)
  obtain ⟨rfl, rfl⟩ := hq
  simp only [List.nil_append]
  refine .rd (.move rfl) ?_
  refine .rd (.catT rfl rfl (by have := eint_len hn; omega)) ?_
  refine .fn rfl rfl .nil (fun _ _ _ => trivial) (ReadInt_ok (eint n ++ more) (by have := eint_len hn; rw [List.length_append]; omega)) (fun v G1 hq => ?_)
  obtain ⟨rfl, rfl⟩ := hq
  simp only [List.nil_append]
  rw [rint_eint hn]
  refine .rd (.move rfl) ?_
  refine .rd (.extract rfl rfl) ?_
  refine .rd (.extract rfl rfl) ?_
  refine .rd (.extract rfl rfl) ?_
  refine .rd (.assign rfl) ?_
  refine .rd (.assign rfl) ?_
  refine .rd (.assign rfl) ?_
  refine .nil ?_
  refine .seq ?_
  refine .seq ?_
  refine .region ?_   -- R3 law.go:108
  refine .rd (.move rfl) ?_
  refine .rd (.not rfl) ?_
  refine .rd (.move rfl) ?_
  refine .on (t := 38) rfl rfl ?_
  refine .rd (.move rfl) ?_
  refine .on (t := 38) rfl rfl ?_
  refine .rd (.move rfl) ?_
  refine .on (t := 38) rfl rfl ?_
  refine .rd (.neI rfl rfl) ?_
  refine .alter (t := 41) (v' := .bool false) rfl (congrArg Value.bool (by simp)) ?_
  refine .rd (.pickF rfl rfl) ?_
  refine .rd (.move rfl) ?_
  refine .on (t := 43) rfl rfl ?_
  refine .rd (.move rfl) ?_
  refine .on (t := 43) rfl rfl ?_
  refine .rd (.neI rfl rfl) ?_
  refine .alter (t := 45) (v' := .bool false) rfl (congrArg Value.bool (by simp)) ?_
  refine .rd (.pickF rfl rfl) ?_
  refine .rd (.move rfl) ?_
  refine .on (t := 47) rfl rfl ?_
  refine .rd (.move rfl) ?_
  refine .on (t := 47) rfl rfl ?_
  refine .rd (.move rfl) ?_
  refine .on (t := 47) rfl rfl ?_
  refine .fn rfl rfl .nil (fun _ _ _ => trivial) (Int_ok n hn) (fun v G1 hq => ?_)
  obtain ⟨rfl, rfl⟩ := hq
  simp only [List.nil_append]
  refine .on (t := 47) rfl rfl ?_
  refine .rd (.lenT rfl rfl Try.underlying9 rfl) ?_
  refine .on (t := 47) rfl rfl ?_
  refine .rd (.neI rfl rfl) ?_
  refine .alter (t := 52) (v' := .bool false) rfl (congrArg Value.bool (by simp)) ?_
  refine .rd (.pickF rfl rfl) ?_
  refine .rd (.move rfl) ?_
  refine .on (t := 54) rfl rfl ?_
  refine .rd (.move rfl) ?_
  refine .on (t := 54) rfl rfl ?_
  refine .fn rfl rfl .nil (fun _ _ _ => trivial) (Int_ok n hn) (fun v G1 hq => ?_)
  obtain ⟨rfl, rfl⟩ := hq
  simp only [List.nil_append]
  refine .on (t := 54) rfl rfl ?_
  refine .rd (.move rfl) ?_
  refine .on (t := 54) rfl rfl ?_
  refine .fn rfl rfl .nil (fun _ _ _ => trivial) (Int_ok kk hk) (fun v G1 hq => ?_)
  obtain ⟨rfl, rfl⟩ := hq
  simp only [List.nil_append]
  refine .on (t := 54) rfl rfl ?_
  refine .rd (.eqT rfl rfl) ?_
  refine .on (t := 54) rfl rfl ?_
  refine .rd (.move rfl) ?_
  refine .on (t := 54) rfl rfl ?_
  refine .rd (.move rfl) ?_
  refine .on (t := 54) rfl rfl ?_
  refine .rd (.eqI rfl rfl) ?_
  refine .on (t := 54) rfl rfl ?_
  refine .rd (.neB Try.underlying4 rfl rfl) ?_
  refine .alter (t := 63) (v' := .bool false) rfl (congrArg Value.bool (by simp [eint_inj hn hk])) ?_
  refine .rd (.pickF rfl rfl) ?_
  refine .nil ?_
  refine .condF rfl ?_
  refine .skip ?_
  refine .seq ?_
  refine .region ?_   -- R5 law.go:111
  refine .rd (.ldN ia27 ts27 rfl (.tail .head) rfl) ?_
  refine .fn rfl rfl .nil (fun A w h => ((Knows.pick (.tail (.tail .head)) k) A w h).1) (Batch_ok b a c hf) (fun v G1 hq => ?_)
  obtain ⟨rfl, rfl⟩ := hq
  simp only [List.nil_append]
  refine .rd (.move rfl) ?_
  refine .rd (.extract rfl rfl) ?_
  refine .rd (.extract rfl rfl) ?_
  refine .rd (.assign rfl) ?_
  refine .rd (.assign rfl) ?_
  refine .nil ?_
  refine .seq ?_
  refine .seq ?_
  refine .region ?_   -- R6 law.go:112
  refine .rd (.move rfl) ?_
  refine .rd (.eqI rfl rfl) ?_
  refine .nil ?_
  refine .condP rfl (fun h6 => ?_) (fun h6 => ?_)
  · have hr : right b = 0 := by rw [← wbatch_err]; exact h6
    obtain ⟨hl1, hl2, hl3, hl4, hl5⟩ := wbatch_is hr
    have hrw := read_write hf hr more
    rw [h6]
    generalize (wbatch b).1 = s at hl1 hl2 hl3 hl4 hrw ⊢
    refine .seq ?_
    refine .region ?_   -- R7 law.go:113
    refine .rd (.move rfl) ?_
    refine .rd (.move rfl) ?_
    refine .rd (.catT rfl rfl (by omega)) ?_
    refine .fn rfl rfl .nil (fun _ _ _ => trivial) (ReadBatch_ok (s ++ more) (by rw [List.length_append]; omega)) (fun v G1 hq => ?_)
    obtain ⟨a2, c2, rfl, rfl⟩ := hq
    simp only [List.cons_append, List.nil_append]
    rw [hrw]
    refine .rd (.move rfl) ?_
    refine .rd (.extract rfl rfl) ?_
    refine .rd (.extract rfl rfl) ?_
    refine .rd (.extract rfl rfl) ?_
    refine .ef (.alloc ti27 rfl (ones.of rfl)) ?_
    rintro _ _ ⟨b16, rfl, rfl⟩
    refine .ef0 (.storeAll (vs := Bat.cells b a2 c2) ts27 rfl rfl rfl .head rfl (ones.of rfl)) ?_
    rintro _ _ rfl
    refine .rd (.assign rfl) ?_
    refine .rd (.assign rfl) ?_
    refine .nil ?_
    refine .seq ?_
    refine .region ?_   -- R8 law.go:114
    refine .rd (.ldN ia27 ts27 rfl .head rfl) ?_
    refine .rd (.ldN ia27 ts27 rfl (.tail (.tail (.tail .head))) rfl) ?_
    refine .fn rfl rfl .nil (fun A w h => ⟨(Knows.arr (.tail .head)) A w h, ((Knows.pick (.tail (.tail (.tail (.tail .head)))) k) A w h).1⟩) (same_ok b b a2 a c2 c (by have := hf.len; omega) (by have := hf.len; omega)) (fun v G1 hq => ?_)
    obtain ⟨r, rfl, hrr, rfl⟩ := hq
    simp only [List.nil_append]
    obtain rfl : r = true := hrr.2 rfl
    refine .rd (.assign rfl) ?_
    refine .nil ?_
    refine .seq ?_
    refine .region ?_   -- R9 law.go:115
    refine .rd (.move rfl) ?_
    refine .rd (.not rfl) ?_
    refine .rd (.move rfl) ?_
    refine .on (t := 85) rfl rfl ?_
    refine .rd (.move rfl) ?_
    refine .on (t := 85) rfl rfl ?_
    refine .rd (.move rfl) ?_
    refine .on (t := 85) rfl rfl ?_
    refine .rd (.lenT rfl rfl Try.underlying9 rfl) ?_
    refine .on (t := 85) rfl rfl ?_
    refine .rd (.neI rfl rfl) ?_
    refine .alter (t := 89) (v' := .bool false) rfl (congrArg Value.bool (by simp)) ?_
    refine .rd (.pickF rfl rfl) ?_
    refine .rd (.move rfl) ?_
    refine .on (t := 91) rfl rfl ?_
    refine .rd (.move rfl) ?_
    refine .on (t := 91) rfl rfl ?_
    refine .rd (.neI rfl rfl) ?_
    refine .alter (t := 93) (v' := .bool false) rfl (congrArg Value.bool (by simp)) ?_
    refine .rd (.pickF rfl rfl) ?_
    refine .rd (.move rfl) ?_
    refine .on (t := 95) rfl rfl ?_
    refine .rd (.move rfl) ?_
    refine .on (t := 95) rfl rfl ?_
    refine .rd (.lenT rfl rfl Try.underlying9 rfl) ?_
    refine .on (t := 95) rfl rfl ?_
    refine .rd (.gt rfl rfl) ?_
    refine .alter (t := 98) (v' := .bool false) rfl (congrArg Value.bool (decide_eq_false (by omega))) ?_
    refine .rd (.pickF rfl rfl) ?_
    refine .nil ?_
    refine .condF rfl ?_
    refine .skip ?_
    refine .seq ?_
    refine .seq ?_
    refine .region ?_   -- R11 law.go:119
    refine .rd (.move rfl) ?_
    refine .rd (.eqI rfl rfl) ?_
    refine .rd (.ldN ia27 ts27 rfl (.tail (.tail (.tail .head))) rfl) ?_
    refine .fn rfl rfl .nil (fun A w h => ((Knows.pick (.tail (.tail (.tail (.tail .head)))) k) A w h).1) (Right_ok b a c hf) (fun v G1 hq => ?_)
    obtain ⟨rfl, rfl⟩ := hq
    simp only [List.nil_append]
    refine .rd (.eqI rfl rfl) ?_
    refine .rd (.neB Try.underlying4 rfl rfl) ?_
    refine .alter (t := 105) (v' := .bool false) rfl (congrArg Value.bool (by simp [hr])) ?_
    refine .nil ?_
    refine .condF rfl ?_
    refine .skip ?_
    refine .seq ?_
    refine .region ?_   -- R13 law.go:122
    refine .rd (.ldN ia39 ts39 rfl (.tail (.tail .head)) rfl) ?_
    refine .fn rfl rfl .nil (fun A w h => ((Knows.pick (.tail (.tail (.tail (.tail .head)))) k) A w h).2) (Meta_ok m p q hm) (fun v G1 hq => ?_)
    obtain ⟨rfl, rfl⟩ := hq
    simp only [List.nil_append]
    refine .rd (.move rfl) ?_
    refine .rd (.extract rfl rfl) ?_
    refine .rd (.extract rfl rfl) ?_
    refine .rd (.assign rfl) ?_
    refine .rd (.assign rfl) ?_
    refine .nil ?_
    refine .seq ?_
    refine .seq ?_
    refine .region ?_   -- R14 law.go:123
    refine .rd (.move rfl) ?_
    refine .rd (.neI rfl rfl) ?_
    refine .nil ?_
    refine .condN rfl (fun h14 => ?_) (fun h14 => ?_)
    · refine .seq ?_
      refine .region ?_   -- R15 law.go:124
      refine .rd (.move rfl) ?_
      refine .rd (.eqT (m := []) rfl rfl) ?_
      refine .alter (t := 114) (v' := .bool true) rfl (congrArg Value.bool (decide_eq_true (wmeta_not h14))) ?_
      refine .rd (.assign rfl) ?_
      refine .nil ?_
      refine .retP Try.func7 (.cons (.tmp rfl) .nil) (.cons (.tail (.tail (.tail (.tail .head)))) .nil) ?_
      exact ⟨[], ⟨rfl, rfl⟩, rfl⟩
    · obtain ⟨hms, hml, hme⟩ := wmeta_zero h14
      have hrm := read_meta hm h14
      have hrx := read_meta_more hm h14 120
      have htl : (wmeta m).1.length ≤ 2048 := by rw [hme, List.length_append, fours_len]; omega
      generalize (wmeta m).1 = t at hrm hrx htl ⊢
      refine .skip ?_
      refine .seq ?_
      refine .region ?_   -- R16 law.go:126
      refine .rd (.move rfl) ?_
      refine .fn rfl rfl .nil (fun _ _ _ => trivial) (ReadMeta_ok t (by omega)) (fun v G1 hq => ?_)
      obtain ⟨p1, q1, rfl, rfl⟩ := hq
      simp only [List.cons_append, List.nil_append]
      rw [hrm]
      refine .rd (.move rfl) ?_
      refine .rd (.extract rfl rfl) ?_
      refine .rd (.extract rfl rfl) ?_
      refine .ef (.alloc ti39 rfl (ones.of rfl)) ?_
      rintro _ _ ⟨b21, rfl, rfl⟩
      refine .ef0 (.storeAll (vs := Met.cells m p1 q1) ts39 rfl rfl rfl .head rfl (ones.of rfl)) ?_
      rintro _ _ rfl
      refine .rd (.assign rfl) ?_
      refine .nil ?_
      refine .seq ?_
      refine .region ?_   -- R17 law.go:127
      refine .rd (.ldN ia39 ts39 rfl .head rfl) ?_
      refine .rd (.ldN ia39 ts39 rfl (.tail (.tail (.tail (.tail .head)))) rfl) ?_
      refine .fn rfl rfl .nil (fun A w h => ⟨(Knows.arr (.tail .head)) A w h, ((Knows.pick (.tail (.tail (.tail (.tail (.tail (.tail .head)))))) k) A w h).2⟩) (alike_ok m m p1 p q1 q (by have := hm.len; omega) (by have := hm.len; omega)) (fun v G1 hq => ?_)
      obtain ⟨r, rfl, hrr, rfl⟩ := hq
      simp only [List.nil_append]
      obtain rfl : r = true := hrr.2 rfl
      refine .rd (.assign rfl) ?_
      refine .nil ?_
      refine .seq ?_
      refine .region ?_   -- R18 law.go:128
      refine .rd (.move rfl) ?_
      refine .rd (.catT (m := [120]) rfl rfl (by show t.length + 1 ≤ _; omega)) ?_
      refine .fn rfl rfl .nil (fun _ _ _ => trivial) (ReadMeta_ok (t ++ [120]) (by rw [List.length_append]; show t.length + 1 ≤ _; omega)) (fun v G1 hq => ?_)
      obtain ⟨p2, q2, rfl, rfl⟩ := hq
      simp only [List.cons_append, List.nil_append]
      refine .rd (.move rfl) ?_
      refine .rd (.extract rfl rfl) ?_
      refine .rd (.extract rfl rfl) ?_
      refine .ef (.alloc ti39 rfl (ones.of rfl)) ?_
      rintro _ _ ⟨b24, rfl, rfl⟩
      refine .ef0 (.storeAll (vs := Met.cells (readMeta (t ++ [120])).1 p2 q2) ts39 rfl rfl rfl .head rfl (ones.of rfl)) ?_
      rintro _ _ rfl
      refine .rd (.assign rfl) ?_
      refine .nil ?_
      refine .seq ?_
      refine .region ?_   -- R19 law.go:129
      refine .rd (.move rfl) ?_
      refine .rd (.move rfl) ?_
      refine .on (t := 130) rfl rfl ?_
      refine .rd (.move rfl) ?_
      refine .on (t := 130) rfl rfl ?_
      refine .rd (.eqI rfl rfl) ?_
      refine .alter (t := 132) (v' := .bool true) rfl (congrArg Value.bool (decide_eq_true (by first | rfl | decide))) ?_
      refine .rd (.pickT rfl rfl) ?_
      refine .rd (.move rfl) ?_
      refine .on (t := 134) rfl rfl ?_
      refine .rd (.move rfl) ?_
      refine .on (t := 134) rfl rfl ?_
      refine .rd (.lenT rfl rfl Try.underlying9 rfl) ?_
      refine .on (t := 134) rfl rfl ?_
      refine .rd (.le rfl rfl) ?_
      refine .alter (t := 137) (v' := .bool true) rfl (congrArg Value.bool (decide_eq_true (by omega))) ?_
      refine .rd (.pickT rfl rfl) ?_
      refine .rd (.move rfl) ?_
      refine .on (t := 139) rfl rfl ?_
      refine .rd (.move rfl) ?_
      refine .on (t := 139) rfl rfl ?_
      refine .rd (.neI rfl rfl) ?_
      refine .alter (t := 141) (v' := .bool true) rfl (congrArg Value.bool (by simpa using hrx)) ?_
      refine .rd (.pickT rfl rfl) ?_
      refine .rd (.assign rfl) ?_
      refine .nil ?_
      refine .retP Try.func7 (.cons (.tmp rfl) .nil) (.cons (.tail (.tail (.tail (.tail (.tail (.tail (.tail (.tail .head)))))))) .nil) ?_
      exact ⟨[], ⟨rfl, rfl⟩, rfl⟩
  · refine .skip ?_
    refine .seq ?_
    refine .seq ?_
    refine .region ?_   -- R11 law.go:119
    refine .rd (.move rfl) ?_
    refine .rd (.eqI rfl rfl) ?_
    refine .rd (.ldN ia27 ts27 rfl (.tail .head) rfl) ?_
    refine .fn rfl rfl .nil (fun A w h => ((Knows.pick (.tail (.tail .head)) k) A w h).1) (Right_ok b a c hf) (fun v G1 hq => ?_)
    obtain ⟨rfl, rfl⟩ := hq
    simp only [List.nil_append]
    refine .rd (.eqI rfl rfl) ?_
    refine .rd (.neB Try.underlying4 rfl rfl) ?_
    refine .alter (t := 105) (v' := .bool false) rfl (congrArg Value.bool (by rw [wbatch_err]; simp)) ?_
    refine .nil ?_
    refine .condF rfl ?_
    refine .skip ?_
    refine .seq ?_
    refine .region ?_   -- R13 law.go:122
    refine .rd (.ldN ia39 ts39 rfl .head rfl) ?_
    refine .fn rfl rfl .nil (fun A w h => ((Knows.pick (.tail (.tail .head)) k) A w h).2) (Meta_ok m p q hm) (fun v G1 hq => ?_)
    obtain ⟨rfl, rfl⟩ := hq
    simp only [List.nil_append]
    refine .rd (.move rfl) ?_
    refine .rd (.extract rfl rfl) ?_
    refine .rd (.extract rfl rfl) ?_
    refine .rd (.assign rfl) ?_
    refine .rd (.assign rfl) ?_
    refine .nil ?_
    refine .seq ?_
    refine .seq ?_
    refine .region ?_   -- R14 law.go:123
    refine .rd (.move rfl) ?_
    refine .rd (.neI rfl rfl) ?_
    refine .nil ?_
    refine .condN rfl (fun h14 => ?_) (fun h14 => ?_)
    · refine .seq ?_
      refine .region ?_   -- R15 law.go:124
      refine .rd (.move rfl) ?_
      refine .rd (.eqT (m := []) rfl rfl) ?_
      refine .alter (t := 114) (v' := .bool true) rfl (congrArg Value.bool (decide_eq_true (wmeta_not h14))) ?_
      refine .rd (.assign rfl) ?_
      refine .nil ?_
      refine .retP Try.func7 (.cons (.tmp rfl) .nil) (.cons (.tail (.tail .head)) .nil) ?_
      exact ⟨[], ⟨rfl, rfl⟩, rfl⟩
    · obtain ⟨hms, hml, hme⟩ := wmeta_zero h14
      have hrm := read_meta hm h14
      have hrx := read_meta_more hm h14 120
      have htl : (wmeta m).1.length ≤ 2048 := by rw [hme, List.length_append, fours_len]; omega
      generalize (wmeta m).1 = t at hrm hrx htl ⊢
      refine .skip ?_
      refine .seq ?_
      refine .region ?_   -- R16 law.go:126
      refine .rd (.move rfl) ?_
      refine .fn rfl rfl .nil (fun _ _ _ => trivial) (ReadMeta_ok t (by omega)) (fun v G1 hq => ?_)
      obtain ⟨p1, q1, rfl, rfl⟩ := hq
      simp only [List.cons_append, List.nil_append]
      rw [hrm]
      refine .rd (.move rfl) ?_
      refine .rd (.extract rfl rfl) ?_
      refine .rd (.extract rfl rfl) ?_
      refine .ef (.alloc ti39 rfl (ones.of rfl)) ?_
      rintro _ _ ⟨b21, rfl, rfl⟩
      refine .ef0 (.storeAll (vs := Met.cells m p1 q1) ts39 rfl rfl rfl .head rfl (ones.of rfl)) ?_
      rintro _ _ rfl
      refine .rd (.assign rfl) ?_
      refine .nil ?_
      refine .seq ?_
      refine .region ?_   -- R17 law.go:127
      refine .rd (.ldN ia39 ts39 rfl .head rfl) ?_
      refine .rd (.ldN ia39 ts39 rfl (.tail (.tail .head)) rfl) ?_
      refine .fn rfl rfl .nil (fun A w h => ⟨(Knows.arr (.tail .head)) A w h, ((Knows.pick (.tail (.tail (.tail (.tail .head)))) k) A w h).2⟩) (alike_ok m m p1 p q1 q (by have := hm.len; omega) (by have := hm.len; omega)) (fun v G1 hq => ?_)
      obtain ⟨r, rfl, hrr, rfl⟩ := hq
      simp only [List.nil_append]
      obtain rfl : r = true := hrr.2 rfl
      refine .rd (.assign rfl) ?_
      refine .nil ?_
      refine .seq ?_
      refine .region ?_   -- R18 law.go:128
      refine .rd (.move rfl) ?_
      refine .rd (.catT (m := [120]) rfl rfl (by show t.length + 1 ≤ _; omega)) ?_
      refine .fn rfl rfl .nil (fun _ _ _ => trivial) (ReadMeta_ok (t ++ [120]) (by rw [List.length_append]; show t.length + 1 ≤ _; omega)) (fun v G1 hq => ?_)
      obtain ⟨p2, q2, rfl, rfl⟩ := hq
      simp only [List.cons_append, List.nil_append]
      refine .rd (.move rfl) ?_
      refine .rd (.extract rfl rfl) ?_
      refine .rd (.extract rfl rfl) ?_
      refine .ef (.alloc ti39 rfl (ones.of rfl)) ?_
      rintro _ _ ⟨b24, rfl, rfl⟩
      refine .ef0 (.storeAll (vs := Met.cells (readMeta (t ++ [120])).1 p2 q2) ts39 rfl rfl rfl .head rfl (ones.of rfl)) ?_
      rintro _ _ rfl
      refine .rd (.assign rfl) ?_
      refine .nil ?_
      refine .seq ?_
      refine .region ?_   -- R19 law.go:129
      refine .rd (.move rfl) ?_
      refine .rd (.move rfl) ?_
      refine .on (t := 130) rfl rfl ?_
      refine .rd (.move rfl) ?_
      refine .on (t := 130) rfl rfl ?_
      refine .rd (.eqI rfl rfl) ?_
      refine .alter (t := 132) (v' := .bool true) rfl (congrArg Value.bool (decide_eq_true (by first | rfl | decide))) ?_
      refine .rd (.pickT rfl rfl) ?_
      refine .rd (.move rfl) ?_
      refine .on (t := 134) rfl rfl ?_
      refine .rd (.move rfl) ?_
      refine .on (t := 134) rfl rfl ?_
      refine .rd (.lenT rfl rfl Try.underlying9 rfl) ?_
      refine .on (t := 134) rfl rfl ?_
      refine .rd (.le rfl rfl) ?_
      refine .alter (t := 137) (v' := .bool true) rfl (congrArg Value.bool (decide_eq_true (by omega))) ?_
      refine .rd (.pickT rfl rfl) ?_
      refine .rd (.move rfl) ?_
      refine .on (t := 139) rfl rfl ?_
      refine .rd (.move rfl) ?_
      refine .on (t := 139) rfl rfl ?_
      refine .rd (.neI rfl rfl) ?_
      refine .alter (t := 141) (v' := .bool true) rfl (congrArg Value.bool (by simpa using hrx)) ?_
      refine .rd (.pickT rfl rfl) ?_
      refine .rd (.assign rfl) ?_
      refine .nil ?_
      refine .retP Try.func7 (.cons (.tmp rfl) .nil) (.cons (.tail (.tail (.tail (.tail (.tail (.tail .head)))))) .nil) ?_
      exact ⟨[], ⟨rfl, rfl⟩, rfl⟩

end Go.Proofs.Ytllpkagplfmlbaa

