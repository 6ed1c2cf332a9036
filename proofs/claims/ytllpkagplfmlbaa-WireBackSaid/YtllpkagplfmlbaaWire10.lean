/- Steps through functions of the program, under conditions that each theorem states (part wire10 of a claim). -/
import Derived.Test.YtllpkagplfmlbaaProg
import Derived.Test.YtllpkagplfmlbaaL13
import Derived.Test.YtllpkagplfmlbaaDefs3f
import Derived.Test.YtllpkagplfmlbaaWire9
namespace Go.Proofs.Ytllpkagplfmlbaa
open Go Go.Sp

set_option linter.unusedVariables false

namespace wire10
theorem fd27_0 : FD Try.prog 27 0 0 := .of Try.underlying27 (by kernel_rfl)
theorem na3 : NotAgg Try.prog 3 := ⟨_, Try.underlying3, trivial⟩
theorem fd27_1 : FD Try.prog 27 1 1 := .of Try.underlying27 (by kernel_rfl)
theorem fd27_2 : FD Try.prog 27 2 2 := .of Try.underlying27 (by kernel_rfl)
theorem fd27_3 : FD Try.prog 27 3 3 := .of Try.underlying27 (by kernel_rfl)
theorem fd27_4 : FD Try.prog 27 4 4 := .of Try.underlying27 (by kernel_rfl)
theorem fd27_5 : FD Try.prog 27 5 5 := .of Try.underlying27 (by kernel_rfl)
theorem na25 : NotAgg Try.prog 25 := ⟨_, Try.underlying25, trivial⟩
theorem ts65 : TS Try.prog 65 3 := .of (by kernel_rfl)
theorem ia65 : IsAgg Try.prog 65 := ⟨_, Try.underlying65, trivial⟩
theorem ti65 : TI Try.prog 65 3 40 (.agg #[.string ⟨#[]⟩, .string ⟨#[]⟩, .int .i64 0]) := .of (by kernel_rfl)
theorem fd65_2 : FD Try.prog 65 2 2 := .of Try.underlying65 (by kernel_rfl)
theorem fd65_0 : FD Try.prog 65 0 0 := .of Try.underlying65 (by kernel_rfl)
theorem na9 : NotAgg Try.prog 9 := ⟨_, Try.underlying9, trivial⟩
theorem fd65_1 : FD Try.prog 65 1 1 := .of Try.underlying65 (by kernel_rfl)
end wire10
open wire10



set_option maxRecDepth 20000 in
theorem rbody_ok (b : Bat) (a : Option Addr) (c : Nat) (hf : b.fits) (hs : b.small) : Cn Try.prog 65 [.agg (b.cells a c).toArray] (RowAt a (b.recs.flatMap Rec.cells)) [] fun v G => v = .string (str (body b)) ∧ G = [] := by
  refine .enter Try.func65 rfl (by kernel_rfl) rfl fun R k => ?_
  refine .seq ?_
  refine .region ?_   -- R0 ref.go:75
  refine .ef (.box (l := b.cells a c) rfl rfl (ones.of rfl)) ?_
  rintro _ _ ⟨b1, rfl, rfl⟩
  refine .rd (.assign rfl) ?_
  refine .nil ?_
  refine .seq ?_
  have hsn := hs.n
  have hl6 : i64 (b.recs.length : Int) := ⟨by omega, by omega⟩
  have he2 := eint_len hf.base
  have he5 := eint_len hf.epoch
  have he9 := eint_len hf.pid
  have he13 := eint_len hf.pidEpoch
  have he17 := eint_len hf.seq
  have he22 := eint_len hl6
  refine .draws [1, 4, 8, 12, 16, 20] [blk b1 (b.cells a c) 27] (by kernel_rfl) ?_   -- R1 ref.go:76
  refine .rp 0 rfl (by kernel_rfl) (by kernel_rfl) (by kernel_rfl) (Reads.pure (.fieldAddr fd27_0 rfl)) ?_
  refine .rd 1 rfl rfl (by kernel_rfl) (by kernel_rfl) (by kernel_rfl) (.ld na3 rfl .head rfl) (.cons .head .nil) ?_
  refine .rp 3 rfl (by kernel_rfl) (by kernel_rfl) (by kernel_rfl) (Reads.pure (.fieldAddr fd27_1 rfl)) ?_
  refine .rd 4 rfl rfl (by kernel_rfl) (by kernel_rfl) (by kernel_rfl) (.ld na3 rfl .head rfl) (.cons .head .nil) ?_
  refine .rp 7 rfl (by kernel_rfl) (by kernel_rfl) (by kernel_rfl) (Reads.pure (.fieldAddr fd27_2 rfl)) ?_
  refine .rd 8 rfl rfl (by kernel_rfl) (by kernel_rfl) (by kernel_rfl) (.ld na3 rfl .head rfl) (.cons .head .nil) ?_
  refine .rp 11 rfl (by kernel_rfl) (by kernel_rfl) (by kernel_rfl) (Reads.pure (.fieldAddr fd27_3 rfl)) ?_
  refine .rd 12 rfl rfl (by kernel_rfl) (by kernel_rfl) (by kernel_rfl) (.ld na3 rfl .head rfl) (.cons .head .nil) ?_
  refine .rp 15 rfl (by kernel_rfl) (by kernel_rfl) (by kernel_rfl) (Reads.pure (.fieldAddr fd27_4 rfl)) ?_
  refine .rd 16 rfl rfl (by kernel_rfl) (by kernel_rfl) (by kernel_rfl) (.ld na3 rfl .head rfl) (.cons .head .nil) ?_
  refine .rp 19 rfl (by kernel_rfl) (by kernel_rfl) (by kernel_rfl) (Reads.pure (.fieldAddr fd27_5 rfl)) ?_
  refine .rd 20 rfl rfl (by kernel_rfl) (by kernel_rfl) (by kernel_rfl) (.ld na25 rfl .head rfl) (.cons .head .nil) ?_
  refine .rp 21 rfl (by kernel_rfl) (by kernel_rfl) (by kernel_rfl) (Reads.pure (.lenL rfl rfl Try.underlying25 rfl)) ?_
  refine .ef 2 (by kernel_rfl) rfl (.fn rfl rfl .nil (fun _ _ _ => trivial) (rInt_ok b.base hf.base)) ?_
  rintro v _ ⟨G1, hq, rfl⟩
  obtain ⟨rfl, rfl⟩ := hq
  simp only [List.nil_append]
  refine ⟨.inr ⟨_, (.cons .head .nil)⟩, ?_⟩
  refine .ef 5 (by kernel_rfl) rfl (.fn rfl rfl .nil (fun _ _ _ => trivial) (rInt_ok b.epoch hf.epoch)) ?_
  rintro v _ ⟨G1, hq, rfl⟩
  obtain ⟨rfl, rfl⟩ := hq
  simp only [List.nil_append]
  refine ⟨.inr ⟨_, (.cons .head .nil)⟩, ?_⟩
  refine .rp 6 rfl (by kernel_rfl) (by kernel_rfl) (by kernel_rfl) (Reads.pure (.catT rfl rfl (by omega))) ?_
  refine .ef 9 (by kernel_rfl) rfl (.fn rfl rfl .nil (fun _ _ _ => trivial) (rInt_ok b.pid hf.pid)) ?_
  rintro v _ ⟨G1, hq, rfl⟩
  obtain ⟨rfl, rfl⟩ := hq
  simp only [List.nil_append]
  refine ⟨.inr ⟨_, (.cons .head .nil)⟩, ?_⟩
  refine .rp 10 rfl (by kernel_rfl) (by kernel_rfl) (by kernel_rfl) (Reads.pure (.catT rfl rfl (by simp only [List.length_append]; omega))) ?_
  refine .ef 13 (by kernel_rfl) rfl (.fn rfl rfl .nil (fun _ _ _ => trivial) (rInt_ok b.pidEpoch hf.pidEpoch)) ?_
  rintro v _ ⟨G1, hq, rfl⟩
  obtain ⟨rfl, rfl⟩ := hq
  simp only [List.nil_append]
  refine ⟨.inr ⟨_, (.cons .head .nil)⟩, ?_⟩
  refine .rp 14 rfl (by kernel_rfl) (by kernel_rfl) (by kernel_rfl) (Reads.pure (.catT rfl rfl (by simp only [List.length_append]; omega))) ?_
  refine .ef 17 (by kernel_rfl) rfl (.fn rfl rfl .nil (fun _ _ _ => trivial) (rInt_ok b.seq hf.seq)) ?_
  rintro v _ ⟨G1, hq, rfl⟩
  obtain ⟨rfl, rfl⟩ := hq
  simp only [List.nil_append]
  refine ⟨.inr ⟨_, (.cons .head .nil)⟩, ?_⟩
  refine .rp 18 rfl (by kernel_rfl) (by kernel_rfl) (by kernel_rfl) (Reads.pure (.catT rfl rfl (by simp only [List.length_append]; omega))) ?_
  refine .ef 22 (by kernel_rfl) rfl (.fn rfl rfl .nil (fun _ _ _ => trivial) (rInt_ok (b.recs.length : Int) hl6)) ?_
  rintro v _ ⟨G1, hq, rfl⟩
  obtain ⟨rfl, rfl⟩ := hq
  simp only [List.nil_append]
  refine ⟨.inl (by kernel_rfl), ?_⟩
  refine .rp 23 rfl (by kernel_rfl) (by kernel_rfl) (by kernel_rfl) (Reads.pure (.catT rfl rfl (by simp only [List.length_append]; omega))) ?_
  refine .rp 24 rfl (by kernel_rfl) (by kernel_rfl) (by kernel_rfl) (Reads.pure (.assign rfl)) ?_
  refine .done (by kernel_rfl) ?_
  refine .alter (t := 3) (v' := .string (str ((eint b.base ++ eint b.epoch ++ eint b.pid ++ eint b.pidEpoch ++ eint b.seq ++ eint (b.recs.length : Int)) ++ (b.recs.take 0).flatMap recBody))) rfl (by rw [List.take_zero, List.flatMap_nil, List.append_nil]) ?_
  refine .seq ?_
  refine .seq ?_
  refine .region ?_   -- R2 ref.go:77
  refine .rd (.assign rfl) ?_
  refine .nil ?_
  refine .block ?_
  refine .loop (σ := Nat) (fun j => j ≤ b.recs.length) (fun j => b.recs.length - j) (fun j => [(1, .pointer (some ⟨b1, 0, none⟩)), (3, .string (str ((eint b.base ++ eint b.epoch ++ eint b.pid ++ eint b.pidEpoch ++ eint b.seq ++ eint (b.recs.length : Int)) ++ (b.recs.take j).flatMap recBody))), (4, .int .i64 (j : Nat))]) (fun j => [blk b1 (b.cells a c) 27, R]) 0 (Nat.zero_le _) (.cons rfl (.cons rfl (.cons rfl .nil))) (.cons .head (.cons .head .nil)) (fun j hI ih => ?_)
  refine .seq ?_
  refine .seq ?_
  refine .region ?_   -- R3 ref.go:77
  refine .rd (.move rfl) ?_
  refine .rd (.fieldAddr fd27_5 rfl) ?_
  refine .rd (.ld na25 rfl .head rfl) ?_
  refine .rd (.lenL rfl rfl Try.underlying25 rfl) ?_
  refine .rd (.lt rfl rfl) ?_
  refine .nil ?_
  refine .condP rfl (fun h3 => ?_) (fun h3 => ?_)
  · refine .skip ?_
    refine .seq ?_
    refine .block ?_
    refine .seq ?_
    have hjl : j < b.recs.length := by omega
    obtain ⟨r, hr⟩ : ∃ r, b.recs[j]? = some r := ⟨_, List.getElem?_eq_getElem hjl⟩
    have hrm := List.mem_of_getElem? hr
    obtain ⟨hk1, hk2⟩ := hs.k r hrm
    have hd2 := flat_le (f := recBody) (k := 2030) (b.recs.take j) fun x hx => recBody_len hf hs (List.mem_of_mem_take hx)
    have hd3 : (b.recs.take j).length ≤ 64 := by rw [List.length_take]; omega
    have hd4 : ((eint b.base ++ eint b.epoch ++ eint b.pid ++ eint b.pidEpoch ++ eint b.seq ++ eint (b.recs.length : Int)) ++ (b.recs.take j).flatMap recBody).length ≤ 200000 := by simp only [List.length_append]; omega
    have he1 := eint_len (hf.time r hrm)
    have hi2 : i64 (r.key.length : Int) := ⟨by omega, by omega⟩
    have hi3 : i64 (r.value.length : Int) := ⟨by omega, by omega⟩
    have he02 := eint_len hi2
    have he03 := eint_len hi3
    refine .tell (φ := ∃ b o, a = some ⟨b, o, none⟩) (Knows.pick (.tail .head) (k.mono fun _ h => h.addr (by rw [flat_length Rec.cells_len]; omega))) (fun hx => ?_)
    obtain ⟨bb, oo, rfl⟩ := hx
    generalize hD : ((eint b.base ++ eint b.epoch ++ eint b.pid ++ eint b.pidEpoch ++ eint b.seq ++ eint (b.recs.length : Int)) ++ (b.recs.take j).flatMap recBody) = D at hd4 ⊢
    refine .region ?_   -- R5 ref.go:78
    refine .rd (.fieldAddr fd27_5 rfl) ?_
    refine .rd (.ld na25 rfl .head rfl) ?_
    refine .rd (.move rfl) ?_
    refine .rd (.indexAddr Try.underlying25 ts65 rfl rfl (by omega) (by omega)) ?_
    refine .rd (.loadN ia65 ts65 rfl rfl (Knows.elem Rec.cells_len (by decide) (Knows.pick (.tail .head) k) hr)) ?_
    refine .ef (.alloc ti65 rfl (ones.of rfl)) ?_
    rintro _ _ ⟨b5, rfl, rfl⟩
    refine .ef0 (.storeAll (vs := r.cells) ts65 rfl rfl rfl .head rfl (ones.of rfl)) ?_
    rintro _ _ rfl
    refine .nil ?_
    refine .draws [2, 6, 11, 14, 19] [blk b5 r.cells 65] (by kernel_rfl) ?_   -- R6 ref.go:79
    refine .rp 0 rfl (by kernel_rfl) (by kernel_rfl) (by kernel_rfl) (Reads.pure (.move rfl)) ?_
    refine .rp 1 rfl (by kernel_rfl) (by kernel_rfl) (by kernel_rfl) (Reads.pure (.fieldAddr fd65_2 rfl)) ?_
    refine .rd 2 rfl rfl (by kernel_rfl) (by kernel_rfl) (by kernel_rfl) (.ld na3 rfl .head rfl) (.cons .head .nil) ?_
    refine .rp 5 rfl (by kernel_rfl) (by kernel_rfl) (by kernel_rfl) (Reads.pure (.fieldAddr fd65_0 rfl)) ?_
    refine .rd 6 rfl rfl (by kernel_rfl) (by kernel_rfl) (by kernel_rfl) (.ld na9 rfl .head rfl) (.cons .head .nil) ?_
    refine .rp 7 rfl (by kernel_rfl) (by kernel_rfl) (by kernel_rfl) (Reads.pure (.lenT rfl rfl Try.underlying9 rfl)) ?_
    refine .rp 10 rfl (by kernel_rfl) (by kernel_rfl) (by kernel_rfl) (Reads.pure (.fieldAddr fd65_0 rfl)) ?_
    refine .rd 11 rfl rfl (by kernel_rfl) (by kernel_rfl) (by kernel_rfl) (.ld na9 rfl .head rfl) (.cons .head .nil) ?_
    refine .rp 13 rfl (by kernel_rfl) (by kernel_rfl) (by kernel_rfl) (Reads.pure (.fieldAddr fd65_1 rfl)) ?_
    refine .rd 14 rfl rfl (by kernel_rfl) (by kernel_rfl) (by kernel_rfl) (.ld na9 rfl .head rfl) (.cons .head .nil) ?_
    refine .rp 15 rfl (by kernel_rfl) (by kernel_rfl) (by kernel_rfl) (Reads.pure (.lenT rfl rfl Try.underlying9 rfl)) ?_
    refine .rp 18 rfl (by kernel_rfl) (by kernel_rfl) (by kernel_rfl) (Reads.pure (.fieldAddr fd65_1 rfl)) ?_
    refine .rd 19 rfl rfl (by kernel_rfl) (by kernel_rfl) (by kernel_rfl) (.ld na9 rfl .head rfl) (.cons .head .nil) ?_
    refine .ef 3 (by kernel_rfl) rfl (.fn rfl rfl .nil (fun _ _ _ => trivial) (rInt_ok r.time (hf.time r hrm))) ?_
    rintro v _ ⟨G1, hq, rfl⟩
    obtain ⟨rfl, rfl⟩ := hq
    simp only [List.nil_append]
    refine ⟨.inr ⟨_, (.cons .head .nil)⟩, ?_⟩
    refine .rp 4 rfl (by kernel_rfl) (by kernel_rfl) (by kernel_rfl) (Reads.pure (.catT rfl rfl (by omega))) ?_
    refine .ef 8 (by kernel_rfl) rfl (.fn rfl rfl .nil (fun _ _ _ => trivial) (rInt_ok (r.key.length : Int) hi2)) ?_
    rintro v _ ⟨G1, hq, rfl⟩
    obtain ⟨rfl, rfl⟩ := hq
    simp only [List.nil_append]
    refine ⟨.inr ⟨_, (.cons .head .nil)⟩, ?_⟩
    refine .rp 9 rfl (by kernel_rfl) (by kernel_rfl) (by kernel_rfl) (Reads.pure (.catT rfl rfl (by simp only [List.length_append]; omega))) ?_
    refine .rp 12 rfl (by kernel_rfl) (by kernel_rfl) (by kernel_rfl) (Reads.pure (.catT rfl rfl (by simp only [List.length_append]; omega))) ?_
    refine .ef 16 (by kernel_rfl) rfl (.fn rfl rfl .nil (fun _ _ _ => trivial) (rInt_ok (r.value.length : Int) hi3)) ?_
    rintro v _ ⟨G1, hq, rfl⟩
    obtain ⟨rfl, rfl⟩ := hq
    simp only [List.nil_append]
    refine ⟨.inr ⟨_, (.cons .head .nil)⟩, ?_⟩
    refine .rp 17 rfl (by kernel_rfl) (by kernel_rfl) (by kernel_rfl) (Reads.pure (.catT rfl rfl (by simp only [List.length_append]; omega))) ?_
    refine .rp 20 rfl (by kernel_rfl) (by kernel_rfl) (by kernel_rfl) (Reads.pure (.catT rfl rfl (by simp only [List.length_append]; omega))) ?_
    refine .rp 21 rfl (by kernel_rfl) (by kernel_rfl) (by kernel_rfl) (Reads.pure (.assign rfl)) ?_
    refine .done (by kernel_rfl) ?_
    refine .inBlock ?_
    refine .region ?_   -- R4 ref.go:77
    refine .rd (.move rfl) ?_
    refine .rd (.add rfl rfl (by omega) (by omega)) ?_
    refine .rd (.assign rfl) ?_
    refine .nil ?_
    have hfin : D ++ eint r.time ++ eint (r.key.length : Int) ++ r.key ++ eint (r.value.length : Int) ++ r.value = (eint b.base ++ eint b.epoch ++ eint b.pid ++ eint b.pidEpoch ++ eint b.seq ++ eint (b.recs.length : Int)) ++ (b.recs.take (j + 1)).flatMap recBody := by rw [take_flat hr, ← hD]; simp only [recBody, List.append_assoc]
    exact (ih (j + 1) (by omega) (by omega)).to (.cons rfl (.cons (by show _ = some (Value.string (str ((eint b.base ++ eint b.epoch ++ eint b.pid ++ eint b.pidEpoch ++ eint b.seq ++ eint (b.recs.length : Int)) ++ (b.recs.take (j + 1)).flatMap recBody))); rw [← hfin]; rfl) (.cons rfl .nil))) (.cons (.tail .head) (.cons (.tail .head) .nil))
  · refine .exit rfl ?_
    refine .seq ?_
    refine .region ?_   -- R7 ref.go:81
    refine .rd (.move rfl) ?_
    refine .rd (.assign rfl) ?_
    refine .nil ?_
    obtain rfl : j = b.recs.length := by omega
    refine .retP Try.func65 (.cons (.tmp rfl) .nil) (.cons (.tail .head) .nil) ?_
    exact ⟨[], ⟨by simp only [resVal]; rw [List.take_length]; rfl, rfl⟩, rfl⟩

end Go.Proofs.Ytllpkagplfmlbaa

