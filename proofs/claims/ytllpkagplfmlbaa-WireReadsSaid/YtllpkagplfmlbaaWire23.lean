/- Steps through functions of the program, under conditions that each theorem states (part wire23 of a claim). -/
import Derived.Test.YtllpkagplfmlbaaProg
import Derived.Test.YtllpkagplfmlbaaL15
import Derived.Test.YtllpkagplfmlbaaDefs3m
import Derived.Test.YtllpkagplfmlbaaWire0
import Derived.Test.YtllpkagplfmlbaaWire14
import Derived.Test.YtllpkagplfmlbaaWire15
import Derived.Test.YtllpkagplfmlbaaWire17
import Derived.Test.YtllpkagplfmlbaaWire18
import Derived.Test.YtllpkagplfmlbaaWire19
import Derived.Test.YtllpkagplfmlbaaWire20
namespace Go.Proofs.Ytllpkagplfmlbaa
open Go Go.Sp

set_option linter.unusedVariables false

namespace wire23
theorem ti9 : TI Try.prog 9 1 16 (.string ⟨#[]⟩) := .of (by kernel_rfl)
theorem ts9 : TS Try.prog 9 1 := .of (by kernel_rfl)
theorem na9 : NotAgg Try.prog 9 := ⟨_, Try.underlying9, trivial⟩
theorem ti27 : TI Try.prog 27 6 64 (.agg #[.int .i64 0, .int .i64 0, .int .i64 0, .int .i64 0, .int .i64 0, .slice none 0 0]) := .of (by kernel_rfl)
theorem ts27 : TS Try.prog 27 6 := .of (by kernel_rfl)
theorem ia27 : IsAgg Try.prog 27 := ⟨_, Try.underlying27, trivial⟩
theorem ti39 : TI Try.prog 39 8 96 (.agg #[.int .i64 0, .int .i64 0, .int .i64 0, .int .i64 0, .int .i64 0, .string ⟨#[]⟩, .string ⟨#[]⟩, .slice none 0 0]) := .of (by kernel_rfl)
theorem ts39 : TS Try.prog 39 8 := .of (by kernel_rfl)
theorem ia39 : IsAgg Try.prog 39 := ⟨_, Try.underlying39, trivial⟩
end wire23
open wire23

def three (l : List UInt8) : List (List UInt8) := [l, fours l.length ++ fours (crc l).toNat ++ l, fours (crc l).toNat ++ l]
def scell (l : List UInt8) : List Value := [.string (str l)]
theorem scell_len (l : List UInt8) : (scell l).length = 1 := rfl
theorem three_len {l x : List UInt8} (h : x ∈ three l) : x.length ≤ l.length + 8 := by
  simp only [three, List.mem_cons, List.not_mem_nil, or_false] at h
  rcases h with rfl | rfl | rfl
  · omega
  · simp only [List.length_append, fours_len]; omega
  · simp only [List.length_append, fours_len]; omega
theorem fill3s (a b c : ByteArray) : Instr.fill (fun i => some (i * 1, 1)) (madeCells (Value.string ⟨#[]⟩).cells (3 * 1)) [(0, .string a), (1, .string b), (2, .string c)] = some ([.string a, .string b, .string c] : List Value).toArray := by kernel_rfl
theorem readBatch_many (x : List UInt8) : (readBatch x).1.recs.length ≤ 140737488351232 := by
  have h0 : zeroB.recs.length ≤ 140737488351232 := by decide
  unfold readBatch
  split
  · exact h0
  · split
    · exact h0
    · split
      · exact h0
      · split
        · exact h0
        · split
          · rename_i b hb
            obtain ⟨xs, n, rs, _, _, hr, rfl⟩ := pBatch_inv hb
            have := right_many hr
            show (bat xs rs).recs.length ≤ _
            omega
          · exact h0
theorem pMany_len {α : Type} {p : List UInt8 → Par α} : ∀ (n : Nat) {l : List UInt8} {y}, pMany p n l = some y → y.1.length = n
  | 0, _, _, h => by cases h; rfl
  | n + 1, l, y, h => by
    rw [pMany, Option.bind_eq_some_iff] at h
    obtain ⟨z, hz, h⟩ := h
    rw [Option.map_eq_some_iff] at h
    obtain ⟨w, _, rfl⟩ := h
    have := pMany_len n hz
    simp [this]
theorem readMeta_many (x : List UInt8) : (readMeta x).1.list.length ≤ 140737488351232 := by
  have h0 : zeroM.list.length ≤ 140737488351232 := by decide
  unfold readMeta
  split
  · exact h0
  · split
    · exact h0
    · split
      · exact h0
      · split
        · rename_i m hm
          unfold pMeta at hm
          rw [Option.bind_eq_some_iff] at hm
          obtain ⟨z, _, hm⟩ := hm
          split at hm
          · rename_i hz
            rw [Option.bind_eq_some_iff] at hm
            obtain ⟨y, hy, hm⟩ := hm
            split at hm
            · cases hm
              have := pMany_len _ hy
              show y.1.length ≤ _
              omega
            · cases hm
          · cases hm
        · exact h0

set_option maxHeartbeats 1000000 in
set_option maxRecDepth 20000 in
theorem WireReads_ok (l : List UInt8) (hl : l.length ≤ 9000000000000000000) : Cn Try.prog 6 [.string (str l)] (fun _ => True) [] fun v G => v = .bool true ∧ G = [] := by
  refine .enter Try.func6 rfl (by kernel_rfl) rfl fun R k => ?_
  refine .seq ?_
  refine .region ?_   -- R0 law.go:76
  refine .rd (.assign rfl) ?_
  refine .nil ?_
  refine .seq ?_
  refine .region ?_   -- R1 law.go:77
  refine .fn rfl rfl .nil (fun _ _ _ => trivial) (shown_ok) (fun v G1 hq => ?_)
  obtain ⟨rfl, rfl⟩ := hq
  simp only [List.nil_append]
  refine .rd (.assign rfl) ?_
  refine .nil ?_
  refine .seq ?_
  refine .seq ?_
  refine .region ?_   -- R2 law.go:78
  refine .rd (.move rfl) ?_
  refine .rd (.lenT rfl rfl Try.underlying9 rfl) ?_
  refine .rd (.gt rfl rfl) ?_
  refine .nil ?_
  refine .condP rfl (fun h2 => ?_) (fun h2 => ?_)
  · refine .seq ?_
    refine .region ?_   -- R3 law.go:79
    refine .rd (.move rfl) ?_
    refine .rd (.assign rfl) ?_
    refine .nil ?_
    refine .retP Try.func6 (.cons (.tmp rfl) .nil) (.cons .head .nil) ?_
    exact ⟨[], ⟨rfl, rfl⟩, rfl⟩
  · refine .skip ?_
    refine .seq ?_
    have hcl : (crc l).toNat < 1000000000000000 := by have := (crc l).isLt; omega
    refine .region ?_   -- R4 law.go:81
    refine .rd (.move rfl) ?_
    refine .rd (.move rfl) ?_
    refine .rd (.lenT rfl rfl Try.underlying9 rfl) ?_
    refine .fn rfl rfl .nil (fun _ _ _ => trivial) (Four_ok l.length (by omega)) (fun v G1 hq => ?_)
    obtain ⟨rfl, rfl⟩ := hq
    simp only [List.nil_append]
    refine .rd (.move rfl) ?_
    refine .fn rfl rfl .nil (fun _ _ _ => trivial) (rCrc_ok l hl) (fun v G1 hq => ?_)
    obtain ⟨rfl, rfl⟩ := hq
    simp only [List.nil_append]
    refine .fn rfl rfl .nil (fun _ _ _ => trivial) (Four_ok (crc l).toNat hcl) (fun v G1 hq => ?_)
    obtain ⟨rfl, rfl⟩ := hq
    simp only [List.nil_append]
    refine .rd (.catT rfl rfl (by simp only [fours_len]; omega)) ?_
    refine .rd (.move rfl) ?_
    refine .rd (.catT rfl rfl (by simp only [List.length_append, fours_len]; omega)) ?_
    refine .rd (.move rfl) ?_
    refine .fn rfl rfl .nil (fun _ _ _ => trivial) (rCrc_ok l hl) (fun v G1 hq => ?_)
    obtain ⟨rfl, rfl⟩ := hq
    simp only [List.nil_append]
    refine .fn rfl rfl .nil (fun _ _ _ => trivial) (Four_ok (crc l).toNat hcl) (fun v G1 hq => ?_)
    obtain ⟨rfl, rfl⟩ := hq
    simp only [List.nil_append]
    refine .rd (.move rfl) ?_
    refine .rd (.catT rfl rfl (by simp only [fours_len]; omega)) ?_
    refine .ef (.buildSlice (n := 3) (cs := [.string (str l), .string (str (fours l.length ++ fours (crc l).toNat ++ l)), .string (str (fours (crc l).toNat ++ l))]) Try.underlying43 ti9 rfl (by decide) (fill3s _ _ _) (ones.of rfl)) ?_
    rintro _ _ ⟨bs, rfl, rfl⟩
    refine .rd (.assign rfl) ?_
    refine .nil ?_
    refine .seq ?_
    refine .seq ?_
    refine .region ?_   -- R5 law.go:82
    refine .rd (.assign rfl) ?_
    refine .nil ?_
    refine .block ?_
    refine .loop (σ := Nat) (fun i => i ≤ 3) (fun i => 3 - i) (fun i => [(3, .bool true), (4, .slice (some ⟨bs, 0, none⟩) 3 3), (5, .int .i64 (i : Nat))]) (fun i => [blk bs ((three l).flatMap scell) 9, R]) 0 (Nat.zero_le _) (.cons rfl (.cons rfl (.cons rfl .nil))) (.cons .head (.cons .head .nil)) (fun i hI ih => ?_)
    refine .seq ?_
    refine .seq ?_
    refine .region ?_   -- R6 law.go:82
    refine .rd (.move rfl) ?_
    refine .rd (.move rfl) ?_
    refine .rd (.lenL rfl rfl Try.underlying43 rfl) ?_
    refine .rd (.lt rfl rfl) ?_
    refine .nil ?_
    refine .condP rfl (fun h6 => ?_) (fun h6 => ?_)
    · refine .skip ?_
      refine .seq ?_
      refine .block ?_
      refine .seq ?_
      have hlt : i < (three l).length := by show i < 3; omega
      obtain ⟨x, hx⟩ : ∃ x, (three l)[i]? = some x := ⟨_, List.getElem?_eq_getElem hlt⟩
      have hxl := three_len (List.mem_of_getElem? hx)
      refine .region ?_   -- R8 law.go:83
      refine .rd (.move rfl) ?_
      refine .rd (.move rfl) ?_
      refine .rd (.indexAddr Try.underlying43 ts9 rfl rfl (by omega) (by omega)) ?_
      refine .rd (.load na9 rfl (Knows.elem (f := scell) scell_len (by decide) ((Knows.blk .head).mono fun _ h => .inr ⟨bs, 0, rfl, h⟩) hx)) ?_
      refine .fn rfl rfl .nil (fun _ _ _ => trivial) (ReadBatch_ok x (by omega)) (fun v G1 hq => ?_)
      obtain ⟨p1, p1c, rfl, rfl⟩ := hq
      simp only [List.cons_append, List.nil_append]
      refine .rd (.move rfl) ?_
      refine .rd (.extract rfl rfl) ?_
      refine .rd (.extract rfl rfl) ?_
      refine .rd (.extract rfl rfl) ?_
      refine .ef (.alloc ti27 rfl (ones.of rfl)) ?_
      rintro _ _ ⟨b6, rfl, rfl⟩
      refine .ef0 (.storeAll (vs := Bat.cells (readBatch x).1 p1 p1c) ts27 rfl rfl rfl .head rfl (ones.of rfl)) ?_
      rintro _ _ rfl
      refine .rd (.assign rfl) ?_
      refine .rd (.assign rfl) ?_
      refine .nil ?_
      refine .seq ?_
      refine .region ?_   -- R9 law.go:84
      refine .rd (.move rfl) ?_
      refine .rd (.move rfl) ?_
      refine .rd (.indexAddr Try.underlying43 ts9 rfl rfl (by omega) (by omega)) ?_
      refine .rd (.load na9 rfl (Knows.elem (f := scell) scell_len (by decide) ((Knows.blk (.tail (.tail .head))).mono fun _ h => .inr ⟨bs, 0, rfl, h⟩) hx)) ?_
      refine .fn rfl rfl .nil (fun _ _ _ => trivial) (rReadBatch_ok x (by omega)) (fun v G1 hq => ?_)
      obtain ⟨p2, p2c, rfl, rfl⟩ := hq
      simp only [List.cons_append, List.nil_append]
      refine .rd (.move rfl) ?_
      refine .rd (.extract rfl rfl) ?_
      refine .rd (.extract rfl rfl) ?_
      refine .rd (.extract rfl rfl) ?_
      refine .ef (.alloc ti27 rfl (ones.of rfl)) ?_
      rintro _ _ ⟨b9, rfl, rfl⟩
      refine .ef0 (.storeAll (vs := Bat.cells (readBatch x).1 p2 p2c) ts27 rfl rfl rfl .head rfl (ones.of rfl)) ?_
      rintro _ _ rfl
      refine .rd (.assign rfl) ?_
      refine .rd (.assign rfl) ?_
      refine .nil ?_
      refine .seq ?_
      refine .region ?_   -- R10 law.go:85
      refine .rd (.ldN ia27 ts27 rfl (.tail (.tail .head)) rfl) ?_
      refine .rd (.ldN ia27 ts27 rfl .head rfl) ?_
      refine .fn rfl rfl .nil (fun A w h => ⟨(Knows.arr (.tail (.tail (.tail .head)))) A w h, (Knows.arr (.tail .head)) A w h⟩) (same_ok (readBatch x).1 (readBatch x).1 p1 p2 p1c p2c (readBatch_many x) (readBatch_many x)) (fun v G1 hq => ?_)
      obtain ⟨r, rfl, hr, rfl⟩ := hq
      simp only [List.nil_append]
      obtain rfl : r = true := hr.2 rfl
      refine .rd (.assign rfl) ?_
      refine .nil ?_
      refine .seq ?_
      refine .region ?_   -- R11 law.go:86
      refine .rd (.move rfl) ?_
      refine .rd (.move rfl) ?_
      refine .rd (.indexAddr Try.underlying43 ts9 rfl rfl (by omega) (by omega)) ?_
      refine .rd (.load na9 rfl (Knows.elem (f := scell) scell_len (by decide) ((Knows.blk (.tail (.tail (.tail (.tail .head))))).mono fun _ h => .inr ⟨bs, 0, rfl, h⟩) hx)) ?_
      refine .fn rfl rfl .nil (fun _ _ _ => trivial) (ReadMeta_ok x (by omega)) (fun v G1 hq => ?_)
      obtain ⟨p3, p3c, rfl, rfl⟩ := hq
      simp only [List.cons_append, List.nil_append]
      refine .rd (.move rfl) ?_
      refine .rd (.extract rfl rfl) ?_
      refine .rd (.extract rfl rfl) ?_
      refine .ef (.alloc ti39 rfl (ones.of rfl)) ?_
      rintro _ _ ⟨b13, rfl, rfl⟩
      refine .ef0 (.storeAll (vs := Met.cells (readMeta x).1 p3 p3c) ts39 rfl rfl rfl .head rfl (ones.of rfl)) ?_
      rintro _ _ rfl
      refine .rd (.assign rfl) ?_
      refine .nil ?_
      refine .seq ?_
      refine .region ?_   -- R12 law.go:87
      refine .rd (.move rfl) ?_
      refine .rd (.move rfl) ?_
      refine .rd (.indexAddr Try.underlying43 ts9 rfl rfl (by omega) (by omega)) ?_
      refine .rd (.load na9 rfl (Knows.elem (f := scell) scell_len (by decide) ((Knows.blk (.tail (.tail (.tail (.tail (.tail (.tail .head))))))).mono fun _ h => .inr ⟨bs, 0, rfl, h⟩) hx)) ?_
      refine .fn rfl rfl .nil (fun _ _ _ => trivial) (rReadMeta_ok x (by omega)) (fun v G1 hq => ?_)
      obtain ⟨p4, p4c, rfl, rfl⟩ := hq
      simp only [List.cons_append, List.nil_append]
      refine .rd (.move rfl) ?_
      refine .rd (.extract rfl rfl) ?_
      refine .rd (.extract rfl rfl) ?_
      refine .ef (.alloc ti39 rfl (ones.of rfl)) ?_
      rintro _ _ ⟨b15, rfl, rfl⟩
      refine .ef0 (.storeAll (vs := Met.cells (readMeta x).1 p4 p4c) ts39 rfl rfl rfl .head rfl (ones.of rfl)) ?_
      rintro _ _ rfl
      refine .rd (.assign rfl) ?_
      refine .nil ?_
      refine .seq ?_
      refine .region ?_   -- R13 law.go:88
      refine .rd (.ldN ia39 ts39 rfl (.tail (.tail .head)) rfl) ?_
      refine .rd (.ldN ia39 ts39 rfl .head rfl) ?_
      refine .fn rfl rfl .nil (fun A w h => ⟨(Knows.arr (.tail (.tail (.tail .head)))) A w h, (Knows.arr (.tail .head)) A w h⟩) (alike_ok (readMeta x).1 (readMeta x).1 p3 p4 p3c p4c (readMeta_many x) (readMeta_many x)) (fun v G1 hq => ?_)
      obtain ⟨r, rfl, hr, rfl⟩ := hq
      simp only [List.nil_append]
      obtain rfl : r = true := hr.2 rfl
      refine .rd (.assign rfl) ?_
      refine .nil ?_
      refine .seq ?_
      refine .region ?_   -- R14 law.go:89
      refine .rd (.move rfl) ?_
      refine .rd (.not rfl) ?_
      refine .rd (.move rfl) ?_
      refine .on (t := 87) rfl rfl ?_
      refine .rd (.move rfl) ?_
      refine .on (t := 87) rfl rfl ?_
      refine .rd (.not rfl) ?_
      refine .rd (.pickF rfl rfl) ?_
      refine .rd (.move rfl) ?_
      refine .on (t := 91) rfl rfl ?_
      refine .rd (.move rfl) ?_
      refine .on (t := 91) rfl rfl ?_
      refine .rd (.move rfl) ?_
      refine .on (t := 91) rfl rfl ?_
      refine .rd (.neI rfl rfl) ?_
      refine .alter (t := 94) (v' := .bool false) rfl (congrArg Value.bool (by simp)) ?_
      refine .rd (.pickF rfl rfl) ?_
      refine .rd (.move rfl) ?_
      refine .on (t := 96) rfl rfl ?_
      refine .rd (.move rfl) ?_
      refine .on (t := 96) rfl rfl ?_
      refine .rd (.move rfl) ?_
      refine .on (t := 96) rfl rfl ?_
      refine .rd (.neI rfl rfl) ?_
      refine .alter (t := 99) (v' := .bool false) rfl (congrArg Value.bool (by simp)) ?_
      refine .rd (.pickF rfl rfl) ?_
      refine .rd (.move rfl) ?_
      refine .on (t := 101) rfl rfl ?_
      refine .rd (.move rfl) ?_
      refine .on (t := 101) rfl rfl ?_
      refine .rd (.move rfl) ?_
      refine .on (t := 101) rfl rfl ?_
      refine .rd (.neI rfl rfl) ?_
      refine .alter (t := 104) (v' := .bool false) rfl (congrArg Value.bool (by simp)) ?_
      refine .rd (.pickF rfl rfl) ?_
      refine .nil ?_
      refine .condF rfl ?_
      refine .skip ?_
      refine .inBlock ?_
      refine .region ?_   -- R7 law.go:82
      refine .rd (.move rfl) ?_
      refine .rd (.add rfl rfl (by omega) (by omega)) ?_
      refine .rd (.assign rfl) ?_
      refine .nil ?_
      exact (ih (i + 1) (by omega) (by omega)).to (.cons rfl (.cons rfl (.cons rfl .nil))) (.cons (.tail (.tail (.tail (.tail (.tail (.tail (.tail (.tail .head)))))))) (.cons (.tail (.tail (.tail (.tail (.tail (.tail (.tail (.tail .head)))))))) .nil))
    · refine .exit rfl ?_
      refine .seq ?_
      refine .region ?_   -- R16 law.go:93
      refine .rd (.move rfl) ?_
      refine .rd (.assign rfl) ?_
      refine .nil ?_
      refine .retP Try.func6 (.cons (.tmp rfl) .nil) (.cons (.tail .head) .nil) ?_
      exact ⟨[], ⟨rfl, rfl⟩, rfl⟩

end Go.Proofs.Ytllpkagplfmlbaa

