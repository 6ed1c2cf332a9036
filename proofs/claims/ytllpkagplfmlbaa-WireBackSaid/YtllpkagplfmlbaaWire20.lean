/- Steps through functions of the program, under conditions that each theorem states (part wire20 of a claim). -/
import Derived.Test.YtllpkagplfmlbaaProg
import Derived.Test.YtllpkagplfmlbaaDefs3l
import Derived.Test.YtllpkagplfmlbaaWire2
import Derived.Test.YtllpkagplfmlbaaWire3
import Derived.Test.YtllpkagplfmlbaaWire14
namespace Go.Proofs.Ytllpkagplfmlbaa
open Go Go.Sp

set_option linter.unusedVariables false

namespace wire20
theorem bld65_0_2 (x0 : ByteArray) (x1 : Int) (w : World) : (Instr.build 65 (([0, 2] : List Nat).zip [.string x0, .int .i64 x1]).toArray).run Try.prog w = .ok (.agg #[.string x0, .string ⟨#[]⟩, .int .i64 x1]) w := by kernel_rfl
theorem ti65 : TI Try.prog 65 3 40 (.agg #[.string ⟨#[]⟩, .string ⟨#[]⟩, .int .i64 0]) := .of (by kernel_rfl)
theorem bld27_0_5 (x0 : Int) (x1a : Option Addr) (x1n : Nat) (x1c : Nat) (w : World) : (Instr.build 27 (([0, 5] : List Nat).zip [.int .i64 x0, .slice x1a x1n x1c]).toArray).run Try.prog w = .ok (.agg #[.int .i64 x0, .int .i64 0, .int .i64 0, .int .i64 0, .int .i64 0, .slice x1a x1n x1c]) w := by kernel_rfl
theorem ti27 : TI Try.prog 27 6 64 (.agg #[.int .i64 0, .int .i64 0, .int .i64 0, .int .i64 0, .int .i64 0, .slice none 0 0]) := .of (by kernel_rfl)
theorem ts27 : TS Try.prog 27 6 := .of (by kernel_rfl)
theorem fd27_0 : FD Try.prog 27 0 0 := .of Try.underlying27 (by kernel_rfl)
theorem na3 : NotAgg Try.prog 3 := ⟨_, Try.underlying3, trivial⟩
theorem fd27_5 : FD Try.prog 27 5 5 := .of Try.underlying27 (by kernel_rfl)
theorem na25 : NotAgg Try.prog 25 := ⟨_, Try.underlying25, trivial⟩
end wire20
open wire20

def EB : Bat := ⟨5, 0, 0, 0, 0, [⟨[107], [], 3⟩]⟩
theorem EB_fits : EB.fits := by
  refine ⟨⟨by decide, by decide⟩, ⟨by decide, by decide⟩, ⟨by decide, by decide⟩, ⟨by decide, by decide⟩, ⟨by decide, by decide⟩, ?_, ?_, ?_, by decide⟩
  all_goals (intro r hr; simp only [EB, List.mem_cons, List.not_mem_nil, or_false] at hr; subst hr)
  · exact ⟨by decide, by decide⟩
  · decide
  · decide
theorem EB_body : body EB = [10, 0, 0, 0, 0, 2, 6, 2, 107, 0] := by
  have h : ∀ z : Nat, z < 128 → vint z = [UInt8.ofNat z] := fun z h => vint_small h
  simp only [body, EB, recBody, eint, List.flatMap_cons, List.flatMap_nil, List.length_cons, List.length_nil]
  rw [h (zig 5) (by decide), h (zig 0) (by decide), h (zig 3) (by decide), h (zig ((0 + 1 : Nat) : Int)) (by decide), h (zig ((0 : Nat) : Int)) (by decide)]
  rfl
theorem EB_right : right EB = 0 := by
  unfold right
  rw [EB_body]
  rw [if_neg (by decide), if_neg (by rintro ⟨r, hr, h⟩; simp only [EB, List.mem_cons, List.not_mem_nil, or_false] at hr; subst hr; exact h ⟨by decide, by decide⟩), if_neg (by decide), if_neg (by rintro ⟨r, hr, h⟩; simp only [EB, List.mem_cons, List.not_mem_nil, or_false] at hr; subst hr; exact absurd h (by decide)), if_neg (by decide), if_neg (by decide)]
theorem EB_len : (wbatch EB).1.length = 18 := by rw [wbatch_len EB_right, EB_body]; rfl
theorem EB_drop : (wbatch EB).1.drop 8 = [10, 0, 0, 0, 0, 2, 6, 2, 107, 0] := by
  rw [wbatch_yes EB_right]
  show (fours (body EB).length ++ fours (crc (body EB)).toNat ++ body EB).drop 8 = _
  rw [List.drop_left' (by rfl), EB_body]
theorem EB_two : (wbatch EB).2 = 0 := by rw [wbatch_yes EB_right]
theorem EB_read : readBatch ((wbatch EB).1 ++ [109, 111, 114, 101]) = (EB, 18, 0) := by rw [read_write EB_fits EB_right, EB_len]; rfl
theorem ex_int1 : rint [128, 1, 9] = (64, 2, 0) := by decide +kernel
theorem ex_int2 : rint [128, 0] = (0, 0, 4) := by decide +kernel
theorem ex_crc : (crc [49, 50, 51, 52, 53, 54, 55, 56, 57]).toNat = 3808858755 := by decide +kernel
theorem ex_eint : eint (-65) = [129, 1] := by
  unfold eint
  rw [vint_big (by decide), vint_small (by decide)]; rfl

set_option maxHeartbeats 1000000 in
set_option maxRecDepth 20000 in
theorem shown_ok : Cn Try.prog 13 [] (fun _ => True) [] fun v G => v = .bool true ∧ G = [] := by
  refine .enter Try.func13 rfl (by kernel_rfl) rfl fun R k => ?_
  refine .seq ?_
  refine .region ?_   -- R0 law.go:45
  refine .rd (.assign rfl) ?_
  refine .nil ?_
  refine .seq ?_
  refine .region ?_   -- R1 law.go:46
  refine .fn rfl rfl .nil (fun _ _ _ => trivial) (ReadInt_ok [128, 1, 9] (by decide)) (fun v G1 hq => ?_)
  obtain ⟨rfl, rfl⟩ := hq
  simp only [List.nil_append]
  rw [ex_int1]
  refine .rd (.move rfl) ?_
  refine .rd (.extract rfl rfl) ?_
  refine .rd (.extract rfl rfl) ?_
  refine .rd (.extract rfl rfl) ?_
  refine .rd (.assign rfl) ?_
  refine .rd (.assign rfl) ?_
  refine .rd (.assign rfl) ?_
  refine .nil ?_
  refine .seq ?_
  refine .region ?_   -- R2 law.go:47
  refine .fn rfl rfl .nil (fun _ _ _ => trivial) (ReadInt_ok [128, 0] (by decide)) (fun v G1 hq => ?_)
  obtain ⟨rfl, rfl⟩ := hq
  simp only [List.nil_append]
  rw [ex_int2]
  refine .rd (.move rfl) ?_
  refine .rd (.extract rfl rfl) ?_
  refine .rd (.extract rfl rfl) ?_
  refine .rd (.extract rfl rfl) ?_
  refine .rd (.assign rfl) ?_
  refine .rd (.assign rfl) ?_
  refine .rd (.assign rfl) ?_
  refine .nil ?_
  refine .seq ?_
  refine .region ?_   -- R3 law.go:48
  refine .rd (.build rfl (bld65_0_2 _ _)) ?_
  refine .ef (.buildOne (cs := Rec.cells ⟨[107], [], 3⟩) Try.underlying25 ti65 (by decide) rfl rfl rfl (ones.of rfl)) ?_
  rintro _ _ ⟨bs, rfl, rfl⟩
  refine .rd (.build rfl (bld27_0_5 _ _ _ _)) ?_
  refine .fn rfl rfl .nil ((Knows.blk .head).mono fun _ h => .inr ⟨bs, 0, rfl, h⟩) (Batch_ok EB (some ⟨bs, 0, none⟩) 1 EB_fits) (fun v G1 hq => ?_)
  obtain ⟨rfl, rfl⟩ := hq
  simp only [List.nil_append]
  refine .rd (.move rfl) ?_
  refine .rd (.extract rfl rfl) ?_
  refine .rd (.extract rfl rfl) ?_
  refine .rd (.assign rfl) ?_
  refine .rd (.assign rfl) ?_
  refine .nil ?_
  refine .seq ?_
  have hl := EB_len
  have hd := EB_drop
  have hr := EB_read
  have h2 := EB_two
  generalize hw : wbatch EB = W at hl hd hr h2 ⊢
  obtain ⟨s, e⟩ := W
  dsimp only at hl hd hr h2 ⊢
  subst h2
  refine .region ?_   -- R4 law.go:49
  refine .rd (.move rfl) ?_
  refine .rd (.catT (m := [109, 111, 114, 101]) rfl rfl (by rw [hl]; decide)) ?_
  refine .fn rfl rfl .nil (fun _ _ _ => trivial) (ReadBatch_ok (s ++ [109, 111, 114, 101]) (by rw [List.length_append, hl]; decide)) (fun v G1 hq => ?_)
  obtain ⟨a', c', rfl, rfl⟩ := hq
  simp only [List.cons_append, List.nil_append]
  rw [hr]
  refine .rd (.move rfl) ?_
  refine .rd (.extract rfl rfl) ?_
  refine .rd (.extract rfl rfl) ?_
  refine .rd (.extract rfl rfl) ?_
  refine .ef (.alloc ti27 rfl (ones.of rfl)) ?_
  rintro _ _ ⟨b9, rfl, rfl⟩
  refine .ef0 (.storeAll (vs := EB.cells a' c') ts27 rfl rfl rfl .head rfl (ones.of rfl)) ?_
  rintro _ _ rfl
  refine .rd (.assign rfl) ?_
  refine .rd (.assign rfl) ?_
  refine .nil ?_
  refine .seq ?_
  refine .region ?_   -- R5 law.go:50
  refine .fn rfl rfl .nil (fun _ _ _ => trivial) (Crc_ok [49, 50, 51, 52, 53, 54, 55, 56, 57] (by decide)) (fun v G1 hq => ?_)
  obtain ⟨rfl, rfl⟩ := hq
  simp only [List.nil_append]
  rw [ex_crc]
  refine .rd (.eqI rfl rfl) ?_
  refine .alter (t := 37) (v' := .bool true) rfl (congrArg Value.bool (decide_eq_true (by first | rfl | decide))) ?_
  refine .rd (.move rfl) ?_
  refine .on (t := 38) rfl rfl ?_
  refine .fn rfl rfl .nil (fun _ _ _ => trivial) (Int_ok (-65) ⟨by decide, by decide⟩) (fun v G1 hq => ?_)
  obtain ⟨rfl, rfl⟩ := hq
  simp only [List.nil_append]
  rw [ex_eint]
  refine .on (t := 38) rfl rfl ?_
  refine .rd (.eqT (m := [129, 1]) rfl rfl) ?_
  refine .alter (t := 40) (v' := .bool true) rfl (congrArg Value.bool (decide_eq_true (by first | rfl | decide))) ?_
  refine .rd (.pickT rfl rfl) ?_
  refine .rd (.move rfl) ?_
  refine .on (t := 42) rfl rfl ?_
  refine .rd (.move rfl) ?_
  refine .on (t := 42) rfl rfl ?_
  refine .rd (.eqI rfl rfl) ?_
  refine .alter (t := 44) (v' := .bool true) rfl (congrArg Value.bool (decide_eq_true (by first | rfl | decide))) ?_
  refine .rd (.pickT rfl rfl) ?_
  refine .rd (.move rfl) ?_
  refine .on (t := 46) rfl rfl ?_
  refine .rd (.move rfl) ?_
  refine .on (t := 46) rfl rfl ?_
  refine .rd (.eqI rfl rfl) ?_
  refine .alter (t := 48) (v' := .bool true) rfl (congrArg Value.bool (decide_eq_true (by first | rfl | decide))) ?_
  refine .rd (.pickT rfl rfl) ?_
  refine .rd (.move rfl) ?_
  refine .on (t := 50) rfl rfl ?_
  refine .rd (.move rfl) ?_
  refine .on (t := 50) rfl rfl ?_
  refine .rd (.eqI rfl rfl) ?_
  refine .alter (t := 52) (v' := .bool true) rfl (congrArg Value.bool (decide_eq_true (by first | rfl | decide))) ?_
  refine .rd (.pickT rfl rfl) ?_
  refine .rd (.move rfl) ?_
  refine .on (t := 54) rfl rfl ?_
  refine .rd (.move rfl) ?_
  refine .on (t := 54) rfl rfl ?_
  refine .rd (.eqI rfl rfl) ?_
  refine .alter (t := 56) (v' := .bool true) rfl (congrArg Value.bool (decide_eq_true (by first | rfl | decide))) ?_
  refine .rd (.pickT rfl rfl) ?_
  refine .rd (.move rfl) ?_
  refine .on (t := 58) rfl rfl ?_
  refine .rd (.move rfl) ?_
  refine .on (t := 58) rfl rfl ?_
  refine .rd (.eqI rfl rfl) ?_
  refine .alter (t := 60) (v' := .bool true) rfl (congrArg Value.bool (decide_eq_true (by first | rfl | decide))) ?_
  refine .rd (.pickT rfl rfl) ?_
  refine .rd (.move rfl) ?_
  refine .on (t := 62) rfl rfl ?_
  refine .rd (.move rfl) ?_
  refine .on (t := 62) rfl rfl ?_
  refine .rd (.lenT rfl rfl Try.underlying9 rfl) ?_
  refine .on (t := 62) rfl rfl ?_
  refine .rd (.eqI rfl rfl) ?_
  refine .alter (t := 65) (v' := .bool true) rfl (by rw [decide_eq_true (by omega)]) ?_
  refine .rd (.pickT rfl rfl) ?_
  refine .rd (.move rfl) ?_
  refine .on (t := 67) rfl rfl ?_
  refine .rd (.move rfl) ?_
  refine .on (t := 67) rfl rfl ?_
  refine .rd (.sliceT (l := s) (a := 8) (h := s.length) Try.underlying9 rfl ⟨_, rfl⟩ rfl (by omega) (by omega)) ?_
  refine .alter (t := 69) (v' := .string (str [10, 0, 0, 0, 0, 2, 6, 2, 107, 0])) rfl (by rw [List.take_of_length_le (by rw [List.length_drop]; exact Nat.le_refl _), hd]) ?_
  refine .on (t := 67) rfl rfl ?_
  refine .rd (.eqT (m := [10, 0, 0, 0, 0, 2, 6, 2, 107, 0]) rfl rfl) ?_
  refine .alter (t := 70) (v' := .bool true) rfl (congrArg Value.bool (decide_eq_true (by first | rfl | decide))) ?_
  refine .rd (.pickT rfl rfl) ?_
  refine .rd (.move rfl) ?_
  refine .on (t := 72) rfl rfl ?_
  refine .rd (.move rfl) ?_
  refine .on (t := 72) rfl rfl ?_
  refine .rd (.eqI rfl rfl) ?_
  refine .alter (t := 74) (v' := .bool true) rfl (congrArg Value.bool (decide_eq_true (by first | rfl | decide))) ?_
  refine .rd (.pickT rfl rfl) ?_
  refine .rd (.move rfl) ?_
  refine .on (t := 76) rfl rfl ?_
  refine .rd (.move rfl) ?_
  refine .on (t := 76) rfl rfl ?_
  refine .rd (.eqI rfl rfl) ?_
  refine .alter (t := 78) (v' := .bool true) rfl (congrArg Value.bool (decide_eq_true (by first | rfl | decide))) ?_
  refine .rd (.pickT rfl rfl) ?_
  refine .rd (.move rfl) ?_
  refine .on (t := 80) rfl rfl ?_
  refine .rd (.fieldAddr fd27_0 rfl) ?_
  refine .on (t := 80) rfl rfl ?_
  refine .rd (.ld na3 rfl .head rfl) ?_
  refine .on (t := 80) rfl rfl ?_
  refine .rd (.eqI rfl rfl) ?_
  refine .alter (t := 83) (v' := .bool true) rfl (congrArg Value.bool (decide_eq_true (by first | rfl | decide))) ?_
  refine .rd (.pickT rfl rfl) ?_
  refine .rd (.move rfl) ?_
  refine .on (t := 85) rfl rfl ?_
  refine .rd (.fieldAddr fd27_5 rfl) ?_
  refine .on (t := 85) rfl rfl ?_
  refine .rd (.ld na25 rfl .head rfl) ?_
  refine .on (t := 85) rfl rfl ?_
  refine .rd (.lenL rfl rfl Try.underlying25 rfl) ?_
  refine .on (t := 85) rfl rfl ?_
  refine .rd (.eqI rfl rfl) ?_
  refine .alter (t := 89) (v' := .bool true) rfl (congrArg Value.bool (decide_eq_true (by first | rfl | decide))) ?_
  refine .rd (.pickT rfl rfl) ?_
  refine .rd (.assign rfl) ?_
  refine .nil ?_
  refine .retP Try.func13 (.cons (.tmp rfl) .nil) (.cons (.tail (.tail (.tail .head))) .nil) ?_
  exact ⟨[], ⟨rfl, rfl⟩, rfl⟩

end Go.Proofs.Ytllpkagplfmlbaa

