/- Part 4 of a claim's texts: rules for the machine's steps, and steps through functions of the program, under the conditions that each theorem states. -/
import Derived.Test.YtllpkagplfmlbaaProg
import Derived.Test.YtllpkagplfmlbaaPart1
import Derived.Test.YtllpkagplfmlbaaPart2
import Derived.Test.YtllpkagplfmlbaaPart3
set_option linter.unusedVariables false
namespace Go.Proofs.Ytllpkagplfmlbaa
open Go Go.Sp

set_option linter.unusedVariables false

namespace rpc6
theorem fd54_20 : FD Try.prog 54 20 20 := .of Try.underlying54 (by kernel_rfl)
theorem na37 : NotAgg Try.prog 37 := ⟨_, Try.underlying37, trivial⟩
theorem ti3 : TI Try.prog 3 1 8 (.int .i64 0) := .of (by kernel_rfl)
theorem ts37 : TS Try.prog 37 1 := .of (by kernel_rfl)
theorem bld86_0 (x0 : Int) (w : World) : (Instr.build 86 (([0] : List Nat).zip [.int .i64 x0]).toArray).run Try.prog w = .ok (.agg #[.int .i64 x0, .int .i64 0, .string ⟨#[]⟩]) w := by kernel_rfl
theorem ti86 : TI Try.prog 86 3 32 (.agg #[.int .i64 0, .int .i64 0, .string ⟨#[]⟩]) := .of (by kernel_rfl)
theorem ts86 : TS Try.prog 86 3 := .of (by kernel_rfl)
theorem fd86_1 : FD Try.prog 86 1 1 := .of Try.underlying86 (by kernel_rfl)
theorem ts3 : TS Try.prog 3 1 := .of (by kernel_rfl)
theorem fd86_2 : FD Try.prog 86 2 2 := .of Try.underlying86 (by kernel_rfl)
theorem ts9 : TS Try.prog 9 1 := .of (by kernel_rfl)
theorem fd54_19 : FD Try.prog 54 19 19 := .of Try.underlying54 (by kernel_rfl)
theorem na52 : NotAgg Try.prog 52 := ⟨_, Try.underlying52, trivial⟩
theorem ia86 : IsAgg Try.prog 86 := ⟨_, Try.underlying86, trivial⟩
theorem ts52 : TS Try.prog 52 1 := .of (by kernel_rfl)
theorem fd90_0 : FD Try.prog 90 0 0 := .of Try.underlying90 (by kernel_rfl)
theorem na9 : NotAgg Try.prog 9 := ⟨_, Try.underlying9, trivial⟩
theorem ti27 : TI Try.prog 27 6 64 (.agg #[.int .i64 0, .int .i64 0, .int .i64 0, .int .i64 0, .int .i64 0, .slice none 0 0]) := .of (by kernel_rfl)
theorem ts27 : TS Try.prog 27 6 := .of (by kernel_rfl)
theorem fd90_1 : FD Try.prog 90 1 1 := .of Try.underlying90 (by kernel_rfl)
theorem na4 : NotAgg Try.prog 4 := ⟨_, Try.underlying4, trivial⟩
theorem ts4 : TS Try.prog 4 1 := .of (by kernel_rfl)
theorem fd54_18 : FD Try.prog 54 18 18 := .of Try.underlying54 (by kernel_rfl)
theorem na51 : NotAgg Try.prog 51 := ⟨_, Try.underlying51, trivial⟩
theorem ia27 : IsAgg Try.prog 27 := ⟨_, Try.underlying27, trivial⟩
theorem ts51 : TS Try.prog 51 1 := .of (by kernel_rfl)
end rpc6
open rpc6

def MsgM.wB (m : MsgM) (a : Option Addr) (c : Nat) (l : List BatM) : MsgM := { m with ba := a, bc := c, bl := l }
def MsgM.wE (m : MsgM) (a : Option Addr) (c : Nat) (l : List Ent) : MsgM := { m with ea := a, ec := c, el := l }
def MsgM.wI (m : MsgM) (a : Option Addr) (c : Nat) (l : List Int) : MsgM := { m with ia := a, ic := c, il := l }
theorem bit_and {has j : Nat} (h : has < 1048576) (hj : j ≤ 64) : IntKind.i64.wrap ((BitVec.ofInt 64 ((has : Int).fdiv (2 ^ (min j IntKind.i64.bits))) &&& BitVec.ofInt 64 1).toNat : Int) = ((has / 2 ^ j % 2 : Nat) : Int) := by
  rw [show IntKind.i64.bits = 64 from rfl, Nat.min_eq_left hj]
  have e1 : (has : Int).fdiv (2 ^ j) = ((has / 2 ^ j : Nat) : Int) := by
    rw [Int.fdiv_eq_ediv_of_nonneg _ (Int.pow_nonneg (by decide))]; push_cast; rfl
  have h1 : has / 2 ^ j ≤ has := Nat.div_le_self _ _
  rw [e1, BitVec.toNat_and, toNat_ofInt64, toNat_ofInt64]
  generalize has / 2 ^ j = x at h1 ⊢
  have e2 : ((x : Int) % 18446744073709551616).toNat = x := by omega
  have e3 : ((1 : Int) % 18446744073709551616).toNat = 1 := by decide
  rw [e2, e3, Nat.and_one_is_mod]
  exact wrap_i64 (by omega) (by omega)
theorem bit_eq (has j : Nat) : Value.bool (decide (((has / 2 ^ j % 2 : Nat) : Int) = 1)) = .bool (bit has j) := by
  unfold bit; congr 1; exact decide_eq_decide.2 (by omega)
theorem readBatch_k (s : List UInt8) : 0 ≤ (readBatch s).2.1 ∧ (readBatch s).2.1 ≤ s.length := by
  unfold readBatch
  split
  · exact ⟨Int.le_refl 0, Int.natCast_nonneg _⟩
  · split
    · exact ⟨Int.le_refl 0, Int.natCast_nonneg _⟩
    · split
      · exact ⟨Int.le_refl 0, Int.natCast_nonneg _⟩
      · split
        · exact ⟨Int.le_refl 0, Int.natCast_nonneg _⟩
        · split
          · show 0 ≤ 8 + (four s : Int) ∧ 8 + (four s : Int) ≤ _
            omega
          · exact ⟨Int.le_refl 0, Int.natCast_nonneg _⟩
theorem rdOpt_true {β : Type} {rs : Rdr → β × Rdr} {b : Bool} {z : β} {p : Rdr} (h : b = true) : rdOpt b rs z p = rs p := if_pos h
theorem rdOpt_false {β : Type} {rs : Rdr → β × Rdr} {b : Bool} {z : β} {p : Rdr} (h : b = false) : rdOpt b rs z p = (z, p) := if_neg (by rw [h]; decide)
theorem rdB_short (p : Rdr) : (rdB p).2.1.length ≤ p.1.length := by show (p.1.drop _).length ≤ _; rw [List.length_drop]; omega
theorem rdE_short (p : Rdr) : (rdE p).2.1.length ≤ p.1.length := Nat.le_trans (rdT_len _ _) (Nat.le_trans (rdI_len _) (rdI_len _))
theorem rdL_len {β : Type} {most : Nat} {rs : Rdr → β × Rdr} (p : Rdr) : (rdL most rs p).1.length ≤ most := by
  have := rdC_range (most := most) p (by omega)
  unfold rdL; rw [rdMany_len]; omega
theorem rdL_short {β : Type} {most : Nat} {rs : Rdr → β × Rdr} (hr : ∀ p, (rs p).2.1.length ≤ p.1.length) (p : Rdr) : (rdL most rs p).2.1.length ≤ p.1.length := Nat.le_trans (rdMany_short hr _ _) (rdC_len p)
theorem rdOptL_len {β : Type} {most : Nat} {rs : Rdr → β × Rdr} {b : Bool} (p : Rdr) : (rdOpt b (rdL most rs) [] p).1.length ≤ most := by
  unfold rdOpt; split
  · exact rdL_len p
  · exact Nat.zero_le _
theorem rdOpt_short {β : Type} {rs : Rdr → β × Rdr} {b : Bool} {z : β} (hr : ∀ p, (rs p).2.1.length ≤ p.1.length) (p : Rdr) : (rdOpt b rs z p).2.1.length ≤ p.1.length := by
  unfold rdOpt; split
  · exact hr p
  · exact Nat.le_refl _

set_option maxHeartbeats 2000000 in
set_option maxRecDepth 20000 in
theorem lists_ok (r mb has : Nat) (hhas : has < 1048576) (p : Rdr) (hp : p.1.length ≤ 65536) (m : MsgM) (hB : m.wB none 0 [] = m) (hE : m.wE none 0 [] = m) (hIz : m.wI none 0 [] = m) : Cn Try.prog 76 [.pointer (some ⟨r, 0, none⟩), .pointer (some ⟨mb, 0, none⟩), .int .i64 (has : Nat)] (fun _ => True) [blk r [.string (str p.1), .bool p.2] 90, blk mb (m).cells 54] fun v G => ∃ ba bc bl ea ec ia ic, bl.map (·.1) = (rdOpt (bit has 17) (rdL 64 rdB) [] p).1 ∧ G = [blk r [.string (str (rdLists has p).2.1), .bool (rdLists has p).2.2] 90, blk mb (((m.wB ba bc bl).wE ea ec (rdOpt (bit has 18) (rdL 64 rdE) [] (rdOpt (bit has 17) (rdL 64 rdB) [] p).2).1).wI ia ic (rdOpt (bit has 19) (rdL 256 rdI) [] (rdOpt (bit has 18) (rdL 64 rdE) [] (rdOpt (bit has 17) (rdL 64 rdB) [] p).2).2).1).cells 54, know (((m.wB ba bc bl).wE ea ec (rdOpt (bit has 18) (rdL 64 rdE) [] (rdOpt (bit has 17) (rdL 64 rdB) [] p).2).1).wI ia ic (rdOpt (bit has 19) (rdL 256 rdI) [] (rdOpt (bit has 18) (rdL 64 rdE) [] (rdOpt (bit has 17) (rdL 64 rdB) [] p).2).2).1).at_] := by
  refine .enter Try.func76 rfl (by kernel_rfl) rfl fun R k => ?_
  refine .seq ?_
  refine .seq ?_
  refine .region ?_
  refine .rd (.move rfl) ?_
  refine .rd (.shr (n := 17) rfl rfl) ?_
  refine .rd (.and rfl rfl) ?_
  refine .alter (t := 12) (v' := .int .i64 ((has / 2 ^ 17 % 2 : Nat) : Int)) rfl (congrArg (Value.int .i64) (bit_and hhas (by decide))) ?_
  refine .rd (.eqI rfl rfl) ?_
  refine .alter (t := 13) (v' := .bool (bit has 17)) rfl (bit_eq has 17) ?_
  refine .nil ?_
  refine .joinEx (σ := Option Addr × Nat × List BatM) (φ := fun ⟨ba, bc, bl⟩ => bl.map (·.1) = (rdOpt (bit has 17) (rdL 64 rdB) [] p).1) (E' := fun ⟨ba, bc, bl⟩ => [(0, .pointer (some ⟨r, 0, none⟩)), (1, .pointer (some ⟨mb, 0, none⟩)), (2, .int .i64 (has : Nat))]) (Γ' := fun ⟨ba, bc, bl⟩ => [blk r [.string (str (rdOpt (bit has 17) (rdL 64 rdB) [] p).2.1), .bool (rdOpt (bit has 17) (rdL 64 rdB) [] p).2.2] 90, blk mb (m.wB ba bc bl).cells 54, know (fun w => RowAt ba (bl.flatMap BatM.cells) w ∧ ∀ y ∈ bl, RowAt y.2.1 (y.1.recs.flatMap Rec.cells) w), R]) (fun sj hj => ?_) (fun fin => ?_)
  · obtain ⟨ba, bc, bl⟩ := sj
    have hbm := hj
    dsimp only at hbm ⊢
    have hal : (rdOpt (bit has 17) (rdL 64 rdB) [] p).2.1.length ≤ p.1.length := rdOpt_short (rdL_short rdB_short) p
    refine .seq ?_
    refine .seq ?_
    refine .region ?_
    refine .rd (.move rfl) ?_
    refine .rd (.shr (n := 18) rfl rfl) ?_
    refine .rd (.and rfl rfl) ?_
    refine .alter (t := 60) (v' := .int .i64 ((has / 2 ^ 18 % 2 : Nat) : Int)) rfl (congrArg (Value.int .i64) (bit_and hhas (by decide))) ?_
    refine .rd (.eqI rfl rfl) ?_
    refine .alter (t := 61) (v' := .bool (bit has 18)) rfl (bit_eq has 18) ?_
    refine .nil ?_
    refine .joinEx (σ := Option Addr × Nat) (φ := fun ⟨ea, ec⟩ => True) (E' := fun ⟨ea, ec⟩ => [(0, .pointer (some ⟨r, 0, none⟩)), (1, .pointer (some ⟨mb, 0, none⟩)), (2, .int .i64 (has : Nat))]) (Γ' := fun ⟨ea, ec⟩ => [blk r [.string (str (rdOpt (bit has 18) (rdL 64 rdE) [] (rdOpt (bit has 17) (rdL 64 rdB) [] p).2).2.1), .bool (rdOpt (bit has 18) (rdL 64 rdE) [] (rdOpt (bit has 17) (rdL 64 rdB) [] p).2).2.2] 90, blk mb ((m.wB ba bc bl).wE ea ec (rdOpt (bit has 18) (rdL 64 rdE) [] (rdOpt (bit has 17) (rdL 64 rdB) [] p).2).1).cells 54, know (fun w => (RowAt ba (bl.flatMap BatM.cells) w ∧ ∀ y ∈ bl, RowAt y.2.1 (y.1.recs.flatMap Rec.cells) w) ∧ RowAt ea ((rdOpt (bit has 18) (rdL 64 rdE) [] (rdOpt (bit has 17) (rdL 64 rdB) [] p).2).1.flatMap Ent.cells) w), R]) (fun sj hj => ?_) (fun fin => ?_)
    · obtain ⟨ea, ec⟩ := sj
      dsimp only
      have hbl2 : (rdOpt (bit has 18) (rdL 64 rdE) [] (rdOpt (bit has 17) (rdL 64 rdB) [] p).2).2.1.length ≤ (rdOpt (bit has 17) (rdL 64 rdB) [] p).2.1.length := rdOpt_short (rdL_short rdE_short) _
      refine .seq ?_
      refine .region ?_
      refine .rd (.move rfl) ?_
      refine .rd (.shr (n := 19) rfl rfl) ?_
      refine .rd (.and rfl rfl) ?_
      refine .alter (t := 88) (v' := .int .i64 ((has / 2 ^ 19 % 2 : Nat) : Int)) rfl (congrArg (Value.int .i64) (bit_and hhas (by decide))) ?_
      refine .rd (.eqI rfl rfl) ?_
      refine .alter (t := 89) (v' := .bool (bit has 19)) rfl (bit_eq has 19) ?_
      refine .nil ?_
      refine .cond rfl (fun h16 => ?_) (fun h16 => ?_)
      · refine .seq ?_
        refine .region ?_
        refine .rd (.move rfl) ?_
        refine .fn rfl rfl (.cons .head .nil) (fun _ _ _ => trivial) (rd4count_ok r (rdOpt (bit has 18) (rdL 64 rdE) [] (rdOpt (bit has 17) (rdL 64 rdB) [] p).2).2 256 (by omega)) (fun v G1 hq => ?_)
        obtain ⟨rfl, rfl⟩ := hq
        simp only [List.cons_append, List.nil_append]
        have hcr := rdC_range (most := 256) (rdOpt (bit has 18) (rdL 64 rdE) [] (rdOpt (bit has 17) (rdL 64 rdB) [] p).2).2 (by decide)
        have hcl := rdC_len (most := 256) (rdOpt (bit has 18) (rdL 64 rdE) [] (rdOpt (bit has 17) (rdL 64 rdB) [] p).2).2
        obtain ⟨n, hn⟩ : ∃ n : Nat, n = (rdC 256 (rdOpt (bit has 18) (rdL 64 rdE) [] (rdOpt (bit has 17) (rdL 64 rdB) [] p).2).2).1.toNat := ⟨_, rfl⟩
        refine .alter (t := 91) (v' := .int .i64 (n : Nat)) rfl (congrArg (Value.int .i64) (by omega)) ?_
        obtain ⟨q, hq⟩ : ∃ q, q = (rdC 256 (rdOpt (bit has 18) (rdL 64 rdE) [] (rdOpt (bit has 17) (rdL 64 rdB) [] p).2).2).2 := ⟨_, rfl⟩
        rw [← hq] at hcl
        refine .cast (X' := blk r [.string (str q.1), .bool q.2] 90) (by rw [hq]) ?_
        refine .rd (.move rfl) ?_
        refine .nil ?_
        refine .nilArr 3 1 none ?_
        refine .perm (.cons (.tail (.tail .head)) (.cons .head (.cons .head (.cons .head (.cons .head .nil))))) ?_
        refine .cast (X' := blk mb (((m.wB ba bc bl).wE ea ec (rdOpt (bit has 18) (rdL 64 rdE) [] (rdOpt (bit has 17) (rdL 64 rdB) [] p).2).1).wI none 0 []).cells 54) (congrArg (fun x : MsgM => blk mb x.cells 54) (show (m.wB ba bc bl).wE ea ec (rdOpt (bit has 18) (rdL 64 rdE) [] (rdOpt (bit has 17) (rdL 64 rdB) [] p).2).1 = (((m.wI none 0 []).wB ba bc bl).wE ea ec (rdOpt (bit has 18) (rdL 64 rdE) [] (rdOpt (bit has 17) (rdL 64 rdB) [] p).2).1) by rw [hIz])) ?_
        refine .block ?_
        refine .loop (σ := Nat × Option Addr × Nat) (fun ⟨i, ia, ic⟩ => i ≤ n) (fun ⟨i, ia, ic⟩ => n - i) (fun ⟨i, ia, ic⟩ => [(0, .pointer (some ⟨r, 0, none⟩)), (1, .pointer (some ⟨mb, 0, none⟩)), (2, .int .i64 (has : Nat)), (91, .int .i64 (n : Nat)), (92, .int .i64 (i : Nat))]) (fun ⟨i, ia, ic⟩ => [blk r [.string (str (rdMany rdI i q).2.1), .bool (rdMany rdI i q).2.2] 90, blk mb (((m.wB ba bc bl).wE ea ec (rdOpt (bit has 18) (rdL 64 rdE) [] (rdOpt (bit has 17) (rdL 64 rdB) [] p).2).1).wI ia ic (rdMany rdI i q).1).cells 54, arr 3 1 ia ic ((rdMany rdI i q).1.flatMap icell), know (fun w => (RowAt ba (bl.flatMap BatM.cells) w ∧ ∀ y ∈ bl, RowAt y.2.1 (y.1.recs.flatMap Rec.cells) w) ∧ RowAt ea ((rdOpt (bit has 18) (rdL 64 rdE) [] (rdOpt (bit has 17) (rdL 64 rdB) [] p).2).1.flatMap Ent.cells) w), R]) (0, none, 0) (Nat.zero_le _) (.cons rfl (.cons rfl (.cons rfl (.cons rfl (.cons rfl .nil))))) (.cons (.tail (.tail .head)) (.cons .head (.cons .head (.cons .head (.cons .head .nil))))) (fun s' hI ih => ?_)
        obtain ⟨i, ia, ic⟩ := s'
        dsimp only at hI ih ⊢
        have hil := hI
        have hcl2 := rdMany_short rdI_len i q
        have hll := rdMany_len rdI i q
        refine .seq ?_
        refine .region ?_
        refine .rd (.lt rfl rfl) ?_
        refine .nil ?_
        refine .seq ?_
        refine .condP rfl (fun h18 => ?_) (fun h18 => ?_)
        · refine .skip ?_
          refine .seq ?_
          refine .block ?_
          refine .draws [4] [blk mb (((m.wB ba bc bl).wE ea ec (rdOpt (bit has 18) (rdL 64 rdE) [] (rdOpt (bit has 17) (rdL 64 rdB) [] p).2).1).wI ia ic (rdMany rdI i q).1).cells 54] (by kernel_rfl) ?_
          refine .rp 0 rfl (by kernel_rfl) (by kernel_rfl) (by kernel_rfl) (Reads.pure (.move rfl)) ?_
          refine .rp 1 rfl (by kernel_rfl) (by kernel_rfl) (by kernel_rfl) (Reads.pure (.move rfl)) ?_
          refine .rp 2 rfl (by kernel_rfl) (by kernel_rfl) (by kernel_rfl) (Reads.pure (.nilCheck rfl)) ?_
          refine .rp 3 rfl (by kernel_rfl) (by kernel_rfl) (by kernel_rfl) (Reads.pure (.fieldAddr fd54_20 rfl)) ?_
          refine .rd 4 rfl rfl (by kernel_rfl) (by kernel_rfl) (by kernel_rfl) (.ld na37 rfl .head rfl) (.cons (.tail .head) .nil) ?_
          refine .rp 5 rfl (by kernel_rfl) (by kernel_rfl) (by kernel_rfl) (Reads.pure (.move rfl)) ?_
          refine .ef 6 (by kernel_rfl) rfl (.fn rfl rfl (.cons .head .nil) (fun _ _ _ => trivial) (rd4int_ok r (rdMany rdI i q).2 (by omega))) ?_
          rintro v _ ⟨G1, hq, rfl⟩
          obtain ⟨rfl, rfl⟩ := hq
          simp only [List.cons_append, List.nil_append]
          refine ⟨.inr ⟨_, (.cons (.tail .head) .nil)⟩, ?_⟩
          refine .ef 7 (by kernel_rfl) rfl (.buildOne (cs := icell ((rdI (rdMany rdI i q).2).1)) Try.underlying37 ti3 (by decide) rfl rfl rfl (ones.of rfl)) ?_
          rintro _ _ ⟨bs, rfl, rfl⟩
          refine ⟨.inr ⟨_, (.cons (.tail (.tail .head)) .nil)⟩, ?_⟩
          refine .ef 8 (by kernel_rfl) rfl (.append rfl rfl Try.underlying37 ti3 rfl (ones.of rfl) (by decide) (by decide) rfl rfl (.tail (.tail (.tail .head))) (n := (rdMany rdI i q).1.length) (m := 1) (by rw [flat_length icell_len]) (.srcBlk (ys := icell ((rdI (rdMany rdI i q).2).1)) .head Try.underlying37 rfl (by decide)) (by omega)) ?_
          rintro _ _ ⟨ra, rc, rfl, rn, rfl⟩
          refine ⟨.inl (by kernel_rfl), ?_⟩
          refine .rp 9 rfl (by kernel_rfl) (by kernel_rfl) (by kernel_rfl) (Reads.pure (.nilCheck rfl)) ?_
          refine .rp 10 rfl (by kernel_rfl) (by kernel_rfl) (by kernel_rfl) (Reads.pure (.fieldAddr fd54_20 rfl)) ?_
          refine .ef0 11 (by kernel_rfl) rfl (.store ts37 rfl rfl (.tail (.tail (.tail .head))) rfl (Nat.le_of_ble_eq_true rfl)) ?_
          rintro _ _ rfl
          refine ⟨.inl (by kernel_rfl), ?_⟩
          refine .done (by kernel_rfl) ?_
          refine .perm (.cons (.tail .head) (.cons .head (.cons .head (.cons .head (.cons .head (.cons .head .nil)))))) ?_
          refine .cast (X' := arr 3 1 ra rc ((rdMany rdI (i + 1) q).1.flatMap icell)) (by rw [show (rdMany rdI (i + 1) q).1 = (rdMany rdI i q).1 ++ [((rdI (rdMany rdI i q).2).1)] from rfl, List.flatMap_append]; simp) ?_
          refine .perm (.cons (.tail .head) (.cons .head (.cons .head (.cons .head (.cons .head (.cons .head .nil)))))) ?_
          refine .cast (X' := blk mb (((m.wB ba bc bl).wE ea ec (rdOpt (bit has 18) (rdL 64 rdE) [] (rdOpt (bit has 17) (rdL 64 rdB) [] p).2).1).wI ra rc (rdMany rdI (i + 1) q).1).cells 54) (congrArg (fun l => blk mb l 54) (by simp [MsgM.cells, MsgM.wB, MsgM.wE, MsgM.wI, show (rdMany rdI (i + 1) q).1 = (rdMany rdI i q).1 ++ [((rdI (rdMany rdI i q).2).1)] from rfl])) ?_
          refine .perm (.cons (.tail (.tail (.tail .head))) (.cons .head (.cons .head (.cons .head (.cons .head (.cons .head .nil)))))) ?_
          refine .cast (X' := blk r [.string (str (rdMany rdI (i + 1) q).2.1), .bool (rdMany rdI (i + 1) q).2.2] 90) (rfl) ?_
          refine .inBlock ?_
          refine .region ?_
          refine .rd (.add rfl rfl (by omega) (by omega)) ?_
          refine .rd (.move rfl) ?_
          refine .nil ?_
          exact (ih (i + 1, ra, rc) (by show i + 1 ≤ n; omega) (by show n - (i + 1) < n - i; omega)).to (.cons rfl (.cons rfl (.cons rfl (.cons rfl (.cons rfl .nil))))) (.cons .head (.cons .head (.cons .head (.cons (.tail .head) (.cons (.tail .head) .nil)))))
        · refine .exit rfl ?_
          obtain rfl : i = n := by omega
          have hCv : (rdOpt (bit has 19) (rdL 256 rdI) [] (rdOpt (bit has 18) (rdL 64 rdE) [] (rdOpt (bit has 17) (rdL 64 rdB) [] p).2).2) = (rdMany rdI i q) := (rdOpt_true h16).trans (by show rdMany rdI (rdC 256 (rdOpt (bit has 18) (rdL 64 rdE) [] (rdOpt (bit has 17) (rdL 64 rdB) [] p).2).2).1.toNat (rdC 256 (rdOpt (bit has 18) (rdL 64 rdE) [] (rdOpt (bit has 17) (rdL 64 rdB) [] p).2).2).2 = _; rw [← hn, ← hq])
          refine .settle (.tail (.tail .head)) (Settles.arr) ?_
          refine .knowAnd ((((m.wB ba bc bl).wE ea ec (rdOpt (bit has 18) (rdL 64 rdE) [] (rdOpt (bit has 17) (rdL 64 rdB) [] p).2).1).wI ia ic (rdOpt (bit has 19) (rdL 256 rdI) [] (rdOpt (bit has 18) (rdL 64 rdE) [] (rdOpt (bit has 17) (rdL 64 rdB) [] p).2).2).1).at_) (.cons (.tail (.tail (.tail .head))) (.cons .head .nil)) (fun w h1 h2 => ⟨h1.1.1, h1.1.2, h1.2, by show RowAt ia ((rdOpt (bit has 19) (rdL 256 rdI) [] (rdOpt (bit has 18) (rdL 64 rdE) [] (rdOpt (bit has 17) (rdL 64 rdB) [] p).2).2).1.flatMap icell) w; rw [hCv]; exact h2⟩) ?_
          refine .perm (.cons (.tail (.tail .head)) (.cons .head (.cons .head (.cons .head .nil)))) ?_
          refine .cast (X' := blk mb (((m.wB ba bc bl).wE ea ec (rdOpt (bit has 18) (rdL 64 rdE) [] (rdOpt (bit has 17) (rdL 64 rdB) [] p).2).1).wI ia ic (rdOpt (bit has 19) (rdL 256 rdI) [] (rdOpt (bit has 18) (rdL 64 rdE) [] (rdOpt (bit has 17) (rdL 64 rdB) [] p).2).2).1).cells 54) (by rw [hCv]) ?_
          refine .perm (.cons (.tail (.tail .head)) (.cons .head (.cons .head (.cons .head .nil)))) ?_
          refine .cast (X' := blk r [.string (str (rdLists has p).2.1), .bool (rdLists has p).2.2] 90) (by rw [show (rdLists has p).2 = (rdOpt (bit has 19) (rdL 256 rdI) [] (rdOpt (bit has 18) (rdL 64 rdE) [] (rdOpt (bit has 17) (rdL 64 rdB) [] p).2).2).2 from rfl, hCv]) ?_
          refine .endP Try.func76 .nil (.cons .head (.cons .head (.cons .head (.cons .head .nil)))) ?_
          exact ⟨[_, _, _], ⟨ba, bc, bl, ea, ec, ia, ic, hbm, rfl⟩, rfl⟩
      · refine .skip ?_
        have hCv : (rdOpt (bit has 19) (rdL 256 rdI) [] (rdOpt (bit has 18) (rdL 64 rdE) [] (rdOpt (bit has 17) (rdL 64 rdB) [] p).2).2) = ([], (rdOpt (bit has 18) (rdL 64 rdE) [] (rdOpt (bit has 17) (rdL 64 rdB) [] p).2).2) := rdOpt_false h16
        refine .knowMono ((((m.wB ba bc bl).wE ea ec (rdOpt (bit has 18) (rdL 64 rdE) [] (rdOpt (bit has 17) (rdL 64 rdB) [] p).2).1).wI none 0 (rdOpt (bit has 19) (rdL 256 rdI) [] (rdOpt (bit has 18) (rdL 64 rdE) [] (rdOpt (bit has 17) (rdL 64 rdB) [] p).2).2).1).at_) (.tail (.tail .head)) (fun w h1 => ⟨h1.1.1, h1.1.2, h1.2, by show RowAt none ((rdOpt (bit has 19) (rdL 256 rdI) [] (rdOpt (bit has 18) (rdL 64 rdE) [] (rdOpt (bit has 17) (rdL 64 rdB) [] p).2).2).1.flatMap icell) w; rw [hCv]; exact .inl rfl⟩) ?_
        refine .perm (.cons (.tail (.tail .head)) (.cons .head (.cons .head (.cons .head .nil)))) ?_
        refine .cast (X' := blk mb (((m.wB ba bc bl).wE ea ec (rdOpt (bit has 18) (rdL 64 rdE) [] (rdOpt (bit has 17) (rdL 64 rdB) [] p).2).1).wI none 0 (rdOpt (bit has 19) (rdL 256 rdI) [] (rdOpt (bit has 18) (rdL 64 rdE) [] (rdOpt (bit has 17) (rdL 64 rdB) [] p).2).2).1).cells 54) (congrArg (fun x : MsgM => blk mb x.cells 54) (show (m.wB ba bc bl).wE ea ec (rdOpt (bit has 18) (rdL 64 rdE) [] (rdOpt (bit has 17) (rdL 64 rdB) [] p).2).1 = (((m.wI none 0 (rdOpt (bit has 19) (rdL 256 rdI) [] (rdOpt (bit has 18) (rdL 64 rdE) [] (rdOpt (bit has 17) (rdL 64 rdB) [] p).2).2).1).wB ba bc bl).wE ea ec (rdOpt (bit has 18) (rdL 64 rdE) [] (rdOpt (bit has 17) (rdL 64 rdB) [] p).2).1) by rw [hCv, hIz])) ?_
        refine .perm (.cons (.tail (.tail .head)) (.cons .head (.cons .head (.cons .head .nil)))) ?_
        refine .cast (X' := blk r [.string (str (rdLists has p).2.1), .bool (rdLists has p).2.2] 90) (by rw [show (rdLists has p).2 = (rdOpt (bit has 19) (rdL 256 rdI) [] (rdOpt (bit has 18) (rdL 64 rdE) [] (rdOpt (bit has 17) (rdL 64 rdB) [] p).2).2).2 from rfl, hCv]) ?_
        refine .endP Try.func76 .nil (.cons .head (.cons .head (.cons .head (.cons .head .nil)))) ?_
        exact ⟨[_, _, _], ⟨ba, bc, bl, ea, ec, none, 0, hbm, rfl⟩, rfl⟩
    · refine .cond rfl (fun h8 => ?_) (fun h8 => ?_)
      · refine .seq ?_
        refine .region ?_
        refine .rd (.move rfl) ?_
        refine .fn rfl rfl (.cons .head .nil) (fun _ _ _ => trivial) (rd4count_ok r (rdOpt (bit has 17) (rdL 64 rdB) [] p).2 64 (by omega)) (fun v G1 hq => ?_)
        obtain ⟨rfl, rfl⟩ := hq
        simp only [List.cons_append, List.nil_append]
        have hcr := rdC_range (most := 64) (rdOpt (bit has 17) (rdL 64 rdB) [] p).2 (by decide)
        have hcl := rdC_len (most := 64) (rdOpt (bit has 17) (rdL 64 rdB) [] p).2
        obtain ⟨n, hn⟩ : ∃ n : Nat, n = (rdC 64 (rdOpt (bit has 17) (rdL 64 rdB) [] p).2).1.toNat := ⟨_, rfl⟩
        refine .alter (t := 63) (v' := .int .i64 (n : Nat)) rfl (congrArg (Value.int .i64) (by omega)) ?_
        obtain ⟨q, hq⟩ : ∃ q, q = (rdC 64 (rdOpt (bit has 17) (rdL 64 rdB) [] p).2).2 := ⟨_, rfl⟩
        rw [← hq] at hcl
        refine .cast (X' := blk r [.string (str q.1), .bool q.2] 90) (by rw [hq]) ?_
        refine .rd (.move rfl) ?_
        refine .nil ?_
        refine .nilArr 86 3 none ?_
        refine .perm (.cons (.tail (.tail .head)) (.cons .head (.cons .head (.cons .head (.cons .head .nil))))) ?_
        refine .cast (X' := blk mb ((m.wB ba bc bl).wE none 0 []).cells 54) (congrArg (fun x : MsgM => blk mb x.cells 54) (show m.wB ba bc bl = (m.wE none 0 []).wB ba bc bl by rw [hE])) ?_
        refine .block ?_
        refine .loop (σ := Nat × Option Addr × Nat) (fun ⟨i, ea, ec⟩ => i ≤ n) (fun ⟨i, ea, ec⟩ => n - i) (fun ⟨i, ea, ec⟩ => [(0, .pointer (some ⟨r, 0, none⟩)), (1, .pointer (some ⟨mb, 0, none⟩)), (2, .int .i64 (has : Nat)), (63, .int .i64 (n : Nat)), (64, .int .i64 (i : Nat))]) (fun ⟨i, ea, ec⟩ => [blk r [.string (str (rdMany rdE i q).2.1), .bool (rdMany rdE i q).2.2] 90, blk mb ((m.wB ba bc bl).wE ea ec (rdMany rdE i q).1).cells 54, arr 86 3 ea ec ((rdMany rdE i q).1.flatMap Ent.cells), know (fun w => RowAt ba (bl.flatMap BatM.cells) w ∧ ∀ y ∈ bl, RowAt y.2.1 (y.1.recs.flatMap Rec.cells) w), R]) (0, none, 0) (Nat.zero_le _) (.cons rfl (.cons rfl (.cons rfl (.cons rfl (.cons rfl .nil))))) (.cons (.tail (.tail .head)) (.cons .head (.cons .head (.cons .head (.cons .head .nil))))) (fun s' hI ih => ?_)
        obtain ⟨i, ea, ec⟩ := s'
        dsimp only at hI ih ⊢
        have hil := hI
        have hcl2 := rdMany_short rdE_short i q
        have hll := rdMany_len rdE i q
        have hs1 := rdI_len (rdMany rdE i q).2
        have hs2 := rdI_len (rdI (rdMany rdE i q).2).2
        refine .seq ?_
        refine .region ?_
        refine .rd (.lt rfl rfl) ?_
        refine .nil ?_
        refine .seq ?_
        refine .condP rfl (fun h10 => ?_) (fun h10 => ?_)
        · refine .skip ?_
          refine .seq ?_
          refine .block ?_
          refine .seq ?_
          refine .region ?_
          refine .rd (.move rfl) ?_
          refine .fn rfl rfl (.cons .head .nil) (fun _ _ _ => trivial) (rd4int_ok r (rdMany rdE i q).2 (by omega)) (fun v G1 hq => ?_)
          obtain ⟨rfl, rfl⟩ := hq
          simp only [List.cons_append, List.nil_append]
          refine .rd (.build rfl (bld86_0 _)) ?_
          refine .ef (.alloc ti86 rfl (ones.of rfl)) ?_
          rintro _ _ ⟨b9, rfl, rfl⟩
          refine .ef0 (.storeAll (vs := [.int .i64 (rdI (rdMany rdE i q).2).1, .int .i64 0, .string ⟨#[]⟩]) ts86 rfl rfl rfl .head rfl (ones.of rfl)) ?_
          rintro _ _ rfl
          refine .nil ?_
          refine .seq ?_
          refine .region ?_
          refine .rd (.move rfl) ?_
          refine .fn rfl rfl (.cons (.tail .head) .nil) (fun _ _ _ => trivial) (rd4int_ok r (rdI (rdMany rdE i q).2).2 (by omega)) (fun v G1 hq => ?_)
          obtain ⟨rfl, rfl⟩ := hq
          simp only [List.cons_append, List.nil_append]
          refine .rd (.fieldAddr fd86_1 rfl) ?_
          refine .ef0 (.store ts3 rfl rfl (.tail .head) rfl (Nat.le_of_ble_eq_true rfl)) ?_
          rintro _ _ rfl
          refine .nil ?_
          refine .seq ?_
          refine .region ?_
          refine .rd (.move rfl) ?_
          refine .fn rfl rfl (.cons (.tail .head) .nil) (fun _ _ _ => trivial) (rd4text_ok r (rdI (rdI (rdMany rdE i q).2).2).2 (by omega) (by omega)) (fun v G1 hq => ?_)
          obtain ⟨rfl, rfl⟩ := hq
          simp only [List.cons_append, List.nil_append]
          refine .rd (.fieldAddr fd86_2 rfl) ?_
          refine .ef0 (.store ts9 rfl rfl (.tail .head) rfl (Nat.le_of_ble_eq_true rfl)) ?_
          rintro _ _ rfl
          refine .nil ?_
          refine .cast (X' := blk b9 (Ent.cells ((rdE (rdMany rdE i q).2).1)) 86) (rfl) ?_
          refine .draws [4, 5] [blk mb ((m.wB ba bc bl).wE ea ec (rdMany rdE i q).1).cells 54, blk b9 (Ent.cells ((rdE (rdMany rdE i q).2).1)) 86] (by kernel_rfl) ?_
          refine .rp 0 rfl (by kernel_rfl) (by kernel_rfl) (by kernel_rfl) (Reads.pure (.move rfl)) ?_
          refine .rp 1 rfl (by kernel_rfl) (by kernel_rfl) (by kernel_rfl) (Reads.pure (.move rfl)) ?_
          refine .rp 2 rfl (by kernel_rfl) (by kernel_rfl) (by kernel_rfl) (Reads.pure (.nilCheck rfl)) ?_
          refine .rp 3 rfl (by kernel_rfl) (by kernel_rfl) (by kernel_rfl) (Reads.pure (.fieldAddr fd54_19 rfl)) ?_
          refine .rd 4 rfl rfl (by kernel_rfl) (by kernel_rfl) (by kernel_rfl) (.ld na52 rfl .head rfl) (.cons (.tail (.tail .head)) (.cons .head .nil)) ?_
          refine .rd 5 rfl rfl (by kernel_rfl) (by kernel_rfl) (by kernel_rfl) (.ldN ia86 ts86 rfl (.tail .head) rfl) (.cons (.tail (.tail .head)) (.cons .head .nil)) ?_
          refine .ef 6 (by kernel_rfl) rfl (.buildOne (cs := Ent.cells ((rdE (rdMany rdE i q).2).1)) Try.underlying52 ti86 (by decide) rfl rfl rfl (ones.of rfl)) ?_
          rintro _ _ ⟨bs, rfl, rfl⟩
          refine ⟨.inr ⟨_, (.cons (.tail (.tail (.tail .head))) (.cons (.tail .head) .nil))⟩, ?_⟩
          refine .ef 7 (by kernel_rfl) rfl (.append rfl rfl Try.underlying52 ti86 rfl (ones.of rfl) (by decide) (by decide) rfl rfl (.tail (.tail (.tail (.tail .head)))) (n := (rdMany rdE i q).1.length) (m := 1) (by rw [flat_length Ent.cells_len]) (.srcBlk (ys := Ent.cells ((rdE (rdMany rdE i q).2).1)) .head Try.underlying52 rfl (by decide)) (by omega)) ?_
          rintro _ _ ⟨ra, rc, rfl, rn, rfl⟩
          refine ⟨.inl (by kernel_rfl), ?_⟩
          refine .rp 8 rfl (by kernel_rfl) (by kernel_rfl) (by kernel_rfl) (Reads.pure (.nilCheck rfl)) ?_
          refine .rp 9 rfl (by kernel_rfl) (by kernel_rfl) (by kernel_rfl) (Reads.pure (.fieldAddr fd54_19 rfl)) ?_
          refine .ef0 10 (by kernel_rfl) rfl (.store ts52 rfl rfl (.tail (.tail (.tail (.tail .head)))) rfl (Nat.le_of_ble_eq_true rfl)) ?_
          rintro _ _ rfl
          refine ⟨.inl (by kernel_rfl), ?_⟩
          refine .done (by kernel_rfl) ?_
          refine .perm (.cons (.tail .head) (.cons .head (.cons .head (.cons .head (.cons .head (.cons .head (.cons .head .nil))))))) ?_
          refine .cast (X' := arr 86 3 ra rc ((rdMany rdE (i + 1) q).1.flatMap Ent.cells)) (by rw [show (rdMany rdE (i + 1) q).1 = (rdMany rdE i q).1 ++ [((rdE (rdMany rdE i q).2).1)] from rfl, List.flatMap_append]; simp) ?_
          refine .perm (.cons (.tail .head) (.cons .head (.cons .head (.cons .head (.cons .head (.cons .head (.cons .head .nil))))))) ?_
          refine .cast (X' := blk mb ((m.wB ba bc bl).wE ra rc (rdMany rdE (i + 1) q).1).cells 54) (congrArg (fun l => blk mb l 54) (by simp [MsgM.cells, MsgM.wB, MsgM.wE, show (rdMany rdE (i + 1) q).1 = (rdMany rdE i q).1 ++ [((rdE (rdMany rdE i q).2).1)] from rfl])) ?_
          refine .perm (.cons (.tail (.tail (.tail (.tail .head)))) (.cons .head (.cons .head (.cons .head (.cons .head (.cons .head (.cons .head .nil))))))) ?_
          refine .cast (X' := blk r [.string (str (rdMany rdE (i + 1) q).2.1), .bool (rdMany rdE (i + 1) q).2.2] 90) (rfl) ?_
          refine .inBlock ?_
          refine .region ?_
          refine .rd (.add rfl rfl (by omega) (by omega)) ?_
          refine .rd (.move rfl) ?_
          refine .nil ?_
          exact (ih (i + 1, ra, rc) (by show i + 1 ≤ n; omega) (by show n - (i + 1) < n - i; omega)).to (.cons rfl (.cons rfl (.cons rfl (.cons rfl (.cons rfl .nil))))) (.cons .head (.cons .head (.cons .head (.cons (.tail (.tail .head)) (.cons (.tail (.tail .head)) .nil)))))
        · obtain rfl : i = n := by omega
          have hBv : (rdOpt (bit has 18) (rdL 64 rdE) [] (rdOpt (bit has 17) (rdL 64 rdB) [] p).2) = (rdMany rdE i q) := (rdOpt_true h8).trans (by show rdMany rdE (rdC 64 (rdOpt (bit has 17) (rdL 64 rdB) [] p).2).1.toNat (rdC 64 (rdOpt (bit has 17) (rdL 64 rdB) [] p).2).2 = _; rw [← hn, ← hq])
          refine .settle (.tail (.tail .head)) (Settles.arr) ?_
          refine .knowAnd (fun w => (RowAt ba (bl.flatMap BatM.cells) w ∧ ∀ y ∈ bl, RowAt y.2.1 (y.1.recs.flatMap Rec.cells) w) ∧ RowAt ea ((rdOpt (bit has 18) (rdL 64 rdE) [] (rdOpt (bit has 17) (rdL 64 rdB) [] p).2).1.flatMap Ent.cells) w) (.cons (.tail (.tail (.tail .head))) (.cons .head .nil)) (fun w h1 h2 => ⟨h1, by rw [hBv]; exact h2⟩) ?_
          refine .perm (.cons (.tail .head) (.cons .head (.cons .head (.cons .head .nil)))) ?_
          refine .cast (X' := blk r [.string (str (rdOpt (bit has 18) (rdL 64 rdE) [] (rdOpt (bit has 17) (rdL 64 rdB) [] p).2).2.1), .bool (rdOpt (bit has 18) (rdL 64 rdE) [] (rdOpt (bit has 17) (rdL 64 rdB) [] p).2).2.2] 90) (by rw [hBv]) ?_
          refine .perm (.cons (.tail (.tail .head)) (.cons .head (.cons .head (.cons .head .nil)))) ?_
          refine .cast (X' := blk mb ((m.wB ba bc bl).wE ea ec (rdOpt (bit has 18) (rdL 64 rdE) [] (rdOpt (bit has 17) (rdL 64 rdB) [] p).2).1).cells 54) (by rw [hBv]) ?_
          refine .exit rfl ?_
          exact fin (ea, ec) trivial (.cons rfl (.cons rfl (.cons rfl .nil))) (.cons (.tail .head) (.cons .head (.cons .head (.cons .head .nil))))
      · have hBv : (rdOpt (bit has 18) (rdL 64 rdE) [] (rdOpt (bit has 17) (rdL 64 rdB) [] p).2) = ([], (rdOpt (bit has 17) (rdL 64 rdB) [] p).2) := rdOpt_false h8
        refine .knowT (fun w => RowAt none ((rdOpt (bit has 18) (rdL 64 rdE) [] (rdOpt (bit has 17) (rdL 64 rdB) [] p).2).1.flatMap Ent.cells) w) (fun w => by rw [hBv]; exact .inl rfl) ?_
        refine .knowAnd (fun w => (RowAt ba (bl.flatMap BatM.cells) w ∧ ∀ y ∈ bl, RowAt y.2.1 (y.1.recs.flatMap Rec.cells) w) ∧ RowAt none ((rdOpt (bit has 18) (rdL 64 rdE) [] (rdOpt (bit has 17) (rdL 64 rdB) [] p).2).1.flatMap Ent.cells) w) (.cons (.tail (.tail (.tail .head))) (.cons .head .nil)) (fun w h1 h2 => ⟨h1, h2⟩) ?_
        refine .perm (.cons (.tail (.tail .head)) (.cons .head (.cons .head (.cons .head .nil)))) ?_
        refine .cast (X' := blk mb ((m.wB ba bc bl).wE none 0 (rdOpt (bit has 18) (rdL 64 rdE) [] (rdOpt (bit has 17) (rdL 64 rdB) [] p).2).1).cells 54) (congrArg (fun x : MsgM => blk mb x.cells 54) (show m.wB ba bc bl = (m.wE none 0 (rdOpt (bit has 18) (rdL 64 rdE) [] (rdOpt (bit has 17) (rdL 64 rdB) [] p).2).1).wB ba bc bl by rw [hBv, hE])) ?_
        refine .perm (.cons (.tail (.tail .head)) (.cons .head (.cons .head (.cons .head .nil)))) ?_
        refine .cast (X' := blk r [.string (str (rdOpt (bit has 18) (rdL 64 rdE) [] (rdOpt (bit has 17) (rdL 64 rdB) [] p).2).2.1), .bool (rdOpt (bit has 18) (rdL 64 rdE) [] (rdOpt (bit has 17) (rdL 64 rdB) [] p).2).2.2] 90) (by rw [hBv]) ?_
        refine .skip ?_
        exact fin (none, 0) trivial (.cons rfl (.cons rfl (.cons rfl .nil))) (.cons .head (.cons .head (.cons .head (.cons .head .nil))))
  · refine .cond rfl (fun h0 => ?_) (fun h0 => ?_)
    · refine .seq ?_
      refine .region ?_
      refine .rd (.move rfl) ?_
      refine .fn rfl rfl (.cons .head .nil) (fun _ _ _ => trivial) (rd4count_ok r p 64 (by omega)) (fun v G1 hq => ?_)
      obtain ⟨rfl, rfl⟩ := hq
      simp only [List.cons_append, List.nil_append]
      have hcr := rdC_range (most := 64) p (by decide)
      have hcl := rdC_len (most := 64) p
      obtain ⟨n, hn⟩ : ∃ n : Nat, n = (rdC 64 p).1.toNat := ⟨_, rfl⟩
      refine .alter (t := 15) (v' := .int .i64 (n : Nat)) rfl (congrArg (Value.int .i64) (by omega)) ?_
      obtain ⟨q, hq⟩ : ∃ q, q = (rdC 64 p).2 := ⟨_, rfl⟩
      rw [← hq] at hcl
      refine .cast (X' := blk r [.string (str q.1), .bool q.2] 90) (by rw [hq]) ?_
      refine .rd (.move rfl) ?_
      refine .nil ?_
      refine .nilArr 27 6 none ?_
      refine .knowT (fun w => ∀ y ∈ ([] : List BatM), RowAt y.2.1 (y.1.recs.flatMap Rec.cells) w) (fun w y hy => by cases hy) ?_
      refine .perm (.cons (.tail (.tail (.tail .head))) (.cons .head (.cons .head (.cons .head (.cons .head .nil))))) ?_
      refine .cast (X' := blk mb (m.wB none 0 []).cells 54) (by rw [hB]) ?_
      refine .block ?_
      refine .loop (σ := List BatM × Option Addr × Nat) (fun ⟨bl, ba, bc⟩ => bl.length ≤ n ∧ bl.map (·.1) = (rdMany rdB bl.length q).1) (fun ⟨bl, ba, bc⟩ => n - bl.length) (fun ⟨bl, ba, bc⟩ => [(0, .pointer (some ⟨r, 0, none⟩)), (1, .pointer (some ⟨mb, 0, none⟩)), (2, .int .i64 (has : Nat)), (15, .int .i64 (n : Nat)), (16, .int .i64 (bl.length : Nat))]) (fun ⟨bl, ba, bc⟩ => [blk r [.string (str (rdMany rdB bl.length q).2.1), .bool (rdMany rdB bl.length q).2.2] 90, blk mb (m.wB ba bc bl).cells 54, arr 27 6 ba bc (bl.flatMap BatM.cells), know (fun w => ∀ y ∈ bl, RowAt y.2.1 (y.1.recs.flatMap Rec.cells) w), R]) ([], none, 0) ⟨Nat.zero_le _, rfl⟩ (.cons rfl (.cons rfl (.cons rfl (.cons rfl (.cons rfl .nil))))) (.cons (.tail (.tail (.tail .head))) (.cons .head (.cons (.tail .head) (.cons .head (.cons .head .nil))))) (fun s' hI ih => ?_)
      obtain ⟨bl, ba, bc⟩ := s'
      dsimp only at hI ih ⊢
      have hbl := hI.1
      have hcl2 := rdMany_short rdB_short bl.length q
      refine .seq ?_
      refine .region ?_
      refine .rd (.lt rfl rfl) ?_
      refine .nil ?_
      refine .seq ?_
      refine .condP rfl (fun h2 => ?_) (fun h2 => ?_)
      · refine .skip ?_
        refine .seq ?_
        refine .block ?_
        refine .seq ?_
        refine .region ?_
        refine .rd (.move rfl) ?_
        refine .rd (.nilCheck rfl) ?_
        refine .rd (.fieldAddr fd90_0 rfl) ?_
        refine .rd (.ld na9 rfl .head rfl) ?_
        refine .fn rfl rfl .nil (fun _ _ _ => trivial) (ReadBatch_ok (rdMany rdB bl.length q).2.1 (by omega)) (fun v G1 hq => ?_)
        obtain ⟨a1, c1, rfl, rfl⟩ := hq
        simp only [List.cons_append, List.nil_append]
        refine .rd (.move rfl) ?_
        refine .rd (.extract rfl rfl) ?_
        refine .rd (.extract rfl rfl) ?_
        refine .rd (.extract rfl rfl) ?_
        refine .ef (.alloc ti27 rfl (ones.of rfl)) ?_
        rintro _ _ ⟨b6, rfl, rfl⟩
        refine .ef0 (.storeAll (vs := BatM.cells ((readBatch (rdMany rdB bl.length q).2.1).1, a1, c1)) ts27 rfl rfl rfl .head rfl (ones.of rfl)) ?_
        rintro _ _ rfl
        refine .rd (.assign rfl) ?_
        refine .rd (.assign rfl) ?_
        refine .nil ?_
        refine .settle (.tail .head) (Settles.arr) ?_
        refine .knowAnd (fun w => ∀ y ∈ bl ++ [((readBatch (rdMany rdB bl.length q).2.1).1, a1, c1)], RowAt y.2.1 (y.1.recs.flatMap Rec.cells) w) (.cons (.tail (.tail (.tail (.tail (.tail .head))))) (.cons .head .nil)) (fun w h1 h2 y hy => by rcases List.mem_append.1 hy with h | h; exact h1 y h; rcases List.mem_singleton.1 h with rfl; exact h2) ?_
        have hk := readBatch_k (rdMany rdB bl.length q).2.1
        refine .seq ?_
        refine .region ?_
        refine RunO.join2 9 35 ((rdMany rdB bl.length q).2.2 && decide ((readBatch (rdMany rdB bl.length q).2.1).2.2 = 0)) 27 (.pointer (some ⟨r, 0, none⟩)) ?_ ?_
        · refine .rd (.move rfl) ?_
          refine .rd (.move rfl) ?_
          refine .rd (.nilCheck rfl) ?_
          refine .rd (.fieldAddr fd90_1 rfl) ?_
          refine .rd (.ld na4 rfl (.tail (.tail .head)) rfl) ?_
          refine .rd (.move rfl) ?_
          refine .split (t := 32) rfl (fun g4 => ?_) (fun g4 => ?_)
          · refine .on (t := 32) rfl rfl ?_
            refine .rd (.move rfl) ?_
            refine .on (t := 32) rfl rfl ?_
            refine .rd (.eqI rfl rfl) ?_
            refine .rd (.pickT rfl rfl) ?_
            refine .nil ⟨rfl, ?_, rfl, by repeat (first | exact Le.refl _ | refine Le.skip rfl ?_)⟩
            exact congrArg (fun x => some (Value.bool x)) (Eq.symm (show ((rdMany rdB bl.length q).2.2 && decide ((readBatch (rdMany rdB bl.length q).2.1).2.2 = 0)) = _ by (rw [g4]) <;> rfl))
          · refine .off (t := 32) rfl rfl rfl ?_
            refine .off (t := 32) rfl rfl rfl ?_
            refine .rd (.pickF rfl rfl) ?_
            refine .nil ⟨rfl, ?_, rfl, by repeat (first | exact Le.refl _ | refine Le.skip rfl ?_)⟩
            exact congrArg (fun x => some (Value.bool x)) (Eq.symm (show ((rdMany rdB bl.length q).2.2 && decide ((readBatch (rdMany rdB bl.length q).2.1).2.2 = 0)) = _ by (rw [g4]) <;> rfl))
        refine .rd (.nilCheck rfl) ?_
        refine .rd (.fieldAddr fd90_1 rfl) ?_
        refine .ef0 (.store ts4 rfl rfl (.tail (.tail .head)) rfl (Nat.le_of_ble_eq_true rfl)) ?_
        rintro _ _ rfl
        refine .nil ?_
        refine .seq ?_
        refine .region ?_
        refine .rd (.move rfl) ?_
        refine .rd (.move rfl) ?_
        refine .rd (.nilCheck rfl) ?_
        refine .rd (.fieldAddr fd90_0 rfl) ?_
        refine .rd (.ld na9 rfl .head rfl) ?_
        refine .rd (.move rfl) ?_
        refine .alter (t := 43) (v' := .int .i64 ((readBatch (rdMany rdB bl.length q).2.1).2.1.toNat : Int)) rfl (congrArg (Value.int .i64) (by omega)) ?_
        refine .rd (.sliceT (l := (rdMany rdB bl.length q).2.1) (a := (readBatch (rdMany rdB bl.length q).2.1).2.1.toNat) (h := (rdMany rdB bl.length q).2.1.length) Try.underlying9 rfl ⟨_, rfl⟩ rfl (by omega) (by omega)) ?_
        refine .rd (.nilCheck rfl) ?_
        refine .rd (.fieldAddr fd90_0 rfl) ?_
        refine .ef0 (.store ts9 rfl rfl .head rfl (Nat.le_of_ble_eq_true rfl)) ?_
        rintro _ _ rfl
        refine .nil ?_
        refine .cast (X' := blk r [.string (str (rdB (rdMany rdB bl.length q).2).2.1), .bool (rdB (rdMany rdB bl.length q).2).2.2] 90) (by unfold rdB; show blk r [Value.string (str ((_ : List UInt8).take _)), _] 90 = _; rw [List.take_of_length_le (by rw [List.length_drop]; omega)]) ?_
        refine .draws [4, 5] [blk mb (m.wB ba bc bl).cells 54, blk b6 (BatM.cells ((readBatch (rdMany rdB bl.length q).2.1).1, a1, c1)) 27] (by kernel_rfl) ?_
        refine .rp 0 rfl (by kernel_rfl) (by kernel_rfl) (by kernel_rfl) (Reads.pure (.move rfl)) ?_
        refine .rp 1 rfl (by kernel_rfl) (by kernel_rfl) (by kernel_rfl) (Reads.pure (.move rfl)) ?_
        refine .rp 2 rfl (by kernel_rfl) (by kernel_rfl) (by kernel_rfl) (Reads.pure (.nilCheck rfl)) ?_
        refine .rp 3 rfl (by kernel_rfl) (by kernel_rfl) (by kernel_rfl) (Reads.pure (.fieldAddr fd54_18 rfl)) ?_
        refine .rd 4 rfl rfl (by kernel_rfl) (by kernel_rfl) (by kernel_rfl) (.ld na51 rfl .head rfl) (.cons (.tail (.tail (.tail .head))) (.cons (.tail (.tail .head)) .nil)) ?_
        refine .rd 5 rfl rfl (by kernel_rfl) (by kernel_rfl) (by kernel_rfl) (.ldN ia27 ts27 rfl (.tail .head) rfl) (.cons (.tail (.tail (.tail .head))) (.cons (.tail (.tail .head)) .nil)) ?_
        refine .ef 6 (by kernel_rfl) rfl (.buildOne (cs := BatM.cells ((readBatch (rdMany rdB bl.length q).2.1).1, a1, c1)) Try.underlying51 ti27 (by decide) rfl rfl rfl (ones.of rfl)) ?_
        rintro _ _ ⟨bs, rfl, rfl⟩
        refine ⟨.inr ⟨_, (.cons (.tail (.tail (.tail (.tail .head)))) (.cons (.tail (.tail (.tail .head))) .nil))⟩, ?_⟩
        refine .ef 7 (by kernel_rfl) rfl (.append rfl rfl Try.underlying51 ti27 rfl (ones.of rfl) (by decide) (by decide) rfl rfl (.tail (.tail (.tail (.tail (.tail .head))))) (n := bl.length) (m := 1) (by rw [flat_length BatM.cells_len]) (.srcBlk (ys := BatM.cells ((readBatch (rdMany rdB bl.length q).2.1).1, a1, c1)) .head Try.underlying51 rfl (by decide)) (by omega)) ?_
        rintro _ _ ⟨ra, rc, rfl, rn, rfl⟩
        refine ⟨.inl (by kernel_rfl), ?_⟩
        refine .rp 8 rfl (by kernel_rfl) (by kernel_rfl) (by kernel_rfl) (Reads.pure (.nilCheck rfl)) ?_
        refine .rp 9 rfl (by kernel_rfl) (by kernel_rfl) (by kernel_rfl) (Reads.pure (.fieldAddr fd54_18 rfl)) ?_
        refine .ef0 10 (by kernel_rfl) rfl (.store ts51 rfl rfl (.tail (.tail (.tail (.tail (.tail .head))))) rfl (Nat.le_of_ble_eq_true rfl)) ?_
        rintro _ _ rfl
        refine ⟨.inl (by kernel_rfl), ?_⟩
        refine .done (by kernel_rfl) ?_
        refine .perm (.cons (.tail .head) (.cons .head (.cons .head (.cons .head (.cons .head (.cons .head (.cons .head .nil))))))) ?_
        refine .cast (X' := arr 27 6 ra rc ((bl ++ [((readBatch (rdMany rdB bl.length q).2.1).1, a1, c1)]).flatMap BatM.cells)) (by rw [List.flatMap_append]; simp) ?_
        refine .perm (.cons (.tail .head) (.cons .head (.cons .head (.cons .head (.cons .head (.cons .head (.cons .head .nil))))))) ?_
        refine .cast (X' := blk mb (m.wB ra rc (bl ++ [((readBatch (rdMany rdB bl.length q).2.1).1, a1, c1)])).cells 54) (congrArg (fun l => blk mb l 54) (by simp [MsgM.cells, MsgM.wB])) ?_
        refine .perm (.cons (.tail (.tail (.tail .head))) (.cons .head (.cons .head (.cons .head (.cons .head (.cons .head (.cons .head .nil))))))) ?_
        refine .cast (X' := blk r [.string (str (rdMany rdB (bl ++ [((readBatch (rdMany rdB bl.length q).2.1).1, a1, c1)]).length q).2.1), .bool (rdMany rdB (bl ++ [((readBatch (rdMany rdB bl.length q).2.1).1, a1, c1)]).length q).2.2] 90) (by rw [List.length_append]; rfl) ?_
        refine .inBlock ?_
        refine .region ?_
        refine .rd (.add rfl rfl (by omega) (by omega)) ?_
        refine .rd (.move rfl) ?_
        refine .nil ?_
        exact (ih (bl ++ [((readBatch (rdMany rdB bl.length q).2.1).1, a1, c1)], ra, rc) ⟨by show (bl ++ [_]).length ≤ n; rw [List.length_append]; show bl.length + 1 ≤ n; omega, by rw [List.length_append, List.map_append, hI.2]; rfl⟩ (by show n - (bl ++ [_]).length < n - bl.length; rw [List.length_append]; show n - (bl.length + 1) < _; omega)).to (.cons rfl (.cons rfl (.cons rfl (.cons rfl (.cons (by show _ = some (Value.int .i64 (((bl ++ [((readBatch (rdMany rdB bl.length q).2.1).1, a1, c1)]).length : Nat) : Int)); rw [List.length_append]; rfl) .nil))))) (.cons .head (.cons .head (.cons .head (.cons (.tail .head) (.cons (.tail (.tail .head)) .nil)))))
      · obtain rfl : n = bl.length := by omega
        have hA : (rdOpt (bit has 17) (rdL 64 rdB) [] p) = (rdMany rdB bl.length q) := (rdOpt_true h0).trans (by show rdMany rdB (rdC 64 p).1.toNat (rdC 64 p).2 = _; rw [← hn, ← hq])
        refine .settle (.tail (.tail .head)) (Settles.arr) ?_
        refine .knowAnd (fun w => RowAt ba (bl.flatMap BatM.cells) w ∧ ∀ y ∈ bl, RowAt y.2.1 (y.1.recs.flatMap Rec.cells) w) (.cons .head (.cons (.tail (.tail .head)) .nil)) (fun w h1 h2 => ⟨h1, h2⟩) ?_
        refine .perm (.cons (.tail .head) (.cons .head (.cons .head (.cons .head .nil)))) ?_
        refine .cast (X' := blk r [.string (str (rdOpt (bit has 17) (rdL 64 rdB) [] p).2.1), .bool (rdOpt (bit has 17) (rdL 64 rdB) [] p).2.2] 90) (by rw [hA]) ?_
        refine .exit rfl ?_
        exact fin (ba, bc, bl) (by rw [hA]; exact hI.2) (.cons rfl (.cons rfl (.cons rfl .nil))) (.cons .head (.cons (.tail .head) (.cons .head (.cons .head .nil))))
    · have hA : (rdOpt (bit has 17) (rdL 64 rdB) [] p) = ([], p) := rdOpt_false h0
      refine .knowT (fun w => RowAt none (([] : List BatM).flatMap BatM.cells) w ∧ ∀ y ∈ ([] : List BatM), RowAt y.2.1 (y.1.recs.flatMap Rec.cells) w) (fun w => ⟨.inl rfl, fun y hy => by cases hy⟩) ?_
      refine .perm (.cons (.tail (.tail .head)) (.cons .head (.cons .head (.cons .head .nil)))) ?_
      refine .cast (X' := blk mb (m.wB none 0 []).cells 54) (by rw [hB]) ?_
      refine .perm (.cons (.tail (.tail .head)) (.cons .head (.cons .head (.cons .head .nil)))) ?_
      refine .cast (X' := blk r [.string (str (rdOpt (bit has 17) (rdL 64 rdB) [] p).2.1), .bool (rdOpt (bit has 17) (rdL 64 rdB) [] p).2.2] 90) (by rw [hA]) ?_
      refine .skip ?_
      exact fin (none, 0, []) (by rw [hA]; rfl) (.cons rfl (.cons rfl (.cons rfl .nil))) (.cons .head (.cons .head (.cons .head (.cons .head .nil))))

end Go.Proofs.Ytllpkagplfmlbaa


/- Chapter 4: a message on its way into memory, in plain Lean. -/
namespace Go.Proofs.Ytllpkagplfmlbaa
open Go Go.Sp

def nvec (n : Nat) (xs : List Int) : List Value := ((xs ++ List.replicate (n - xs.length) 0).take n).map (Value.int .i64)
theorem nvec_len {n : Nat} (xs : List Int) : (nvec n xs).length = n := by unfold nvec; rw [List.length_map, List.length_take, List.length_append, List.length_replicate]; omega
theorem nvec_zero {n : Nat} {xs : List Int} (h : xs.length < n) : nvec n (xs ++ [0]) = nvec n xs := by
  unfold nvec
  rw [List.length_append, show n - xs.length = 1 + (n - (xs.length + [(0 : Int)].length)) by simp; omega, ← List.replicate_append_replicate, List.append_assoc]; rfl
theorem nvec_last {n : Nat} {xs : List Int} (h : n ≤ xs.length) (x : Int) : nvec n (xs ++ [x]) = nvec n xs := by
  unfold nvec
  rw [List.length_append, show n - (xs.length + [x].length) = 0 by simp; omega, show n - xs.length = 0 by omega]
  simp only [List.replicate_zero, List.append_nil]
  rw [List.take_append_of_le_length h]
theorem nvec_set {n : Nat} {xs : List Int} (h : xs.length < n) (x : Int) : (nvec n xs).set xs.length (.int .i64 x) = nvec n (xs ++ [x]) := by
  unfold nvec
  obtain ⟨d, rfl⟩ : ∃ d, n = xs.length + (d + 1) := ⟨n - xs.length - 1, by omega⟩
  rw [List.length_append, show xs.length + (d + 1) - xs.length = d + 1 by omega, show xs.length + (d + 1) - (xs.length + [x].length) = d by simp; omega, ← List.map_set, List.take_of_length_le (by simp), List.take_of_length_le (by simp)]
  rw [List.replicate_succ, List.set_append_right _ _ (Nat.le_refl _), Nat.sub_self]
  simp
theorem getD_snoc {xs : List Int} {n : Nat} (x : Int) (h : xs.length = n) : (xs ++ [x]).getD n 0 = x := by
  rw [List.getD_eq_getElem?_getD, List.getElem?_append_right (by omega), h, Nat.sub_self]; rfl
theorem getD_short {xs : List Int} {n : Nat} (h : xs.length ≤ n) : xs.getD n 0 = 0 := by
  rw [List.getD_eq_getElem?_getD, List.getElem?_eq_none h]; rfl
theorem fifteen {xs : List Int} (h : xs.length = 15) : ∃ x0 x1 x2 x3 x4 x5 x6 x7 x8 x9 x10 x11 x12 x13 x14, xs = [x0, x1, x2, x3, x4, x5, x6, x7, x8, x9, x10, x11, x12, x13, x14] := by
  match xs, h with
  | [x0, x1, x2, x3, x4, x5, x6, x7, x8, x9, x10, x11, x12, x13, x14], _ => exact ⟨_, _, _, _, _, _, _, _, _, _, _, _, _, _, _, rfl⟩
/-- Where the k-th number of a message lies. -/
def numAt (mb eb k : Nat) : Value := if k < 14 then .pointer (some ⟨mb, k + 1, none⟩) else .pointer (some ⟨eb, 0, none⟩)
theorem numAt_at (mb eb : Nat) {k : Nat} (h : k < 15) : (ptrs14 mb ++ [Value.pointer (some ⟨eb, 0, none⟩)])[k]? = some (numAt mb eb k) := by
  unfold numAt
  by_cases hk : k < 14
  · rw [if_pos hk, List.getElem?_append_left (by show k < 14; exact hk)]; exact ptrs_at mb hk
  · obtain rfl : k = 14 := by omega
    rfl
theorem RowAt.cellsAt {b o : Nat} {cs : List Value} {w : World} (h : RowAt (some ⟨b, o, none⟩) cs w) (hn : 0 < cs.length) : CellsAt b o cs w := by
  rcases h with rfl | ⟨b', o', e, h⟩
  · simp at hn
  · cases e; exact h
def zeroMM : MsgM := ⟨0, 0, 0, 0, 0, 0, 0, 0, 0, 0, 0, 0, 0, 0, 0, 0, [], [], none, 0, [], none, 0, [], none, 0, []⟩
theorem zeroMM_at (w : World) : zeroMM.at_ w := ⟨.inl rfl, (fun y hy => by cases hy), .inl rfl, .inl rfl⟩
def MsgM.wT (m : MsgM) (ts : List (List UInt8)) : MsgM := { m with name := ts.getD 0 [], text := ts.getD 1 [] }
theorem wT_set {m : MsgM} {ts : List (List UInt8)} (h : ts.length < 2) (s : List UInt8) : (m.wT ts).cells.set (16 + ts.length) (.string (str s)) = (m.wT (ts ++ [s])).cells := by
  match ts, h with
  | [], _ => rfl
  | [a], _ => rfl
theorem wT_none {m : MsgM} {ts : List (List UInt8)} (h : ts.length < 2) : m.wT (ts ++ [[]]) = m.wT ts := by
  match ts, h with
  | [], _ => rfl
  | [a], _ => rfl
def rdTxs (has : Nat) : Nat → Rdr → List (List UInt8) × Rdr
  | 0, p => ([], p)
  | k + 1, p => ((rdTxs has k p).1 ++ [(rdOpt (bit has (15 + k)) rdTx [] (rdTxs has k p).2).1], (rdOpt (bit has (15 + k)) rdTx [] (rdTxs has k p).2).2)
theorem rdTxs_len (has : Nat) : ∀ k p, (rdTxs has k p).1.length = k
  | 0, _ => rfl
  | k + 1, p => by rw [rdTxs, List.length_append, rdTxs_len has k p]; rfl
theorem rdNZ_short (p : Rdr) : (rdNZ p).2.1.length ≤ p.1.length := rdI_len p
theorem rdTx_short (p : Rdr) : (rdTx p).2.1.length ≤ p.1.length := rdT_len _ p
theorem rdTxs_short {has : Nat} : ∀ k p, (rdTxs has k p).2.1.length ≤ p.1.length
  | 0, _ => Nat.le_refl _
  | k + 1, p => Nat.le_trans (rdOpt_short rdTx_short _) (rdTxs_short k p)
theorem rdTx_bound (p : Rdr) : (rdTx p).1.length ≤ 65536 := by have := rdT_most (m := 65536) p (by decide); show (rdT 65536 p).1.length ≤ _; omega
theorem rdTxs_bound {has : Nat} : ∀ k p, ∀ s ∈ (rdTxs has k p).1, s.length ≤ 65536
  | 0, _, _, h => by cases h
  | k + 1, p, s, h => by
    rw [rdTxs] at h
    rcases List.mem_append.1 h with h | h
    · exact rdTxs_bound k p s h
    · rcases List.mem_singleton.1 h with rfl
      unfold rdOpt; split
      · exact rdTx_bound _
      · exact Nat.zero_le _
theorem zeroB_fits : zeroB.fits := by constructor <;> first | exact i64_zero | simp [zeroB]
theorem readBatch_fits (s : List UInt8) : (readBatch s).1.fits := by
  by_cases h : (readBatch s).2.2 = 0
  · exact (readBatch_inv h).2.2
  · by_cases h1 : s.length < 8
    · rw [readBatch_short h1]; exact zeroB_fits
    by_cases h2 : 4088 < four s
    · rw [readBatch_long h1 h2]; exact zeroB_fits
    by_cases h3 : s.length - 8 < four s
    · rw [readBatch_cut h1 h2 h3]; exact zeroB_fits
    by_cases h4 : (crc ((s.drop 8).take (four s))).toNat ≠ four (s.drop 4)
    · rw [readBatch_sum h1 h2 h3 rfl h4]; exact zeroB_fits
    have h4 := Decidable.of_not_not h4
    cases hb : pBatch ((s.drop 8).take (four s)) with
    | none => rw [readBatch_no h1 h2 h3 rfl h4 hb]; exact zeroB_fits
    | some b => rw [readBatch_yes h1 h2 h3 rfl h4 hb] at h; simp at h
theorem rdOptL_all {β : Type} {rs : Rdr → β × Rdr} {g : β → Prop} {b : Bool} {most : Nat} (hg : ∀ p, g (rs p).1) (p : Rdr) : ∀ x ∈ (rdOpt b (rdL most rs) [] p).1, g x := by
  unfold rdOpt; split
  · exact rdMany_all hg _ _
  · intro x hx; cases hx
theorem rdNZ_i64 (p : Rdr) : i64 (rdNZ p).1 := rint_i64 p.1
theorem rdE_good (p : Rdr) : i64 (rdE p).1.term ∧ i64 (rdE p).1.index ∧ (rdE p).1.data.length ≤ 140737488351232 := ⟨rint_i64 _, rint_i64 _, by have := rdT_most (m := 65536) (rdI (rdI p).2).2 (by decide); show (rdT 65536 (rdI (rdI p).2).2).1.length ≤ _; omega⟩
structure MGood (m : Msg) : Prop where
  kind : i64 m.kind
  nums : ∀ n ∈ m.nums, i64 n
  err : i64 m.err
  name : m.name.length ≤ 65536
  text : m.text.length ≤ 65536
  bats : ∀ b ∈ m.batches, b.fits
  batn : m.batches.length ≤ 64
  ents : ∀ e ∈ m.entries, i64 e.term ∧ i64 e.index ∧ e.data.length ≤ 140737488351232
  entn : m.entries.length ≤ 64
  ints : ∀ n ∈ m.ints, i64 n
  intn : m.ints.length ≤ 256
theorem MGood.fits {m : MsgM} (h : MGood m.msg) : m.fits where
  kind := h.kind
  nums := h.nums
  err := h.err
  name := Nat.le_trans h.name (by decide)
  text := Nat.le_trans h.text (by decide)
  bats y hy := h.bats y.1 (List.mem_map_of_mem hy)
  batn := by have := h.batn; rw [show m.msg.batches.length = m.bl.length from List.length_map ..] at this; omega
  ents := h.ents
  entn := by have := h.entn; rw [show m.msg.entries.length = m.el.length from rfl] at this; omega
  ints := h.ints
  intn := by have := h.intn; rw [show m.msg.ints.length = m.il.length from rfl] at this; omega
theorem rdOptTx_bound {b : Bool} (p : Rdr) : (rdOpt b rdTx [] p).1.length ≤ 65536 := by
  unfold rdOpt; split
  · exact rdTx_bound p
  · exact Nat.zero_le _
theorem rdBody_eq (k : Int) (has : Nat) (q : Rdr) : rdBody k has q = (mk k (rdNums rdNZ has 15 q).1 (rdOpt (bit has 15) rdTx [] (rdNums rdNZ has 15 q).2).1 (rdOpt (bit has 16) rdTx [] (rdOpt (bit has 15) rdTx [] (rdNums rdNZ has 15 q).2).2).1 (rdOpt (bit has 17) (rdL 64 rdB) [] (rdOpt (bit has 16) rdTx [] (rdOpt (bit has 15) rdTx [] (rdNums rdNZ has 15 q).2).2).2).1 (rdOpt (bit has 18) (rdL 64 rdE) [] (rdOpt (bit has 17) (rdL 64 rdB) [] (rdOpt (bit has 16) rdTx [] (rdOpt (bit has 15) rdTx [] (rdNums rdNZ has 15 q).2).2).2).2).1 (rdOpt (bit has 19) (rdL 256 rdI) [] (rdOpt (bit has 18) (rdL 64 rdE) [] (rdOpt (bit has 17) (rdL 64 rdB) [] (rdOpt (bit has 16) rdTx [] (rdOpt (bit has 15) rdTx [] (rdNums rdNZ has 15 q).2).2).2).2).2).1, (rdOpt (bit has 19) (rdL 256 rdI) [] (rdOpt (bit has 18) (rdL 64 rdE) [] (rdOpt (bit has 17) (rdL 64 rdB) [] (rdOpt (bit has 16) rdTx [] (rdOpt (bit has 15) rdTx [] (rdNums rdNZ has 15 q).2).2).2).2).2).2) := by
  unfold rdBody rdLists rBind rMap; rfl
theorem mk_good {k : Int} {ns : List Int} {nm tx : List UInt8} {bs : List Bat} {es : List Ent} {is : List Int} (hk : i64 k) (h1 : ∀ n ∈ ns, i64 n) (h2 : ns.length = 15) (h3 : nm.length ≤ 65536) (h4 : tx.length ≤ 65536) (h5 : ∀ b ∈ bs, b.fits) (h6 : bs.length ≤ 64)
    (h7 : ∀ e ∈ es, i64 e.term ∧ i64 e.index ∧ e.data.length ≤ 140737488351232) (h8 : es.length ≤ 64) (h9 : ∀ n ∈ is, i64 n) (h10 : is.length ≤ 256) : MGood (mk k ns nm tx bs es is) where
  kind := hk
  nums n hn := h1 n (List.mem_of_mem_take hn)
  err := by
    show i64 (ns.getD 14 0)
    rw [List.getD_eq_getElem?_getD, List.getElem?_eq_getElem (by omega)]
    exact h1 _ (List.getElem_mem ..)
  name := h3
  text := h4
  bats := h5
  batn := h6
  ents := h7
  entn := h8
  ints := h9
  intn := h10
theorem rdBody_good {k : Int} (hk : i64 k) (has : Nat) (q : Rdr) : MGood (rdBody k has q).1 := by
  rw [rdBody_eq]
  refine mk_good hk (rdNums_all i64_zero rdNZ_i64 15 q) (rdNums_len _ _ _ _) (rdOptTx_bound _) (rdOptTx_bound _) ?_ (rdOptL_len _) ?_ (rdOptL_len _) ?_ (rdOptL_len _)
  · exact rdOptL_all (g := Bat.fits) (fun p => readBatch_fits p.1) _
  · exact rdOptL_all (g := fun e : Ent => i64 e.term ∧ i64 e.index ∧ e.data.length ≤ 140737488351232) rdE_good _
  · exact rdOptL_all (g := i64) (fun p => rint_i64 p.1) _
theorem rdMsg_out {p : Rdr} (h : ¬ (0 ≤ (rdI (rdI p).2).1 ∧ (rdI (rdI p).2).1 < 1048576)) : rdMsg p = (zero4, [], false) := by
  unfold rdMsg rBind; exact if_neg h
theorem rdMsg_in {p : Rdr} (h : 0 ≤ (rdI (rdI p).2).1 ∧ (rdI (rdI p).2).1 < 1048576) : rdMsg p = rdBody (rdI p).1 (rdI (rdI p).2).1.toNat (rdI (rdI p).2).2 := by
  unfold rdMsg rBind; exact if_pos h
theorem num_set {a : Value} {xs : List Int} {t : List Value} {k : Nat} (h : k < 14) (hx : xs.length = k) (n : Int) : (a :: (nvec 14 xs ++ t)).set (k + 1) (.int .i64 n) = a :: (nvec 14 (xs ++ [n]) ++ t) := by
  subst hx
  rw [List.set_cons_succ, List.set_append_left _ _ (by rw [nvec_len]; exact h), nvec_set h]
theorem num_get {a : Value} {xs : List Int} {t : List Value} {k : Nat} (h : k < 14) (hx : xs.length = k) (n : Int) : (a :: (nvec 14 (xs ++ [n]) ++ t))[k + 1]? = some (.int .i64 n) := by
  subst hx
  rw [← nvec_set h, List.getElem?_cons_succ, List.getElem?_append_left (by rw [List.length_set, nvec_len]; exact h), List.getElem?_set, if_pos rfl, if_pos (by rw [nvec_len]; exact h)]
theorem wT_get {m : MsgM} {ts : List (List UInt8)} (h : ts.length < 2) (s : List UInt8) : (m.wT (ts ++ [s])).cells[16 + ts.length]? = some (.string (str s)) := by
  match ts, h with
  | [], _ => rfl
  | [a], _ => rfl
theorem two_at (mb : Nat) {j : Nat} (h : j < 2) : ([.pointer (some ⟨mb, 16, none⟩), .pointer (some ⟨mb, 17, none⟩)] : List Value)[j]? = some (.pointer (some ⟨mb, 16 + j, none⟩)) := by
  match j, h with
  | 0, _ => rfl
  | 1, _ => rfl
end Go.Proofs.Ytllpkagplfmlbaa

/- Chapter 4: what bytes say, in plain Lean. -/
namespace Go.Proofs.Ytllpkagplfmlbaa
open Go Go.Sp

def decode4 (b : List UInt8) : Msg × Int :=
  if b.length < 8 then (zero4, 5)
  else if 65528 < four b then (zero4, 2)
  else if b.length < 8 + four b then (zero4, 5)
  else if 8 + four b < b.length then (zero4, 4)
  else if (crc (b.drop 8)).toNat ≠ four (b.drop 4) then (zero4, 6)
  else match pMsg true (b.drop 8) with
    | some (m, []) => if right4 m = 0 then (m, 0) else (zero4, 4)
    | _ => (zero4, 4)
section
variable {b : List UInt8}
theorem decode_short (h : b.length < 8) : decode4 b = (zero4, 5) := if_pos h
theorem decode_long (h : ¬ b.length < 8) (h2 : 65528 < four b) : decode4 b = (zero4, 2) := by unfold decode4; rw [if_neg h, if_pos h2]
theorem decode_cut (h : ¬ b.length < 8) (h2 : ¬ 65528 < four b) (h3 : b.length < 8 + four b) : decode4 b = (zero4, 5) := by unfold decode4; rw [if_neg h, if_neg h2, if_pos h3]
theorem decode_more (h : ¬ b.length < 8) (h2 : ¬ 65528 < four b) (h3 : ¬ b.length < 8 + four b) (h4 : 8 + four b < b.length) : decode4 b = (zero4, 4) := by unfold decode4; rw [if_neg h, if_neg h2, if_neg h3, if_pos h4]
theorem decode_sum (h : ¬ b.length < 8) (h2 : ¬ 65528 < four b) (h3 : ¬ b.length < 8 + four b) (h4 : ¬ 8 + four b < b.length) (h5 : (crc (b.drop 8)).toNat ≠ four (b.drop 4)) : decode4 b = (zero4, 6) := by
  unfold decode4; rw [if_neg h, if_neg h2, if_neg h3, if_neg h4, if_pos h5]
theorem decode_in (h : ¬ b.length < 8) (h2 : ¬ 65528 < four b) (h3 : ¬ b.length < 8 + four b) (h4 : ¬ 8 + four b < b.length) (h5 : (crc (b.drop 8)).toNat = four (b.drop 4)) :
    decode4 b = match pMsg true (b.drop 8) with
    | some (m, []) => if right4 m = 0 then (m, 0) else (zero4, 4)
    | _ => (zero4, 4) := by
  unfold decode4; rw [if_neg h, if_neg h2, if_neg h3, if_neg h4, if_neg (not_not_intro h5)]
theorem decode_yes {t : List UInt8} (h : ¬ b.length < 8) (h2 : ¬ 65528 < four b) (h3 : ¬ b.length < 8 + four b) (h4 : ¬ 8 + four b < b.length) (ht : t = b.drop 8) (h5 : (crc t).toNat = four (b.drop 4))
    (hg : (rdMsg (t, true)).2.2 = true) (hl : (rdMsg (t, true)).2.1 = []) (hr : right4 (rdMsg (t, true)).1 = 0) : decode4 b = ((rdMsg (t, true)).1, 0) := by
  subst ht
  rw [decode_in h h2 h3 h4 h5]
  rcases (Stp.msg (b.drop 8, true)).1 rfl with ⟨_, e⟩ | ⟨e, _⟩
  · rw [e, hl]; exact if_pos hr
  · simp only [id] at e; rw [hg] at e; cases e
theorem decode_no {t : List UInt8} (h : ¬ b.length < 8) (h2 : ¬ 65528 < four b) (h3 : ¬ b.length < 8 + four b) (h4 : ¬ 8 + four b < b.length) (ht : t = b.drop 8) (h5 : (crc t).toNat = four (b.drop 4))
    (hn : ¬ ((rdMsg (t, true)).2.2 = true ∧ (rdMsg (t, true)).2.1 = [] ∧ right4 (rdMsg (t, true)).1 = 0)) : decode4 b = (zero4, 4) := by
  subst ht
  rw [decode_in h h2 h3 h4 h5]
  rcases (Stp.msg (b.drop 8, true)).1 rfl with ⟨hg, e⟩ | ⟨_, e⟩
  · rw [e]
    simp only [id] at hg
    cases hl : (rdMsg (b.drop 8, true)).2.1 with
    | nil => exact if_neg fun hr => hn ⟨hg, hl, hr⟩
    | cons x l => rfl
  · rw [e]
end
theorem zeroMM_msg : zeroMM.msg = zero4 := rfl
/-- A request's answer. -/
def answerM (m : MsgM) (e : Int) : MsgM := if (¬ (1 ≤ m.kind ∧ m.kind ≤ 28)) ∨ m.kind % 2 = 0 then zeroMM else { zeroMM with kind := m.kind + 1, n0 := m.n1, n1 := m.n0, n2 := m.n2, n3 := m.n3, err := e }
theorem answer_no {m : MsgM} {e : Int} (h : (¬ (1 ≤ m.kind ∧ m.kind ≤ 28)) ∨ m.kind % 2 = 0) : answerM m e = zeroMM := if_pos h
theorem answer_yes {m : MsgM} {e : Int} (h : ¬ ((¬ (1 ≤ m.kind ∧ m.kind ≤ 28)) ∨ m.kind % 2 = 0)) : answerM m e = { zeroMM with kind := m.kind + 1, n0 := m.n1, n1 := m.n0, n2 := m.n2, n3 := m.n3, err := e } := if_neg h
theorem answer_at (m : MsgM) (e : Int) (w : World) : (answerM m e).at_ w := by
  unfold answerM
  split
  · exact zeroMM_at w
  · exact zeroMM_at w
end Go.Proofs.Ytllpkagplfmlbaa

/- Chapter 4: the reference's readings, in plain Lean. -/
namespace Go.Proofs.Ytllpkagplfmlbaa
open Go Go.Sp

theorem Stq.qdI : Stp not qdI pI := fun p => by
  refine ⟨fun hg => ?_, fun hg => ?_⟩
  · have h : Fol (!p.2) p.1 (some ((), p.1)) () := .inl ⟨hg, rfl⟩
    have := h.qdI (f := fun _ n => n)
    simpa using this
  · have : p.2 = true := by simpa using hg
    unfold Go.Proofs.Ytllpkagplfmlbaa.qdI
    split <;> simp [this]
theorem Stq.qdT (most : Int) : Stp not (qdT most) (pT most) := fun p => by
  refine ⟨fun hg => ?_, fun hg => ?_⟩
  · have h : Fol (!p.2) p.1 (some ((), p.1)) () := .inl ⟨hg, rfl⟩
    have := h.qdT most (f := fun _ n => n)
    simpa using this
  · have h2 := (Stq.qdI p).2 hg
    unfold Go.Proofs.Ytllpkagplfmlbaa.qdT
    split
    · exact h2
    · first | rfl | exact h2
def qMany {β : Type} (rs : Rdr → β × Rdr) : Nat → Rdr → List β × Rdr
  | 0, p => ([], p)
  | n + 1, p => if (qMany rs n p).2.2 = true then qMany rs n p else ((qMany rs n p).1 ++ [(rs (qMany rs n p).2).1], (rs (qMany rs n p).2).2)
theorem qMany_stop {β : Type} {rs : Rdr → β × Rdr} {i : Nat} {p : Rdr} (h : (qMany rs i p).2.2 = true) : ∀ k, i ≤ k → qMany rs k p = qMany rs i p := by
  intro k hk
  induction k with
  | zero => obtain rfl : i = 0 := by omega
            rfl
  | succ k ih =>
    by_cases e : i = k + 1
    · rw [e]
    · have := ih (by omega)
      rw [qMany, this, if_pos h]
theorem qMany_go {β : Type} {rs : Rdr → β × Rdr} {i : Nat} {p : Rdr} (h : (qMany rs i p).2.2 = false) : qMany rs (i + 1) p = ((qMany rs i p).1 ++ [(rs (qMany rs i p).2).1], (rs (qMany rs i p).2).2) := by
  rw [qMany, if_neg (by rw [h]; decide)]
theorem Stq.many {β : Type} {rs : Rdr → β × Rdr} {ps : List UInt8 → Par β} (h : Stp not rs ps) : ∀ n, Stp not (qMany rs n) (pMany ps n)
  | 0 => .pure []
  | n + 1 => fun p => by
    have ih := Stq.many h n p
    refine ⟨fun hg => ?_, fun hg => ?_⟩
    · by_cases hb : (qMany rs n p).2.2 = true
      · rw [qMany, if_pos hb, pMany]
        rcases ih.1 hg with ⟨a, b⟩ | ⟨a, b⟩
        · rw [hb] at a; cases a
        · rw [b]; exact .inr ⟨a, rfl⟩
      · have hb' : (qMany rs n p).2.2 = false := by simpa using hb
        rw [qMany_go hb', pMany]
        rcases ih.1 hg with ⟨a, b⟩ | ⟨a, b⟩
        · rw [b, Option.bind_some]
          rcases (h (qMany rs n p).2).1 (by rw [hb']; rfl) with ⟨c, d⟩ | ⟨c, d⟩
          · dsimp only; rw [d]; exact .inl ⟨c, rfl⟩
          · dsimp only; rw [d]; exact .inr ⟨c, rfl⟩
        · rw [hb'] at a; cases a
    · have := ih.2 hg
      have hb : (qMany rs n p).2.2 = true := by simpa using this
      rw [qMany, if_pos hb]; exact this
def qL {β : Type} (most : Nat) (rs : Rdr → β × Rdr) : Rdr → List β × Rdr := rBind qdI fun n => qMany rs (min n.toNat (most + 1))
theorem Stq.qL {β : Type} {rs : Rdr → β × Rdr} {ps : List UInt8 → Par β} (most : Nat) (h : Stp not rs ps) : Stp not (qL most rs) (pList false most ps) :=
  Stp.congr (show Stp not (Go.Proofs.Ytllpkagplfmlbaa.qL most rs) (pBind pI fun n => pMany ps (min n.toNat (most + 1))) from Stq.qdI.bind fun n => Stq.many h _) fun l => by
    unfold pBind pList
    congr 1
def qB (p : Rdr) : Bat × Rdr := if (readBatch p.1).2.2 = 0 then ((readBatch p.1).1, p.1.drop (readBatch p.1).2.1.toNat, p.2) else ((readBatch p.1).1, p.1, true)
theorem Stq.qB : Stp not qB pBat := fun p => by
  unfold Go.Proofs.Ytllpkagplfmlbaa.qB pBat
  by_cases h : (readBatch p.1).2.2 = 0
  · rw [if_pos h, if_pos h]; exact ⟨fun hg => .inl ⟨hg, rfl⟩, fun hg => hg⟩
  · rw [if_neg h, if_neg h]; exact ⟨fun hg => .inr ⟨rfl, rfl⟩, fun hg => rfl⟩
def qE : Rdr → Ent × Rdr := rBind qdI fun t => rBind qdI fun i => rMap (fun d => ⟨t, i, d⟩) (qdT 65536)
theorem Stq.qE : Stp not qE pEnt := show Stp not Go.Proofs.Ytllpkagplfmlbaa.qE (pBind pI fun t => pBind pI fun i => pMap (fun d => ⟨t, i, d⟩) (pT 65536)) from
  Stq.qdI.bind fun t => Stq.qdI.bind fun i => (Stq.qdT 65536).map fun d => (⟨t, i, d⟩ : Ent)
theorem Stq.nz : Stp not Go.Proofs.Ytllpkagplfmlbaa.qdI (pNZ false) := Stq.qdI.congr fun l => by
  unfold pNZ
  cases pI l with
  | none => rfl
  | some x => rw [Option.bind_some, if_neg (fun h => by cases h.1)]
theorem Stq.tx : Stp not (Go.Proofs.Ytllpkagplfmlbaa.qdT 65536) (pTx false) := (Stq.qdT 65536).congr fun l => by
  unfold pTx
  cases pT 65536 l with
  | none => rfl
  | some x => rw [Option.bind_some, if_neg (fun h => by cases h.1)]
def qLists (has : Nat) : Rdr → Lists × Rdr :=
  rBind (rdOpt (bit has 17) (qL 64 qB) []) fun bs => rBind (rdOpt (bit has 18) (qL 64 qE) []) fun es => rMap (fun is => (bs, es, is)) (rdOpt (bit has 19) (qL 256 qdI) [])
def qBody (kind : Int) (has : Nat) : Rdr → Msg × Rdr :=
  rBind (rdNums qdI has 15) fun ns => rBind (rdOpt (bit has 15) (qdT 65536) []) fun nm => rBind (rdOpt (bit has 16) (qdT 65536) []) fun tx => rMap (fun ls => mk kind ns nm tx ls.1 ls.2.1 ls.2.2) (qLists has)
def qMsg : Rdr → Msg × Rdr := rBind qdI fun k => rBind qdI fun h p => if 0 ≤ h ∧ h < 1048576 then qBody k h.toNat p else (zero4, [], true)
theorem Stq.lists (has : Nat) : Stp not (qLists has) (pLs false has) :=
  (Stp.opt _ _ (Stq.qL 64 Stq.qB)).bind fun bs => (Stp.opt _ _ (Stq.qL 64 Stq.qE)).bind fun es => (Stp.opt _ _ (Stq.qL 256 Stq.qdI)).map fun is => (bs, es, is)
theorem Stq.body (kind : Int) (has : Nat) : Stp not (qBody kind has) (pBody4 false kind has) :=
  (Stp.nums Stq.nz has 15).bind fun ns => (Stp.opt _ _ Stq.tx).bind fun nm => (Stp.opt _ _ Stq.tx).bind fun tx => (Stq.lists has).map fun ls => mk kind ns nm tx ls.1 ls.2.1 ls.2.2
theorem Stq.msg : Stp not qMsg (pMsg false) :=
  Stp.congr (show Stp not qMsg (pBind pI fun k => pBind pI fun h t => if 0 ≤ h ∧ h < 1048576 then pBody4 false k h.toNat t else none) from
    Stq.qdI.bind fun k => Stq.qdI.bind fun h => Stp.ite (fun _ => Stq.body k h.toNat) fun _ => Stp.fail rfl _ _) (pMsg_nested false)
theorem qLists_bad {has : Nat} {p : Rdr} (h : (rdOpt (bit has 17) (qL 64 qB) [] p).2.2 = true) : (qLists has p).2.2 = true := by
  have h1 := (Stp.opt (bit has 18) [] (Stq.qL 64 Stq.qE) (rdOpt (bit has 17) (qL 64 qB) [] p).2).2 (by rw [h]; rfl)
  have h2 := (Stp.opt (bit has 19) [] (Stq.qL 256 Stq.qdI) _).2 h1
  have : (!(qLists has p).2.2) = false := h2
  simpa using this

/-! ### Both decode alike -/
theorem MGood.msg {m : Msg} (h : MGood m) (h14 : m.nums.length = 14) : m.fits := ⟨h.kind, h.nums, h14, h.err, h.bats, h.ints⟩
theorem rdMsg_good {p : Rdr} (h : (rdMsg p).2.2 = true) : MGood (rdMsg p).1 ∧ (rdMsg p).1.nums.length = 14 := by
  by_cases hR : 0 ≤ (rdI (rdI p).2).1 ∧ (rdI (rdI p).2).1 < 1048576
  · rw [rdMsg_in hR]
    refine ⟨rdBody_good (rint_i64 _) _ _, ?_⟩
    rw [rdBody_eq]
    show ((rdNums rdNZ _ 15 _).1.take 14).length = 14
    rw [List.length_take, rdNums_len]; rfl
  · rw [rdMsg_out hR] at h; cases h
theorem pMsg_good {t l : List UInt8} {m : Msg} (h : pMsg true t = some (m, l)) : MGood m ∧ m.nums.length = 14 := by
  rcases (Stp.msg (t, true)).1 rfl with ⟨hg, e⟩ | ⟨_, e⟩
  · dsimp only at e
    rw [e] at h; cases h
    exact rdMsg_good hg
  · dsimp only at e
    rw [e] at h; cases h
section
variable {b t : List UInt8}
theorem rdec_yes {m : Msg} (h : ¬ b.length < 8) (h2 : ¬ 65528 < four b) (h3 : ¬ b.length < 8 + four b) (h4 : ¬ 8 + four b < b.length) (ht : t = b.drop 8) (h5 : (crc t).toNat = four (b.drop 4))
    (hf : m.fits) (hr : right4 m = 0) (hb : body4 m = t) : decode4 b = (m, 0) := by
  subst ht
  rw [decode_in h h2 h3 h4 h5, ← hb]
  have := pMsg_body true hf (right4_iff.1 hr).1 (right4_iff.1 hr).2.1 []
  rw [List.append_nil] at this
  rw [this]; exact if_pos hr
theorem rdec_no (h : ¬ b.length < 8) (h2 : ¬ 65528 < four b) (h3 : ¬ b.length < 8 + four b) (h4 : ¬ 8 + four b < b.length) (ht : t = b.drop 8) (h5 : (crc t).toNat = four (b.drop 4))
    (hn : ∀ m, pMsg false t = some (m, []) → right4 m = 0 → body4 m ≠ t) : decode4 b = (zero4, 4) := by
  subst ht
  rw [decode_in h h2 h3 h4 h5]
  cases hp : pMsg true (b.drop 8) with
  | none => rfl
  | some x =>
    obtain ⟨m, l⟩ := x
    cases l with
    | cons y l => rfl
    | nil =>
      refine if_neg fun hr => ?_
      have e := pMsg_inv hp
      rw [List.append_nil] at e
      obtain ⟨hg, h14⟩ := pMsg_good hp
      refine hn m ?_ hr e.symm
      have := pMsg_body false (hg.msg h14) (right4_iff.1 hr).1 (right4_iff.1 hr).2.1 []
      rw [List.append_nil, ← e] at this
      exact this
end
theorem qMsg_ok {t : List UInt8} (hg : (qMsg (t, false)).2.2 = false) (hl : (qMsg (t, false)).2.1 = []) : pMsg false t = some ((qMsg (t, false)).1, []) := by
  rcases (Stq.msg (t, false)).1 rfl with ⟨_, e⟩ | ⟨e, _⟩
  · dsimp only at e
    rw [e, hl]
  · rw [hg] at e; cases e
theorem qMsg_no {t : List UInt8} {m : Msg} (h : pMsg false t = some (m, [])) : (qMsg (t, false)).2.2 = false ∧ (qMsg (t, false)).2.1 = [] ∧ (qMsg (t, false)).1 = m := by
  rcases (Stq.msg (t, false)).1 rfl with ⟨hg, e⟩ | ⟨_, e⟩
  · dsimp only at e
    rw [e] at h
    have h2 := Prod.mk.inj (Option.some.inj h)
    exact ⟨by simpa using hg, h2.2, h2.1⟩
  · dsimp only at e
    rw [e] at h; cases h
theorem qMany_short {β : Type} {rs : Rdr → β × Rdr} (hr : ∀ p, (rs p).2.1.length ≤ p.1.length) : ∀ n p, (qMany rs n p).2.1.length ≤ p.1.length
  | 0, _ => Nat.le_refl _
  | n + 1, p => by
    have := qMany_short hr n p
    rw [qMany]; split
    · exact this
    · exact Nat.le_trans (hr _) this
theorem qMany_all {β : Type} {rs : Rdr → β × Rdr} {g : β → Prop} (hg : ∀ p, g (rs p).1) : ∀ n p, ∀ x ∈ (qMany rs n p).1, g x
  | 0, _, x, h => by cases h
  | n + 1, p, x, h => by
    rw [qMany] at h
    split at h
    · exact qMany_all hg n p x h
    · rcases List.mem_append.1 h with h | h
      · exact qMany_all hg n p x h
      · rcases List.mem_singleton.1 h with rfl; exact hg _
theorem qMany_len {β : Type} (rs : Rdr → β × Rdr) : ∀ n p, (qMany rs n p).1.length ≤ n
  | 0, _ => Nat.le_refl _
  | n + 1, p => by
    have := qMany_len rs n p
    rw [qMany]; split
    · omega
    · rw [List.length_append]; show _ + 1 ≤ _; omega
theorem qL_len {β : Type} {most : Nat} {rs : Rdr → β × Rdr} (p : Rdr) : (qL most rs p).1.length ≤ most + 1 := Nat.le_trans (qMany_len _ _ _) (Nat.min_le_right _ _)
theorem qOptL_len {β : Type} {most : Nat} {rs : Rdr → β × Rdr} {b : Bool} (p : Rdr) : (rdOpt b (qL most rs) [] p).1.length ≤ most + 1 := by
  unfold rdOpt; split
  · exact qL_len p
  · exact Nat.zero_le _
theorem qOptL_all {β : Type} {rs : Rdr → β × Rdr} {g : β → Prop} {b : Bool} {most : Nat} (hg : ∀ p, g (rs p).1) (p : Rdr) : ∀ x ∈ (rdOpt b (qL most rs) [] p).1, g x := by
  unfold rdOpt; split
  · exact qMany_all hg _ _
  · intro x hx; cases hx
theorem qL_short {β : Type} {most : Nat} {rs : Rdr → β × Rdr} (hr : ∀ p, (rs p).2.1.length ≤ p.1.length) (p : Rdr) : (qL most rs p).2.1.length ≤ p.1.length := Nat.le_trans (qMany_short hr _ _) (qdI_len p)
theorem qB_short (p : Rdr) : (qB p).2.1.length ≤ p.1.length := by
  unfold qB; split
  · show (p.1.drop _).length ≤ _; rw [List.length_drop]; omega
  · exact Nat.le_refl _
theorem qE_short (p : Rdr) : (qE p).2.1.length ≤ p.1.length := Nat.le_trans (qdT_len _ _) (Nat.le_trans (qdI_len _) (qdI_len _))
/-- What the reference reads may have one too many. -/
structure QGood (m : Msg) : Prop where
  kind : i64 m.kind
  nums : ∀ n ∈ m.nums, i64 n
  n14 : m.nums.length = 14
  err : i64 m.err
  name : m.name.length ≤ 65536
  text : m.text.length ≤ 65536
  bats : ∀ b ∈ m.batches, b.fits
  batn : m.batches.length ≤ 65
  ents : ∀ e ∈ m.entries, i64 e.term ∧ i64 e.index ∧ e.data.length ≤ 140737488351232
  entn : m.entries.length ≤ 65
  ints : ∀ n ∈ m.ints, i64 n
  intn : m.ints.length ≤ 257
theorem QGood.fits {m : MsgM} (h : QGood m.msg) : m.fits where
  kind := h.kind
  nums := h.nums
  err := h.err
  name := Nat.le_trans h.name (by decide)
  text := Nat.le_trans h.text (by decide)
  bats y hy := h.bats y.1 (List.mem_map_of_mem hy)
  batn := by have := h.batn; rw [show m.msg.batches.length = m.bl.length from List.length_map ..] at this; omega
  ents := h.ents
  entn := by have := h.entn; rw [show m.msg.entries.length = m.el.length from rfl] at this; omega
  ints := h.ints
  intn := by have := h.intn; rw [show m.msg.ints.length = m.il.length from rfl] at this; omega
theorem QGood.msg {m : Msg} (h : QGood m) : m.fits := ⟨h.kind, h.nums, h.n14, h.err, h.bats, h.ints⟩
theorem qOptT_bound {b : Bool} (p : Rdr) : (rdOpt b (qdT 65536) [] p).1.length ≤ 65536 := by
  unfold rdOpt; split
  · have := qdT_most (m := 65536) p (by decide); omega
  · exact Nat.zero_le _
theorem qE_good (p : Rdr) : i64 (qE p).1.term ∧ i64 (qE p).1.index ∧ (qE p).1.data.length ≤ 140737488351232 := ⟨qdI_i64 _, qdI_i64 _, by have := qdT_most (m := 65536) (qdI (qdI p).2).2 (by decide); show (qdT 65536 (qdI (qdI p).2).2).1.length ≤ _; omega⟩
theorem qB_fits (p : Rdr) : (qB p).1.fits := by
  unfold qB; split <;> exact readBatch_fits _
theorem qBody_eq (k : Int) (has : Nat) (q : Rdr) : qBody k has q = (mk k (rdNums qdI has 15 q).1 (rdOpt (bit has 15) (qdT 65536) [] (rdNums qdI has 15 q).2).1 (rdOpt (bit has 16) (qdT 65536) [] (rdOpt (bit has 15) (qdT 65536) [] (rdNums qdI has 15 q).2).2).1
    (qLists has (rdOpt (bit has 16) (qdT 65536) [] (rdOpt (bit has 15) (qdT 65536) [] (rdNums qdI has 15 q).2).2).2).1.1
    (qLists has (rdOpt (bit has 16) (qdT 65536) [] (rdOpt (bit has 15) (qdT 65536) [] (rdNums qdI has 15 q).2).2).2).1.2.1
    (qLists has (rdOpt (bit has 16) (qdT 65536) [] (rdOpt (bit has 15) (qdT 65536) [] (rdNums qdI has 15 q).2).2).2).1.2.2,
    (qLists has (rdOpt (bit has 16) (qdT 65536) [] (rdOpt (bit has 15) (qdT 65536) [] (rdNums qdI has 15 q).2).2).2).2) := by
  unfold qBody rBind rMap; rfl
theorem mk_qgood {k : Int} {ns : List Int} {nm tx : List UInt8} {bs : List Bat} {es : List Ent} {is : List Int} (hk : i64 k) (h1 : ∀ n ∈ ns, i64 n) (h2 : ns.length = 15) (h3 : nm.length ≤ 65536) (h4 : tx.length ≤ 65536) (h5 : ∀ b ∈ bs, b.fits) (h6 : bs.length ≤ 65)
    (h7 : ∀ e ∈ es, i64 e.term ∧ i64 e.index ∧ e.data.length ≤ 140737488351232) (h8 : es.length ≤ 65) (h9 : ∀ n ∈ is, i64 n) (h10 : is.length ≤ 257) : QGood (mk k ns nm tx bs es is) where
  kind := hk
  nums n hn := h1 n (List.mem_of_mem_take hn)
  n14 := by show (ns.take 14).length = 14; rw [List.length_take]; omega
  err := by
    show i64 (ns.getD 14 0)
    rw [List.getD_eq_getElem?_getD, List.getElem?_eq_getElem (by omega)]
    exact h1 _ (List.getElem_mem ..)
  name := h3
  text := h4
  bats := h5
  batn := h6
  ents := h7
  entn := h8
  ints := h9
  intn := h10
theorem qLists_eq (has : Nat) (p : Rdr) : qLists has p = (((rdOpt (bit has 17) (qL 64 qB) [] p).1, (rdOpt (bit has 18) (qL 64 qE) [] (rdOpt (bit has 17) (qL 64 qB) [] p).2).1, (rdOpt (bit has 19) (qL 256 qdI) [] (rdOpt (bit has 18) (qL 64 qE) [] (rdOpt (bit has 17) (qL 64 qB) [] p).2).2).1),
    (rdOpt (bit has 19) (qL 256 qdI) [] (rdOpt (bit has 18) (qL 64 qE) [] (rdOpt (bit has 17) (qL 64 qB) [] p).2).2).2) := by
  unfold qLists rBind rMap; rfl
theorem qBody_good {k : Int} (hk : i64 k) (has : Nat) (q : Rdr) : QGood (qBody k has q).1 := by
  rw [qBody_eq, qLists_eq]
  refine mk_qgood hk (rdNums_all i64_zero qdI_i64 15 q) (rdNums_len _ _ _ _) (qOptT_bound _) (qOptT_bound _) ?_ (qOptL_len _) ?_ (qOptL_len _) ?_ (qOptL_len _)
  · exact qOptL_all (g := Bat.fits) qB_fits _
  · exact qOptL_all (g := fun e : Ent => i64 e.term ∧ i64 e.index ∧ e.data.length ≤ 140737488351232) qE_good _
  · exact qOptL_all (g := i64) qdI_i64 _
theorem qMsg_out {p : Rdr} (h : ¬ (0 ≤ (qdI (qdI p).2).1 ∧ (qdI (qdI p).2).1 < 1048576)) : qMsg p = (zero4, [], true) := by
  unfold qMsg rBind; exact if_neg h
theorem qMsg_in {p : Rdr} (h : 0 ≤ (qdI (qdI p).2).1 ∧ (qdI (qdI p).2).1 < 1048576) : qMsg p = qBody (qdI p).1 (qdI (qdI p).2).1.toNat (qdI (qdI p).2).2 := by
  unfold qMsg rBind; exact if_pos h
end Go.Proofs.Ytllpkagplfmlbaa

/- Chapter 4: what is written is read; what is torn is refused; in plain Lean. -/
namespace Go.Proofs.Ytllpkagplfmlbaa
open Go Go.Sp

theorem wmsg_is {m : Msg} (hr : right4 m = 0) : (wmsg m).1.length = 8 + (body4 m).length ∧ four (wmsg m).1 = (body4 m).length ∧ (wmsg m).1.drop 8 = body4 m ∧ four ((wmsg m).1.drop 4) = (crc (body4 m)).toNat ∧ (body4 m).length ≤ 65528 := by
  have hbl := (right4_iff.1 hr).2.2
  have hcl : (crc (body4 m)).toNat < 4294967296 := (crc (body4 m)).isLt
  refine ⟨?_, ?_, ?_, ?_, hbl⟩
  · rw [wmsg_yes hr]; simp only [List.length_append, fours_len]
  · rw [wmsg_yes hr]; show four (fours (body4 m).length ++ fours (crc (body4 m)).toNat ++ body4 m) = _
    rw [List.append_assoc, four_fours (by omega)]
  · rw [wmsg_yes hr]; exact List.drop_left' rfl
  · rw [wmsg_yes hr]; show four ((fours (body4 m).length ++ fours (crc (body4 m)).toNat ++ body4 m).drop 4) = _
    rw [List.append_assoc, show (fours (body4 m).length ++ (fours (crc (body4 m)).toNat ++ body4 m)).drop 4 = fours (crc (body4 m)).toNat ++ body4 m from List.drop_left' rfl, four_fours hcl]
theorem decode_write {m : Msg} (hf : m.fits) (hr : right4 m = 0) : decode4 (wmsg m).1 = (m, 0) := by
  obtain ⟨h1, h2, h3, h4, h5⟩ := wmsg_is hr
  exact rdec_yes (t := body4 m) (by omega) (by omega) (by omega) (by omega) h3.symm h4.symm hf hr rfl
theorem wmsg_same {m k : Msg} (hm : m.fits) (hk : k.fits) (hr : right4 m = 0) (hs : right4 k = 0) : (wmsg m).1 = (wmsg k).1 ↔ m = k := by
  constructor
  · intro e
    have h1 := decode_write hm hr
    rw [e, decode_write hk hs] at h1
    exact ((Prod.mk.inj h1).1).symm
  · rintro rfl; rfl
theorem torn4_cut {m : Msg} (hr : right4 m = 0) {k : Nat} (hk : k < (wmsg m).1.length) : decode4 ((wmsg m).1.take k) = (zero4, 5) := by
  obtain ⟨h1, h2, h3, h4, h5⟩ := wmsg_is hr
  have hl : ((wmsg m).1.take k).length = k := by rw [List.length_take]; omega
  by_cases h8 : k < 8
  · exact decode_short (by omega)
  · have e : four ((wmsg m).1.take k) = (body4 m).length := by rw [four_take (by omega) (by omega), h2]
    exact decode_cut (by omega) (by omega) (by omega)
theorem torn4_more {m : Msg} (hr : right4 m = 0) {more : List UInt8} (hm : more ≠ []) : decode4 ((wmsg m).1 ++ more) = (zero4, 4) := by
  obtain ⟨h1, h2, h3, h4, h5⟩ := wmsg_is hr
  have hp := List.length_pos_iff.2 hm
  have e : four ((wmsg m).1 ++ more) = (body4 m).length := by rw [four_append (by omega), h2]
  have hl : ((wmsg m).1 ++ more).length = (wmsg m).1.length + more.length := List.length_append
  exact decode_more (by omega) (by omega) (by omega) (by omega)
theorem torn4_set {m : Msg} (hr : right4 m = 0) {k : Nat} {x : UInt8} (hk : k < (wmsg m).1.length) (h4k : 4 ≤ k) (hx : x ≠ (wmsg m).1[k]) : decode4 ((wmsg m).1.set k x) = (zero4, 6) := by
  obtain ⟨h1, h2, h3, h4, h5⟩ := wmsg_is hr
  have hl : ((wmsg m).1.set k x).length = (wmsg m).1.length := List.length_set
  have e : four ((wmsg m).1.set k x) = (body4 m).length := by rw [four_set' (by omega) h4k, h2]
  by_cases h8 : k < 8
  · have e8 : ((wmsg m).1.set k x).drop 8 = body4 m := by rw [List.drop_set, if_pos (by omega), h3]
    have e4 : ((wmsg m).1.set k x).drop 4 = ((wmsg m).1.drop 4).set (k - 4) x := by rw [List.drop_set, if_neg (by omega)]
    refine decode_sum (by omega) (by omega) (by omega) (by omega) ?_
    rw [e8, e4, ← h4]
    refine fun h => four_set (l := (wmsg m).1.drop 4) (by rw [List.length_drop]; omega) (by omega) ?_ h.symm
    intro he; apply hx; rw [he, List.getElem_drop]; congr 1; omega
  · have e8 : ((wmsg m).1.set k x).drop 8 = (body4 m).set (k - 8) x := by rw [List.drop_set, if_neg (by omega), h3]
    have e4 : four (((wmsg m).1.set k x).drop 4) = (crc (body4 m)).toNat := by rw [List.drop_set, if_neg (by omega), four_set' (by rw [List.length_drop]; omega) (by omega), h4]
    refine decode_sum (by omega) (by omega) (by omega) (by omega) ?_
    rw [e4, e8]
    refine crc_set (by omega) ?_
    intro he; apply hx; rw [he]
    have := List.getElem_drop (xs := (wmsg m).1) (i := 8) (j := k - 8) (h := by rw [List.length_drop]; omega)
    simp only [h3] at this
    rw [this]; congr 1; omega
theorem wmsg_err (m : Msg) : (wmsg m).2 = right4 m := by
  unfold wmsg; split
  · rename_i h; exact h.symm
  · rfl
theorem wmsg_not {m : Msg} (h : (wmsg m).2 ≠ 0) : (wmsg m).1 = [] := by
  rw [wmsg_err] at h; rw [wmsg_no h]
theorem zero4_good : MGood zero4 := by
  refine ⟨i64_zero, ?_, i64_zero, by decide, by decide, ?_, by decide, ?_, by decide, ?_, by decide⟩
  · intro n hn
    have : n = 0 := List.eq_of_mem_replicate (n := 14) hn
    rw [this]; exact i64_zero
  · intro b hb; cases hb
  · intro b hb; cases hb
  · intro b hb; cases hb
theorem decode_good (s : List UInt8) : MGood (decode4 s).1 := by
  unfold decode4
  split
  · exact zero4_good
  · split
    · exact zero4_good
    · split
      · exact zero4_good
      · split
        · exact zero4_good
        · split
          · exact zero4_good
          · split
            · rename_i m hp
              split
              · exact (pMsg_good hp).1
              · exact zero4_good
            · exact zero4_good
theorem decode_fits {m : MsgM} {s : List UInt8} (h : m.msg = (decode4 s).1) : m.fits := MGood.fits (h ▸ decode_good s)

/-! ### The chapter's example -/
def XM : MsgM := { zeroMM with kind := 1, n9 := 2 }
theorem XM_fits : XM.fits := by
  refine ⟨⟨by decide, by decide⟩, ?_, i64_zero, by decide, by decide, ?_, by decide, ?_, by decide, ?_, by decide⟩
  · intro n hn
    simp only [XM, zeroMM, MsgM.nums, List.mem_cons, List.not_mem_nil, or_false] at hn
    rcases hn with rfl | rfl | rfl | rfl | rfl | rfl | rfl | rfl | rfl | rfl | rfl | rfl | rfl | rfl <;> exact ⟨by decide, by decide⟩
  · intro y hy; cases hy
  · intro y hy; cases hy
  · intro y hy; cases hy
theorem XM_at (w : World) : XM.at_ w := zeroMM_at w
theorem XM_body : body4 XM.msg = [2, 128, 8, 4] := by
  have hb : bits XM.msg.pres = 512 := by decide
  have hr : XM.msg.rest = eint 2 := by simp [Msg.rest, XM, zeroMM, MsgM.msg, MsgM.nums, intP, nameP, batsP, entsP, intsP]
  have h1 : eint XM.msg.kind = [2] := vint_small (by decide)
  have h2 : eint 2 = [4] := vint_small (by decide)
  have h3 : eint ((512 : Nat) : Int) = [128, 8] := by
    unfold eint
    rw [vint_big (by decide), vint_small (by decide)]; rfl
  unfold body4
  rw [hb, hr, h1, h2, h3]; rfl
theorem XM_right : right4 XM.msg = 0 := right4_zero (by decide) (by decide) (by rw [XM_body]; decide)
def YM : MsgM := { zeroMM with kind := 29 }
theorem YM_fits : YM.fits := by
  refine ⟨⟨by decide, by decide⟩, ?_, i64_zero, by decide, by decide, ?_, by decide, ?_, by decide, ?_, by decide⟩
  · intro n hn
    simp only [YM, zeroMM, MsgM.nums, List.mem_cons, List.not_mem_nil, or_false] at hn
    rcases hn with rfl | rfl | rfl | rfl | rfl | rfl | rfl | rfl | rfl | rfl | rfl | rfl | rfl | rfl <;> exact ⟨by decide, by decide⟩
  · intro y hy; cases hy
  · intro y hy; cases hy
  · intro y hy; cases hy
theorem YM_small : small4 YM.msg = 1 := by decide
theorem YM_err : (wmsg YM.msg).2 = 1 := by rw [wmsg_err, right4_small (by rw [YM_small]; decide), YM_small]
def ZM : MsgM := { zeroMM with kind := 7, n0 := 1, n1 := 2, n2 := 7, n3 := 3, n4 := 9 }
theorem answer_fits {m : MsgM} {e : Int} (hf : m.fits) (he : i64 e) : (answerM m e).fits := by
  have h0 : ∀ n ∈ (answerM m e).nums, i64 n := by
    intro n hn
    have hall : ∀ n ∈ m.nums, i64 n := hf.nums
    unfold answerM at hn
    split at hn
    · simp only [zeroMM, MsgM.nums, List.mem_cons, List.not_mem_nil, or_false] at hn
      rcases hn with rfl | rfl | rfl | rfl | rfl | rfl | rfl | rfl | rfl | rfl | rfl | rfl | rfl | rfl <;> exact i64_zero
    · simp only [zeroMM, MsgM.nums, List.mem_cons, List.not_mem_nil, or_false] at hn
      rcases hn with rfl | rfl | rfl | rfl | rfl | rfl | rfl | rfl | rfl | rfl | rfl | rfl | rfl | rfl <;> first | exact i64_zero | exact hall _ (by simp [MsgM.nums])
  have hk : i64 (answerM m e).kind := by
    unfold answerM
    split
    · exact i64_zero
    · rename_i h; show i64 (m.kind + 1); constructor <;> omega
  have he' : i64 (answerM m e).err := by
    unfold answerM
    split
    · exact i64_zero
    · exact he
  have hz : (answerM m e).name = [] ∧ (answerM m e).text = [] ∧ (answerM m e).bl = [] ∧ (answerM m e).el = [] ∧ (answerM m e).il = [] := by
    unfold answerM; split <;> exact ⟨rfl, rfl, rfl, rfl, rfl⟩
  obtain ⟨z1, z2, z3, z4, z5⟩ := hz
  refine ⟨hk, h0, he', by rw [z1]; decide, by rw [z2]; decide, ?_, by rw [z3]; decide, ?_, by rw [z4]; decide, ?_, by rw [z5]; decide⟩
  · rw [z3]; intro y hy; cases hy
  · rw [z4]; intro y hy; cases hy
  · rw [z5]; intro y hy; cases hy
end Go.Proofs.Ytllpkagplfmlbaa

namespace Go.Proofs.Ytllpkagplfmlbaa
open Go Go.Sp

set_option linter.unusedVariables false

namespace rpc2
theorem fd54_0 : FD Try.prog 54 0 0 := .of Try.underlying54 (by kernel_rfl)
theorem na3 : NotAgg Try.prog 3 := ⟨_, Try.underlying3, trivial⟩
theorem fd54_15 : FD Try.prog 54 15 15 := .of Try.underlying54 (by kernel_rfl)
theorem na28 : NotAgg Try.prog 28 := ⟨_, Try.underlying28, trivial⟩
theorem na73 : NotAgg Try.prog 73 := ⟨_, Try.underlying73, trivial⟩
theorem ts73 : TS Try.prog 73 1 := .of (by kernel_rfl)
theorem fd54_18 : FD Try.prog 54 18 18 := .of Try.underlying54 (by kernel_rfl)
theorem na51 : NotAgg Try.prog 51 := ⟨_, Try.underlying51, trivial⟩
theorem fd54_19 : FD Try.prog 54 19 19 := .of Try.underlying54 (by kernel_rfl)
theorem na52 : NotAgg Try.prog 52 := ⟨_, Try.underlying52, trivial⟩
theorem fd54_20 : FD Try.prog 54 20 20 := .of Try.underlying54 (by kernel_rfl)
theorem na37 : NotAgg Try.prog 37 := ⟨_, Try.underlying37, trivial⟩
theorem fd54_16 : FD Try.prog 54 16 16 := .of Try.underlying54 (by kernel_rfl)
theorem na9 : NotAgg Try.prog 9 := ⟨_, Try.underlying9, trivial⟩
theorem ts27 : TS Try.prog 27 6 := .of (by kernel_rfl)
theorem ia27 : IsAgg Try.prog 27 := ⟨_, Try.underlying27, trivial⟩
theorem ti27 : TI Try.prog 27 6 64 (.agg #[.int .i64 0, .int .i64 0, .int .i64 0, .int .i64 0, .int .i64 0, .slice none 0 0]) := .of (by kernel_rfl)
theorem ts86 : TS Try.prog 86 3 := .of (by kernel_rfl)
theorem ia86 : IsAgg Try.prog 86 := ⟨_, Try.underlying86, trivial⟩
theorem ti86 : TI Try.prog 86 3 32 (.agg #[.int .i64 0, .int .i64 0, .string ⟨#[]⟩]) := .of (by kernel_rfl)
theorem fd86_0 : FD Try.prog 86 0 0 := .of Try.underlying86 (by kernel_rfl)
theorem fd86_1 : FD Try.prog 86 1 1 := .of Try.underlying86 (by kernel_rfl)
theorem fd86_2 : FD Try.prog 86 2 2 := .of Try.underlying86 (by kernel_rfl)
end rpc2
open rpc2



set_option maxHeartbeats 1000000 in
set_option maxRecDepth 20000 in
theorem small_ok (m : MsgM) (hf : m.fits) : Cn Try.prog 66 [.agg m.cells.toArray] (fun w => m.at_ w) [] fun v G => v = .int .i64 (small4 m.msg) ∧ G = [] := by
  refine .enter Try.func66 rfl (by kernel_rfl) rfl fun R k => ?_
  refine .seq ?_
  refine .region ?_
  refine .ef (.box (l := m.cells) rfl rfl (ones.of rfl)) ?_
  rintro _ _ ⟨b1, rfl, rfl⟩
  refine .rd (.assign rfl) ?_
  refine .nil ?_
  refine .seq ?_
  refine .region ?_
  refine RunO.join 8 18 ((wthB m.kind 1 28 && wthB m.err 0 23)) ?_ ?_
  · refine .rd (.fieldAddr fd54_0 rfl) ?_
    refine .rd (.ld na3 rfl .head rfl) ?_
    refine .fn rfl rfl .nil (fun _ _ _ => trivial) (within4_ok m.kind 1 28) (fun v G1 hq => ?_)
    obtain ⟨rfl, rfl⟩ := hq
    simp only [List.nil_append]
    refine .rd (.move rfl) ?_
    refine .split (t := 14) rfl (fun g1_3 => ?_) (fun g1_3 => ?_)
    · refine .on (t := 14) rfl rfl ?_
      refine .rd (.fieldAddr fd54_15 rfl) ?_
      refine .on (t := 14) rfl rfl ?_
      refine .rd (.ld na28 rfl .head rfl) ?_
      refine .on (t := 14) rfl rfl ?_
      refine .fn rfl rfl .nil (fun _ _ _ => trivial) (within4_ok m.err 0 23) (fun v G1 hq => ?_)
      obtain ⟨rfl, rfl⟩ := hq
      simp only [List.nil_append]
      refine .rd (.pickT rfl rfl) ?_
      refine .nil ⟨rfl, ?_, by repeat (first | exact Le.refl _ | refine Le.skip rfl ?_)⟩
      exact congrArg (fun x => some (Value.bool x)) (Eq.symm (show ((wthB m.kind 1 28 && wthB m.err 0 23)) = _ by (rw [g1_3]) <;> rfl))
    · refine .off (t := 14) rfl rfl rfl ?_
      refine .off (t := 14) rfl rfl rfl ?_
      refine .off (t := 14) rfl rfl rfl ?_
      refine .rd (.pickF rfl rfl) ?_
      refine .nil ⟨rfl, ?_, by repeat (first | exact Le.refl _ | refine Le.skip rfl ?_)⟩
      exact congrArg (fun x => some (Value.bool x)) (Eq.symm (show ((wthB m.kind 1 28 && wthB m.err 0 23)) = _ by (rw [g1_3]) <;> rfl))
  refine .rd (.assign rfl) ?_
  refine .nil ?_
  refine .seq ?_
  refine .seq ?_
  refine .region ?_
  refine .fn rfl rfl .nil (fun _ _ _ => trivial) (numbers_ok b1) (fun v G1 hq => ?_)
  obtain ⟨rfl, rfl⟩ := hq
  simp only [List.nil_append]
  refine .rd (.move rfl) ?_
  refine .nil ?_
  refine .block ?_
  refine .loop (σ := Nat) (fun i => i ≤ 14) (fun i => 14 - i) (fun i => [(1, .pointer (some ⟨b1, 0, none⟩)), (3, .bool ((wthB m.kind 1 28 && wthB m.err 0 23) && (m.nums.take i).all (fun n => wthB n (-1) 1000000000))), (19, .agg (ptrs14 b1).toArray), (20, .int .i64 (i : Nat))]) (fun i => [blk b1 m.cells 54, R]) 0 (by omega) (.cons rfl (.cons (by rw [List.take_zero]; show _ = some (Value.bool (_ && true)); rw [Bool.and_true]; rfl) (.cons rfl (.cons rfl .nil)))) (.cons .head (.cons .head .nil)) (fun i hI ih => ?_)
  have hi := hI
  refine .seq ?_
  refine .region ?_
  refine .rd (.lt rfl rfl) ?_
  refine .nil ?_
  refine .seq ?_
  refine .condP rfl (fun h3 => ?_) (fun h3 => ?_)
  · refine .skip ?_
    refine .seq ?_
    refine .block ?_
    refine .seq ?_
    obtain ⟨n, hn1, hn2⟩ := m.num_at (i := i) (by omega)
    refine .region ?_
    refine .rd (.indexA1 (n := 14) Try.underlying102 na73 ts73 rfl rfl (by omega) (by omega) (by rw [Int.toNat_natCast, Nat.mul_one, List.getElem?_toArray]; exact ptrs_at b1 (i := i) (by omega))) ?_
    refine .rd (.assign rfl) ?_
    refine .nil ?_
    refine .region ?_
    refine RunO.join 7 29 (((wthB m.kind 1 28 && wthB m.err 0 23) && (m.nums.take i).all (fun n => wthB n (-1) 1000000000)) && wthB n (-1) 1000000000) ?_ ?_
    · refine .rd (.move rfl) ?_
      refine .rd (.move rfl) ?_
      refine .split (t := 24) rfl (fun g5_1 => ?_) (fun g5_1 => ?_)
      · refine .on (t := 24) rfl rfl ?_
        refine .rd (.move rfl) ?_
        refine .on (t := 24) rfl rfl ?_
        refine .rd (.nilCheck rfl) ?_
        refine .on (t := 24) rfl rfl ?_
        refine .rd (.ld na3 rfl .head hn2) ?_
        refine .on (t := 24) rfl rfl ?_
        refine .fn rfl rfl .nil (fun _ _ _ => trivial) (within4_ok n (-1) 1000000000) (fun v G1 hq => ?_)
        obtain ⟨rfl, rfl⟩ := hq
        simp only [List.nil_append]
        refine .rd (.pickT rfl rfl) ?_
        refine .nil ⟨rfl, ?_, by repeat (first | exact Le.refl _ | refine Le.skip rfl ?_)⟩
        exact congrArg (fun x => some (Value.bool x)) (Eq.symm (show (((wthB m.kind 1 28 && wthB m.err 0 23) && (m.nums.take i).all (fun n => wthB n (-1) 1000000000)) && wthB n (-1) 1000000000) = _ by (rw [g5_1]) <;> rfl))
      · refine .off (t := 24) rfl rfl rfl ?_
        refine .off (t := 24) rfl rfl rfl ?_
        refine .off (t := 24) rfl rfl rfl ?_
        refine .off (t := 24) rfl rfl rfl ?_
        refine .rd (.pickF rfl rfl) ?_
        refine .nil ⟨rfl, ?_, by repeat (first | exact Le.refl _ | refine Le.skip rfl ?_)⟩
        exact congrArg (fun x => some (Value.bool x)) (Eq.symm (show (((wthB m.kind 1 28 && wthB m.err 0 23) && (m.nums.take i).all (fun n => wthB n (-1) 1000000000)) && wthB n (-1) 1000000000) = _ by (rw [g5_1]) <;> rfl))
    refine .rd (.assign rfl) ?_
    refine .nil ?_
    refine .inBlock ?_
    refine .region ?_
    refine .rd (.add rfl rfl (by omega) (by omega)) ?_
    refine .rd (.move rfl) ?_
    refine .nil ?_
    exact (ih (i + 1) (by omega) (by omega)).to (.cons rfl (.cons (by show _ = some (Value.bool ((wthB m.kind 1 28 && wthB m.err 0 23) && (m.nums.take (i + 1)).all (fun n => wthB n (-1) 1000000000))); rw [all_snocB hn1, ← Bool.and_assoc]; rfl) (.cons rfl (.cons rfl .nil)))) (.cons .head (.cons .head .nil))
  · obtain rfl : i = 14 := by omega
    have hokv : ((wthB m.kind 1 28 && wthB m.err 0 23) && (m.nums.take 14).all (fun n => wthB n (-1) 1000000000)) = okN m.msg := rfl
    rw [hokv]
    refine .exit rfl ?_
    refine .seq ?_
    refine .block ?_
    refine .seq ?_
    refine .region ?_
    refine .rd (.move rfl) ?_
    refine .rd (.not rfl) ?_
    refine .rd (.assign rfl) ?_
    refine .nil ?_
    refine .cond rfl (fun h7 => ?_) (fun h7 => ?_)
    · have hok : okN m.msg = false := by simpa using h7
      refine .seq ?_
      refine .region ?_
      refine .rd (.assign rfl) ?_
      refine .nil ?_
      have hv : small4 m.msg = 1 := by unfold small4; rw [if_pos hok]
      rw [hv]
      refine .retP Try.func66 (.cons (.tmp rfl) .nil) (.cons (.tail .head) .nil) ?_
      exact ⟨[], ⟨rfl, rfl⟩, rfl⟩
    · have hok : okN m.msg = true := by simpa using h7
      refine .seq ?_
      refine .region ?_
      refine RunO.join 16 50 ((decide (64 < (m.bl.length : Int)) || decide (64 < (m.el.length : Int))) || decide (256 < (m.il.length : Int))) ?_ ?_
      · refine .rd (.fieldAddr fd54_18 rfl) ?_
        refine .rd (.ld na51 rfl .head rfl) ?_
        refine .rd (.lenL rfl rfl Try.underlying51 rfl) ?_
        refine .rd (.gt rfl rfl) ?_
        refine .rd (.move rfl) ?_
        refine .split (t := 39) rfl (fun g9_4 => ?_) (fun g9_4 => ?_)
        · replace g9_4 := of_decide_eq_true g9_4
          refine .off (t := 39) rfl rfl rfl ?_
          refine .off (t := 39) rfl rfl rfl ?_
          refine .off (t := 39) rfl rfl rfl ?_
          refine .off (t := 39) rfl rfl rfl ?_
          refine .rd (.pickT rfl rfl) ?_
          refine .rd (.move rfl) ?_
          refine .off (t := 45) rfl rfl rfl ?_
          refine .off (t := 45) rfl rfl rfl ?_
          refine .off (t := 45) rfl rfl rfl ?_
          refine .off (t := 45) rfl rfl rfl ?_
          refine .rd (.pickT rfl rfl) ?_
          refine .nil ⟨rfl, ?_, by repeat (first | exact Le.refl _ | refine Le.skip rfl ?_)⟩
          exact congrArg (fun x => some (Value.bool x)) (Eq.symm (show ((decide (64 < (m.bl.length : Int)) || decide (64 < (m.el.length : Int))) || decide (256 < (m.il.length : Int))) = _ by (rw [decide_eq_true g9_4]) <;> rfl))
        · replace g9_4 := of_decide_eq_false g9_4
          refine .on (t := 39) rfl rfl ?_
          refine .rd (.fieldAddr fd54_19 rfl) ?_
          refine .on (t := 39) rfl rfl ?_
          refine .rd (.ld na52 rfl .head rfl) ?_
          refine .on (t := 39) rfl rfl ?_
          refine .rd (.lenL rfl rfl Try.underlying52 rfl) ?_
          refine .on (t := 39) rfl rfl ?_
          refine .rd (.gt rfl rfl) ?_
          refine .rd (.pickF rfl rfl) ?_
          refine .rd (.move rfl) ?_
          refine .split (t := 45) rfl (fun g9_10 => ?_) (fun g9_10 => ?_)
          · replace g9_10 := of_decide_eq_true g9_10
            refine .off (t := 45) rfl rfl rfl ?_
            refine .off (t := 45) rfl rfl rfl ?_
            refine .off (t := 45) rfl rfl rfl ?_
            refine .off (t := 45) rfl rfl rfl ?_
            refine .rd (.pickT rfl rfl) ?_
            refine .nil ⟨rfl, ?_, by repeat (first | exact Le.refl _ | refine Le.skip rfl ?_)⟩
            exact congrArg (fun x => some (Value.bool x)) (Eq.symm (show ((decide (64 < (m.bl.length : Int)) || decide (64 < (m.el.length : Int))) || decide (256 < (m.il.length : Int))) = _ by (rw [decide_eq_false g9_4, decide_eq_true g9_10]) <;> rfl))
          · replace g9_10 := of_decide_eq_false g9_10
            refine .on (t := 45) rfl rfl ?_
            refine .rd (.fieldAddr fd54_20 rfl) ?_
            refine .on (t := 45) rfl rfl ?_
            refine .rd (.ld na37 rfl .head rfl) ?_
            refine .on (t := 45) rfl rfl ?_
            refine .rd (.lenL rfl rfl Try.underlying37 rfl) ?_
            refine .on (t := 45) rfl rfl ?_
            refine .rd (.gt rfl rfl) ?_
            refine .rd (.pickF rfl rfl) ?_
            refine .nil ⟨rfl, ?_, by repeat (first | exact Le.refl _ | refine Le.skip rfl ?_)⟩
            exact congrArg (fun x => some (Value.bool x)) (Eq.symm (show ((decide (64 < (m.bl.length : Int)) || decide (64 < (m.el.length : Int))) || decide (256 < (m.il.length : Int))) = _ by (rw [decide_eq_false g9_4, decide_eq_false g9_10]) <;> rfl))
      refine .rd (.assign rfl) ?_
      refine .nil ?_
      refine .cond rfl (fun h9 => ?_) (fun h9 => ?_)
      · have hmany : (64 < m.msg.batches.length ∨ 64 < m.msg.entries.length ∨ 256 < m.msg.ints.length) := by
          have e1 : m.msg.batches.length = m.bl.length := List.length_map ..
          have e2 : m.msg.entries.length = m.el.length := rfl
          have e3 : m.msg.ints.length = m.il.length := rfl
          rw [e1, e2, e3]
          simp only [Bool.or_eq_true, decide_eq_true_eq] at h9
          omega
        refine .seq ?_
        refine .region ?_
        refine .rd (.assign rfl) ?_
        refine .nil ?_
        have hv : small4 m.msg = 3 := by unfold small4; rw [if_neg (by rw [hok]; decide), if_pos hmany]
        rw [hv]
        refine .retP Try.func66 (.cons (.tmp rfl) .nil) (.cons (.tail .head) .nil) ?_
        exact ⟨[], ⟨rfl, rfl⟩, rfl⟩
      · have hmany : ¬ (64 < m.msg.batches.length ∨ 64 < m.msg.entries.length ∨ 256 < m.msg.ints.length) := by
          have e1 : m.msg.batches.length = m.bl.length := List.length_map ..
          have e2 : m.msg.entries.length = m.el.length := rfl
          have e3 : m.msg.ints.length = m.il.length := rfl
          rw [e1, e2, e3]
          simp only [Bool.or_eq_false_iff, decide_eq_false_iff_not] at h9
          omega
        refine .seq ?_
        refine .region ?_
        refine .rd (.fieldAddr fd54_16 rfl) ?_
        refine .rd (.ld na9 rfl .head rfl) ?_
        refine .rd (.lenT rfl rfl Try.underlying9 rfl) ?_
        refine .rd (.gt rfl rfl) ?_
        refine .rd (.assign rfl) ?_
        refine .nil ?_
        refine .condP rfl (fun h11 => ?_) (fun h11 => ?_)
        · refine .seq ?_
          refine .region ?_
          refine .rd (.assign rfl) ?_
          refine .nil ?_
          have hv : small4 m.msg = 2 := by unfold small4; rw [if_neg (by rw [hok]; decide), if_neg (show ¬ (64 < m.msg.batches.length ∨ 64 < m.msg.entries.length ∨ 256 < m.msg.ints.length) from hmany), if_pos (show 32 < m.msg.name.length from by show 32 < m.name.length; omega)]
          rw [hv]
          refine .retP Try.func66 (.cons (.tmp rfl) .nil) (.cons (.tail .head) .nil) ?_
          exact ⟨[], ⟨rfl, rfl⟩, rfl⟩
        · refine .skip ?_
          refine .inBlock ?_
          refine .seq ?_
          refine .seq ?_
          refine .region ?_
          refine .rd (.fieldAddr fd54_18 rfl) ?_
          refine .rd (.ld na51 rfl .head rfl) ?_
          refine .rd (.lenL rfl rfl Try.underlying51 rfl) ?_
          refine .rd (.move rfl) ?_
          refine .nil ?_
          refine .block ?_
          refine .loop (σ := Nat) (fun i => i ≤ m.bl.length ∧ ∀ y ∈ m.bl.take i, right y.1 = 0) (fun i => m.bl.length - i) (fun i => [(1, .pointer (some ⟨b1, 0, none⟩)), (57, .slice m.ba m.bl.length m.bc), (58, .int .i64 m.bl.length), (59, .int .i64 (i : Nat))]) (fun i => [blk b1 m.cells 54, R]) 0 ⟨Nat.zero_le _, by simp⟩ (.cons rfl (.cons rfl (.cons rfl (.cons rfl .nil)))) (.cons .head (.cons .head .nil)) (fun i hI ih => ?_)
          have hi := hI.1
          have hbn := hf.batn
          have hen := hf.entn
          refine .seq ?_
          refine .region ?_
          refine .rd (.lt rfl rfl) ?_
          refine .nil ?_
          refine .seq ?_
          refine .condP rfl (fun h14 => ?_) (fun h14 => ?_)
          · refine .skip ?_
            refine .seq ?_
            refine .block ?_
            refine .seq ?_
            obtain ⟨y, hy⟩ : ∃ y, m.bl[i]? = some y := ⟨_, List.getElem?_eq_getElem (by omega)⟩
            have hym := List.mem_of_getElem? hy
            refine .tell (φ := ∃ b o, m.ba = some ⟨b, o, none⟩) (Knows.pick (.tail .head) (k.mono fun _ h => RowAt.addr (h.1) (by rw [flat_length BatM.cells_len]; omega))) (fun hh => ?_)
            obtain ⟨b9, o9, hab⟩ := hh
            refine .region ?_
            refine .rd (.indexAddr (b := b9) (o := o9) Try.underlying51 ts27 (by show some (Value.slice m.ba _ _) = _; rw [hab]) rfl (by omega) (by omega)) ?_
            refine .rd (.loadN ia27 ts27 rfl rfl (Knows.elem (f := BatM.cells) BatM.cells_len (by decide) (Knows.pick (.tail .head) (k.mono fun _ h => hab ▸ (h.1))) hy)) ?_
            refine .ef (.alloc ti27 rfl (ones.of rfl)) ?_
            rintro _ _ ⟨b7, rfl, rfl⟩
            refine .ef0 (.storeAll (vs := BatM.cells y) ts27 rfl rfl rfl .head rfl (ones.of rfl)) ?_
            rintro _ _ rfl
            refine .nil ?_
            refine .seq ?_
            refine .region ?_
            refine .rd (.ldN ia27 ts27 rfl .head rfl) ?_
            refine .fn rfl rfl .nil (Knows.pick (.tail (.tail .head)) (k.mono fun _ h => h.2.1 y hym)) (Right_ok y.1 y.2.1 y.2.2 (hf.bats y hym)) (fun v G1 hq => ?_)
            obtain ⟨rfl, rfl⟩ := hq
            simp only [List.nil_append]
            refine .rd (.assign rfl) ?_
            refine .nil ?_
            refine .seq ?_
            refine .region ?_
            refine .rd (.move rfl) ?_
            refine .rd (.neI rfl rfl) ?_
            refine .nil ?_
            refine .condN rfl (fun h17 => ?_) (fun h17 => ?_)
            · refine .seq ?_
              refine .region ?_
              refine .rd (.move rfl) ?_
              refine .rd (.assign rfl) ?_
              refine .nil ?_
              have hbe : firstE right m.msg.batches = right y.1 := by show firstE right (m.bl.map (·.1)) = _; rw [firstE_map]; exact firstE_hit hy h17 hI.2
              have hv : small4 m.msg = right y.1 := by unfold small4; rw [if_neg (by rw [hok]; decide), if_neg (show ¬ (64 < m.msg.batches.length ∨ 64 < m.msg.entries.length ∨ 256 < m.msg.ints.length) from hmany), if_neg (show ¬ 32 < m.msg.name.length from by show ¬ 32 < m.name.length; omega), hbe, if_pos h17]
              rw [hv]
              refine .retP Try.func66 (.cons (.tmp rfl) .nil) (.cons (.tail (.tail .head)) .nil) ?_
              exact ⟨[], ⟨rfl, rfl⟩, rfl⟩
            · refine .skip ?_
              refine .inBlock ?_
              refine .region ?_
              refine .rd (.add rfl rfl (by omega) (by omega)) ?_
              refine .rd (.move rfl) ?_
              refine .nil ?_
              exact (ih (i + 1) ⟨by omega, all_take (p := fun y => right y.1 = 0) hy (by omega) hI.2⟩ (by omega)).to (.cons rfl (.cons rfl (.cons rfl (.cons rfl .nil)))) (.cons (.tail .head) (.cons (.tail .head) .nil))
          · have hbats : firstE right m.msg.batches = 0 := by show firstE right (m.bl.map (·.1)) = _; rw [firstE_map]; exact firstE_zero fun y hy => hI.2 y (by rw [List.take_of_length_le (by omega)]; exact hy)
            refine .exit rfl ?_
            refine .seq ?_
            refine .seq ?_
            refine .region ?_
            refine .rd (.fieldAddr fd54_19 rfl) ?_
            refine .rd (.ld na52 rfl .head rfl) ?_
            refine .rd (.lenL rfl rfl Try.underlying52 rfl) ?_
            refine .rd (.move rfl) ?_
            refine .nil ?_
            refine .block ?_
            refine .loop (σ := Nat) (fun i => i ≤ m.el.length ∧ ∀ y ∈ m.el.take i, entErr y = 0) (fun i => m.el.length - i) (fun i => [(1, .pointer (some ⟨b1, 0, none⟩)), (70, .slice m.ea m.el.length m.ec), (71, .int .i64 m.el.length), (72, .int .i64 (i : Nat))]) (fun i => [blk b1 m.cells 54, R]) 0 ⟨Nat.zero_le _, by simp⟩ (.cons rfl (.cons rfl (.cons rfl (.cons rfl .nil)))) (.cons .head (.cons .head .nil)) (fun i hI ih => ?_)
            have hi := hI.1
            have hbn := hf.batn
            have hen := hf.entn
            refine .seq ?_
            refine .region ?_
            refine .rd (.lt rfl rfl) ?_
            refine .nil ?_
            refine .seq ?_
            refine .condP rfl (fun h21 => ?_) (fun h21 => ?_)
            · refine .skip ?_
              refine .seq ?_
              refine .block ?_
              refine .seq ?_
              obtain ⟨y, hy⟩ : ∃ y, m.el[i]? = some y := ⟨_, List.getElem?_eq_getElem (by omega)⟩
              have hym := List.mem_of_getElem? hy
              refine .tell (φ := ∃ b o, m.ea = some ⟨b, o, none⟩) (Knows.pick (.tail .head) (k.mono fun _ h => RowAt.addr (h.2.2.1) (by rw [flat_length Ent.cells_len]; omega))) (fun hh => ?_)
              obtain ⟨b9, o9, hab⟩ := hh
              refine .region ?_
              refine .rd (.indexAddr (b := b9) (o := o9) Try.underlying52 ts86 (by show some (Value.slice m.ea _ _) = _; rw [hab]) rfl (by omega) (by omega)) ?_
              refine .rd (.loadN ia86 ts86 rfl rfl (Knows.elem (f := Ent.cells) Ent.cells_len (by decide) (Knows.pick (.tail .head) (k.mono fun _ h => hab ▸ (h.2.2.1))) hy)) ?_
              refine .ef (.alloc ti86 rfl (ones.of rfl)) ?_
              rintro _ _ ⟨b10, rfl, rfl⟩
              refine .ef0 (.storeAll (vs := y.cells) ts86 rfl rfl rfl .head rfl (ones.of rfl)) ?_
              rintro _ _ rfl
              refine .nil ?_
              refine .block ?_
              refine .seq ?_
              refine .region ?_
              refine RunO.join 10 86 (!wthB y.term 0 1000000000 || !wthB y.index 0 1000000000) ?_ ?_
              · refine .rd (.fieldAddr fd86_0 rfl) ?_
                refine .rd (.ld na3 rfl .head rfl) ?_
                refine .fn rfl rfl .nil (fun _ _ _ => trivial) (within4_ok y.term 0 1000000000) (fun v G1 hq => ?_)
                obtain ⟨rfl, rfl⟩ := hq
                simp only [List.nil_append]
                refine .rd (.not rfl) ?_
                refine .rd (.move rfl) ?_
                refine .split (t := 81) rfl (fun g23_4 => ?_) (fun g23_4 => ?_)
                · refine .off (t := 81) rfl rfl rfl ?_
                  refine .off (t := 81) rfl rfl rfl ?_
                  refine .off (t := 81) rfl rfl rfl ?_
                  refine .off (t := 81) rfl rfl rfl ?_
                  refine .rd (.pickT rfl rfl) ?_
                  refine .nil ⟨rfl, ?_, by repeat (first | exact Le.refl _ | refine Le.skip rfl ?_)⟩
                  exact congrArg (fun x => some (Value.bool x)) (Eq.symm (show (!wthB y.term 0 1000000000 || !wthB y.index 0 1000000000) = _ by (rw [g23_4]) <;> rfl))
                · refine .on (t := 81) rfl rfl ?_
                  refine .rd (.fieldAddr fd86_1 rfl) ?_
                  refine .on (t := 81) rfl rfl ?_
                  refine .rd (.ld na3 rfl .head rfl) ?_
                  refine .on (t := 81) rfl rfl ?_
                  refine .fn rfl rfl .nil (fun _ _ _ => trivial) (within4_ok y.index 0 1000000000) (fun v G1 hq => ?_)
                  obtain ⟨rfl, rfl⟩ := hq
                  simp only [List.nil_append]
                  refine .on (t := 81) rfl rfl ?_
                  refine .rd (.not rfl) ?_
                  refine .rd (.pickF rfl rfl) ?_
                  refine .nil ⟨rfl, ?_, by repeat (first | exact Le.refl _ | refine Le.skip rfl ?_)⟩
                  exact congrArg (fun x => some (Value.bool x)) (Eq.symm (show (!wthB y.term 0 1000000000 || !wthB y.index 0 1000000000) = _ by (rw [g23_4]) <;> rfl))
              refine .rd (.assign rfl) ?_
              refine .nil ?_
              refine .cond rfl (fun h23 => ?_) (fun h23 => ?_)
              · refine .seq ?_
                refine .region ?_
                refine .rd (.assign rfl) ?_
                refine .nil ?_
                have hen : firstE entErr m.msg.entries = 1 := by rw [show firstE entErr m.msg.entries = entErr y from firstE_hit (f := entErr) hy (by unfold entErr; rw [if_pos h23]; decide) hI.2]; unfold entErr; rw [if_pos h23]
                have hv : small4 m.msg = 1 := by unfold small4; rw [if_neg (by rw [hok]; decide), if_neg (show ¬ (64 < m.msg.batches.length ∨ 64 < m.msg.entries.length ∨ 256 < m.msg.ints.length) from hmany), if_neg (show ¬ 32 < m.msg.name.length from by show ¬ 32 < m.name.length; omega), if_neg (by rw [show firstE right m.msg.batches = 0 from hbats]; decide), hen]
                rw [hv]
                refine .retP Try.func66 (.cons (.tmp rfl) .nil) (.cons (.tail (.tail .head)) .nil) ?_
                exact ⟨[], ⟨rfl, rfl⟩, rfl⟩
              · refine .seq ?_
                refine .region ?_
                refine .rd (.fieldAddr fd86_2 rfl) ?_
                refine .rd (.ld na9 rfl .head rfl) ?_
                refine .rd (.lenT rfl rfl Try.underlying9 rfl) ?_
                refine .rd (.gt rfl rfl) ?_
                refine .rd (.assign rfl) ?_
                refine .nil ?_
                refine .condP rfl (fun h25 => ?_) (fun h25 => ?_)
                · refine .seq ?_
                  refine .region ?_
                  refine .rd (.assign rfl) ?_
                  refine .nil ?_
                  have hen : firstE entErr m.msg.entries = 2 := by rw [show firstE entErr m.msg.entries = entErr y from firstE_hit (f := entErr) hy (by unfold entErr; rw [if_neg (by rw [h23]; decide), if_pos (by omega)]; decide) hI.2]; unfold entErr; rw [if_neg (by rw [h23]; decide), if_pos (by omega)]
                  have hv : small4 m.msg = 2 := by unfold small4; rw [if_neg (by rw [hok]; decide), if_neg (show ¬ (64 < m.msg.batches.length ∨ 64 < m.msg.entries.length ∨ 256 < m.msg.ints.length) from hmany), if_neg (show ¬ 32 < m.msg.name.length from by show ¬ 32 < m.name.length; omega), if_neg (by rw [show firstE right m.msg.batches = 0 from hbats]; decide), hen]
                  rw [hv]
                  refine .retP Try.func66 (.cons (.tmp rfl) .nil) (.cons (.tail (.tail .head)) .nil) ?_
                  exact ⟨[], ⟨rfl, rfl⟩, rfl⟩
                · refine .skip ?_
                  refine .inBlock ?_
                  refine .inBlock ?_
                  refine .region ?_
                  refine .rd (.add rfl rfl (by omega) (by omega)) ?_
                  refine .rd (.move rfl) ?_
                  refine .nil ?_
                  exact (ih (i + 1) ⟨by omega, all_take (p := fun y => entErr y = 0) hy (by unfold entErr; rw [if_neg (by rw [h23]; decide), if_neg (by omega)]) hI.2⟩ (by omega)).to (.cons rfl (.cons rfl (.cons rfl (.cons rfl .nil)))) (.cons (.tail .head) (.cons (.tail .head) .nil))
            · refine .exit rfl ?_
              refine .seq ?_
              refine .region ?_
              refine .rd (.assign rfl) ?_
              refine .nil ?_
              have hen : firstE entErr m.msg.entries = 0 := firstE_zero fun y hy => hI.2 y (by rw [List.take_of_length_le (by omega)]; exact hy)
              have hv : small4 m.msg = 0 := by unfold small4; rw [if_neg (by rw [hok]; decide), if_neg (show ¬ (64 < m.msg.batches.length ∨ 64 < m.msg.entries.length ∨ 256 < m.msg.ints.length) from hmany), if_neg (show ¬ 32 < m.msg.name.length from by show ¬ 32 < m.name.length; omega), if_neg (by rw [show firstE right m.msg.batches = 0 from hbats]; decide), hen]
              rw [hv]
              refine .retP Try.func66 (.cons (.tmp rfl) .nil) (.cons (.tail .head) .nil) ?_
              exact ⟨[], ⟨rfl, rfl⟩, rfl⟩

end Go.Proofs.Ytllpkagplfmlbaa


namespace Go.Proofs.Ytllpkagplfmlbaa
open Go Go.Sp

set_option linter.unusedVariables false

namespace rpc3
theorem fd54_15 : FD Try.prog 54 15 15 := .of Try.underlying54 (by kernel_rfl)
theorem na28 : NotAgg Try.prog 28 := ⟨_, Try.underlying28, trivial⟩
theorem fd54_16 : FD Try.prog 54 16 16 := .of Try.underlying54 (by kernel_rfl)
theorem na9 : NotAgg Try.prog 9 := ⟨_, Try.underlying9, trivial⟩
theorem fd54_17 : FD Try.prog 54 17 17 := .of Try.underlying54 (by kernel_rfl)
theorem fd54_18 : FD Try.prog 54 18 18 := .of Try.underlying54 (by kernel_rfl)
theorem na51 : NotAgg Try.prog 51 := ⟨_, Try.underlying51, trivial⟩
theorem ts27 : TS Try.prog 27 6 := .of (by kernel_rfl)
theorem ia27 : IsAgg Try.prog 27 := ⟨_, Try.underlying27, trivial⟩
theorem ti27 : TI Try.prog 27 6 64 (.agg #[.int .i64 0, .int .i64 0, .int .i64 0, .int .i64 0, .int .i64 0, .slice none 0 0]) := .of (by kernel_rfl)
theorem fd101_1 : FD Try.prog 101 1 1 := .of Try.underlying101 (by kernel_rfl)
theorem fd54_19 : FD Try.prog 54 19 19 := .of Try.underlying54 (by kernel_rfl)
theorem na52 : NotAgg Try.prog 52 := ⟨_, Try.underlying52, trivial⟩
theorem ts86 : TS Try.prog 86 3 := .of (by kernel_rfl)
theorem ia86 : IsAgg Try.prog 86 := ⟨_, Try.underlying86, trivial⟩
theorem ti86 : TI Try.prog 86 3 32 (.agg #[.int .i64 0, .int .i64 0, .string ⟨#[]⟩]) := .of (by kernel_rfl)
theorem fd86_0 : FD Try.prog 86 0 0 := .of Try.underlying86 (by kernel_rfl)
theorem na3 : NotAgg Try.prog 3 := ⟨_, Try.underlying3, trivial⟩
theorem fd86_1 : FD Try.prog 86 1 1 := .of Try.underlying86 (by kernel_rfl)
theorem fd86_2 : FD Try.prog 86 2 2 := .of Try.underlying86 (by kernel_rfl)
theorem fd54_20 : FD Try.prog 54 20 20 := .of Try.underlying54 (by kernel_rfl)
theorem na37 : NotAgg Try.prog 37 := ⟨_, Try.underlying37, trivial⟩
theorem ts3 : TS Try.prog 3 1 := .of (by kernel_rfl)
end rpc3
open rpc3

theorem intP_len {n : Int} (h : i64 n) : (intP n).length ≤ 10 := by unfold intP; split; exact Nat.zero_le _; exact eint_len h
theorem nameP_len {s : List UInt8} (h : s.length ≤ 65536) : (nameP s).length ≤ 100000 := by
  unfold nameP; split
  · exact Nat.zero_le _
  · unfold etext; rw [List.length_append]; have := eint_len (n := (s.length : Int)) (by constructor <;> omega); omega

set_option maxHeartbeats 2000000 in
set_option maxRecDepth 20000 in
theorem rest_ok (wb : Nat) (m : MsgM) (P : List Bool) (l : List UInt8) (hP : P.length = 14) (hf : m.fits) (hs : Small m) (htx : m.text.length ≤ 65536) (hl : l.length ≤ 1000000) : Cn Try.prog 69 [.pointer (some ⟨wb, 0, none⟩), .agg m.cells.toArray, .int .i64 14] (fun w => m.at_ w) [bld wb (bits P) l] fun v G => G = [bld wb (bits ((((((P ++ [nz m.err]) ++ [nz (m.name.length : Int)]) ++ [nz (m.text.length : Int)]) ++ [nz (m.bl.length : Int)]) ++ [nz (m.el.length : Int)]) ++ [nz (m.il.length : Int)])) (((((((((l ++ intP m.err) ++ nameP m.name) ++ nameP m.text) ++ intP m.bl.length) ++ m.bl.flatMap (fun y : BatM => (wbatch y.1).1)) ++ intP m.el.length) ++ m.el.flatMap entB) ++ intP m.il.length) ++ m.il.flatMap eint)] := by
  refine .enter Try.func69 rfl (by kernel_rfl) rfl fun R k => ?_
  have hbl := hs.bl; have hel := hs.el; have hil := hs.il; have hnl := hs.name
  have q1 : (intP m.err).length ≤ 10 := intP_len hf.err
  have q2 : (nameP m.name).length ≤ 100000 := nameP_len (by omega)
  have q3 : (nameP m.text).length ≤ 100000 := nameP_len (by omega)
  have q4 : (intP (m.bl.length : Int)).length ≤ 10 := intP_len (by constructor <;> omega)
  have q5 : (intP (m.el.length : Int)).length ≤ 10 := intP_len (by constructor <;> omega)
  have q6 : (intP (m.il.length : Int)).length ≤ 10 := intP_len (by constructor <;> omega)
  have q7 : (m.bl.flatMap (fun y : BatM => (wbatch y.1).1)).length ≤ 300000 := Nat.le_trans (flat_leq (c := 4096) fun x hx => wbatch_le (hs.bats x hx)) (by omega)
  have q8 : (m.el.flatMap entB).length ≤ 300000 := Nat.le_trans (flat_leq (c := 3000) fun x hx => entB_le (hs.ents x hx)) (by omega)
  have z1 : (l ++ intP m.err).length ≤ 1000010 := by simp only [List.length_append]; omega
  have z2 : ((l ++ intP m.err) ++ nameP m.name).length ≤ 1100010 := by simp only [List.length_append]; omega
  have z3 : (((l ++ intP m.err) ++ nameP m.name) ++ nameP m.text).length ≤ 1200010 := by simp only [List.length_append]; omega
  have z4 : (((((l ++ intP m.err) ++ nameP m.name) ++ nameP m.text) ++ intP m.bl.length) ++ m.bl.flatMap (fun y : BatM => (wbatch y.1).1)).length ≤ 1500020 := by simp only [List.length_append]; omega
  have z5 : (((((((l ++ intP m.err) ++ nameP m.name) ++ nameP m.text) ++ intP m.bl.length) ++ m.bl.flatMap (fun y : BatM => (wbatch y.1).1)) ++ intP m.el.length) ++ m.el.flatMap entB).length ≤ 1800030 := by simp only [List.length_append]; omega
  refine .seq ?_
  refine .region ?_
  refine .ef (.box (l := m.cells) rfl rfl (ones.of rfl)) ?_
  rintro _ _ ⟨b4, rfl, rfl⟩
  refine .nil ?_
  refine .seq ?_
  refine .region ?_
  refine .rd (.move rfl) ?_
  refine .nil ?_
  refine .block ?_
  refine .seq ?_
  refine .block ?_
  refine .seq ?_
  refine .block ?_
  refine .seq ?_
  refine .block ?_
  refine .seq ?_
  refine .block ?_
  refine .seq ?_
  refine .block ?_
  refine .seq ?_
  refine .block ?_
  refine .seq ?_
  refine .seq ?_
  refine .seq ?_
  refine .region ?_
  refine .rd (.eqI rfl rfl) ?_
  refine .alter (t := 16) (v' := .bool true) rfl (rfl) ?_
  refine .rd (.assign rfl) ?_
  refine .nil ?_
  refine .condT rfl ?_
  refine .exit rfl ?_
  refine .region ?_
  refine .rd (.move rfl) ?_
  refine .rd (.fieldAddr fd54_15 rfl) ?_
  refine .rd (.ld na28 rfl .head rfl) ?_
  refine .fn rfl rfl (.cons (.tail .head) .nil) (fun _ _ _ => trivial) (part_ok wb (bits P) 14 l m.err (by decide) (by have := bits_lt P; rw [show P.length = 14 by simp [hP]] at this; exact this) (hf.err) (by omega)) (fun v G1 hq => ?_)
  obtain ⟨rfl, rfl⟩ := hq
  simp only [List.cons_append, List.nil_append]
  refine .cast (X' := bld wb (bits (P ++ [nz m.err])) (l ++ intP m.err)) (by rw [show partH 14 m.err (bits P) = bits (P ++ [nz m.err]) by have := partH_snoc P m.err; rwa [show P.length = 14 by simp [hP]] at this, partL_int (by decide)]) ?_
  refine .nil ?_
  refine .inBlock ?_
  refine .seq ?_
  refine .region ?_
  refine .rd (.move rfl) ?_
  refine .rd (.fieldAddr fd54_16 rfl) ?_
  refine .rd (.ld na9 rfl (.tail .head) rfl) ?_
  refine .rd (.lenT rfl rfl Try.underlying9 rfl) ?_
  refine .fn rfl rfl (.cons .head .nil) (fun _ _ _ => trivial) (part_ok wb (bits (P ++ [nz m.err])) 15 (l ++ intP m.err) (m.name.length : Int) (by decide) (by have := bits_lt (P ++ [nz m.err]); rw [show (P ++ [nz m.err]).length = 15 by simp [hP]] at this; exact this) (by constructor <;> omega) (by omega)) (fun v G1 hq => ?_)
  obtain ⟨rfl, rfl⟩ := hq
  simp only [List.cons_append, List.nil_append]
  refine .cast (X' := bld wb (bits ((P ++ [nz m.err]) ++ [nz (m.name.length : Int)])) (l ++ intP m.err)) (by rw [show partH 15 (m.name.length : Int) (bits (P ++ [nz m.err])) = bits ((P ++ [nz m.err]) ++ [nz (m.name.length : Int)]) by have := partH_snoc (P ++ [nz m.err]) (m.name.length : Int); rwa [show (P ++ [nz m.err]).length = 15 by simp [hP]] at this, partL_txt (by decide), List.append_nil]) ?_
  refine .nil ?_
  refine .joinAt (E' := [(0, .pointer (some ⟨wb, 0, none⟩)), (4, .pointer (some ⟨b4, 0, none⟩))]) (Γ' := [bld wb (bits ((P ++ [nz m.err]) ++ [nz (m.name.length : Int)])) ((l ++ intP m.err) ++ nameP m.name), blk b4 m.cells 54, R]) ?_ (fun fin => ?_)
  · refine .inBlock ?_
    refine .seq ?_
    refine .region ?_
    refine .rd (.move rfl) ?_
    refine .rd (.fieldAddr fd54_17 rfl) ?_
    refine .rd (.ld na9 rfl (.tail .head) rfl) ?_
    refine .rd (.lenT rfl rfl Try.underlying9 rfl) ?_
    refine .fn rfl rfl (.cons .head .nil) (fun _ _ _ => trivial) (part_ok wb (bits ((P ++ [nz m.err]) ++ [nz (m.name.length : Int)])) 16 ((l ++ intP m.err) ++ nameP m.name) (m.text.length : Int) (by decide) (by have := bits_lt ((P ++ [nz m.err]) ++ [nz (m.name.length : Int)]); rw [show ((P ++ [nz m.err]) ++ [nz (m.name.length : Int)]).length = 16 by simp [hP]] at this; exact this) (by constructor <;> omega) (by omega)) (fun v G1 hq => ?_)
    obtain ⟨rfl, rfl⟩ := hq
    simp only [List.cons_append, List.nil_append]
    refine .cast (X' := bld wb (bits (((P ++ [nz m.err]) ++ [nz (m.name.length : Int)]) ++ [nz (m.text.length : Int)])) ((l ++ intP m.err) ++ nameP m.name)) (by rw [show partH 16 (m.text.length : Int) (bits ((P ++ [nz m.err]) ++ [nz (m.name.length : Int)])) = bits (((P ++ [nz m.err]) ++ [nz (m.name.length : Int)]) ++ [nz (m.text.length : Int)]) by have := partH_snoc ((P ++ [nz m.err]) ++ [nz (m.name.length : Int)]) (m.text.length : Int); rwa [show ((P ++ [nz m.err]) ++ [nz (m.name.length : Int)]).length = 16 by simp [hP]] at this, partL_txt (by decide), List.append_nil]) ?_
    refine .nil ?_
    refine .joinAt (E' := [(0, .pointer (some ⟨wb, 0, none⟩)), (4, .pointer (some ⟨b4, 0, none⟩))]) (Γ' := [bld wb (bits (((P ++ [nz m.err]) ++ [nz (m.name.length : Int)]) ++ [nz (m.text.length : Int)])) (((l ++ intP m.err) ++ nameP m.name) ++ nameP m.text), blk b4 m.cells 54, R]) ?_ (fun fin => ?_)
    · refine .inBlock ?_
      refine .seq ?_
      refine .region ?_
      refine .rd (.move rfl) ?_
      refine .rd (.fieldAddr fd54_18 rfl) ?_
      refine .rd (.ld na51 rfl (.tail .head) rfl) ?_
      refine .rd (.lenL rfl rfl Try.underlying51 rfl) ?_
      refine .fn rfl rfl (.cons .head .nil) (fun _ _ _ => trivial) (part_ok wb (bits (((P ++ [nz m.err]) ++ [nz (m.name.length : Int)]) ++ [nz (m.text.length : Int)])) 17 (((l ++ intP m.err) ++ nameP m.name) ++ nameP m.text) (m.bl.length : Int) (by decide) (by have := bits_lt (((P ++ [nz m.err]) ++ [nz (m.name.length : Int)]) ++ [nz (m.text.length : Int)]); rw [show (((P ++ [nz m.err]) ++ [nz (m.name.length : Int)]) ++ [nz (m.text.length : Int)]).length = 17 by simp [hP]] at this; exact this) (by constructor <;> omega) (by omega)) (fun v G1 hq => ?_)
      obtain ⟨rfl, rfl⟩ := hq
      simp only [List.cons_append, List.nil_append]
      refine .cast (X' := bld wb (bits ((((P ++ [nz m.err]) ++ [nz (m.name.length : Int)]) ++ [nz (m.text.length : Int)]) ++ [nz (m.bl.length : Int)])) ((((l ++ intP m.err) ++ nameP m.name) ++ nameP m.text) ++ intP (m.bl.length : Int))) (by rw [show partH 17 (m.bl.length : Int) (bits (((P ++ [nz m.err]) ++ [nz (m.name.length : Int)]) ++ [nz (m.text.length : Int)])) = bits ((((P ++ [nz m.err]) ++ [nz (m.name.length : Int)]) ++ [nz (m.text.length : Int)]) ++ [nz (m.bl.length : Int)]) by have := partH_snoc (((P ++ [nz m.err]) ++ [nz (m.name.length : Int)]) ++ [nz (m.text.length : Int)]) (m.bl.length : Int); rwa [show (((P ++ [nz m.err]) ++ [nz (m.name.length : Int)]) ++ [nz (m.text.length : Int)]).length = 17 by simp [hP]] at this, partL_int (by decide)]) ?_
      refine .nil ?_
      refine .seq ?_
      refine .region ?_
      refine .rd (.fieldAddr fd54_18 rfl) ?_
      refine .rd (.ld na51 rfl (.tail .head) rfl) ?_
      refine .rd (.lenL rfl rfl Try.underlying51 rfl) ?_
      refine .rd (.move rfl) ?_
      refine .nil ?_
      refine .cast (X' := bld wb (bits ((((P ++ [nz m.err]) ++ [nz (m.name.length : Int)]) ++ [nz (m.text.length : Int)]) ++ [nz (m.bl.length : Int)])) (((((l ++ intP m.err) ++ nameP m.name) ++ nameP m.text) ++ intP m.bl.length) ++ (m.bl.take 0).flatMap (fun y : BatM => (wbatch y.1).1))) (by simp) ?_
      refine .block ?_
      refine .loop (σ := Nat) (fun i => i ≤ m.bl.length) (fun i => m.bl.length - i) (fun i => [(0, .pointer (some ⟨wb, 0, none⟩)), (4, .pointer (some ⟨b4, 0, none⟩)), (55, .slice m.ba m.bl.length m.bc), (56, .int .i64 m.bl.length), (57, .int .i64 (i : Nat))]) (fun i => [bld wb (bits ((((P ++ [nz m.err]) ++ [nz (m.name.length : Int)]) ++ [nz (m.text.length : Int)]) ++ [nz (m.bl.length : Int)])) (((((l ++ intP m.err) ++ nameP m.name) ++ nameP m.text) ++ intP m.bl.length) ++ (m.bl.take i).flatMap (fun y : BatM => (wbatch y.1).1)), blk b4 m.cells 54, R]) 0 (Nat.zero_le _) (.cons rfl (.cons rfl (.cons rfl (.cons rfl (.cons rfl .nil))))) (.cons .head (.cons .head (.cons .head .nil))) (fun i hI ih => ?_)
      have hi := hI
      have htk : ((m.bl.take i).flatMap (fun y : BatM => (wbatch y.1).1)).length ≤ 300000 := Nat.le_trans (flat_leq (c := 4096) fun x hx => wbatch_le (hs.bats x (List.mem_of_mem_take hx))) (by rw [List.length_take]; omega)
      refine .seq ?_
      refine .region ?_
      refine .rd (.lt rfl rfl) ?_
      refine .nil ?_
      refine .seq ?_
      refine .condP rfl (fun h15 => ?_) (fun h15 => ?_)
      · refine .skip ?_
        refine .seq ?_
        refine .block ?_
        refine .seq ?_
        obtain ⟨y, hy⟩ : ∃ y, m.bl[i]? = some y := ⟨_, List.getElem?_eq_getElem (by omega)⟩
        have hym := List.mem_of_getElem? hy
        refine .tell (φ := ∃ b o, m.ba = some ⟨b, o, none⟩) (Knows.pick (.tail (.tail .head)) (k.mono fun _ h => RowAt.addr (h.1) (by rw [flat_length BatM.cells_len]; omega))) (fun hh => ?_)
        obtain ⟨b9, o9, hab⟩ := hh
        refine .region ?_
        refine .rd (.indexAddr (b := b9) (o := o9) Try.underlying51 ts27 (by show some (Value.slice m.ba _ _) = _; rw [hab]) rfl (by omega) (by omega)) ?_
        refine .rd (.loadN ia27 ts27 rfl rfl (Knows.elem (f := BatM.cells) BatM.cells_len (by decide) (Knows.pick (.tail (.tail .head)) (k.mono fun _ h => hab ▸ (h.1))) hy)) ?_
        refine .ef (.alloc ti27 rfl (ones.of rfl)) ?_
        rintro _ _ ⟨b7, rfl, rfl⟩
        refine .ef0 (.storeAll (vs := BatM.cells y) ts27 rfl rfl rfl .head rfl (ones.of rfl)) ?_
        rintro _ _ rfl
        refine .nil ?_
        refine .seq ?_
        refine .region ?_
        refine .rd (.ldN ia27 ts27 rfl .head rfl) ?_
        refine .fn rfl rfl .nil (Knows.pick (.tail (.tail (.tail .head))) (k.mono fun _ h => h.2.1 y hym)) (Batch_ok y.1 y.2.1 y.2.2 (hf.bats y hym)) (fun v G1 hq => ?_)
        obtain ⟨rfl, rfl⟩ := hq
        simp only [List.nil_append]
        refine .rd (.move rfl) ?_
        refine .rd (.extract rfl rfl) ?_
        refine .rd (.extract rfl rfl) ?_
        refine .rd (.assign rfl) ?_
        refine .rd (.assign rfl) ?_
        refine .nil ?_
        have hwl := wbatch_le (hs.bats y hym)
        have hwne : (wbatch y.1).1 ≠ [] := fun e => by have := wbatch_len (hs.bats y hym); rw [e] at this; simp at this; omega
        refine .region ?_
        refine .rd (.move rfl) ?_
        refine .rd (.nilCheck rfl) ?_
        refine .rd (.fieldAddr fd101_1 rfl) ?_
        refine .rd (.move rfl) ?_
        refine .fn rfl rfl (.cons (.tail .head) .nil) (fun _ _ _ => trivial) (WriteString_ok wb (bits ((((P ++ [nz m.err]) ++ [nz (m.name.length : Int)]) ++ [nz (m.text.length : Int)]) ++ [nz (m.bl.length : Int)])) (((((l ++ intP m.err) ++ nameP m.name) ++ nameP m.text) ++ intP m.bl.length) ++ (m.bl.take i).flatMap (fun y : BatM => (wbatch y.1).1)) (wbatch y.1).1 (.inr hwne) (by simp only [List.length_append]; omega)) (fun v G1 hq => ?_)
        obtain rfl := hq
        simp only [List.cons_append, List.nil_append]
        refine .nil ?_
        refine .cast (X' := bld wb (bits ((((P ++ [nz m.err]) ++ [nz (m.name.length : Int)]) ++ [nz (m.text.length : Int)]) ++ [nz (m.bl.length : Int)])) (((((l ++ intP m.err) ++ nameP m.name) ++ nameP m.text) ++ intP m.bl.length) ++ (m.bl.take (i + 1)).flatMap (fun y : BatM => (wbatch y.1).1))) (by rw [flat_take (f := (fun y : BatM => (wbatch y.1).1)) hy]; exact congrArg _ (List.append_assoc _ _ _)) ?_
        refine .inBlock ?_
        refine .region ?_
        refine .rd (.add rfl rfl (by omega) (by omega)) ?_
        refine .rd (.move rfl) ?_
        refine .nil ?_
        exact (ih (i + 1) (by omega) (by omega)).to (.cons rfl (.cons rfl (.cons rfl (.cons rfl (.cons rfl .nil))))) (.cons .head (.cons (.tail .head) (.cons (.tail .head) .nil)))
      · refine .cast (X' := bld wb (bits ((((P ++ [nz m.err]) ++ [nz (m.name.length : Int)]) ++ [nz (m.text.length : Int)]) ++ [nz (m.bl.length : Int)])) (((((l ++ intP m.err) ++ nameP m.name) ++ nameP m.text) ++ intP m.bl.length) ++ m.bl.flatMap (fun y : BatM => (wbatch y.1).1))) (by rw [List.take_of_length_le (show m.bl.length ≤ i by omega)]) ?_
        refine .exit rfl ?_
        refine .inBlock ?_
        refine .seq ?_
        refine .region ?_
        refine .rd (.move rfl) ?_
        refine .rd (.fieldAddr fd54_19 rfl) ?_
        refine .rd (.ld na52 rfl (.tail .head) rfl) ?_
        refine .rd (.lenL rfl rfl Try.underlying52 rfl) ?_
        refine .fn rfl rfl (.cons .head .nil) (fun _ _ _ => trivial) (part_ok wb (bits ((((P ++ [nz m.err]) ++ [nz (m.name.length : Int)]) ++ [nz (m.text.length : Int)]) ++ [nz (m.bl.length : Int)])) 18 (((((l ++ intP m.err) ++ nameP m.name) ++ nameP m.text) ++ intP m.bl.length) ++ m.bl.flatMap (fun y : BatM => (wbatch y.1).1)) (m.el.length : Int) (by decide) (by have := bits_lt ((((P ++ [nz m.err]) ++ [nz (m.name.length : Int)]) ++ [nz (m.text.length : Int)]) ++ [nz (m.bl.length : Int)]); rw [show ((((P ++ [nz m.err]) ++ [nz (m.name.length : Int)]) ++ [nz (m.text.length : Int)]) ++ [nz (m.bl.length : Int)]).length = 18 by simp [hP]] at this; exact this) (by constructor <;> omega) (by omega)) (fun v G1 hq => ?_)
        obtain ⟨rfl, rfl⟩ := hq
        simp only [List.cons_append, List.nil_append]
        refine .cast (X' := bld wb (bits (((((P ++ [nz m.err]) ++ [nz (m.name.length : Int)]) ++ [nz (m.text.length : Int)]) ++ [nz (m.bl.length : Int)]) ++ [nz (m.el.length : Int)])) ((((((l ++ intP m.err) ++ nameP m.name) ++ nameP m.text) ++ intP m.bl.length) ++ m.bl.flatMap (fun y : BatM => (wbatch y.1).1)) ++ intP (m.el.length : Int))) (by rw [show partH 18 (m.el.length : Int) (bits ((((P ++ [nz m.err]) ++ [nz (m.name.length : Int)]) ++ [nz (m.text.length : Int)]) ++ [nz (m.bl.length : Int)])) = bits (((((P ++ [nz m.err]) ++ [nz (m.name.length : Int)]) ++ [nz (m.text.length : Int)]) ++ [nz (m.bl.length : Int)]) ++ [nz (m.el.length : Int)]) by have := partH_snoc ((((P ++ [nz m.err]) ++ [nz (m.name.length : Int)]) ++ [nz (m.text.length : Int)]) ++ [nz (m.bl.length : Int)]) (m.el.length : Int); rwa [show ((((P ++ [nz m.err]) ++ [nz (m.name.length : Int)]) ++ [nz (m.text.length : Int)]) ++ [nz (m.bl.length : Int)]).length = 18 by simp [hP]] at this, partL_int (by decide)]) ?_
        refine .nil ?_
        refine .seq ?_
        refine .region ?_
        refine .rd (.fieldAddr fd54_19 rfl) ?_
        refine .rd (.ld na52 rfl (.tail .head) rfl) ?_
        refine .rd (.lenL rfl rfl Try.underlying52 rfl) ?_
        refine .rd (.move rfl) ?_
        refine .nil ?_
        refine .cast (X' := bld wb (bits (((((P ++ [nz m.err]) ++ [nz (m.name.length : Int)]) ++ [nz (m.text.length : Int)]) ++ [nz (m.bl.length : Int)]) ++ [nz (m.el.length : Int)])) (((((((l ++ intP m.err) ++ nameP m.name) ++ nameP m.text) ++ intP m.bl.length) ++ m.bl.flatMap (fun y : BatM => (wbatch y.1).1)) ++ intP m.el.length) ++ (m.el.take 0).flatMap entB)) (by simp) ?_
        refine .block ?_
        refine .loop (σ := Nat) (fun i => i ≤ m.el.length) (fun i => m.el.length - i) (fun i => [(0, .pointer (some ⟨wb, 0, none⟩)), (4, .pointer (some ⟨b4, 0, none⟩)), (78, .slice m.ea m.el.length m.ec), (79, .int .i64 m.el.length), (80, .int .i64 (i : Nat))]) (fun i => [bld wb (bits (((((P ++ [nz m.err]) ++ [nz (m.name.length : Int)]) ++ [nz (m.text.length : Int)]) ++ [nz (m.bl.length : Int)]) ++ [nz (m.el.length : Int)])) (((((((l ++ intP m.err) ++ nameP m.name) ++ nameP m.text) ++ intP m.bl.length) ++ m.bl.flatMap (fun y : BatM => (wbatch y.1).1)) ++ intP m.el.length) ++ (m.el.take i).flatMap entB), blk b4 m.cells 54, R]) 0 (Nat.zero_le _) (.cons rfl (.cons rfl (.cons rfl (.cons rfl (.cons rfl .nil))))) (.cons .head (.cons .head (.cons .head .nil))) (fun i hI ih => ?_)
        have hi := hI
        have htk : ((m.el.take i).flatMap entB).length ≤ 300000 := Nat.le_trans (flat_leq (c := 3000) fun x hx => entB_le (hs.ents x (List.mem_of_mem_take hx))) (by rw [List.length_take]; omega)
        refine .seq ?_
        refine .region ?_
        refine .rd (.lt rfl rfl) ?_
        refine .nil ?_
        refine .seq ?_
        refine .condP rfl (fun h22 => ?_) (fun h22 => ?_)
        · refine .skip ?_
          refine .seq ?_
          refine .block ?_
          refine .seq ?_
          obtain ⟨y, hy⟩ : ∃ y, m.el[i]? = some y := ⟨_, List.getElem?_eq_getElem (by omega)⟩
          have hym := List.mem_of_getElem? hy
          refine .tell (φ := ∃ b o, m.ea = some ⟨b, o, none⟩) (Knows.pick (.tail (.tail .head)) (k.mono fun _ h => RowAt.addr (h.2.2.1) (by rw [flat_length Ent.cells_len]; omega))) (fun hh => ?_)
          obtain ⟨b9, o9, hab⟩ := hh
          obtain ⟨d1, d2, d3, d4, d5⟩ := ent_data (hs.ents y hym)
          have d6 := eint_len (n := y.term) (by constructor <;> omega)
          have d7 := eint_len (n := y.index) (by constructor <;> omega)
          refine .region ?_
          refine .rd (.indexAddr (b := b9) (o := o9) Try.underlying52 ts86 (by show some (Value.slice m.ea _ _) = _; rw [hab]) rfl (by omega) (by omega)) ?_
          refine .rd (.loadN ia86 ts86 rfl rfl (Knows.elem (f := Ent.cells) Ent.cells_len (by decide) (Knows.pick (.tail (.tail .head)) (k.mono fun _ h => hab ▸ (h.2.2.1))) hy)) ?_
          refine .ef (.alloc ti86 rfl (ones.of rfl)) ?_
          rintro _ _ ⟨b11, rfl, rfl⟩
          refine .ef0 (.storeAll (vs := y.cells) ts86 rfl rfl rfl .head rfl (ones.of rfl)) ?_
          rintro _ _ rfl
          refine .nil ?_
          refine .seq ?_
          refine .region ?_
          refine .rd (.move rfl) ?_
          refine .rd (.fieldAddr fd86_0 rfl) ?_
          refine .rd (.ld na3 rfl .head rfl) ?_
          refine .fn rfl rfl (.cons (.tail .head) .nil) (fun _ _ _ => trivial) (wint_ok wb (bits (((((P ++ [nz m.err]) ++ [nz (m.name.length : Int)]) ++ [nz (m.text.length : Int)]) ++ [nz (m.bl.length : Int)]) ++ [nz (m.el.length : Int)])) (((((((l ++ intP m.err) ++ nameP m.name) ++ nameP m.text) ++ intP m.bl.length) ++ m.bl.flatMap (fun y : BatM => (wbatch y.1).1)) ++ intP m.el.length) ++ (m.el.take i).flatMap entB) y.term (by constructor <;> omega) (by simp only [List.length_append]; omega)) (fun v G1 hq => ?_)
          obtain rfl := hq
          simp only [List.cons_append, List.nil_append]
          refine .nil ?_
          refine .seq ?_
          refine .region ?_
          refine .rd (.move rfl) ?_
          refine .rd (.fieldAddr fd86_1 rfl) ?_
          refine .rd (.ld na3 rfl (.tail .head) rfl) ?_
          refine .fn rfl rfl (.cons .head .nil) (fun _ _ _ => trivial) (wint_ok wb (bits (((((P ++ [nz m.err]) ++ [nz (m.name.length : Int)]) ++ [nz (m.text.length : Int)]) ++ [nz (m.bl.length : Int)]) ++ [nz (m.el.length : Int)])) (((((((l ++ intP m.err) ++ nameP m.name) ++ nameP m.text) ++ intP m.bl.length) ++ m.bl.flatMap (fun y : BatM => (wbatch y.1).1)) ++ intP m.el.length) ++ (m.el.take i).flatMap entB ++ eint y.term) y.index (by constructor <;> omega) (by simp only [List.length_append]; omega)) (fun v G1 hq => ?_)
          obtain rfl := hq
          simp only [List.cons_append, List.nil_append]
          refine .nil ?_
          refine .region ?_
          refine .rd (.move rfl) ?_
          refine .rd (.fieldAddr fd86_2 rfl) ?_
          refine .rd (.ld na9 rfl (.tail .head) rfl) ?_
          refine .fn rfl rfl (.cons .head .nil) (fun _ _ _ => trivial) (wtext_ok wb (bits (((((P ++ [nz m.err]) ++ [nz (m.name.length : Int)]) ++ [nz (m.text.length : Int)]) ++ [nz (m.bl.length : Int)]) ++ [nz (m.el.length : Int)])) (((((((l ++ intP m.err) ++ nameP m.name) ++ nameP m.text) ++ intP m.bl.length) ++ m.bl.flatMap (fun y : BatM => (wbatch y.1).1)) ++ intP m.el.length) ++ (m.el.take i).flatMap entB ++ eint y.term ++ eint y.index) y.data (by omega) (by simp only [List.length_append]; omega)) (fun v G1 hq => ?_)
          obtain rfl := hq
          simp only [List.cons_append, List.nil_append]
          refine .nil ?_
          refine .cast (X' := bld wb (bits (((((P ++ [nz m.err]) ++ [nz (m.name.length : Int)]) ++ [nz (m.text.length : Int)]) ++ [nz (m.bl.length : Int)]) ++ [nz (m.el.length : Int)])) (((((((l ++ intP m.err) ++ nameP m.name) ++ nameP m.text) ++ intP m.bl.length) ++ m.bl.flatMap (fun y : BatM => (wbatch y.1).1)) ++ intP m.el.length) ++ (m.el.take (i + 1)).flatMap entB)) (by rw [flat_take (f := entB) hy]; unfold entB; simp only [List.append_assoc]) ?_
          refine .inBlock ?_
          refine .region ?_
          refine .rd (.add rfl rfl (by omega) (by omega)) ?_
          refine .rd (.move rfl) ?_
          refine .nil ?_
          exact (ih (i + 1) (by omega) (by omega)).to (.cons rfl (.cons rfl (.cons rfl (.cons rfl (.cons rfl .nil))))) (.cons .head (.cons (.tail .head) (.cons (.tail .head) .nil)))
        · refine .cast (X' := bld wb (bits (((((P ++ [nz m.err]) ++ [nz (m.name.length : Int)]) ++ [nz (m.text.length : Int)]) ++ [nz (m.bl.length : Int)]) ++ [nz (m.el.length : Int)])) (((((((l ++ intP m.err) ++ nameP m.name) ++ nameP m.text) ++ intP m.bl.length) ++ m.bl.flatMap (fun y : BatM => (wbatch y.1).1)) ++ intP m.el.length) ++ m.el.flatMap entB)) (by rw [List.take_of_length_le (show m.el.length ≤ i by omega)]) ?_
          refine .exit rfl ?_
          refine .inBlock ?_
          refine .seq ?_
          refine .seq ?_
          refine .region ?_
          refine .rd (.move rfl) ?_
          refine .rd (.fieldAddr fd54_20 rfl) ?_
          refine .rd (.ld na37 rfl (.tail .head) rfl) ?_
          refine .rd (.lenL rfl rfl Try.underlying37 rfl) ?_
          refine .fn rfl rfl (.cons .head .nil) (fun _ _ _ => trivial) (part_ok wb (bits (((((P ++ [nz m.err]) ++ [nz (m.name.length : Int)]) ++ [nz (m.text.length : Int)]) ++ [nz (m.bl.length : Int)]) ++ [nz (m.el.length : Int)])) 19 (((((((l ++ intP m.err) ++ nameP m.name) ++ nameP m.text) ++ intP m.bl.length) ++ m.bl.flatMap (fun y : BatM => (wbatch y.1).1)) ++ intP m.el.length) ++ m.el.flatMap entB) (m.il.length : Int) (by decide) (by have := bits_lt (((((P ++ [nz m.err]) ++ [nz (m.name.length : Int)]) ++ [nz (m.text.length : Int)]) ++ [nz (m.bl.length : Int)]) ++ [nz (m.el.length : Int)]); rw [show (((((P ++ [nz m.err]) ++ [nz (m.name.length : Int)]) ++ [nz (m.text.length : Int)]) ++ [nz (m.bl.length : Int)]) ++ [nz (m.el.length : Int)]).length = 19 by simp [hP]] at this; exact this) (by constructor <;> omega) (by omega)) (fun v G1 hq => ?_)
          obtain ⟨rfl, rfl⟩ := hq
          simp only [List.cons_append, List.nil_append]
          refine .cast (X' := bld wb (bits ((((((P ++ [nz m.err]) ++ [nz (m.name.length : Int)]) ++ [nz (m.text.length : Int)]) ++ [nz (m.bl.length : Int)]) ++ [nz (m.el.length : Int)]) ++ [nz (m.il.length : Int)])) ((((((((l ++ intP m.err) ++ nameP m.name) ++ nameP m.text) ++ intP m.bl.length) ++ m.bl.flatMap (fun y : BatM => (wbatch y.1).1)) ++ intP m.el.length) ++ m.el.flatMap entB) ++ intP (m.il.length : Int))) (by rw [show partH 19 (m.il.length : Int) (bits (((((P ++ [nz m.err]) ++ [nz (m.name.length : Int)]) ++ [nz (m.text.length : Int)]) ++ [nz (m.bl.length : Int)]) ++ [nz (m.el.length : Int)])) = bits ((((((P ++ [nz m.err]) ++ [nz (m.name.length : Int)]) ++ [nz (m.text.length : Int)]) ++ [nz (m.bl.length : Int)]) ++ [nz (m.el.length : Int)]) ++ [nz (m.il.length : Int)]) by have := partH_snoc (((((P ++ [nz m.err]) ++ [nz (m.name.length : Int)]) ++ [nz (m.text.length : Int)]) ++ [nz (m.bl.length : Int)]) ++ [nz (m.el.length : Int)]) (m.il.length : Int); rwa [show (((((P ++ [nz m.err]) ++ [nz (m.name.length : Int)]) ++ [nz (m.text.length : Int)]) ++ [nz (m.bl.length : Int)]) ++ [nz (m.el.length : Int)]).length = 19 by simp [hP]] at this, partL_int (by decide)]) ?_
          refine .nil ?_
          refine .seq ?_
          refine .region ?_
          refine .rd (.fieldAddr fd54_20 rfl) ?_
          refine .rd (.ld na37 rfl (.tail .head) rfl) ?_
          refine .rd (.lenL rfl rfl Try.underlying37 rfl) ?_
          refine .rd (.move rfl) ?_
          refine .nil ?_
          refine .cast (X' := bld wb (bits ((((((P ++ [nz m.err]) ++ [nz (m.name.length : Int)]) ++ [nz (m.text.length : Int)]) ++ [nz (m.bl.length : Int)]) ++ [nz (m.el.length : Int)]) ++ [nz (m.il.length : Int)])) (((((((((l ++ intP m.err) ++ nameP m.name) ++ nameP m.text) ++ intP m.bl.length) ++ m.bl.flatMap (fun y : BatM => (wbatch y.1).1)) ++ intP m.el.length) ++ m.el.flatMap entB) ++ intP m.il.length) ++ (m.il.take 0).flatMap eint)) (by simp) ?_
          refine .block ?_
          refine .loop (σ := Nat) (fun i => i ≤ m.il.length) (fun i => m.il.length - i) (fun i => [(0, .pointer (some ⟨wb, 0, none⟩)), (4, .pointer (some ⟨b4, 0, none⟩)), (103, .slice m.ia m.il.length m.ic), (104, .int .i64 m.il.length), (105, .int .i64 (i : Nat))]) (fun i => [bld wb (bits ((((((P ++ [nz m.err]) ++ [nz (m.name.length : Int)]) ++ [nz (m.text.length : Int)]) ++ [nz (m.bl.length : Int)]) ++ [nz (m.el.length : Int)]) ++ [nz (m.il.length : Int)])) (((((((((l ++ intP m.err) ++ nameP m.name) ++ nameP m.text) ++ intP m.bl.length) ++ m.bl.flatMap (fun y : BatM => (wbatch y.1).1)) ++ intP m.el.length) ++ m.el.flatMap entB) ++ intP m.il.length) ++ (m.il.take i).flatMap eint), blk b4 m.cells 54, R]) 0 (Nat.zero_le _) (.cons rfl (.cons rfl (.cons rfl (.cons rfl (.cons rfl .nil))))) (.cons .head (.cons .head (.cons .head .nil))) (fun i hI ih => ?_)
          have hi := hI
          have htk : ((m.il.take i).flatMap eint).length ≤ 300000 := Nat.le_trans (flat_leq (c := 10) fun x hx => eint_len (hf.ints x (List.mem_of_mem_take hx))) (by rw [List.length_take]; omega)
          refine .seq ?_
          refine .region ?_
          refine .rd (.lt rfl rfl) ?_
          refine .nil ?_
          refine .seq ?_
          refine .condP rfl (fun h30 => ?_) (fun h30 => ?_)
          · refine .skip ?_
            refine .seq ?_
            refine .block ?_
            refine .seq ?_
            obtain ⟨y, hy⟩ : ∃ y, m.il[i]? = some y := ⟨_, List.getElem?_eq_getElem (by omega)⟩
            have hym := List.mem_of_getElem? hy
            refine .tell (φ := ∃ b o, m.ia = some ⟨b, o, none⟩) (Knows.pick (.tail (.tail .head)) (k.mono fun _ h => RowAt.addr (h.2.2.2) (by rw [flat_length icell_len]; omega))) (fun hh => ?_)
            obtain ⟨b9, o9, hab⟩ := hh
            refine .region ?_
            refine .rd (.indexAddr (b := b9) (o := o9) Try.underlying37 ts3 (by show some (Value.slice m.ia _ _) = _; rw [hab]) rfl (by omega) (by omega)) ?_
            refine .rd (.load na3 rfl (Knows.one (i := 0) (Knows.elem (f := icell) icell_len (by decide) (Knows.pick (.tail (.tail .head)) (k.mono fun _ h => hab ▸ (h.2.2.2))) hy) rfl)) ?_
            refine .rd (.assign rfl) ?_
            refine .nil ?_
            refine .region ?_
            refine .rd (.move rfl) ?_
            refine .rd (.move rfl) ?_
            refine .fn rfl rfl (.cons .head .nil) (fun _ _ _ => trivial) (wint_ok wb (bits ((((((P ++ [nz m.err]) ++ [nz (m.name.length : Int)]) ++ [nz (m.text.length : Int)]) ++ [nz (m.bl.length : Int)]) ++ [nz (m.el.length : Int)]) ++ [nz (m.il.length : Int)])) (((((((((l ++ intP m.err) ++ nameP m.name) ++ nameP m.text) ++ intP m.bl.length) ++ m.bl.flatMap (fun y : BatM => (wbatch y.1).1)) ++ intP m.el.length) ++ m.el.flatMap entB) ++ intP m.il.length) ++ (m.il.take i).flatMap eint) y (hf.ints y hym) (by simp only [List.length_append]; omega)) (fun v G1 hq => ?_)
            obtain rfl := hq
            simp only [List.cons_append, List.nil_append]
            refine .nil ?_
            refine .cast (X' := bld wb (bits ((((((P ++ [nz m.err]) ++ [nz (m.name.length : Int)]) ++ [nz (m.text.length : Int)]) ++ [nz (m.bl.length : Int)]) ++ [nz (m.el.length : Int)]) ++ [nz (m.il.length : Int)])) (((((((((l ++ intP m.err) ++ nameP m.name) ++ nameP m.text) ++ intP m.bl.length) ++ m.bl.flatMap (fun y : BatM => (wbatch y.1).1)) ++ intP m.el.length) ++ m.el.flatMap entB) ++ intP m.il.length) ++ (m.il.take (i + 1)).flatMap eint)) (by rw [flat_take (f := eint) hy]; exact congrArg _ (List.append_assoc _ _ _)) ?_
            refine .inBlock ?_
            refine .region ?_
            refine .rd (.add rfl rfl (by omega) (by omega)) ?_
            refine .rd (.move rfl) ?_
            refine .nil ?_
            exact (ih (i + 1) (by omega) (by omega)).to (.cons rfl (.cons rfl (.cons rfl (.cons rfl (.cons rfl .nil))))) (.cons .head (.cons .head (.cons .head .nil)))
          · refine .cast (X' := bld wb (bits ((((((P ++ [nz m.err]) ++ [nz (m.name.length : Int)]) ++ [nz (m.text.length : Int)]) ++ [nz (m.bl.length : Int)]) ++ [nz (m.el.length : Int)]) ++ [nz (m.il.length : Int)])) (((((((((l ++ intP m.err) ++ nameP m.name) ++ nameP m.text) ++ intP m.bl.length) ++ m.bl.flatMap (fun y : BatM => (wbatch y.1).1)) ++ intP m.el.length) ++ m.el.flatMap entB) ++ intP m.il.length) ++ m.il.flatMap eint)) (by rw [List.take_of_length_le (show m.il.length ≤ i by omega)]) ?_
            refine .exit rfl ?_
            refine .exit rfl ?_
            refine .endP Try.func69 .nil (.cons .head (.cons (.tail .head) .nil)) ?_
            exact ⟨[_], rfl, rfl⟩
    · refine .cond rfl (fun h11 => ?_) (fun h11 => ?_)
      · refine .region ?_
        refine .rd (.move rfl) ?_
        refine .rd (.fieldAddr fd54_17 rfl) ?_
        refine .rd (.ld na9 rfl (.tail .head) rfl) ?_
        refine .fn rfl rfl (.cons .head .nil) (fun _ _ _ => trivial) (wtext_ok wb (bits (((P ++ [nz m.err]) ++ [nz (m.name.length : Int)]) ++ [nz (m.text.length : Int)])) ((l ++ intP m.err) ++ nameP m.name) m.text (by omega) (by omega)) (fun v G1 hq => ?_)
        obtain rfl := hq
        simp only [List.cons_append, List.nil_append]
        refine .nil ?_
        refine .cast (X' := bld wb (bits (((P ++ [nz m.err]) ++ [nz (m.name.length : Int)]) ++ [nz (m.text.length : Int)])) (((l ++ intP m.err) ++ nameP m.name) ++ nameP m.text)) (by rw [nameP_yes h11]) ?_
        exact fin (.cons rfl (.cons rfl .nil)) (.cons .head (.cons .head (.cons .head .nil)))
      · refine .skip ?_
        refine .cast (X' := bld wb (bits (((P ++ [nz m.err]) ++ [nz (m.name.length : Int)]) ++ [nz (m.text.length : Int)])) (((l ++ intP m.err) ++ nameP m.name) ++ nameP m.text)) (by rw [nameP_no h11, List.append_nil]) ?_
        exact fin (.cons rfl (.cons rfl .nil)) (.cons .head (.cons .head (.cons .head .nil)))
  · refine .cond rfl (fun h9 => ?_) (fun h9 => ?_)
    · refine .region ?_
      refine .rd (.move rfl) ?_
      refine .rd (.fieldAddr fd54_16 rfl) ?_
      refine .rd (.ld na9 rfl (.tail .head) rfl) ?_
      refine .fn rfl rfl (.cons .head .nil) (fun _ _ _ => trivial) (wtext_ok wb (bits ((P ++ [nz m.err]) ++ [nz (m.name.length : Int)])) (l ++ intP m.err) m.name (by omega) (by omega)) (fun v G1 hq => ?_)
      obtain rfl := hq
      simp only [List.cons_append, List.nil_append]
      refine .nil ?_
      refine .cast (X' := bld wb (bits ((P ++ [nz m.err]) ++ [nz (m.name.length : Int)])) ((l ++ intP m.err) ++ nameP m.name)) (by rw [nameP_yes h9]) ?_
      exact fin (.cons rfl (.cons rfl .nil)) (.cons .head (.cons .head (.cons .head .nil)))
    · refine .skip ?_
      refine .cast (X' := bld wb (bits ((P ++ [nz m.err]) ++ [nz (m.name.length : Int)])) ((l ++ intP m.err) ++ nameP m.name)) (by rw [nameP_no h9, List.append_nil]) ?_
      exact fin (.cons rfl (.cons rfl .nil)) (.cons .head (.cons .head (.cons .head .nil)))

end Go.Proofs.Ytllpkagplfmlbaa


namespace Go.Proofs.Ytllpkagplfmlbaa
open Go Go.Sp

set_option linter.unusedVariables false

namespace rpc4
theorem ia54 : IsAgg Try.prog 54 := ⟨_, Try.underlying54, trivial⟩
theorem ts54 : TS Try.prog 54 21 := .of (by kernel_rfl)
theorem fd54_17 : FD Try.prog 54 17 17 := .of Try.underlying54 (by kernel_rfl)
theorem na9 : NotAgg Try.prog 9 := ⟨_, Try.underlying9, trivial⟩
theorem bld101_  (w : World) : (Instr.build 101 (([] : List Nat).zip []).toArray).run Try.prog w = .ok (.agg #[.int .i64 0, .pointer none, .slice none 0 0]) w := by kernel_rfl
theorem na73 : NotAgg Try.prog 73 := ⟨_, Try.underlying73, trivial⟩
theorem ts73 : TS Try.prog 73 1 := .of (by kernel_rfl)
theorem na3 : NotAgg Try.prog 3 := ⟨_, Try.underlying3, trivial⟩
theorem fd54_0 : FD Try.prog 54 0 0 := .of Try.underlying54 (by kernel_rfl)
theorem fd101_0 : FD Try.prog 101 0 0 := .of Try.underlying101 (by kernel_rfl)
theorem fd101_1 : FD Try.prog 101 1 1 := .of Try.underlying101 (by kernel_rfl)
end rpc4
open rpc4

theorem rest_len {m : MsgM} (hf : m.fits) (hs : Small m) (ht : m.text.length ≤ 65536) : m.msg.rest.length ≤ 3000000 := by
  rw [rest_eq]
  have hbl := hs.bl; have hel := hs.el; have hil := hs.il; have hnl := hs.name
  have q0 : (m.nums.flatMap intP).length ≤ 140 := Nat.le_trans (flat_leq (c := 10) fun x hx => intP_len (hf.nums x hx)) (by rw [show m.nums.length = 14 from rfl]; omega)
  have q1 : (intP m.err).length ≤ 10 := intP_len hf.err
  have q2 : (nameP m.name).length ≤ 100000 := nameP_len (by omega)
  have q3 : (nameP m.text).length ≤ 100000 := nameP_len (by omega)
  have q4 : (intP (m.bl.length : Int)).length ≤ 10 := intP_len (by constructor <;> omega)
  have q5 : (intP (m.el.length : Int)).length ≤ 10 := intP_len (by constructor <;> omega)
  have q6 : (intP (m.il.length : Int)).length ≤ 10 := intP_len (by constructor <;> omega)
  have q7 : (m.bl.flatMap (fun y : BatM => (wbatch y.1).1)).length ≤ 300000 := Nat.le_trans (flat_leq (c := 4096) fun x hx => wbatch_le (hs.bats x hx)) (by omega)
  have q8 : (m.el.flatMap entB).length ≤ 300000 := Nat.le_trans (flat_leq (c := 3000) fun x hx => entB_le (hs.ents x hx)) (by omega)
  have q9 : (m.il.flatMap eint).length ≤ 3000 := Nat.le_trans (flat_leq (c := 10) fun x hx => eint_len (hf.ints x hx)) (by omega)
  simp only [List.length_append]; omega

set_option maxHeartbeats 1000000 in
set_option maxRecDepth 20000 in
theorem written_ok (m : MsgM) (hf : m.fits) : Cn Try.prog 54 [.agg m.cells.toArray] (fun w => m.at_ w) [] fun v G => v = .tuple #[.string (str (written4 m.msg).1), .int .i64 (written4 m.msg).2] ∧ G = [] := by
  refine .enter Try.func54 rfl (by kernel_rfl) rfl fun R k => ?_
  refine .seq ?_
  refine .region ?_
  refine .ef (.box (l := m.cells) rfl rfl (ones.of rfl)) ?_
  rintro _ _ ⟨b1, rfl, rfl⟩
  refine .rd (.assign rfl) ?_
  refine .rd (.assign rfl) ?_
  refine .nil ?_
  refine .seq ?_
  refine .seq ?_
  refine .region ?_
  refine .rd (.ldN ia54 ts54 rfl .head rfl) ?_
  refine .fn rfl rfl .nil (Knows.pick (.tail .head) k) (small_ok m hf) (fun v G1 hq => ?_)
  obtain ⟨rfl, rfl⟩ := hq
  simp only [List.nil_append]
  refine .rd (.assign rfl) ?_
  refine .nil ?_
  refine .seq ?_
  refine .region ?_
  refine .rd (.move rfl) ?_
  refine .rd (.neI rfl rfl) ?_
  refine .nil ?_
  refine .condN rfl (fun h2 => ?_) (fun h2 => ?_)
  · refine .seq ?_
    refine .region ?_
    refine .rd (.move rfl) ?_
    refine .rd (.assign rfl) ?_
    refine .rd (.assign rfl) ?_
    refine .nil ?_
    rw [written_no (m := m.msg) (by rw [right4_small h2]; exact h2), right4_small h2]
    refine .retP Try.func54 (.cons (.tmp rfl) (.cons (.tmp rfl) .nil)) (.cons (.tail .head) .nil) ?_
    exact ⟨[], ⟨rfl, rfl⟩, rfl⟩
  · have hsm := small_of4 h2
    refine .skip ?_
    refine .seq ?_
    refine .seq ?_
    refine .region ?_
    refine .rd (.fieldAddr fd54_17 rfl) ?_
    refine .rd (.ld na9 rfl .head rfl) ?_
    refine .rd (.lenT rfl rfl Try.underlying9 rfl) ?_
    refine .rd (.gt rfl rfl) ?_
    refine .nil ?_
    refine .condP rfl (fun h4 => ?_) (fun h4 => ?_)
    · refine .seq ?_
      refine .region ?_
      refine .rd (.assign rfl) ?_
      refine .rd (.assign rfl) ?_
      refine .nil ?_
      have hr := right4_text (m := m.msg) h2 (by show 65536 < m.text.length; omega)
      rw [written_no (m := m.msg) (by rw [hr]; decide), hr]
      refine .retP Try.func54 (.cons (.tmp rfl) (.cons (.tmp rfl) .nil)) (.cons (.tail .head) .nil) ?_
      exact ⟨[], ⟨rfl, rfl⟩, rfl⟩
    · refine .skip ?_
      refine .seq ?_
      refine .region ?_
      refine .rd (.build rfl (bld101_)) ?_
      refine .ef (.box (l := [.int .i64 0, .pointer none, .slice none 0 0]) rfl rfl (ones.of rfl)) ?_
      rintro _ _ ⟨wb, rfl, rfl⟩
      refine .rd (.assign rfl) ?_
      refine .nil ?_
      refine .nilArr 5 1 none ?_
      refine .close (X := bld wb (bits ((m.nums.take 0).map nz)) ((m.nums.take 0).flatMap intP)) (B := [blk wb [.int .i64 ((0 : Nat) : Int), .pointer none, .slice none ([] : List UInt8).length 0] 101, arr 5 1 none 0 (bcs [])]) (.cons (.tail .head) (.cons .head .nil)) (bld_close (.inl rfl) (fun _ => rfl)) ?_
      refine .seq ?_
      refine .seq ?_
      refine .region ?_
      refine .fn rfl rfl .nil (fun _ _ _ => trivial) (numbers_ok b1) (fun v G1 hq => ?_)
      obtain ⟨rfl, rfl⟩ := hq
      simp only [List.nil_append]
      refine .rd (.move rfl) ?_
      refine .nil ?_
      refine .block ?_
      refine .loop (σ := Nat) (fun i => i ≤ 14) (fun i => 14 - i) (fun i => [(1, .pointer (some ⟨b1, 0, none⟩)), (5, .pointer (some ⟨wb, 0, none⟩)), (20, .agg (ptrs14 b1).toArray), (21, .int .i64 (i : Nat))]) (fun i => [bld wb (bits ((m.nums.take i).map nz)) ((m.nums.take i).flatMap intP), blk b1 m.cells 54, R]) 0 (by omega) (.cons rfl (.cons rfl (.cons rfl (.cons rfl .nil)))) (.cons .head (.cons .head (.cons .head .nil))) (fun i hI ih => ?_)
      have hi := hI
      refine .seq ?_
      refine .region ?_
      refine .rd (.lt rfl rfl) ?_
      refine .nil ?_
      refine .seq ?_
      refine .condP rfl (fun h8 => ?_) (fun h8 => ?_)
      · refine .skip ?_
        refine .seq ?_
        refine .block ?_
        refine .seq ?_
        obtain ⟨n, hn1, hn2⟩ := m.num_at (i := i) (by omega)
        have hni := hf.nums n (List.mem_of_getElem? hn1)
        have hpl : ((m.nums.take i).map nz).length = i := by rw [List.length_map, List.length_take, show m.nums.length = 14 from rfl]; omega
        have hll : ((m.nums.take i).flatMap intP).length ≤ 140 := Nat.le_trans (flat_leq (c := 10) fun x hx => intP_len (hf.nums x (List.mem_of_mem_take hx))) (by rw [List.length_take, show m.nums.length = 14 from rfl]; omega)
        refine .region ?_
        refine .rd (.move rfl) ?_
        refine .rd (.indexA1 (n := 14) Try.underlying102 na73 ts73 rfl rfl (by omega) (by omega) (by rw [Int.toNat_natCast, Nat.mul_one, List.getElem?_toArray]; exact ptrs_at b1 (i := i) (by omega))) ?_
        refine .rd (.assign rfl) ?_
        refine .rd (.assign rfl) ?_
        refine .nil ?_
        refine .region ?_
        refine .rd (.move rfl) ?_
        refine .rd (.move rfl) ?_
        refine .rd (.move rfl) ?_
        refine .rd (.nilCheck rfl) ?_
        refine .rd (.ld na3 rfl (.tail .head) hn2) ?_
        refine .fn rfl rfl (.cons .head .nil) (fun _ _ _ => trivial) (part_ok wb (bits ((m.nums.take i).map nz)) i ((m.nums.take i).flatMap intP) n (by omega) (by have := bits_lt ((m.nums.take i).map nz); rwa [hpl] at this) hni (by omega)) (fun v G1 hq => ?_)
        obtain ⟨rfl, rfl⟩ := hq
        simp only [List.cons_append, List.nil_append]
        refine .cast (X' := bld wb (bits ((m.nums.take (i + 1)).map nz)) ((m.nums.take (i + 1)).flatMap intP)) (by rw [show partH i n (bits ((m.nums.take i).map nz)) = bits (((m.nums.take i).map nz) ++ [nz n]) by have := partH_snoc ((m.nums.take i).map nz) n; rwa [hpl] at this, partL_int (by omega), flat_take (f := intP) hn1, List.take_add_one, hn1, List.map_append]; rfl) ?_
        refine .nil ?_
        refine .inBlock ?_
        refine .region ?_
        refine .rd (.add rfl rfl (by omega) (by omega)) ?_
        refine .rd (.move rfl) ?_
        refine .nil ?_
        exact (ih (i + 1) (by omega) (by omega)).to (.cons rfl (.cons rfl (.cons rfl (.cons rfl .nil)))) (.cons .head (.cons .head (.cons .head .nil)))
      · obtain rfl : i = 14 := by omega
        refine .cast (X' := bld wb (bits (m.nums.map nz)) (m.nums.flatMap intP)) (rfl) ?_
        refine .exit rfl ?_
        refine .seq ?_
        refine .region ?_
        refine .rd (.move rfl) ?_
        refine .rd (.ldN ia54 ts54 rfl (.tail .head) rfl) ?_
        refine .fn rfl rfl (.cons .head .nil) (Knows.pick (.tail .head) k) (rest_ok wb m (m.nums.map nz) (m.nums.flatMap intP) rfl hf hsm (by omega) (by have : (m.nums.flatMap intP).length ≤ 140 := Nat.le_trans (flat_leq (c := 10) fun x hx => intP_len (hf.nums x hx)) (by rw [show m.nums.length = 14 from rfl]; omega); omega)) (fun v G1 hq => ?_)
        obtain rfl := hq
        simp only [List.cons_append, List.nil_append]
        refine .cast (X' := bld wb (bits m.msg.pres) m.msg.rest) (by rw [pres_eq, rest_eq]) ?_
        refine .nil ?_
        refine .seq ?_
        have hbits : i64 ((bits m.msg.pres : Nat) : Int) := by
          have := bits_lt m.msg.pres
          rw [show m.msg.pres.length = 20 by rw [pres_eq]; simp [MsgM.nums]] at this
          constructor <;> omega
        have y1 := eint_len hf.kind
        have y2 := eint_len hbits
        have y3 : m.msg.rest.length ≤ 3000000 := rest_len hf hsm (by omega)
        refine .draws [1, 6] [blk b1 m.cells 54, bld wb (bits m.msg.pres) m.msg.rest] (by kernel_rfl) ?_
        refine .rp 0 rfl (by kernel_rfl) (by kernel_rfl) (by kernel_rfl) (Reads.pure (.fieldAddr fd54_0 rfl)) ?_
        refine .rd 1 rfl rfl (by kernel_rfl) (by kernel_rfl) (by kernel_rfl) (.ld na3 rfl .head rfl) (.cons (.tail .head) (.cons .head .nil)) ?_
        refine .rp 3 rfl (by kernel_rfl) (by kernel_rfl) (by kernel_rfl) (Reads.pure (.move rfl)) ?_
        refine .rp 4 rfl (by kernel_rfl) (by kernel_rfl) (by kernel_rfl) (Reads.pure (.nilCheck rfl)) ?_
        refine .rp 5 rfl (by kernel_rfl) (by kernel_rfl) (by kernel_rfl) (Reads.pure (.fieldAddr fd101_0 rfl)) ?_
        refine .rd 6 rfl rfl (by kernel_rfl) (by kernel_rfl) (by kernel_rfl) (.load na3 rfl (Knows.bld (.tail .head))) (.cons (.tail .head) (.cons .head .nil)) ?_
        refine .rp 9 rfl (by kernel_rfl) (by kernel_rfl) (by kernel_rfl) (Reads.pure (.move rfl)) ?_
        refine .rp 10 rfl (by kernel_rfl) (by kernel_rfl) (by kernel_rfl) (Reads.pure (.nilCheck rfl)) ?_
        refine .rp 11 rfl (by kernel_rfl) (by kernel_rfl) (by kernel_rfl) (Reads.pure (.fieldAddr fd101_1 rfl)) ?_
        refine .ef 2 (by kernel_rfl) rfl (.fn rfl rfl .nil (fun _ _ _ => trivial) (Int_ok m.kind hf.kind)) ?_
        rintro v _ ⟨G1, hq, rfl⟩
        obtain ⟨rfl, rfl⟩ := hq
        simp only [List.nil_append]
        refine ⟨.inr ⟨_, (.cons (.tail .head) (.cons .head .nil))⟩, ?_⟩
        refine .ef 7 (by kernel_rfl) rfl (.fn rfl rfl .nil (fun _ _ _ => trivial) (Int_ok (bits m.msg.pres : Nat) hbits)) ?_
        rintro v _ ⟨G1, hq, rfl⟩
        obtain ⟨rfl, rfl⟩ := hq
        simp only [List.nil_append]
        refine ⟨.inl (by kernel_rfl), ?_⟩
        refine .rp 8 rfl (by kernel_rfl) (by kernel_rfl) (by kernel_rfl) (Reads.pure (.catT rfl rfl (by omega))) ?_
        refine .ef 12 (by kernel_rfl) rfl (.fn rfl rfl (.cons .head .nil) (fun _ _ _ => trivial) (String_ok wb (bits m.msg.pres) m.msg.rest (by omega))) ?_
        rintro v _ ⟨G1, hq, rfl⟩
        obtain ⟨rfl, px, ax, cx, rfl⟩ := hq
        simp only [List.cons_append, List.nil_append]
        refine ⟨.inl (by kernel_rfl), ?_⟩
        refine .rp 13 rfl (by kernel_rfl) (by kernel_rfl) (by kernel_rfl) (Reads.pure (.catT rfl rfl (by simp only [List.length_append]; omega))) ?_
        refine .rp 14 rfl (by kernel_rfl) (by kernel_rfl) (by kernel_rfl) (Reads.pure (.assign rfl)) ?_
        refine .done (by kernel_rfl) ?_
        refine .seq ?_
        refine .seq ?_
        refine .region ?_
        refine .rd (.move rfl) ?_
        refine .rd (.lenT rfl rfl Try.underlying9 rfl) ?_
        refine .rd (.gt rfl rfl) ?_
        refine .nil ?_
        refine .condP rfl (fun h14 => ?_) (fun h14 => ?_)
        · refine .seq ?_
          refine .region ?_
          refine .rd (.assign rfl) ?_
          refine .rd (.assign rfl) ?_
          refine .nil ?_
          have hr := right4_long (m := m.msg) h2 (by show ¬ 65536 < m.text.length; omega) (by show 65528 < (eint m.kind ++ eint ((bits m.msg.pres : Nat) : Int) ++ m.msg.rest).length; omega)
          rw [written_no (m := m.msg) (by rw [hr]; decide), hr]
          refine .retP Try.func54 (.cons (.tmp rfl) (.cons (.tmp rfl) .nil)) (.cons (.tail (.tail .head)) .nil) ?_
          exact ⟨[], ⟨rfl, rfl⟩, rfl⟩
        · refine .skip ?_
          refine .seq ?_
          refine .region ?_
          refine .rd (.move rfl) ?_
          refine .rd (.assign rfl) ?_
          refine .rd (.assign rfl) ?_
          refine .nil ?_
          have hr := right4_zero (m := m.msg) h2 (by show ¬ 65536 < m.text.length; omega) (by show ¬ 65528 < (eint m.kind ++ eint ((bits m.msg.pres : Nat) : Int) ++ m.msg.rest).length; omega)
          rw [written_yes hr]
          refine .retP Try.func54 (.cons (.tmp rfl) (.cons (.tmp rfl) .nil)) (.cons (.tail (.tail .head)) .nil) ?_
          exact ⟨[], ⟨rfl, rfl⟩, rfl⟩

set_option maxRecDepth 20000 in
theorem Right4_ok (m : MsgM) (hf : m.fits) : Cn Try.prog 33 [.agg m.cells.toArray] (fun w => m.at_ w) [] fun v G => v = .int .i64 (right4 m.msg) ∧ G = [] := by
  refine .enter Try.func33 rfl (by kernel_rfl) rfl fun R k => ?_
  refine .seq ?_
  refine .region ?_
  refine .ef (.box (l := m.cells) rfl rfl (ones.of rfl)) ?_
  rintro _ _ ⟨b1, rfl, rfl⟩
  refine .rd (.assign rfl) ?_
  refine .nil ?_
  refine .seq ?_
  refine .region ?_
  refine .rd (.ldN ia54 ts54 rfl .head rfl) ?_
  refine .fn rfl rfl .nil (Knows.pick (.tail .head) k) (written_ok m hf) (fun v G1 hq => ?_)
  obtain ⟨rfl, rfl⟩ := hq
  simp only [List.nil_append]
  refine .rd (.move rfl) ?_
  refine .rd (.extract rfl rfl) ?_
  refine .rd (.extract rfl rfl) ?_
  refine .rd (.assign rfl) ?_
  refine .rd (.assign rfl) ?_
  refine .nil ?_
  refine .seq ?_
  refine .region ?_
  refine .rd (.move rfl) ?_
  refine .rd (.assign rfl) ?_
  refine .nil ?_
  rw [← written_err]
  refine .retP Try.func33 (.cons (.tmp rfl) .nil) (.cons (.tail .head) .nil) ?_
  exact ⟨[], ⟨rfl, rfl⟩, rfl⟩

set_option maxRecDepth 20000 in
theorem Encode_ok (m : MsgM) (hf : m.fits) : Cn Try.prog 31 [.agg m.cells.toArray] (fun w => m.at_ w) [] fun v G => v = .tuple #[.string (str (wmsg m.msg).1), .int .i64 (wmsg m.msg).2] ∧ G = [] := by
  refine .enter Try.func31 rfl (by kernel_rfl) rfl fun R k => ?_
  refine .seq ?_
  refine .region ?_
  refine .ef (.box (l := m.cells) rfl rfl (ones.of rfl)) ?_
  rintro _ _ ⟨b1, rfl, rfl⟩
  refine .rd (.assign rfl) ?_
  refine .rd (.assign rfl) ?_
  refine .nil ?_
  refine .seq ?_
  refine .region ?_
  refine .rd (.ldN ia54 ts54 rfl .head rfl) ?_
  refine .fn rfl rfl .nil (Knows.pick (.tail .head) k) (written_ok m hf) (fun v G1 hq => ?_)
  obtain ⟨rfl, rfl⟩ := hq
  simp only [List.nil_append]
  refine .rd (.move rfl) ?_
  refine .rd (.extract rfl rfl) ?_
  refine .rd (.extract rfl rfl) ?_
  refine .rd (.assign rfl) ?_
  refine .rd (.assign rfl) ?_
  refine .nil ?_
  refine .seq ?_
  refine .seq ?_
  refine .region ?_
  refine .rd (.move rfl) ?_
  refine .rd (.neI rfl rfl) ?_
  refine .nil ?_
  refine .condN rfl (fun h2 => ?_) (fun h2 => ?_)
  · refine .seq ?_
    refine .region ?_
    refine .rd (.move rfl) ?_
    refine .rd (.assign rfl) ?_
    refine .rd (.assign rfl) ?_
    refine .nil ?_
    have hr : right4 m.msg ≠ 0 := by rw [← written_err]; exact h2
    rw [wmsg_no hr, ← written_err]
    refine .retP Try.func31 (.cons (.tmp rfl) (.cons (.tmp rfl) .nil)) (.cons (.tail .head) .nil) ?_
    exact ⟨[], ⟨rfl, rfl⟩, rfl⟩
  · have hr : right4 m.msg = 0 := by rw [← written_err]; exact h2
    have hlen := (right4_iff.1 hr).2.2
    rw [written_yes hr]
    refine .skip ?_
    refine .seq ?_
    refine .region ?_
    refine .rd (.move rfl) ?_
    refine .rd (.lenT rfl rfl Try.underlying9 rfl) ?_
    refine .fn rfl rfl .nil (fun _ _ _ => trivial) (four4_ok (body4 m.msg).length) (fun v G1 hq => ?_)
    obtain ⟨rfl, rfl⟩ := hq
    simp only [List.nil_append]
    refine .rd (.move rfl) ?_
    refine .fn rfl rfl .nil (fun _ _ _ => trivial) (Crc_ok (body4 m.msg) (by omega)) (fun v G1 hq => ?_)
    obtain ⟨rfl, rfl⟩ := hq
    simp only [List.nil_append]
    refine .fn rfl rfl .nil (fun _ _ _ => trivial) (four4_ok (crc (body4 m.msg)).toNat) (fun v G1 hq => ?_)
    obtain ⟨rfl, rfl⟩ := hq
    simp only [List.nil_append]
    refine .rd (.catT rfl rfl (by simp only [fours_len]; omega)) ?_
    refine .rd (.move rfl) ?_
    refine .rd (.catT rfl rfl (by simp only [List.length_append, fours_len]; omega)) ?_
    refine .rd (.assign rfl) ?_
    refine .rd (.assign rfl) ?_
    refine .nil ?_
    rw [wmsg_yes hr]
    refine .retP Try.func31 (.cons (.tmp rfl) (.cons (.tmp rfl) .nil)) (.cons (.tail .head) .nil) ?_
    exact ⟨[], ⟨rfl, rfl⟩, rfl⟩

end Go.Proofs.Ytllpkagplfmlbaa

