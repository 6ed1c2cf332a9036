/- Steps through functions of the program, under conditions that each theorem states (part net11 of a claim). -/
import Derived.Test.YtfbmbhajpmlffaaProg
import Derived.Test.YtfbmbhajpmlffaaL9
import Derived.Test.YtfbmbhajpmlffaaDefs
import Derived.Test.YtfbmbhajpmlffaaNet7
import Derived.Test.YtfbmbhajpmlffaaNet10
namespace Go.Proofs.Ytfbmbhajpmlffaa
open Go Go.Sp

set_option linter.unusedVariables false

namespace net11
theorem na3 : NotAgg Try.prog 3 := ⟨_, Try.underlying3, trivial⟩
theorem ti69 : TI Try.prog 69 2 16 (.agg #[.int .i64 0, .int .i64 0]) := .of (by kernel_rfl)
theorem ts69 : TS Try.prog 69 2 := .of (by kernel_rfl)
theorem fd45_1 : FD Try.prog 45 1 1 := .of Try.underlying45 (by kernel_rfl)
theorem na43 : NotAgg Try.prog 43 := ⟨_, Try.underlying43, trivial⟩
theorem ia69 : IsAgg Try.prog 69 := ⟨_, Try.underlying69, trivial⟩
theorem fd32_1 : FD Try.prog 32 1 1 := .of Try.underlying32 (by kernel_rfl)
theorem fd32_2 : FD Try.prog 32 2 2 := .of Try.underlying32 (by kernel_rfl)
theorem fd45_0 : FD Try.prog 45 0 0 := .of Try.underlying45 (by kernel_rfl)
theorem na42 : NotAgg Try.prog 42 := ⟨_, Try.underlying42, trivial⟩
theorem ia32 : IsAgg Try.prog 32 := ⟨_, Try.underlying32, trivial⟩
theorem ts32 : TS Try.prog 32 21 := .of (by kernel_rfl)
theorem ti32 : TI Try.prog 32 21 232 (.agg #[.int .i64 0, .int .i64 0, .int .i64 0, .int .i64 0, .int .i64 0, .int .i64 0, .int .i64 0, .int .i64 0, .int .i64 0, .int .i64 0, .int .i64 0, .int .i64 0, .int .i64 0, .int .i64 0, .int .i64 0, .int .i64 0, .string ⟨#[]⟩, .string ⟨#[]⟩, .slice none 0 0, .slice none 0 0, .slice none 0 0]) := .of (by kernel_rfl)
theorem ts42 : TS Try.prog 42 1 := .of (by kernel_rfl)
end net11
open net11

theorem eq69 (p q : Int × Int) : EqV Try.prog 2 69 (.agg (ppc p).toArray) (.agg (ppc q).toArray) (decide (p = q)) := by
  have h : EqV Try.prog 2 69 (.agg (ppc p).toArray) (.agg (ppc q).toArray) (decide (p.1 = q.1) && (decide (p.2 = q.2) && true)) :=
    .struct Try.underlying69 (by kernel_rfl) (.cons (by decide) (part1 na3 rfl) (part1 na3 rfl) (.int Try.underlying3) (.cons (by decide) (part1 na3 rfl) (part1 na3 rfl) (.int Try.underlying3) .nil))
  have e : (decide (p.1 = q.1) && (decide (p.2 = q.2) && true)) = decide (p = q) := by
    rw [Bool.eq_iff_iff]; simp [Prod.ext_iff]
  rwa [e] at h
theorem know_snoc {qs : List Pm} {m : Msg} {s : Ms} {h} (H : sat [know fun w => ∀ q ∈ qs, mat q.1 q.2 w, know (mat m s)] h) : know (fun w => ∀ q ∈ qs ++ [(m, s)], mat q.1 q.2 w) h := by
  have := sat.know_and H
  obtain ⟨k, kl, kr, e⟩ := this
  refine ⟨k, kl, kr, fun w f q hq => ?_⟩
  obtain ⟨e1, e2⟩ := e w f
  rcases List.mem_append.1 hq with hq | hq
  · exact e1 q hq
  · obtain rfl := List.mem_singleton.1 hq; exact e2
def rsent (qs : List Pm) (ap : List (Int × Int)) (m : Msg) : Bool := !(decide (endsS m.hd.frm m.hd.to ∈ ap) || decide (500 ≤ qs.length))

theorem rParted_ok (n qs ap) (a b : Int) (hb : ap.length ≤ 100000) : Cn Try.prog 26 [.pointer (some ⟨n, 0, none⟩), .int .i64 a, .int .i64 b] (fun _ => True) [rnet n qs ap] fun v G => v = .bool (decide (endsS a b ∈ ap)) ∧ G = [rnet n qs ap] := by
  refine .enter Try.func26 rfl (by kernel_rfl) rfl fun R k => ?_
  refine .open_ .head rnet_open (fun x _ => ?_)
  obtain ⟨sa, sc, pa, pc⟩ := x
  simp only [List.cons_append, List.nil_append]
  refine .seq ?_
  refine .region ?_   -- R0 ref.go:25
  refine .rd (.assign rfl) ?_
  refine .nil ?_
  refine .seq ?_
  refine .region ?_   -- R1 ref.go:26
  refine .rd (.move rfl) ?_
  refine .rd (.move rfl) ?_
  refine .fn rfl rfl .nil (fun _ _ _ => trivial) (pair_ok _ _) (fun v G1 hq => ?_)
  obtain ⟨rfl, rfl⟩ := hq
  simp only [List.nil_append]
  refine .ef (.alloc ti69 rfl (ones.of rfl)) ?_
  rintro _ _ ⟨b7, rfl, rfl⟩
  refine .ef0 (.storeAll (vs := ppc (endsS a b)) ts69 rfl rfl rfl .head rfl (ones.of rfl)) ?_
  rintro _ _ rfl
  refine .nil ?_
  refine .seq ?_
  refine .seq ?_
  refine .region ?_   -- R2 ref.go:27
  refine .rd (.assign rfl) ?_
  refine .nil ?_
  refine .block ?_
  refine .loop (σ := Nat) (fun i => i ≤ ap.length ∧ ∀ q ∈ ap.take i, q ≠ endsS a b) (fun i => ap.length - i) (fun i => [(0, .pointer (some ⟨n, 0, none⟩)), (7, .pointer (some ⟨b7, 0, none⟩)), (8, .int .i64 (i : Nat))]) (fun i => [blk b7 (ppc (endsS a b)) 69, blk n [.slice sa qs.length sc, .slice pa ap.length pc] 45, arr 32 21 sa sc (qs.flatMap pcell), arr 69 2 pa pc (ap.flatMap ppc), know fun w => ∀ q ∈ qs, mat q.1 q.2 w, R]) 0 ⟨Nat.zero_le _, by simp⟩ (.cons rfl (.cons rfl (.cons rfl .nil))) (.cons .head (.cons .head (.cons .head (.cons .head (.cons .head (.cons .head .nil)))))) (fun i hI ih => ?_)
  have hi := hI.1
  refine .seq ?_
  refine .seq ?_
  refine .region ?_   -- R3 ref.go:27
  refine .rd (.move rfl) ?_
  refine .rd (.move rfl) ?_
  refine .rd (.nilCheck rfl) ?_
  refine .rd (.fieldAddr fd45_1 rfl) ?_
  refine .rd (.ld na43 rfl (.tail .head) rfl) ?_
  refine .rd (.lenL rfl rfl Try.underlying43 rfl) ?_
  refine .rd (.lt rfl rfl) ?_
  refine .nil ?_
  refine .condP rfl (fun h3 => ?_) (fun h3 => ?_)
  · refine .skip ?_
    refine .seq ?_
    refine .block ?_
    refine .seq ?_
    have hj : i < ap.length := by omega
    obtain ⟨q, hq⟩ : ∃ q, ap[i]? = some q := ⟨_, List.getElem?_eq_getElem hj⟩
    refine .tell (φ := ∃ b o, pa = some ⟨b, o, none⟩) ((Knows.arr (.tail (.tail (.tail .head)))).mono fun _ h => h.addr (by rw [flat_length ppc_len]; omega)) (fun hx => ?_)
    obtain ⟨bb, oo, rfl⟩ := hx
    refine .draws [3, 6, 7] [blk n [.slice sa qs.length sc, .slice (some ⟨bb, oo, none⟩) ap.length pc] 45, arr 69 2 (some ⟨bb, oo, none⟩) pc (ap.flatMap ppc), blk b7 (ppc (endsS a b)) 69] (by kernel_rfl) ?_   -- R5 ref.go:28
    refine .rp 0 rfl (by kernel_rfl) (by kernel_rfl) (by kernel_rfl) (Reads.pure (.move rfl)) ?_
    refine .rp 1 rfl (by kernel_rfl) (by kernel_rfl) (by kernel_rfl) (Reads.pure (.nilCheck rfl)) ?_
    refine .rp 2 rfl (by kernel_rfl) (by kernel_rfl) (by kernel_rfl) (Reads.pure (.fieldAddr fd45_1 rfl)) ?_
    refine .rd 3 rfl rfl (by kernel_rfl) (by kernel_rfl) (by kernel_rfl) (.ld na43 rfl .head rfl) (.cons (.tail .head) (.cons (.tail (.tail .head)) (.cons .head .nil))) ?_
    refine .rp 4 rfl (by kernel_rfl) (by kernel_rfl) (by kernel_rfl) (Reads.pure (.move rfl)) ?_
    refine .rp 5 rfl (by kernel_rfl) (by kernel_rfl) (by kernel_rfl) (Reads.pure (.indexAddr Try.underlying43 ts69 rfl rfl (by omega) (by omega))) ?_
    refine .rd 6 rfl rfl (by kernel_rfl) (by kernel_rfl) (by kernel_rfl) (.loadN ia69 ts69 rfl rfl (Knows.elem ppc_len (by decide) (Knows.arr (.tail .head)) hq)) (.cons (.tail .head) (.cons (.tail (.tail .head)) (.cons .head .nil))) ?_
    refine .rd 7 rfl rfl (by kernel_rfl) (by kernel_rfl) (by kernel_rfl) (.ldN ia69 ts69 rfl (.tail (.tail .head)) rfl) (.cons (.tail .head) (.cons (.tail (.tail .head)) (.cons .head .nil))) ?_
    refine .rp 8 rfl (by kernel_rfl) (by kernel_rfl) (by kernel_rfl) (Reads.pure (.eqA (xs := (ppc q).toArray) (ys := (ppc (endsS a b)).toArray) (by kernel_rfl) rfl (eq69 q (endsS a b)) rfl rfl)) ?_
    refine .done (by kernel_rfl) ?_
    refine .condP rfl (fun h5 => ?_) (fun h5 => ?_)
    · refine .seq ?_
      refine .region ?_   -- R6 ref.go:29
      refine .rd (.assign rfl) ?_
      refine .nil ?_
      refine .close (.cons (.tail .head) (.cons (.tail .head) (.cons (.tail .head) (.cons (.tail .head) .nil)))) (rnet_close _ _ _ _) ?_
      refine .retP Try.func26 (.cons (.tmp rfl) .nil) (.cons .head (.cons (.tail .head) .nil)) ?_
      exact ⟨[_], ⟨by simp only [resVal]; rw [decide_eq_true (h5 ▸ List.mem_of_getElem? hq)], rfl⟩, rfl⟩
    · refine .skip ?_
      refine .inBlock ?_
      refine .region ?_   -- R4 ref.go:27
      refine .rd (.move rfl) ?_
      refine .rd (.add rfl rfl (by omega) (by omega)) ?_
      refine .rd (.assign rfl) ?_
      refine .nil ?_
      refine (ih (i + 1) ⟨by omega, fun p hp => ?_⟩ (by omega)).to (.cons rfl (.cons rfl (.cons rfl .nil))) (.cons .head (.cons .head (.cons .head (.cons .head (.cons .head (.cons .head .nil))))))
      rw [List.take_add_one, hq] at hp
      simp only [Option.toList_some, List.mem_append, List.mem_singleton] at hp
      rcases hp with hp | rfl
      · exact hI.2 p hp
      · exact h5
  · refine .exit rfl ?_
    refine .seq ?_
    refine .region ?_   -- R7 ref.go:32
    refine .rd (.assign rfl) ?_
    refine .nil ?_
    refine .close (.cons (.tail .head) (.cons (.tail .head) (.cons (.tail .head) (.cons (.tail .head) .nil)))) (rnet_close _ _ _ _) ?_
    refine .retP Try.func26 (.cons (.tmp rfl) .nil) (.cons .head (.cons (.tail .head) .nil)) ?_
    refine ⟨[_], ⟨?_, rfl⟩, rfl⟩
    simp only [resVal]
    rw [decide_eq_false]
    intro hm
    have := hI.2
    rw [List.take_of_length_le (by omega)] at this
    exact this _ hm rfl

theorem rSend_ok (n qs ap) (m : Msg) (s : Ms) (hb : ap.length ≤ 100000) : Cn Try.prog 16 [.pointer (some ⟨n, 0, none⟩), .agg (mval m s).toArray] (fun _ => True) [rnet n qs ap, know (mat m s)] fun v G =>
    (rsent qs ap m = true ∧ v = .bool true ∧ G = [rnet n (qs ++ [(m, s)]) ap]) ∨ (rsent qs ap m = false ∧ v = .bool false ∧ G = [rnet n qs ap]) := by
  refine .enter Try.func16 rfl (by kernel_rfl) rfl fun R k => ?_
  refine .seq ?_
  refine .region ?_   -- R0 ref.go:36
  refine .ef (.box (l := mval m s) rfl rfl (ones.of rfl)) ?_
  rintro _ _ ⟨b3, rfl, rfl⟩
  refine .rd (.assign rfl) ?_
  refine .nil ?_
  refine .seq ?_
  refine .region ?_   -- R1 ref.go:37
  refine .rd (.move rfl) ?_
  refine .rd (.fieldAddr fd32_1 rfl) ?_
  refine .rd (.ld na3 rfl .head rfl) ?_
  refine .rd (.fieldAddr fd32_2 rfl) ?_
  refine .rd (.ld na3 rfl .head rfl) ?_
  refine .fn rfl rfl (.cons (.tail .head) .nil) (fun _ _ _ => trivial) (rParted_ok n qs ap m.hd.frm m.hd.to hb) (fun v G1 hq => ?_)
  obtain ⟨rfl, rfl⟩ := hq
  simp only [List.cons_append, List.nil_append]
  refine .rd (.assign rfl) ?_
  refine .nil ?_
  refine .seq ?_
  refine .seq ?_
  refine .open_ .head rnet_open (fun x _ => ?_)
  obtain ⟨sa, sc, pa, pc⟩ := x
  simp only [List.cons_append, List.nil_append]
  refine .region ?_   -- R2 ref.go:38
  refine .rd (.move rfl) ?_
  refine .rd (.move rfl) ?_
  refine .split (t := 13) rfl (fun g2_1 => ?_) (fun g2_1 => ?_)
  · refine .off (t := 13) rfl rfl rfl ?_
    refine .off (t := 13) rfl rfl rfl ?_
    refine .off (t := 13) rfl rfl rfl ?_
    refine .off (t := 13) rfl rfl rfl ?_
    refine .off (t := 13) rfl rfl rfl ?_
    refine .off (t := 13) rfl rfl rfl ?_
    refine .rd (.pickT rfl rfl) ?_
    refine .nil ?_
    refine .condT rfl ?_
    refine .seq ?_
    refine .region ?_   -- R3 ref.go:39
    refine .rd (.assign rfl) ?_
    refine .nil ?_
    refine .close (.cons .head (.cons .head (.cons .head (.cons .head .nil)))) (rnet_close _ _ _ _) ?_
    refine .retP Try.func16 (.cons (.tmp rfl) .nil) (.cons .head (.cons (.tail (.tail .head)) .nil)) ?_
    exact ⟨[_], .inr ⟨by simp [rsent, *] <;> omega, rfl, rfl⟩, rfl⟩
  · refine .on (t := 13) rfl rfl ?_
    refine .rd (.move rfl) ?_
    refine .on (t := 13) rfl rfl ?_
    refine .rd (.nilCheck rfl) ?_
    refine .on (t := 13) rfl rfl ?_
    refine .rd (.fieldAddr fd45_0 rfl) ?_
    refine .on (t := 13) rfl rfl ?_
    refine .rd (.ld na42 rfl .head rfl) ?_
    refine .on (t := 13) rfl rfl ?_
    refine .rd (.lenL rfl rfl Try.underlying42 rfl) ?_
    refine .on (t := 13) rfl rfl ?_
    refine .rd (.ge rfl rfl) ?_
    refine .rd (.pickF rfl rfl) ?_
    refine .nil ?_
    refine .condP rfl (fun c2 => ?_) (fun c2 => ?_)
    · refine .seq ?_
      refine .region ?_   -- R3 ref.go:39
      refine .rd (.assign rfl) ?_
      refine .nil ?_
      refine .close (.cons .head (.cons .head (.cons .head (.cons .head .nil)))) (rnet_close _ _ _ _) ?_
      refine .retP Try.func16 (.cons (.tmp rfl) .nil) (.cons .head (.cons (.tail (.tail .head)) .nil)) ?_
      exact ⟨[_], .inr ⟨by simp [rsent, *] <;> omega, rfl, rfl⟩, rfl⟩
    · refine .skip ?_
      refine .seq ?_
      refine .draws [4, 5] [blk n [.slice sa qs.length sc, .slice pa ap.length pc] 45, blk b3 (mval m s) 32] (by kernel_rfl) ?_   -- R4 ref.go:41
      refine .rp 0 rfl (by kernel_rfl) (by kernel_rfl) (by kernel_rfl) (Reads.pure (.move rfl)) ?_
      refine .rp 1 rfl (by kernel_rfl) (by kernel_rfl) (by kernel_rfl) (Reads.pure (.move rfl)) ?_
      refine .rp 2 rfl (by kernel_rfl) (by kernel_rfl) (by kernel_rfl) (Reads.pure (.nilCheck rfl)) ?_
      refine .rp 3 rfl (by kernel_rfl) (by kernel_rfl) (by kernel_rfl) (Reads.pure (.fieldAddr fd45_0 rfl)) ?_
      refine .rd 4 rfl rfl (by kernel_rfl) (by kernel_rfl) (by kernel_rfl) (.ld na42 rfl .head rfl) (.cons .head (.cons (.tail (.tail (.tail .head))) .nil)) ?_
      refine .rd 5 rfl rfl (by kernel_rfl) (by kernel_rfl) (by kernel_rfl) (.ldN ia32 ts32 rfl (.tail .head) rfl) (.cons .head (.cons (.tail (.tail (.tail .head))) .nil)) ?_
      refine .ef 6 (by kernel_rfl) rfl (.buildOne (cs := mval m s) Try.underlying42 ti32 (by decide) rfl rfl rfl (ones.of rfl)) ?_
      rintro _ _ ⟨bs, rfl, rfl⟩
      refine ⟨.inr ⟨_, (.cons (.tail .head) (.cons (.tail (.tail (.tail (.tail .head)))) .nil))⟩, ?_⟩
      refine .ef 7 (by kernel_rfl) rfl (.append rfl rfl Try.underlying42 ti32 rfl (ones.of rfl) (by decide) (by decide) rfl rfl (.tail (.tail .head)) (n := qs.length) (m := 1) (flat_length pcell_len _) (.srcBlk .head Try.underlying42 rfl (by decide)) (by omega)) ?_
      rintro _ _ ⟨ra, rc, rfl, rn, rfl⟩
      refine ⟨.inl (by kernel_rfl), ?_⟩
      refine .rp 8 rfl (by kernel_rfl) (by kernel_rfl) (by kernel_rfl) (Reads.pure (.nilCheck rfl)) ?_
      refine .rp 9 rfl (by kernel_rfl) (by kernel_rfl) (by kernel_rfl) (Reads.pure (.fieldAddr fd45_0 rfl)) ?_
      refine .ef0 10 (by kernel_rfl) rfl (.store ts42 rfl rfl (.tail (.tail .head)) rfl (Nat.le_of_ble_eq_true rfl)) ?_
      rintro _ _ rfl
      refine ⟨.inl (by kernel_rfl), ?_⟩
      refine .done (by kernel_rfl) ?_
      refine .seq ?_
      refine .region ?_   -- R5 ref.go:42
      refine .rd (.assign rfl) ?_
      refine .nil ?_
      refine .close (X := know fun w => ∀ q ∈ qs ++ [(m, s)], mat q.1 q.2 w) (.cons (.tail (.tail (.tail (.tail .head)))) (.cons (.tail (.tail (.tail (.tail (.tail .head))))) .nil)) (fun h H => know_snoc H) ?_
      refine .close (X := rnet n (qs ++ [(m, s)]) ap) (.cons (.tail .head) (.cons (.tail .head) (.cons (.tail (.tail .head)) (.cons .head .nil)))) (fun h H => rnet_close (qs := qs ++ [(m, s)]) ra rc pa pc h (by rw [flat_snoc, List.length_append]; exact H)) ?_
      refine .retP Try.func16 (.cons (.tmp rfl) .nil) (.cons .head (.cons (.tail (.tail .head)) .nil)) ?_
      exact ⟨[_], .inl ⟨by simp [rsent, *] <;> omega, rfl, rfl⟩, rfl⟩

end Go.Proofs.Ytfbmbhajpmlffaa

