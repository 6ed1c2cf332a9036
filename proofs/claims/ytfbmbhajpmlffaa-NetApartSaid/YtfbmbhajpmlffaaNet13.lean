/- Steps through functions of the program, under conditions that each theorem states (part net13 of a claim). -/
import Derived.Test.YtfbmbhajpmlffaaProg
import Derived.Test.YtfbmbhajpmlffaaL9
import Derived.Test.YtfbmbhajpmlffaaDefs
import Derived.Test.YtfbmbhajpmlffaaNet12
namespace Go.Proofs.Ytfbmbhajpmlffaa
open Go Go.Sp

set_option linter.unusedVariables false

namespace net13
theorem ti69 : TI Try.prog 69 2 16 (.agg #[.int .i64 0, .int .i64 0]) := .of (by kernel_rfl)
theorem ts69 : TS Try.prog 69 2 := .of (by kernel_rfl)
theorem fd45_1 : FD Try.prog 45 1 1 := .of Try.underlying45 (by kernel_rfl)
theorem na43 : NotAgg Try.prog 43 := ⟨_, Try.underlying43, trivial⟩
theorem ia69 : IsAgg Try.prog 69 := ⟨_, Try.underlying69, trivial⟩
theorem ts43 : TS Try.prog 43 1 := .of (by kernel_rfl)
theorem fd45_0 : FD Try.prog 45 0 0 := .of Try.underlying45 (by kernel_rfl)
theorem na42 : NotAgg Try.prog 42 := ⟨_, Try.underlying42, trivial⟩
theorem ts32 : TS Try.prog 32 21 := .of (by kernel_rfl)
theorem fd32_1 : FD Try.prog 32 1 1 := .of Try.underlying32 (by kernel_rfl)
theorem na3 : NotAgg Try.prog 3 := ⟨_, Try.underlying3, trivial⟩
theorem fd32_2 : FD Try.prog 32 2 2 := .of Try.underlying32 (by kernel_rfl)
theorem ia32 : IsAgg Try.prog 32 := ⟨_, Try.underlying32, trivial⟩
theorem ti32 : TI Try.prog 32 21 232 (.agg #[.int .i64 0, .int .i64 0, .int .i64 0, .int .i64 0, .int .i64 0, .int .i64 0, .int .i64 0, .int .i64 0, .int .i64 0, .int .i64 0, .int .i64 0, .int .i64 0, .int .i64 0, .int .i64 0, .int .i64 0, .int .i64 0, .string ⟨#[]⟩, .string ⟨#[]⟩, .slice none 0 0, .slice none 0 0, .slice none 0 0]) := .of (by kernel_rfl)
theorem ts42 : TS Try.prog 42 1 := .of (by kernel_rfl)
end net13
open net13



theorem rPart_ok (n qs ap) (a b : Int) (hq : qs.length ≤ 500) (hb : ap.length ≤ 100000) : Cn Try.prog 21 [.pointer (some ⟨n, 0, none⟩), .int .i64 a, .int .i64 b] (fun _ => True) [rnet n qs ap] fun v G =>
    v = .tuple #[] ∧ G = if a = b ∨ endsS a b ∈ ap then [rnet n qs ap] else [rnet n (qs.filter fun q => !hit a b q) (ap ++ [endsS a b])] := by
  refine .enter Try.func21 rfl (by kernel_rfl) rfl fun R k => ?_
  refine .seq ?_
  refine .region ?_   -- R0 ref.go:66
  refine .rd (.move rfl) ?_
  refine .rd (.move rfl) ?_
  refine .rd (.move rfl) ?_
  refine .fn rfl rfl (.cons .head .nil) (fun _ _ _ => trivial) (rParted_ok n qs ap a b hb) (fun v G1 hq => ?_)
  obtain ⟨rfl, rfl⟩ := hq
  simp only [List.cons_append, List.nil_append]
  refine .rd (.assign rfl) ?_
  refine .nil ?_
  refine .seq ?_
  refine .seq ?_
  refine .region ?_   -- R1 ref.go:67
  refine .rd (.move rfl) ?_
  refine .rd (.move rfl) ?_
  refine .rd (.eqI rfl rfl) ?_
  refine .rd (.move rfl) ?_
  refine .split (t := 17) rfl (fun g13 => ?_) (fun g13 => ?_)
  · replace g13 := of_decide_eq_true g13
    refine .off (t := 17) rfl rfl rfl ?_
    refine .rd (.pickT rfl rfl) ?_
    refine .nil ?_
    refine .condT rfl ?_
    refine .retP Try.func21 .nil (.cons .head (.cons .head .nil)) ?_
    exact ⟨[_], ⟨rfl, by rw [if_pos (by simp [*])]⟩, rfl⟩
  · replace g13 := of_decide_eq_false g13
    refine .on (t := 17) rfl rfl ?_
    refine .rd (.move rfl) ?_
    refine .rd (.pickF rfl rfl) ?_
    refine .nil ?_
    refine .condP rfl (fun c1 => ?_) (fun c1 => ?_)
    · refine .retP Try.func21 .nil (.cons .head (.cons .head .nil)) ?_
      exact ⟨[_], ⟨rfl, by rw [if_pos (by simp [*])]⟩, rfl⟩
    · refine .skip ?_
      refine .seq ?_
      refine .open_ .head rnet_open (fun x _ => ?_)
      obtain ⟨sa, sc, pa, pc⟩ := x
      simp only [List.cons_append, List.nil_append]
      refine .region ?_   -- R2 ref.go:70
      refine .rd (.move rfl) ?_
      refine .rd (.move rfl) ?_
      refine .fn rfl rfl .nil (fun _ _ _ => trivial) (pair_ok _ _) (fun v G1 hq => ?_)
      obtain ⟨rfl, rfl⟩ := hq
      simp only [List.nil_append]
      refine .ef (.alloc ti69 rfl (ones.of rfl)) ?_
      rintro _ _ ⟨b7, rfl, rfl⟩
      refine .ef0 (.storeAll (vs := ppc (endsS a b)) ts69 rfl rfl rfl .head rfl (ones.of rfl)) ?_
      rintro _ _ rfl
      refine .nil ?_
      refine .seq ?_
      refine .draws [4, 5] [blk n [.slice sa qs.length sc, .slice pa ap.length pc] 45, blk b7 (ppc (endsS a b)) 69] (by kernel_rfl) ?_   -- R3 ref.go:71
      refine .rp 0 rfl (by kernel_rfl) (by kernel_rfl) (by kernel_rfl) (Reads.pure (.move rfl)) ?_
      refine .rp 1 rfl (by kernel_rfl) (by kernel_rfl) (by kernel_rfl) (Reads.pure (.move rfl)) ?_
      refine .rp 2 rfl (by kernel_rfl) (by kernel_rfl) (by kernel_rfl) (Reads.pure (.nilCheck rfl)) ?_
      refine .rp 3 rfl (by kernel_rfl) (by kernel_rfl) (by kernel_rfl) (Reads.pure (.fieldAddr fd45_1 rfl)) ?_
      refine .rd 4 rfl rfl (by kernel_rfl) (by kernel_rfl) (by kernel_rfl) (.ld na43 rfl .head rfl) (.cons (.tail .head) (.cons .head .nil)) ?_
      refine .rd 5 rfl rfl (by kernel_rfl) (by kernel_rfl) (by kernel_rfl) (.ldN ia69 ts69 rfl (.tail .head) rfl) (.cons (.tail .head) (.cons .head .nil)) ?_
      refine .ef 6 (by kernel_rfl) rfl (.buildOne (cs := ppc (endsS a b)) Try.underlying43 ti69 (by decide) rfl rfl rfl (ones.of rfl)) ?_
      rintro _ _ ⟨bs, rfl, rfl⟩
      refine ⟨.inr ⟨_, (.cons (.tail (.tail .head)) (.cons (.tail .head) .nil))⟩, ?_⟩
      refine .ef 7 (by kernel_rfl) rfl (.append rfl rfl Try.underlying43 ti69 rfl (ones.of rfl) (by decide) (by decide) rfl rfl (.tail (.tail (.tail (.tail .head)))) (n := ap.length) (m := 1) (flat_length ppc_len _) (.srcBlk .head Try.underlying43 rfl (by decide)) (by omega)) ?_
      rintro _ _ ⟨qa, qc, rfl, qn, rfl⟩
      refine ⟨.inl (by kernel_rfl), ?_⟩
      refine .rp 8 rfl (by kernel_rfl) (by kernel_rfl) (by kernel_rfl) (Reads.pure (.nilCheck rfl)) ?_
      refine .rp 9 rfl (by kernel_rfl) (by kernel_rfl) (by kernel_rfl) (Reads.pure (.fieldAddr fd45_1 rfl)) ?_
      refine .ef0 10 (by kernel_rfl) rfl (.store ts43 rfl rfl (.tail (.tail (.tail .head))) rfl (Nat.le_of_ble_eq_true rfl)) ?_
      rintro _ _ rfl
      refine ⟨.inl (by kernel_rfl), ?_⟩
      refine .done (by kernel_rfl) ?_
      refine .seq ?_
      refine .region ?_   -- R4 ref.go:72
      refine .rd (.assign rfl) ?_
      refine .nil ?_
      refine .seq ?_
      refine .seq ?_
      refine .region ?_   -- R5 ref.go:73
      refine .rd (.assign rfl) ?_
      refine .nil ?_
      refine .nilArr 32 21 none ?_
      refine .block ?_
      refine .loop (σ := Nat × Option Addr × Nat) (fun ⟨i, a', c'⟩ => i ≤ qs.length) (fun ⟨i, a', c'⟩ => qs.length - i) (fun ⟨i, a', c'⟩ => [(0, .pointer (some ⟨n, 0, none⟩)), (7, .pointer (some ⟨b7, 0, none⟩)), (8, .slice a' ((qs.take i).filter fun q => !hit a b q).length c'), (9, .int .i64 (i : Nat))]) (fun ⟨i, a', c'⟩ => [arr 32 21 a' c' (((qs.take i).filter fun q => !hit a b q).flatMap pcell), blk n [.slice sa qs.length sc, .slice qa (ap.length + 1) qc] 45, arr 32 21 sa sc (qs.flatMap pcell), arr 69 2 qa qc (ap.flatMap ppc ++ ppc (endsS a b)), know fun w => ∀ q ∈ qs, mat q.1 q.2 w, blk b7 (ppc (endsS a b)) 69, R]) (0, none, 0) (Nat.zero_le _) (.cons rfl (.cons rfl (.cons rfl (.cons rfl .nil)))) (.cons .head (.cons .head (.cons (.tail (.tail (.tail .head))) (.cons .head (.cons (.tail (.tail .head)) (.cons (.tail .head) (.cons (.tail .head) .nil))))))) (fun s hI ih => ?_)
      obtain ⟨i, a', c'⟩ := s
      dsimp only at hI ih ⊢
      refine .seq ?_
      refine .seq ?_
      refine .region ?_   -- R6 ref.go:73
      refine .rd (.move rfl) ?_
      refine .rd (.move rfl) ?_
      refine .rd (.nilCheck rfl) ?_
      refine .rd (.fieldAddr fd45_0 rfl) ?_
      refine .rd (.ld na42 rfl (.tail .head) rfl) ?_
      refine .rd (.lenL rfl rfl Try.underlying42 rfl) ?_
      refine .rd (.lt rfl rfl) ?_
      refine .nil ?_
      refine .condP rfl (fun h6 => ?_) (fun h6 => ?_)
      · refine .skip ?_
        refine .seq ?_
        refine .block ?_
        refine .seq ?_
        have hj : i < qs.length := by omega
        obtain ⟨p, hp⟩ : ∃ p, qs[i]? = some p := ⟨_, List.getElem?_eq_getElem hj⟩
        have htk : ((qs.take (i + 1)).filter fun q => !hit a b q) = ((qs.take i).filter fun q => !hit a b q) ++ if hit a b p then [] else [p] := by
          rw [List.take_add_one, hp, List.filter_append]
          cases hh : hit a b p <;> simp [hh]
        have hfle : ((qs.take i).filter fun q => !hit a b q).length ≤ i := by have := List.length_filter_le (fun q => !hit a b q) (qs.take i); rw [List.length_take] at this; omega
        refine .tell (φ := ∃ b o, sa = some ⟨b, o, none⟩) ((Knows.arr (.tail (.tail .head))).mono fun _ h => h.addr (by rw [flat_length pcell_len]; omega)) (fun hx => ?_)
        obtain ⟨bb, oo, rfl⟩ := hx
        refine .draws [3, 7, 11, 15, 17] [blk n [.slice (some ⟨bb, oo, none⟩) qs.length sc, .slice qa (ap.length + 1) qc] 45, arr 32 21 (some ⟨bb, oo, none⟩) sc (qs.flatMap pcell), blk b7 (ppc (endsS a b)) 69] (by kernel_rfl) ?_   -- R8 ref.go:74
        refine .rp 0 rfl (by kernel_rfl) (by kernel_rfl) (by kernel_rfl) (Reads.pure (.move rfl)) ?_
        refine .rp 1 rfl (by kernel_rfl) (by kernel_rfl) (by kernel_rfl) (Reads.pure (.nilCheck rfl)) ?_
        refine .rp 2 rfl (by kernel_rfl) (by kernel_rfl) (by kernel_rfl) (Reads.pure (.fieldAddr fd45_0 rfl)) ?_
        refine .rd 3 rfl rfl (by kernel_rfl) (by kernel_rfl) (by kernel_rfl) (.ld na42 rfl .head rfl) (.cons (.tail .head) (.cons (.tail .head) (.cons (.tail (.tail (.tail .head))) .nil))) ?_
        refine .rp 4 rfl (by kernel_rfl) (by kernel_rfl) (by kernel_rfl) (Reads.pure (.move rfl)) ?_
        refine .rp 5 rfl (by kernel_rfl) (by kernel_rfl) (by kernel_rfl) (Reads.pure (.indexAddr Try.underlying42 ts32 rfl rfl (by omega) (by omega))) ?_
        refine .rp 6 rfl (by kernel_rfl) (by kernel_rfl) (by kernel_rfl) (Reads.pure (.fieldAddr fd32_1 rfl)) ?_
        refine .rd 7 rfl rfl (by kernel_rfl) (by kernel_rfl) (by kernel_rfl) (.load na3 rfl (Knows.one (i := 1) (Knows.elem pcell_len (by decide) (Knows.arr (.tail .head)) hp) rfl)) (.cons (.tail .head) (.cons (.tail .head) (.cons (.tail (.tail (.tail .head))) .nil))) ?_
        refine .rp 8 rfl (by kernel_rfl) (by kernel_rfl) (by kernel_rfl) (Reads.pure (.move rfl)) ?_
        refine .rp 9 rfl (by kernel_rfl) (by kernel_rfl) (by kernel_rfl) (Reads.pure (.nilCheck rfl)) ?_
        refine .rp 10 rfl (by kernel_rfl) (by kernel_rfl) (by kernel_rfl) (Reads.pure (.fieldAddr fd45_0 rfl)) ?_
        refine .rd 11 rfl rfl (by kernel_rfl) (by kernel_rfl) (by kernel_rfl) (.ld na42 rfl .head rfl) (.cons (.tail .head) (.cons (.tail .head) (.cons (.tail (.tail (.tail .head))) .nil))) ?_
        refine .rp 12 rfl (by kernel_rfl) (by kernel_rfl) (by kernel_rfl) (Reads.pure (.move rfl)) ?_
        refine .rp 13 rfl (by kernel_rfl) (by kernel_rfl) (by kernel_rfl) (Reads.pure (.indexAddr Try.underlying42 ts32 rfl rfl (by omega) (by omega))) ?_
        refine .rp 14 rfl (by kernel_rfl) (by kernel_rfl) (by kernel_rfl) (Reads.pure (.fieldAddr fd32_2 rfl)) ?_
        refine .rd 15 rfl rfl (by kernel_rfl) (by kernel_rfl) (by kernel_rfl) (.load na3 rfl (Knows.one (i := 2) (Knows.elem pcell_len (by decide) (Knows.arr (.tail .head)) hp) rfl)) (.cons (.tail .head) (.cons (.tail .head) (.cons (.tail (.tail (.tail .head))) .nil))) ?_
        refine .rd 17 rfl rfl (by kernel_rfl) (by kernel_rfl) (by kernel_rfl) (.ldN ia69 ts69 rfl (.tail (.tail .head)) rfl) (.cons (.tail .head) (.cons (.tail .head) (.cons (.tail (.tail (.tail .head))) .nil))) ?_
        refine .ef 16 (by kernel_rfl) rfl (.fn rfl rfl .nil (fun _ _ _ => trivial) (pair_ok _ _)) ?_
        rintro v _ ⟨G1, hq, rfl⟩
        obtain ⟨rfl, rfl⟩ := hq
        simp only [List.nil_append]
        refine ⟨.inr ⟨_, (.cons (.tail .head) (.cons (.tail .head) (.cons (.tail (.tail (.tail .head))) .nil)))⟩, ?_⟩
        refine .rp 18 rfl (by kernel_rfl) (by kernel_rfl) (by kernel_rfl) (Reads.pure (.neA (xs := (ppc (endsS p.1.hd.frm p.1.hd.to)).toArray) (ys := (ppc (endsS a b)).toArray) (by kernel_rfl) rfl (eq69 _ _) rfl rfl)) ?_
        refine .done (by kernel_rfl) ?_
        refine .condN rfl (fun h8 => ?_) (fun h8 => ?_)
        · refine .region ?_   -- R9 ref.go:75
          refine .rd (.move rfl) ?_
          refine .rd (.move rfl) ?_
          refine .rd (.nilCheck rfl) ?_
          refine .rd (.fieldAddr fd45_0 rfl) ?_
          refine .rd (.ld na42 rfl (.tail .head) rfl) ?_
          refine .rd (.move rfl) ?_
          refine .rd (.indexAddr Try.underlying42 ts32 rfl rfl (by omega) (by omega)) ?_
          refine .rd (.loadN ia32 ts32 rfl rfl (Knows.elem pcell_len (by decide) (Knows.arr (.tail (.tail .head))) hp)) ?_
          refine .ef (.buildOne (cs := mval p.1 p.2) Try.underlying42 ti32 (by decide) rfl rfl rfl (ones.of rfl)) ?_
          rintro _ _ ⟨bs2, rfl, rfl⟩
          refine .ef (.append rfl rfl Try.underlying42 ti32 rfl (ones.of rfl) (by decide) (by decide) rfl rfl (.tail .head) (n := ((qs.take i).filter fun q => !hit a b q).length) (m := 1) (flat_length pcell_len _) (.srcBlk .head Try.underlying42 rfl (by decide)) (by omega)) ?_
          rintro _ _ ⟨ra, rc, rfl, rn, rfl⟩
          refine .rd (.assign rfl) ?_
          refine .nil ?_
          refine .inBlock ?_
          refine .region ?_   -- R7 ref.go:73
          refine .rd (.move rfl) ?_
          refine .rd (.add rfl rfl (by omega) (by omega)) ?_
          refine .rd (.assign rfl) ?_
          refine .nil ?_
          have hh : hit a b p = false := decide_eq_false h8
          rw [if_neg (by simp [hh])] at htk
          have e1 : ((qs.take i).filter fun q => !hit a b q).flatMap pcell ++ mval p.1 p.2 = ((qs.take (i + 1)).filter fun q => !hit a b q).flatMap pcell := by rw [htk]; simp [pcell]
          have e2 : ((qs.take i).filter fun q => !hit a b q).length + 1 = ((qs.take (i + 1)).filter fun q => !hit a b q).length := by rw [htk]; simp
          rw [e1]
          exact (ih (i + 1, ra, rc) (by show i + 1 ≤ _; omega) (by show qs.length - (i + 1) < _; omega)).to (.cons rfl (.cons rfl (.cons (by show _ = some (Value.slice ra ((qs.take (i + 1)).filter fun q => !hit a b q).length rc); rw [← e2]; rfl) (.cons rfl .nil)))) (.cons .head (.cons (.tail .head) (.cons (.tail .head) (.cons (.tail .head) (.cons (.tail .head) (.cons (.tail .head) (.cons (.tail .head) .nil)))))))
        · refine .skip ?_
          refine .inBlock ?_
          refine .region ?_   -- R7 ref.go:73
          refine .rd (.move rfl) ?_
          refine .rd (.add rfl rfl (by omega) (by omega)) ?_
          refine .rd (.assign rfl) ?_
          refine .nil ?_
          have hh : hit a b p = true := decide_eq_true h8
          rw [if_pos hh, List.append_nil] at htk
          rw [← htk]
          exact (ih (i + 1, a', c') (by show i + 1 ≤ _; omega) (by show qs.length - (i + 1) < _; omega)).to (.cons rfl (.cons rfl (.cons (by show _ = some (Value.slice a' ((qs.take (i + 1)).filter fun q => !hit a b q).length c'); rw [htk]; rfl) (.cons rfl .nil)))) (.cons .head (.cons .head (.cons .head (.cons .head (.cons .head (.cons .head (.cons .head .nil)))))))
      · refine .exit rfl ?_
        refine .region ?_   -- R10 ref.go:78
        refine .rd (.move rfl) ?_
        refine .rd (.move rfl) ?_
        refine .rd (.nilCheck rfl) ?_
        refine .rd (.fieldAddr fd45_0 rfl) ?_
        refine .ef0 (.store ts42 rfl rfl (.tail .head) rfl (Nat.le_of_ble_eq_true rfl)) ?_
        rintro _ _ rfl
        refine .nil ?_
        obtain rfl : i = qs.length := by omega
        rw [List.take_length]
        refine .close (X := know fun w => ∀ q ∈ (qs.filter fun q => !hit a b q), mat q.1 q.2 w) (.cons (.tail (.tail (.tail (.tail .head)))) .nil) (fun h H => sat.know_mono (fun w hw q hq => hw q (List.mem_filter.1 hq).1) H) ?_
        refine .close (X := rnet n (qs.filter fun q => !hit a b q) (ap ++ [endsS a b])) (.cons (.tail .head) (.cons (.tail .head) (.cons (.tail (.tail .head)) (.cons .head .nil)))) (fun h H => rnet_close (qs := (qs.filter fun q => !hit a b q)) (ap := ap ++ [endsS a b]) a' c' qa qc h (by rw [show (ap ++ [endsS a b]).flatMap ppc = ap.flatMap ppc ++ ppc (endsS a b) by simp, List.length_append]; exact H)) ?_
        refine .endP Try.func21 .nil (.cons .head (.cons (.tail (.tail .head)) .nil)) ?_
        exact ⟨[_], ⟨rfl, by rw [if_neg (by simp [*])]⟩, rfl⟩

theorem rJoin_ok (n qs ap) (a b : Int) (hb : ap.length ≤ 100000) : Cn Try.prog 23 [.pointer (some ⟨n, 0, none⟩), .int .i64 a, .int .i64 b] (fun _ => True) [rnet n qs ap] fun v G =>
    v = .tuple #[] ∧ G = [rnet n qs (ap.filter fun q => !decide (q = endsS a b))] := by
  refine .enter Try.func23 rfl (by kernel_rfl) rfl fun R k => ?_
  refine .open_ .head rnet_open (fun x _ => ?_)
  obtain ⟨sa, sc, pa, pc⟩ := x
  simp only [List.cons_append, List.nil_append]
  refine .seq ?_
  refine .region ?_   -- R0 ref.go:82
  refine .rd (.move rfl) ?_
  refine .rd (.move rfl) ?_
  refine .fn rfl rfl .nil (fun _ _ _ => trivial) (pair_ok _ _) (fun v G1 hq => ?_)
  obtain ⟨rfl, rfl⟩ := hq
  simp only [List.nil_append]
  refine .ef (.alloc ti69 rfl (ones.of rfl)) ?_
  rintro _ _ ⟨b6, rfl, rfl⟩
  refine .ef0 (.storeAll (vs := ppc (endsS a b)) ts69 rfl rfl rfl .head rfl (ones.of rfl)) ?_
  rintro _ _ rfl
  refine .nil ?_
  refine .seq ?_
  refine .region ?_   -- R1 ref.go:83
  refine .rd (.assign rfl) ?_
  refine .nil ?_
  refine .seq ?_
  refine .seq ?_
  refine .region ?_   -- R2 ref.go:84
  refine .rd (.assign rfl) ?_
  refine .nil ?_
  refine .nilArr 69 2 none ?_
  refine .block ?_
  refine .loop (σ := Nat × Option Addr × Nat) (fun ⟨i, a', c'⟩ => i ≤ ap.length) (fun ⟨i, a', c'⟩ => ap.length - i) (fun ⟨i, a', c'⟩ => [(0, .pointer (some ⟨n, 0, none⟩)), (6, .pointer (some ⟨b6, 0, none⟩)), (7, .slice a' ((ap.take i).filter fun q => !decide (q = endsS a b)).length c'), (8, .int .i64 (i : Nat))]) (fun ⟨i, a', c'⟩ => [arr 69 2 a' c' (((ap.take i).filter fun q => !decide (q = endsS a b)).flatMap ppc), blk n [.slice sa qs.length sc, .slice pa ap.length pc] 45, arr 32 21 sa sc (qs.flatMap pcell), arr 69 2 pa pc (ap.flatMap ppc), know fun w => ∀ q ∈ qs, mat q.1 q.2 w, blk b6 (ppc (endsS a b)) 69, R]) (0, none, 0) (Nat.zero_le _) (.cons rfl (.cons rfl (.cons rfl (.cons rfl .nil)))) (.cons .head (.cons (.tail .head) (.cons (.tail .head) (.cons (.tail .head) (.cons (.tail .head) (.cons .head (.cons .head .nil))))))) (fun s hI ih => ?_)
  obtain ⟨i, a', c'⟩ := s
  dsimp only at hI ih ⊢
  refine .seq ?_
  refine .seq ?_
  refine .region ?_   -- R3 ref.go:84
  refine .rd (.move rfl) ?_
  refine .rd (.move rfl) ?_
  refine .rd (.nilCheck rfl) ?_
  refine .rd (.fieldAddr fd45_1 rfl) ?_
  refine .rd (.ld na43 rfl (.tail .head) rfl) ?_
  refine .rd (.lenL rfl rfl Try.underlying43 rfl) ?_
  refine .rd (.lt rfl rfl) ?_
  refine .nil ?_
  refine .condP rfl (fun h3 => ?_) (fun h3 => ?_)
  · refine .skip ?_
    refine .seq ?_
    refine .block ?_
    refine .seq ?_
    have hj : i < ap.length := by omega
    obtain ⟨p, hp⟩ : ∃ p, ap[i]? = some p := ⟨_, List.getElem?_eq_getElem hj⟩
    have htk : ((ap.take (i + 1)).filter fun q => !decide (q = endsS a b)) = ((ap.take i).filter fun q => !decide (q = endsS a b)) ++ if p = endsS a b then [] else [p] := by
      rw [List.take_add_one, hp, List.filter_append]
      by_cases hh : p = endsS a b <;> simp [hh]
    have hfle : ((ap.take i).filter fun q => !decide (q = endsS a b)).length ≤ i := by have := List.length_filter_le (fun q => !decide (q = endsS a b)) (ap.take i); rw [List.length_take] at this; omega
    refine .tell (φ := ∃ b o, pa = some ⟨b, o, none⟩) ((Knows.arr (.tail (.tail (.tail .head)))).mono fun _ h => h.addr (by rw [flat_length ppc_len]; omega)) (fun hx => ?_)
    obtain ⟨bb, oo, rfl⟩ := hx
    refine .draws [3, 6, 7] [blk n [.slice sa qs.length sc, .slice (some ⟨bb, oo, none⟩) ap.length pc] 45, arr 69 2 (some ⟨bb, oo, none⟩) pc (ap.flatMap ppc), blk b6 (ppc (endsS a b)) 69] (by kernel_rfl) ?_   -- R5 ref.go:85
    refine .rp 0 rfl (by kernel_rfl) (by kernel_rfl) (by kernel_rfl) (Reads.pure (.move rfl)) ?_
    refine .rp 1 rfl (by kernel_rfl) (by kernel_rfl) (by kernel_rfl) (Reads.pure (.nilCheck rfl)) ?_
    refine .rp 2 rfl (by kernel_rfl) (by kernel_rfl) (by kernel_rfl) (Reads.pure (.fieldAddr fd45_1 rfl)) ?_
    refine .rd 3 rfl rfl (by kernel_rfl) (by kernel_rfl) (by kernel_rfl) (.ld na43 rfl .head rfl) (.cons (.tail .head) (.cons (.tail (.tail .head)) (.cons (.tail (.tail (.tail .head))) .nil))) ?_
    refine .rp 4 rfl (by kernel_rfl) (by kernel_rfl) (by kernel_rfl) (Reads.pure (.move rfl)) ?_
    refine .rp 5 rfl (by kernel_rfl) (by kernel_rfl) (by kernel_rfl) (Reads.pure (.indexAddr Try.underlying43 ts69 rfl rfl (by omega) (by omega))) ?_
    refine .rd 6 rfl rfl (by kernel_rfl) (by kernel_rfl) (by kernel_rfl) (.loadN ia69 ts69 rfl rfl (Knows.elem ppc_len (by decide) (Knows.arr (.tail .head)) hp)) (.cons (.tail .head) (.cons (.tail (.tail .head)) (.cons (.tail (.tail (.tail .head))) .nil))) ?_
    refine .rd 7 rfl rfl (by kernel_rfl) (by kernel_rfl) (by kernel_rfl) (.ldN ia69 ts69 rfl (.tail (.tail .head)) rfl) (.cons (.tail .head) (.cons (.tail (.tail .head)) (.cons (.tail (.tail (.tail .head))) .nil))) ?_
    refine .rp 8 rfl (by kernel_rfl) (by kernel_rfl) (by kernel_rfl) (Reads.pure (.neA (xs := (ppc p).toArray) (ys := (ppc (endsS a b)).toArray) (by kernel_rfl) rfl (eq69 _ _) rfl rfl)) ?_
    refine .done (by kernel_rfl) ?_
    refine .condN rfl (fun h5 => ?_) (fun h5 => ?_)
    · refine .region ?_   -- R6 ref.go:86
      refine .rd (.move rfl) ?_
      refine .rd (.move rfl) ?_
      refine .rd (.nilCheck rfl) ?_
      refine .rd (.fieldAddr fd45_1 rfl) ?_
      refine .rd (.ld na43 rfl (.tail .head) rfl) ?_
      refine .rd (.move rfl) ?_
      refine .rd (.indexAddr Try.underlying43 ts69 rfl rfl (by omega) (by omega)) ?_
      refine .rd (.loadN ia69 ts69 rfl rfl (Knows.elem ppc_len (by decide) (Knows.arr (.tail (.tail (.tail .head)))) hp)) ?_
      refine .ef (.buildOne (cs := ppc p) Try.underlying43 ti69 (by decide) rfl rfl rfl (ones.of rfl)) ?_
      rintro _ _ ⟨bs2, rfl, rfl⟩
      refine .ef (.append rfl rfl Try.underlying43 ti69 rfl (ones.of rfl) (by decide) (by decide) rfl rfl (.tail .head) (n := ((ap.take i).filter fun q => !decide (q = endsS a b)).length) (m := 1) (flat_length ppc_len _) (.srcBlk .head Try.underlying43 rfl (by decide)) (by omega)) ?_
      rintro _ _ ⟨ra, rc, rfl, rn, rfl⟩
      refine .rd (.assign rfl) ?_
      refine .nil ?_
      refine .inBlock ?_
      refine .region ?_   -- R4 ref.go:84
      refine .rd (.move rfl) ?_
      refine .rd (.add rfl rfl (by omega) (by omega)) ?_
      refine .rd (.assign rfl) ?_
      refine .nil ?_
      rw [if_neg h5] at htk
      have e1 : ((ap.take i).filter fun q => !decide (q = endsS a b)).flatMap ppc ++ ppc p = ((ap.take (i + 1)).filter fun q => !decide (q = endsS a b)).flatMap ppc := by rw [htk]; simp
      have e2 : ((ap.take i).filter fun q => !decide (q = endsS a b)).length + 1 = ((ap.take (i + 1)).filter fun q => !decide (q = endsS a b)).length := by rw [htk]; simp
      rw [e1]
      exact (ih (i + 1, ra, rc) (by show i + 1 ≤ _; omega) (by show ap.length - (i + 1) < _; omega)).to (.cons rfl (.cons rfl (.cons (by show _ = some (Value.slice ra ((ap.take (i + 1)).filter fun q => !decide (q = endsS a b)).length rc); rw [← e2]; rfl) (.cons rfl .nil)))) (.cons .head (.cons (.tail .head) (.cons (.tail .head) (.cons (.tail .head) (.cons (.tail .head) (.cons (.tail .head) (.cons (.tail .head) .nil)))))))
    · refine .skip ?_
      refine .inBlock ?_
      refine .region ?_   -- R4 ref.go:84
      refine .rd (.move rfl) ?_
      refine .rd (.add rfl rfl (by omega) (by omega)) ?_
      refine .rd (.assign rfl) ?_
      refine .nil ?_
      rw [if_pos h5, List.append_nil] at htk
      rw [← htk]
      exact (ih (i + 1, a', c') (by show i + 1 ≤ _; omega) (by show ap.length - (i + 1) < _; omega)).to (.cons rfl (.cons rfl (.cons (by show _ = some (Value.slice a' ((ap.take (i + 1)).filter fun q => !decide (q = endsS a b)).length c'); rw [htk]; rfl) (.cons rfl .nil)))) (.cons .head (.cons .head (.cons .head (.cons .head (.cons .head (.cons .head (.cons .head .nil)))))))
  · refine .exit rfl ?_
    refine .region ?_   -- R7 ref.go:89
    refine .rd (.move rfl) ?_
    refine .rd (.move rfl) ?_
    refine .rd (.nilCheck rfl) ?_
    refine .rd (.fieldAddr fd45_1 rfl) ?_
    refine .ef0 (.store ts43 rfl rfl (.tail .head) rfl (Nat.le_of_ble_eq_true rfl)) ?_
    rintro _ _ rfl
    refine .nil ?_
    obtain rfl : i = ap.length := by omega
    rw [List.take_length]
    refine .close (X := rnet n qs (ap.filter fun q => !decide (q = endsS a b))) (.cons .head (.cons (.tail .head) (.cons .head (.cons (.tail .head) .nil)))) (fun h H => rnet_close (qs := qs) (ap := (ap.filter fun q => !decide (q = endsS a b))) sa sc a' c' h H) ?_
    refine .endP Try.func23 .nil (.cons .head (.cons (.tail (.tail .head)) .nil)) ?_
    exact ⟨[_], ⟨rfl, rfl⟩, rfl⟩

end Go.Proofs.Ytfbmbhajpmlffaa

