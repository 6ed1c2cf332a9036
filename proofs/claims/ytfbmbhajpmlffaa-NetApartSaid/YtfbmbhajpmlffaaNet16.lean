/- Steps through functions of the program, under conditions that each theorem states (part net16 of a claim). -/
import Derived.Test.YtfbmbhajpmlffaaProg
import Derived.Test.YtfbmbhajpmlffaaL9
import Derived.Test.YtfbmbhajpmlffaaDefs
import Derived.Test.YtfbmbhajpmlffaaNet15
namespace Go.Proofs.Ytfbmbhajpmlffaa
open Go Go.Sp

set_option linter.unusedVariables false

namespace net16
theorem ts47 : TS Try.prog 47 24 := .of (by kernel_rfl)
theorem ia47 : IsAgg Try.prog 47 := ⟨_, Try.underlying47, trivial⟩
theorem ti47 : TI Try.prog 47 24 256 (.agg #[.int .i64 0, .int .i64 0, .int .i64 0, .int .i64 0, .int .i64 0, .int .i64 0, .int .i64 0, .int .i64 0, .int .i64 0, .int .i64 0, .int .i64 0, .int .i64 0, .int .i64 0, .int .i64 0, .int .i64 0, .int .i64 0, .int .i64 0, .int .i64 0, .int .i64 0, .string ⟨#[]⟩, .string ⟨#[]⟩, .slice none 0 0, .slice none 0 0, .slice none 0 0]) := .of (by kernel_rfl)
theorem fd47_0 : FD Try.prog 47 0 0 := .of Try.underlying47 (by kernel_rfl)
theorem na3 : NotAgg Try.prog 3 := ⟨_, Try.underlying3, trivial⟩
theorem fd47_1 : FD Try.prog 47 1 1 := .of Try.underlying47 (by kernel_rfl)
theorem ti32 : TI Try.prog 32 21 232 (.agg #[.int .i64 0, .int .i64 0, .int .i64 0, .int .i64 0, .int .i64 0, .int .i64 0, .int .i64 0, .int .i64 0, .int .i64 0, .int .i64 0, .int .i64 0, .int .i64 0, .int .i64 0, .int .i64 0, .int .i64 0, .int .i64 0, .string ⟨#[]⟩, .string ⟨#[]⟩, .slice none 0 0, .slice none 0 0, .slice none 0 0]) := .of (by kernel_rfl)
theorem ts32 : TS Try.prog 32 21 := .of (by kernel_rfl)
end net16
open net16

structure OpD where
  kind : Int
  a : Int
  b : Int
  m : Msg
  s : Ms
def opc (o : OpD) : List Value := .int .i64 o.kind :: .int .i64 o.a :: .int .i64 o.b :: mval o.m o.s
theorem opc_len (o : OpD) : (opc o).length = 24 := rfl
theorem opc_ones (o : OpD) : ones (opc o) := .of rfl
def i64 (n : Int) : Prop := -9223372036854775808 ≤ n ∧ n ≤ 9223372036854775807
structure OpD.ok (o : OpD) : Prop where
  kind : i64 o.kind
  a : i64 o.a
  b : i64 o.b
structure Cnt (ps : List Pm) : Prop where
  len : ps.length ≤ 500
  ok : ∀ p ∈ ps, p.1.ok
theorem Cnt.snoc {ps : List Pm} {m : Msg} {s} (h : Cnt ps) (hl : ps.length < 500) (hm : m.ok) : Cnt (ps ++ [(m, s)]) :=
  ⟨by simp; omega, fun p hp => by
    rcases List.mem_append.1 hp with hp | hp
    · exact h.ok p hp
    · obtain rfl := List.mem_singleton.1 hp; exact hm⟩
theorem Send_cnt {n ps} {m : Msg} {s : Ms} (h : Cnt ps) (hm : m.ok) : Cn Try.prog 10 [.pointer (some ⟨n, 0, none⟩), .agg (mval m s).toArray] (mat m s) [net n ps []] fun v G => ∃ ps' b, Cnt ps' ∧ (ps'.length : Int) = ps.length + (if b = true then 1 else 0) ∧ v = .bool b ∧ G = [net n ps' []] := by
  refine (Send_ok n ps [] m s hm).mono fun v G hq => ?_
  have hp : partedS [] m.hd.frm m.hd.to = false := rfl
  rcases hq with ⟨s', hs, hv, hG⟩ | ⟨hs, hv, hG⟩
  · have : ps.length < 500 := by simp [sentS, hp] at hs; exact hs
    exact ⟨_, _, h.snoc this hm, by simp, hv, hG⟩
  · exact ⟨_, _, h, by simp, hv, hG⟩
theorem Twice_cnt {n ps pt} {i : Int} (h : Cnt ps) : Cn Try.prog 19 [.pointer (some ⟨n, 0, none⟩), .int .i64 i] (fun _ => True) [net n ps pt] fun v G => ∃ ps' b, Cnt ps' ∧ (ps'.length : Int) = ps.length + (if b = true then 1 else 0) ∧ v = .bool b ∧ G = [net n ps' pt] := by
  refine (Twice_ok n ps pt i h.ok).mono fun v G hq => ?_
  obtain ⟨ps', ok, hT, hv, hG⟩ := hq
  rcases hT with ⟨rfl, hl, j, p, s', _, hp, rfl⟩ | ⟨rfl, _, rfl⟩
  · exact ⟨_, _, h.snoc hl (h.ok p (List.mem_of_getElem? hp)), by simp, hv, hG⟩
  · exact ⟨_, _, h, by simp, hv, hG⟩
theorem Take_cnt {n ps pt} {i : Int} (h : Cnt ps) : Cn Try.prog 13 [.pointer (some ⟨n, 0, none⟩), .int .i64 i] (fun _ => True) [net n ps pt] fun v G => ∃ (ps' : List Pm) (p : Pm) (b : Bool), Cnt ps' ∧ (ps'.length : Int) = ps.length - (if b = true then 1 else 0) ∧ v = .tuple #[.agg (mval p.1 p.2).toArray, .bool b] ∧ G = [net n ps' pt, owm p.1 p.2] := by
  refine (Take_ok n ps pt i h.len).mono fun v G hq => ?_
  obtain ⟨ps', p, ok, hT, hv, hG⟩ := hq
  rcases hT with ⟨rfl, j, _, hp, rfl⟩ | ⟨rfl, _, rfl, rfl⟩
  · have hj := (List.getElem?_eq_some_iff.1 hp).1
    refine ⟨_, p, _, ⟨?_, fun q hq => h.ok q (List.mem_of_mem_eraseIdx hq)⟩, ?_, hv, hG⟩
    · rw [List.length_eraseIdx_of_lt hj]; have := h.len; omega
    · rw [List.length_eraseIdx_of_lt hj]; simp; omega
  · exact ⟨_, _, _, h, by simp, hv, hG⟩

theorem NetCounts_ok (a : Option Addr) (c : Nat) (l : List OpD) (hl : ∀ x ∈ l, x.ok) (hcap : l.length ≤ 140737488351232) : Cn Try.prog 6 [.slice a l.length c] (RowAt a (l.flatMap opc)) [] fun v G => v = .bool true ∧ G = [] := by
  refine .enter Try.func6 rfl (by kernel_rfl) rfl fun R k => ?_
  refine .seq ?_
  refine .region ?_   -- R0 more.go:6
  refine .rd (.assign rfl) ?_
  refine .nil ?_
  refine .seq ?_
  refine .region ?_   -- R1 more.go:7
  refine .fn rfl rfl .nil (fun _ _ _ => trivial) (shown_ok) (fun v G1 hq => ?_)
  obtain ⟨rfl, rfl⟩ := hq
  simp only [List.nil_append]
  refine .rd (.assign rfl) ?_
  refine .nil ?_
  refine .seq ?_
  refine .region ?_   -- R2 more.go:8
  refine .fn rfl rfl .nil (fun _ _ _ => trivial) (New_ok) (fun v G1 hq => ?_)
  obtain ⟨n, rfl, rfl⟩ := hq
  simp only [List.cons_append, List.nil_append]
  refine .rd (.assign rfl) ?_
  refine .nil ?_
  refine .seq ?_
  refine .seq ?_
  refine .region ?_   -- R3 more.go:9
  refine .rd (.move rfl) ?_
  refine .rd (.not rfl) ?_
  refine .rd (.move rfl) ?_
  refine .on (t := 15) rfl rfl ?_
  refine .rd (.move rfl) ?_
  refine .on (t := 15) rfl rfl ?_
  refine .rd (.eqNilP Try.underlying24 rfl rfl) ?_
  refine .rd (.pickF rfl rfl) ?_
  refine .nil ?_
  refine .condF rfl ?_
  refine .skip ?_
  refine .seq ?_
  refine .region ?_   -- R5 more.go:12
  refine .rd (.assign rfl) ?_
  refine .nil ?_
  refine .seq ?_
  refine .region ?_   -- R6 more.go:13
  refine .rd (.assign rfl) ?_
  refine .nil ?_
  refine .seq ?_
  refine .seq ?_
  refine .region ?_   -- R7 more.go:14
  refine .rd (.assign rfl) ?_
  refine .nil ?_
  refine .block ?_
  refine .loop (σ := Nat × List Pm × Int × Int) (fun ⟨i, ps, sent, gone⟩ => i ≤ l.length ∧ i ≤ 600 ∧ Cnt ps ∧ (ps.length : Int) = sent - gone ∧ 0 ≤ gone ∧ sent ≤ i) (fun ⟨i, ps, sent, gone⟩ => l.length - i) (fun ⟨i, ps, sent, gone⟩ => [(0, .slice a l.length c), (4, .pointer (some ⟨n, 0, none⟩)), (5, .int .i64 sent), (6, .int .i64 gone), (7, .int .i64 (i : Nat))]) (fun ⟨i, ps, sent, gone⟩ => [net n ps [], R]) (0, [], 0, 0) ⟨Nat.zero_le _, Nat.zero_le _, ⟨Nat.zero_le _, fun _ h => by cases h⟩, rfl, Int.le_refl _, Int.le_refl _⟩ (.cons rfl (.cons rfl (.cons rfl (.cons rfl (.cons rfl .nil))))) (.cons .head (.cons .head .nil)) (fun s hI ih => ?_)
  obtain ⟨i, ps, sent, gone⟩ := s
  dsimp only at hI ih ⊢
  obtain ⟨hi, hi6, hC, hN, hg0, hs⟩ := hI
  refine .seq ?_
  refine .seq ?_
  refine .region ?_   -- R8 more.go:14
  refine .rd (.move rfl) ?_
  refine .rd (.move rfl) ?_
  refine .rd (.lenL rfl rfl Try.underlying40 rfl) ?_
  refine .rd (.lt rfl rfl) ?_
  refine .rd (.move rfl) ?_
  refine .split (t := 23) rfl (fun h8 => ?_) (fun h8 => ?_)
  · replace h8 := of_decide_eq_true h8
    refine .on (t := 23) rfl rfl ?_
    refine .rd (.move rfl) ?_
    refine .on (t := 23) rfl rfl ?_
    refine .rd (.lt rfl rfl) ?_
    refine .rd (.pickT rfl rfl) ?_
    refine .nil ?_
    refine .condP rfl (fun h8b => ?_) (fun h8b => ?_)
    · refine .skip ?_
      refine .seq ?_
      refine .block ?_
      refine .seq ?_
      have hj : i < l.length := by omega
      obtain ⟨x, hx⟩ : ∃ x, l[i]? = some x := ⟨_, List.getElem?_eq_getElem hj⟩
      obtain ⟨⟨hk1, hk2⟩, ⟨ha1, ha2⟩, _⟩ := hl x (List.mem_of_getElem? hx)
      refine .tell (φ := ∃ b o, a = some ⟨b, o, none⟩) (Knows.pick (.tail .head) (k.mono fun _ h => h.addr (by rw [flat_length opc_len]; omega))) (fun hx => ?_)
      obtain ⟨bb, oo, rfl⟩ := hx
      obtain ⟨y1, y2⟩ := pick_range (c := x.kind) (n := 4) (by decide)
      have hlen := hC.len
      refine .region ?_   -- R10 more.go:15
      refine .rd (.move rfl) ?_
      refine .rd (.move rfl) ?_
      refine .rd (.indexAddr Try.underlying40 ts47 rfl rfl (by omega) (by omega)) ?_
      refine .rd (.loadN ia47 ts47 rfl rfl (Knows.elem opc_len (by decide) (Knows.pick (.tail .head) k) hx)) ?_
      refine .ef (.alloc ti47 rfl (ones.of rfl)) ?_
      rintro _ _ ⟨b8, rfl, rfl⟩
      refine .ef0 (.storeAll (vs := opc x) ts47 rfl rfl rfl .head rfl (ones.of rfl)) ?_
      rintro _ _ rfl
      refine .nil ?_
      refine .seq ?_
      refine .seq ?_
      refine .region ?_   -- R11 more.go:16
      refine .rd (.fieldAddr fd47_0 rfl) ?_
      refine .rd (.ld na3 rfl .head rfl) ?_
      refine .fn rfl rfl .nil (fun _ _ _ => trivial) (pick_ok x.kind 4 hk1 hk2 (by decide)) (fun v G1 hq => ?_)
      obtain ⟨rfl, rfl⟩ := hq
      simp only [List.nil_append]
      refine .nil ?_
      refine .block ?_
      refine .seq ?_
      refine .seq ?_
      refine .region ?_   -- R12 more.go:17
      refine .rd (.eqI rfl rfl) ?_
      refine .rd (.assign rfl) ?_
      refine .nil ?_
      refine .condP rfl (fun h12 => ?_) (fun h12 => ?_)
      · refine .alter (t := 36) (v' := .bool true) rfl (by rw [decide_eq_true h12]) ?_
        refine .skip ?_
        refine .condT rfl ?_
        refine .seq ?_
        refine .region ?_   -- R14 more.go:18
        refine .rd (.move rfl) ?_
        refine .rd (.move rfl) ?_
        refine .fn rfl rfl .nil (fun _ _ _ => trivial) (to_ok' 1 2 i) (fun v G1 hq => ?_)
        obtain ⟨rfl, rfl⟩ := hq
        simp only [List.nil_append]
        refine .fn rfl rfl (.cons (.tail .head) .nil) (fun _ _ _ => mat_toM _ _ _ _) (Send_cnt (s := zs) hC (ok_toM 1 2 i)) (fun v G1 hq => ?_)
        obtain ⟨ps', b, hC', hb, rfl, rfl⟩ := hq
        simp only [List.cons_append, List.nil_append]
        refine .nil ?_
        refine .cond rfl (fun hT => ?_) (fun hT => ?_)
        · refine .region ?_   -- R15 more.go:19
          refine .rd (.move rfl) ?_
          refine .rd (.add rfl rfl (by omega) (by omega)) ?_
          refine .rd (.assign rfl) ?_
          refine .nil ?_
          refine .inBlock ?_
          refine .seq ?_
          rw [if_pos hT] at hb
          have hlen' := hC'.len
          refine .region ?_   -- R23 more.go:31
          refine .rd (.move rfl) ?_
          refine .fn rfl rfl (.cons .head .nil) (fun _ _ _ => trivial) (Len_ok n ps' []) (fun v G1 hq => ?_)
          obtain ⟨rfl, rfl⟩ := hq
          simp only [List.cons_append, List.nil_append]
          refine .rd (.move rfl) ?_
          refine .rd (.move rfl) ?_
          refine .rd (.sub rfl rfl (by omega) (by omega)) ?_
          refine .rd (.neI rfl rfl) ?_
          refine .alter (t := 78) (v' := .bool false) rfl (by rw [decide_eq_true (by omega)]; rfl) ?_
          refine .rd (.move rfl) ?_
          refine .on (t := 79) rfl rfl ?_
          refine .rd (.move rfl) ?_
          refine .on (t := 79) rfl rfl ?_
          refine .fn rfl rfl (.cons .head .nil) (fun _ _ _ => trivial) (All_ok n ps' [] hC'.len hC'.ok) (fun v G1 hq => ?_)
          obtain ⟨aa, ac, al, hal, rfl, rfl⟩ := hq
          simp only [List.cons_append, List.nil_append]
          have hall : al.length = ps'.length := by have := congrArg List.length hal; simpa using this
          refine .on (t := 79) rfl rfl ?_
          refine .rd (.lenL rfl rfl Try.underlying42 rfl) ?_
          refine .on (t := 79) rfl rfl ?_
          refine .rd (.move rfl) ?_
          refine .on (t := 79) rfl rfl ?_
          refine .fn rfl rfl (.cons .head .nil) (fun _ _ _ => trivial) (Len_ok n ps' []) (fun v G1 hq => ?_)
          obtain ⟨rfl, rfl⟩ := hq
          simp only [List.cons_append, List.nil_append]
          refine .on (t := 79) rfl rfl ?_
          refine .rd (.neI rfl rfl) ?_
          refine .alter (t := 85) (v' := .bool false) rfl (by rw [decide_eq_true (by omega)]; rfl) ?_
          refine .rd (.pickF rfl rfl) ?_
          refine .rd (.move rfl) ?_
          refine .on (t := 87) rfl rfl ?_
          refine .rd (.move rfl) ?_
          refine .on (t := 87) rfl rfl ?_
          refine .fn rfl rfl (.cons .head .nil) (fun _ _ _ => trivial) (Len_ok n ps' []) (fun v G1 hq => ?_)
          obtain ⟨rfl, rfl⟩ := hq
          simp only [List.cons_append, List.nil_append]
          refine .on (t := 87) rfl rfl ?_
          refine .rd (.gt rfl rfl) ?_
          refine .alter (t := 90) (v' := .bool false) rfl (by rw [decide_eq_false (by omega)]) ?_
          refine .rd (.pickF rfl rfl) ?_
          refine .nil ?_
          refine .condF rfl ?_
          refine .skip ?_
          refine .inBlock ?_
          refine .region ?_   -- R9 more.go:14
          refine .rd (.move rfl) ?_
          refine .rd (.add rfl rfl (by omega) (by omega)) ?_
          refine .rd (.assign rfl) ?_
          refine .nil ?_
          exact (ih (i + 1, ps', sent + 1, gone) ⟨by show i + 1 ≤ _; omega, by show i + 1 ≤ 600; omega, hC', by show (ps'.length : Int) = (sent + 1) - (gone); omega, by show 0 ≤ gone; omega, by show sent + 1 ≤ ((i + 1 : Nat) : Int); omega⟩ (by show l.length - (i + 1) < l.length - i; omega)).to (.cons rfl (.cons rfl (.cons rfl (.cons rfl (.cons rfl .nil))))) (.cons .head (.cons (.tail (.tail (.tail .head))) .nil))
        · refine .skip ?_
          refine .inBlock ?_
          refine .seq ?_
          rw [if_neg (by simp [hT])] at hb
          have hlen' := hC'.len
          refine .region ?_   -- R23 more.go:31
          refine .rd (.move rfl) ?_
          refine .fn rfl rfl (.cons .head .nil) (fun _ _ _ => trivial) (Len_ok n ps' []) (fun v G1 hq => ?_)
          obtain ⟨rfl, rfl⟩ := hq
          simp only [List.cons_append, List.nil_append]
          refine .rd (.move rfl) ?_
          refine .rd (.move rfl) ?_
          refine .rd (.sub rfl rfl (by omega) (by omega)) ?_
          refine .rd (.neI rfl rfl) ?_
          refine .alter (t := 78) (v' := .bool false) rfl (by rw [decide_eq_true (by omega)]; rfl) ?_
          refine .rd (.move rfl) ?_
          refine .on (t := 79) rfl rfl ?_
          refine .rd (.move rfl) ?_
          refine .on (t := 79) rfl rfl ?_
          refine .fn rfl rfl (.cons .head .nil) (fun _ _ _ => trivial) (All_ok n ps' [] hC'.len hC'.ok) (fun v G1 hq => ?_)
          obtain ⟨aa, ac, al, hal, rfl, rfl⟩ := hq
          simp only [List.cons_append, List.nil_append]
          have hall : al.length = ps'.length := by have := congrArg List.length hal; simpa using this
          refine .on (t := 79) rfl rfl ?_
          refine .rd (.lenL rfl rfl Try.underlying42 rfl) ?_
          refine .on (t := 79) rfl rfl ?_
          refine .rd (.move rfl) ?_
          refine .on (t := 79) rfl rfl ?_
          refine .fn rfl rfl (.cons .head .nil) (fun _ _ _ => trivial) (Len_ok n ps' []) (fun v G1 hq => ?_)
          obtain ⟨rfl, rfl⟩ := hq
          simp only [List.cons_append, List.nil_append]
          refine .on (t := 79) rfl rfl ?_
          refine .rd (.neI rfl rfl) ?_
          refine .alter (t := 85) (v' := .bool false) rfl (by rw [decide_eq_true (by omega)]; rfl) ?_
          refine .rd (.pickF rfl rfl) ?_
          refine .rd (.move rfl) ?_
          refine .on (t := 87) rfl rfl ?_
          refine .rd (.move rfl) ?_
          refine .on (t := 87) rfl rfl ?_
          refine .fn rfl rfl (.cons .head .nil) (fun _ _ _ => trivial) (Len_ok n ps' []) (fun v G1 hq => ?_)
          obtain ⟨rfl, rfl⟩ := hq
          simp only [List.cons_append, List.nil_append]
          refine .on (t := 87) rfl rfl ?_
          refine .rd (.gt rfl rfl) ?_
          refine .alter (t := 90) (v' := .bool false) rfl (by rw [decide_eq_false (by omega)]) ?_
          refine .rd (.pickF rfl rfl) ?_
          refine .nil ?_
          refine .condF rfl ?_
          refine .skip ?_
          refine .inBlock ?_
          refine .region ?_   -- R9 more.go:14
          refine .rd (.move rfl) ?_
          refine .rd (.add rfl rfl (by omega) (by omega)) ?_
          refine .rd (.assign rfl) ?_
          refine .nil ?_
          exact (ih (i + 1, ps', sent, gone) ⟨by show i + 1 ≤ _; omega, by show i + 1 ≤ 600; omega, hC', by show (ps'.length : Int) = (sent) - (gone); omega, by show 0 ≤ gone; omega, by show sent ≤ ((i + 1 : Nat) : Int); omega⟩ (by show l.length - (i + 1) < l.length - i; omega)).to (.cons rfl (.cons rfl (.cons rfl (.cons rfl (.cons rfl .nil))))) (.cons .head (.cons (.tail (.tail (.tail .head))) .nil))
      · refine .region ?_   -- R13 more.go:17
        refine .rd (.eqI rfl rfl) ?_
        refine .rd (.assign rfl) ?_
        refine .nil ?_
        refine .condP rfl (fun h13 => ?_) (fun h13 => ?_)
        · refine .seq ?_
          refine .region ?_   -- R14 more.go:18
          refine .rd (.move rfl) ?_
          refine .rd (.move rfl) ?_
          refine .fn rfl rfl .nil (fun _ _ _ => trivial) (to_ok' 1 2 i) (fun v G1 hq => ?_)
          obtain ⟨rfl, rfl⟩ := hq
          simp only [List.nil_append]
          refine .fn rfl rfl (.cons (.tail .head) .nil) (fun _ _ _ => mat_toM _ _ _ _) (Send_cnt (s := zs) hC (ok_toM 1 2 i)) (fun v G1 hq => ?_)
          obtain ⟨ps', b, hC', hb, rfl, rfl⟩ := hq
          simp only [List.cons_append, List.nil_append]
          refine .nil ?_
          refine .cond rfl (fun hT => ?_) (fun hT => ?_)
          · refine .region ?_   -- R15 more.go:19
            refine .rd (.move rfl) ?_
            refine .rd (.add rfl rfl (by omega) (by omega)) ?_
            refine .rd (.assign rfl) ?_
            refine .nil ?_
            refine .inBlock ?_
            refine .seq ?_
            rw [if_pos hT] at hb
            have hlen' := hC'.len
            refine .region ?_   -- R23 more.go:31
            refine .rd (.move rfl) ?_
            refine .fn rfl rfl (.cons .head .nil) (fun _ _ _ => trivial) (Len_ok n ps' []) (fun v G1 hq => ?_)
            obtain ⟨rfl, rfl⟩ := hq
            simp only [List.cons_append, List.nil_append]
            refine .rd (.move rfl) ?_
            refine .rd (.move rfl) ?_
            refine .rd (.sub rfl rfl (by omega) (by omega)) ?_
            refine .rd (.neI rfl rfl) ?_
            refine .alter (t := 78) (v' := .bool false) rfl (by rw [decide_eq_true (by omega)]; rfl) ?_
            refine .rd (.move rfl) ?_
            refine .on (t := 79) rfl rfl ?_
            refine .rd (.move rfl) ?_
            refine .on (t := 79) rfl rfl ?_
            refine .fn rfl rfl (.cons .head .nil) (fun _ _ _ => trivial) (All_ok n ps' [] hC'.len hC'.ok) (fun v G1 hq => ?_)
            obtain ⟨aa, ac, al, hal, rfl, rfl⟩ := hq
            simp only [List.cons_append, List.nil_append]
            have hall : al.length = ps'.length := by have := congrArg List.length hal; simpa using this
            refine .on (t := 79) rfl rfl ?_
            refine .rd (.lenL rfl rfl Try.underlying42 rfl) ?_
            refine .on (t := 79) rfl rfl ?_
            refine .rd (.move rfl) ?_
            refine .on (t := 79) rfl rfl ?_
            refine .fn rfl rfl (.cons .head .nil) (fun _ _ _ => trivial) (Len_ok n ps' []) (fun v G1 hq => ?_)
            obtain ⟨rfl, rfl⟩ := hq
            simp only [List.cons_append, List.nil_append]
            refine .on (t := 79) rfl rfl ?_
            refine .rd (.neI rfl rfl) ?_
            refine .alter (t := 85) (v' := .bool false) rfl (by rw [decide_eq_true (by omega)]; rfl) ?_
            refine .rd (.pickF rfl rfl) ?_
            refine .rd (.move rfl) ?_
            refine .on (t := 87) rfl rfl ?_
            refine .rd (.move rfl) ?_
            refine .on (t := 87) rfl rfl ?_
            refine .fn rfl rfl (.cons .head .nil) (fun _ _ _ => trivial) (Len_ok n ps' []) (fun v G1 hq => ?_)
            obtain ⟨rfl, rfl⟩ := hq
            simp only [List.cons_append, List.nil_append]
            refine .on (t := 87) rfl rfl ?_
            refine .rd (.gt rfl rfl) ?_
            refine .alter (t := 90) (v' := .bool false) rfl (by rw [decide_eq_false (by omega)]) ?_
            refine .rd (.pickF rfl rfl) ?_
            refine .nil ?_
            refine .condF rfl ?_
            refine .skip ?_
            refine .inBlock ?_
            refine .region ?_   -- R9 more.go:14
            refine .rd (.move rfl) ?_
            refine .rd (.add rfl rfl (by omega) (by omega)) ?_
            refine .rd (.assign rfl) ?_
            refine .nil ?_
            exact (ih (i + 1, ps', sent + 1, gone) ⟨by show i + 1 ≤ _; omega, by show i + 1 ≤ 600; omega, hC', by show (ps'.length : Int) = (sent + 1) - (gone); omega, by show 0 ≤ gone; omega, by show sent + 1 ≤ ((i + 1 : Nat) : Int); omega⟩ (by show l.length - (i + 1) < l.length - i; omega)).to (.cons rfl (.cons rfl (.cons rfl (.cons rfl (.cons rfl .nil))))) (.cons .head (.cons (.tail (.tail (.tail .head))) .nil))
          · refine .skip ?_
            refine .inBlock ?_
            refine .seq ?_
            rw [if_neg (by simp [hT])] at hb
            have hlen' := hC'.len
            refine .region ?_   -- R23 more.go:31
            refine .rd (.move rfl) ?_
            refine .fn rfl rfl (.cons .head .nil) (fun _ _ _ => trivial) (Len_ok n ps' []) (fun v G1 hq => ?_)
            obtain ⟨rfl, rfl⟩ := hq
            simp only [List.cons_append, List.nil_append]
            refine .rd (.move rfl) ?_
            refine .rd (.move rfl) ?_
            refine .rd (.sub rfl rfl (by omega) (by omega)) ?_
            refine .rd (.neI rfl rfl) ?_
            refine .alter (t := 78) (v' := .bool false) rfl (by rw [decide_eq_true (by omega)]; rfl) ?_
            refine .rd (.move rfl) ?_
            refine .on (t := 79) rfl rfl ?_
            refine .rd (.move rfl) ?_
            refine .on (t := 79) rfl rfl ?_
            refine .fn rfl rfl (.cons .head .nil) (fun _ _ _ => trivial) (All_ok n ps' [] hC'.len hC'.ok) (fun v G1 hq => ?_)
            obtain ⟨aa, ac, al, hal, rfl, rfl⟩ := hq
            simp only [List.cons_append, List.nil_append]
            have hall : al.length = ps'.length := by have := congrArg List.length hal; simpa using this
            refine .on (t := 79) rfl rfl ?_
            refine .rd (.lenL rfl rfl Try.underlying42 rfl) ?_
            refine .on (t := 79) rfl rfl ?_
            refine .rd (.move rfl) ?_
            refine .on (t := 79) rfl rfl ?_
            refine .fn rfl rfl (.cons .head .nil) (fun _ _ _ => trivial) (Len_ok n ps' []) (fun v G1 hq => ?_)
            obtain ⟨rfl, rfl⟩ := hq
            simp only [List.cons_append, List.nil_append]
            refine .on (t := 79) rfl rfl ?_
            refine .rd (.neI rfl rfl) ?_
            refine .alter (t := 85) (v' := .bool false) rfl (by rw [decide_eq_true (by omega)]; rfl) ?_
            refine .rd (.pickF rfl rfl) ?_
            refine .rd (.move rfl) ?_
            refine .on (t := 87) rfl rfl ?_
            refine .rd (.move rfl) ?_
            refine .on (t := 87) rfl rfl ?_
            refine .fn rfl rfl (.cons .head .nil) (fun _ _ _ => trivial) (Len_ok n ps' []) (fun v G1 hq => ?_)
            obtain ⟨rfl, rfl⟩ := hq
            simp only [List.cons_append, List.nil_append]
            refine .on (t := 87) rfl rfl ?_
            refine .rd (.gt rfl rfl) ?_
            refine .alter (t := 90) (v' := .bool false) rfl (by rw [decide_eq_false (by omega)]) ?_
            refine .rd (.pickF rfl rfl) ?_
            refine .nil ?_
            refine .condF rfl ?_
            refine .skip ?_
            refine .inBlock ?_
            refine .region ?_   -- R9 more.go:14
            refine .rd (.move rfl) ?_
            refine .rd (.add rfl rfl (by omega) (by omega)) ?_
            refine .rd (.assign rfl) ?_
            refine .nil ?_
            exact (ih (i + 1, ps', sent, gone) ⟨by show i + 1 ≤ _; omega, by show i + 1 ≤ 600; omega, hC', by show (ps'.length : Int) = (sent) - (gone); omega, by show 0 ≤ gone; omega, by show sent ≤ ((i + 1 : Nat) : Int); omega⟩ (by show l.length - (i + 1) < l.length - i; omega)).to (.cons rfl (.cons rfl (.cons rfl (.cons rfl (.cons rfl .nil))))) (.cons .head (.cons (.tail (.tail (.tail .head))) .nil))
        · refine .seq ?_
          refine .region ?_   -- R16 more.go:21
          refine .rd (.eqI rfl rfl) ?_
          refine .rd (.assign rfl) ?_
          refine .nil ?_
          refine .condP rfl (fun h16 => ?_) (fun h16 => ?_)
          · refine .seq ?_
            refine .draws [2] [blk b8 (opc x) 47] (by kernel_rfl) ?_   -- R17 more.go:22
            refine .rp 0 rfl (by kernel_rfl) (by kernel_rfl) (by kernel_rfl) (Reads.pure (.move rfl)) ?_
            refine .rp 1 rfl (by kernel_rfl) (by kernel_rfl) (by kernel_rfl) (Reads.pure (.fieldAddr fd47_1 rfl)) ?_
            refine .rd 2 rfl rfl (by kernel_rfl) (by kernel_rfl) (by kernel_rfl) (.ld na3 rfl .head rfl) (.cons .head .nil) ?_
            refine .rp 3 rfl (by kernel_rfl) (by kernel_rfl) (by kernel_rfl) (Reads.pure (.move rfl)) ?_
            refine .ef 4 (by kernel_rfl) rfl (.fn rfl rfl (.cons (.tail .head) .nil) (fun _ _ _ => trivial) (Len_ok n ps [])) ?_
            rintro v _ ⟨G1, hq, rfl⟩
            obtain ⟨rfl, rfl⟩ := hq
            simp only [List.cons_append, List.nil_append]
            refine ⟨.inr ⟨_, (.cons (.tail .head) .nil)⟩, ?_⟩
            refine .rp 5 rfl (by kernel_rfl) (by kernel_rfl) (by kernel_rfl) (Reads.pure (.add rfl rfl (by omega) (by omega))) ?_
            refine .ef 6 (by kernel_rfl) rfl (.fn rfl rfl .nil (fun _ _ _ => trivial) (pick_ok x.a ((ps.length : Int) + 1) ha1 ha2 (by omega))) ?_
            rintro v _ ⟨G1, hq, rfl⟩
            obtain ⟨rfl, rfl⟩ := hq
            simp only [List.nil_append]
            refine ⟨.inl (by kernel_rfl), ?_⟩
            refine .ef 7 (by kernel_rfl) rfl (.fn rfl rfl (.cons .head .nil) (fun _ _ _ => trivial) (Twice_cnt hC)) ?_
            rintro v _ ⟨G1, hq, rfl⟩
            obtain ⟨ps', b, hC', hb, rfl, rfl⟩ := hq
            simp only [List.cons_append, List.nil_append]
            refine ⟨.inl (by kernel_rfl), ?_⟩
            refine .done (by kernel_rfl) ?_
            refine .cond rfl (fun hT => ?_) (fun hT => ?_)
            · refine .region ?_   -- R18 more.go:23
              refine .rd (.move rfl) ?_
              refine .rd (.add rfl rfl (by omega) (by omega)) ?_
              refine .rd (.assign rfl) ?_
              refine .nil ?_
              refine .inBlock ?_
              refine .seq ?_
              rw [if_pos hT] at hb
              have hlen' := hC'.len
              refine .region ?_   -- R23 more.go:31
              refine .rd (.move rfl) ?_
              refine .fn rfl rfl (.cons .head .nil) (fun _ _ _ => trivial) (Len_ok n ps' []) (fun v G1 hq => ?_)
              obtain ⟨rfl, rfl⟩ := hq
              simp only [List.cons_append, List.nil_append]
              refine .rd (.move rfl) ?_
              refine .rd (.move rfl) ?_
              refine .rd (.sub rfl rfl (by omega) (by omega)) ?_
              refine .rd (.neI rfl rfl) ?_
              refine .alter (t := 78) (v' := .bool false) rfl (by rw [decide_eq_true (by omega)]; rfl) ?_
              refine .rd (.move rfl) ?_
              refine .on (t := 79) rfl rfl ?_
              refine .rd (.move rfl) ?_
              refine .on (t := 79) rfl rfl ?_
              refine .fn rfl rfl (.cons .head .nil) (fun _ _ _ => trivial) (All_ok n ps' [] hC'.len hC'.ok) (fun v G1 hq => ?_)
              obtain ⟨aa, ac, al, hal, rfl, rfl⟩ := hq
              simp only [List.cons_append, List.nil_append]
              have hall : al.length = ps'.length := by have := congrArg List.length hal; simpa using this
              refine .on (t := 79) rfl rfl ?_
              refine .rd (.lenL rfl rfl Try.underlying42 rfl) ?_
              refine .on (t := 79) rfl rfl ?_
              refine .rd (.move rfl) ?_
              refine .on (t := 79) rfl rfl ?_
              refine .fn rfl rfl (.cons .head .nil) (fun _ _ _ => trivial) (Len_ok n ps' []) (fun v G1 hq => ?_)
              obtain ⟨rfl, rfl⟩ := hq
              simp only [List.cons_append, List.nil_append]
              refine .on (t := 79) rfl rfl ?_
              refine .rd (.neI rfl rfl) ?_
              refine .alter (t := 85) (v' := .bool false) rfl (by rw [decide_eq_true (by omega)]; rfl) ?_
              refine .rd (.pickF rfl rfl) ?_
              refine .rd (.move rfl) ?_
              refine .on (t := 87) rfl rfl ?_
              refine .rd (.move rfl) ?_
              refine .on (t := 87) rfl rfl ?_
              refine .fn rfl rfl (.cons .head .nil) (fun _ _ _ => trivial) (Len_ok n ps' []) (fun v G1 hq => ?_)
              obtain ⟨rfl, rfl⟩ := hq
              simp only [List.cons_append, List.nil_append]
              refine .on (t := 87) rfl rfl ?_
              refine .rd (.gt rfl rfl) ?_
              refine .alter (t := 90) (v' := .bool false) rfl (by rw [decide_eq_false (by omega)]) ?_
              refine .rd (.pickF rfl rfl) ?_
              refine .nil ?_
              refine .condF rfl ?_
              refine .skip ?_
              refine .inBlock ?_
              refine .region ?_   -- R9 more.go:14
              refine .rd (.move rfl) ?_
              refine .rd (.add rfl rfl (by omega) (by omega)) ?_
              refine .rd (.assign rfl) ?_
              refine .nil ?_
              exact (ih (i + 1, ps', sent + 1, gone) ⟨by show i + 1 ≤ _; omega, by show i + 1 ≤ 600; omega, hC', by show (ps'.length : Int) = (sent + 1) - (gone); omega, by show 0 ≤ gone; omega, by show sent + 1 ≤ ((i + 1 : Nat) : Int); omega⟩ (by show l.length - (i + 1) < l.length - i; omega)).to (.cons rfl (.cons rfl (.cons rfl (.cons rfl (.cons rfl .nil))))) (.cons .head (.cons (.tail (.tail (.tail .head))) .nil))
            · refine .skip ?_
              refine .inBlock ?_
              refine .seq ?_
              rw [if_neg (by simp [hT])] at hb
              have hlen' := hC'.len
              refine .region ?_   -- R23 more.go:31
              refine .rd (.move rfl) ?_
              refine .fn rfl rfl (.cons .head .nil) (fun _ _ _ => trivial) (Len_ok n ps' []) (fun v G1 hq => ?_)
              obtain ⟨rfl, rfl⟩ := hq
              simp only [List.cons_append, List.nil_append]
              refine .rd (.move rfl) ?_
              refine .rd (.move rfl) ?_
              refine .rd (.sub rfl rfl (by omega) (by omega)) ?_
              refine .rd (.neI rfl rfl) ?_
              refine .alter (t := 78) (v' := .bool false) rfl (by rw [decide_eq_true (by omega)]; rfl) ?_
              refine .rd (.move rfl) ?_
              refine .on (t := 79) rfl rfl ?_
              refine .rd (.move rfl) ?_
              refine .on (t := 79) rfl rfl ?_
              refine .fn rfl rfl (.cons .head .nil) (fun _ _ _ => trivial) (All_ok n ps' [] hC'.len hC'.ok) (fun v G1 hq => ?_)
              obtain ⟨aa, ac, al, hal, rfl, rfl⟩ := hq
              simp only [List.cons_append, List.nil_append]
              have hall : al.length = ps'.length := by have := congrArg List.length hal; simpa using this
              refine .on (t := 79) rfl rfl ?_
              refine .rd (.lenL rfl rfl Try.underlying42 rfl) ?_
              refine .on (t := 79) rfl rfl ?_
              refine .rd (.move rfl) ?_
              refine .on (t := 79) rfl rfl ?_
              refine .fn rfl rfl (.cons .head .nil) (fun _ _ _ => trivial) (Len_ok n ps' []) (fun v G1 hq => ?_)
              obtain ⟨rfl, rfl⟩ := hq
              simp only [List.cons_append, List.nil_append]
              refine .on (t := 79) rfl rfl ?_
              refine .rd (.neI rfl rfl) ?_
              refine .alter (t := 85) (v' := .bool false) rfl (by rw [decide_eq_true (by omega)]; rfl) ?_
              refine .rd (.pickF rfl rfl) ?_
              refine .rd (.move rfl) ?_
              refine .on (t := 87) rfl rfl ?_
              refine .rd (.move rfl) ?_
              refine .on (t := 87) rfl rfl ?_
              refine .fn rfl rfl (.cons .head .nil) (fun _ _ _ => trivial) (Len_ok n ps' []) (fun v G1 hq => ?_)
              obtain ⟨rfl, rfl⟩ := hq
              simp only [List.cons_append, List.nil_append]
              refine .on (t := 87) rfl rfl ?_
              refine .rd (.gt rfl rfl) ?_
              refine .alter (t := 90) (v' := .bool false) rfl (by rw [decide_eq_false (by omega)]) ?_
              refine .rd (.pickF rfl rfl) ?_
              refine .nil ?_
              refine .condF rfl ?_
              refine .skip ?_
              refine .inBlock ?_
              refine .region ?_   -- R9 more.go:14
              refine .rd (.move rfl) ?_
              refine .rd (.add rfl rfl (by omega) (by omega)) ?_
              refine .rd (.assign rfl) ?_
              refine .nil ?_
              exact (ih (i + 1, ps', sent, gone) ⟨by show i + 1 ≤ _; omega, by show i + 1 ≤ 600; omega, hC', by show (ps'.length : Int) = (sent) - (gone); omega, by show 0 ≤ gone; omega, by show sent ≤ ((i + 1 : Nat) : Int); omega⟩ (by show l.length - (i + 1) < l.length - i; omega)).to (.cons rfl (.cons rfl (.cons rfl (.cons rfl (.cons rfl .nil))))) (.cons .head (.cons (.tail (.tail (.tail .head))) .nil))
          · refine .seq ?_
            refine .region ?_   -- R19 more.go:25
            refine .rd (.eqI rfl rfl) ?_
            refine .rd (.assign rfl) ?_
            refine .nil ?_
            refine .condP rfl (fun h19 => ?_) (fun h19 => ?_)
            · refine .seq ?_
              refine .draws [2] [blk b8 (opc x) 47] (by kernel_rfl) ?_   -- R20 more.go:26
              refine .rp 0 rfl (by kernel_rfl) (by kernel_rfl) (by kernel_rfl) (Reads.pure (.move rfl)) ?_
              refine .rp 1 rfl (by kernel_rfl) (by kernel_rfl) (by kernel_rfl) (Reads.pure (.fieldAddr fd47_1 rfl)) ?_
              refine .rd 2 rfl rfl (by kernel_rfl) (by kernel_rfl) (by kernel_rfl) (.ld na3 rfl .head rfl) (.cons .head .nil) ?_
              refine .rp 3 rfl (by kernel_rfl) (by kernel_rfl) (by kernel_rfl) (Reads.pure (.move rfl)) ?_
              refine .all (rs := [4, 11]) (by kernel_rfl) (by simp) (fun i hi => ?_)
              simp only [List.mem_cons, List.not_mem_nil, or_false] at hi
              rcases hi with rfl | rfl
              · refine .ef rfl (.fn rfl rfl (.cons (.tail .head) .nil) (fun _ _ _ => trivial) (Len_ok n ps [])) ?_
                rintro v _ ⟨G1, hq, rfl⟩
                obtain ⟨rfl, rfl⟩ := hq
                simp only [List.cons_append, List.nil_append]
                refine ⟨.inr ⟨_, (.cons (.tail .head) .nil)⟩, ?_⟩
                refine .rp 5 rfl (by kernel_rfl) (by kernel_rfl) (by kernel_rfl) (Reads.pure (.add rfl rfl (by omega) (by omega))) ?_
                refine .all (rs := [6, 11]) (by kernel_rfl) (by simp) (fun i hi => ?_)
                simp only [List.mem_cons, List.not_mem_nil, or_false] at hi
                rcases hi with rfl | rfl
                · refine .ef rfl (.fn rfl rfl .nil (fun _ _ _ => trivial) (pick_ok x.a ((ps.length : Int) + 1) ha1 ha2 (by omega))) ?_
                  rintro v _ ⟨G1, hq, rfl⟩
                  obtain ⟨rfl, rfl⟩ := hq
                  simp only [List.nil_append]
                  refine ⟨.inl (by kernel_rfl), ?_⟩
                  refine .all (rs := [7, 11]) (by kernel_rfl) (by simp) (fun i hi => ?_)
                  simp only [List.mem_cons, List.not_mem_nil, or_false] at hi
                  rcases hi with rfl | rfl
                  · refine .ef rfl (.fn rfl rfl (.cons .head .nil) (fun _ _ _ => trivial) (Take_cnt hC)) ?_
                    rintro v _ ⟨G1, hq, rfl⟩
                    obtain ⟨ps', p, b, hC', hb, rfl, rfl⟩ := hq
                    simp only [List.cons_append, List.nil_append]
                    refine ⟨.inl (by kernel_rfl), ?_⟩
                    refine .rp 8 rfl (by kernel_rfl) (by kernel_rfl) (by kernel_rfl) (Reads.pure (.move rfl)) ?_
                    refine .rp 9 rfl (by kernel_rfl) (by kernel_rfl) (by kernel_rfl) (Reads.pure (.extract rfl rfl)) ?_
                    refine .rp 10 rfl (by kernel_rfl) (by kernel_rfl) (by kernel_rfl) (Reads.pure (.extract rfl rfl)) ?_
                    refine .ef 11 (by kernel_rfl) rfl (.alloc ti32 rfl (ones.of rfl)) ?_
                    rintro _ _ ⟨b9, rfl, rfl⟩
                    refine ⟨.inr ⟨_, (.cons (.tail (.tail (.tail .head))) .nil)⟩, ?_⟩
                    refine .ef0 12 (by kernel_rfl) rfl (.storeAll (vs := mval p.1 p.2) ts32 rfl rfl rfl .head rfl (ones.of rfl)) ?_
                    rintro _ _ rfl
                    refine ⟨.inl (by kernel_rfl), ?_⟩
                    refine .rp 13 rfl (by kernel_rfl) (by kernel_rfl) (by kernel_rfl) (Reads.pure (.assign rfl)) ?_
                    refine .done (by kernel_rfl) ?_
                    refine .seq ?_
                    refine .region ?_   -- R21 more.go:27
                    refine .rd (.move rfl) ?_
                    refine .nil ?_
                    refine .cond rfl (fun hT => ?_) (fun hT => ?_)
                    · refine .region ?_   -- R22 more.go:28
                      refine .rd (.move rfl) ?_
                      refine .rd (.add rfl rfl (by omega) (by omega)) ?_
                      refine .rd (.assign rfl) ?_
                      refine .nil ?_
                      refine .inBlock ?_
                      refine .seq ?_
                      rw [if_pos hT] at hb
                      have hlen' := hC'.len
                      refine .region ?_   -- R23 more.go:31
                      refine .rd (.move rfl) ?_
                      refine .fn rfl rfl (.cons (.tail .head) .nil) (fun _ _ _ => trivial) (Len_ok n ps' []) (fun v G1 hq => ?_)
                      obtain ⟨rfl, rfl⟩ := hq
                      simp only [List.cons_append, List.nil_append]
                      refine .rd (.move rfl) ?_
                      refine .rd (.move rfl) ?_
                      refine .rd (.sub rfl rfl (by omega) (by omega)) ?_
                      refine .rd (.neI rfl rfl) ?_
                      refine .alter (t := 78) (v' := .bool false) rfl (by rw [decide_eq_true (by omega)]; rfl) ?_
                      refine .rd (.move rfl) ?_
                      refine .on (t := 79) rfl rfl ?_
                      refine .rd (.move rfl) ?_
                      refine .on (t := 79) rfl rfl ?_
                      refine .fn rfl rfl (.cons .head .nil) (fun _ _ _ => trivial) (All_ok n ps' [] hC'.len hC'.ok) (fun v G1 hq => ?_)
                      obtain ⟨aa, ac, al, hal, rfl, rfl⟩ := hq
                      simp only [List.cons_append, List.nil_append]
                      have hall : al.length = ps'.length := by have := congrArg List.length hal; simpa using this
                      refine .on (t := 79) rfl rfl ?_
                      refine .rd (.lenL rfl rfl Try.underlying42 rfl) ?_
                      refine .on (t := 79) rfl rfl ?_
                      refine .rd (.move rfl) ?_
                      refine .on (t := 79) rfl rfl ?_
                      refine .fn rfl rfl (.cons .head .nil) (fun _ _ _ => trivial) (Len_ok n ps' []) (fun v G1 hq => ?_)
                      obtain ⟨rfl, rfl⟩ := hq
                      simp only [List.cons_append, List.nil_append]
                      refine .on (t := 79) rfl rfl ?_
                      refine .rd (.neI rfl rfl) ?_
                      refine .alter (t := 85) (v' := .bool false) rfl (by rw [decide_eq_true (by omega)]; rfl) ?_
                      refine .rd (.pickF rfl rfl) ?_
                      refine .rd (.move rfl) ?_
                      refine .on (t := 87) rfl rfl ?_
                      refine .rd (.move rfl) ?_
                      refine .on (t := 87) rfl rfl ?_
                      refine .fn rfl rfl (.cons .head .nil) (fun _ _ _ => trivial) (Len_ok n ps' []) (fun v G1 hq => ?_)
                      obtain ⟨rfl, rfl⟩ := hq
                      simp only [List.cons_append, List.nil_append]
                      refine .on (t := 87) rfl rfl ?_
                      refine .rd (.gt rfl rfl) ?_
                      refine .alter (t := 90) (v' := .bool false) rfl (by rw [decide_eq_false (by omega)]) ?_
                      refine .rd (.pickF rfl rfl) ?_
                      refine .nil ?_
                      refine .condF rfl ?_
                      refine .skip ?_
                      refine .inBlock ?_
                      refine .region ?_   -- R9 more.go:14
                      refine .rd (.move rfl) ?_
                      refine .rd (.add rfl rfl (by omega) (by omega)) ?_
                      refine .rd (.assign rfl) ?_
                      refine .nil ?_
                      exact (ih (i + 1, ps', sent, gone + 1) ⟨by show i + 1 ≤ _; omega, by show i + 1 ≤ 600; omega, hC', by show (ps'.length : Int) = (sent) - (gone + 1); omega, by show 0 ≤ gone + 1; omega, by show sent ≤ ((i + 1 : Nat) : Int); omega⟩ (by show l.length - (i + 1) < l.length - i; omega)).to (.cons rfl (.cons rfl (.cons rfl (.cons rfl (.cons rfl .nil))))) (.cons .head (.cons (.tail (.tail (.tail (.tail (.tail .head))))) .nil))
                    · refine .skip ?_
                      refine .inBlock ?_
                      refine .seq ?_
                      rw [if_neg (by simp [hT])] at hb
                      have hlen' := hC'.len
                      refine .region ?_   -- R23 more.go:31
                      refine .rd (.move rfl) ?_
                      refine .fn rfl rfl (.cons (.tail .head) .nil) (fun _ _ _ => trivial) (Len_ok n ps' []) (fun v G1 hq => ?_)
                      obtain ⟨rfl, rfl⟩ := hq
                      simp only [List.cons_append, List.nil_append]
                      refine .rd (.move rfl) ?_
                      refine .rd (.move rfl) ?_
                      refine .rd (.sub rfl rfl (by omega) (by omega)) ?_
                      refine .rd (.neI rfl rfl) ?_
                      refine .alter (t := 78) (v' := .bool false) rfl (by rw [decide_eq_true (by omega)]; rfl) ?_
                      refine .rd (.move rfl) ?_
                      refine .on (t := 79) rfl rfl ?_
                      refine .rd (.move rfl) ?_
                      refine .on (t := 79) rfl rfl ?_
                      refine .fn rfl rfl (.cons .head .nil) (fun _ _ _ => trivial) (All_ok n ps' [] hC'.len hC'.ok) (fun v G1 hq => ?_)
                      obtain ⟨aa, ac, al, hal, rfl, rfl⟩ := hq
                      simp only [List.cons_append, List.nil_append]
                      have hall : al.length = ps'.length := by have := congrArg List.length hal; simpa using this
                      refine .on (t := 79) rfl rfl ?_
                      refine .rd (.lenL rfl rfl Try.underlying42 rfl) ?_
                      refine .on (t := 79) rfl rfl ?_
                      refine .rd (.move rfl) ?_
                      refine .on (t := 79) rfl rfl ?_
                      refine .fn rfl rfl (.cons .head .nil) (fun _ _ _ => trivial) (Len_ok n ps' []) (fun v G1 hq => ?_)
                      obtain ⟨rfl, rfl⟩ := hq
                      simp only [List.cons_append, List.nil_append]
                      refine .on (t := 79) rfl rfl ?_
                      refine .rd (.neI rfl rfl) ?_
                      refine .alter (t := 85) (v' := .bool false) rfl (by rw [decide_eq_true (by omega)]; rfl) ?_
                      refine .rd (.pickF rfl rfl) ?_
                      refine .rd (.move rfl) ?_
                      refine .on (t := 87) rfl rfl ?_
                      refine .rd (.move rfl) ?_
                      refine .on (t := 87) rfl rfl ?_
                      refine .fn rfl rfl (.cons .head .nil) (fun _ _ _ => trivial) (Len_ok n ps' []) (fun v G1 hq => ?_)
                      obtain ⟨rfl, rfl⟩ := hq
                      simp only [List.cons_append, List.nil_append]
                      refine .on (t := 87) rfl rfl ?_
                      refine .rd (.gt rfl rfl) ?_
                      refine .alter (t := 90) (v' := .bool false) rfl (by rw [decide_eq_false (by omega)]) ?_
                      refine .rd (.pickF rfl rfl) ?_
                      refine .nil ?_
                      refine .condF rfl ?_
                      refine .skip ?_
                      refine .inBlock ?_
                      refine .region ?_   -- R9 more.go:14
                      refine .rd (.move rfl) ?_
                      refine .rd (.add rfl rfl (by omega) (by omega)) ?_
                      refine .rd (.assign rfl) ?_
                      refine .nil ?_
                      exact (ih (i + 1, ps', sent, gone) ⟨by show i + 1 ≤ _; omega, by show i + 1 ≤ 600; omega, hC', by show (ps'.length : Int) = (sent) - (gone); omega, by show 0 ≤ gone; omega, by show sent ≤ ((i + 1 : Nat) : Int); omega⟩ (by show l.length - (i + 1) < l.length - i; omega)).to (.cons rfl (.cons rfl (.cons rfl (.cons rfl (.cons rfl .nil))))) (.cons .head (.cons (.tail (.tail (.tail (.tail (.tail .head))))) .nil))
                  · refine .ef rfl (.alloc ti32 rfl (ones.of rfl)) ?_
                    rintro _ _ ⟨b9, rfl, rfl⟩
                    refine ⟨.inr ⟨_, (.cons (.tail (.tail .head)) .nil)⟩, ?_⟩
                    refine .ef 7 (by kernel_rfl) rfl (.fn rfl rfl (.cons (.tail .head) .nil) (fun _ _ _ => trivial) (Take_cnt hC)) ?_
                    rintro v _ ⟨G1, hq, rfl⟩
                    obtain ⟨ps', p, b, hC', hb, rfl, rfl⟩ := hq
                    simp only [List.cons_append, List.nil_append]
                    refine ⟨.inl (by kernel_rfl), ?_⟩
                    refine .rp 8 rfl (by kernel_rfl) (by kernel_rfl) (by kernel_rfl) (Reads.pure (.move rfl)) ?_
                    refine .rp 9 rfl (by kernel_rfl) (by kernel_rfl) (by kernel_rfl) (Reads.pure (.extract rfl rfl)) ?_
                    refine .rp 10 rfl (by kernel_rfl) (by kernel_rfl) (by kernel_rfl) (Reads.pure (.extract rfl rfl)) ?_
                    refine .ef0 12 (by kernel_rfl) rfl (.storeAll (vs := mval p.1 p.2) ts32 rfl rfl rfl (.tail (.tail .head)) rfl (ones.of rfl)) ?_
                    rintro _ _ rfl
                    refine ⟨.inl (by kernel_rfl), ?_⟩
                    refine .rp 13 rfl (by kernel_rfl) (by kernel_rfl) (by kernel_rfl) (Reads.pure (.assign rfl)) ?_
                    refine .done (by kernel_rfl) ?_
                    refine .seq ?_
                    refine .region ?_   -- R21 more.go:27
                    refine .rd (.move rfl) ?_
                    refine .nil ?_
                    refine .cond rfl (fun hT => ?_) (fun hT => ?_)
                    · refine .region ?_   -- R22 more.go:28
                      refine .rd (.move rfl) ?_
                      refine .rd (.add rfl rfl (by omega) (by omega)) ?_
                      refine .rd (.assign rfl) ?_
                      refine .nil ?_
                      refine .inBlock ?_
                      refine .seq ?_
                      rw [if_pos hT] at hb
                      have hlen' := hC'.len
                      refine .region ?_   -- R23 more.go:31
                      refine .rd (.move rfl) ?_
                      refine .fn rfl rfl (.cons (.tail .head) .nil) (fun _ _ _ => trivial) (Len_ok n ps' []) (fun v G1 hq => ?_)
                      obtain ⟨rfl, rfl⟩ := hq
                      simp only [List.cons_append, List.nil_append]
                      refine .rd (.move rfl) ?_
                      refine .rd (.move rfl) ?_
                      refine .rd (.sub rfl rfl (by omega) (by omega)) ?_
                      refine .rd (.neI rfl rfl) ?_
                      refine .alter (t := 78) (v' := .bool false) rfl (by rw [decide_eq_true (by omega)]; rfl) ?_
                      refine .rd (.move rfl) ?_
                      refine .on (t := 79) rfl rfl ?_
                      refine .rd (.move rfl) ?_
                      refine .on (t := 79) rfl rfl ?_
                      refine .fn rfl rfl (.cons .head .nil) (fun _ _ _ => trivial) (All_ok n ps' [] hC'.len hC'.ok) (fun v G1 hq => ?_)
                      obtain ⟨aa, ac, al, hal, rfl, rfl⟩ := hq
                      simp only [List.cons_append, List.nil_append]
                      have hall : al.length = ps'.length := by have := congrArg List.length hal; simpa using this
                      refine .on (t := 79) rfl rfl ?_
                      refine .rd (.lenL rfl rfl Try.underlying42 rfl) ?_
                      refine .on (t := 79) rfl rfl ?_
                      refine .rd (.move rfl) ?_
                      refine .on (t := 79) rfl rfl ?_
                      refine .fn rfl rfl (.cons .head .nil) (fun _ _ _ => trivial) (Len_ok n ps' []) (fun v G1 hq => ?_)
                      obtain ⟨rfl, rfl⟩ := hq
                      simp only [List.cons_append, List.nil_append]
                      refine .on (t := 79) rfl rfl ?_
                      refine .rd (.neI rfl rfl) ?_
                      refine .alter (t := 85) (v' := .bool false) rfl (by rw [decide_eq_true (by omega)]; rfl) ?_
                      refine .rd (.pickF rfl rfl) ?_
                      refine .rd (.move rfl) ?_
                      refine .on (t := 87) rfl rfl ?_
                      refine .rd (.move rfl) ?_
                      refine .on (t := 87) rfl rfl ?_
                      refine .fn rfl rfl (.cons .head .nil) (fun _ _ _ => trivial) (Len_ok n ps' []) (fun v G1 hq => ?_)
                      obtain ⟨rfl, rfl⟩ := hq
                      simp only [List.cons_append, List.nil_append]
                      refine .on (t := 87) rfl rfl ?_
                      refine .rd (.gt rfl rfl) ?_
                      refine .alter (t := 90) (v' := .bool false) rfl (by rw [decide_eq_false (by omega)]) ?_
                      refine .rd (.pickF rfl rfl) ?_
                      refine .nil ?_
                      refine .condF rfl ?_
                      refine .skip ?_
                      refine .inBlock ?_
                      refine .region ?_   -- R9 more.go:14
                      refine .rd (.move rfl) ?_
                      refine .rd (.add rfl rfl (by omega) (by omega)) ?_
                      refine .rd (.assign rfl) ?_
                      refine .nil ?_
                      exact (ih (i + 1, ps', sent, gone + 1) ⟨by show i + 1 ≤ _; omega, by show i + 1 ≤ 600; omega, hC', by show (ps'.length : Int) = (sent) - (gone + 1); omega, by show 0 ≤ gone + 1; omega, by show sent ≤ ((i + 1 : Nat) : Int); omega⟩ (by show l.length - (i + 1) < l.length - i; omega)).to (.cons rfl (.cons rfl (.cons rfl (.cons rfl (.cons rfl .nil))))) (.cons .head (.cons (.tail (.tail (.tail (.tail (.tail .head))))) .nil))
                    · refine .skip ?_
                      refine .inBlock ?_
                      refine .seq ?_
                      rw [if_neg (by simp [hT])] at hb
                      have hlen' := hC'.len
                      refine .region ?_   -- R23 more.go:31
                      refine .rd (.move rfl) ?_
                      refine .fn rfl rfl (.cons (.tail .head) .nil) (fun _ _ _ => trivial) (Len_ok n ps' []) (fun v G1 hq => ?_)
                      obtain ⟨rfl, rfl⟩ := hq
                      simp only [List.cons_append, List.nil_append]
                      refine .rd (.move rfl) ?_
                      refine .rd (.move rfl) ?_
                      refine .rd (.sub rfl rfl (by omega) (by omega)) ?_
                      refine .rd (.neI rfl rfl) ?_
                      refine .alter (t := 78) (v' := .bool false) rfl (by rw [decide_eq_true (by omega)]; rfl) ?_
                      refine .rd (.move rfl) ?_
                      refine .on (t := 79) rfl rfl ?_
                      refine .rd (.move rfl) ?_
                      refine .on (t := 79) rfl rfl ?_
                      refine .fn rfl rfl (.cons .head .nil) (fun _ _ _ => trivial) (All_ok n ps' [] hC'.len hC'.ok) (fun v G1 hq => ?_)
                      obtain ⟨aa, ac, al, hal, rfl, rfl⟩ := hq
                      simp only [List.cons_append, List.nil_append]
                      have hall : al.length = ps'.length := by have := congrArg List.length hal; simpa using this
                      refine .on (t := 79) rfl rfl ?_
                      refine .rd (.lenL rfl rfl Try.underlying42 rfl) ?_
                      refine .on (t := 79) rfl rfl ?_
                      refine .rd (.move rfl) ?_
                      refine .on (t := 79) rfl rfl ?_
                      refine .fn rfl rfl (.cons .head .nil) (fun _ _ _ => trivial) (Len_ok n ps' []) (fun v G1 hq => ?_)
                      obtain ⟨rfl, rfl⟩ := hq
                      simp only [List.cons_append, List.nil_append]
                      refine .on (t := 79) rfl rfl ?_
                      refine .rd (.neI rfl rfl) ?_
                      refine .alter (t := 85) (v' := .bool false) rfl (by rw [decide_eq_true (by omega)]; rfl) ?_
                      refine .rd (.pickF rfl rfl) ?_
                      refine .rd (.move rfl) ?_
                      refine .on (t := 87) rfl rfl ?_
                      refine .rd (.move rfl) ?_
                      refine .on (t := 87) rfl rfl ?_
                      refine .fn rfl rfl (.cons .head .nil) (fun _ _ _ => trivial) (Len_ok n ps' []) (fun v G1 hq => ?_)
                      obtain ⟨rfl, rfl⟩ := hq
                      simp only [List.cons_append, List.nil_append]
                      refine .on (t := 87) rfl rfl ?_
                      refine .rd (.gt rfl rfl) ?_
                      refine .alter (t := 90) (v' := .bool false) rfl (by rw [decide_eq_false (by omega)]) ?_
                      refine .rd (.pickF rfl rfl) ?_
                      refine .nil ?_
                      refine .condF rfl ?_
                      refine .skip ?_
                      refine .inBlock ?_
                      refine .region ?_   -- R9 more.go:14
                      refine .rd (.move rfl) ?_
                      refine .rd (.add rfl rfl (by omega) (by omega)) ?_
                      refine .rd (.assign rfl) ?_
                      refine .nil ?_
                      exact (ih (i + 1, ps', sent, gone) ⟨by show i + 1 ≤ _; omega, by show i + 1 ≤ 600; omega, hC', by show (ps'.length : Int) = (sent) - (gone); omega, by show 0 ≤ gone; omega, by show sent ≤ ((i + 1 : Nat) : Int); omega⟩ (by show l.length - (i + 1) < l.length - i; omega)).to (.cons rfl (.cons rfl (.cons rfl (.cons rfl (.cons rfl .nil))))) (.cons .head (.cons (.tail (.tail (.tail (.tail (.tail .head))))) .nil))
                · refine .ef rfl (.alloc ti32 rfl (ones.of rfl)) ?_
                  rintro _ _ ⟨b9, rfl, rfl⟩
                  refine ⟨.inr ⟨_, (.cons (.tail (.tail .head)) .nil)⟩, ?_⟩
                  refine .ef 6 (by kernel_rfl) rfl (.fn rfl rfl .nil (fun _ _ _ => trivial) (pick_ok x.a ((ps.length : Int) + 1) ha1 ha2 (by omega))) ?_
                  rintro v _ ⟨G1, hq, rfl⟩
                  obtain ⟨rfl, rfl⟩ := hq
                  simp only [List.nil_append]
                  refine ⟨.inl (by kernel_rfl), ?_⟩
                  refine .ef 7 (by kernel_rfl) rfl (.fn rfl rfl (.cons (.tail .head) .nil) (fun _ _ _ => trivial) (Take_cnt hC)) ?_
                  rintro v _ ⟨G1, hq, rfl⟩
                  obtain ⟨ps', p, b, hC', hb, rfl, rfl⟩ := hq
                  simp only [List.cons_append, List.nil_append]
                  refine ⟨.inl (by kernel_rfl), ?_⟩
                  refine .rp 8 rfl (by kernel_rfl) (by kernel_rfl) (by kernel_rfl) (Reads.pure (.move rfl)) ?_
                  refine .rp 9 rfl (by kernel_rfl) (by kernel_rfl) (by kernel_rfl) (Reads.pure (.extract rfl rfl)) ?_
                  refine .rp 10 rfl (by kernel_rfl) (by kernel_rfl) (by kernel_rfl) (Reads.pure (.extract rfl rfl)) ?_
                  refine .ef0 12 (by kernel_rfl) rfl (.storeAll (vs := mval p.1 p.2) ts32 rfl rfl rfl (.tail (.tail .head)) rfl (ones.of rfl)) ?_
                  rintro _ _ rfl
                  refine ⟨.inl (by kernel_rfl), ?_⟩
                  refine .rp 13 rfl (by kernel_rfl) (by kernel_rfl) (by kernel_rfl) (Reads.pure (.assign rfl)) ?_
                  refine .done (by kernel_rfl) ?_
                  refine .seq ?_
                  refine .region ?_   -- R21 more.go:27
                  refine .rd (.move rfl) ?_
                  refine .nil ?_
                  refine .cond rfl (fun hT => ?_) (fun hT => ?_)
                  · refine .region ?_   -- R22 more.go:28
                    refine .rd (.move rfl) ?_
                    refine .rd (.add rfl rfl (by omega) (by omega)) ?_
                    refine .rd (.assign rfl) ?_
                    refine .nil ?_
                    refine .inBlock ?_
                    refine .seq ?_
                    rw [if_pos hT] at hb
                    have hlen' := hC'.len
                    refine .region ?_   -- R23 more.go:31
                    refine .rd (.move rfl) ?_
                    refine .fn rfl rfl (.cons (.tail .head) .nil) (fun _ _ _ => trivial) (Len_ok n ps' []) (fun v G1 hq => ?_)
                    obtain ⟨rfl, rfl⟩ := hq
                    simp only [List.cons_append, List.nil_append]
                    refine .rd (.move rfl) ?_
                    refine .rd (.move rfl) ?_
                    refine .rd (.sub rfl rfl (by omega) (by omega)) ?_
                    refine .rd (.neI rfl rfl) ?_
                    refine .alter (t := 78) (v' := .bool false) rfl (by rw [decide_eq_true (by omega)]; rfl) ?_
                    refine .rd (.move rfl) ?_
                    refine .on (t := 79) rfl rfl ?_
                    refine .rd (.move rfl) ?_
                    refine .on (t := 79) rfl rfl ?_
                    refine .fn rfl rfl (.cons .head .nil) (fun _ _ _ => trivial) (All_ok n ps' [] hC'.len hC'.ok) (fun v G1 hq => ?_)
                    obtain ⟨aa, ac, al, hal, rfl, rfl⟩ := hq
                    simp only [List.cons_append, List.nil_append]
                    have hall : al.length = ps'.length := by have := congrArg List.length hal; simpa using this
                    refine .on (t := 79) rfl rfl ?_
                    refine .rd (.lenL rfl rfl Try.underlying42 rfl) ?_
                    refine .on (t := 79) rfl rfl ?_
                    refine .rd (.move rfl) ?_
                    refine .on (t := 79) rfl rfl ?_
                    refine .fn rfl rfl (.cons .head .nil) (fun _ _ _ => trivial) (Len_ok n ps' []) (fun v G1 hq => ?_)
                    obtain ⟨rfl, rfl⟩ := hq
                    simp only [List.cons_append, List.nil_append]
                    refine .on (t := 79) rfl rfl ?_
                    refine .rd (.neI rfl rfl) ?_
                    refine .alter (t := 85) (v' := .bool false) rfl (by rw [decide_eq_true (by omega)]; rfl) ?_
                    refine .rd (.pickF rfl rfl) ?_
                    refine .rd (.move rfl) ?_
                    refine .on (t := 87) rfl rfl ?_
                    refine .rd (.move rfl) ?_
                    refine .on (t := 87) rfl rfl ?_
                    refine .fn rfl rfl (.cons .head .nil) (fun _ _ _ => trivial) (Len_ok n ps' []) (fun v G1 hq => ?_)
                    obtain ⟨rfl, rfl⟩ := hq
                    simp only [List.cons_append, List.nil_append]
                    refine .on (t := 87) rfl rfl ?_
                    refine .rd (.gt rfl rfl) ?_
                    refine .alter (t := 90) (v' := .bool false) rfl (by rw [decide_eq_false (by omega)]) ?_
                    refine .rd (.pickF rfl rfl) ?_
                    refine .nil ?_
                    refine .condF rfl ?_
                    refine .skip ?_
                    refine .inBlock ?_
                    refine .region ?_   -- R9 more.go:14
                    refine .rd (.move rfl) ?_
                    refine .rd (.add rfl rfl (by omega) (by omega)) ?_
                    refine .rd (.assign rfl) ?_
                    refine .nil ?_
                    exact (ih (i + 1, ps', sent, gone + 1) ⟨by show i + 1 ≤ _; omega, by show i + 1 ≤ 600; omega, hC', by show (ps'.length : Int) = (sent) - (gone + 1); omega, by show 0 ≤ gone + 1; omega, by show sent ≤ ((i + 1 : Nat) : Int); omega⟩ (by show l.length - (i + 1) < l.length - i; omega)).to (.cons rfl (.cons rfl (.cons rfl (.cons rfl (.cons rfl .nil))))) (.cons .head (.cons (.tail (.tail (.tail (.tail (.tail .head))))) .nil))
                  · refine .skip ?_
                    refine .inBlock ?_
                    refine .seq ?_
                    rw [if_neg (by simp [hT])] at hb
                    have hlen' := hC'.len
                    refine .region ?_   -- R23 more.go:31
                    refine .rd (.move rfl) ?_
                    refine .fn rfl rfl (.cons (.tail .head) .nil) (fun _ _ _ => trivial) (Len_ok n ps' []) (fun v G1 hq => ?_)
                    obtain ⟨rfl, rfl⟩ := hq
                    simp only [List.cons_append, List.nil_append]
                    refine .rd (.move rfl) ?_
                    refine .rd (.move rfl) ?_
                    refine .rd (.sub rfl rfl (by omega) (by omega)) ?_
                    refine .rd (.neI rfl rfl) ?_
                    refine .alter (t := 78) (v' := .bool false) rfl (by rw [decide_eq_true (by omega)]; rfl) ?_
                    refine .rd (.move rfl) ?_
                    refine .on (t := 79) rfl rfl ?_
                    refine .rd (.move rfl) ?_
                    refine .on (t := 79) rfl rfl ?_
                    refine .fn rfl rfl (.cons .head .nil) (fun _ _ _ => trivial) (All_ok n ps' [] hC'.len hC'.ok) (fun v G1 hq => ?_)
                    obtain ⟨aa, ac, al, hal, rfl, rfl⟩ := hq
                    simp only [List.cons_append, List.nil_append]
                    have hall : al.length = ps'.length := by have := congrArg List.length hal; simpa using this
                    refine .on (t := 79) rfl rfl ?_
                    refine .rd (.lenL rfl rfl Try.underlying42 rfl) ?_
                    refine .on (t := 79) rfl rfl ?_
                    refine .rd (.move rfl) ?_
                    refine .on (t := 79) rfl rfl ?_
                    refine .fn rfl rfl (.cons .head .nil) (fun _ _ _ => trivial) (Len_ok n ps' []) (fun v G1 hq => ?_)
                    obtain ⟨rfl, rfl⟩ := hq
                    simp only [List.cons_append, List.nil_append]
                    refine .on (t := 79) rfl rfl ?_
                    refine .rd (.neI rfl rfl) ?_
                    refine .alter (t := 85) (v' := .bool false) rfl (by rw [decide_eq_true (by omega)]; rfl) ?_
                    refine .rd (.pickF rfl rfl) ?_
                    refine .rd (.move rfl) ?_
                    refine .on (t := 87) rfl rfl ?_
                    refine .rd (.move rfl) ?_
                    refine .on (t := 87) rfl rfl ?_
                    refine .fn rfl rfl (.cons .head .nil) (fun _ _ _ => trivial) (Len_ok n ps' []) (fun v G1 hq => ?_)
                    obtain ⟨rfl, rfl⟩ := hq
                    simp only [List.cons_append, List.nil_append]
                    refine .on (t := 87) rfl rfl ?_
                    refine .rd (.gt rfl rfl) ?_
                    refine .alter (t := 90) (v' := .bool false) rfl (by rw [decide_eq_false (by omega)]) ?_
                    refine .rd (.pickF rfl rfl) ?_
                    refine .nil ?_
                    refine .condF rfl ?_
                    refine .skip ?_
                    refine .inBlock ?_
                    refine .region ?_   -- R9 more.go:14
                    refine .rd (.move rfl) ?_
                    refine .rd (.add rfl rfl (by omega) (by omega)) ?_
                    refine .rd (.assign rfl) ?_
                    refine .nil ?_
                    exact (ih (i + 1, ps', sent, gone) ⟨by show i + 1 ≤ _; omega, by show i + 1 ≤ 600; omega, hC', by show (ps'.length : Int) = (sent) - (gone); omega, by show 0 ≤ gone; omega, by show sent ≤ ((i + 1 : Nat) : Int); omega⟩ (by show l.length - (i + 1) < l.length - i; omega)).to (.cons rfl (.cons rfl (.cons rfl (.cons rfl (.cons rfl .nil))))) (.cons .head (.cons (.tail (.tail (.tail (.tail (.tail .head))))) .nil))
              · refine .ef rfl (.alloc ti32 rfl (ones.of rfl)) ?_
                rintro _ _ ⟨b9, rfl, rfl⟩
                refine ⟨.inr ⟨_, (.cons (.tail .head) .nil)⟩, ?_⟩
                refine .ef 4 (by kernel_rfl) rfl (.fn rfl rfl (.cons (.tail (.tail .head)) .nil) (fun _ _ _ => trivial) (Len_ok n ps [])) ?_
                rintro v _ ⟨G1, hq, rfl⟩
                obtain ⟨rfl, rfl⟩ := hq
                simp only [List.cons_append, List.nil_append]
                refine ⟨.inr ⟨_, (.cons (.tail (.tail .head)) .nil)⟩, ?_⟩
                refine .rp 5 rfl (by kernel_rfl) (by kernel_rfl) (by kernel_rfl) (Reads.pure (.add rfl rfl (by omega) (by omega))) ?_
                refine .ef 6 (by kernel_rfl) rfl (.fn rfl rfl .nil (fun _ _ _ => trivial) (pick_ok x.a ((ps.length : Int) + 1) ha1 ha2 (by omega))) ?_
                rintro v _ ⟨G1, hq, rfl⟩
                obtain ⟨rfl, rfl⟩ := hq
                simp only [List.nil_append]
                refine ⟨.inl (by kernel_rfl), ?_⟩
                refine .ef 7 (by kernel_rfl) rfl (.fn rfl rfl (.cons .head .nil) (fun _ _ _ => trivial) (Take_cnt hC)) ?_
                rintro v _ ⟨G1, hq, rfl⟩
                obtain ⟨ps', p, b, hC', hb, rfl, rfl⟩ := hq
                simp only [List.cons_append, List.nil_append]
                refine ⟨.inl (by kernel_rfl), ?_⟩
                refine .rp 8 rfl (by kernel_rfl) (by kernel_rfl) (by kernel_rfl) (Reads.pure (.move rfl)) ?_
                refine .rp 9 rfl (by kernel_rfl) (by kernel_rfl) (by kernel_rfl) (Reads.pure (.extract rfl rfl)) ?_
                refine .rp 10 rfl (by kernel_rfl) (by kernel_rfl) (by kernel_rfl) (Reads.pure (.extract rfl rfl)) ?_
                refine .ef0 12 (by kernel_rfl) rfl (.storeAll (vs := mval p.1 p.2) ts32 rfl rfl rfl (.tail (.tail .head)) rfl (ones.of rfl)) ?_
                rintro _ _ rfl
                refine ⟨.inl (by kernel_rfl), ?_⟩
                refine .rp 13 rfl (by kernel_rfl) (by kernel_rfl) (by kernel_rfl) (Reads.pure (.assign rfl)) ?_
                refine .done (by kernel_rfl) ?_
                refine .seq ?_
                refine .region ?_   -- R21 more.go:27
                refine .rd (.move rfl) ?_
                refine .nil ?_
                refine .cond rfl (fun hT => ?_) (fun hT => ?_)
                · refine .region ?_   -- R22 more.go:28
                  refine .rd (.move rfl) ?_
                  refine .rd (.add rfl rfl (by omega) (by omega)) ?_
                  refine .rd (.assign rfl) ?_
                  refine .nil ?_
                  refine .inBlock ?_
                  refine .seq ?_
                  rw [if_pos hT] at hb
                  have hlen' := hC'.len
                  refine .region ?_   -- R23 more.go:31
                  refine .rd (.move rfl) ?_
                  refine .fn rfl rfl (.cons (.tail .head) .nil) (fun _ _ _ => trivial) (Len_ok n ps' []) (fun v G1 hq => ?_)
                  obtain ⟨rfl, rfl⟩ := hq
                  simp only [List.cons_append, List.nil_append]
                  refine .rd (.move rfl) ?_
                  refine .rd (.move rfl) ?_
                  refine .rd (.sub rfl rfl (by omega) (by omega)) ?_
                  refine .rd (.neI rfl rfl) ?_
                  refine .alter (t := 78) (v' := .bool false) rfl (by rw [decide_eq_true (by omega)]; rfl) ?_
                  refine .rd (.move rfl) ?_
                  refine .on (t := 79) rfl rfl ?_
                  refine .rd (.move rfl) ?_
                  refine .on (t := 79) rfl rfl ?_
                  refine .fn rfl rfl (.cons .head .nil) (fun _ _ _ => trivial) (All_ok n ps' [] hC'.len hC'.ok) (fun v G1 hq => ?_)
                  obtain ⟨aa, ac, al, hal, rfl, rfl⟩ := hq
                  simp only [List.cons_append, List.nil_append]
                  have hall : al.length = ps'.length := by have := congrArg List.length hal; simpa using this
                  refine .on (t := 79) rfl rfl ?_
                  refine .rd (.lenL rfl rfl Try.underlying42 rfl) ?_
                  refine .on (t := 79) rfl rfl ?_
                  refine .rd (.move rfl) ?_
                  refine .on (t := 79) rfl rfl ?_
                  refine .fn rfl rfl (.cons .head .nil) (fun _ _ _ => trivial) (Len_ok n ps' []) (fun v G1 hq => ?_)
                  obtain ⟨rfl, rfl⟩ := hq
                  simp only [List.cons_append, List.nil_append]
                  refine .on (t := 79) rfl rfl ?_
                  refine .rd (.neI rfl rfl) ?_
                  refine .alter (t := 85) (v' := .bool false) rfl (by rw [decide_eq_true (by omega)]; rfl) ?_
                  refine .rd (.pickF rfl rfl) ?_
                  refine .rd (.move rfl) ?_
                  refine .on (t := 87) rfl rfl ?_
                  refine .rd (.move rfl) ?_
                  refine .on (t := 87) rfl rfl ?_
                  refine .fn rfl rfl (.cons .head .nil) (fun _ _ _ => trivial) (Len_ok n ps' []) (fun v G1 hq => ?_)
                  obtain ⟨rfl, rfl⟩ := hq
                  simp only [List.cons_append, List.nil_append]
                  refine .on (t := 87) rfl rfl ?_
                  refine .rd (.gt rfl rfl) ?_
                  refine .alter (t := 90) (v' := .bool false) rfl (by rw [decide_eq_false (by omega)]) ?_
                  refine .rd (.pickF rfl rfl) ?_
                  refine .nil ?_
                  refine .condF rfl ?_
                  refine .skip ?_
                  refine .inBlock ?_
                  refine .region ?_   -- R9 more.go:14
                  refine .rd (.move rfl) ?_
                  refine .rd (.add rfl rfl (by omega) (by omega)) ?_
                  refine .rd (.assign rfl) ?_
                  refine .nil ?_
                  exact (ih (i + 1, ps', sent, gone + 1) ⟨by show i + 1 ≤ _; omega, by show i + 1 ≤ 600; omega, hC', by show (ps'.length : Int) = (sent) - (gone + 1); omega, by show 0 ≤ gone + 1; omega, by show sent ≤ ((i + 1 : Nat) : Int); omega⟩ (by show l.length - (i + 1) < l.length - i; omega)).to (.cons rfl (.cons rfl (.cons rfl (.cons rfl (.cons rfl .nil))))) (.cons .head (.cons (.tail (.tail (.tail (.tail (.tail .head))))) .nil))
                · refine .skip ?_
                  refine .inBlock ?_
                  refine .seq ?_
                  rw [if_neg (by simp [hT])] at hb
                  have hlen' := hC'.len
                  refine .region ?_   -- R23 more.go:31
                  refine .rd (.move rfl) ?_
                  refine .fn rfl rfl (.cons (.tail .head) .nil) (fun _ _ _ => trivial) (Len_ok n ps' []) (fun v G1 hq => ?_)
                  obtain ⟨rfl, rfl⟩ := hq
                  simp only [List.cons_append, List.nil_append]
                  refine .rd (.move rfl) ?_
                  refine .rd (.move rfl) ?_
                  refine .rd (.sub rfl rfl (by omega) (by omega)) ?_
                  refine .rd (.neI rfl rfl) ?_
                  refine .alter (t := 78) (v' := .bool false) rfl (by rw [decide_eq_true (by omega)]; rfl) ?_
                  refine .rd (.move rfl) ?_
                  refine .on (t := 79) rfl rfl ?_
                  refine .rd (.move rfl) ?_
                  refine .on (t := 79) rfl rfl ?_
                  refine .fn rfl rfl (.cons .head .nil) (fun _ _ _ => trivial) (All_ok n ps' [] hC'.len hC'.ok) (fun v G1 hq => ?_)
                  obtain ⟨aa, ac, al, hal, rfl, rfl⟩ := hq
                  simp only [List.cons_append, List.nil_append]
                  have hall : al.length = ps'.length := by have := congrArg List.length hal; simpa using this
                  refine .on (t := 79) rfl rfl ?_
                  refine .rd (.lenL rfl rfl Try.underlying42 rfl) ?_
                  refine .on (t := 79) rfl rfl ?_
                  refine .rd (.move rfl) ?_
                  refine .on (t := 79) rfl rfl ?_
                  refine .fn rfl rfl (.cons .head .nil) (fun _ _ _ => trivial) (Len_ok n ps' []) (fun v G1 hq => ?_)
                  obtain ⟨rfl, rfl⟩ := hq
                  simp only [List.cons_append, List.nil_append]
                  refine .on (t := 79) rfl rfl ?_
                  refine .rd (.neI rfl rfl) ?_
                  refine .alter (t := 85) (v' := .bool false) rfl (by rw [decide_eq_true (by omega)]; rfl) ?_
                  refine .rd (.pickF rfl rfl) ?_
                  refine .rd (.move rfl) ?_
                  refine .on (t := 87) rfl rfl ?_
                  refine .rd (.move rfl) ?_
                  refine .on (t := 87) rfl rfl ?_
                  refine .fn rfl rfl (.cons .head .nil) (fun _ _ _ => trivial) (Len_ok n ps' []) (fun v G1 hq => ?_)
                  obtain ⟨rfl, rfl⟩ := hq
                  simp only [List.cons_append, List.nil_append]
                  refine .on (t := 87) rfl rfl ?_
                  refine .rd (.gt rfl rfl) ?_
                  refine .alter (t := 90) (v' := .bool false) rfl (by rw [decide_eq_false (by omega)]) ?_
                  refine .rd (.pickF rfl rfl) ?_
                  refine .nil ?_
                  refine .condF rfl ?_
                  refine .skip ?_
                  refine .inBlock ?_
                  refine .region ?_   -- R9 more.go:14
                  refine .rd (.move rfl) ?_
                  refine .rd (.add rfl rfl (by omega) (by omega)) ?_
                  refine .rd (.assign rfl) ?_
                  refine .nil ?_
                  exact (ih (i + 1, ps', sent, gone) ⟨by show i + 1 ≤ _; omega, by show i + 1 ≤ 600; omega, hC', by show (ps'.length : Int) = (sent) - (gone); omega, by show 0 ≤ gone; omega, by show sent ≤ ((i + 1 : Nat) : Int); omega⟩ (by show l.length - (i + 1) < l.length - i; omega)).to (.cons rfl (.cons rfl (.cons rfl (.cons rfl (.cons rfl .nil))))) (.cons .head (.cons (.tail (.tail (.tail (.tail (.tail .head))))) .nil))
            · refine .skip ?_
              refine .inBlock ?_
              refine .seq ?_
              refine .region ?_   -- R23 more.go:31
              refine .rd (.move rfl) ?_
              refine .fn rfl rfl (.cons (.tail .head) .nil) (fun _ _ _ => trivial) (Len_ok n ps []) (fun v G1 hq => ?_)
              obtain ⟨rfl, rfl⟩ := hq
              simp only [List.cons_append, List.nil_append]
              refine .rd (.move rfl) ?_
              refine .rd (.move rfl) ?_
              refine .rd (.sub rfl rfl (by omega) (by omega)) ?_
              refine .rd (.neI rfl rfl) ?_
              refine .alter (t := 78) (v' := .bool false) rfl (by rw [decide_eq_true (by omega)]; rfl) ?_
              refine .rd (.move rfl) ?_
              refine .on (t := 79) rfl rfl ?_
              refine .rd (.move rfl) ?_
              refine .on (t := 79) rfl rfl ?_
              refine .fn rfl rfl (.cons .head .nil) (fun _ _ _ => trivial) (All_ok n ps [] hC.len hC.ok) (fun v G1 hq => ?_)
              obtain ⟨aa, ac, al, hal, rfl, rfl⟩ := hq
              simp only [List.cons_append, List.nil_append]
              have hall : al.length = ps.length := by have := congrArg List.length hal; simpa using this
              refine .on (t := 79) rfl rfl ?_
              refine .rd (.lenL rfl rfl Try.underlying42 rfl) ?_
              refine .on (t := 79) rfl rfl ?_
              refine .rd (.move rfl) ?_
              refine .on (t := 79) rfl rfl ?_
              refine .fn rfl rfl (.cons .head .nil) (fun _ _ _ => trivial) (Len_ok n ps []) (fun v G1 hq => ?_)
              obtain ⟨rfl, rfl⟩ := hq
              simp only [List.cons_append, List.nil_append]
              refine .on (t := 79) rfl rfl ?_
              refine .rd (.neI rfl rfl) ?_
              refine .alter (t := 85) (v' := .bool false) rfl (by rw [decide_eq_true (by omega)]; rfl) ?_
              refine .rd (.pickF rfl rfl) ?_
              refine .rd (.move rfl) ?_
              refine .on (t := 87) rfl rfl ?_
              refine .rd (.move rfl) ?_
              refine .on (t := 87) rfl rfl ?_
              refine .fn rfl rfl (.cons .head .nil) (fun _ _ _ => trivial) (Len_ok n ps []) (fun v G1 hq => ?_)
              obtain ⟨rfl, rfl⟩ := hq
              simp only [List.cons_append, List.nil_append]
              refine .on (t := 87) rfl rfl ?_
              refine .rd (.gt rfl rfl) ?_
              refine .alter (t := 90) (v' := .bool false) rfl (by rw [decide_eq_false (by omega)]) ?_
              refine .rd (.pickF rfl rfl) ?_
              refine .nil ?_
              refine .condF rfl ?_
              refine .skip ?_
              refine .inBlock ?_
              refine .region ?_   -- R9 more.go:14
              refine .rd (.move rfl) ?_
              refine .rd (.add rfl rfl (by omega) (by omega)) ?_
              refine .rd (.assign rfl) ?_
              refine .nil ?_
              exact (ih (i + 1, ps, sent, gone) ⟨by show i + 1 ≤ _; omega, by show i + 1 ≤ 600; omega, hC, by show (ps.length : Int) = (sent) - (gone); omega, by show 0 ≤ gone; omega, by show sent ≤ ((i + 1 : Nat) : Int); omega⟩ (by show l.length - (i + 1) < l.length - i; omega)).to (.cons rfl (.cons rfl (.cons rfl (.cons rfl (.cons rfl .nil))))) (.cons .head (.cons (.tail (.tail (.tail .head))) .nil))
    · refine .exit rfl ?_
      refine .seq ?_
      refine .region ?_   -- R25 more.go:35
      refine .rd (.assign rfl) ?_
      refine .nil ?_
      refine .retP Try.func6 (.cons (.tmp rfl) .nil) (.cons (.tail .head) .nil) ?_
      exact ⟨[], ⟨rfl, rfl⟩, rfl⟩
  · replace h8 := of_decide_eq_false h8
    refine .off (t := 23) rfl rfl rfl ?_
    refine .off (t := 23) rfl rfl rfl ?_
    refine .rd (.pickF rfl rfl) ?_
    refine .nil ?_
    refine .condF rfl ?_
    refine .exit rfl ?_
    refine .seq ?_
    refine .region ?_   -- R25 more.go:35
    refine .rd (.assign rfl) ?_
    refine .nil ?_
    refine .retP Try.func6 (.cons (.tmp rfl) .nil) (.cons (.tail .head) .nil) ?_
    exact ⟨[], ⟨rfl, rfl⟩, rfl⟩

end Go.Proofs.Ytfbmbhajpmlffaa

