/- Steps through functions of the program, under conditions that each theorem states (part net20 of a claim). -/
import Derived.Test.YtfbmbhajpmlffaaProg
import Derived.Test.YtfbmbhajpmlffaaL11
import Derived.Test.YtfbmbhajpmlffaaDefs
import Derived.Test.YtfbmbhajpmlffaaNet18
namespace Go.Proofs.Ytfbmbhajpmlffaa
open Go Go.Sp

set_option linter.unusedVariables false

namespace net20
theorem fd32_20 : FD Try.prog 32 20 20 := .of Try.underlying32 (by kernel_rfl)
theorem na22 : NotAgg Try.prog 22 := ⟨_, Try.underlying22, trivial⟩
theorem fd32_19 : FD Try.prog 32 19 19 := .of Try.underlying32 (by kernel_rfl)
theorem na30 : NotAgg Try.prog 30 := ⟨_, Try.underlying30, trivial⟩
theorem fd32_18 : FD Try.prog 32 18 18 := .of Try.underlying32 (by kernel_rfl)
theorem na29 : NotAgg Try.prog 29 := ⟨_, Try.underlying29, trivial⟩
theorem ti3 : TI Try.prog 3 1 8 (.int .i64 0) := .of (by kernel_rfl)
theorem ts22 : TS Try.prog 22 1 := .of (by kernel_rfl)
theorem ia32 : IsAgg Try.prog 32 := ⟨_, Try.underlying32, trivial⟩
theorem ts32 : TS Try.prog 32 21 := .of (by kernel_rfl)
theorem ti32 : TI Try.prog 32 21 232 (.agg #[.int .i64 0, .int .i64 0, .int .i64 0, .int .i64 0, .int .i64 0, .int .i64 0, .int .i64 0, .int .i64 0, .int .i64 0, .int .i64 0, .int .i64 0, .int .i64 0, .int .i64 0, .int .i64 0, .int .i64 0, .int .i64 0, .string ⟨#[]⟩, .string ⟨#[]⟩, .slice none 0 0, .slice none 0 0, .slice none 0 0]) := .of (by kernel_rfl)
theorem ts3 : TS Try.prog 3 1 := .of (by kernel_rfl)
theorem na3 : NotAgg Try.prog 3 := ⟨_, Try.underlying3, trivial⟩
end net20
open net20

theorem single_of {al : List Pm} {m : Msg} {s' : Ms} (h : al.map (·.1) = [(m, s')].map (·.1)) : ∃ s3, al = [(m, s3)] := by
  cases al with
  | nil => simp at h
  | cons p l =>
    cases l with
    | nil => simp at h; exact ⟨p.2, by rw [← h]⟩
    | cons _ _ => simp at h
theorem sent0 (m : Msg) : sentS [] [] m = true := rfl
theorem mat_ai {m : Msg} {s : Ms} {w : World} {ra : Option Addr} {rc : Nat} (h : mat m s w) (hr : RowAt ra (m.ints.flatMap icell) w) : mat m { s with ai := ra, ci := rc } w := ⟨h.len, h.b, h.e, hr, h.r⟩
theorem icell_set (js : List Int) (i : Nat) (v : Int) : (js.flatMap icell).set (i * 1) (.int .i64 v) = (js.set i v).flatMap icell := by
  have e : ∀ l : List Int, l.flatMap icell = l.map fun n => Value.int .i64 n := fun l => by induction l with
    | nil => rfl
    | cons x l ih => rw [List.flatMap_cons, ih]; rfl
  rw [e, e, Nat.mul_one, List.map_set]

set_option maxHeartbeats 4000000 in
theorem NetApart_ok (m : Msg) (s : Ms) (hok : m.ok) : Cn Try.prog 5 [.agg (mval m s).toArray] (mat m s) [] fun v G => v = .bool true ∧ G = [] := by
  refine .enter Try.func5 rfl (by kernel_rfl) rfl fun R k => ?_
  refine .seq ?_
  refine .region ?_   -- R0 law.go:121
  refine .ef (.box (l := mval m s) rfl rfl (ones.of rfl)) ?_
  rintro _ _ ⟨b1, rfl, rfl⟩
  refine .rd (.assign rfl) ?_
  refine .nil ?_
  refine .seq ?_
  refine .region ?_   -- R1 law.go:122
  refine .fn rfl rfl .nil (fun _ _ _ => trivial) (shown_ok) (fun v G1 hq => ?_)
  obtain ⟨rfl, rfl⟩ := hq
  simp only [List.nil_append]
  refine .rd (.assign rfl) ?_
  refine .nil ?_
  refine .seq ?_
  refine .region ?_   -- R2 law.go:123
  refine .fn rfl rfl .nil (fun _ _ _ => trivial) (New_ok) (fun v G1 hq => ?_)
  obtain ⟨n, rfl, rfl⟩ := hq
  simp only [List.cons_append, List.nil_append]
  refine .rd (.assign rfl) ?_
  refine .nil ?_
  refine .seq ?_
  refine .seq ?_
  refine .region ?_   -- R3 law.go:124
  refine .rd (.move rfl) ?_
  refine .rd (.not rfl) ?_
  refine .rd (.move rfl) ?_
  refine .on (t := 22) rfl rfl ?_
  refine .rd (.move rfl) ?_
  refine .on (t := 22) rfl rfl ?_
  refine .rd (.eqNilP Try.underlying24 rfl rfl) ?_
  refine .rd (.pickF rfl rfl) ?_
  refine .rd (.move rfl) ?_
  refine .on (t := 26) rfl rfl ?_
  refine .rd (.fieldAddr fd32_20 rfl) ?_
  refine .on (t := 26) rfl rfl ?_
  refine .rd (.ld na22 rfl (.tail .head) rfl) ?_
  refine .on (t := 26) rfl rfl ?_
  refine .rd (.lenL rfl rfl Try.underlying22 rfl) ?_
  refine .on (t := 26) rfl rfl ?_
  refine .rd (.gt rfl rfl) ?_
  refine .rd (.pickF rfl rfl) ?_
  refine .rd (.move rfl) ?_
  refine .split (t := 32) rfl (fun g3_12 => ?_) (fun g3_12 => ?_)
  · replace g3_12 := of_decide_eq_true g3_12
    refine .off (t := 32) rfl rfl rfl ?_
    refine .off (t := 32) rfl rfl rfl ?_
    refine .off (t := 32) rfl rfl rfl ?_
    refine .off (t := 32) rfl rfl rfl ?_
    refine .rd (.pickT rfl rfl) ?_
    refine .rd (.move rfl) ?_
    refine .off (t := 38) rfl rfl rfl ?_
    refine .off (t := 38) rfl rfl rfl ?_
    refine .off (t := 38) rfl rfl rfl ?_
    refine .off (t := 38) rfl rfl rfl ?_
    refine .rd (.pickT rfl rfl) ?_
    refine .nil ?_
    refine .condT rfl ?_
    refine .seq ?_
    refine .region ?_   -- R4 law.go:125
    refine .rd (.move rfl) ?_
    refine .rd (.move rfl) ?_
    refine .on (t := 45) rfl rfl ?_
    refine .rd (.move rfl) ?_
    refine .on (t := 45) rfl rfl ?_
    refine .rd (.neNilP Try.underlying24 rfl rfl) ?_
    refine .rd (.pickT rfl rfl) ?_
    refine .rd (.assign rfl) ?_
    refine .nil ?_
    refine .retP Try.func5 (.cons (.tmp rfl) .nil) (.cons (.tail (.tail .head)) .nil) ?_
    exact ⟨[], ⟨rfl, rfl⟩, rfl⟩
  · replace g3_12 := of_decide_eq_false g3_12
    refine .on (t := 32) rfl rfl ?_
    refine .rd (.fieldAddr fd32_19 rfl) ?_
    refine .on (t := 32) rfl rfl ?_
    refine .rd (.ld na30 rfl (.tail .head) rfl) ?_
    refine .on (t := 32) rfl rfl ?_
    refine .rd (.lenL rfl rfl Try.underlying30 rfl) ?_
    refine .on (t := 32) rfl rfl ?_
    refine .rd (.gt rfl rfl) ?_
    refine .rd (.pickF rfl rfl) ?_
    refine .rd (.move rfl) ?_
    refine .split (t := 38) rfl (fun g3_18 => ?_) (fun g3_18 => ?_)
    · replace g3_18 := of_decide_eq_true g3_18
      refine .off (t := 38) rfl rfl rfl ?_
      refine .off (t := 38) rfl rfl rfl ?_
      refine .off (t := 38) rfl rfl rfl ?_
      refine .off (t := 38) rfl rfl rfl ?_
      refine .rd (.pickT rfl rfl) ?_
      refine .nil ?_
      refine .condT rfl ?_
      refine .seq ?_
      refine .region ?_   -- R4 law.go:125
      refine .rd (.move rfl) ?_
      refine .rd (.move rfl) ?_
      refine .on (t := 45) rfl rfl ?_
      refine .rd (.move rfl) ?_
      refine .on (t := 45) rfl rfl ?_
      refine .rd (.neNilP Try.underlying24 rfl rfl) ?_
      refine .rd (.pickT rfl rfl) ?_
      refine .rd (.assign rfl) ?_
      refine .nil ?_
      refine .retP Try.func5 (.cons (.tmp rfl) .nil) (.cons (.tail (.tail .head)) .nil) ?_
      exact ⟨[], ⟨rfl, rfl⟩, rfl⟩
    · replace g3_18 := of_decide_eq_false g3_18
      refine .on (t := 38) rfl rfl ?_
      refine .rd (.fieldAddr fd32_18 rfl) ?_
      refine .on (t := 38) rfl rfl ?_
      refine .rd (.ld na29 rfl (.tail .head) rfl) ?_
      refine .on (t := 38) rfl rfl ?_
      refine .rd (.lenL rfl rfl Try.underlying29 rfl) ?_
      refine .on (t := 38) rfl rfl ?_
      refine .rd (.gt rfl rfl) ?_
      refine .rd (.pickF rfl rfl) ?_
      refine .nil ?_
      refine .condP rfl (fun c3 => ?_) (fun c3 => ?_)
      · refine .seq ?_
        refine .region ?_   -- R4 law.go:125
        refine .rd (.move rfl) ?_
        refine .rd (.move rfl) ?_
        refine .on (t := 45) rfl rfl ?_
        refine .rd (.move rfl) ?_
        refine .on (t := 45) rfl rfl ?_
        refine .rd (.neNilP Try.underlying24 rfl rfl) ?_
        refine .rd (.pickT rfl rfl) ?_
        refine .rd (.assign rfl) ?_
        refine .nil ?_
        refine .retP Try.func5 (.cons (.tmp rfl) .nil) (.cons (.tail (.tail .head)) .nil) ?_
        exact ⟨[], ⟨rfl, rfl⟩, rfl⟩
      · refine .skip ?_
        refine .seq ?_
        refine .region ?_   -- R5 law.go:127
        refine .ef (.buildNone Try.underlying22 ti3) ?_
        rintro _ _ ⟨ia, rfl, rfl⟩
        refine .blkArr 1 0 .head rfl ?_
        refine .rd (.fieldAddr fd32_20 rfl) ?_
        refine .rd (.ld na22 rfl (.tail (.tail .head)) rfl) ?_
        refine .ef (.append rfl rfl Try.underlying22 ti3 rfl (ones.of rfl) (by decide) (by decide) rfl rfl .head (n := 0) (m := m.ints.length) rfl (.srcRow (Knows.pick (.tail (.tail (.tail .head))) (k.mono fun _ h => h.i)) Try.underlying22 (by rw [flat_length icell_len]) (by decide)) (by have := hok.i; omega)) ?_
        rintro _ _ ⟨ra, rc, rfl, rn, rfl⟩
        refine .alter (t := 52) (v' := .slice ra m.ints.length rc) rfl (by rw [Nat.zero_add]) ?_
        refine .cast (X' := arr 3 1 ra rc (m.ints.flatMap icell)) rfl ?_
        refine .rd (.assign rfl) ?_
        refine .nil ?_
        refine .seq ?_
        refine .region ?_   -- R6 law.go:128
        refine .rd (.move rfl) ?_
        refine .rd (.fieldAddr fd32_20 rfl) ?_
        refine .ef0 (.store ts22 rfl rfl (.tail (.tail .head)) rfl (Nat.le_of_ble_eq_true rfl)) ?_
        rintro _ _ rfl
        refine .cast (X' := blk b1 (mval m { s with ai := ra, ci := rc }) 32) rfl ?_
        refine .nil ?_
        refine .seq ?_
        refine .region ?_   -- R7 law.go:129
        refine .rd (.ldN ia32 ts32 rfl .head rfl) ?_
        refine .ef (.alloc ti32 rfl (ones.of rfl)) ?_
        rintro _ _ ⟨b6, rfl, rfl⟩
        refine .ef0 (.storeAll (vs := mval m { s with ai := ra, ci := rc }) ts32 rfl rfl rfl .head rfl (ones.of rfl)) ?_
        rintro _ _ rfl
        refine .nil ?_
        refine .seq ?_
        refine .region ?_   -- R8 law.go:130
        refine .ef (.buildNone Try.underlying22 ti3) ?_
        rintro _ _ ⟨ib, rfl, rfl⟩
        refine .blkArr 1 0 .head rfl ?_
        refine .rd (.move rfl) ?_
        refine .ef (.append rfl rfl Try.underlying22 ti3 rfl (ones.of rfl) (by decide) (by decide) rfl rfl .head (n := 0) (m := m.ints.length) rfl (.srcRow (Knows.arr (.tail (.tail (.tail .head)))) Try.underlying22 (by rw [flat_length icell_len]) (by decide)) (by have := hok.i; omega)) ?_
        rintro _ _ ⟨wa, wc, rfl, wn, rfl⟩
        refine .alter (t := 58) (v' := .slice wa m.ints.length wc) rfl (by rw [Nat.zero_add]) ?_
        refine .cast (X' := arr 3 1 wa wc (m.ints.flatMap icell)) rfl ?_
        refine .rd (.fieldAddr fd32_20 rfl) ?_
        refine .ef0 (.store ts22 rfl rfl (.tail .head) rfl (Nat.le_of_ble_eq_true rfl)) ?_
        rintro _ _ rfl
        refine .cast (X' := blk b6 (mval m { s with ai := wa, ci := wc }) 32) rfl ?_
        refine .nil ?_
        refine .seq ?_
        refine .region ?_   -- R9 law.go:131
        refine .rd (.move rfl) ?_
        refine .rd (.ldN ia32 ts32 rfl (.tail (.tail .head)) rfl) ?_
        refine .fn rfl rfl (.cons (.tail (.tail (.tail (.tail .head)))) .nil) (fun A w h => mat_ai (Knows.pick (.tail (.tail (.tail (.tail .head)))) k A w h) (Knows.arr (.tail (.tail (.tail .head))) A w h)) (Send_yes (n := n) (ps := []) (pt := []) (m := m) (s := { s with ai := ra, ci := rc }) hok (sent0 m)) (fun v G1 hq => ?_)
        obtain ⟨s', rfl, rfl⟩ := hq
        simp only [List.cons_append, List.nil_append]
        refine .nil ?_
        refine .seq ?_
        refine .seq ?_
        refine .region ?_   -- R10 law.go:132
        refine .rd (.assign rfl) ?_
        refine .nil ?_
        refine .block ?_
        refine .loop (σ := Nat × List Int) (fun ⟨i, js⟩ => i ≤ m.ints.length ∧ js.length = m.ints.length) (fun ⟨i, js⟩ => m.ints.length - i) (fun ⟨i, js⟩ => [(3, .bool true), (4, .pointer (some ⟨n, 0, none⟩)), (6, .pointer (some ⟨b6, 0, none⟩)), (5, .slice ra m.ints.length rc), (7, .int .i64 (i : Nat))]) (fun ⟨i, js⟩ => [arr 3 1 ra rc (js.flatMap icell), net n [(m, s')] [], blk b1 (mval m { s with ai := ra, ci := rc }) 32, blk b6 (mval m { s with ai := wa, ci := wc }) 32, arr 3 1 wa wc (m.ints.flatMap icell), R]) (0, m.ints) ⟨Nat.zero_le _, rfl⟩ (.cons rfl (.cons rfl (.cons rfl (.cons rfl (.cons rfl .nil))))) (.cons (.tail (.tail (.tail (.tail .head)))) (.cons .head (.cons (.tail (.tail .head)) (.cons .head (.cons .head (.cons .head .nil)))))) (fun s'_ hI ih => ?_)
        obtain ⟨i, js⟩ := s'_
        dsimp only at hI ih ⊢
        obtain ⟨hi, hjs⟩ := hI
        refine .seq ?_
        refine .seq ?_
        refine .region ?_   -- R11 law.go:132
        refine .rd (.move rfl) ?_
        refine .rd (.move rfl) ?_
        refine .rd (.lenL rfl rfl Try.underlying22 rfl) ?_
        refine .rd (.lt rfl rfl) ?_
        refine .nil ?_
        refine .condP rfl (fun h11 => ?_) (fun h11 => ?_)
        · refine .skip ?_
          refine .seq ?_
          refine .block ?_
          have hj : i < js.length := by omega
          obtain ⟨x, hx⟩ : ∃ x, js[i]? = some x := ⟨_, List.getElem?_eq_getElem hj⟩
          have hokI := hok.i
          have hfl : (js.flatMap icell).length = js.length * 1 := flat_length icell_len js
          refine .tell (φ := ∃ b o, ra = some ⟨b, o, none⟩) ((Knows.arr .head).mono fun _ h => h.addr (by omega)) (fun hx => ?_)
          obtain ⟨bb, oo, hab⟩ := hx
          subst hab
          refine .region ?_   -- R13 law.go:133
          refine .rd (.move rfl) ?_
          refine .rd (.move rfl) ?_
          refine .rd (.move rfl) ?_
          refine .rd (.move rfl) ?_
          refine .rd (.indexAddr Try.underlying22 ts3 rfl rfl (by omega) (by omega)) ?_
          refine .rd (.load na3 rfl (Knows.one (i := 0) (Knows.elem icell_len (by decide) (Knows.arr .head) hx) rfl)) ?_
          refine .rd (.addW rfl rfl) ?_
          refine .rd (.indexAddr Try.underlying22 ts3 rfl rfl (by omega) (by omega)) ?_
          refine .ef0 (.storeArr (k := i * 1) ts3 rfl rfl .head (by omega)) ?_
          rintro _ _ rfl
          rw [icell_set]
          refine .nil ?_
          refine .inBlock ?_
          refine .region ?_   -- R12 law.go:132
          refine .rd (.move rfl) ?_
          refine .rd (.add rfl rfl (by omega) (by omega)) ?_
          refine .rd (.assign rfl) ?_
          refine .nil ?_
          exact (ih (i + 1, js.set i (IntKind.i64.wrap (x + 1))) ⟨by show i + 1 ≤ _; omega, by show (js.set i _).length = _; simp [hjs]⟩ (by show m.ints.length - (i + 1) < m.ints.length - i; omega)).to (.cons rfl (.cons rfl (.cons rfl (.cons rfl (.cons rfl .nil))))) (.cons .head (.cons .head (.cons .head (.cons .head (.cons .head (.cons .head .nil))))))
        · refine .exit rfl ?_
          refine .seq ?_
          refine .region ?_   -- R14 law.go:135
          refine .rd (.move rfl) ?_
          refine .fn rfl rfl (.cons (.tail .head) .nil) (fun _ _ _ => trivial) (All_ok n [(m, s')] [] (Nat.le_of_ble_eq_true rfl) (fun p hp => by obtain rfl := List.mem_singleton.1 hp; exact hok)) (fun v G1 hq => ?_)
          obtain ⟨aa, ac, al, hal, rfl, rfl⟩ := hq
          simp only [List.cons_append, List.nil_append]
          refine .rd (.assign rfl) ?_
          refine .nil ?_
          obtain ⟨s3, rfl⟩ := single_of hal
          refine .tell (φ := ∃ b o, aa = some ⟨b, o, none⟩) ((Knows.arr (.tail .head)).mono fun _ h => h.addr (by rw [flat_length pcell_len]; exact Nat.zero_lt_succ _)) (fun hx => ?_)
          obtain ⟨ba, oa, rfl⟩ := hx
          refine .open_ (.tail (.tail .head)) (owms_out (ps := [(m, s3)]) (j := 0) (p := (m, s3)) rfl) (fun _ _ => ?_)
          simp only [List.cons_append, List.nil_append]
          refine .tell (φ := mfacts m s3) ((owm_mat (m := m) (s := s3) .head).mono fun _ h => h.facts) (fun hF3 => ?_)
          refine .tell (φ := mfacts m { s with ai := wa, ci := wc }) (fun A w h => (mat_ai (rc := wc) (Knows.pick (.tail (.tail (.tail (.tail (.tail (.tail (.tail (.tail .head)))))))) k A w h) (Knows.arr (.tail (.tail (.tail (.tail (.tail (.tail (.tail .head))))))) A w h)).facts) (fun hF2 => ?_)
          refine .alter (t := 8) (v' := .slice (some ⟨ba, oa, none⟩) 1 ac) rfl rfl ?_
          refine .seq ?_
          refine .seq ?_
          refine .region ?_   -- R15 law.go:136
          refine .rd (.move rfl) ?_
          refine .rd (.lenL rfl rfl Try.underlying42 rfl) ?_
          refine .rd (.neI rfl rfl) ?_
          refine .alter (t := 81) (v' := .bool false) rfl rfl ?_
          refine .nil ?_
          refine .condF rfl ?_
          refine .skip ?_
          refine .seq ?_
          refine .draws [2, 3] [arr 32 21 (some ⟨ba, oa, none⟩) ac ([(m, s3)].flatMap pcell), blk b6 (mval m { s with ai := wa, ci := wc }) 32] (by kernel_rfl) ?_   -- R17 law.go:139
          refine .rp 0 rfl (by kernel_rfl) (by kernel_rfl) (by kernel_rfl) (Reads.pure (.move rfl)) ?_
          refine .rp 1 rfl (by kernel_rfl) (by kernel_rfl) (by kernel_rfl) (Reads.pure (.indexAddr Try.underlying42 ts32 rfl rfl (by omega) (by omega))) ?_
          refine .rd 2 rfl rfl (by kernel_rfl) (by kernel_rfl) (by kernel_rfl) (.loadN ia32 ts32 rfl rfl (Knows.elem pcell_len (by decide) (Knows.arr .head) (i := 0) (x := (m, s3)) rfl)) (.cons (.tail (.tail (.tail .head))) (.cons (.tail (.tail (.tail (.tail (.tail .head))))) .nil)) ?_
          refine .rd 3 rfl rfl (by kernel_rfl) (by kernel_rfl) (by kernel_rfl) (.ldN ia32 ts32 rfl (.tail .head) rfl) (.cons (.tail (.tail (.tail .head))) (.cons (.tail (.tail (.tail (.tail (.tail .head))))) .nil)) ?_
          refine .ef 4 (by kernel_rfl) rfl (.fn rfl rfl .nil (fun A w h => ⟨owm_mat .head A w h, mat_ai (Knows.pick (.tail (.tail (.tail (.tail (.tail (.tail (.tail (.tail .head)))))))) k A w h) (Knows.arr (.tail (.tail (.tail (.tail (.tail (.tail (.tail .head))))))) A w h)⟩) (sameMsg_ok m s3 { s with ai := wa, ci := wc } hok hF3.len hF2.len)) ?_
          rintro v _ ⟨G1, hq, rfl⟩
          obtain ⟨rfl, rfl⟩ := hq
          simp only [List.nil_append]
          refine ⟨.inl (by kernel_rfl), ?_⟩
          refine .rp 5 rfl (by kernel_rfl) (by kernel_rfl) (by kernel_rfl) (Reads.pure (.assign rfl)) ?_
          refine .done (by kernel_rfl) ?_
          refine .open_ .head owm_open (fun _ _ => ?_)
          simp only [List.cons_append, List.nil_append]
          refine .seq ?_
          refine .seq ?_
          refine .region ?_   -- R18 law.go:140
          refine .rd (.assign rfl) ?_
          refine .nil ?_
          refine .block ?_
          refine .loop (σ := Nat × List Int) (fun ⟨i, js⟩ => i ≤ m.ints.length ∧ js.length = m.ints.length) (fun ⟨i, js⟩ => m.ints.length - i) (fun ⟨i, js⟩ => [(3, .bool true), (4, .pointer (some ⟨n, 0, none⟩)), (6, .pointer (some ⟨b6, 0, none⟩)), (8, .slice (some ⟨ba, oa, none⟩) 1 ac), (9, .bool true), (10, .int .i64 (i : Nat))]) (fun ⟨i, js⟩ => [arr 3 1 s3.ai s3.ci (js.flatMap icell), arr 32 21 (some ⟨ba, oa, none⟩) ac ([(m, s3)].flatMap pcell), net n [(m, s')] [], blk b6 (mval m { s with ai := wa, ci := wc }) 32, arr 3 1 wa wc (m.ints.flatMap icell), R]) (0, m.ints) ⟨Nat.zero_le _, rfl⟩ (.cons rfl (.cons rfl (.cons rfl (.cons rfl (.cons rfl (.cons rfl .nil)))))) (.cons (.tail (.tail .head)) (.cons (.tail (.tail (.tail (.tail (.tail .head))))) (.cons (.tail (.tail (.tail (.tail .head)))) (.cons (.tail (.tail (.tail (.tail (.tail (.tail .head)))))) (.cons (.tail (.tail (.tail (.tail (.tail (.tail .head)))))) (.cons (.tail (.tail (.tail (.tail (.tail (.tail .head)))))) .nil)))))) (fun s'_ hI ih => ?_)
          obtain ⟨i, js⟩ := s'_
          dsimp only at hI ih ⊢
          obtain ⟨hi, hjs⟩ := hI
          refine .seq ?_
          refine .seq ?_
          refine .region ?_   -- R19 law.go:140
          refine .rd (.move rfl) ?_
          refine .rd (.move rfl) ?_
          refine .rd (.indexAddr Try.underlying42 ts32 rfl rfl (by omega) (by omega)) ?_
          refine .rd (.fieldAddr fd32_20 rfl) ?_
          refine .rd (.load na22 rfl (Knows.one (i := 20) (Knows.elem pcell_len (by decide) (Knows.arr (.tail .head)) (i := 0) (x := (m, s3)) rfl) rfl)) ?_
          refine .alter (t := 91) (v' := .slice s3.ai m.ints.length s3.ci) rfl rfl ?_
          refine .rd (.lenL rfl rfl Try.underlying22 rfl) ?_
          refine .rd (.lt rfl rfl) ?_
          refine .nil ?_
          refine .condP rfl (fun h19 => ?_) (fun h19 => ?_)
          · refine .skip ?_
            refine .seq ?_
            refine .block ?_
            have hj : i < js.length := by omega
            obtain ⟨x, hx⟩ : ∃ x, js[i]? = some x := ⟨_, List.getElem?_eq_getElem hj⟩
            have hokI := hok.i
            have hfl : (js.flatMap icell).length = js.length * 1 := flat_length icell_len js
            refine .tell (φ := ∃ b o, s3.ai = some ⟨b, o, none⟩) ((Knows.arr .head).mono fun _ h => h.addr (by omega)) (fun hx => ?_)
            obtain ⟨bb, oo, hab⟩ := hx
            refine .region ?_   -- R21 law.go:141
            refine .rd (.move rfl) ?_
            refine .rd (.indexAddr Try.underlying42 ts32 rfl rfl (by omega) (by omega)) ?_
            refine .rd (.fieldAddr fd32_20 rfl) ?_
            refine .rd (.load na22 rfl (Knows.one (i := 20) (Knows.elem pcell_len (by decide) (Knows.arr (.tail .head)) (i := 0) (x := (m, s3)) rfl) rfl)) ?_
            refine .alter (t := 99) (v' := .slice s3.ai m.ints.length s3.ci) rfl rfl ?_
            refine .rd (.move rfl) ?_
            refine .rd (.indexAddr (b := bb) (o := oo) Try.underlying22 ts3 (by show some (Value.slice s3.ai _ _) = _; rw [hab]) rfl (by omega) (by omega)) ?_
            rw [hab]
            refine .ef0 (.storeArr (k := i * 1) ts3 rfl rfl .head (by omega)) ?_
            rintro _ _ rfl
            rw [icell_set, ← hab]
            refine .nil ?_
            refine .inBlock ?_
            refine .region ?_   -- R20 law.go:140
            refine .rd (.move rfl) ?_
            refine .rd (.add rfl rfl (by omega) (by omega)) ?_
            refine .rd (.assign rfl) ?_
            refine .nil ?_
            exact (ih (i + 1, js.set i 7) ⟨by show i + 1 ≤ _; omega, by show (js.set i _).length = _; simp [hjs]⟩ (by show m.ints.length - (i + 1) < m.ints.length - i; omega)).to (.cons rfl (.cons rfl (.cons rfl (.cons rfl (.cons rfl (.cons rfl .nil)))))) (.cons .head (.cons .head (.cons .head (.cons .head (.cons .head (.cons .head .nil))))))
          · refine .exit rfl ?_
            refine .seq ?_
            refine .region ?_   -- R22 law.go:143
            refine .rd (.move rfl) ?_
            refine .fn rfl rfl (.cons (.tail (.tail .head)) .nil) (fun _ _ _ => trivial) (Twice_yes (n := n) (ps := [(m, s')]) (pt := []) 0 rfl (p := (m, s')) rfl (fun p hp => by obtain rfl := List.mem_singleton.1 hp; exact hok) (Nat.le_of_ble_eq_true rfl)) (fun v G1 hq => ?_)
            obtain ⟨s4, rfl, rfl⟩ := hq
            simp only [List.cons_append, List.nil_append]
            refine .nil ?_
            refine .cast (X' := net n [(m, s'), (m, s4)] []) rfl ?_
            refine .seq ?_
            refine .region ?_   -- R23 law.go:144
            refine .rd (.move rfl) ?_
            refine .fn rfl rfl (.cons .head .nil) (fun _ _ _ => trivial) (Take_yes (n := n) (ps := [(m, s'), (m, s4)]) (pt := []) 0 rfl (p := (m, s')) rfl (Nat.le_of_ble_eq_true rfl)) (fun v G1 hq => ?_)
            obtain ⟨rfl, rfl⟩ := hq
            simp only [List.cons_append, List.nil_append]
            refine .rd (.move rfl) ?_
            refine .rd (.extract rfl rfl) ?_
            refine .rd (.extract rfl rfl) ?_
            refine .ef (.alloc ti32 rfl (ones.of rfl)) ?_
            rintro _ _ ⟨b11, rfl, rfl⟩
            refine .ef0 (.storeAll (vs := mval m s') ts32 rfl rfl rfl .head rfl (ones.of rfl)) ?_
            rintro _ _ rfl
            refine .rd (.assign rfl) ?_
            refine .nil ?_
            refine .tell (φ := mfacts m s') ((owm_mat (m := m) (s := s') (.tail (.tail .head))).mono fun _ h => h.facts) (fun hFx => ?_)
            refine .tell (φ := mfacts m { s with ai := wa, ci := wc }) (fun A w h => (mat_ai (rc := wc) (Knows.pick (.tail (.tail (.tail (.tail (.tail (.tail (.tail .head))))))) k A w h) (Knows.arr (.tail (.tail (.tail (.tail (.tail (.tail .head)))))) A w h)).facts) (fun hF2 => ?_)
            refine .seq ?_
            refine .region ?_   -- R24 law.go:145
            refine .rd (.ldN ia32 ts32 rfl .head rfl) ?_
            refine .rd (.ldN ia32 ts32 rfl (.tail (.tail (.tail (.tail (.tail .head))))) rfl) ?_
            refine .fn rfl rfl .nil (fun A w h => ⟨owm_mat (.tail (.tail .head)) A w h, mat_ai (Knows.pick (.tail (.tail (.tail (.tail (.tail (.tail (.tail .head))))))) k A w h) (Knows.arr (.tail (.tail (.tail (.tail (.tail (.tail .head)))))) A w h)⟩) (sameMsg_ok m s' { s with ai := wa, ci := wc } hok hFx.len hF2.len) (fun v G1 hq => ?_)
            obtain ⟨rfl, rfl⟩ := hq
            simp only [List.nil_append]
            refine .rd (.assign rfl) ?_
            refine .nil ?_
            refine .open_ (.tail (.tail .head)) owm_open (fun _ _ => ?_)
            simp only [List.cons_append, List.nil_append]
            refine .seq ?_
            refine .seq ?_
            refine .region ?_   -- R25 law.go:146
            refine .rd (.assign rfl) ?_
            refine .nil ?_
            refine .block ?_
            refine .loop (σ := Nat × List Int) (fun ⟨i, js⟩ => i ≤ m.ints.length ∧ js.length = m.ints.length) (fun ⟨i, js⟩ => m.ints.length - i) (fun ⟨i, js⟩ => [(3, .bool true), (4, .pointer (some ⟨n, 0, none⟩)), (6, .pointer (some ⟨b6, 0, none⟩)), (9, .bool true), (11, .pointer (some ⟨b11, 0, none⟩)), (12, .bool true), (13, .bool true), (14, .int .i64 (i : Nat))]) (fun ⟨i, js⟩ => [arr 3 1 s'.ai s'.ci (js.flatMap icell), blk b11 (mval m s') 32, net n [(m, s4)] [], blk b6 (mval m { s with ai := wa, ci := wc }) 32, arr 3 1 wa wc (m.ints.flatMap icell), R]) (0, m.ints) ⟨Nat.zero_le _, rfl⟩ (.cons rfl (.cons rfl (.cons rfl (.cons rfl (.cons rfl (.cons rfl (.cons rfl (.cons rfl .nil)))))))) (.cons (.tail (.tail .head)) (.cons (.tail (.tail (.tail .head))) (.cons (.tail (.tail (.tail .head))) (.cons (.tail (.tail (.tail (.tail (.tail .head))))) (.cons (.tail (.tail (.tail (.tail (.tail .head))))) (.cons (.tail (.tail (.tail (.tail (.tail .head))))) .nil)))))) (fun s'_ hI ih => ?_)
            obtain ⟨i, js⟩ := s'_
            dsimp only at hI ih ⊢
            obtain ⟨hi, hjs⟩ := hI
            refine .seq ?_
            refine .seq ?_
            refine .region ?_   -- R26 law.go:146
            refine .rd (.move rfl) ?_
            refine .rd (.fieldAddr fd32_20 rfl) ?_
            refine .rd (.ld na22 rfl (.tail .head) rfl) ?_
            refine .rd (.lenL rfl rfl Try.underlying22 rfl) ?_
            refine .rd (.lt rfl rfl) ?_
            refine .nil ?_
            refine .condP rfl (fun h26 => ?_) (fun h26 => ?_)
            · refine .skip ?_
              refine .seq ?_
              refine .block ?_
              have hj : i < js.length := by omega
              obtain ⟨x, hx⟩ : ∃ x, js[i]? = some x := ⟨_, List.getElem?_eq_getElem hj⟩
              have hokI := hok.i
              have hfl : (js.flatMap icell).length = js.length * 1 := flat_length icell_len js
              refine .tell (φ := ∃ b o, s'.ai = some ⟨b, o, none⟩) ((Knows.arr .head).mono fun _ h => h.addr (by omega)) (fun hx => ?_)
              obtain ⟨bb, oo, hab⟩ := hx
              refine .region ?_   -- R28 law.go:147
              refine .rd (.fieldAddr fd32_20 rfl) ?_
              refine .rd (.ld na22 rfl (.tail .head) rfl) ?_
              refine .rd (.move rfl) ?_
              refine .rd (.indexAddr (b := bb) (o := oo) Try.underlying22 ts3 (by show some (Value.slice s'.ai _ _) = _; rw [hab]) rfl (by omega) (by omega)) ?_
              rw [hab]
              refine .ef0 (.storeArr (k := i * 1) ts3 rfl rfl .head (by omega)) ?_
              rintro _ _ rfl
              rw [icell_set, ← hab]
              refine .nil ?_
              refine .inBlock ?_
              refine .region ?_   -- R27 law.go:146
              refine .rd (.move rfl) ?_
              refine .rd (.add rfl rfl (by omega) (by omega)) ?_
              refine .rd (.assign rfl) ?_
              refine .nil ?_
              exact (ih (i + 1, js.set i 9) ⟨by show i + 1 ≤ _; omega, by show (js.set i _).length = _; simp [hjs]⟩ (by show m.ints.length - (i + 1) < m.ints.length - i; omega)).to (.cons rfl (.cons rfl (.cons rfl (.cons rfl (.cons rfl (.cons rfl (.cons rfl (.cons rfl .nil)))))))) (.cons .head (.cons .head (.cons .head (.cons .head (.cons .head (.cons .head .nil))))))
            · refine .exit rfl ?_
              refine .seq ?_
              refine .region ?_   -- R29 law.go:149
              refine .rd (.move rfl) ?_
              refine .fn rfl rfl (.cons (.tail (.tail .head)) .nil) (fun _ _ _ => trivial) (Take_yes (n := n) (ps := [(m, s4)]) (pt := []) 0 rfl (p := (m, s4)) rfl (Nat.le_of_ble_eq_true rfl)) (fun v G1 hq => ?_)
              obtain ⟨rfl, rfl⟩ := hq
              simp only [List.cons_append, List.nil_append]
              refine .rd (.move rfl) ?_
              refine .rd (.extract rfl rfl) ?_
              refine .rd (.extract rfl rfl) ?_
              refine .ef (.alloc ti32 rfl (ones.of rfl)) ?_
              rintro _ _ ⟨b15, rfl, rfl⟩
              refine .ef0 (.storeAll (vs := mval m s4) ts32 rfl rfl rfl .head rfl (ones.of rfl)) ?_
              rintro _ _ rfl
              refine .rd (.assign rfl) ?_
              refine .nil ?_
              refine .tell (φ := mfacts m s4) ((owm_mat (m := m) (s := s4) (.tail (.tail .head))).mono fun _ h => h.facts) (fun hFx => ?_)
              refine .tell (φ := mfacts m { s with ai := wa, ci := wc }) (fun A w h => (mat_ai (rc := wc) (Knows.pick (.tail (.tail (.tail (.tail (.tail (.tail (.tail .head))))))) k A w h) (Knows.arr (.tail (.tail (.tail (.tail (.tail (.tail .head)))))) A w h)).facts) (fun hF2 => ?_)
              refine .seq ?_
              refine .region ?_   -- R30 law.go:150
              refine .rd (.ldN ia32 ts32 rfl .head rfl) ?_
              refine .rd (.ldN ia32 ts32 rfl (.tail (.tail (.tail (.tail (.tail .head))))) rfl) ?_
              refine .fn rfl rfl .nil (fun A w h => ⟨owm_mat (.tail (.tail .head)) A w h, mat_ai (Knows.pick (.tail (.tail (.tail (.tail (.tail (.tail (.tail .head))))))) k A w h) (Knows.arr (.tail (.tail (.tail (.tail (.tail (.tail .head)))))) A w h)⟩) (sameMsg_ok m s4 { s with ai := wa, ci := wc } hok hFx.len hF2.len) (fun v G1 hq => ?_)
              obtain ⟨rfl, rfl⟩ := hq
              simp only [List.nil_append]
              refine .rd (.assign rfl) ?_
              refine .nil ?_
              refine .seq ?_
              refine .region ?_   -- R31 law.go:151
              refine .rd (.move rfl) ?_
              refine .rd (.move rfl) ?_
              refine .on (t := 132) rfl rfl ?_
              refine .rd (.move rfl) ?_
              refine .rd (.pickT rfl rfl) ?_
              refine .rd (.move rfl) ?_
              refine .on (t := 135) rfl rfl ?_
              refine .rd (.move rfl) ?_
              refine .rd (.pickT rfl rfl) ?_
              refine .rd (.move rfl) ?_
              refine .on (t := 138) rfl rfl ?_
              refine .rd (.move rfl) ?_
              refine .rd (.pickT rfl rfl) ?_
              refine .rd (.move rfl) ?_
              refine .on (t := 141) rfl rfl ?_
              refine .rd (.move rfl) ?_
              refine .rd (.pickT rfl rfl) ?_
              refine .rd (.move rfl) ?_
              refine .on (t := 144) rfl rfl ?_
              refine .rd (.move rfl) ?_
              refine .on (t := 144) rfl rfl ?_
              refine .fn rfl rfl (.cons (.tail .head) .nil) (fun _ _ _ => trivial) (Len_ok n [] []) (fun v G1 hq => ?_)
              obtain ⟨rfl, rfl⟩ := hq
              simp only [List.cons_append, List.nil_append]
              refine .on (t := 144) rfl rfl ?_
              refine .rd (.eqI rfl rfl) ?_
              refine .alter (t := 147) (v' := .bool true) rfl rfl ?_
              refine .rd (.pickT rfl rfl) ?_
              refine .rd (.assign rfl) ?_
              refine .nil ?_
              refine .retP Try.func5 (.cons (.tmp rfl) .nil) (.cons (.tail (.tail (.tail (.tail (.tail (.tail (.tail .head))))))) .nil) ?_
              exact ⟨[], ⟨rfl, rfl⟩, rfl⟩

end Go.Proofs.Ytfbmbhajpmlffaa

