/- Steps through functions of the program, under conditions that each theorem states (part net19 of a claim). -/
import Derived.Test.YtfbmbhajpmlffaaProg
import Derived.Test.YtfbmbhajpmlffaaL9
import Derived.Test.YtfbmbhajpmlffaaDefs
import Derived.Test.YtfbmbhajpmlffaaNet18
namespace Go.Proofs.Ytfbmbhajpmlffaa
open Go Go.Sp

set_option linter.unusedVariables false

namespace net19
theorem bld45_  (w : World) : (Instr.build 45 (([] : List Nat).zip []).toArray).run Try.prog w = .ok (.agg #[.slice none 0 0, .slice none 0 0]) w := by kernel_rfl
theorem ts47 : TS Try.prog 47 24 := .of (by kernel_rfl)
theorem ia47 : IsAgg Try.prog 47 := ⟨_, Try.underlying47, trivial⟩
theorem ti47 : TI Try.prog 47 24 256 (.agg #[.int .i64 0, .int .i64 0, .int .i64 0, .int .i64 0, .int .i64 0, .int .i64 0, .int .i64 0, .int .i64 0, .int .i64 0, .int .i64 0, .int .i64 0, .int .i64 0, .int .i64 0, .int .i64 0, .int .i64 0, .int .i64 0, .int .i64 0, .int .i64 0, .int .i64 0, .string ⟨#[]⟩, .string ⟨#[]⟩, .slice none 0 0, .slice none 0 0, .slice none 0 0]) := .of (by kernel_rfl)
theorem fd47_0 : FD Try.prog 47 0 0 := .of Try.underlying47 (by kernel_rfl)
theorem na3 : NotAgg Try.prog 3 := ⟨_, Try.underlying3, trivial⟩
theorem ti3 : TI Try.prog 3 1 8 (.int .i64 0) := .of (by kernel_rfl)
theorem fd47_3 : FD Try.prog 47 3 3 := .of Try.underlying47 (by kernel_rfl)
theorem fd32_20 : FD Try.prog 32 20 20 := .of Try.underlying32 (by kernel_rfl)
theorem na22 : NotAgg Try.prog 22 := ⟨_, Try.underlying22, trivial⟩
theorem ts22 : TS Try.prog 22 1 := .of (by kernel_rfl)
theorem ia32 : IsAgg Try.prog 32 := ⟨_, Try.underlying32, trivial⟩
theorem ts32 : TS Try.prog 32 21 := .of (by kernel_rfl)
theorem fd45_0 : FD Try.prog 45 0 0 := .of Try.underlying45 (by kernel_rfl)
theorem na42 : NotAgg Try.prog 42 := ⟨_, Try.underlying42, trivial⟩
theorem fd47_1 : FD Try.prog 47 1 1 := .of Try.underlying47 (by kernel_rfl)
theorem fd47_2 : FD Try.prog 47 2 2 := .of Try.underlying47 (by kernel_rfl)
theorem ti32 : TI Try.prog 32 21 232 (.agg #[.int .i64 0, .int .i64 0, .int .i64 0, .int .i64 0, .int .i64 0, .int .i64 0, .int .i64 0, .int .i64 0, .int .i64 0, .int .i64 0, .int .i64 0, .int .i64 0, .int .i64 0, .int .i64 0, .int .i64 0, .int .i64 0, .string ⟨#[]⟩, .string ⟨#[]⟩, .slice none 0 0, .slice none 0 0, .slice none 0 0]) := .of (by kernel_rfl)
end net19
open net19

theorem owms_all {Γ Γ' : List SProp} {ps : List Pm} (q : Pick (sat (owms ps)) Γ Γ') : Knows Γ fun w => ∀ p ∈ ps, mat p.1 p.2 w := fun A w h p hp => by
  obtain ⟨j, hj⟩ := List.getElem?_of_mem hp
  exact owms_mat hj q A w h
def Scr (a : Option Addr) (l : List OpD) (w : World) : Prop := RowAt a (l.flatMap opc) w ∧ ∀ y ∈ l, mat y.m y.s w
theorem oks_of {l ps : List Pm} (h : l.map (·.1) = ps.map (·.1)) (hok : ∀ p ∈ ps, p.1.ok) : ∀ p ∈ l, p.1.ok := fun p hp => by
  have hm : p.1 ∈ ps.map (·.1) := by rw [← h]; exact List.mem_map_of_mem hp
  obtain ⟨q, hq, e⟩ := List.mem_map.1 hm
  rw [← e]; exact hok q hq

set_option maxHeartbeats 8000000 in
theorem NetPlays_ok (a : Option Addr) (c : Nat) (l : List OpD) (hl : ∀ x ∈ l, x.ok ∧ x.m.ok) (hcap : l.length ≤ 140737488351232) : Cn Try.prog 4 [.slice a l.length c] (fun _ => True) [know (Scr a l)] fun v G => v = .bool true ∧ G = [] := by
  refine .enter Try.func4 rfl (by kernel_rfl) rfl fun R k => ?_
  refine .seq ?_
  refine .region ?_   -- R0 law.go:84
  refine .rd (.assign rfl) ?_
  refine .nil ?_
  refine .seq ?_
  refine .region ?_   -- R1 law.go:85
  refine .fn rfl rfl .nil (fun _ _ _ => trivial) (shown_ok) (fun v G1 hq => ?_)
  obtain ⟨rfl, rfl⟩ := hq
  simp only [List.nil_append]
  refine .rd (.assign rfl) ?_
  refine .nil ?_
  refine .seq ?_
  refine .region ?_   -- R2 law.go:86
  refine .fn rfl rfl .nil (fun _ _ _ => trivial) (New_ok) (fun v G1 hq => ?_)
  obtain ⟨n, rfl, rfl⟩ := hq
  simp only [List.cons_append, List.nil_append]
  refine .rd (.assign rfl) ?_
  refine .nil ?_
  refine .seq ?_
  refine .region ?_   -- R3 law.go:87
  refine .rd (.build rfl (bld45_)) ?_
  refine .ef (.box rfl rfl (ones.of rfl)) ?_
  rintro _ _ ⟨b18, rfl, rfl⟩
  refine .rd (.assign rfl) ?_
  refine .nil ?_
  refine .close (X := rnet b18 [] []) (.cons .head .nil) (fun h H => rnet_new H) ?_
  refine .seq ?_
  refine .seq ?_
  refine .region ?_   -- R4 law.go:88
  refine .rd (.move rfl) ?_
  refine .rd (.not rfl) ?_
  refine .rd (.move rfl) ?_
  refine .on (t := 21) rfl rfl ?_
  refine .rd (.move rfl) ?_
  refine .on (t := 21) rfl rfl ?_
  refine .rd (.eqNilP Try.underlying24 rfl rfl) ?_
  refine .rd (.pickF rfl rfl) ?_
  refine .nil ?_
  refine .condF rfl ?_
  refine .skip ?_
  refine .seq ?_
  refine .seq ?_
  refine .region ?_   -- R6 law.go:91
  refine .rd (.assign rfl) ?_
  refine .nil ?_
  refine .block ?_
  refine .loop (σ := Nat × List Pm × Pt × List Pm × List (Int × Int)) (fun ⟨i, ps, pt, qs, ap⟩ => i ≤ l.length ∧ i ≤ 700 ∧ PL ps pt qs ap i) (fun ⟨i, ps, pt, qs, ap⟩ => l.length - i) (fun ⟨i, ps, pt, qs, ap⟩ => [(0, .slice a l.length c), (4, .pointer (some ⟨n, 0, none⟩)), (5, .pointer (some ⟨b18, 0, none⟩)), (6, .int .i64 (i : Nat))]) (fun ⟨i, ps, pt, qs, ap⟩ => [net n ps pt, rnet b18 qs ap, know (Scr a l), R]) (0, [], [], [], []) ⟨Nat.zero_le _, Nat.zero_le _, PL.start⟩ (.cons rfl (.cons rfl (.cons rfl (.cons rfl .nil)))) (.cons (.tail .head) (.cons .head (.cons .head (.cons .head .nil)))) (fun s hI ih => ?_)
  obtain ⟨i, ps, pt, qs, ap⟩ := s
  dsimp only at hI ih ⊢
  obtain ⟨hi, hi7, hPL⟩ := hI
  refine .seq ?_
  refine .seq ?_
  refine .region ?_   -- R7 law.go:91
  refine .rd (.move rfl) ?_
  refine .rd (.move rfl) ?_
  refine .rd (.lenL rfl rfl Try.underlying40 rfl) ?_
  refine .rd (.lt rfl rfl) ?_
  refine .rd (.move rfl) ?_
  refine .split (t := 29) rfl (fun h7 => ?_) (fun h7 => ?_)
  · replace h7 := of_decide_eq_true h7
    refine .on (t := 29) rfl rfl ?_
    refine .rd (.move rfl) ?_
    refine .on (t := 29) rfl rfl ?_
    refine .rd (.lt rfl rfl) ?_
    refine .rd (.pickT rfl rfl) ?_
    refine .nil ?_
    refine .condP rfl (fun h7b => ?_) (fun h7b => ?_)
    · refine .skip ?_
      refine .seq ?_
      refine .block ?_
      refine .seq ?_
      have hj : i < l.length := by omega
      obtain ⟨x, hx⟩ : ∃ x, l[i]? = some x := ⟨_, List.getElem?_eq_getElem hj⟩
      have hmem := List.mem_of_getElem? hx
      obtain ⟨⟨⟨hk1, hk2⟩, _, _⟩, hmok⟩ := hl x hmem
      refine .tell (φ := ∃ b o, a = some ⟨b, o, none⟩) ((Knows.know (.tail (.tail .head))).mono fun _ h => h.1.addr (by rw [flat_length opc_len]; omega)) (fun hx => ?_)
      obtain ⟨bb, oo, rfl⟩ := hx
      obtain ⟨y1, y2⟩ := pick_range (c := x.kind) (n := 9) (by decide)
      have hlen := hPL.cnt.len
      have hqlen := hPL.len
      have hapl := hPL.apl
      refine .region ?_   -- R9 law.go:92
      refine .rd (.move rfl) ?_
      refine .rd (.move rfl) ?_
      refine .rd (.indexAddr Try.underlying40 ts47 rfl rfl (by omega) (by omega)) ?_
      refine .rd (.loadN ia47 ts47 rfl rfl (Knows.elem opc_len (by decide) ((Knows.know (.tail (.tail .head))).mono fun _ h => h.1) hx)) ?_
      refine .ef (.alloc ti47 rfl (ones.of rfl)) ?_
      rintro _ _ ⟨b7, rfl, rfl⟩
      refine .ef0 (.storeAll (vs := opc x) ts47 rfl rfl rfl .head rfl (ones.of rfl)) ?_
      rintro _ _ rfl
      refine .nil ?_
      refine .seq ?_
      refine .region ?_   -- R10 law.go:93
      refine .rd (.assign rfl) ?_
      refine .nil ?_
      refine .seq ?_
      refine .seq ?_
      refine .region ?_   -- R11 law.go:94
      refine .rd (.fieldAddr fd47_0 rfl) ?_
      refine .rd (.ld na3 rfl .head rfl) ?_
      refine .fn rfl rfl .nil (fun _ _ _ => trivial) (pick_ok x.kind 9 hk1 hk2 (by decide)) (fun v G1 hq => ?_)
      obtain ⟨rfl, rfl⟩ := hq
      simp only [List.nil_append]
      refine .nil ?_
      refine .block ?_
      refine .seq ?_
      refine .seq ?_
      refine .region ?_   -- R12 law.go:95
      refine .rd (.eqI rfl rfl) ?_
      refine .rd (.assign rfl) ?_
      refine .nil ?_
      refine .condP rfl (fun h12 => ?_) (fun h12 => ?_)
      · refine .alter (t := 42) (v' := .bool true) rfl (by rw [decide_eq_true h12]) ?_
        refine .skip ?_
        refine .condT rfl ?_
        refine .seq ?_
        refine .region ?_   -- R16 law.go:96
        refine .ef (.buildNone Try.underlying22 ti3) ?_
        rintro _ _ ⟨il, rfl, rfl⟩
        refine .blkArr 1 0 .head rfl ?_
        refine .rd (.fieldAddr fd47_3 rfl) ?_
        refine .rd (.fieldAddr fd32_20 rfl) ?_
        refine .rd (.ld na22 rfl (.tail .head) rfl) ?_
        refine .ef (.append rfl rfl Try.underlying22 ti3 rfl (ones.of rfl) (by decide) (by decide) rfl rfl .head (n := 0) (m := x.m.ints.length) rfl (.srcRow ((Knows.know (.tail (.tail (.tail (.tail .head))))).mono fun _ h => (h.2 x hmem).i) Try.underlying22 (by rw [flat_length icell_len]) (by decide)) (by have := hmok.i; omega)) ?_
        rintro _ _ ⟨ra, rc, rfl, rn, rfl⟩
        refine .alter (t := 51) (v' := .slice ra x.m.ints.length rc) rfl (by rw [Nat.zero_add]) ?_
        refine .rd (.fieldAddr fd47_3 rfl) ?_
        refine .rd (.fieldAddr fd32_20 rfl) ?_
        refine .ef0 (.store ts22 rfl rfl (.tail .head) rfl (Nat.le_of_ble_eq_true rfl)) ?_
        rintro _ _ rfl
        refine .cast (X' := blk b7 (opc ⟨x.kind, x.a, x.b, x.m, { x.s with ai := ra, ci := rc }⟩) 47) rfl ?_
        refine .nil ?_
        refine .dup (.tail (.tail (.tail (.tail .head)))) ?_
        refine .close (X := know (mat x.m x.s)) (.cons (.tail .head) .nil) (fun h H => Scr_know hmem H) ?_
        refine .settle (.tail (.tail (.tail .head))) Settles.arr ?_
        refine .close (X := know (mat x.m { x.s with ai := ra, ci := rc })) (.cons .head (.cons .head .nil)) (fun h H => mat_ints H) ?_
        refine .draws [2, 6] [blk b7 (opc ⟨x.kind, x.a, x.b, x.m, { x.s with ai := ra, ci := rc }⟩) 47] (by kernel_rfl) ?_   -- R17 law.go:97
        refine .rp 0 rfl (by kernel_rfl) (by kernel_rfl) (by kernel_rfl) (Reads.pure (.move rfl)) ?_
        refine .rp 1 rfl (by kernel_rfl) (by kernel_rfl) (by kernel_rfl) (Reads.pure (.fieldAddr fd47_3 rfl)) ?_
        refine .rd 2 rfl rfl (by kernel_rfl) (by kernel_rfl) (by kernel_rfl) (.loadN ia32 ts32 rfl rfl (Knows.blkAt .head (o := 3) (cs := mval x.m { x.s with ai := ra, ci := rc }) (fun i v hv => by rw [Nat.add_comm]; exact hv))) (.cons (.tail (.tail .head)) .nil) ?_
        refine .rp 4 rfl (by kernel_rfl) (by kernel_rfl) (by kernel_rfl) (Reads.pure (.move rfl)) ?_
        refine .rp 5 rfl (by kernel_rfl) (by kernel_rfl) (by kernel_rfl) (Reads.pure (.fieldAddr fd47_3 rfl)) ?_
        refine .rd 6 rfl rfl (by kernel_rfl) (by kernel_rfl) (by kernel_rfl) (.loadN ia32 ts32 rfl rfl (Knows.blkAt .head (o := 3) (cs := mval x.m { x.s with ai := ra, ci := rc }) (fun i v hv => by rw [Nat.add_comm]; exact hv))) (.cons (.tail (.tail .head)) .nil) ?_
        refine .ef 3 (by kernel_rfl) rfl (.fn rfl rfl (.cons (.tail (.tail (.tail .head))) .nil) (Knows.know .head) (Send_pl hmok)) ?_
        rintro v _ ⟨G1, hq, rfl⟩
        obtain ⟨ps', hS, rfl, rfl⟩ := hq
        simp only [List.cons_append, List.nil_append]
        refine ⟨.inr ⟨_, (.cons (.tail (.tail (.tail .head))) .nil)⟩, ?_⟩
        refine .ef 7 (by kernel_rfl) rfl (.fn rfl rfl (.cons (.tail (.tail (.tail (.tail .head)))) (.cons (.tail .head) .nil)) (fun _ _ _ => trivial) (rSend_pl (by omega))) ?_
        rintro v _ ⟨G1, hq, rfl⟩
        obtain ⟨rfl, rfl⟩ := hq
        simp only [List.cons_append, List.nil_append]
        refine ⟨.inl (by kernel_rfl), ?_⟩
        refine .rp 8 rfl (by kernel_rfl) (by kernel_rfl) (by kernel_rfl) (Reads.pure (.eqB Try.underlying4 rfl rfl)) ?_
        refine .alter (t := 62) (v' := .bool true) rfl (by rw [hPL.sent]; simp) ?_
        refine .rp 9 rfl (by kernel_rfl) (by kernel_rfl) (by kernel_rfl) (Reads.pure (.assign rfl)) ?_
        refine .done (by kernel_rfl) ?_
        refine .inBlock ?_
        refine .seq ?_
        have hP2 := (hPL.send (s := { x.s with ai := ra, ci := rc }) hmok hS).step
        generalize (if rsent qs ap x.m = true then qs ++ [(x.m, { x.s with ai := ra, ci := rc })] else qs) = qs' at hP2 ⊢
        have hlen2 := hP2.cnt.len
        have hqlen2 := hP2.len
        have hapl2 := hP2.apl
        refine .open_ .head rnet_open (fun x' _ => ?_)
        obtain ⟨sa, sc, pa, pc⟩ := x'
        simp only [List.cons_append, List.nil_append]
        refine .draws [5] [blk b18 [.slice sa qs'.length sc, .slice pa ap.length pc] 45] (by kernel_rfl) ?_   -- R32 law.go:112
        refine .rp 0 rfl (by kernel_rfl) (by kernel_rfl) (by kernel_rfl) (Reads.pure (.move rfl)) ?_
        refine .rp 2 rfl (by kernel_rfl) (by kernel_rfl) (by kernel_rfl) (Reads.pure (.move rfl)) ?_
        refine .rp 3 rfl (by kernel_rfl) (by kernel_rfl) (by kernel_rfl) (Reads.pure (.nilCheck rfl)) ?_
        refine .rp 4 rfl (by kernel_rfl) (by kernel_rfl) (by kernel_rfl) (Reads.pure (.fieldAddr fd45_0 rfl)) ?_
        refine .rd 5 rfl rfl (by kernel_rfl) (by kernel_rfl) (by kernel_rfl) (.ld na42 rfl .head rfl) (.cons .head .nil) ?_
        refine .ef 1 (by kernel_rfl) rfl (.fn rfl rfl (.cons (.tail (.tail (.tail (.tail .head)))) .nil) (fun _ _ _ => trivial) (All_ok n ps' pt hlen2 hP2.cnt.ok)) ?_
        rintro v _ ⟨G1, hq, rfl⟩
        obtain ⟨aa, ac, al, hal, rfl, rfl⟩ := hq
        simp only [List.cons_append, List.nil_append]
        have hall : al.length = ps'.length := by have := congrArg List.length hal; simpa using this
        have hokal : ∀ p ∈ al, p.1.ok := oks_of hal hP2.cnt.ok
        refine ⟨.inr ⟨_, (.cons (.tail (.tail (.tail .head))) .nil)⟩, ?_⟩
        refine .ef 6 (by kernel_rfl) rfl (.fn rfl rfl .nil (fun A w h => ⟨Knows.arr (.tail .head) A w h, Knows.arr (.tail (.tail (.tail (.tail .head)))) A w h, owms_all (.tail (.tail .head)) A w h, Knows.know (.tail (.tail (.tail (.tail (.tail (.tail .head)))))) A w h⟩) (same_ok aa sa ac sc al qs' (hal.trans hP2.eq) hokal (by omega))) ?_
        rintro v _ ⟨G1, hq, rfl⟩
        obtain ⟨rfl, rfl⟩ := hq
        simp only [List.nil_append]
        refine ⟨.inl (by kernel_rfl), ?_⟩
        refine .rp 7 rfl (by kernel_rfl) (by kernel_rfl) (by kernel_rfl) (Reads.pure (.assign rfl)) ?_
        refine .done (by kernel_rfl) ?_
        refine .seq ?_
        refine .draws [12, 19, 21, 25, 27] [blk b18 [.slice sa qs'.length sc, .slice pa ap.length pc] 45, blk b7 (opc ⟨x.kind, x.a, x.b, x.m, { x.s with ai := ra, ci := rc }⟩) 47] (by kernel_rfl) ?_   -- R33 law.go:113
        refine .rp 0 rfl (by kernel_rfl) (by kernel_rfl) (by kernel_rfl) (Reads.pure (.move rfl)) ?_
        refine .rp 1 rfl (by kernel_rfl) (by kernel_rfl) (by kernel_rfl) (Reads.pure (.not rfl)) ?_
        refine .rp 2 rfl (by kernel_rfl) (by kernel_rfl) (by kernel_rfl) (Reads.pure (.move rfl)) ?_
        refine .rpG 3 (t := 137) rfl rfl rfl (by kernel_rfl) (by kernel_rfl) (by kernel_rfl) (Reads.pure (.move rfl)) ?_
        refine .rpG 4 (t := 137) rfl rfl rfl (by kernel_rfl) (by kernel_rfl) (by kernel_rfl) (Reads.pure (.not rfl)) ?_
        refine .rp 5 rfl (by kernel_rfl) (by kernel_rfl) (by kernel_rfl) (Reads.pure (.pickF rfl rfl)) ?_
        refine .rp 6 rfl (by kernel_rfl) (by kernel_rfl) (by kernel_rfl) (Reads.pure (.move rfl)) ?_
        refine .rpG 7 (t := 141) rfl rfl rfl (by kernel_rfl) (by kernel_rfl) (by kernel_rfl) (Reads.pure (.move rfl)) ?_
        refine .rpG 9 (t := 141) rfl rfl rfl (by kernel_rfl) (by kernel_rfl) (by kernel_rfl) (Reads.pure (.move rfl)) ?_
        refine .rpG 10 (t := 141) rfl rfl rfl (by kernel_rfl) (by kernel_rfl) (by kernel_rfl) (Reads.pure (.nilCheck rfl)) ?_
        refine .rpG 11 (t := 141) rfl rfl rfl (by kernel_rfl) (by kernel_rfl) (by kernel_rfl) (Reads.pure (.fieldAddr fd45_0 rfl)) ?_
        refine .rdG 12 (t := 141) rfl rfl rfl rfl (by kernel_rfl) (by kernel_rfl) (by kernel_rfl) (.ld na42 rfl .head rfl) (.cons (.tail (.tail (.tail .head))) (.cons (.tail (.tail (.tail (.tail (.tail (.tail (.tail .head))))))) .nil)) ?_
        refine .rpG 13 (t := 141) rfl rfl rfl (by kernel_rfl) (by kernel_rfl) (by kernel_rfl) (Reads.pure (.lenL rfl rfl Try.underlying42 rfl)) ?_
        refine .efG 8 (t := 141) (by kernel_rfl) rfl rfl rfl (.fn rfl rfl (.cons .head .nil) (fun _ _ _ => trivial) (Len_ok n ps' pt)) ?_
        rintro v _ ⟨G1, hq, rfl⟩
        obtain ⟨rfl, rfl⟩ := hq
        simp only [List.cons_append, List.nil_append]
        refine ⟨.inr ⟨_, (.cons (.tail (.tail (.tail .head))) (.cons (.tail (.tail (.tail (.tail (.tail (.tail (.tail .head))))))) .nil))⟩, ?_⟩
        refine .rpG 14 (t := 141) rfl rfl rfl (by kernel_rfl) (by kernel_rfl) (by kernel_rfl) (Reads.pure (.neI rfl rfl)) ?_
        refine .alter (t := 149) (v' := .bool false) rfl (by rw [decide_eq_true (by omega)]; rfl) ?_
        refine .rp 15 rfl (by kernel_rfl) (by kernel_rfl) (by kernel_rfl) (Reads.pure (.pickF rfl rfl)) ?_
        refine .rp 16 rfl (by kernel_rfl) (by kernel_rfl) (by kernel_rfl) (Reads.pure (.move rfl)) ?_
        refine .rpG 17 (t := 151) rfl rfl rfl (by kernel_rfl) (by kernel_rfl) (by kernel_rfl) (Reads.pure (.move rfl)) ?_
        refine .rpG 18 (t := 151) rfl rfl rfl (by kernel_rfl) (by kernel_rfl) (by kernel_rfl) (Reads.pure (.fieldAddr fd47_1 rfl)) ?_
        refine .rdG 19 (t := 151) rfl rfl rfl rfl (by kernel_rfl) (by kernel_rfl) (by kernel_rfl) (.ld na3 rfl (.tail .head) rfl) (.cons (.tail (.tail (.tail .head))) (.cons (.tail (.tail (.tail (.tail (.tail (.tail (.tail .head))))))) .nil)) ?_
        refine .rpG 20 (t := 151) rfl rfl rfl (by kernel_rfl) (by kernel_rfl) (by kernel_rfl) (Reads.pure (.fieldAddr fd47_2 rfl)) ?_
        refine .rdG 21 (t := 151) rfl rfl rfl rfl (by kernel_rfl) (by kernel_rfl) (by kernel_rfl) (.ld na3 rfl (.tail .head) rfl) (.cons (.tail (.tail (.tail .head))) (.cons (.tail (.tail (.tail (.tail (.tail (.tail (.tail .head))))))) .nil)) ?_
        refine .rpG 23 (t := 151) rfl rfl rfl (by kernel_rfl) (by kernel_rfl) (by kernel_rfl) (Reads.pure (.move rfl)) ?_
        refine .rpG 24 (t := 151) rfl rfl rfl (by kernel_rfl) (by kernel_rfl) (by kernel_rfl) (Reads.pure (.fieldAddr fd47_1 rfl)) ?_
        refine .rdG 25 (t := 151) rfl rfl rfl rfl (by kernel_rfl) (by kernel_rfl) (by kernel_rfl) (.ld na3 rfl (.tail .head) rfl) (.cons (.tail (.tail (.tail .head))) (.cons (.tail (.tail (.tail (.tail (.tail (.tail (.tail .head))))))) .nil)) ?_
        refine .rpG 26 (t := 151) rfl rfl rfl (by kernel_rfl) (by kernel_rfl) (by kernel_rfl) (Reads.pure (.fieldAddr fd47_2 rfl)) ?_
        refine .rdG 27 (t := 151) rfl rfl rfl rfl (by kernel_rfl) (by kernel_rfl) (by kernel_rfl) (.ld na3 rfl (.tail .head) rfl) (.cons (.tail (.tail (.tail .head))) (.cons (.tail (.tail (.tail (.tail (.tail (.tail (.tail .head))))))) .nil)) ?_
        refine .efG 22 (t := 151) (by kernel_rfl) rfl rfl rfl (.fn rfl rfl (.cons .head .nil) (fun _ _ _ => trivial) (Parted_ok n ps' pt x.a x.b)) ?_
        rintro v _ ⟨G1, hq, rfl⟩
        obtain ⟨rfl, rfl⟩ := hq
        simp only [List.cons_append, List.nil_append]
        refine ⟨.inr ⟨_, (.cons (.tail (.tail (.tail .head))) (.cons (.tail (.tail (.tail (.tail (.tail (.tail (.tail .head))))))) .nil))⟩, ?_⟩
        refine .close (.cons (.tail (.tail (.tail .head))) (.cons (.tail (.tail (.tail .head))) (.cons (.tail (.tail (.tail .head))) (.cons (.tail (.tail (.tail .head))) .nil)))) (rnet_close _ _ _ _) ?_
        refine .efG 28 (t := 151) (by kernel_rfl) rfl rfl rfl (.fn rfl rfl (.cons .head .nil) (fun _ _ _ => trivial) (rParted_ok b18 qs' ap x.a x.b (by omega))) ?_
        rintro v _ ⟨G1, hq, rfl⟩
        obtain ⟨rfl, rfl⟩ := hq
        simp only [List.cons_append, List.nil_append]
        refine ⟨.inl (by kernel_rfl), ?_⟩
        refine .rpG 29 (t := 151) rfl rfl rfl (by kernel_rfl) (by kernel_rfl) (by kernel_rfl) (Reads.pure (.neB Try.underlying4 rfl rfl)) ?_
        refine .alter (t := 164) (v' := .bool false) rfl (by rw [hP2.parted]; simp) ?_
        refine .rp 30 rfl (by kernel_rfl) (by kernel_rfl) (by kernel_rfl) (Reads.pure (.pickF rfl rfl)) ?_
        refine .done (by kernel_rfl) ?_
        refine .condF rfl ?_
        refine .skip ?_
        refine .inBlock ?_
        refine .region ?_   -- R8 law.go:91
        refine .rd (.move rfl) ?_
        refine .rd (.add rfl rfl (by omega) (by omega)) ?_
        refine .rd (.assign rfl) ?_
        refine .nil ?_
        exact (ih (i + 1, ps', pt, qs', ap) ⟨by show i + 1 ≤ _; omega, by show i + 1 ≤ 700; omega, hP2⟩ (by show l.length - (i + 1) < l.length - i; omega)).to (.cons rfl (.cons rfl (.cons rfl (.cons rfl .nil)))) (.cons (.tail .head) (.cons .head (.cons (.tail (.tail .head)) (.cons (.tail (.tail (.tail .head))) .nil))))
      · refine .seq ?_
        refine .region ?_   -- R13 law.go:95
        refine .rd (.eqI rfl rfl) ?_
        refine .rd (.assign rfl) ?_
        refine .nil ?_
        refine .condP rfl (fun h13 => ?_) (fun h13 => ?_)
        · refine .alter (t := 42) (v' := .bool true) rfl (by rw [decide_eq_true h13]) ?_
          refine .skip ?_
          refine .condT rfl ?_
          refine .seq ?_
          refine .region ?_   -- R16 law.go:96
          refine .ef (.buildNone Try.underlying22 ti3) ?_
          rintro _ _ ⟨il, rfl, rfl⟩
          refine .blkArr 1 0 .head rfl ?_
          refine .rd (.fieldAddr fd47_3 rfl) ?_
          refine .rd (.fieldAddr fd32_20 rfl) ?_
          refine .rd (.ld na22 rfl (.tail .head) rfl) ?_
          refine .ef (.append rfl rfl Try.underlying22 ti3 rfl (ones.of rfl) (by decide) (by decide) rfl rfl .head (n := 0) (m := x.m.ints.length) rfl (.srcRow ((Knows.know (.tail (.tail (.tail (.tail .head))))).mono fun _ h => (h.2 x hmem).i) Try.underlying22 (by rw [flat_length icell_len]) (by decide)) (by have := hmok.i; omega)) ?_
          rintro _ _ ⟨ra, rc, rfl, rn, rfl⟩
          refine .alter (t := 51) (v' := .slice ra x.m.ints.length rc) rfl (by rw [Nat.zero_add]) ?_
          refine .rd (.fieldAddr fd47_3 rfl) ?_
          refine .rd (.fieldAddr fd32_20 rfl) ?_
          refine .ef0 (.store ts22 rfl rfl (.tail .head) rfl (Nat.le_of_ble_eq_true rfl)) ?_
          rintro _ _ rfl
          refine .cast (X' := blk b7 (opc ⟨x.kind, x.a, x.b, x.m, { x.s with ai := ra, ci := rc }⟩) 47) rfl ?_
          refine .nil ?_
          refine .dup (.tail (.tail (.tail (.tail .head)))) ?_
          refine .close (X := know (mat x.m x.s)) (.cons (.tail .head) .nil) (fun h H => Scr_know hmem H) ?_
          refine .settle (.tail (.tail (.tail .head))) Settles.arr ?_
          refine .close (X := know (mat x.m { x.s with ai := ra, ci := rc })) (.cons .head (.cons .head .nil)) (fun h H => mat_ints H) ?_
          refine .draws [2, 6] [blk b7 (opc ⟨x.kind, x.a, x.b, x.m, { x.s with ai := ra, ci := rc }⟩) 47] (by kernel_rfl) ?_   -- R17 law.go:97
          refine .rp 0 rfl (by kernel_rfl) (by kernel_rfl) (by kernel_rfl) (Reads.pure (.move rfl)) ?_
          refine .rp 1 rfl (by kernel_rfl) (by kernel_rfl) (by kernel_rfl) (Reads.pure (.fieldAddr fd47_3 rfl)) ?_
          refine .rd 2 rfl rfl (by kernel_rfl) (by kernel_rfl) (by kernel_rfl) (.loadN ia32 ts32 rfl rfl (Knows.blkAt .head (o := 3) (cs := mval x.m { x.s with ai := ra, ci := rc }) (fun i v hv => by rw [Nat.add_comm]; exact hv))) (.cons (.tail (.tail .head)) .nil) ?_
          refine .rp 4 rfl (by kernel_rfl) (by kernel_rfl) (by kernel_rfl) (Reads.pure (.move rfl)) ?_
          refine .rp 5 rfl (by kernel_rfl) (by kernel_rfl) (by kernel_rfl) (Reads.pure (.fieldAddr fd47_3 rfl)) ?_
          refine .rd 6 rfl rfl (by kernel_rfl) (by kernel_rfl) (by kernel_rfl) (.loadN ia32 ts32 rfl rfl (Knows.blkAt .head (o := 3) (cs := mval x.m { x.s with ai := ra, ci := rc }) (fun i v hv => by rw [Nat.add_comm]; exact hv))) (.cons (.tail (.tail .head)) .nil) ?_
          refine .ef 3 (by kernel_rfl) rfl (.fn rfl rfl (.cons (.tail (.tail (.tail .head))) .nil) (Knows.know .head) (Send_pl hmok)) ?_
          rintro v _ ⟨G1, hq, rfl⟩
          obtain ⟨ps', hS, rfl, rfl⟩ := hq
          simp only [List.cons_append, List.nil_append]
          refine ⟨.inr ⟨_, (.cons (.tail (.tail (.tail .head))) .nil)⟩, ?_⟩
          refine .ef 7 (by kernel_rfl) rfl (.fn rfl rfl (.cons (.tail (.tail (.tail (.tail .head)))) (.cons (.tail .head) .nil)) (fun _ _ _ => trivial) (rSend_pl (by omega))) ?_
          rintro v _ ⟨G1, hq, rfl⟩
          obtain ⟨rfl, rfl⟩ := hq
          simp only [List.cons_append, List.nil_append]
          refine ⟨.inl (by kernel_rfl), ?_⟩
          refine .rp 8 rfl (by kernel_rfl) (by kernel_rfl) (by kernel_rfl) (Reads.pure (.eqB Try.underlying4 rfl rfl)) ?_
          refine .alter (t := 62) (v' := .bool true) rfl (by rw [hPL.sent]; simp) ?_
          refine .rp 9 rfl (by kernel_rfl) (by kernel_rfl) (by kernel_rfl) (Reads.pure (.assign rfl)) ?_
          refine .done (by kernel_rfl) ?_
          refine .inBlock ?_
          refine .seq ?_
          have hP2 := (hPL.send (s := { x.s with ai := ra, ci := rc }) hmok hS).step
          generalize (if rsent qs ap x.m = true then qs ++ [(x.m, { x.s with ai := ra, ci := rc })] else qs) = qs' at hP2 ⊢
          have hlen2 := hP2.cnt.len
          have hqlen2 := hP2.len
          have hapl2 := hP2.apl
          refine .open_ .head rnet_open (fun x' _ => ?_)
          obtain ⟨sa, sc, pa, pc⟩ := x'
          simp only [List.cons_append, List.nil_append]
          refine .draws [5] [blk b18 [.slice sa qs'.length sc, .slice pa ap.length pc] 45] (by kernel_rfl) ?_   -- R32 law.go:112
          refine .rp 0 rfl (by kernel_rfl) (by kernel_rfl) (by kernel_rfl) (Reads.pure (.move rfl)) ?_
          refine .rp 2 rfl (by kernel_rfl) (by kernel_rfl) (by kernel_rfl) (Reads.pure (.move rfl)) ?_
          refine .rp 3 rfl (by kernel_rfl) (by kernel_rfl) (by kernel_rfl) (Reads.pure (.nilCheck rfl)) ?_
          refine .rp 4 rfl (by kernel_rfl) (by kernel_rfl) (by kernel_rfl) (Reads.pure (.fieldAddr fd45_0 rfl)) ?_
          refine .rd 5 rfl rfl (by kernel_rfl) (by kernel_rfl) (by kernel_rfl) (.ld na42 rfl .head rfl) (.cons .head .nil) ?_
          refine .ef 1 (by kernel_rfl) rfl (.fn rfl rfl (.cons (.tail (.tail (.tail (.tail .head)))) .nil) (fun _ _ _ => trivial) (All_ok n ps' pt hlen2 hP2.cnt.ok)) ?_
          rintro v _ ⟨G1, hq, rfl⟩
          obtain ⟨aa, ac, al, hal, rfl, rfl⟩ := hq
          simp only [List.cons_append, List.nil_append]
          have hall : al.length = ps'.length := by have := congrArg List.length hal; simpa using this
          have hokal : ∀ p ∈ al, p.1.ok := oks_of hal hP2.cnt.ok
          refine ⟨.inr ⟨_, (.cons (.tail (.tail (.tail .head))) .nil)⟩, ?_⟩
          refine .ef 6 (by kernel_rfl) rfl (.fn rfl rfl .nil (fun A w h => ⟨Knows.arr (.tail .head) A w h, Knows.arr (.tail (.tail (.tail (.tail .head)))) A w h, owms_all (.tail (.tail .head)) A w h, Knows.know (.tail (.tail (.tail (.tail (.tail (.tail .head)))))) A w h⟩) (same_ok aa sa ac sc al qs' (hal.trans hP2.eq) hokal (by omega))) ?_
          rintro v _ ⟨G1, hq, rfl⟩
          obtain ⟨rfl, rfl⟩ := hq
          simp only [List.nil_append]
          refine ⟨.inl (by kernel_rfl), ?_⟩
          refine .rp 7 rfl (by kernel_rfl) (by kernel_rfl) (by kernel_rfl) (Reads.pure (.assign rfl)) ?_
          refine .done (by kernel_rfl) ?_
          refine .seq ?_
          refine .draws [12, 19, 21, 25, 27] [blk b18 [.slice sa qs'.length sc, .slice pa ap.length pc] 45, blk b7 (opc ⟨x.kind, x.a, x.b, x.m, { x.s with ai := ra, ci := rc }⟩) 47] (by kernel_rfl) ?_   -- R33 law.go:113
          refine .rp 0 rfl (by kernel_rfl) (by kernel_rfl) (by kernel_rfl) (Reads.pure (.move rfl)) ?_
          refine .rp 1 rfl (by kernel_rfl) (by kernel_rfl) (by kernel_rfl) (Reads.pure (.not rfl)) ?_
          refine .rp 2 rfl (by kernel_rfl) (by kernel_rfl) (by kernel_rfl) (Reads.pure (.move rfl)) ?_
          refine .rpG 3 (t := 137) rfl rfl rfl (by kernel_rfl) (by kernel_rfl) (by kernel_rfl) (Reads.pure (.move rfl)) ?_
          refine .rpG 4 (t := 137) rfl rfl rfl (by kernel_rfl) (by kernel_rfl) (by kernel_rfl) (Reads.pure (.not rfl)) ?_
          refine .rp 5 rfl (by kernel_rfl) (by kernel_rfl) (by kernel_rfl) (Reads.pure (.pickF rfl rfl)) ?_
          refine .rp 6 rfl (by kernel_rfl) (by kernel_rfl) (by kernel_rfl) (Reads.pure (.move rfl)) ?_
          refine .rpG 7 (t := 141) rfl rfl rfl (by kernel_rfl) (by kernel_rfl) (by kernel_rfl) (Reads.pure (.move rfl)) ?_
          refine .rpG 9 (t := 141) rfl rfl rfl (by kernel_rfl) (by kernel_rfl) (by kernel_rfl) (Reads.pure (.move rfl)) ?_
          refine .rpG 10 (t := 141) rfl rfl rfl (by kernel_rfl) (by kernel_rfl) (by kernel_rfl) (Reads.pure (.nilCheck rfl)) ?_
          refine .rpG 11 (t := 141) rfl rfl rfl (by kernel_rfl) (by kernel_rfl) (by kernel_rfl) (Reads.pure (.fieldAddr fd45_0 rfl)) ?_
          refine .rdG 12 (t := 141) rfl rfl rfl rfl (by kernel_rfl) (by kernel_rfl) (by kernel_rfl) (.ld na42 rfl .head rfl) (.cons (.tail (.tail (.tail .head))) (.cons (.tail (.tail (.tail (.tail (.tail (.tail (.tail .head))))))) .nil)) ?_
          refine .rpG 13 (t := 141) rfl rfl rfl (by kernel_rfl) (by kernel_rfl) (by kernel_rfl) (Reads.pure (.lenL rfl rfl Try.underlying42 rfl)) ?_
          refine .efG 8 (t := 141) (by kernel_rfl) rfl rfl rfl (.fn rfl rfl (.cons .head .nil) (fun _ _ _ => trivial) (Len_ok n ps' pt)) ?_
          rintro v _ ⟨G1, hq, rfl⟩
          obtain ⟨rfl, rfl⟩ := hq
          simp only [List.cons_append, List.nil_append]
          refine ⟨.inr ⟨_, (.cons (.tail (.tail (.tail .head))) (.cons (.tail (.tail (.tail (.tail (.tail (.tail (.tail .head))))))) .nil))⟩, ?_⟩
          refine .rpG 14 (t := 141) rfl rfl rfl (by kernel_rfl) (by kernel_rfl) (by kernel_rfl) (Reads.pure (.neI rfl rfl)) ?_
          refine .alter (t := 149) (v' := .bool false) rfl (by rw [decide_eq_true (by omega)]; rfl) ?_
          refine .rp 15 rfl (by kernel_rfl) (by kernel_rfl) (by kernel_rfl) (Reads.pure (.pickF rfl rfl)) ?_
          refine .rp 16 rfl (by kernel_rfl) (by kernel_rfl) (by kernel_rfl) (Reads.pure (.move rfl)) ?_
          refine .rpG 17 (t := 151) rfl rfl rfl (by kernel_rfl) (by kernel_rfl) (by kernel_rfl) (Reads.pure (.move rfl)) ?_
          refine .rpG 18 (t := 151) rfl rfl rfl (by kernel_rfl) (by kernel_rfl) (by kernel_rfl) (Reads.pure (.fieldAddr fd47_1 rfl)) ?_
          refine .rdG 19 (t := 151) rfl rfl rfl rfl (by kernel_rfl) (by kernel_rfl) (by kernel_rfl) (.ld na3 rfl (.tail .head) rfl) (.cons (.tail (.tail (.tail .head))) (.cons (.tail (.tail (.tail (.tail (.tail (.tail (.tail .head))))))) .nil)) ?_
          refine .rpG 20 (t := 151) rfl rfl rfl (by kernel_rfl) (by kernel_rfl) (by kernel_rfl) (Reads.pure (.fieldAddr fd47_2 rfl)) ?_
          refine .rdG 21 (t := 151) rfl rfl rfl rfl (by kernel_rfl) (by kernel_rfl) (by kernel_rfl) (.ld na3 rfl (.tail .head) rfl) (.cons (.tail (.tail (.tail .head))) (.cons (.tail (.tail (.tail (.tail (.tail (.tail (.tail .head))))))) .nil)) ?_
          refine .rpG 23 (t := 151) rfl rfl rfl (by kernel_rfl) (by kernel_rfl) (by kernel_rfl) (Reads.pure (.move rfl)) ?_
          refine .rpG 24 (t := 151) rfl rfl rfl (by kernel_rfl) (by kernel_rfl) (by kernel_rfl) (Reads.pure (.fieldAddr fd47_1 rfl)) ?_
          refine .rdG 25 (t := 151) rfl rfl rfl rfl (by kernel_rfl) (by kernel_rfl) (by kernel_rfl) (.ld na3 rfl (.tail .head) rfl) (.cons (.tail (.tail (.tail .head))) (.cons (.tail (.tail (.tail (.tail (.tail (.tail (.tail .head))))))) .nil)) ?_
          refine .rpG 26 (t := 151) rfl rfl rfl (by kernel_rfl) (by kernel_rfl) (by kernel_rfl) (Reads.pure (.fieldAddr fd47_2 rfl)) ?_
          refine .rdG 27 (t := 151) rfl rfl rfl rfl (by kernel_rfl) (by kernel_rfl) (by kernel_rfl) (.ld na3 rfl (.tail .head) rfl) (.cons (.tail (.tail (.tail .head))) (.cons (.tail (.tail (.tail (.tail (.tail (.tail (.tail .head))))))) .nil)) ?_
          refine .efG 22 (t := 151) (by kernel_rfl) rfl rfl rfl (.fn rfl rfl (.cons .head .nil) (fun _ _ _ => trivial) (Parted_ok n ps' pt x.a x.b)) ?_
          rintro v _ ⟨G1, hq, rfl⟩
          obtain ⟨rfl, rfl⟩ := hq
          simp only [List.cons_append, List.nil_append]
          refine ⟨.inr ⟨_, (.cons (.tail (.tail (.tail .head))) (.cons (.tail (.tail (.tail (.tail (.tail (.tail (.tail .head))))))) .nil))⟩, ?_⟩
          refine .close (.cons (.tail (.tail (.tail .head))) (.cons (.tail (.tail (.tail .head))) (.cons (.tail (.tail (.tail .head))) (.cons (.tail (.tail (.tail .head))) .nil)))) (rnet_close _ _ _ _) ?_
          refine .efG 28 (t := 151) (by kernel_rfl) rfl rfl rfl (.fn rfl rfl (.cons .head .nil) (fun _ _ _ => trivial) (rParted_ok b18 qs' ap x.a x.b (by omega))) ?_
          rintro v _ ⟨G1, hq, rfl⟩
          obtain ⟨rfl, rfl⟩ := hq
          simp only [List.cons_append, List.nil_append]
          refine ⟨.inl (by kernel_rfl), ?_⟩
          refine .rpG 29 (t := 151) rfl rfl rfl (by kernel_rfl) (by kernel_rfl) (by kernel_rfl) (Reads.pure (.neB Try.underlying4 rfl rfl)) ?_
          refine .alter (t := 164) (v' := .bool false) rfl (by rw [hP2.parted]; simp) ?_
          refine .rp 30 rfl (by kernel_rfl) (by kernel_rfl) (by kernel_rfl) (Reads.pure (.pickF rfl rfl)) ?_
          refine .done (by kernel_rfl) ?_
          refine .condF rfl ?_
          refine .skip ?_
          refine .inBlock ?_
          refine .region ?_   -- R8 law.go:91
          refine .rd (.move rfl) ?_
          refine .rd (.add rfl rfl (by omega) (by omega)) ?_
          refine .rd (.assign rfl) ?_
          refine .nil ?_
          exact (ih (i + 1, ps', pt, qs', ap) ⟨by show i + 1 ≤ _; omega, by show i + 1 ≤ 700; omega, hP2⟩ (by show l.length - (i + 1) < l.length - i; omega)).to (.cons rfl (.cons rfl (.cons rfl (.cons rfl .nil)))) (.cons (.tail .head) (.cons .head (.cons (.tail (.tail .head)) (.cons (.tail (.tail (.tail .head))) .nil))))
        · refine .seq ?_
          refine .region ?_   -- R14 law.go:95
          refine .rd (.eqI rfl rfl) ?_
          refine .rd (.assign rfl) ?_
          refine .nil ?_
          refine .condP rfl (fun h14 => ?_) (fun h14 => ?_)
          · refine .alter (t := 42) (v' := .bool true) rfl (by rw [decide_eq_true h14]) ?_
            refine .skip ?_
            refine .condT rfl ?_
            refine .seq ?_
            refine .region ?_   -- R16 law.go:96
            refine .ef (.buildNone Try.underlying22 ti3) ?_
            rintro _ _ ⟨il, rfl, rfl⟩
            refine .blkArr 1 0 .head rfl ?_
            refine .rd (.fieldAddr fd47_3 rfl) ?_
            refine .rd (.fieldAddr fd32_20 rfl) ?_
            refine .rd (.ld na22 rfl (.tail .head) rfl) ?_
            refine .ef (.append rfl rfl Try.underlying22 ti3 rfl (ones.of rfl) (by decide) (by decide) rfl rfl .head (n := 0) (m := x.m.ints.length) rfl (.srcRow ((Knows.know (.tail (.tail (.tail (.tail .head))))).mono fun _ h => (h.2 x hmem).i) Try.underlying22 (by rw [flat_length icell_len]) (by decide)) (by have := hmok.i; omega)) ?_
            rintro _ _ ⟨ra, rc, rfl, rn, rfl⟩
            refine .alter (t := 51) (v' := .slice ra x.m.ints.length rc) rfl (by rw [Nat.zero_add]) ?_
            refine .rd (.fieldAddr fd47_3 rfl) ?_
            refine .rd (.fieldAddr fd32_20 rfl) ?_
            refine .ef0 (.store ts22 rfl rfl (.tail .head) rfl (Nat.le_of_ble_eq_true rfl)) ?_
            rintro _ _ rfl
            refine .cast (X' := blk b7 (opc ⟨x.kind, x.a, x.b, x.m, { x.s with ai := ra, ci := rc }⟩) 47) rfl ?_
            refine .nil ?_
            refine .dup (.tail (.tail (.tail (.tail .head)))) ?_
            refine .close (X := know (mat x.m x.s)) (.cons (.tail .head) .nil) (fun h H => Scr_know hmem H) ?_
            refine .settle (.tail (.tail (.tail .head))) Settles.arr ?_
            refine .close (X := know (mat x.m { x.s with ai := ra, ci := rc })) (.cons .head (.cons .head .nil)) (fun h H => mat_ints H) ?_
            refine .draws [2, 6] [blk b7 (opc ⟨x.kind, x.a, x.b, x.m, { x.s with ai := ra, ci := rc }⟩) 47] (by kernel_rfl) ?_   -- R17 law.go:97
            refine .rp 0 rfl (by kernel_rfl) (by kernel_rfl) (by kernel_rfl) (Reads.pure (.move rfl)) ?_
            refine .rp 1 rfl (by kernel_rfl) (by kernel_rfl) (by kernel_rfl) (Reads.pure (.fieldAddr fd47_3 rfl)) ?_
            refine .rd 2 rfl rfl (by kernel_rfl) (by kernel_rfl) (by kernel_rfl) (.loadN ia32 ts32 rfl rfl (Knows.blkAt .head (o := 3) (cs := mval x.m { x.s with ai := ra, ci := rc }) (fun i v hv => by rw [Nat.add_comm]; exact hv))) (.cons (.tail (.tail .head)) .nil) ?_
            refine .rp 4 rfl (by kernel_rfl) (by kernel_rfl) (by kernel_rfl) (Reads.pure (.move rfl)) ?_
            refine .rp 5 rfl (by kernel_rfl) (by kernel_rfl) (by kernel_rfl) (Reads.pure (.fieldAddr fd47_3 rfl)) ?_
            refine .rd 6 rfl rfl (by kernel_rfl) (by kernel_rfl) (by kernel_rfl) (.loadN ia32 ts32 rfl rfl (Knows.blkAt .head (o := 3) (cs := mval x.m { x.s with ai := ra, ci := rc }) (fun i v hv => by rw [Nat.add_comm]; exact hv))) (.cons (.tail (.tail .head)) .nil) ?_
            refine .ef 3 (by kernel_rfl) rfl (.fn rfl rfl (.cons (.tail (.tail (.tail .head))) .nil) (Knows.know .head) (Send_pl hmok)) ?_
            rintro v _ ⟨G1, hq, rfl⟩
            obtain ⟨ps', hS, rfl, rfl⟩ := hq
            simp only [List.cons_append, List.nil_append]
            refine ⟨.inr ⟨_, (.cons (.tail (.tail (.tail .head))) .nil)⟩, ?_⟩
            refine .ef 7 (by kernel_rfl) rfl (.fn rfl rfl (.cons (.tail (.tail (.tail (.tail .head)))) (.cons (.tail .head) .nil)) (fun _ _ _ => trivial) (rSend_pl (by omega))) ?_
            rintro v _ ⟨G1, hq, rfl⟩
            obtain ⟨rfl, rfl⟩ := hq
            simp only [List.cons_append, List.nil_append]
            refine ⟨.inl (by kernel_rfl), ?_⟩
            refine .rp 8 rfl (by kernel_rfl) (by kernel_rfl) (by kernel_rfl) (Reads.pure (.eqB Try.underlying4 rfl rfl)) ?_
            refine .alter (t := 62) (v' := .bool true) rfl (by rw [hPL.sent]; simp) ?_
            refine .rp 9 rfl (by kernel_rfl) (by kernel_rfl) (by kernel_rfl) (Reads.pure (.assign rfl)) ?_
            refine .done (by kernel_rfl) ?_
            refine .inBlock ?_
            refine .seq ?_
            have hP2 := (hPL.send (s := { x.s with ai := ra, ci := rc }) hmok hS).step
            generalize (if rsent qs ap x.m = true then qs ++ [(x.m, { x.s with ai := ra, ci := rc })] else qs) = qs' at hP2 ⊢
            have hlen2 := hP2.cnt.len
            have hqlen2 := hP2.len
            have hapl2 := hP2.apl
            refine .open_ .head rnet_open (fun x' _ => ?_)
            obtain ⟨sa, sc, pa, pc⟩ := x'
            simp only [List.cons_append, List.nil_append]
            refine .draws [5] [blk b18 [.slice sa qs'.length sc, .slice pa ap.length pc] 45] (by kernel_rfl) ?_   -- R32 law.go:112
            refine .rp 0 rfl (by kernel_rfl) (by kernel_rfl) (by kernel_rfl) (Reads.pure (.move rfl)) ?_
            refine .rp 2 rfl (by kernel_rfl) (by kernel_rfl) (by kernel_rfl) (Reads.pure (.move rfl)) ?_
            refine .rp 3 rfl (by kernel_rfl) (by kernel_rfl) (by kernel_rfl) (Reads.pure (.nilCheck rfl)) ?_
            refine .rp 4 rfl (by kernel_rfl) (by kernel_rfl) (by kernel_rfl) (Reads.pure (.fieldAddr fd45_0 rfl)) ?_
            refine .rd 5 rfl rfl (by kernel_rfl) (by kernel_rfl) (by kernel_rfl) (.ld na42 rfl .head rfl) (.cons .head .nil) ?_
            refine .ef 1 (by kernel_rfl) rfl (.fn rfl rfl (.cons (.tail (.tail (.tail (.tail .head)))) .nil) (fun _ _ _ => trivial) (All_ok n ps' pt hlen2 hP2.cnt.ok)) ?_
            rintro v _ ⟨G1, hq, rfl⟩
            obtain ⟨aa, ac, al, hal, rfl, rfl⟩ := hq
            simp only [List.cons_append, List.nil_append]
            have hall : al.length = ps'.length := by have := congrArg List.length hal; simpa using this
            have hokal : ∀ p ∈ al, p.1.ok := oks_of hal hP2.cnt.ok
            refine ⟨.inr ⟨_, (.cons (.tail (.tail (.tail .head))) .nil)⟩, ?_⟩
            refine .ef 6 (by kernel_rfl) rfl (.fn rfl rfl .nil (fun A w h => ⟨Knows.arr (.tail .head) A w h, Knows.arr (.tail (.tail (.tail (.tail .head)))) A w h, owms_all (.tail (.tail .head)) A w h, Knows.know (.tail (.tail (.tail (.tail (.tail (.tail .head)))))) A w h⟩) (same_ok aa sa ac sc al qs' (hal.trans hP2.eq) hokal (by omega))) ?_
            rintro v _ ⟨G1, hq, rfl⟩
            obtain ⟨rfl, rfl⟩ := hq
            simp only [List.nil_append]
            refine ⟨.inl (by kernel_rfl), ?_⟩
            refine .rp 7 rfl (by kernel_rfl) (by kernel_rfl) (by kernel_rfl) (Reads.pure (.assign rfl)) ?_
            refine .done (by kernel_rfl) ?_
            refine .seq ?_
            refine .draws [12, 19, 21, 25, 27] [blk b18 [.slice sa qs'.length sc, .slice pa ap.length pc] 45, blk b7 (opc ⟨x.kind, x.a, x.b, x.m, { x.s with ai := ra, ci := rc }⟩) 47] (by kernel_rfl) ?_   -- R33 law.go:113
            refine .rp 0 rfl (by kernel_rfl) (by kernel_rfl) (by kernel_rfl) (Reads.pure (.move rfl)) ?_
            refine .rp 1 rfl (by kernel_rfl) (by kernel_rfl) (by kernel_rfl) (Reads.pure (.not rfl)) ?_
            refine .rp 2 rfl (by kernel_rfl) (by kernel_rfl) (by kernel_rfl) (Reads.pure (.move rfl)) ?_
            refine .rpG 3 (t := 137) rfl rfl rfl (by kernel_rfl) (by kernel_rfl) (by kernel_rfl) (Reads.pure (.move rfl)) ?_
            refine .rpG 4 (t := 137) rfl rfl rfl (by kernel_rfl) (by kernel_rfl) (by kernel_rfl) (Reads.pure (.not rfl)) ?_
            refine .rp 5 rfl (by kernel_rfl) (by kernel_rfl) (by kernel_rfl) (Reads.pure (.pickF rfl rfl)) ?_
            refine .rp 6 rfl (by kernel_rfl) (by kernel_rfl) (by kernel_rfl) (Reads.pure (.move rfl)) ?_
            refine .rpG 7 (t := 141) rfl rfl rfl (by kernel_rfl) (by kernel_rfl) (by kernel_rfl) (Reads.pure (.move rfl)) ?_
            refine .rpG 9 (t := 141) rfl rfl rfl (by kernel_rfl) (by kernel_rfl) (by kernel_rfl) (Reads.pure (.move rfl)) ?_
            refine .rpG 10 (t := 141) rfl rfl rfl (by kernel_rfl) (by kernel_rfl) (by kernel_rfl) (Reads.pure (.nilCheck rfl)) ?_
            refine .rpG 11 (t := 141) rfl rfl rfl (by kernel_rfl) (by kernel_rfl) (by kernel_rfl) (Reads.pure (.fieldAddr fd45_0 rfl)) ?_
            refine .rdG 12 (t := 141) rfl rfl rfl rfl (by kernel_rfl) (by kernel_rfl) (by kernel_rfl) (.ld na42 rfl .head rfl) (.cons (.tail (.tail (.tail .head))) (.cons (.tail (.tail (.tail (.tail (.tail (.tail (.tail .head))))))) .nil)) ?_
            refine .rpG 13 (t := 141) rfl rfl rfl (by kernel_rfl) (by kernel_rfl) (by kernel_rfl) (Reads.pure (.lenL rfl rfl Try.underlying42 rfl)) ?_
            refine .efG 8 (t := 141) (by kernel_rfl) rfl rfl rfl (.fn rfl rfl (.cons .head .nil) (fun _ _ _ => trivial) (Len_ok n ps' pt)) ?_
            rintro v _ ⟨G1, hq, rfl⟩
            obtain ⟨rfl, rfl⟩ := hq
            simp only [List.cons_append, List.nil_append]
            refine ⟨.inr ⟨_, (.cons (.tail (.tail (.tail .head))) (.cons (.tail (.tail (.tail (.tail (.tail (.tail (.tail .head))))))) .nil))⟩, ?_⟩
            refine .rpG 14 (t := 141) rfl rfl rfl (by kernel_rfl) (by kernel_rfl) (by kernel_rfl) (Reads.pure (.neI rfl rfl)) ?_
            refine .alter (t := 149) (v' := .bool false) rfl (by rw [decide_eq_true (by omega)]; rfl) ?_
            refine .rp 15 rfl (by kernel_rfl) (by kernel_rfl) (by kernel_rfl) (Reads.pure (.pickF rfl rfl)) ?_
            refine .rp 16 rfl (by kernel_rfl) (by kernel_rfl) (by kernel_rfl) (Reads.pure (.move rfl)) ?_
            refine .rpG 17 (t := 151) rfl rfl rfl (by kernel_rfl) (by kernel_rfl) (by kernel_rfl) (Reads.pure (.move rfl)) ?_
            refine .rpG 18 (t := 151) rfl rfl rfl (by kernel_rfl) (by kernel_rfl) (by kernel_rfl) (Reads.pure (.fieldAddr fd47_1 rfl)) ?_
            refine .rdG 19 (t := 151) rfl rfl rfl rfl (by kernel_rfl) (by kernel_rfl) (by kernel_rfl) (.ld na3 rfl (.tail .head) rfl) (.cons (.tail (.tail (.tail .head))) (.cons (.tail (.tail (.tail (.tail (.tail (.tail (.tail .head))))))) .nil)) ?_
            refine .rpG 20 (t := 151) rfl rfl rfl (by kernel_rfl) (by kernel_rfl) (by kernel_rfl) (Reads.pure (.fieldAddr fd47_2 rfl)) ?_
            refine .rdG 21 (t := 151) rfl rfl rfl rfl (by kernel_rfl) (by kernel_rfl) (by kernel_rfl) (.ld na3 rfl (.tail .head) rfl) (.cons (.tail (.tail (.tail .head))) (.cons (.tail (.tail (.tail (.tail (.tail (.tail (.tail .head))))))) .nil)) ?_
            refine .rpG 23 (t := 151) rfl rfl rfl (by kernel_rfl) (by kernel_rfl) (by kernel_rfl) (Reads.pure (.move rfl)) ?_
            refine .rpG 24 (t := 151) rfl rfl rfl (by kernel_rfl) (by kernel_rfl) (by kernel_rfl) (Reads.pure (.fieldAddr fd47_1 rfl)) ?_
            refine .rdG 25 (t := 151) rfl rfl rfl rfl (by kernel_rfl) (by kernel_rfl) (by kernel_rfl) (.ld na3 rfl (.tail .head) rfl) (.cons (.tail (.tail (.tail .head))) (.cons (.tail (.tail (.tail (.tail (.tail (.tail (.tail .head))))))) .nil)) ?_
            refine .rpG 26 (t := 151) rfl rfl rfl (by kernel_rfl) (by kernel_rfl) (by kernel_rfl) (Reads.pure (.fieldAddr fd47_2 rfl)) ?_
            refine .rdG 27 (t := 151) rfl rfl rfl rfl (by kernel_rfl) (by kernel_rfl) (by kernel_rfl) (.ld na3 rfl (.tail .head) rfl) (.cons (.tail (.tail (.tail .head))) (.cons (.tail (.tail (.tail (.tail (.tail (.tail (.tail .head))))))) .nil)) ?_
            refine .efG 22 (t := 151) (by kernel_rfl) rfl rfl rfl (.fn rfl rfl (.cons .head .nil) (fun _ _ _ => trivial) (Parted_ok n ps' pt x.a x.b)) ?_
            rintro v _ ⟨G1, hq, rfl⟩
            obtain ⟨rfl, rfl⟩ := hq
            simp only [List.cons_append, List.nil_append]
            refine ⟨.inr ⟨_, (.cons (.tail (.tail (.tail .head))) (.cons (.tail (.tail (.tail (.tail (.tail (.tail (.tail .head))))))) .nil))⟩, ?_⟩
            refine .close (.cons (.tail (.tail (.tail .head))) (.cons (.tail (.tail (.tail .head))) (.cons (.tail (.tail (.tail .head))) (.cons (.tail (.tail (.tail .head))) .nil)))) (rnet_close _ _ _ _) ?_
            refine .efG 28 (t := 151) (by kernel_rfl) rfl rfl rfl (.fn rfl rfl (.cons .head .nil) (fun _ _ _ => trivial) (rParted_ok b18 qs' ap x.a x.b (by omega))) ?_
            rintro v _ ⟨G1, hq, rfl⟩
            obtain ⟨rfl, rfl⟩ := hq
            simp only [List.cons_append, List.nil_append]
            refine ⟨.inl (by kernel_rfl), ?_⟩
            refine .rpG 29 (t := 151) rfl rfl rfl (by kernel_rfl) (by kernel_rfl) (by kernel_rfl) (Reads.pure (.neB Try.underlying4 rfl rfl)) ?_
            refine .alter (t := 164) (v' := .bool false) rfl (by rw [hP2.parted]; simp) ?_
            refine .rp 30 rfl (by kernel_rfl) (by kernel_rfl) (by kernel_rfl) (Reads.pure (.pickF rfl rfl)) ?_
            refine .done (by kernel_rfl) ?_
            refine .condF rfl ?_
            refine .skip ?_
            refine .inBlock ?_
            refine .region ?_   -- R8 law.go:91
            refine .rd (.move rfl) ?_
            refine .rd (.add rfl rfl (by omega) (by omega)) ?_
            refine .rd (.assign rfl) ?_
            refine .nil ?_
            exact (ih (i + 1, ps', pt, qs', ap) ⟨by show i + 1 ≤ _; omega, by show i + 1 ≤ 700; omega, hP2⟩ (by show l.length - (i + 1) < l.length - i; omega)).to (.cons rfl (.cons rfl (.cons rfl (.cons rfl .nil)))) (.cons (.tail .head) (.cons .head (.cons (.tail (.tail .head)) (.cons (.tail (.tail (.tail .head))) .nil))))
          · refine .region ?_   -- R15 law.go:95
            refine .rd (.eqI rfl rfl) ?_
            refine .rd (.assign rfl) ?_
            refine .nil ?_
            refine .condP rfl (fun h15 => ?_) (fun h15 => ?_)
            · refine .seq ?_
              refine .region ?_   -- R16 law.go:96
              refine .ef (.buildNone Try.underlying22 ti3) ?_
              rintro _ _ ⟨il, rfl, rfl⟩
              refine .blkArr 1 0 .head rfl ?_
              refine .rd (.fieldAddr fd47_3 rfl) ?_
              refine .rd (.fieldAddr fd32_20 rfl) ?_
              refine .rd (.ld na22 rfl (.tail .head) rfl) ?_
              refine .ef (.append rfl rfl Try.underlying22 ti3 rfl (ones.of rfl) (by decide) (by decide) rfl rfl .head (n := 0) (m := x.m.ints.length) rfl (.srcRow ((Knows.know (.tail (.tail (.tail (.tail .head))))).mono fun _ h => (h.2 x hmem).i) Try.underlying22 (by rw [flat_length icell_len]) (by decide)) (by have := hmok.i; omega)) ?_
              rintro _ _ ⟨ra, rc, rfl, rn, rfl⟩
              refine .alter (t := 51) (v' := .slice ra x.m.ints.length rc) rfl (by rw [Nat.zero_add]) ?_
              refine .rd (.fieldAddr fd47_3 rfl) ?_
              refine .rd (.fieldAddr fd32_20 rfl) ?_
              refine .ef0 (.store ts22 rfl rfl (.tail .head) rfl (Nat.le_of_ble_eq_true rfl)) ?_
              rintro _ _ rfl
              refine .cast (X' := blk b7 (opc ⟨x.kind, x.a, x.b, x.m, { x.s with ai := ra, ci := rc }⟩) 47) rfl ?_
              refine .nil ?_
              refine .dup (.tail (.tail (.tail (.tail .head)))) ?_
              refine .close (X := know (mat x.m x.s)) (.cons (.tail .head) .nil) (fun h H => Scr_know hmem H) ?_
              refine .settle (.tail (.tail (.tail .head))) Settles.arr ?_
              refine .close (X := know (mat x.m { x.s with ai := ra, ci := rc })) (.cons .head (.cons .head .nil)) (fun h H => mat_ints H) ?_
              refine .draws [2, 6] [blk b7 (opc ⟨x.kind, x.a, x.b, x.m, { x.s with ai := ra, ci := rc }⟩) 47] (by kernel_rfl) ?_   -- R17 law.go:97
              refine .rp 0 rfl (by kernel_rfl) (by kernel_rfl) (by kernel_rfl) (Reads.pure (.move rfl)) ?_
              refine .rp 1 rfl (by kernel_rfl) (by kernel_rfl) (by kernel_rfl) (Reads.pure (.fieldAddr fd47_3 rfl)) ?_
              refine .rd 2 rfl rfl (by kernel_rfl) (by kernel_rfl) (by kernel_rfl) (.loadN ia32 ts32 rfl rfl (Knows.blkAt .head (o := 3) (cs := mval x.m { x.s with ai := ra, ci := rc }) (fun i v hv => by rw [Nat.add_comm]; exact hv))) (.cons (.tail (.tail .head)) .nil) ?_
              refine .rp 4 rfl (by kernel_rfl) (by kernel_rfl) (by kernel_rfl) (Reads.pure (.move rfl)) ?_
              refine .rp 5 rfl (by kernel_rfl) (by kernel_rfl) (by kernel_rfl) (Reads.pure (.fieldAddr fd47_3 rfl)) ?_
              refine .rd 6 rfl rfl (by kernel_rfl) (by kernel_rfl) (by kernel_rfl) (.loadN ia32 ts32 rfl rfl (Knows.blkAt .head (o := 3) (cs := mval x.m { x.s with ai := ra, ci := rc }) (fun i v hv => by rw [Nat.add_comm]; exact hv))) (.cons (.tail (.tail .head)) .nil) ?_
              refine .ef 3 (by kernel_rfl) rfl (.fn rfl rfl (.cons (.tail (.tail (.tail .head))) .nil) (Knows.know .head) (Send_pl hmok)) ?_
              rintro v _ ⟨G1, hq, rfl⟩
              obtain ⟨ps', hS, rfl, rfl⟩ := hq
              simp only [List.cons_append, List.nil_append]
              refine ⟨.inr ⟨_, (.cons (.tail (.tail (.tail .head))) .nil)⟩, ?_⟩
              refine .ef 7 (by kernel_rfl) rfl (.fn rfl rfl (.cons (.tail (.tail (.tail (.tail .head)))) (.cons (.tail .head) .nil)) (fun _ _ _ => trivial) (rSend_pl (by omega))) ?_
              rintro v _ ⟨G1, hq, rfl⟩
              obtain ⟨rfl, rfl⟩ := hq
              simp only [List.cons_append, List.nil_append]
              refine ⟨.inl (by kernel_rfl), ?_⟩
              refine .rp 8 rfl (by kernel_rfl) (by kernel_rfl) (by kernel_rfl) (Reads.pure (.eqB Try.underlying4 rfl rfl)) ?_
              refine .alter (t := 62) (v' := .bool true) rfl (by rw [hPL.sent]; simp) ?_
              refine .rp 9 rfl (by kernel_rfl) (by kernel_rfl) (by kernel_rfl) (Reads.pure (.assign rfl)) ?_
              refine .done (by kernel_rfl) ?_
              refine .inBlock ?_
              refine .seq ?_
              have hP2 := (hPL.send (s := { x.s with ai := ra, ci := rc }) hmok hS).step
              generalize (if rsent qs ap x.m = true then qs ++ [(x.m, { x.s with ai := ra, ci := rc })] else qs) = qs' at hP2 ⊢
              have hlen2 := hP2.cnt.len
              have hqlen2 := hP2.len
              have hapl2 := hP2.apl
              refine .open_ .head rnet_open (fun x' _ => ?_)
              obtain ⟨sa, sc, pa, pc⟩ := x'
              simp only [List.cons_append, List.nil_append]
              refine .draws [5] [blk b18 [.slice sa qs'.length sc, .slice pa ap.length pc] 45] (by kernel_rfl) ?_   -- R32 law.go:112
              refine .rp 0 rfl (by kernel_rfl) (by kernel_rfl) (by kernel_rfl) (Reads.pure (.move rfl)) ?_
              refine .rp 2 rfl (by kernel_rfl) (by kernel_rfl) (by kernel_rfl) (Reads.pure (.move rfl)) ?_
              refine .rp 3 rfl (by kernel_rfl) (by kernel_rfl) (by kernel_rfl) (Reads.pure (.nilCheck rfl)) ?_
              refine .rp 4 rfl (by kernel_rfl) (by kernel_rfl) (by kernel_rfl) (Reads.pure (.fieldAddr fd45_0 rfl)) ?_
              refine .rd 5 rfl rfl (by kernel_rfl) (by kernel_rfl) (by kernel_rfl) (.ld na42 rfl .head rfl) (.cons .head .nil) ?_
              refine .ef 1 (by kernel_rfl) rfl (.fn rfl rfl (.cons (.tail (.tail (.tail (.tail .head)))) .nil) (fun _ _ _ => trivial) (All_ok n ps' pt hlen2 hP2.cnt.ok)) ?_
              rintro v _ ⟨G1, hq, rfl⟩
              obtain ⟨aa, ac, al, hal, rfl, rfl⟩ := hq
              simp only [List.cons_append, List.nil_append]
              have hall : al.length = ps'.length := by have := congrArg List.length hal; simpa using this
              have hokal : ∀ p ∈ al, p.1.ok := oks_of hal hP2.cnt.ok
              refine ⟨.inr ⟨_, (.cons (.tail (.tail (.tail .head))) .nil)⟩, ?_⟩
              refine .ef 6 (by kernel_rfl) rfl (.fn rfl rfl .nil (fun A w h => ⟨Knows.arr (.tail .head) A w h, Knows.arr (.tail (.tail (.tail (.tail .head)))) A w h, owms_all (.tail (.tail .head)) A w h, Knows.know (.tail (.tail (.tail (.tail (.tail (.tail .head)))))) A w h⟩) (same_ok aa sa ac sc al qs' (hal.trans hP2.eq) hokal (by omega))) ?_
              rintro v _ ⟨G1, hq, rfl⟩
              obtain ⟨rfl, rfl⟩ := hq
              simp only [List.nil_append]
              refine ⟨.inl (by kernel_rfl), ?_⟩
              refine .rp 7 rfl (by kernel_rfl) (by kernel_rfl) (by kernel_rfl) (Reads.pure (.assign rfl)) ?_
              refine .done (by kernel_rfl) ?_
              refine .seq ?_
              refine .draws [12, 19, 21, 25, 27] [blk b18 [.slice sa qs'.length sc, .slice pa ap.length pc] 45, blk b7 (opc ⟨x.kind, x.a, x.b, x.m, { x.s with ai := ra, ci := rc }⟩) 47] (by kernel_rfl) ?_   -- R33 law.go:113
              refine .rp 0 rfl (by kernel_rfl) (by kernel_rfl) (by kernel_rfl) (Reads.pure (.move rfl)) ?_
              refine .rp 1 rfl (by kernel_rfl) (by kernel_rfl) (by kernel_rfl) (Reads.pure (.not rfl)) ?_
              refine .rp 2 rfl (by kernel_rfl) (by kernel_rfl) (by kernel_rfl) (Reads.pure (.move rfl)) ?_
              refine .rpG 3 (t := 137) rfl rfl rfl (by kernel_rfl) (by kernel_rfl) (by kernel_rfl) (Reads.pure (.move rfl)) ?_
              refine .rpG 4 (t := 137) rfl rfl rfl (by kernel_rfl) (by kernel_rfl) (by kernel_rfl) (Reads.pure (.not rfl)) ?_
              refine .rp 5 rfl (by kernel_rfl) (by kernel_rfl) (by kernel_rfl) (Reads.pure (.pickF rfl rfl)) ?_
              refine .rp 6 rfl (by kernel_rfl) (by kernel_rfl) (by kernel_rfl) (Reads.pure (.move rfl)) ?_
              refine .rpG 7 (t := 141) rfl rfl rfl (by kernel_rfl) (by kernel_rfl) (by kernel_rfl) (Reads.pure (.move rfl)) ?_
              refine .rpG 9 (t := 141) rfl rfl rfl (by kernel_rfl) (by kernel_rfl) (by kernel_rfl) (Reads.pure (.move rfl)) ?_
              refine .rpG 10 (t := 141) rfl rfl rfl (by kernel_rfl) (by kernel_rfl) (by kernel_rfl) (Reads.pure (.nilCheck rfl)) ?_
              refine .rpG 11 (t := 141) rfl rfl rfl (by kernel_rfl) (by kernel_rfl) (by kernel_rfl) (Reads.pure (.fieldAddr fd45_0 rfl)) ?_
              refine .rdG 12 (t := 141) rfl rfl rfl rfl (by kernel_rfl) (by kernel_rfl) (by kernel_rfl) (.ld na42 rfl .head rfl) (.cons (.tail (.tail (.tail .head))) (.cons (.tail (.tail (.tail (.tail (.tail (.tail (.tail .head))))))) .nil)) ?_
              refine .rpG 13 (t := 141) rfl rfl rfl (by kernel_rfl) (by kernel_rfl) (by kernel_rfl) (Reads.pure (.lenL rfl rfl Try.underlying42 rfl)) ?_
              refine .efG 8 (t := 141) (by kernel_rfl) rfl rfl rfl (.fn rfl rfl (.cons .head .nil) (fun _ _ _ => trivial) (Len_ok n ps' pt)) ?_
              rintro v _ ⟨G1, hq, rfl⟩
              obtain ⟨rfl, rfl⟩ := hq
              simp only [List.cons_append, List.nil_append]
              refine ⟨.inr ⟨_, (.cons (.tail (.tail (.tail .head))) (.cons (.tail (.tail (.tail (.tail (.tail (.tail (.tail .head))))))) .nil))⟩, ?_⟩
              refine .rpG 14 (t := 141) rfl rfl rfl (by kernel_rfl) (by kernel_rfl) (by kernel_rfl) (Reads.pure (.neI rfl rfl)) ?_
              refine .alter (t := 149) (v' := .bool false) rfl (by rw [decide_eq_true (by omega)]; rfl) ?_
              refine .rp 15 rfl (by kernel_rfl) (by kernel_rfl) (by kernel_rfl) (Reads.pure (.pickF rfl rfl)) ?_
              refine .rp 16 rfl (by kernel_rfl) (by kernel_rfl) (by kernel_rfl) (Reads.pure (.move rfl)) ?_
              refine .rpG 17 (t := 151) rfl rfl rfl (by kernel_rfl) (by kernel_rfl) (by kernel_rfl) (Reads.pure (.move rfl)) ?_
              refine .rpG 18 (t := 151) rfl rfl rfl (by kernel_rfl) (by kernel_rfl) (by kernel_rfl) (Reads.pure (.fieldAddr fd47_1 rfl)) ?_
              refine .rdG 19 (t := 151) rfl rfl rfl rfl (by kernel_rfl) (by kernel_rfl) (by kernel_rfl) (.ld na3 rfl (.tail .head) rfl) (.cons (.tail (.tail (.tail .head))) (.cons (.tail (.tail (.tail (.tail (.tail (.tail (.tail .head))))))) .nil)) ?_
              refine .rpG 20 (t := 151) rfl rfl rfl (by kernel_rfl) (by kernel_rfl) (by kernel_rfl) (Reads.pure (.fieldAddr fd47_2 rfl)) ?_
              refine .rdG 21 (t := 151) rfl rfl rfl rfl (by kernel_rfl) (by kernel_rfl) (by kernel_rfl) (.ld na3 rfl (.tail .head) rfl) (.cons (.tail (.tail (.tail .head))) (.cons (.tail (.tail (.tail (.tail (.tail (.tail (.tail .head))))))) .nil)) ?_
              refine .rpG 23 (t := 151) rfl rfl rfl (by kernel_rfl) (by kernel_rfl) (by kernel_rfl) (Reads.pure (.move rfl)) ?_
              refine .rpG 24 (t := 151) rfl rfl rfl (by kernel_rfl) (by kernel_rfl) (by kernel_rfl) (Reads.pure (.fieldAddr fd47_1 rfl)) ?_
              refine .rdG 25 (t := 151) rfl rfl rfl rfl (by kernel_rfl) (by kernel_rfl) (by kernel_rfl) (.ld na3 rfl (.tail .head) rfl) (.cons (.tail (.tail (.tail .head))) (.cons (.tail (.tail (.tail (.tail (.tail (.tail (.tail .head))))))) .nil)) ?_
              refine .rpG 26 (t := 151) rfl rfl rfl (by kernel_rfl) (by kernel_rfl) (by kernel_rfl) (Reads.pure (.fieldAddr fd47_2 rfl)) ?_
              refine .rdG 27 (t := 151) rfl rfl rfl rfl (by kernel_rfl) (by kernel_rfl) (by kernel_rfl) (.ld na3 rfl (.tail .head) rfl) (.cons (.tail (.tail (.tail .head))) (.cons (.tail (.tail (.tail (.tail (.tail (.tail (.tail .head))))))) .nil)) ?_
              refine .efG 22 (t := 151) (by kernel_rfl) rfl rfl rfl (.fn rfl rfl (.cons .head .nil) (fun _ _ _ => trivial) (Parted_ok n ps' pt x.a x.b)) ?_
              rintro v _ ⟨G1, hq, rfl⟩
              obtain ⟨rfl, rfl⟩ := hq
              simp only [List.cons_append, List.nil_append]
              refine ⟨.inr ⟨_, (.cons (.tail (.tail (.tail .head))) (.cons (.tail (.tail (.tail (.tail (.tail (.tail (.tail .head))))))) .nil))⟩, ?_⟩
              refine .close (.cons (.tail (.tail (.tail .head))) (.cons (.tail (.tail (.tail .head))) (.cons (.tail (.tail (.tail .head))) (.cons (.tail (.tail (.tail .head))) .nil)))) (rnet_close _ _ _ _) ?_
              refine .efG 28 (t := 151) (by kernel_rfl) rfl rfl rfl (.fn rfl rfl (.cons .head .nil) (fun _ _ _ => trivial) (rParted_ok b18 qs' ap x.a x.b (by omega))) ?_
              rintro v _ ⟨G1, hq, rfl⟩
              obtain ⟨rfl, rfl⟩ := hq
              simp only [List.cons_append, List.nil_append]
              refine ⟨.inl (by kernel_rfl), ?_⟩
              refine .rpG 29 (t := 151) rfl rfl rfl (by kernel_rfl) (by kernel_rfl) (by kernel_rfl) (Reads.pure (.neB Try.underlying4 rfl rfl)) ?_
              refine .alter (t := 164) (v' := .bool false) rfl (by rw [hP2.parted]; simp) ?_
              refine .rp 30 rfl (by kernel_rfl) (by kernel_rfl) (by kernel_rfl) (Reads.pure (.pickF rfl rfl)) ?_
              refine .done (by kernel_rfl) ?_
              refine .condF rfl ?_
              refine .skip ?_
              refine .inBlock ?_
              refine .region ?_   -- R8 law.go:91
              refine .rd (.move rfl) ?_
              refine .rd (.add rfl rfl (by omega) (by omega)) ?_
              refine .rd (.assign rfl) ?_
              refine .nil ?_
              exact (ih (i + 1, ps', pt, qs', ap) ⟨by show i + 1 ≤ _; omega, by show i + 1 ≤ 700; omega, hP2⟩ (by show l.length - (i + 1) < l.length - i; omega)).to (.cons rfl (.cons rfl (.cons rfl (.cons rfl .nil)))) (.cons (.tail .head) (.cons .head (.cons (.tail (.tail .head)) (.cons (.tail (.tail (.tail .head))) .nil))))
            · refine .seq ?_
              refine .seq ?_
              refine .region ?_   -- R18 law.go:98
              refine .rd (.eqI rfl rfl) ?_
              refine .rd (.assign rfl) ?_
              refine .nil ?_
              refine .condP rfl (fun h18 => ?_) (fun h18 => ?_)
              · refine .alter (t := 63) (v' := .bool true) rfl (by rw [decide_eq_true h18]) ?_
                refine .skip ?_
                refine .condT rfl ?_
                refine .seq ?_
                refine .region ?_   -- R20 law.go:99
                refine .rd (.move rfl) ?_
                refine .rd (.fieldAddr fd47_1 rfl) ?_
                refine .rd (.ld na3 rfl .head rfl) ?_
                refine .fn rfl rfl (.cons (.tail .head) .nil) (fun _ _ _ => trivial) (Take_ok n ps pt x.a hlen) (fun v G1 hq => ?_)
                obtain ⟨ps', p, ok, hT, rfl, rfl⟩ := hq
                simp only [List.cons_append, List.nil_append]
                refine .rd (.move rfl) ?_
                refine .rd (.extract rfl rfl) ?_
                refine .rd (.extract rfl rfl) ?_
                refine .ef (.alloc ti32 rfl (ones.of rfl)) ?_
                rintro _ _ ⟨b9, rfl, rfl⟩
                refine .ef0 (.storeAll (vs := mval p.1 p.2) ts32 rfl rfl rfl .head rfl (ones.of rfl)) ?_
                rintro _ _ rfl
                refine .rd (.assign rfl) ?_
                refine .nil ?_
                refine .seq ?_
                refine .region ?_   -- R21 law.go:100
                refine .rd (.move rfl) ?_
                refine .rd (.fieldAddr fd47_1 rfl) ?_
                refine .rd (.ld na3 rfl (.tail (.tail (.tail .head))) rfl) ?_
                refine .fn rfl rfl (.cons (.tail (.tail (.tail (.tail .head)))) .nil) (fun _ _ _ => trivial) (rTake_ok b18 qs ap x.a (by omega)) (fun v G1 hq => ?_)
                obtain ⟨qs', q, ok', hT', rfl, rfl⟩ := hq
                simp only [List.cons_append, List.nil_append]
                refine .rd (.move rfl) ?_
                refine .rd (.extract rfl rfl) ?_
                refine .rd (.extract rfl rfl) ?_
                refine .ef (.alloc ti32 rfl (ones.of rfl)) ?_
                rintro _ _ ⟨b11, rfl, rfl⟩
                refine .ef0 (.storeAll (vs := mval q.1 q.2) ts32 rfl rfl rfl .head rfl (ones.of rfl)) ?_
                rintro _ _ rfl
                refine .rd (.assign rfl) ?_
                refine .nil ?_
                obtain ⟨m, s⟩ := p
                obtain ⟨m', s'⟩ := q
                obtain ⟨hokk, hpq, hpok, hP'⟩ := hPL.take hT hT'
                dsimp only at hpq hpok
                subst hokk
                subst hpq
                refine .tell (φ := mfacts m s ∧ mfacts m s') (Knows.and ((owm_mat (m := m) (s := s) (.tail (.tail (.tail (.tail (.tail .head)))))).mono fun _ h => h.facts) ((Knows.know (φ := mat m s') (.tail (.tail .head))).mono fun _ h => h.facts)) (fun hF => ?_)
                refine .seq ?_
                refine .region ?_   -- R22 law.go:101
                refine .rd (.ldN ia32 ts32 rfl (.tail (.tail (.tail .head))) rfl) ?_
                refine .rd (.ldN ia32 ts32 rfl .head rfl) ?_
                refine .fn rfl rfl .nil (Knows.and (owm_mat (.tail (.tail (.tail (.tail (.tail .head)))))) (Knows.know (.tail (.tail .head)))) (sameMsg_ok m s s' hpok hF.1.len hF.2.len) (fun v G1 hq => ?_)
                obtain ⟨rfl, rfl⟩ := hq
                simp only [List.nil_append]
                refine .rd (.assign rfl) ?_
                refine .nil ?_
                refine .region ?_   -- R23 law.go:102
                refine .rd (.move rfl) ?_
                refine .rd (.move rfl) ?_
                refine .rd (.eqB Try.underlying4 rfl rfl) ?_
                refine .alter (t := 85) (v' := .bool true) rfl (by simp) ?_
                refine .rd (.move rfl) ?_
                refine .on (t := 86) rfl rfl ?_
                refine .rd (.move rfl) ?_
                refine .rd (.pickT rfl rfl) ?_
                refine .rd (.assign rfl) ?_
                refine .nil ?_
                refine .inBlock ?_
                refine .seq ?_
                have hP2 := hP'.step
                have hlen2 := hP2.cnt.len
                have hqlen2 := hP2.len
                have hapl2 := hP2.apl
                refine .open_ (.tail .head) rnet_open (fun x' _ => ?_)
                obtain ⟨sa, sc, pa, pc⟩ := x'
                simp only [List.cons_append, List.nil_append]
                refine .draws [5] [blk b18 [.slice sa qs'.length sc, .slice pa ap.length pc] 45] (by kernel_rfl) ?_   -- R32 law.go:112
                refine .rp 0 rfl (by kernel_rfl) (by kernel_rfl) (by kernel_rfl) (Reads.pure (.move rfl)) ?_
                refine .rp 2 rfl (by kernel_rfl) (by kernel_rfl) (by kernel_rfl) (Reads.pure (.move rfl)) ?_
                refine .rp 3 rfl (by kernel_rfl) (by kernel_rfl) (by kernel_rfl) (Reads.pure (.nilCheck rfl)) ?_
                refine .rp 4 rfl (by kernel_rfl) (by kernel_rfl) (by kernel_rfl) (Reads.pure (.fieldAddr fd45_0 rfl)) ?_
                refine .rd 5 rfl rfl (by kernel_rfl) (by kernel_rfl) (by kernel_rfl) (.ld na42 rfl .head rfl) (.cons .head .nil) ?_
                refine .ef 1 (by kernel_rfl) rfl (.fn rfl rfl (.cons (.tail (.tail (.tail (.tail (.tail (.tail (.tail .head))))))) .nil) (fun _ _ _ => trivial) (All_ok n ps' pt hlen2 hP2.cnt.ok)) ?_
                rintro v _ ⟨G1, hq, rfl⟩
                obtain ⟨aa, ac, al, hal, rfl, rfl⟩ := hq
                simp only [List.cons_append, List.nil_append]
                have hall : al.length = ps'.length := by have := congrArg List.length hal; simpa using this
                have hokal : ∀ p ∈ al, p.1.ok := oks_of hal hP2.cnt.ok
                refine ⟨.inr ⟨_, (.cons (.tail (.tail (.tail .head))) .nil)⟩, ?_⟩
                refine .ef 6 (by kernel_rfl) rfl (.fn rfl rfl .nil (fun A w h => ⟨Knows.arr (.tail .head) A w h, Knows.arr (.tail (.tail (.tail (.tail .head)))) A w h, owms_all (.tail (.tail .head)) A w h, Knows.know (.tail (.tail (.tail (.tail (.tail (.tail .head)))))) A w h⟩) (same_ok aa sa ac sc al qs' (hal.trans hP2.eq) hokal (by omega))) ?_
                rintro v _ ⟨G1, hq, rfl⟩
                obtain ⟨rfl, rfl⟩ := hq
                simp only [List.nil_append]
                refine ⟨.inl (by kernel_rfl), ?_⟩
                refine .rp 7 rfl (by kernel_rfl) (by kernel_rfl) (by kernel_rfl) (Reads.pure (.assign rfl)) ?_
                refine .done (by kernel_rfl) ?_
                refine .seq ?_
                refine .draws [12, 19, 21, 25, 27] [blk b18 [.slice sa qs'.length sc, .slice pa ap.length pc] 45, blk b7 (opc x) 47] (by kernel_rfl) ?_   -- R33 law.go:113
                refine .rp 0 rfl (by kernel_rfl) (by kernel_rfl) (by kernel_rfl) (Reads.pure (.move rfl)) ?_
                refine .rp 1 rfl (by kernel_rfl) (by kernel_rfl) (by kernel_rfl) (Reads.pure (.not rfl)) ?_
                refine .rp 2 rfl (by kernel_rfl) (by kernel_rfl) (by kernel_rfl) (Reads.pure (.move rfl)) ?_
                refine .rpG 3 (t := 137) rfl rfl rfl (by kernel_rfl) (by kernel_rfl) (by kernel_rfl) (Reads.pure (.move rfl)) ?_
                refine .rpG 4 (t := 137) rfl rfl rfl (by kernel_rfl) (by kernel_rfl) (by kernel_rfl) (Reads.pure (.not rfl)) ?_
                refine .rp 5 rfl (by kernel_rfl) (by kernel_rfl) (by kernel_rfl) (Reads.pure (.pickF rfl rfl)) ?_
                refine .rp 6 rfl (by kernel_rfl) (by kernel_rfl) (by kernel_rfl) (Reads.pure (.move rfl)) ?_
                refine .rpG 7 (t := 141) rfl rfl rfl (by kernel_rfl) (by kernel_rfl) (by kernel_rfl) (Reads.pure (.move rfl)) ?_
                refine .rpG 9 (t := 141) rfl rfl rfl (by kernel_rfl) (by kernel_rfl) (by kernel_rfl) (Reads.pure (.move rfl)) ?_
                refine .rpG 10 (t := 141) rfl rfl rfl (by kernel_rfl) (by kernel_rfl) (by kernel_rfl) (Reads.pure (.nilCheck rfl)) ?_
                refine .rpG 11 (t := 141) rfl rfl rfl (by kernel_rfl) (by kernel_rfl) (by kernel_rfl) (Reads.pure (.fieldAddr fd45_0 rfl)) ?_
                refine .rdG 12 (t := 141) rfl rfl rfl rfl (by kernel_rfl) (by kernel_rfl) (by kernel_rfl) (.ld na42 rfl .head rfl) (.cons (.tail (.tail (.tail .head))) (.cons (.tail (.tail (.tail (.tail (.tail (.tail (.tail (.tail (.tail (.tail .head)))))))))) .nil)) ?_
                refine .rpG 13 (t := 141) rfl rfl rfl (by kernel_rfl) (by kernel_rfl) (by kernel_rfl) (Reads.pure (.lenL rfl rfl Try.underlying42 rfl)) ?_
                refine .efG 8 (t := 141) (by kernel_rfl) rfl rfl rfl (.fn rfl rfl (.cons .head .nil) (fun _ _ _ => trivial) (Len_ok n ps' pt)) ?_
                rintro v _ ⟨G1, hq, rfl⟩
                obtain ⟨rfl, rfl⟩ := hq
                simp only [List.cons_append, List.nil_append]
                refine ⟨.inr ⟨_, (.cons (.tail (.tail (.tail .head))) (.cons (.tail (.tail (.tail (.tail (.tail (.tail (.tail (.tail (.tail (.tail .head)))))))))) .nil))⟩, ?_⟩
                refine .rpG 14 (t := 141) rfl rfl rfl (by kernel_rfl) (by kernel_rfl) (by kernel_rfl) (Reads.pure (.neI rfl rfl)) ?_
                refine .alter (t := 149) (v' := .bool false) rfl (by rw [decide_eq_true (by omega)]; rfl) ?_
                refine .rp 15 rfl (by kernel_rfl) (by kernel_rfl) (by kernel_rfl) (Reads.pure (.pickF rfl rfl)) ?_
                refine .rp 16 rfl (by kernel_rfl) (by kernel_rfl) (by kernel_rfl) (Reads.pure (.move rfl)) ?_
                refine .rpG 17 (t := 151) rfl rfl rfl (by kernel_rfl) (by kernel_rfl) (by kernel_rfl) (Reads.pure (.move rfl)) ?_
                refine .rpG 18 (t := 151) rfl rfl rfl (by kernel_rfl) (by kernel_rfl) (by kernel_rfl) (Reads.pure (.fieldAddr fd47_1 rfl)) ?_
                refine .rdG 19 (t := 151) rfl rfl rfl rfl (by kernel_rfl) (by kernel_rfl) (by kernel_rfl) (.ld na3 rfl (.tail .head) rfl) (.cons (.tail (.tail (.tail .head))) (.cons (.tail (.tail (.tail (.tail (.tail (.tail (.tail (.tail (.tail (.tail .head)))))))))) .nil)) ?_
                refine .rpG 20 (t := 151) rfl rfl rfl (by kernel_rfl) (by kernel_rfl) (by kernel_rfl) (Reads.pure (.fieldAddr fd47_2 rfl)) ?_
                refine .rdG 21 (t := 151) rfl rfl rfl rfl (by kernel_rfl) (by kernel_rfl) (by kernel_rfl) (.ld na3 rfl (.tail .head) rfl) (.cons (.tail (.tail (.tail .head))) (.cons (.tail (.tail (.tail (.tail (.tail (.tail (.tail (.tail (.tail (.tail .head)))))))))) .nil)) ?_
                refine .rpG 23 (t := 151) rfl rfl rfl (by kernel_rfl) (by kernel_rfl) (by kernel_rfl) (Reads.pure (.move rfl)) ?_
                refine .rpG 24 (t := 151) rfl rfl rfl (by kernel_rfl) (by kernel_rfl) (by kernel_rfl) (Reads.pure (.fieldAddr fd47_1 rfl)) ?_
                refine .rdG 25 (t := 151) rfl rfl rfl rfl (by kernel_rfl) (by kernel_rfl) (by kernel_rfl) (.ld na3 rfl (.tail .head) rfl) (.cons (.tail (.tail (.tail .head))) (.cons (.tail (.tail (.tail (.tail (.tail (.tail (.tail (.tail (.tail (.tail .head)))))))))) .nil)) ?_
                refine .rpG 26 (t := 151) rfl rfl rfl (by kernel_rfl) (by kernel_rfl) (by kernel_rfl) (Reads.pure (.fieldAddr fd47_2 rfl)) ?_
                refine .rdG 27 (t := 151) rfl rfl rfl rfl (by kernel_rfl) (by kernel_rfl) (by kernel_rfl) (.ld na3 rfl (.tail .head) rfl) (.cons (.tail (.tail (.tail .head))) (.cons (.tail (.tail (.tail (.tail (.tail (.tail (.tail (.tail (.tail (.tail .head)))))))))) .nil)) ?_
                refine .efG 22 (t := 151) (by kernel_rfl) rfl rfl rfl (.fn rfl rfl (.cons .head .nil) (fun _ _ _ => trivial) (Parted_ok n ps' pt x.a x.b)) ?_
                rintro v _ ⟨G1, hq, rfl⟩
                obtain ⟨rfl, rfl⟩ := hq
                simp only [List.cons_append, List.nil_append]
                refine ⟨.inr ⟨_, (.cons (.tail (.tail (.tail .head))) (.cons (.tail (.tail (.tail (.tail (.tail (.tail (.tail (.tail (.tail (.tail .head)))))))))) .nil))⟩, ?_⟩
                refine .close (.cons (.tail (.tail (.tail .head))) (.cons (.tail (.tail (.tail .head))) (.cons (.tail (.tail (.tail .head))) (.cons (.tail (.tail (.tail .head))) .nil)))) (rnet_close _ _ _ _) ?_
                refine .efG 28 (t := 151) (by kernel_rfl) rfl rfl rfl (.fn rfl rfl (.cons .head .nil) (fun _ _ _ => trivial) (rParted_ok b18 qs' ap x.a x.b (by omega))) ?_
                rintro v _ ⟨G1, hq, rfl⟩
                obtain ⟨rfl, rfl⟩ := hq
                simp only [List.cons_append, List.nil_append]
                refine ⟨.inl (by kernel_rfl), ?_⟩
                refine .rpG 29 (t := 151) rfl rfl rfl (by kernel_rfl) (by kernel_rfl) (by kernel_rfl) (Reads.pure (.neB Try.underlying4 rfl rfl)) ?_
                refine .alter (t := 164) (v' := .bool false) rfl (by rw [hP2.parted]; simp) ?_
                refine .rp 30 rfl (by kernel_rfl) (by kernel_rfl) (by kernel_rfl) (Reads.pure (.pickF rfl rfl)) ?_
                refine .done (by kernel_rfl) ?_
                refine .condF rfl ?_
                refine .skip ?_
                refine .inBlock ?_
                refine .region ?_   -- R8 law.go:91
                refine .rd (.move rfl) ?_
                refine .rd (.add rfl rfl (by omega) (by omega)) ?_
                refine .rd (.assign rfl) ?_
                refine .nil ?_
                exact (ih (i + 1, ps', pt, qs', ap) ⟨by show i + 1 ≤ _; omega, by show i + 1 ≤ 700; omega, hP2⟩ (by show l.length - (i + 1) < l.length - i; omega)).to (.cons rfl (.cons rfl (.cons rfl (.cons rfl .nil)))) (.cons (.tail .head) (.cons .head (.cons (.tail (.tail (.tail (.tail (.tail (.tail (.tail .head))))))) (.cons (.tail (.tail (.tail (.tail (.tail (.tail (.tail .head))))))) .nil))))
              · refine .region ?_   -- R19 law.go:98
                refine .rd (.eqI rfl rfl) ?_
                refine .rd (.assign rfl) ?_
                refine .nil ?_
                refine .condP rfl (fun h19 => ?_) (fun h19 => ?_)
                · refine .seq ?_
                  refine .region ?_   -- R20 law.go:99
                  refine .rd (.move rfl) ?_
                  refine .rd (.fieldAddr fd47_1 rfl) ?_
                  refine .rd (.ld na3 rfl .head rfl) ?_
                  refine .fn rfl rfl (.cons (.tail .head) .nil) (fun _ _ _ => trivial) (Take_ok n ps pt x.a hlen) (fun v G1 hq => ?_)
                  obtain ⟨ps', p, ok, hT, rfl, rfl⟩ := hq
                  simp only [List.cons_append, List.nil_append]
                  refine .rd (.move rfl) ?_
                  refine .rd (.extract rfl rfl) ?_
                  refine .rd (.extract rfl rfl) ?_
                  refine .ef (.alloc ti32 rfl (ones.of rfl)) ?_
                  rintro _ _ ⟨b9, rfl, rfl⟩
                  refine .ef0 (.storeAll (vs := mval p.1 p.2) ts32 rfl rfl rfl .head rfl (ones.of rfl)) ?_
                  rintro _ _ rfl
                  refine .rd (.assign rfl) ?_
                  refine .nil ?_
                  refine .seq ?_
                  refine .region ?_   -- R21 law.go:100
                  refine .rd (.move rfl) ?_
                  refine .rd (.fieldAddr fd47_1 rfl) ?_
                  refine .rd (.ld na3 rfl (.tail (.tail (.tail .head))) rfl) ?_
                  refine .fn rfl rfl (.cons (.tail (.tail (.tail (.tail .head)))) .nil) (fun _ _ _ => trivial) (rTake_ok b18 qs ap x.a (by omega)) (fun v G1 hq => ?_)
                  obtain ⟨qs', q, ok', hT', rfl, rfl⟩ := hq
                  simp only [List.cons_append, List.nil_append]
                  refine .rd (.move rfl) ?_
                  refine .rd (.extract rfl rfl) ?_
                  refine .rd (.extract rfl rfl) ?_
                  refine .ef (.alloc ti32 rfl (ones.of rfl)) ?_
                  rintro _ _ ⟨b11, rfl, rfl⟩
                  refine .ef0 (.storeAll (vs := mval q.1 q.2) ts32 rfl rfl rfl .head rfl (ones.of rfl)) ?_
                  rintro _ _ rfl
                  refine .rd (.assign rfl) ?_
                  refine .nil ?_
                  obtain ⟨m, s⟩ := p
                  obtain ⟨m', s'⟩ := q
                  obtain ⟨hokk, hpq, hpok, hP'⟩ := hPL.take hT hT'
                  dsimp only at hpq hpok
                  subst hokk
                  subst hpq
                  refine .tell (φ := mfacts m s ∧ mfacts m s') (Knows.and ((owm_mat (m := m) (s := s) (.tail (.tail (.tail (.tail (.tail .head)))))).mono fun _ h => h.facts) ((Knows.know (φ := mat m s') (.tail (.tail .head))).mono fun _ h => h.facts)) (fun hF => ?_)
                  refine .seq ?_
                  refine .region ?_   -- R22 law.go:101
                  refine .rd (.ldN ia32 ts32 rfl (.tail (.tail (.tail .head))) rfl) ?_
                  refine .rd (.ldN ia32 ts32 rfl .head rfl) ?_
                  refine .fn rfl rfl .nil (Knows.and (owm_mat (.tail (.tail (.tail (.tail (.tail .head)))))) (Knows.know (.tail (.tail .head)))) (sameMsg_ok m s s' hpok hF.1.len hF.2.len) (fun v G1 hq => ?_)
                  obtain ⟨rfl, rfl⟩ := hq
                  simp only [List.nil_append]
                  refine .rd (.assign rfl) ?_
                  refine .nil ?_
                  refine .region ?_   -- R23 law.go:102
                  refine .rd (.move rfl) ?_
                  refine .rd (.move rfl) ?_
                  refine .rd (.eqB Try.underlying4 rfl rfl) ?_
                  refine .alter (t := 85) (v' := .bool true) rfl (by simp) ?_
                  refine .rd (.move rfl) ?_
                  refine .on (t := 86) rfl rfl ?_
                  refine .rd (.move rfl) ?_
                  refine .rd (.pickT rfl rfl) ?_
                  refine .rd (.assign rfl) ?_
                  refine .nil ?_
                  refine .inBlock ?_
                  refine .seq ?_
                  have hP2 := hP'.step
                  have hlen2 := hP2.cnt.len
                  have hqlen2 := hP2.len
                  have hapl2 := hP2.apl
                  refine .open_ (.tail .head) rnet_open (fun x' _ => ?_)
                  obtain ⟨sa, sc, pa, pc⟩ := x'
                  simp only [List.cons_append, List.nil_append]
                  refine .draws [5] [blk b18 [.slice sa qs'.length sc, .slice pa ap.length pc] 45] (by kernel_rfl) ?_   -- R32 law.go:112
                  refine .rp 0 rfl (by kernel_rfl) (by kernel_rfl) (by kernel_rfl) (Reads.pure (.move rfl)) ?_
                  refine .rp 2 rfl (by kernel_rfl) (by kernel_rfl) (by kernel_rfl) (Reads.pure (.move rfl)) ?_
                  refine .rp 3 rfl (by kernel_rfl) (by kernel_rfl) (by kernel_rfl) (Reads.pure (.nilCheck rfl)) ?_
                  refine .rp 4 rfl (by kernel_rfl) (by kernel_rfl) (by kernel_rfl) (Reads.pure (.fieldAddr fd45_0 rfl)) ?_
                  refine .rd 5 rfl rfl (by kernel_rfl) (by kernel_rfl) (by kernel_rfl) (.ld na42 rfl .head rfl) (.cons .head .nil) ?_
                  refine .ef 1 (by kernel_rfl) rfl (.fn rfl rfl (.cons (.tail (.tail (.tail (.tail (.tail (.tail (.tail .head))))))) .nil) (fun _ _ _ => trivial) (All_ok n ps' pt hlen2 hP2.cnt.ok)) ?_
                  rintro v _ ⟨G1, hq, rfl⟩
                  obtain ⟨aa, ac, al, hal, rfl, rfl⟩ := hq
                  simp only [List.cons_append, List.nil_append]
                  have hall : al.length = ps'.length := by have := congrArg List.length hal; simpa using this
                  have hokal : ∀ p ∈ al, p.1.ok := oks_of hal hP2.cnt.ok
                  refine ⟨.inr ⟨_, (.cons (.tail (.tail (.tail .head))) .nil)⟩, ?_⟩
                  refine .ef 6 (by kernel_rfl) rfl (.fn rfl rfl .nil (fun A w h => ⟨Knows.arr (.tail .head) A w h, Knows.arr (.tail (.tail (.tail (.tail .head)))) A w h, owms_all (.tail (.tail .head)) A w h, Knows.know (.tail (.tail (.tail (.tail (.tail (.tail .head)))))) A w h⟩) (same_ok aa sa ac sc al qs' (hal.trans hP2.eq) hokal (by omega))) ?_
                  rintro v _ ⟨G1, hq, rfl⟩
                  obtain ⟨rfl, rfl⟩ := hq
                  simp only [List.nil_append]
                  refine ⟨.inl (by kernel_rfl), ?_⟩
                  refine .rp 7 rfl (by kernel_rfl) (by kernel_rfl) (by kernel_rfl) (Reads.pure (.assign rfl)) ?_
                  refine .done (by kernel_rfl) ?_
                  refine .seq ?_
                  refine .draws [12, 19, 21, 25, 27] [blk b18 [.slice sa qs'.length sc, .slice pa ap.length pc] 45, blk b7 (opc x) 47] (by kernel_rfl) ?_   -- R33 law.go:113
                  refine .rp 0 rfl (by kernel_rfl) (by kernel_rfl) (by kernel_rfl) (Reads.pure (.move rfl)) ?_
                  refine .rp 1 rfl (by kernel_rfl) (by kernel_rfl) (by kernel_rfl) (Reads.pure (.not rfl)) ?_
                  refine .rp 2 rfl (by kernel_rfl) (by kernel_rfl) (by kernel_rfl) (Reads.pure (.move rfl)) ?_
                  refine .rpG 3 (t := 137) rfl rfl rfl (by kernel_rfl) (by kernel_rfl) (by kernel_rfl) (Reads.pure (.move rfl)) ?_
                  refine .rpG 4 (t := 137) rfl rfl rfl (by kernel_rfl) (by kernel_rfl) (by kernel_rfl) (Reads.pure (.not rfl)) ?_
                  refine .rp 5 rfl (by kernel_rfl) (by kernel_rfl) (by kernel_rfl) (Reads.pure (.pickF rfl rfl)) ?_
                  refine .rp 6 rfl (by kernel_rfl) (by kernel_rfl) (by kernel_rfl) (Reads.pure (.move rfl)) ?_
                  refine .rpG 7 (t := 141) rfl rfl rfl (by kernel_rfl) (by kernel_rfl) (by kernel_rfl) (Reads.pure (.move rfl)) ?_
                  refine .rpG 9 (t := 141) rfl rfl rfl (by kernel_rfl) (by kernel_rfl) (by kernel_rfl) (Reads.pure (.move rfl)) ?_
                  refine .rpG 10 (t := 141) rfl rfl rfl (by kernel_rfl) (by kernel_rfl) (by kernel_rfl) (Reads.pure (.nilCheck rfl)) ?_
                  refine .rpG 11 (t := 141) rfl rfl rfl (by kernel_rfl) (by kernel_rfl) (by kernel_rfl) (Reads.pure (.fieldAddr fd45_0 rfl)) ?_
                  refine .rdG 12 (t := 141) rfl rfl rfl rfl (by kernel_rfl) (by kernel_rfl) (by kernel_rfl) (.ld na42 rfl .head rfl) (.cons (.tail (.tail (.tail .head))) (.cons (.tail (.tail (.tail (.tail (.tail (.tail (.tail (.tail (.tail (.tail .head)))))))))) .nil)) ?_
                  refine .rpG 13 (t := 141) rfl rfl rfl (by kernel_rfl) (by kernel_rfl) (by kernel_rfl) (Reads.pure (.lenL rfl rfl Try.underlying42 rfl)) ?_
                  refine .efG 8 (t := 141) (by kernel_rfl) rfl rfl rfl (.fn rfl rfl (.cons .head .nil) (fun _ _ _ => trivial) (Len_ok n ps' pt)) ?_
                  rintro v _ ⟨G1, hq, rfl⟩
                  obtain ⟨rfl, rfl⟩ := hq
                  simp only [List.cons_append, List.nil_append]
                  refine ⟨.inr ⟨_, (.cons (.tail (.tail (.tail .head))) (.cons (.tail (.tail (.tail (.tail (.tail (.tail (.tail (.tail (.tail (.tail .head)))))))))) .nil))⟩, ?_⟩
                  refine .rpG 14 (t := 141) rfl rfl rfl (by kernel_rfl) (by kernel_rfl) (by kernel_rfl) (Reads.pure (.neI rfl rfl)) ?_
                  refine .alter (t := 149) (v' := .bool false) rfl (by rw [decide_eq_true (by omega)]; rfl) ?_
                  refine .rp 15 rfl (by kernel_rfl) (by kernel_rfl) (by kernel_rfl) (Reads.pure (.pickF rfl rfl)) ?_
                  refine .rp 16 rfl (by kernel_rfl) (by kernel_rfl) (by kernel_rfl) (Reads.pure (.move rfl)) ?_
                  refine .rpG 17 (t := 151) rfl rfl rfl (by kernel_rfl) (by kernel_rfl) (by kernel_rfl) (Reads.pure (.move rfl)) ?_
                  refine .rpG 18 (t := 151) rfl rfl rfl (by kernel_rfl) (by kernel_rfl) (by kernel_rfl) (Reads.pure (.fieldAddr fd47_1 rfl)) ?_
                  refine .rdG 19 (t := 151) rfl rfl rfl rfl (by kernel_rfl) (by kernel_rfl) (by kernel_rfl) (.ld na3 rfl (.tail .head) rfl) (.cons (.tail (.tail (.tail .head))) (.cons (.tail (.tail (.tail (.tail (.tail (.tail (.tail (.tail (.tail (.tail .head)))))))))) .nil)) ?_
                  refine .rpG 20 (t := 151) rfl rfl rfl (by kernel_rfl) (by kernel_rfl) (by kernel_rfl) (Reads.pure (.fieldAddr fd47_2 rfl)) ?_
                  refine .rdG 21 (t := 151) rfl rfl rfl rfl (by kernel_rfl) (by kernel_rfl) (by kernel_rfl) (.ld na3 rfl (.tail .head) rfl) (.cons (.tail (.tail (.tail .head))) (.cons (.tail (.tail (.tail (.tail (.tail (.tail (.tail (.tail (.tail (.tail .head)))))))))) .nil)) ?_
                  refine .rpG 23 (t := 151) rfl rfl rfl (by kernel_rfl) (by kernel_rfl) (by kernel_rfl) (Reads.pure (.move rfl)) ?_
                  refine .rpG 24 (t := 151) rfl rfl rfl (by kernel_rfl) (by kernel_rfl) (by kernel_rfl) (Reads.pure (.fieldAddr fd47_1 rfl)) ?_
                  refine .rdG 25 (t := 151) rfl rfl rfl rfl (by kernel_rfl) (by kernel_rfl) (by kernel_rfl) (.ld na3 rfl (.tail .head) rfl) (.cons (.tail (.tail (.tail .head))) (.cons (.tail (.tail (.tail (.tail (.tail (.tail (.tail (.tail (.tail (.tail .head)))))))))) .nil)) ?_
                  refine .rpG 26 (t := 151) rfl rfl rfl (by kernel_rfl) (by kernel_rfl) (by kernel_rfl) (Reads.pure (.fieldAddr fd47_2 rfl)) ?_
                  refine .rdG 27 (t := 151) rfl rfl rfl rfl (by kernel_rfl) (by kernel_rfl) (by kernel_rfl) (.ld na3 rfl (.tail .head) rfl) (.cons (.tail (.tail (.tail .head))) (.cons (.tail (.tail (.tail (.tail (.tail (.tail (.tail (.tail (.tail (.tail .head)))))))))) .nil)) ?_
                  refine .efG 22 (t := 151) (by kernel_rfl) rfl rfl rfl (.fn rfl rfl (.cons .head .nil) (fun _ _ _ => trivial) (Parted_ok n ps' pt x.a x.b)) ?_
                  rintro v _ ⟨G1, hq, rfl⟩
                  obtain ⟨rfl, rfl⟩ := hq
                  simp only [List.cons_append, List.nil_append]
                  refine ⟨.inr ⟨_, (.cons (.tail (.tail (.tail .head))) (.cons (.tail (.tail (.tail (.tail (.tail (.tail (.tail (.tail (.tail (.tail .head)))))))))) .nil))⟩, ?_⟩
                  refine .close (.cons (.tail (.tail (.tail .head))) (.cons (.tail (.tail (.tail .head))) (.cons (.tail (.tail (.tail .head))) (.cons (.tail (.tail (.tail .head))) .nil)))) (rnet_close _ _ _ _) ?_
                  refine .efG 28 (t := 151) (by kernel_rfl) rfl rfl rfl (.fn rfl rfl (.cons .head .nil) (fun _ _ _ => trivial) (rParted_ok b18 qs' ap x.a x.b (by omega))) ?_
                  rintro v _ ⟨G1, hq, rfl⟩
                  obtain ⟨rfl, rfl⟩ := hq
                  simp only [List.cons_append, List.nil_append]
                  refine ⟨.inl (by kernel_rfl), ?_⟩
                  refine .rpG 29 (t := 151) rfl rfl rfl (by kernel_rfl) (by kernel_rfl) (by kernel_rfl) (Reads.pure (.neB Try.underlying4 rfl rfl)) ?_
                  refine .alter (t := 164) (v' := .bool false) rfl (by rw [hP2.parted]; simp) ?_
                  refine .rp 30 rfl (by kernel_rfl) (by kernel_rfl) (by kernel_rfl) (Reads.pure (.pickF rfl rfl)) ?_
                  refine .done (by kernel_rfl) ?_
                  refine .condF rfl ?_
                  refine .skip ?_
                  refine .inBlock ?_
                  refine .region ?_   -- R8 law.go:91
                  refine .rd (.move rfl) ?_
                  refine .rd (.add rfl rfl (by omega) (by omega)) ?_
                  refine .rd (.assign rfl) ?_
                  refine .nil ?_
                  exact (ih (i + 1, ps', pt, qs', ap) ⟨by show i + 1 ≤ _; omega, by show i + 1 ≤ 700; omega, hP2⟩ (by show l.length - (i + 1) < l.length - i; omega)).to (.cons rfl (.cons rfl (.cons rfl (.cons rfl .nil)))) (.cons (.tail .head) (.cons .head (.cons (.tail (.tail (.tail (.tail (.tail (.tail (.tail .head))))))) (.cons (.tail (.tail (.tail (.tail (.tail (.tail (.tail .head))))))) .nil))))
                · refine .seq ?_
                  refine .region ?_   -- R24 law.go:103
                  refine .rd (.eqI rfl rfl) ?_
                  refine .rd (.assign rfl) ?_
                  refine .nil ?_
                  refine .condP rfl (fun h24 => ?_) (fun h24 => ?_)
                  · refine .draws [2, 6] [blk b7 (opc x) 47] (by kernel_rfl) ?_   -- R25 law.go:104
                    refine .rp 0 rfl (by kernel_rfl) (by kernel_rfl) (by kernel_rfl) (Reads.pure (.move rfl)) ?_
                    refine .rp 1 rfl (by kernel_rfl) (by kernel_rfl) (by kernel_rfl) (Reads.pure (.fieldAddr fd47_1 rfl)) ?_
                    refine .rd 2 rfl rfl (by kernel_rfl) (by kernel_rfl) (by kernel_rfl) (.ld na3 rfl .head rfl) (.cons .head .nil) ?_
                    refine .rp 4 rfl (by kernel_rfl) (by kernel_rfl) (by kernel_rfl) (Reads.pure (.move rfl)) ?_
                    refine .rp 5 rfl (by kernel_rfl) (by kernel_rfl) (by kernel_rfl) (Reads.pure (.fieldAddr fd47_1 rfl)) ?_
                    refine .rd 6 rfl rfl (by kernel_rfl) (by kernel_rfl) (by kernel_rfl) (.ld na3 rfl .head rfl) (.cons .head .nil) ?_
                    refine .ef 3 (by kernel_rfl) rfl (.fn rfl rfl (.cons (.tail .head) .nil) (fun _ _ _ => trivial) (Twice_ok n ps pt x.a hPL.cnt.ok)) ?_
                    rintro v _ ⟨G1, hq, rfl⟩
                    obtain ⟨ps', ok, hT, rfl, rfl⟩ := hq
                    simp only [List.cons_append, List.nil_append]
                    refine ⟨.inr ⟨_, (.cons (.tail .head) .nil)⟩, ?_⟩
                    refine .ef 7 (by kernel_rfl) rfl (.fn rfl rfl (.cons (.tail (.tail .head)) .nil) (fun _ _ _ => trivial) (rTwice_ok b18 qs ap x.a)) ?_
                    rintro v _ ⟨G1, hq, rfl⟩
                    obtain ⟨qs', ok', hT', rfl, rfl⟩ := hq
                    simp only [List.cons_append, List.nil_append]
                    refine ⟨.inl (by kernel_rfl), ?_⟩
                    obtain ⟨hokk, hP'⟩ := hPL.twice hT hT'
                    subst hokk
                    refine .rp 8 rfl (by kernel_rfl) (by kernel_rfl) (by kernel_rfl) (Reads.pure (.eqB Try.underlying4 rfl rfl)) ?_
                    refine .alter (t := 99) (v' := .bool true) rfl (by simp) ?_
                    refine .rp 9 rfl (by kernel_rfl) (by kernel_rfl) (by kernel_rfl) (Reads.pure (.assign rfl)) ?_
                    refine .done (by kernel_rfl) ?_
                    refine .inBlock ?_
                    refine .seq ?_
                    have hP2 := hP'.step
                    have hlen2 := hP2.cnt.len
                    have hqlen2 := hP2.len
                    have hapl2 := hP2.apl
                    refine .open_ .head rnet_open (fun x' _ => ?_)
                    obtain ⟨sa, sc, pa, pc⟩ := x'
                    simp only [List.cons_append, List.nil_append]
                    refine .draws [5] [blk b18 [.slice sa qs'.length sc, .slice pa ap.length pc] 45] (by kernel_rfl) ?_   -- R32 law.go:112
                    refine .rp 0 rfl (by kernel_rfl) (by kernel_rfl) (by kernel_rfl) (Reads.pure (.move rfl)) ?_
                    refine .rp 2 rfl (by kernel_rfl) (by kernel_rfl) (by kernel_rfl) (Reads.pure (.move rfl)) ?_
                    refine .rp 3 rfl (by kernel_rfl) (by kernel_rfl) (by kernel_rfl) (Reads.pure (.nilCheck rfl)) ?_
                    refine .rp 4 rfl (by kernel_rfl) (by kernel_rfl) (by kernel_rfl) (Reads.pure (.fieldAddr fd45_0 rfl)) ?_
                    refine .rd 5 rfl rfl (by kernel_rfl) (by kernel_rfl) (by kernel_rfl) (.ld na42 rfl .head rfl) (.cons .head .nil) ?_
                    refine .ef 1 (by kernel_rfl) rfl (.fn rfl rfl (.cons (.tail (.tail (.tail (.tail .head)))) .nil) (fun _ _ _ => trivial) (All_ok n ps' pt hlen2 hP2.cnt.ok)) ?_
                    rintro v _ ⟨G1, hq, rfl⟩
                    obtain ⟨aa, ac, al, hal, rfl, rfl⟩ := hq
                    simp only [List.cons_append, List.nil_append]
                    have hall : al.length = ps'.length := by have := congrArg List.length hal; simpa using this
                    have hokal : ∀ p ∈ al, p.1.ok := oks_of hal hP2.cnt.ok
                    refine ⟨.inr ⟨_, (.cons (.tail (.tail (.tail .head))) .nil)⟩, ?_⟩
                    refine .ef 6 (by kernel_rfl) rfl (.fn rfl rfl .nil (fun A w h => ⟨Knows.arr (.tail .head) A w h, Knows.arr (.tail (.tail (.tail (.tail .head)))) A w h, owms_all (.tail (.tail .head)) A w h, Knows.know (.tail (.tail (.tail (.tail (.tail (.tail .head)))))) A w h⟩) (same_ok aa sa ac sc al qs' (hal.trans hP2.eq) hokal (by omega))) ?_
                    rintro v _ ⟨G1, hq, rfl⟩
                    obtain ⟨rfl, rfl⟩ := hq
                    simp only [List.nil_append]
                    refine ⟨.inl (by kernel_rfl), ?_⟩
                    refine .rp 7 rfl (by kernel_rfl) (by kernel_rfl) (by kernel_rfl) (Reads.pure (.assign rfl)) ?_
                    refine .done (by kernel_rfl) ?_
                    refine .seq ?_
                    refine .draws [12, 19, 21, 25, 27] [blk b18 [.slice sa qs'.length sc, .slice pa ap.length pc] 45, blk b7 (opc x) 47] (by kernel_rfl) ?_   -- R33 law.go:113
                    refine .rp 0 rfl (by kernel_rfl) (by kernel_rfl) (by kernel_rfl) (Reads.pure (.move rfl)) ?_
                    refine .rp 1 rfl (by kernel_rfl) (by kernel_rfl) (by kernel_rfl) (Reads.pure (.not rfl)) ?_
                    refine .rp 2 rfl (by kernel_rfl) (by kernel_rfl) (by kernel_rfl) (Reads.pure (.move rfl)) ?_
                    refine .rpG 3 (t := 137) rfl rfl rfl (by kernel_rfl) (by kernel_rfl) (by kernel_rfl) (Reads.pure (.move rfl)) ?_
                    refine .rpG 4 (t := 137) rfl rfl rfl (by kernel_rfl) (by kernel_rfl) (by kernel_rfl) (Reads.pure (.not rfl)) ?_
                    refine .rp 5 rfl (by kernel_rfl) (by kernel_rfl) (by kernel_rfl) (Reads.pure (.pickF rfl rfl)) ?_
                    refine .rp 6 rfl (by kernel_rfl) (by kernel_rfl) (by kernel_rfl) (Reads.pure (.move rfl)) ?_
                    refine .rpG 7 (t := 141) rfl rfl rfl (by kernel_rfl) (by kernel_rfl) (by kernel_rfl) (Reads.pure (.move rfl)) ?_
                    refine .rpG 9 (t := 141) rfl rfl rfl (by kernel_rfl) (by kernel_rfl) (by kernel_rfl) (Reads.pure (.move rfl)) ?_
                    refine .rpG 10 (t := 141) rfl rfl rfl (by kernel_rfl) (by kernel_rfl) (by kernel_rfl) (Reads.pure (.nilCheck rfl)) ?_
                    refine .rpG 11 (t := 141) rfl rfl rfl (by kernel_rfl) (by kernel_rfl) (by kernel_rfl) (Reads.pure (.fieldAddr fd45_0 rfl)) ?_
                    refine .rdG 12 (t := 141) rfl rfl rfl rfl (by kernel_rfl) (by kernel_rfl) (by kernel_rfl) (.ld na42 rfl .head rfl) (.cons (.tail (.tail (.tail .head))) (.cons (.tail (.tail (.tail (.tail (.tail (.tail .head)))))) .nil)) ?_
                    refine .rpG 13 (t := 141) rfl rfl rfl (by kernel_rfl) (by kernel_rfl) (by kernel_rfl) (Reads.pure (.lenL rfl rfl Try.underlying42 rfl)) ?_
                    refine .efG 8 (t := 141) (by kernel_rfl) rfl rfl rfl (.fn rfl rfl (.cons .head .nil) (fun _ _ _ => trivial) (Len_ok n ps' pt)) ?_
                    rintro v _ ⟨G1, hq, rfl⟩
                    obtain ⟨rfl, rfl⟩ := hq
                    simp only [List.cons_append, List.nil_append]
                    refine ⟨.inr ⟨_, (.cons (.tail (.tail (.tail .head))) (.cons (.tail (.tail (.tail (.tail (.tail (.tail .head)))))) .nil))⟩, ?_⟩
                    refine .rpG 14 (t := 141) rfl rfl rfl (by kernel_rfl) (by kernel_rfl) (by kernel_rfl) (Reads.pure (.neI rfl rfl)) ?_
                    refine .alter (t := 149) (v' := .bool false) rfl (by rw [decide_eq_true (by omega)]; rfl) ?_
                    refine .rp 15 rfl (by kernel_rfl) (by kernel_rfl) (by kernel_rfl) (Reads.pure (.pickF rfl rfl)) ?_
                    refine .rp 16 rfl (by kernel_rfl) (by kernel_rfl) (by kernel_rfl) (Reads.pure (.move rfl)) ?_
                    refine .rpG 17 (t := 151) rfl rfl rfl (by kernel_rfl) (by kernel_rfl) (by kernel_rfl) (Reads.pure (.move rfl)) ?_
                    refine .rpG 18 (t := 151) rfl rfl rfl (by kernel_rfl) (by kernel_rfl) (by kernel_rfl) (Reads.pure (.fieldAddr fd47_1 rfl)) ?_
                    refine .rdG 19 (t := 151) rfl rfl rfl rfl (by kernel_rfl) (by kernel_rfl) (by kernel_rfl) (.ld na3 rfl (.tail .head) rfl) (.cons (.tail (.tail (.tail .head))) (.cons (.tail (.tail (.tail (.tail (.tail (.tail .head)))))) .nil)) ?_
                    refine .rpG 20 (t := 151) rfl rfl rfl (by kernel_rfl) (by kernel_rfl) (by kernel_rfl) (Reads.pure (.fieldAddr fd47_2 rfl)) ?_
                    refine .rdG 21 (t := 151) rfl rfl rfl rfl (by kernel_rfl) (by kernel_rfl) (by kernel_rfl) (.ld na3 rfl (.tail .head) rfl) (.cons (.tail (.tail (.tail .head))) (.cons (.tail (.tail (.tail (.tail (.tail (.tail .head)))))) .nil)) ?_
                    refine .rpG 23 (t := 151) rfl rfl rfl (by kernel_rfl) (by kernel_rfl) (by kernel_rfl) (Reads.pure (.move rfl)) ?_
                    refine .rpG 24 (t := 151) rfl rfl rfl (by kernel_rfl) (by kernel_rfl) (by kernel_rfl) (Reads.pure (.fieldAddr fd47_1 rfl)) ?_
                    refine .rdG 25 (t := 151) rfl rfl rfl rfl (by kernel_rfl) (by kernel_rfl) (by kernel_rfl) (.ld na3 rfl (.tail .head) rfl) (.cons (.tail (.tail (.tail .head))) (.cons (.tail (.tail (.tail (.tail (.tail (.tail .head)))))) .nil)) ?_
                    refine .rpG 26 (t := 151) rfl rfl rfl (by kernel_rfl) (by kernel_rfl) (by kernel_rfl) (Reads.pure (.fieldAddr fd47_2 rfl)) ?_
                    refine .rdG 27 (t := 151) rfl rfl rfl rfl (by kernel_rfl) (by kernel_rfl) (by kernel_rfl) (.ld na3 rfl (.tail .head) rfl) (.cons (.tail (.tail (.tail .head))) (.cons (.tail (.tail (.tail (.tail (.tail (.tail .head)))))) .nil)) ?_
                    refine .efG 22 (t := 151) (by kernel_rfl) rfl rfl rfl (.fn rfl rfl (.cons .head .nil) (fun _ _ _ => trivial) (Parted_ok n ps' pt x.a x.b)) ?_
                    rintro v _ ⟨G1, hq, rfl⟩
                    obtain ⟨rfl, rfl⟩ := hq
                    simp only [List.cons_append, List.nil_append]
                    refine ⟨.inr ⟨_, (.cons (.tail (.tail (.tail .head))) (.cons (.tail (.tail (.tail (.tail (.tail (.tail .head)))))) .nil))⟩, ?_⟩
                    refine .close (.cons (.tail (.tail (.tail .head))) (.cons (.tail (.tail (.tail .head))) (.cons (.tail (.tail (.tail .head))) (.cons (.tail (.tail (.tail .head))) .nil)))) (rnet_close _ _ _ _) ?_
                    refine .efG 28 (t := 151) (by kernel_rfl) rfl rfl rfl (.fn rfl rfl (.cons .head .nil) (fun _ _ _ => trivial) (rParted_ok b18 qs' ap x.a x.b (by omega))) ?_
                    rintro v _ ⟨G1, hq, rfl⟩
                    obtain ⟨rfl, rfl⟩ := hq
                    simp only [List.cons_append, List.nil_append]
                    refine ⟨.inl (by kernel_rfl), ?_⟩
                    refine .rpG 29 (t := 151) rfl rfl rfl (by kernel_rfl) (by kernel_rfl) (by kernel_rfl) (Reads.pure (.neB Try.underlying4 rfl rfl)) ?_
                    refine .alter (t := 164) (v' := .bool false) rfl (by rw [hP2.parted]; simp) ?_
                    refine .rp 30 rfl (by kernel_rfl) (by kernel_rfl) (by kernel_rfl) (Reads.pure (.pickF rfl rfl)) ?_
                    refine .done (by kernel_rfl) ?_
                    refine .condF rfl ?_
                    refine .skip ?_
                    refine .inBlock ?_
                    refine .region ?_   -- R8 law.go:91
                    refine .rd (.move rfl) ?_
                    refine .rd (.add rfl rfl (by omega) (by omega)) ?_
                    refine .rd (.assign rfl) ?_
                    refine .nil ?_
                    exact (ih (i + 1, ps', pt, qs', ap) ⟨by show i + 1 ≤ _; omega, by show i + 1 ≤ 700; omega, hP2⟩ (by show l.length - (i + 1) < l.length - i; omega)).to (.cons rfl (.cons rfl (.cons rfl (.cons rfl .nil)))) (.cons (.tail .head) (.cons .head (.cons (.tail (.tail (.tail .head))) (.cons (.tail (.tail (.tail .head))) .nil))))
                  · refine .seq ?_
                    refine .region ?_   -- R26 law.go:105
                    refine .rd (.eqI rfl rfl) ?_
                    refine .rd (.assign rfl) ?_
                    refine .nil ?_
                    refine .condP rfl (fun h26 => ?_) (fun h26 => ?_)
                    · refine .seq ?_
                      refine .region ?_   -- R27 law.go:106
                      refine .rd (.move rfl) ?_
                      refine .rd (.fieldAddr fd47_1 rfl) ?_
                      refine .rd (.ld na3 rfl .head rfl) ?_
                      refine .rd (.fieldAddr fd47_2 rfl) ?_
                      refine .rd (.ld na3 rfl .head rfl) ?_
                      refine .fn rfl rfl (.cons (.tail .head) .nil) (fun _ _ _ => trivial) (Part_pl (a := x.a) (b := x.b) (by omega)) (fun v G1 hq => ?_)
                      obtain ⟨ps', pt', hR, rfl, rfl⟩ := hq
                      simp only [List.cons_append, List.nil_append]
                      refine .nil ?_
                      refine .region ?_   -- R28 law.go:107
                      refine .rd (.move rfl) ?_
                      refine .rd (.fieldAddr fd47_1 rfl) ?_
                      refine .rd (.ld na3 rfl (.tail .head) rfl) ?_
                      refine .rd (.fieldAddr fd47_2 rfl) ?_
                      refine .rd (.ld na3 rfl (.tail .head) rfl) ?_
                      refine .fn rfl rfl (.cons (.tail (.tail .head)) .nil) (fun _ _ _ => trivial) (rPart_pl (a := x.a) (b := x.b) (by omega) (by omega)) (fun v G1 hq => ?_)
                      obtain ⟨qs', ap', hR', rfl, rfl⟩ := hq
                      simp only [List.cons_append, List.nil_append]
                      refine .nil ?_
                      refine .inBlock ?_
                      refine .seq ?_
                      have hP2 := hPL.parts hR hR'
                      have hlen2 := hP2.cnt.len
                      have hqlen2 := hP2.len
                      have hapl2 := hP2.apl
                      refine .open_ .head rnet_open (fun x' _ => ?_)
                      obtain ⟨sa, sc, pa, pc⟩ := x'
                      simp only [List.cons_append, List.nil_append]
                      refine .draws [5] [blk b18 [.slice sa qs'.length sc, .slice pa ap'.length pc] 45] (by kernel_rfl) ?_   -- R32 law.go:112
                      refine .rp 0 rfl (by kernel_rfl) (by kernel_rfl) (by kernel_rfl) (Reads.pure (.move rfl)) ?_
                      refine .rp 2 rfl (by kernel_rfl) (by kernel_rfl) (by kernel_rfl) (Reads.pure (.move rfl)) ?_
                      refine .rp 3 rfl (by kernel_rfl) (by kernel_rfl) (by kernel_rfl) (Reads.pure (.nilCheck rfl)) ?_
                      refine .rp 4 rfl (by kernel_rfl) (by kernel_rfl) (by kernel_rfl) (Reads.pure (.fieldAddr fd45_0 rfl)) ?_
                      refine .rd 5 rfl rfl (by kernel_rfl) (by kernel_rfl) (by kernel_rfl) (.ld na42 rfl .head rfl) (.cons .head .nil) ?_
                      refine .ef 1 (by kernel_rfl) rfl (.fn rfl rfl (.cons (.tail (.tail (.tail (.tail .head)))) .nil) (fun _ _ _ => trivial) (All_ok n ps' pt' hlen2 hP2.cnt.ok)) ?_
                      rintro v _ ⟨G1, hq, rfl⟩
                      obtain ⟨aa, ac, al, hal, rfl, rfl⟩ := hq
                      simp only [List.cons_append, List.nil_append]
                      have hall : al.length = ps'.length := by have := congrArg List.length hal; simpa using this
                      have hokal : ∀ p ∈ al, p.1.ok := oks_of hal hP2.cnt.ok
                      refine ⟨.inr ⟨_, (.cons (.tail (.tail (.tail .head))) .nil)⟩, ?_⟩
                      refine .ef 6 (by kernel_rfl) rfl (.fn rfl rfl .nil (fun A w h => ⟨Knows.arr (.tail .head) A w h, Knows.arr (.tail (.tail (.tail (.tail .head)))) A w h, owms_all (.tail (.tail .head)) A w h, Knows.know (.tail (.tail (.tail (.tail (.tail (.tail .head)))))) A w h⟩) (same_ok aa sa ac sc al qs' (hal.trans hP2.eq) hokal (by omega))) ?_
                      rintro v _ ⟨G1, hq, rfl⟩
                      obtain ⟨rfl, rfl⟩ := hq
                      simp only [List.nil_append]
                      refine ⟨.inl (by kernel_rfl), ?_⟩
                      refine .rp 7 rfl (by kernel_rfl) (by kernel_rfl) (by kernel_rfl) (Reads.pure (.assign rfl)) ?_
                      refine .done (by kernel_rfl) ?_
                      refine .seq ?_
                      refine .draws [12, 19, 21, 25, 27] [blk b18 [.slice sa qs'.length sc, .slice pa ap'.length pc] 45, blk b7 (opc x) 47] (by kernel_rfl) ?_   -- R33 law.go:113
                      refine .rp 0 rfl (by kernel_rfl) (by kernel_rfl) (by kernel_rfl) (Reads.pure (.move rfl)) ?_
                      refine .rp 1 rfl (by kernel_rfl) (by kernel_rfl) (by kernel_rfl) (Reads.pure (.not rfl)) ?_
                      refine .rp 2 rfl (by kernel_rfl) (by kernel_rfl) (by kernel_rfl) (Reads.pure (.move rfl)) ?_
                      refine .rpG 3 (t := 137) rfl rfl rfl (by kernel_rfl) (by kernel_rfl) (by kernel_rfl) (Reads.pure (.move rfl)) ?_
                      refine .rpG 4 (t := 137) rfl rfl rfl (by kernel_rfl) (by kernel_rfl) (by kernel_rfl) (Reads.pure (.not rfl)) ?_
                      refine .rp 5 rfl (by kernel_rfl) (by kernel_rfl) (by kernel_rfl) (Reads.pure (.pickF rfl rfl)) ?_
                      refine .rp 6 rfl (by kernel_rfl) (by kernel_rfl) (by kernel_rfl) (Reads.pure (.move rfl)) ?_
                      refine .rpG 7 (t := 141) rfl rfl rfl (by kernel_rfl) (by kernel_rfl) (by kernel_rfl) (Reads.pure (.move rfl)) ?_
                      refine .rpG 9 (t := 141) rfl rfl rfl (by kernel_rfl) (by kernel_rfl) (by kernel_rfl) (Reads.pure (.move rfl)) ?_
                      refine .rpG 10 (t := 141) rfl rfl rfl (by kernel_rfl) (by kernel_rfl) (by kernel_rfl) (Reads.pure (.nilCheck rfl)) ?_
                      refine .rpG 11 (t := 141) rfl rfl rfl (by kernel_rfl) (by kernel_rfl) (by kernel_rfl) (Reads.pure (.fieldAddr fd45_0 rfl)) ?_
                      refine .rdG 12 (t := 141) rfl rfl rfl rfl (by kernel_rfl) (by kernel_rfl) (by kernel_rfl) (.ld na42 rfl .head rfl) (.cons (.tail (.tail (.tail .head))) (.cons (.tail (.tail (.tail (.tail (.tail (.tail .head)))))) .nil)) ?_
                      refine .rpG 13 (t := 141) rfl rfl rfl (by kernel_rfl) (by kernel_rfl) (by kernel_rfl) (Reads.pure (.lenL rfl rfl Try.underlying42 rfl)) ?_
                      refine .efG 8 (t := 141) (by kernel_rfl) rfl rfl rfl (.fn rfl rfl (.cons .head .nil) (fun _ _ _ => trivial) (Len_ok n ps' pt')) ?_
                      rintro v _ ⟨G1, hq, rfl⟩
                      obtain ⟨rfl, rfl⟩ := hq
                      simp only [List.cons_append, List.nil_append]
                      refine ⟨.inr ⟨_, (.cons (.tail (.tail (.tail .head))) (.cons (.tail (.tail (.tail (.tail (.tail (.tail .head)))))) .nil))⟩, ?_⟩
                      refine .rpG 14 (t := 141) rfl rfl rfl (by kernel_rfl) (by kernel_rfl) (by kernel_rfl) (Reads.pure (.neI rfl rfl)) ?_
                      refine .alter (t := 149) (v' := .bool false) rfl (by rw [decide_eq_true (by omega)]; rfl) ?_
                      refine .rp 15 rfl (by kernel_rfl) (by kernel_rfl) (by kernel_rfl) (Reads.pure (.pickF rfl rfl)) ?_
                      refine .rp 16 rfl (by kernel_rfl) (by kernel_rfl) (by kernel_rfl) (Reads.pure (.move rfl)) ?_
                      refine .rpG 17 (t := 151) rfl rfl rfl (by kernel_rfl) (by kernel_rfl) (by kernel_rfl) (Reads.pure (.move rfl)) ?_
                      refine .rpG 18 (t := 151) rfl rfl rfl (by kernel_rfl) (by kernel_rfl) (by kernel_rfl) (Reads.pure (.fieldAddr fd47_1 rfl)) ?_
                      refine .rdG 19 (t := 151) rfl rfl rfl rfl (by kernel_rfl) (by kernel_rfl) (by kernel_rfl) (.ld na3 rfl (.tail .head) rfl) (.cons (.tail (.tail (.tail .head))) (.cons (.tail (.tail (.tail (.tail (.tail (.tail .head)))))) .nil)) ?_
                      refine .rpG 20 (t := 151) rfl rfl rfl (by kernel_rfl) (by kernel_rfl) (by kernel_rfl) (Reads.pure (.fieldAddr fd47_2 rfl)) ?_
                      refine .rdG 21 (t := 151) rfl rfl rfl rfl (by kernel_rfl) (by kernel_rfl) (by kernel_rfl) (.ld na3 rfl (.tail .head) rfl) (.cons (.tail (.tail (.tail .head))) (.cons (.tail (.tail (.tail (.tail (.tail (.tail .head)))))) .nil)) ?_
                      refine .rpG 23 (t := 151) rfl rfl rfl (by kernel_rfl) (by kernel_rfl) (by kernel_rfl) (Reads.pure (.move rfl)) ?_
                      refine .rpG 24 (t := 151) rfl rfl rfl (by kernel_rfl) (by kernel_rfl) (by kernel_rfl) (Reads.pure (.fieldAddr fd47_1 rfl)) ?_
                      refine .rdG 25 (t := 151) rfl rfl rfl rfl (by kernel_rfl) (by kernel_rfl) (by kernel_rfl) (.ld na3 rfl (.tail .head) rfl) (.cons (.tail (.tail (.tail .head))) (.cons (.tail (.tail (.tail (.tail (.tail (.tail .head)))))) .nil)) ?_
                      refine .rpG 26 (t := 151) rfl rfl rfl (by kernel_rfl) (by kernel_rfl) (by kernel_rfl) (Reads.pure (.fieldAddr fd47_2 rfl)) ?_
                      refine .rdG 27 (t := 151) rfl rfl rfl rfl (by kernel_rfl) (by kernel_rfl) (by kernel_rfl) (.ld na3 rfl (.tail .head) rfl) (.cons (.tail (.tail (.tail .head))) (.cons (.tail (.tail (.tail (.tail (.tail (.tail .head)))))) .nil)) ?_
                      refine .efG 22 (t := 151) (by kernel_rfl) rfl rfl rfl (.fn rfl rfl (.cons .head .nil) (fun _ _ _ => trivial) (Parted_ok n ps' pt' x.a x.b)) ?_
                      rintro v _ ⟨G1, hq, rfl⟩
                      obtain ⟨rfl, rfl⟩ := hq
                      simp only [List.cons_append, List.nil_append]
                      refine ⟨.inr ⟨_, (.cons (.tail (.tail (.tail .head))) (.cons (.tail (.tail (.tail (.tail (.tail (.tail .head)))))) .nil))⟩, ?_⟩
                      refine .close (.cons (.tail (.tail (.tail .head))) (.cons (.tail (.tail (.tail .head))) (.cons (.tail (.tail (.tail .head))) (.cons (.tail (.tail (.tail .head))) .nil)))) (rnet_close _ _ _ _) ?_
                      refine .efG 28 (t := 151) (by kernel_rfl) rfl rfl rfl (.fn rfl rfl (.cons .head .nil) (fun _ _ _ => trivial) (rParted_ok b18 qs' ap' x.a x.b (by omega))) ?_
                      rintro v _ ⟨G1, hq, rfl⟩
                      obtain ⟨rfl, rfl⟩ := hq
                      simp only [List.cons_append, List.nil_append]
                      refine ⟨.inl (by kernel_rfl), ?_⟩
                      refine .rpG 29 (t := 151) rfl rfl rfl (by kernel_rfl) (by kernel_rfl) (by kernel_rfl) (Reads.pure (.neB Try.underlying4 rfl rfl)) ?_
                      refine .alter (t := 164) (v' := .bool false) rfl (by rw [hP2.parted]; simp) ?_
                      refine .rp 30 rfl (by kernel_rfl) (by kernel_rfl) (by kernel_rfl) (Reads.pure (.pickF rfl rfl)) ?_
                      refine .done (by kernel_rfl) ?_
                      refine .condF rfl ?_
                      refine .skip ?_
                      refine .inBlock ?_
                      refine .region ?_   -- R8 law.go:91
                      refine .rd (.move rfl) ?_
                      refine .rd (.add rfl rfl (by omega) (by omega)) ?_
                      refine .rd (.assign rfl) ?_
                      refine .nil ?_
                      exact (ih (i + 1, ps', pt', qs', ap') ⟨by show i + 1 ≤ _; omega, by show i + 1 ≤ 700; omega, hP2⟩ (by show l.length - (i + 1) < l.length - i; omega)).to (.cons rfl (.cons rfl (.cons rfl (.cons rfl .nil)))) (.cons (.tail .head) (.cons .head (.cons (.tail (.tail (.tail .head))) (.cons (.tail (.tail (.tail .head))) .nil))))
                    · refine .seq ?_
                      refine .region ?_   -- R29 law.go:108
                      refine .rd (.eqI rfl rfl) ?_
                      refine .rd (.assign rfl) ?_
                      refine .nil ?_
                      refine .condP rfl (fun h29 => ?_) (fun h29 => ?_)
                      · refine .seq ?_
                        refine .region ?_   -- R30 law.go:109
                        refine .rd (.move rfl) ?_
                        refine .rd (.fieldAddr fd47_1 rfl) ?_
                        refine .rd (.ld na3 rfl .head rfl) ?_
                        refine .rd (.fieldAddr fd47_2 rfl) ?_
                        refine .rd (.ld na3 rfl .head rfl) ?_
                        refine .fn rfl rfl (.cons (.tail .head) .nil) (fun _ _ _ => trivial) (Join_ok n ps pt x.a x.b) (fun v G1 hq => ?_)
                        obtain ⟨rfl, rfl⟩ := hq
                        simp only [List.cons_append, List.nil_append]
                        refine .nil ?_
                        refine .region ?_   -- R31 law.go:110
                        refine .rd (.move rfl) ?_
                        refine .rd (.fieldAddr fd47_1 rfl) ?_
                        refine .rd (.ld na3 rfl (.tail .head) rfl) ?_
                        refine .rd (.fieldAddr fd47_2 rfl) ?_
                        refine .rd (.ld na3 rfl (.tail .head) rfl) ?_
                        refine .fn rfl rfl (.cons (.tail (.tail .head)) .nil) (fun _ _ _ => trivial) (rJoin_ok b18 qs ap x.a x.b (by omega)) (fun v G1 hq => ?_)
                        obtain ⟨rfl, rfl⟩ := hq
                        simp only [List.cons_append, List.nil_append]
                        refine .nil ?_
                        refine .inBlock ?_
                        refine .seq ?_
                        have hP2 := (hPL.join x.a x.b).step
                        have hlen2 := hP2.cnt.len
                        have hqlen2 := hP2.len
                        have hapl2 := hP2.apl
                        refine .open_ .head rnet_open (fun x' _ => ?_)
                        obtain ⟨sa, sc, pa, pc⟩ := x'
                        simp only [List.cons_append, List.nil_append]
                        refine .draws [5] [blk b18 [.slice sa qs.length sc, .slice pa (ap.filter fun q => !decide (q = endsS x.a x.b)).length pc] 45] (by kernel_rfl) ?_   -- R32 law.go:112
                        refine .rp 0 rfl (by kernel_rfl) (by kernel_rfl) (by kernel_rfl) (Reads.pure (.move rfl)) ?_
                        refine .rp 2 rfl (by kernel_rfl) (by kernel_rfl) (by kernel_rfl) (Reads.pure (.move rfl)) ?_
                        refine .rp 3 rfl (by kernel_rfl) (by kernel_rfl) (by kernel_rfl) (Reads.pure (.nilCheck rfl)) ?_
                        refine .rp 4 rfl (by kernel_rfl) (by kernel_rfl) (by kernel_rfl) (Reads.pure (.fieldAddr fd45_0 rfl)) ?_
                        refine .rd 5 rfl rfl (by kernel_rfl) (by kernel_rfl) (by kernel_rfl) (.ld na42 rfl .head rfl) (.cons .head .nil) ?_
                        refine .ef 1 (by kernel_rfl) rfl (.fn rfl rfl (.cons (.tail (.tail (.tail (.tail .head)))) .nil) (fun _ _ _ => trivial) (All_ok n ps (mdel pt (endsS x.a x.b)) hlen2 hP2.cnt.ok)) ?_
                        rintro v _ ⟨G1, hq, rfl⟩
                        obtain ⟨aa, ac, al, hal, rfl, rfl⟩ := hq
                        simp only [List.cons_append, List.nil_append]
                        have hall : al.length = ps.length := by have := congrArg List.length hal; simpa using this
                        have hokal : ∀ p ∈ al, p.1.ok := oks_of hal hP2.cnt.ok
                        refine ⟨.inr ⟨_, (.cons (.tail (.tail (.tail .head))) .nil)⟩, ?_⟩
                        refine .ef 6 (by kernel_rfl) rfl (.fn rfl rfl .nil (fun A w h => ⟨Knows.arr (.tail .head) A w h, Knows.arr (.tail (.tail (.tail (.tail .head)))) A w h, owms_all (.tail (.tail .head)) A w h, Knows.know (.tail (.tail (.tail (.tail (.tail (.tail .head)))))) A w h⟩) (same_ok aa sa ac sc al qs (hal.trans hP2.eq) hokal (by omega))) ?_
                        rintro v _ ⟨G1, hq, rfl⟩
                        obtain ⟨rfl, rfl⟩ := hq
                        simp only [List.nil_append]
                        refine ⟨.inl (by kernel_rfl), ?_⟩
                        refine .rp 7 rfl (by kernel_rfl) (by kernel_rfl) (by kernel_rfl) (Reads.pure (.assign rfl)) ?_
                        refine .done (by kernel_rfl) ?_
                        refine .seq ?_
                        refine .draws [12, 19, 21, 25, 27] [blk b18 [.slice sa qs.length sc, .slice pa (ap.filter fun q => !decide (q = endsS x.a x.b)).length pc] 45, blk b7 (opc x) 47] (by kernel_rfl) ?_   -- R33 law.go:113
                        refine .rp 0 rfl (by kernel_rfl) (by kernel_rfl) (by kernel_rfl) (Reads.pure (.move rfl)) ?_
                        refine .rp 1 rfl (by kernel_rfl) (by kernel_rfl) (by kernel_rfl) (Reads.pure (.not rfl)) ?_
                        refine .rp 2 rfl (by kernel_rfl) (by kernel_rfl) (by kernel_rfl) (Reads.pure (.move rfl)) ?_
                        refine .rpG 3 (t := 137) rfl rfl rfl (by kernel_rfl) (by kernel_rfl) (by kernel_rfl) (Reads.pure (.move rfl)) ?_
                        refine .rpG 4 (t := 137) rfl rfl rfl (by kernel_rfl) (by kernel_rfl) (by kernel_rfl) (Reads.pure (.not rfl)) ?_
                        refine .rp 5 rfl (by kernel_rfl) (by kernel_rfl) (by kernel_rfl) (Reads.pure (.pickF rfl rfl)) ?_
                        refine .rp 6 rfl (by kernel_rfl) (by kernel_rfl) (by kernel_rfl) (Reads.pure (.move rfl)) ?_
                        refine .rpG 7 (t := 141) rfl rfl rfl (by kernel_rfl) (by kernel_rfl) (by kernel_rfl) (Reads.pure (.move rfl)) ?_
                        refine .rpG 9 (t := 141) rfl rfl rfl (by kernel_rfl) (by kernel_rfl) (by kernel_rfl) (Reads.pure (.move rfl)) ?_
                        refine .rpG 10 (t := 141) rfl rfl rfl (by kernel_rfl) (by kernel_rfl) (by kernel_rfl) (Reads.pure (.nilCheck rfl)) ?_
                        refine .rpG 11 (t := 141) rfl rfl rfl (by kernel_rfl) (by kernel_rfl) (by kernel_rfl) (Reads.pure (.fieldAddr fd45_0 rfl)) ?_
                        refine .rdG 12 (t := 141) rfl rfl rfl rfl (by kernel_rfl) (by kernel_rfl) (by kernel_rfl) (.ld na42 rfl .head rfl) (.cons (.tail (.tail (.tail .head))) (.cons (.tail (.tail (.tail (.tail (.tail (.tail .head)))))) .nil)) ?_
                        refine .rpG 13 (t := 141) rfl rfl rfl (by kernel_rfl) (by kernel_rfl) (by kernel_rfl) (Reads.pure (.lenL rfl rfl Try.underlying42 rfl)) ?_
                        refine .efG 8 (t := 141) (by kernel_rfl) rfl rfl rfl (.fn rfl rfl (.cons .head .nil) (fun _ _ _ => trivial) (Len_ok n ps (mdel pt (endsS x.a x.b)))) ?_
                        rintro v _ ⟨G1, hq, rfl⟩
                        obtain ⟨rfl, rfl⟩ := hq
                        simp only [List.cons_append, List.nil_append]
                        refine ⟨.inr ⟨_, (.cons (.tail (.tail (.tail .head))) (.cons (.tail (.tail (.tail (.tail (.tail (.tail .head)))))) .nil))⟩, ?_⟩
                        refine .rpG 14 (t := 141) rfl rfl rfl (by kernel_rfl) (by kernel_rfl) (by kernel_rfl) (Reads.pure (.neI rfl rfl)) ?_
                        refine .alter (t := 149) (v' := .bool false) rfl (by rw [decide_eq_true (by omega)]; rfl) ?_
                        refine .rp 15 rfl (by kernel_rfl) (by kernel_rfl) (by kernel_rfl) (Reads.pure (.pickF rfl rfl)) ?_
                        refine .rp 16 rfl (by kernel_rfl) (by kernel_rfl) (by kernel_rfl) (Reads.pure (.move rfl)) ?_
                        refine .rpG 17 (t := 151) rfl rfl rfl (by kernel_rfl) (by kernel_rfl) (by kernel_rfl) (Reads.pure (.move rfl)) ?_
                        refine .rpG 18 (t := 151) rfl rfl rfl (by kernel_rfl) (by kernel_rfl) (by kernel_rfl) (Reads.pure (.fieldAddr fd47_1 rfl)) ?_
                        refine .rdG 19 (t := 151) rfl rfl rfl rfl (by kernel_rfl) (by kernel_rfl) (by kernel_rfl) (.ld na3 rfl (.tail .head) rfl) (.cons (.tail (.tail (.tail .head))) (.cons (.tail (.tail (.tail (.tail (.tail (.tail .head)))))) .nil)) ?_
                        refine .rpG 20 (t := 151) rfl rfl rfl (by kernel_rfl) (by kernel_rfl) (by kernel_rfl) (Reads.pure (.fieldAddr fd47_2 rfl)) ?_
                        refine .rdG 21 (t := 151) rfl rfl rfl rfl (by kernel_rfl) (by kernel_rfl) (by kernel_rfl) (.ld na3 rfl (.tail .head) rfl) (.cons (.tail (.tail (.tail .head))) (.cons (.tail (.tail (.tail (.tail (.tail (.tail .head)))))) .nil)) ?_
                        refine .rpG 23 (t := 151) rfl rfl rfl (by kernel_rfl) (by kernel_rfl) (by kernel_rfl) (Reads.pure (.move rfl)) ?_
                        refine .rpG 24 (t := 151) rfl rfl rfl (by kernel_rfl) (by kernel_rfl) (by kernel_rfl) (Reads.pure (.fieldAddr fd47_1 rfl)) ?_
                        refine .rdG 25 (t := 151) rfl rfl rfl rfl (by kernel_rfl) (by kernel_rfl) (by kernel_rfl) (.ld na3 rfl (.tail .head) rfl) (.cons (.tail (.tail (.tail .head))) (.cons (.tail (.tail (.tail (.tail (.tail (.tail .head)))))) .nil)) ?_
                        refine .rpG 26 (t := 151) rfl rfl rfl (by kernel_rfl) (by kernel_rfl) (by kernel_rfl) (Reads.pure (.fieldAddr fd47_2 rfl)) ?_
                        refine .rdG 27 (t := 151) rfl rfl rfl rfl (by kernel_rfl) (by kernel_rfl) (by kernel_rfl) (.ld na3 rfl (.tail .head) rfl) (.cons (.tail (.tail (.tail .head))) (.cons (.tail (.tail (.tail (.tail (.tail (.tail .head)))))) .nil)) ?_
                        refine .efG 22 (t := 151) (by kernel_rfl) rfl rfl rfl (.fn rfl rfl (.cons .head .nil) (fun _ _ _ => trivial) (Parted_ok n ps (mdel pt (endsS x.a x.b)) x.a x.b)) ?_
                        rintro v _ ⟨G1, hq, rfl⟩
                        obtain ⟨rfl, rfl⟩ := hq
                        simp only [List.cons_append, List.nil_append]
                        refine ⟨.inr ⟨_, (.cons (.tail (.tail (.tail .head))) (.cons (.tail (.tail (.tail (.tail (.tail (.tail .head)))))) .nil))⟩, ?_⟩
                        refine .close (.cons (.tail (.tail (.tail .head))) (.cons (.tail (.tail (.tail .head))) (.cons (.tail (.tail (.tail .head))) (.cons (.tail (.tail (.tail .head))) .nil)))) (rnet_close _ _ _ _) ?_
                        refine .efG 28 (t := 151) (by kernel_rfl) rfl rfl rfl (.fn rfl rfl (.cons .head .nil) (fun _ _ _ => trivial) (rParted_ok b18 qs (ap.filter fun q => !decide (q = endsS x.a x.b)) x.a x.b (by omega))) ?_
                        rintro v _ ⟨G1, hq, rfl⟩
                        obtain ⟨rfl, rfl⟩ := hq
                        simp only [List.cons_append, List.nil_append]
                        refine ⟨.inl (by kernel_rfl), ?_⟩
                        refine .rpG 29 (t := 151) rfl rfl rfl (by kernel_rfl) (by kernel_rfl) (by kernel_rfl) (Reads.pure (.neB Try.underlying4 rfl rfl)) ?_
                        refine .alter (t := 164) (v' := .bool false) rfl (by rw [hP2.parted]; simp) ?_
                        refine .rp 30 rfl (by kernel_rfl) (by kernel_rfl) (by kernel_rfl) (Reads.pure (.pickF rfl rfl)) ?_
                        refine .done (by kernel_rfl) ?_
                        refine .condF rfl ?_
                        refine .skip ?_
                        refine .inBlock ?_
                        refine .region ?_   -- R8 law.go:91
                        refine .rd (.move rfl) ?_
                        refine .rd (.add rfl rfl (by omega) (by omega)) ?_
                        refine .rd (.assign rfl) ?_
                        refine .nil ?_
                        exact (ih (i + 1, ps, (mdel pt (endsS x.a x.b)), qs, (ap.filter fun q => !decide (q = endsS x.a x.b))) ⟨by show i + 1 ≤ _; omega, by show i + 1 ≤ 700; omega, hP2⟩ (by show l.length - (i + 1) < l.length - i; omega)).to (.cons rfl (.cons rfl (.cons rfl (.cons rfl .nil)))) (.cons (.tail .head) (.cons .head (.cons (.tail (.tail (.tail .head))) (.cons (.tail (.tail (.tail .head))) .nil))))
                      · refine .skip ?_
                        refine .inBlock ?_
                        refine .seq ?_
                        have hP2 := hPL.step
                        have hlen2 := hP2.cnt.len
                        have hqlen2 := hP2.len
                        have hapl2 := hP2.apl
                        refine .open_ (.tail (.tail .head)) rnet_open (fun x' _ => ?_)
                        obtain ⟨sa, sc, pa, pc⟩ := x'
                        simp only [List.cons_append, List.nil_append]
                        refine .draws [5] [blk b18 [.slice sa qs.length sc, .slice pa ap.length pc] 45] (by kernel_rfl) ?_   -- R32 law.go:112
                        refine .rp 0 rfl (by kernel_rfl) (by kernel_rfl) (by kernel_rfl) (Reads.pure (.move rfl)) ?_
                        refine .rp 2 rfl (by kernel_rfl) (by kernel_rfl) (by kernel_rfl) (Reads.pure (.move rfl)) ?_
                        refine .rp 3 rfl (by kernel_rfl) (by kernel_rfl) (by kernel_rfl) (Reads.pure (.nilCheck rfl)) ?_
                        refine .rp 4 rfl (by kernel_rfl) (by kernel_rfl) (by kernel_rfl) (Reads.pure (.fieldAddr fd45_0 rfl)) ?_
                        refine .rd 5 rfl rfl (by kernel_rfl) (by kernel_rfl) (by kernel_rfl) (.ld na42 rfl .head rfl) (.cons .head .nil) ?_
                        refine .ef 1 (by kernel_rfl) rfl (.fn rfl rfl (.cons (.tail (.tail (.tail (.tail (.tail .head))))) .nil) (fun _ _ _ => trivial) (All_ok n ps pt hlen2 hP2.cnt.ok)) ?_
                        rintro v _ ⟨G1, hq, rfl⟩
                        obtain ⟨aa, ac, al, hal, rfl, rfl⟩ := hq
                        simp only [List.cons_append, List.nil_append]
                        have hall : al.length = ps.length := by have := congrArg List.length hal; simpa using this
                        have hokal : ∀ p ∈ al, p.1.ok := oks_of hal hP2.cnt.ok
                        refine ⟨.inr ⟨_, (.cons (.tail (.tail (.tail .head))) .nil)⟩, ?_⟩
                        refine .ef 6 (by kernel_rfl) rfl (.fn rfl rfl .nil (fun A w h => ⟨Knows.arr (.tail .head) A w h, Knows.arr (.tail (.tail (.tail (.tail .head)))) A w h, owms_all (.tail (.tail .head)) A w h, Knows.know (.tail (.tail (.tail (.tail (.tail (.tail .head)))))) A w h⟩) (same_ok aa sa ac sc al qs (hal.trans hP2.eq) hokal (by omega))) ?_
                        rintro v _ ⟨G1, hq, rfl⟩
                        obtain ⟨rfl, rfl⟩ := hq
                        simp only [List.nil_append]
                        refine ⟨.inl (by kernel_rfl), ?_⟩
                        refine .rp 7 rfl (by kernel_rfl) (by kernel_rfl) (by kernel_rfl) (Reads.pure (.assign rfl)) ?_
                        refine .done (by kernel_rfl) ?_
                        refine .seq ?_
                        refine .draws [12, 19, 21, 25, 27] [blk b18 [.slice sa qs.length sc, .slice pa ap.length pc] 45, blk b7 (opc x) 47] (by kernel_rfl) ?_   -- R33 law.go:113
                        refine .rp 0 rfl (by kernel_rfl) (by kernel_rfl) (by kernel_rfl) (Reads.pure (.move rfl)) ?_
                        refine .rp 1 rfl (by kernel_rfl) (by kernel_rfl) (by kernel_rfl) (Reads.pure (.not rfl)) ?_
                        refine .rp 2 rfl (by kernel_rfl) (by kernel_rfl) (by kernel_rfl) (Reads.pure (.move rfl)) ?_
                        refine .rpG 3 (t := 137) rfl rfl rfl (by kernel_rfl) (by kernel_rfl) (by kernel_rfl) (Reads.pure (.move rfl)) ?_
                        refine .rpG 4 (t := 137) rfl rfl rfl (by kernel_rfl) (by kernel_rfl) (by kernel_rfl) (Reads.pure (.not rfl)) ?_
                        refine .rp 5 rfl (by kernel_rfl) (by kernel_rfl) (by kernel_rfl) (Reads.pure (.pickF rfl rfl)) ?_
                        refine .rp 6 rfl (by kernel_rfl) (by kernel_rfl) (by kernel_rfl) (Reads.pure (.move rfl)) ?_
                        refine .rpG 7 (t := 141) rfl rfl rfl (by kernel_rfl) (by kernel_rfl) (by kernel_rfl) (Reads.pure (.move rfl)) ?_
                        refine .rpG 9 (t := 141) rfl rfl rfl (by kernel_rfl) (by kernel_rfl) (by kernel_rfl) (Reads.pure (.move rfl)) ?_
                        refine .rpG 10 (t := 141) rfl rfl rfl (by kernel_rfl) (by kernel_rfl) (by kernel_rfl) (Reads.pure (.nilCheck rfl)) ?_
                        refine .rpG 11 (t := 141) rfl rfl rfl (by kernel_rfl) (by kernel_rfl) (by kernel_rfl) (Reads.pure (.fieldAddr fd45_0 rfl)) ?_
                        refine .rdG 12 (t := 141) rfl rfl rfl rfl (by kernel_rfl) (by kernel_rfl) (by kernel_rfl) (.ld na42 rfl .head rfl) (.cons (.tail (.tail (.tail .head))) (.cons (.tail (.tail (.tail (.tail (.tail (.tail .head)))))) .nil)) ?_
                        refine .rpG 13 (t := 141) rfl rfl rfl (by kernel_rfl) (by kernel_rfl) (by kernel_rfl) (Reads.pure (.lenL rfl rfl Try.underlying42 rfl)) ?_
                        refine .efG 8 (t := 141) (by kernel_rfl) rfl rfl rfl (.fn rfl rfl (.cons .head .nil) (fun _ _ _ => trivial) (Len_ok n ps pt)) ?_
                        rintro v _ ⟨G1, hq, rfl⟩
                        obtain ⟨rfl, rfl⟩ := hq
                        simp only [List.cons_append, List.nil_append]
                        refine ⟨.inr ⟨_, (.cons (.tail (.tail (.tail .head))) (.cons (.tail (.tail (.tail (.tail (.tail (.tail .head)))))) .nil))⟩, ?_⟩
                        refine .rpG 14 (t := 141) rfl rfl rfl (by kernel_rfl) (by kernel_rfl) (by kernel_rfl) (Reads.pure (.neI rfl rfl)) ?_
                        refine .alter (t := 149) (v' := .bool false) rfl (by rw [decide_eq_true (by omega)]; rfl) ?_
                        refine .rp 15 rfl (by kernel_rfl) (by kernel_rfl) (by kernel_rfl) (Reads.pure (.pickF rfl rfl)) ?_
                        refine .rp 16 rfl (by kernel_rfl) (by kernel_rfl) (by kernel_rfl) (Reads.pure (.move rfl)) ?_
                        refine .rpG 17 (t := 151) rfl rfl rfl (by kernel_rfl) (by kernel_rfl) (by kernel_rfl) (Reads.pure (.move rfl)) ?_
                        refine .rpG 18 (t := 151) rfl rfl rfl (by kernel_rfl) (by kernel_rfl) (by kernel_rfl) (Reads.pure (.fieldAddr fd47_1 rfl)) ?_
                        refine .rdG 19 (t := 151) rfl rfl rfl rfl (by kernel_rfl) (by kernel_rfl) (by kernel_rfl) (.ld na3 rfl (.tail .head) rfl) (.cons (.tail (.tail (.tail .head))) (.cons (.tail (.tail (.tail (.tail (.tail (.tail .head)))))) .nil)) ?_
                        refine .rpG 20 (t := 151) rfl rfl rfl (by kernel_rfl) (by kernel_rfl) (by kernel_rfl) (Reads.pure (.fieldAddr fd47_2 rfl)) ?_
                        refine .rdG 21 (t := 151) rfl rfl rfl rfl (by kernel_rfl) (by kernel_rfl) (by kernel_rfl) (.ld na3 rfl (.tail .head) rfl) (.cons (.tail (.tail (.tail .head))) (.cons (.tail (.tail (.tail (.tail (.tail (.tail .head)))))) .nil)) ?_
                        refine .rpG 23 (t := 151) rfl rfl rfl (by kernel_rfl) (by kernel_rfl) (by kernel_rfl) (Reads.pure (.move rfl)) ?_
                        refine .rpG 24 (t := 151) rfl rfl rfl (by kernel_rfl) (by kernel_rfl) (by kernel_rfl) (Reads.pure (.fieldAddr fd47_1 rfl)) ?_
                        refine .rdG 25 (t := 151) rfl rfl rfl rfl (by kernel_rfl) (by kernel_rfl) (by kernel_rfl) (.ld na3 rfl (.tail .head) rfl) (.cons (.tail (.tail (.tail .head))) (.cons (.tail (.tail (.tail (.tail (.tail (.tail .head)))))) .nil)) ?_
                        refine .rpG 26 (t := 151) rfl rfl rfl (by kernel_rfl) (by kernel_rfl) (by kernel_rfl) (Reads.pure (.fieldAddr fd47_2 rfl)) ?_
                        refine .rdG 27 (t := 151) rfl rfl rfl rfl (by kernel_rfl) (by kernel_rfl) (by kernel_rfl) (.ld na3 rfl (.tail .head) rfl) (.cons (.tail (.tail (.tail .head))) (.cons (.tail (.tail (.tail (.tail (.tail (.tail .head)))))) .nil)) ?_
                        refine .efG 22 (t := 151) (by kernel_rfl) rfl rfl rfl (.fn rfl rfl (.cons .head .nil) (fun _ _ _ => trivial) (Parted_ok n ps pt x.a x.b)) ?_
                        rintro v _ ⟨G1, hq, rfl⟩
                        obtain ⟨rfl, rfl⟩ := hq
                        simp only [List.cons_append, List.nil_append]
                        refine ⟨.inr ⟨_, (.cons (.tail (.tail (.tail .head))) (.cons (.tail (.tail (.tail (.tail (.tail (.tail .head)))))) .nil))⟩, ?_⟩
                        refine .close (.cons (.tail (.tail (.tail .head))) (.cons (.tail (.tail (.tail .head))) (.cons (.tail (.tail (.tail .head))) (.cons (.tail (.tail (.tail .head))) .nil)))) (rnet_close _ _ _ _) ?_
                        refine .efG 28 (t := 151) (by kernel_rfl) rfl rfl rfl (.fn rfl rfl (.cons .head .nil) (fun _ _ _ => trivial) (rParted_ok b18 qs ap x.a x.b (by omega))) ?_
                        rintro v _ ⟨G1, hq, rfl⟩
                        obtain ⟨rfl, rfl⟩ := hq
                        simp only [List.cons_append, List.nil_append]
                        refine ⟨.inl (by kernel_rfl), ?_⟩
                        refine .rpG 29 (t := 151) rfl rfl rfl (by kernel_rfl) (by kernel_rfl) (by kernel_rfl) (Reads.pure (.neB Try.underlying4 rfl rfl)) ?_
                        refine .alter (t := 164) (v' := .bool false) rfl (by rw [hP2.parted]; simp) ?_
                        refine .rp 30 rfl (by kernel_rfl) (by kernel_rfl) (by kernel_rfl) (Reads.pure (.pickF rfl rfl)) ?_
                        refine .done (by kernel_rfl) ?_
                        refine .condF rfl ?_
                        refine .skip ?_
                        refine .inBlock ?_
                        refine .region ?_   -- R8 law.go:91
                        refine .rd (.move rfl) ?_
                        refine .rd (.add rfl rfl (by omega) (by omega)) ?_
                        refine .rd (.assign rfl) ?_
                        refine .nil ?_
                        exact (ih (i + 1, ps, pt, qs, ap) ⟨by show i + 1 ≤ _; omega, by show i + 1 ≤ 700; omega, hP2⟩ (by show l.length - (i + 1) < l.length - i; omega)).to (.cons rfl (.cons rfl (.cons rfl (.cons rfl .nil)))) (.cons (.tail .head) (.cons .head (.cons (.tail (.tail (.tail .head))) (.cons (.tail (.tail (.tail .head))) .nil))))
    · refine .exit rfl ?_
      refine .seq ?_
      refine .region ?_   -- R35 law.go:117
      refine .rd (.assign rfl) ?_
      refine .nil ?_
      refine .retP Try.func4 (.cons (.tmp rfl) .nil) (.cons (.tail (.tail (.tail .head))) .nil) ?_
      exact ⟨[], ⟨rfl, rfl⟩, rfl⟩
  · replace h7 := of_decide_eq_false h7
    refine .off (t := 29) rfl rfl rfl ?_
    refine .off (t := 29) rfl rfl rfl ?_
    refine .rd (.pickF rfl rfl) ?_
    refine .nil ?_
    refine .condF rfl ?_
    refine .exit rfl ?_
    refine .seq ?_
    refine .region ?_   -- R35 law.go:117
    refine .rd (.assign rfl) ?_
    refine .nil ?_
    refine .retP Try.func4 (.cons (.tmp rfl) .nil) (.cons (.tail (.tail (.tail .head))) .nil) ?_
    exact ⟨[], ⟨rfl, rfl⟩, rfl⟩

end Go.Proofs.Ytfbmbhajpmlffaa

