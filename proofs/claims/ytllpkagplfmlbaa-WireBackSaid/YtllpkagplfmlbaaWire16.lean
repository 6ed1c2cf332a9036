/- Steps through functions of the program, under conditions that each theorem states (part wire16 of a claim). -/
import Derived.Test.YtllpkagplfmlbaaProg
import Derived.Test.YtllpkagplfmlbaaDefs3j
import Derived.Test.YtllpkagplfmlbaaWire6
import Derived.Test.YtllpkagplfmlbaaWire13
namespace Go.Proofs.Ytllpkagplfmlbaa
open Go Go.Sp

set_option linter.unusedVariables false

namespace wire16
theorem fd39_5 : FD Try.prog 39 5 5 := .of Try.underlying39 (by kernel_rfl)
theorem na9 : NotAgg Try.prog 9 := ⟨_, Try.underlying9, trivial⟩
theorem fd39_6 : FD Try.prog 39 6 6 := .of Try.underlying39 (by kernel_rfl)
theorem fd39_7 : FD Try.prog 39 7 7 := .of Try.underlying39 (by kernel_rfl)
theorem na37 : NotAgg Try.prog 37 := ⟨_, Try.underlying37, trivial⟩
theorem fd39_0 : FD Try.prog 39 0 0 := .of Try.underlying39 (by kernel_rfl)
theorem na3 : NotAgg Try.prog 3 := ⟨_, Try.underlying3, trivial⟩
theorem fd39_1 : FD Try.prog 39 1 1 := .of Try.underlying39 (by kernel_rfl)
theorem fd39_2 : FD Try.prog 39 2 2 := .of Try.underlying39 (by kernel_rfl)
theorem fd39_3 : FD Try.prog 39 3 3 := .of Try.underlying39 (by kernel_rfl)
theorem fd39_4 : FD Try.prog 39 4 4 := .of Try.underlying39 (by kernel_rfl)
theorem bld76_0_1_2_3_4 (x0 : Int) (x1 : Int) (x2 : Int) (x3 : Int) (x4 : Int) (w : World) : (Instr.build 76 (([0, 1, 2, 3, 4] : List Nat).zip [.int .i64 x0, .int .i64 x1, .int .i64 x2, .int .i64 x3, .int .i64 x4]).toArray).run Try.prog w = .ok (.agg #[.int .i64 x0, .int .i64 x1, .int .i64 x2, .int .i64 x3, .int .i64 x4]) w := by kernel_rfl
theorem ts3 : TS Try.prog 3 1 := .of (by kernel_rfl)
theorem ti5 : TI Try.prog 5 1 1 (.int .u8 0) := .of (by kernel_rfl)
end wire16
open wire16



set_option maxHeartbeats 1000000 in
set_option maxRecDepth 20000 in
theorem Meta_ok (m : Met) (p : Option Addr) (c : Nat) (hf : m.fits) : Cn Try.prog 20 [.agg (m.cells p c).toArray] (RowAt p (m.list.flatMap icell)) [] fun v G => v = .tuple #[.string (str (wmeta m).1), .int .i64 (wmeta m).2] ∧ G = [] := by
  refine .enter Try.func20 rfl (by kernel_rfl) rfl fun R k => ?_
  have hf1 := hf.name
  have hf2 := hf.text
  have hf3 := hf.len
  refine .seq ?_
  refine .region ?_   -- R0 wire.go:172
  refine .ef (.box (l := m.cells p c) rfl rfl (ones.of rfl)) ?_
  rintro _ _ ⟨b1, rfl, rfl⟩
  refine .rd (.assign rfl) ?_
  refine .rd (.assign rfl) ?_
  refine .nil ?_
  refine .seq ?_
  refine .block ?_
  refine .seq ?_
  refine .region ?_   -- R1 wire.go:174
  refine .rd (.fieldAddr fd39_5 rfl) ?_
  refine .rd (.ld na9 rfl .head rfl) ?_
  refine .rd (.lenT rfl rfl Try.underlying9 rfl) ?_
  refine .rd (.gt rfl rfl) ?_
  refine .rd (.move rfl) ?_
  refine .split (t := 14) rfl (fun g1 => ?_) (fun g1 => ?_)
  · replace g1 := of_decide_eq_true g1
    refine .off (t := 14) rfl rfl rfl ?_
    refine .off (t := 14) rfl rfl rfl ?_
    refine .off (t := 14) rfl rfl rfl ?_
    refine .off (t := 14) rfl rfl rfl ?_
    refine .rd (.pickT rfl rfl) ?_
    refine .rd (.assign rfl) ?_
    refine .nil ?_
    refine .condT rfl ?_
    refine .seq ?_
    refine .region ?_   -- R2 wire.go:175
    refine .rd (.assign rfl) ?_
    refine .rd (.assign rfl) ?_
    refine .nil ?_
    rw [wmeta_long (by omega)]
    refine .retP Try.func20 (.cons (.tmp rfl) (.cons (.tmp rfl) .nil)) (.cons (.tail .head) .nil) ?_
    exact ⟨[], ⟨rfl, rfl⟩, rfl⟩
  · replace g1 := of_decide_eq_false g1
    refine .on (t := 14) rfl rfl ?_
    refine .rd (.fieldAddr fd39_6 rfl) ?_
    refine .on (t := 14) rfl rfl ?_
    refine .rd (.ld na9 rfl .head rfl) ?_
    refine .on (t := 14) rfl rfl ?_
    refine .rd (.lenT rfl rfl Try.underlying9 rfl) ?_
    refine .on (t := 14) rfl rfl ?_
    refine .rd (.gt rfl rfl) ?_
    refine .rd (.pickF rfl rfl) ?_
    refine .rd (.assign rfl) ?_
    refine .nil ?_
    refine .condP rfl (fun h1 => ?_) (fun h1 => ?_)
    · refine .seq ?_
      refine .region ?_   -- R2 wire.go:175
      refine .rd (.assign rfl) ?_
      refine .rd (.assign rfl) ?_
      refine .nil ?_
      rw [wmeta_long (by omega)]
      refine .retP Try.func20 (.cons (.tmp rfl) (.cons (.tmp rfl) .nil)) (.cons (.tail .head) .nil) ?_
      exact ⟨[], ⟨rfl, rfl⟩, rfl⟩
    · refine .seq ?_
      refine .region ?_   -- R3 wire.go:176
      refine .rd (.fieldAddr fd39_7 rfl) ?_
      refine .rd (.ld na37 rfl .head rfl) ?_
      refine .rd (.lenL rfl rfl Try.underlying37 rfl) ?_
      refine .rd (.gt rfl rfl) ?_
      refine .rd (.assign rfl) ?_
      refine .nil ?_
      refine .condP rfl (fun h3 => ?_) (fun h3 => ?_)
      · refine .seq ?_
        refine .region ?_   -- R4 wire.go:177
        refine .rd (.assign rfl) ?_
        refine .rd (.assign rfl) ?_
        refine .nil ?_
        rw [wmeta_many (by omega) (by omega)]
        refine .retP Try.func20 (.cons (.tmp rfl) (.cons (.tmp rfl) .nil)) (.cons (.tail .head) .nil) ?_
        exact ⟨[], ⟨rfl, rfl⟩, rfl⟩
      · have hs : m.small := ⟨by omega, by omega, by omega⟩
        have hhl := mhead_len hf hs
        have hnm := hs.name
        have htx := hs.text
        have hli := hs.list
        refine .skip ?_
        refine .inBlock ?_
        refine .seq ?_
        refine .region ?_   -- R5 wire.go:179
        refine .rd (.assign rfl) ?_
        refine .nil ?_
        refine .nilArr 5 1 none ?_
        refine .seq ?_
        refine .seq ?_
        refine .region ?_   -- R6 wire.go:180
        refine .rd (.fieldAddr fd39_0 rfl) ?_
        refine .rd (.ld na3 rfl (.tail .head) rfl) ?_
        refine .rd (.fieldAddr fd39_1 rfl) ?_
        refine .rd (.ld na3 rfl (.tail .head) rfl) ?_
        refine .rd (.fieldAddr fd39_2 rfl) ?_
        refine .rd (.ld na3 rfl (.tail .head) rfl) ?_
        refine .rd (.fieldAddr fd39_3 rfl) ?_
        refine .rd (.ld na3 rfl (.tail .head) rfl) ?_
        refine .rd (.fieldAddr fd39_4 rfl) ?_
        refine .rd (.ld na3 rfl (.tail .head) rfl) ?_
        refine .rd (.build rfl (bld76_0_1_2_3_4 _ _ _ _ _)) ?_
        refine .rd (.move rfl) ?_
        refine .nil ?_
        refine .block ?_
        refine .loop (σ := Nat × Option Addr × Nat) (fun ⟨i, a', c'⟩ => i ≤ 5) (fun ⟨i, a', c'⟩ => 5 - i) (fun ⟨i, a', c'⟩ => [(1, .pointer (some ⟨b1, 0, none⟩)), (4, .slice a' (((five m).take i).flatMap eint).length c'), (35, .agg #[.int .i64 m.kind, .int .i64 m.a, .int .i64 m.b, .int .i64 m.c, .int .i64 m.d]), (36, .int .i64 (i : Nat))]) (fun ⟨i, a', c'⟩ => [arr 5 1 a' c' (bcs (((five m).take i).flatMap eint)), blk b1 (m.cells p c) 39, R]) (0, none, 0) (Nat.zero_le _) (.cons rfl (.cons rfl (.cons rfl (.cons rfl .nil)))) (.cons .head (.cons .head (.cons .head .nil))) (fun s hI ih => ?_)
        obtain ⟨i, a', c'⟩ := s
        dsimp only at hI ih ⊢
        refine .seq ?_
        refine .region ?_   -- R7 wire.go:180
        refine .rd (.lt rfl rfl) ?_
        refine .nil ?_
        refine .seq ?_
        refine .condP rfl (fun h7 => ?_) (fun h7 => ?_)
        · refine .skip ?_
          refine .seq ?_
          refine .block ?_
          refine .seq ?_
          have hlt : i < (five m).length := by show i < 5; omega
          obtain ⟨n, hn⟩ : ∃ n, (five m)[i]? = some n := ⟨_, List.getElem?_eq_getElem hlt⟩
          have hdl := five_len hf i
          refine .region ?_   -- R8 wire.go:180
          refine .rd (.indexA1 Try.underlying76 na3 ts3 rfl rfl (by omega) (by omega) (by rw [Int.toNat_natCast, Nat.mul_one]; exact five_at hn)) ?_
          refine .rd (.assign rfl) ?_
          refine .nil ?_
          refine .region ?_   -- R9 wire.go:181
          refine .rd (.move rfl) ?_
          refine .rd (.move rfl) ?_
          refine .fn rfl rfl (.cons .head .nil) (fun _ _ _ => trivial) (appendInt_ok a' c' (((five m).take i).flatMap eint) n (five_ok hf n (List.mem_of_getElem? hn)) (by omega)) (fun v G1 hq => ?_)
          obtain ⟨a2, c2, rfl, rfl⟩ := hq
          simp only [List.cons_append, List.nil_append]
          refine .rd (.assign rfl) ?_
          refine .nil ?_
          refine .inBlock ?_
          refine .region ?_   -- R10 wire.go:180
          refine .rd (.add rfl rfl (by omega) (by omega)) ?_
          refine .rd (.move rfl) ?_
          refine .nil ?_
          rw [← take_flat hn]
          exact (ih (i + 1, a2, c2) (by show i + 1 ≤ 5; omega) (by show 5 - (i + 1) < 5 - i; omega)).to (.cons rfl (.cons (by show _ = some (Value.slice a2 (((five m).take (i + 1)).flatMap eint).length c2); rw [take_flat hn]; rfl) (.cons rfl (.cons rfl .nil)))) (.cons .head (.cons .head (.cons .head .nil)))
        · obtain rfl : i = 5 := by omega
          have h6 : (five m).take 5 = five m := rfl
          have h5l := five_len hf 5
          rw [h6] at h5l
          rw [h6]
          refine .exit rfl ?_
          refine .seq ?_
          have hh4 : ((five m).flatMap eint ++ eint (m.name.length : Int) ++ m.name ++ eint (m.text.length : Int) ++ m.text).length ≤ 2000 := by have h := hhl; unfold mhead at h; simp only [List.length_append] at h ⊢; omega
          refine .draws [2, 5, 8] [blk b1 (m.cells p c) 39] (by kernel_rfl) ?_   -- R11 wire.go:183
          refine .rp 0 rfl (by kernel_rfl) (by kernel_rfl) (by kernel_rfl) (Reads.pure (.move rfl)) ?_
          refine .rp 1 rfl (by kernel_rfl) (by kernel_rfl) (by kernel_rfl) (Reads.pure (.fieldAddr fd39_5 rfl)) ?_
          refine .rd 2 rfl rfl (by kernel_rfl) (by kernel_rfl) (by kernel_rfl) (.ld na9 rfl .head rfl) (.cons (.tail .head) .nil) ?_
          refine .rp 4 rfl (by kernel_rfl) (by kernel_rfl) (by kernel_rfl) (Reads.pure (.fieldAddr fd39_6 rfl)) ?_
          refine .rd 5 rfl rfl (by kernel_rfl) (by kernel_rfl) (by kernel_rfl) (.ld na9 rfl .head rfl) (.cons (.tail .head) .nil) ?_
          refine .rp 7 rfl (by kernel_rfl) (by kernel_rfl) (by kernel_rfl) (Reads.pure (.fieldAddr fd39_7 rfl)) ?_
          refine .rd 8 rfl rfl (by kernel_rfl) (by kernel_rfl) (by kernel_rfl) (.ld na37 rfl .head rfl) (.cons (.tail .head) .nil) ?_
          refine .rp 9 rfl (by kernel_rfl) (by kernel_rfl) (by kernel_rfl) (Reads.pure (.lenL rfl rfl Try.underlying37 rfl)) ?_
          refine .ef 3 (by kernel_rfl) rfl (.fn rfl rfl (.cons .head .nil) (fun _ _ _ => trivial) (appendText_ok a' c' ((five m).flatMap eint) m.name (by omega) (by omega))) ?_
          rintro v _ ⟨G1, hq, rfl⟩
          obtain ⟨a2, c2, rfl, rfl⟩ := hq
          simp only [List.cons_append, List.nil_append]
          refine ⟨.inr ⟨_, (.cons (.tail .head) .nil)⟩, ?_⟩
          refine .ef 6 (by kernel_rfl) rfl (.fn rfl rfl (.cons .head .nil) (fun _ _ _ => trivial) (appendText_ok a2 c2 ((five m).flatMap eint ++ eint (m.name.length : Int) ++ m.name) m.text (by omega) (by have := eint_len (n := (m.name.length : Int)) ⟨by omega, by omega⟩; simp only [List.length_append]; omega))) ?_
          rintro v _ ⟨G1, hq, rfl⟩
          obtain ⟨a3, c3, rfl, rfl⟩ := hq
          simp only [List.cons_append, List.nil_append]
          refine ⟨.inr ⟨_, (.cons (.tail .head) .nil)⟩, ?_⟩
          refine .ef 10 (by kernel_rfl) rfl (.fn rfl rfl (.cons .head .nil) (fun _ _ _ => trivial) (appendInt_ok a3 c3 ((five m).flatMap eint ++ eint (m.name.length : Int) ++ m.name ++ eint (m.text.length : Int) ++ m.text) (m.list.length : Int) ⟨by omega, by omega⟩ (Nat.le_trans hh4 (by decide)))) ?_
          rintro v _ ⟨G1, hq, rfl⟩
          obtain ⟨a4, c4, rfl, rfl⟩ := hq
          simp only [List.cons_append, List.nil_append]
          refine ⟨.inl (by kernel_rfl), ?_⟩
          refine .rp 11 rfl (by kernel_rfl) (by kernel_rfl) (by kernel_rfl) (Reads.pure (.assign rfl)) ?_
          refine .done (by kernel_rfl) ?_
          refine .cast (X' := arr 5 1 a4 c4 (bcs (mhead m ++ (m.list.take 0).flatMap eint))) (by rw [List.take_zero, List.flatMap_nil, List.append_nil]; rfl) ?_
          refine .alter (t := 4) (v' := .slice a4 (mhead m ++ (m.list.take 0).flatMap eint).length c4) rfl (by rw [List.take_zero, List.flatMap_nil, List.append_nil]; rfl) ?_
          refine .seq ?_
          refine .seq ?_
          refine .region ?_   -- R12 wire.go:184
          refine .rd (.fieldAddr fd39_7 rfl) ?_
          refine .rd (.ld na37 rfl (.tail .head) rfl) ?_
          refine .rd (.lenL rfl rfl Try.underlying37 rfl) ?_
          refine .rd (.move rfl) ?_
          refine .nil ?_
          refine .block ?_
          refine .loop (σ := Nat × Option Addr × Nat) (fun ⟨j, a', c'⟩ => j ≤ m.list.length) (fun ⟨j, a', c'⟩ => m.list.length - j) (fun ⟨j, a', c'⟩ => [(4, .slice a' (mhead m ++ (m.list.take j).flatMap eint).length c'), (55, .slice p m.list.length c), (56, .int .i64 m.list.length), (57, .int .i64 (j : Nat))]) (fun ⟨j, a', c'⟩ => [arr 5 1 a' c' (bcs (mhead m ++ (m.list.take j).flatMap eint)), R]) (0, a4, c4) (Nat.zero_le _) (.cons rfl (.cons rfl (.cons rfl (.cons rfl .nil)))) (.cons .head (.cons (.tail .head) .nil)) (fun s hI ih => ?_)
          obtain ⟨j, a', c'⟩ := s
          dsimp only at hI ih ⊢
          refine .seq ?_
          refine .region ?_   -- R13 wire.go:184
          refine .rd (.lt rfl rfl) ?_
          refine .nil ?_
          refine .seq ?_
          refine .condP rfl (fun h13 => ?_) (fun h13 => ?_)
          · refine .skip ?_
            refine .seq ?_
            refine .block ?_
            refine .seq ?_
            have hjl : j < m.list.length := by omega
            obtain ⟨n, hn⟩ : ∃ n, m.list[j]? = some n := ⟨_, List.getElem?_eq_getElem hjl⟩
            have hdl := list_len hf hs j
            refine .tell (φ := ∃ b o, p = some ⟨b, o, none⟩) (Knows.pick (.tail .head) (k.mono fun _ h => h.addr (by rw [flat_length icell_len]; omega))) (fun hx => ?_)
            obtain ⟨bb, oo, rfl⟩ := hx
            refine .region ?_   -- R14 wire.go:184
            refine .rd (.indexAddr Try.underlying37 ts3 rfl rfl (by omega) (by omega)) ?_
            refine .rd (.load na3 rfl (Knows.elem (f := icell) icell_len (by decide) (Knows.pick (.tail .head) k) hn)) ?_
            refine .rd (.assign rfl) ?_
            refine .nil ?_
            refine .region ?_   -- R15 wire.go:185
            refine .rd (.move rfl) ?_
            refine .rd (.move rfl) ?_
            refine .fn rfl rfl (.cons .head .nil) (fun _ _ _ => trivial) (appendInt_ok a' c' (mhead m ++ (m.list.take j).flatMap eint) n (hf.ints n (List.mem_of_getElem? hn)) (by rw [List.length_append]; omega)) (fun v G1 hq => ?_)
            obtain ⟨a2, c2, rfl, rfl⟩ := hq
            simp only [List.cons_append, List.nil_append]
            refine .rd (.assign rfl) ?_
            refine .nil ?_
            refine .inBlock ?_
            refine .region ?_   -- R16 wire.go:184
            refine .rd (.add rfl rfl (by omega) (by omega)) ?_
            refine .rd (.move rfl) ?_
            refine .nil ?_
            have hfin : (mhead m ++ (m.list.take j).flatMap eint) ++ eint n = mhead m ++ (m.list.take (j + 1)).flatMap eint := by rw [take_flat hn, List.append_assoc]
            rw [hfin]
            exact (ih (j + 1, a2, c2) (by show j + 1 ≤ _; omega) (by show m.list.length - (j + 1) < m.list.length - j; omega)).to (.cons (by show _ = some (Value.slice a2 (mhead m ++ (m.list.take (j + 1)).flatMap eint).length c2); rw [← hfin]; rfl) (.cons rfl (.cons rfl (.cons rfl .nil)))) (.cons .head (.cons .head .nil))
          · obtain rfl : j = m.list.length := by omega
            rw [List.take_length, show mhead m ++ m.list.flatMap eint = mbody m from rfl]
            have hbl : (mbody m).length ≤ 2640 := by have := list_len hf hs m.list.length; rw [List.take_length] at this; unfold mbody; rw [List.length_append]; omega
            refine .exit rfl ?_
            refine .seq ?_
            refine .seq ?_
            refine .region ?_   -- R17 wire.go:187
            refine .rd (.move rfl) ?_
            refine .rd (.lenL rfl rfl Try.underlying34 rfl) ?_
            refine .rd (.gt rfl rfl) ?_
            refine .nil ?_
            refine .condP rfl (fun h17 => ?_) (fun h17 => ?_)
            · refine .seq ?_
              refine .region ?_   -- R18 wire.go:188
              refine .rd (.assign rfl) ?_
              refine .rd (.assign rfl) ?_
              refine .nil ?_
              rw [wmeta_much hs (by omega)]
              refine .retP Try.func20 (.cons (.tmp rfl) (.cons (.tmp rfl) .nil)) (.cons (.tail .head) .nil) ?_
              exact ⟨[], ⟨rfl, rfl⟩, rfl⟩
            · refine .skip ?_
              refine .seq ?_
              refine .nilArr 5 1 none ?_
              refine .region ?_   -- R19 wire.go:190
              refine .rd (.move rfl) ?_
              refine .rd (.bytesToStr (l := mbody m) Try.underlying34 Try.underlying5 Try.underlying9 rfl rfl (Knows.arr (.tail .head))) ?_
              refine .fn rfl rfl .nil (fun _ _ _ => trivial) (Crc_ok (mbody m) (by omega)) (fun v G1 hq => ?_)
              obtain ⟨rfl, rfl⟩ := hq
              simp only [List.nil_append]
              refine .fn rfl rfl (.cons .head .nil) (fun _ _ _ => trivial) (appendFour_ok none 0 [] (crc (mbody m)).toNat (by decide)) (fun v G1 hq => ?_)
              obtain ⟨a1, c1, rfl, rfl⟩ := hq
              simp only [List.cons_append, List.nil_append]
              refine .rd (.move rfl) ?_
              refine .ef (.append rfl rfl Try.underlying34 ti5 rfl (ones.of rfl) (by decide) (by decide) rfl rfl .head (n := (fours (crc (mbody m)).toNat).length) (m := (mbody m).length) (by rw [bcs_len, Nat.mul_one]) (.srcRow (Knows.arr (.tail .head)) Try.underlying34 (by rw [bcs_len, Nat.mul_one]) (by decide)) (by rw [fours_len]; omega)) ?_
              rintro _ _ ⟨ra, rc, rfl, rn, rfl⟩
              rw [← bcs_append]
              refine .rd (.bytesToStr (l := fours (crc (mbody m)).toNat ++ mbody m) Try.underlying34 Try.underlying5 Try.underlying9 rfl (by simp only [List.length_append]) (Knows.arr .head)) ?_
              refine .rd (.assign rfl) ?_
              refine .rd (.assign rfl) ?_
              refine .nil ?_
              rw [wmeta_good hs (by omega)]
              refine .retP Try.func20 (.cons (.tmp rfl) (.cons (.tmp rfl) .nil)) (.cons (.tail (.tail .head)) .nil) ?_
              exact ⟨[], ⟨rfl, rfl⟩, rfl⟩

set_option maxHeartbeats 1000000 in
set_option maxRecDepth 20000 in
theorem rMeta_ok (m : Met) (p : Option Addr) (c : Nat) (hf : m.fits) : Cn Try.prog 21 [.agg (m.cells p c).toArray] (RowAt p (m.list.flatMap icell)) [] fun v G => v = .tuple #[.string (str (wmeta m).1), .int .i64 (wmeta m).2] ∧ G = [] := by
  refine .enter Try.func21 rfl (by kernel_rfl) rfl fun R k => ?_
  have hf1 := hf.name
  have hf2 := hf.text
  have hf3 := hf.len
  refine .seq ?_
  refine .region ?_   -- R0 ref.go:208
  refine .ef (.box (l := m.cells p c) rfl rfl (ones.of rfl)) ?_
  rintro _ _ ⟨b1, rfl, rfl⟩
  refine .rd (.assign rfl) ?_
  refine .rd (.assign rfl) ?_
  refine .nil ?_
  refine .seq ?_
  refine .seq ?_
  refine .region ?_   -- R1 ref.go:209
  refine .rd (.fieldAddr fd39_5 rfl) ?_
  refine .rd (.ld na9 rfl .head rfl) ?_
  refine .rd (.lenT rfl rfl Try.underlying9 rfl) ?_
  refine .rd (.gt rfl rfl) ?_
  refine .rd (.move rfl) ?_
  refine .split (t := 10) rfl (fun g1 => ?_) (fun g1 => ?_)
  · replace g1 := of_decide_eq_true g1
    refine .off (t := 10) rfl rfl rfl ?_
    refine .off (t := 10) rfl rfl rfl ?_
    refine .off (t := 10) rfl rfl rfl ?_
    refine .off (t := 10) rfl rfl rfl ?_
    refine .rd (.pickT rfl rfl) ?_
    refine .nil ?_
    refine .condT rfl ?_
    refine .seq ?_
    refine .region ?_   -- R2 ref.go:210
    refine .rd (.assign rfl) ?_
    refine .rd (.assign rfl) ?_
    refine .nil ?_
    rw [wmeta_long (by omega)]
    refine .retP Try.func21 (.cons (.tmp rfl) (.cons (.tmp rfl) .nil)) (.cons (.tail .head) .nil) ?_
    exact ⟨[], ⟨rfl, rfl⟩, rfl⟩
  · replace g1 := of_decide_eq_false g1
    refine .on (t := 10) rfl rfl ?_
    refine .rd (.fieldAddr fd39_6 rfl) ?_
    refine .on (t := 10) rfl rfl ?_
    refine .rd (.ld na9 rfl .head rfl) ?_
    refine .on (t := 10) rfl rfl ?_
    refine .rd (.lenT rfl rfl Try.underlying9 rfl) ?_
    refine .on (t := 10) rfl rfl ?_
    refine .rd (.gt rfl rfl) ?_
    refine .rd (.pickF rfl rfl) ?_
    refine .nil ?_
    refine .condP rfl (fun h1 => ?_) (fun h1 => ?_)
    · refine .seq ?_
      refine .region ?_   -- R2 ref.go:210
      refine .rd (.assign rfl) ?_
      refine .rd (.assign rfl) ?_
      refine .nil ?_
      rw [wmeta_long (by omega)]
      refine .retP Try.func21 (.cons (.tmp rfl) (.cons (.tmp rfl) .nil)) (.cons (.tail .head) .nil) ?_
      exact ⟨[], ⟨rfl, rfl⟩, rfl⟩
    · refine .skip ?_
      refine .seq ?_
      refine .seq ?_
      refine .region ?_   -- R3 ref.go:212
      refine .rd (.fieldAddr fd39_7 rfl) ?_
      refine .rd (.ld na37 rfl .head rfl) ?_
      refine .rd (.lenL rfl rfl Try.underlying37 rfl) ?_
      refine .rd (.gt rfl rfl) ?_
      refine .nil ?_
      refine .condP rfl (fun h3 => ?_) (fun h3 => ?_)
      · refine .seq ?_
        refine .region ?_   -- R4 ref.go:213
        refine .rd (.assign rfl) ?_
        refine .rd (.assign rfl) ?_
        refine .nil ?_
        rw [wmeta_many (by omega) (by omega)]
        refine .retP Try.func21 (.cons (.tmp rfl) (.cons (.tmp rfl) .nil)) (.cons (.tail .head) .nil) ?_
        exact ⟨[], ⟨rfl, rfl⟩, rfl⟩
      · have hs : m.small := ⟨by omega, by omega, by omega⟩
        have hhl := mhead_len hf hs
        have hnm := hs.name
        have htx := hs.text
        have hli := hs.list
        refine .skip ?_
        refine .seq ?_
        have hi1 : i64 (m.name.length : Int) := ⟨by omega, by omega⟩
        have hi2 : i64 (m.text.length : Int) := ⟨by omega, by omega⟩
        have hi3 : i64 (m.list.length : Int) := ⟨by omega, by omega⟩
        have he2 := eint_len hf.kind
        have he5 := eint_len hf.a
        have he9 := eint_len hf.b
        have he13 := eint_len hf.c
        have he17 := eint_len hf.d
        have he22 := eint_len hi1
        have he30 := eint_len hi2
        have he38 := eint_len hi3
        refine .draws [1, 4, 8, 12, 16, 20, 25, 28, 33, 36] [blk b1 (m.cells p c) 39] (by kernel_rfl) ?_   -- R5 ref.go:215
        refine .rp 0 rfl (by kernel_rfl) (by kernel_rfl) (by kernel_rfl) (Reads.pure (.fieldAddr fd39_0 rfl)) ?_
        refine .rd 1 rfl rfl (by kernel_rfl) (by kernel_rfl) (by kernel_rfl) (.ld na3 rfl .head rfl) (.cons .head .nil) ?_
        refine .rp 3 rfl (by kernel_rfl) (by kernel_rfl) (by kernel_rfl) (Reads.pure (.fieldAddr fd39_1 rfl)) ?_
        refine .rd 4 rfl rfl (by kernel_rfl) (by kernel_rfl) (by kernel_rfl) (.ld na3 rfl .head rfl) (.cons .head .nil) ?_
        refine .rp 7 rfl (by kernel_rfl) (by kernel_rfl) (by kernel_rfl) (Reads.pure (.fieldAddr fd39_2 rfl)) ?_
        refine .rd 8 rfl rfl (by kernel_rfl) (by kernel_rfl) (by kernel_rfl) (.ld na3 rfl .head rfl) (.cons .head .nil) ?_
        refine .rp 11 rfl (by kernel_rfl) (by kernel_rfl) (by kernel_rfl) (Reads.pure (.fieldAddr fd39_3 rfl)) ?_
        refine .rd 12 rfl rfl (by kernel_rfl) (by kernel_rfl) (by kernel_rfl) (.ld na3 rfl .head rfl) (.cons .head .nil) ?_
        refine .rp 15 rfl (by kernel_rfl) (by kernel_rfl) (by kernel_rfl) (Reads.pure (.fieldAddr fd39_4 rfl)) ?_
        refine .rd 16 rfl rfl (by kernel_rfl) (by kernel_rfl) (by kernel_rfl) (.ld na3 rfl .head rfl) (.cons .head .nil) ?_
        refine .rp 19 rfl (by kernel_rfl) (by kernel_rfl) (by kernel_rfl) (Reads.pure (.fieldAddr fd39_5 rfl)) ?_
        refine .rd 20 rfl rfl (by kernel_rfl) (by kernel_rfl) (by kernel_rfl) (.ld na9 rfl .head rfl) (.cons .head .nil) ?_
        refine .rp 21 rfl (by kernel_rfl) (by kernel_rfl) (by kernel_rfl) (Reads.pure (.lenT rfl rfl Try.underlying9 rfl)) ?_
        refine .rp 24 rfl (by kernel_rfl) (by kernel_rfl) (by kernel_rfl) (Reads.pure (.fieldAddr fd39_5 rfl)) ?_
        refine .rd 25 rfl rfl (by kernel_rfl) (by kernel_rfl) (by kernel_rfl) (.ld na9 rfl .head rfl) (.cons .head .nil) ?_
        refine .rp 27 rfl (by kernel_rfl) (by kernel_rfl) (by kernel_rfl) (Reads.pure (.fieldAddr fd39_6 rfl)) ?_
        refine .rd 28 rfl rfl (by kernel_rfl) (by kernel_rfl) (by kernel_rfl) (.ld na9 rfl .head rfl) (.cons .head .nil) ?_
        refine .rp 29 rfl (by kernel_rfl) (by kernel_rfl) (by kernel_rfl) (Reads.pure (.lenT rfl rfl Try.underlying9 rfl)) ?_
        refine .rp 32 rfl (by kernel_rfl) (by kernel_rfl) (by kernel_rfl) (Reads.pure (.fieldAddr fd39_6 rfl)) ?_
        refine .rd 33 rfl rfl (by kernel_rfl) (by kernel_rfl) (by kernel_rfl) (.ld na9 rfl .head rfl) (.cons .head .nil) ?_
        refine .rp 35 rfl (by kernel_rfl) (by kernel_rfl) (by kernel_rfl) (Reads.pure (.fieldAddr fd39_7 rfl)) ?_
        refine .rd 36 rfl rfl (by kernel_rfl) (by kernel_rfl) (by kernel_rfl) (.ld na37 rfl .head rfl) (.cons .head .nil) ?_
        refine .rp 37 rfl (by kernel_rfl) (by kernel_rfl) (by kernel_rfl) (Reads.pure (.lenL rfl rfl Try.underlying37 rfl)) ?_
        refine .ef 2 (by kernel_rfl) rfl (.fn rfl rfl .nil (fun _ _ _ => trivial) (rInt_ok m.kind hf.kind)) ?_
        rintro v _ ⟨G1, hq, rfl⟩
        obtain ⟨rfl, rfl⟩ := hq
        simp only [List.nil_append]
        refine ⟨.inr ⟨_, (.cons .head .nil)⟩, ?_⟩
        refine .ef 5 (by kernel_rfl) rfl (.fn rfl rfl .nil (fun _ _ _ => trivial) (rInt_ok m.a hf.a)) ?_
        rintro v _ ⟨G1, hq, rfl⟩
        obtain ⟨rfl, rfl⟩ := hq
        simp only [List.nil_append]
        refine ⟨.inr ⟨_, (.cons .head .nil)⟩, ?_⟩
        refine .rp 6 rfl (by kernel_rfl) (by kernel_rfl) (by kernel_rfl) (Reads.pure (.catT rfl rfl (by omega))) ?_
        refine .ef 9 (by kernel_rfl) rfl (.fn rfl rfl .nil (fun _ _ _ => trivial) (rInt_ok m.b hf.b)) ?_
        rintro v _ ⟨G1, hq, rfl⟩
        obtain ⟨rfl, rfl⟩ := hq
        simp only [List.nil_append]
        refine ⟨.inr ⟨_, (.cons .head .nil)⟩, ?_⟩
        refine .rp 10 rfl (by kernel_rfl) (by kernel_rfl) (by kernel_rfl) (Reads.pure (.catT rfl rfl (by simp only [List.length_append]; omega))) ?_
        refine .ef 13 (by kernel_rfl) rfl (.fn rfl rfl .nil (fun _ _ _ => trivial) (rInt_ok m.c hf.c)) ?_
        rintro v _ ⟨G1, hq, rfl⟩
        obtain ⟨rfl, rfl⟩ := hq
        simp only [List.nil_append]
        refine ⟨.inr ⟨_, (.cons .head .nil)⟩, ?_⟩
        refine .rp 14 rfl (by kernel_rfl) (by kernel_rfl) (by kernel_rfl) (Reads.pure (.catT rfl rfl (by simp only [List.length_append]; omega))) ?_
        refine .ef 17 (by kernel_rfl) rfl (.fn rfl rfl .nil (fun _ _ _ => trivial) (rInt_ok m.d hf.d)) ?_
        rintro v _ ⟨G1, hq, rfl⟩
        obtain ⟨rfl, rfl⟩ := hq
        simp only [List.nil_append]
        refine ⟨.inr ⟨_, (.cons .head .nil)⟩, ?_⟩
        refine .rp 18 rfl (by kernel_rfl) (by kernel_rfl) (by kernel_rfl) (Reads.pure (.catT rfl rfl (by simp only [List.length_append]; omega))) ?_
        refine .ef 22 (by kernel_rfl) rfl (.fn rfl rfl .nil (fun _ _ _ => trivial) (rInt_ok (m.name.length : Int) hi1)) ?_
        rintro v _ ⟨G1, hq, rfl⟩
        obtain ⟨rfl, rfl⟩ := hq
        simp only [List.nil_append]
        refine ⟨.inr ⟨_, (.cons .head .nil)⟩, ?_⟩
        refine .rp 23 rfl (by kernel_rfl) (by kernel_rfl) (by kernel_rfl) (Reads.pure (.catT rfl rfl (by simp only [List.length_append]; omega))) ?_
        refine .rp 26 rfl (by kernel_rfl) (by kernel_rfl) (by kernel_rfl) (Reads.pure (.catT rfl rfl (by simp only [List.length_append]; omega))) ?_
        refine .ef 30 (by kernel_rfl) rfl (.fn rfl rfl .nil (fun _ _ _ => trivial) (rInt_ok (m.text.length : Int) hi2)) ?_
        rintro v _ ⟨G1, hq, rfl⟩
        obtain ⟨rfl, rfl⟩ := hq
        simp only [List.nil_append]
        refine ⟨.inr ⟨_, (.cons .head .nil)⟩, ?_⟩
        refine .rp 31 rfl (by kernel_rfl) (by kernel_rfl) (by kernel_rfl) (Reads.pure (.catT rfl rfl (by simp only [List.length_append]; omega))) ?_
        refine .rp 34 rfl (by kernel_rfl) (by kernel_rfl) (by kernel_rfl) (Reads.pure (.catT rfl rfl (by simp only [List.length_append]; omega))) ?_
        refine .ef 38 (by kernel_rfl) rfl (.fn rfl rfl .nil (fun _ _ _ => trivial) (rInt_ok (m.list.length : Int) hi3)) ?_
        rintro v _ ⟨G1, hq, rfl⟩
        obtain ⟨rfl, rfl⟩ := hq
        simp only [List.nil_append]
        refine ⟨.inr ⟨_, (.cons .head .nil)⟩, ?_⟩
        refine .rp 39 rfl (by kernel_rfl) (by kernel_rfl) (by kernel_rfl) (Reads.pure (.catT rfl rfl (by simp only [List.length_append]; omega))) ?_
        refine .rp 40 rfl (by kernel_rfl) (by kernel_rfl) (by kernel_rfl) (Reads.pure (.assign rfl)) ?_
        refine .done (by kernel_rfl) ?_
        refine .alter (t := 4) (v' := .string (str (mhead m ++ (m.list.take 0).flatMap eint))) rfl (by rw [List.take_zero, List.flatMap_nil, List.append_nil]; simp [mhead, five]) ?_
        refine .seq ?_
        refine .seq ?_
        refine .region ?_   -- R6 ref.go:216
        refine .rd (.assign rfl) ?_
        refine .nil ?_
        refine .block ?_
        refine .loop (σ := Nat) (fun j => j ≤ m.list.length) (fun j => m.list.length - j) (fun j => [(1, .pointer (some ⟨b1, 0, none⟩)), (4, .string (str (mhead m ++ (m.list.take j).flatMap eint))), (5, .int .i64 (j : Nat))]) (fun j => [blk b1 (m.cells p c) 39, R]) 0 (Nat.zero_le _) (.cons rfl (.cons rfl (.cons rfl .nil))) (.cons .head (.cons .head .nil)) (fun j hI ih => ?_)
        refine .seq ?_
        refine .seq ?_
        refine .region ?_   -- R7 ref.go:216
        refine .rd (.move rfl) ?_
        refine .rd (.fieldAddr fd39_7 rfl) ?_
        refine .rd (.ld na37 rfl .head rfl) ?_
        refine .rd (.lenL rfl rfl Try.underlying37 rfl) ?_
        refine .rd (.lt rfl rfl) ?_
        refine .nil ?_
        refine .condP rfl (fun h7 => ?_) (fun h7 => ?_)
        · refine .skip ?_
          refine .seq ?_
          refine .block ?_
          have hjl : j < m.list.length := by omega
          obtain ⟨n, hn⟩ : ∃ n, m.list[j]? = some n := ⟨_, List.getElem?_eq_getElem hjl⟩
          have hdl := list_len hf hs j
          refine .tell (φ := ∃ b o, p = some ⟨b, o, none⟩) (Knows.pick (.tail .head) (k.mono fun _ h => h.addr (by rw [flat_length icell_len]; omega))) (fun hx => ?_)
          obtain ⟨bb, oo, rfl⟩ := hx
          have hen := eint_len (hf.ints n (List.mem_of_getElem? hn))
          refine .region ?_   -- R9 ref.go:217
          refine .rd (.move rfl) ?_
          refine .rd (.fieldAddr fd39_7 rfl) ?_
          refine .rd (.ld na37 rfl .head rfl) ?_
          refine .rd (.move rfl) ?_
          refine .rd (.indexAddr Try.underlying37 ts3 rfl rfl (by omega) (by omega)) ?_
          refine .rd (.load na3 rfl (Knows.elem (f := icell) icell_len (by decide) (Knows.pick (.tail .head) k) hn)) ?_
          refine .fn rfl rfl .nil (fun _ _ _ => trivial) (rInt_ok n (hf.ints n (List.mem_of_getElem? hn))) (fun v G1 hq => ?_)
          obtain ⟨rfl, rfl⟩ := hq
          simp only [List.nil_append]
          refine .rd (.catT rfl rfl (by simp only [List.length_append]; omega)) ?_
          refine .rd (.assign rfl) ?_
          refine .nil ?_
          refine .inBlock ?_
          refine .region ?_   -- R8 ref.go:216
          refine .rd (.move rfl) ?_
          refine .rd (.add rfl rfl (by omega) (by omega)) ?_
          refine .rd (.assign rfl) ?_
          refine .nil ?_
          have hfin : (mhead m ++ (m.list.take j).flatMap eint) ++ eint n = mhead m ++ (m.list.take (j + 1)).flatMap eint := by rw [take_flat hn, List.append_assoc]
          exact (ih (j + 1) (by omega) (by omega)).to (.cons rfl (.cons (by show _ = some (Value.string (str (mhead m ++ (m.list.take (j + 1)).flatMap eint))); rw [← hfin]; rfl) (.cons rfl .nil))) (.cons .head (.cons .head .nil))
        · obtain rfl : j = m.list.length := by omega
          refine .alter (t := 4) (v' := .string (str (mbody m))) rfl (by rw [List.take_length]; rfl) ?_
          have hbl : (mbody m).length ≤ 2640 := by have := list_len hf hs m.list.length; rw [List.take_length] at this; unfold mbody; rw [List.length_append]; omega
          have hcl : (crc (mbody m)).toNat < 1000000000000000 := by have := (crc (mbody m)).isLt; omega
          refine .exit rfl ?_
          refine .seq ?_
          refine .seq ?_
          refine .region ?_   -- R10 ref.go:219
          refine .rd (.move rfl) ?_
          refine .rd (.lenT rfl rfl Try.underlying9 rfl) ?_
          refine .rd (.add rfl rfl (by omega) (by omega)) ?_
          refine .rd (.gt rfl rfl) ?_
          refine .nil ?_
          refine .condP rfl (fun h10 => ?_) (fun h10 => ?_)
          · refine .seq ?_
            refine .region ?_   -- R11 ref.go:220
            refine .rd (.assign rfl) ?_
            refine .rd (.assign rfl) ?_
            refine .nil ?_
            rw [wmeta_much hs (by omega)]
            refine .retP Try.func21 (.cons (.tmp rfl) (.cons (.tmp rfl) .nil)) (.cons (.tail .head) .nil) ?_
            exact ⟨[], ⟨rfl, rfl⟩, rfl⟩
          · refine .skip ?_
            refine .seq ?_
            refine .region ?_   -- R12 ref.go:222
            refine .rd (.move rfl) ?_
            refine .fn rfl rfl .nil (fun _ _ _ => trivial) (rCrc_ok (mbody m) (by omega)) (fun v G1 hq => ?_)
            obtain ⟨rfl, rfl⟩ := hq
            simp only [List.nil_append]
            refine .fn rfl rfl .nil (fun _ _ _ => trivial) (Four_ok (crc (mbody m)).toNat hcl) (fun v G1 hq => ?_)
            obtain ⟨rfl, rfl⟩ := hq
            simp only [List.nil_append]
            refine .rd (.move rfl) ?_
            refine .rd (.catT rfl rfl (by rw [fours_len]; omega)) ?_
            refine .rd (.assign rfl) ?_
            refine .rd (.assign rfl) ?_
            refine .nil ?_
            rw [wmeta_good hs (by omega)]
            refine .retP Try.func21 (.cons (.tmp rfl) (.cons (.tmp rfl) .nil)) (.cons (.tail .head) .nil) ?_
            exact ⟨[], ⟨rfl, rfl⟩, rfl⟩

end Go.Proofs.Ytllpkagplfmlbaa

