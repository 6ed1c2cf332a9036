/- Steps through functions of the program, under conditions that each theorem states (part wire9 of a claim). -/
import Derived.Test.YtllpkagplfmlbaaProg
import Derived.Test.YtllpkagplfmlbaaL13
import Derived.Test.YtllpkagplfmlbaaDefs3f
import Derived.Test.YtllpkagplfmlbaaWire8
namespace Go.Proofs.Ytllpkagplfmlbaa
open Go Go.Sp

set_option linter.unusedVariables false

namespace wire9
theorem fd27_0 : FD Try.prog 27 0 0 := .of Try.underlying27 (by kernel_rfl)
theorem na3 : NotAgg Try.prog 3 := ⟨_, Try.underlying3, trivial⟩
theorem fd27_1 : FD Try.prog 27 1 1 := .of Try.underlying27 (by kernel_rfl)
theorem fd27_2 : FD Try.prog 27 2 2 := .of Try.underlying27 (by kernel_rfl)
theorem fd27_3 : FD Try.prog 27 3 3 := .of Try.underlying27 (by kernel_rfl)
theorem fd27_4 : FD Try.prog 27 4 4 := .of Try.underlying27 (by kernel_rfl)
theorem fd27_5 : FD Try.prog 27 5 5 := .of Try.underlying27 (by kernel_rfl)
theorem na25 : NotAgg Try.prog 25 := ⟨_, Try.underlying25, trivial⟩
theorem bld94_0_1_2_3_4_5 (x0 : Int) (x1 : Int) (x2 : Int) (x3 : Int) (x4 : Int) (x5 : Int) (w : World) : (Instr.build 94 (([0, 1, 2, 3, 4, 5] : List Nat).zip [.int .i64 x0, .int .i64 x1, .int .i64 x2, .int .i64 x3, .int .i64 x4, .int .i64 x5]).toArray).run Try.prog w = .ok (.agg #[.int .i64 x0, .int .i64 x1, .int .i64 x2, .int .i64 x3, .int .i64 x4, .int .i64 x5]) w := by kernel_rfl
theorem ts3 : TS Try.prog 3 1 := .of (by kernel_rfl)
theorem ts65 : TS Try.prog 65 3 := .of (by kernel_rfl)
theorem ia65 : IsAgg Try.prog 65 := ⟨_, Try.underlying65, trivial⟩
theorem ti65 : TI Try.prog 65 3 40 (.agg #[.string ⟨#[]⟩, .string ⟨#[]⟩, .int .i64 0]) := .of (by kernel_rfl)
theorem fd65_2 : FD Try.prog 65 2 2 := .of Try.underlying65 (by kernel_rfl)
theorem fd65_0 : FD Try.prog 65 0 0 := .of Try.underlying65 (by kernel_rfl)
theorem na9 : NotAgg Try.prog 9 := ⟨_, Try.underlying9, trivial⟩
theorem fd65_1 : FD Try.prog 65 1 1 := .of Try.underlying65 (by kernel_rfl)
end wire9
open wire9

def six (b : Bat) : List Int := [b.base, b.epoch, b.pid, b.pidEpoch, b.seq, (b.recs.length : Int)]
theorem six_ok {b : Bat} (h : b.fits) : ∀ n ∈ six b, i64 n := fun n hn => by
  have hl := h.len
  simp only [six, List.mem_cons, List.not_mem_nil, or_false] at hn
  rcases hn with rfl | rfl | rfl | rfl | rfl | rfl
  · exact h.base
  · exact h.epoch
  · exact h.pid
  · exact h.pidEpoch
  · exact h.seq
  · exact ⟨by omega, by omega⟩
theorem body_six (b : Bat) : body b = (six b).flatMap eint ++ b.recs.flatMap recBody := by simp [body, six]
theorem six_at {b : Bat} {i : Nat} {n : Int} (h : (six b)[i]? = some n) : (#[Value.int .i64 b.base, .int .i64 b.epoch, .int .i64 b.pid, .int .i64 b.pidEpoch, .int .i64 b.seq, .int .i64 (b.recs.length : Int)] : Array Value)[i]? = some (.int .i64 n) := by
  have : (#[Value.int .i64 b.base, .int .i64 b.epoch, .int .i64 b.pid, .int .i64 b.pidEpoch, .int .i64 b.seq, .int .i64 (b.recs.length : Int)] : Array Value) = ((six b).map (Value.int .i64)).toArray := rfl
  rw [this, List.getElem?_toArray, List.getElem?_map, h]; rfl
structure Bat.small (b : Bat) : Prop where
  n : b.recs.length ≤ 64
  k : ∀ r ∈ b.recs, r.key.length ≤ 1000 ∧ r.value.length ≤ 1000
theorem recBody_len {b : Bat} (hf : b.fits) (hs : b.small) {r : Rec} (hr : r ∈ b.recs) : (recBody r).length ≤ 2030 := by
  have h1 := eint_len (hf.time r hr)
  obtain ⟨h2, h3⟩ := hs.k r hr
  have h4 := eint_len (n := (r.key.length : Int)) ⟨by omega, by omega⟩
  have h5 := eint_len (n := (r.value.length : Int)) ⟨by omega, by omega⟩
  unfold recBody; simp only [List.length_append]; omega
theorem flat_le {α : Type} {f : α → List UInt8} {k : Nat} : ∀ (l : List α), (∀ x ∈ l, (f x).length ≤ k) → (l.flatMap f).length ≤ l.length * k
  | [], _ => by simp
  | x :: l, h => by
    have h1 := h x (by simp)
    have h2 := flat_le l fun y hy => h y (by simp [hy])
    rw [List.flatMap_cons, List.length_append, List.length_cons, Nat.succ_mul]; omega
theorem six_len {b : Bat} (hf : b.fits) (i : Nat) : (((six b).take i).flatMap eint).length ≤ 60 := by
  have h1 := flat_le (f := eint) (k := 10) ((six b).take i) fun n hn => eint_len (six_ok hf n (List.mem_of_mem_take hn))
  have h2 : ((six b).take i).length ≤ 6 := by rw [List.length_take]; exact Nat.min_le_right _ _
  omega
theorem take_flat {α : Type} {f : α → List UInt8} {l : List α} {i : Nat} {x : α} (h : l[i]? = some x) : (l.take (i + 1)).flatMap f = (l.take i).flatMap f ++ f x := by
  rw [List.take_add_one, h, List.flatMap_append]; simp

set_option maxRecDepth 20000 in
theorem body_ok (b : Bat) (a : Option Addr) (c : Nat) (hf : b.fits) (hs : b.small) : Cn Try.prog 41 [.agg (b.cells a c).toArray] (RowAt a (b.recs.flatMap Rec.cells)) [] fun v G => ∃ a' c', v = .slice a' (body b).length c' ∧ G = [arr 5 1 a' c' (bcs (body b))] := by
  refine .enter Try.func41 rfl (by kernel_rfl) rfl fun R k => ?_
  refine .seq ?_
  refine .region ?_   -- R0 wire.go:60
  refine .ef (.box (l := b.cells a c) rfl rfl (ones.of rfl)) ?_
  rintro _ _ ⟨b1, rfl, rfl⟩
  refine .rd (.assign rfl) ?_
  refine .nil ?_
  refine .seq ?_
  refine .region ?_   -- R1 wire.go:61
  refine .rd (.assign rfl) ?_
  refine .nil ?_
  refine .nilArr 5 1 none ?_
  refine .seq ?_
  refine .seq ?_
  refine .region ?_   -- R2 wire.go:62
  refine .rd (.fieldAddr fd27_0 rfl) ?_
  refine .rd (.ld na3 rfl (.tail .head) rfl) ?_
  refine .rd (.fieldAddr fd27_1 rfl) ?_
  refine .rd (.ld na3 rfl (.tail .head) rfl) ?_
  refine .rd (.fieldAddr fd27_2 rfl) ?_
  refine .rd (.ld na3 rfl (.tail .head) rfl) ?_
  refine .rd (.fieldAddr fd27_3 rfl) ?_
  refine .rd (.ld na3 rfl (.tail .head) rfl) ?_
  refine .rd (.fieldAddr fd27_4 rfl) ?_
  refine .rd (.ld na3 rfl (.tail .head) rfl) ?_
  refine .rd (.fieldAddr fd27_5 rfl) ?_
  refine .rd (.ld na25 rfl (.tail .head) rfl) ?_
  refine .rd (.lenL rfl rfl Try.underlying25 rfl) ?_
  refine .rd (.build rfl (bld94_0_1_2_3_4_5 _ _ _ _ _ _)) ?_
  refine .rd (.move rfl) ?_
  refine .nil ?_
  refine .block ?_
  refine .loop (σ := Nat × Option Addr × Nat) (fun ⟨i, a', c'⟩ => i ≤ 6) (fun ⟨i, a', c'⟩ => 6 - i) (fun ⟨i, a', c'⟩ => [(1, .pointer (some ⟨b1, 0, none⟩)), (3, .slice a' (((six b).take i).flatMap eint).length c'), (21, .agg #[.int .i64 b.base, .int .i64 b.epoch, .int .i64 b.pid, .int .i64 b.pidEpoch, .int .i64 b.seq, .int .i64 (b.recs.length : Int)]), (22, .int .i64 (i : Nat))]) (fun ⟨i, a', c'⟩ => [arr 5 1 a' c' (bcs (((six b).take i).flatMap eint)), blk b1 (b.cells a c) 27, R]) (0, none, 0) (Nat.zero_le _) (.cons rfl (.cons rfl (.cons rfl (.cons rfl .nil)))) (.cons .head (.cons .head (.cons .head .nil))) (fun s hI ih => ?_)
  obtain ⟨i, a', c'⟩ := s
  dsimp only at hI ih ⊢
  refine .seq ?_
  refine .region ?_   -- R3 wire.go:62
  refine .rd (.lt rfl rfl) ?_
  refine .nil ?_
  refine .seq ?_
  refine .condP rfl (fun h3 => ?_) (fun h3 => ?_)
  · refine .skip ?_
    refine .seq ?_
    refine .block ?_
    refine .seq ?_
    have hlt : i < (six b).length := by show i < 6; omega
    obtain ⟨n, hn⟩ : ∃ n, (six b)[i]? = some n := ⟨_, List.getElem?_eq_getElem hlt⟩
    have hdl := six_len hf i
    refine .region ?_   -- R4 wire.go:62
    refine .rd (.indexA1 Try.underlying94 na3 ts3 rfl rfl (by omega) (by omega) (by rw [Int.toNat_natCast, Nat.mul_one]; exact six_at hn)) ?_
    refine .rd (.assign rfl) ?_
    refine .nil ?_
    refine .region ?_   -- R5 wire.go:63
    refine .rd (.move rfl) ?_
    refine .rd (.move rfl) ?_
    refine .fn rfl rfl (.cons .head .nil) (fun _ _ _ => trivial) (appendInt_ok a' c' (((six b).take i).flatMap eint) n (six_ok hf n (List.mem_of_getElem? hn)) (by omega)) (fun v G1 hq => ?_)
    obtain ⟨a2, c2, rfl, rfl⟩ := hq
    simp only [List.cons_append, List.nil_append]
    refine .rd (.assign rfl) ?_
    refine .nil ?_
    refine .inBlock ?_
    refine .region ?_   -- R6 wire.go:62
    refine .rd (.add rfl rfl (by omega) (by omega)) ?_
    refine .rd (.move rfl) ?_
    refine .nil ?_
    rw [← take_flat hn]
    exact (ih (i + 1, a2, c2) (by show i + 1 ≤ 6; omega) (by show 6 - (i + 1) < 6 - i; omega)).to (.cons rfl (.cons (by show _ = some (Value.slice a2 (((six b).take (i + 1)).flatMap eint).length c2); rw [take_flat hn]; rfl) (.cons rfl (.cons rfl .nil)))) (.cons .head (.cons .head (.cons .head .nil)))
  · obtain rfl : i = 6 := by omega
    have h6 : (six b).take 6 = six b := rfl
    rw [h6]
    refine .alter (t := 3) (v' := .slice a' ((six b).flatMap eint ++ (b.recs.take 0).flatMap recBody).length c') rfl (by rw [List.take_zero, List.flatMap_nil, List.append_nil]) ?_
    have he0 : (six b).flatMap eint = (six b).flatMap eint ++ (b.recs.take 0).flatMap recBody := by rw [List.take_zero, List.flatMap_nil, List.append_nil]
    refine .exit rfl ?_
    refine .seq ?_
    refine .seq ?_
    refine .region ?_   -- R7 wire.go:65
    refine .rd (.fieldAddr fd27_5 rfl) ?_
    refine .rd (.ld na25 rfl (.tail .head) rfl) ?_
    refine .rd (.lenL rfl rfl Try.underlying25 rfl) ?_
    refine .rd (.move rfl) ?_
    refine .nil ?_
    refine .cast (X' := arr 5 1 a' c' (bcs ((six b).flatMap eint ++ (b.recs.take 0).flatMap recBody))) (by rw [← he0]) ?_
    refine .block ?_
    refine .loop (σ := Nat × Option Addr × Nat) (fun ⟨j, a', c'⟩ => j ≤ b.recs.length) (fun ⟨j, a', c'⟩ => b.recs.length - j) (fun ⟨j, a', c'⟩ => [(3, .slice a' ((six b).flatMap eint ++ (b.recs.take j).flatMap recBody).length c'), (30, .slice a b.recs.length c), (31, .int .i64 b.recs.length), (32, .int .i64 (j : Nat))]) (fun ⟨j, a', c'⟩ => [arr 5 1 a' c' (bcs ((six b).flatMap eint ++ (b.recs.take j).flatMap recBody)), R]) (0, a', c') (Nat.zero_le _) (.cons rfl (.cons rfl (.cons rfl (.cons rfl .nil)))) (.cons .head (.cons (.tail .head) .nil)) (fun s hI ih => ?_)
    obtain ⟨j, a', c'⟩ := s
    dsimp only at hI ih ⊢
    have hsn := hs.n
    refine .seq ?_
    refine .region ?_   -- R8 wire.go:65
    refine .rd (.lt rfl rfl) ?_
    refine .nil ?_
    refine .seq ?_
    refine .condP rfl (fun h8 => ?_) (fun h8 => ?_)
    · refine .skip ?_
      refine .seq ?_
      refine .block ?_
      refine .seq ?_
      have hjl : j < b.recs.length := by omega
      obtain ⟨r, hr⟩ : ∃ r, b.recs[j]? = some r := ⟨_, List.getElem?_eq_getElem hjl⟩
      have hrm := List.mem_of_getElem? hr
      obtain ⟨hk1, hk2⟩ := hs.k r hrm
      have hd1 := six_len hf 6
      rw [show (six b).take 6 = six b from rfl] at hd1
      have hd2 := flat_le (f := recBody) (k := 2030) (b.recs.take j) fun x hx => recBody_len hf hs (List.mem_of_mem_take hx)
      have hd3 : (b.recs.take j).length ≤ 64 := by rw [List.length_take]; have := hs.n; omega
      have hd4 : ((six b).flatMap eint ++ (b.recs.take j).flatMap recBody).length ≤ 200000 := by rw [List.length_append]; omega
      have he1 := eint_len (hf.time r hrm)
      have he2 := eint_len (n := (r.key.length : Int)) ⟨by omega, by omega⟩
      refine .tell (φ := ∃ b o, a = some ⟨b, o, none⟩) (Knows.pick (.tail .head) (k.mono fun _ h => h.addr (by rw [flat_length Rec.cells_len]; omega))) (fun hx => ?_)
      obtain ⟨bb, oo, rfl⟩ := hx
      refine .region ?_   -- R9 wire.go:65
      refine .rd (.indexAddr Try.underlying25 ts65 rfl rfl (by omega) (by omega)) ?_
      refine .rd (.loadN ia65 ts65 rfl rfl (Knows.elem Rec.cells_len (by decide) (Knows.pick (.tail .head) k) hr)) ?_
      refine .ef (.alloc ti65 rfl (ones.of rfl)) ?_
      rintro _ _ ⟨b7, rfl, rfl⟩
      refine .ef0 (.storeAll (vs := r.cells) ts65 rfl rfl rfl .head rfl (ones.of rfl)) ?_
      rintro _ _ rfl
      refine .nil ?_
      refine .draws [2, 5, 8] [blk b7 r.cells 65] (by kernel_rfl) ?_   -- R10 wire.go:66
      refine .rp 0 rfl (by kernel_rfl) (by kernel_rfl) (by kernel_rfl) (Reads.pure (.move rfl)) ?_
      refine .rp 1 rfl (by kernel_rfl) (by kernel_rfl) (by kernel_rfl) (Reads.pure (.fieldAddr fd65_2 rfl)) ?_
      refine .rd 2 rfl rfl (by kernel_rfl) (by kernel_rfl) (by kernel_rfl) (.ld na3 rfl .head rfl) (.cons .head .nil) ?_
      refine .rp 4 rfl (by kernel_rfl) (by kernel_rfl) (by kernel_rfl) (Reads.pure (.fieldAddr fd65_0 rfl)) ?_
      refine .rd 5 rfl rfl (by kernel_rfl) (by kernel_rfl) (by kernel_rfl) (.ld na9 rfl .head rfl) (.cons .head .nil) ?_
      refine .rp 7 rfl (by kernel_rfl) (by kernel_rfl) (by kernel_rfl) (Reads.pure (.fieldAddr fd65_1 rfl)) ?_
      refine .rd 8 rfl rfl (by kernel_rfl) (by kernel_rfl) (by kernel_rfl) (.ld na9 rfl .head rfl) (.cons .head .nil) ?_
      refine .ef 3 (by kernel_rfl) rfl (.fn rfl rfl (.cons (.tail .head) .nil) (fun _ _ _ => trivial) (appendInt_ok a' c' ((six b).flatMap eint ++ (b.recs.take j).flatMap recBody) r.time (hf.time r hrm) (by omega))) ?_
      rintro v _ ⟨G1, hq, rfl⟩
      obtain ⟨a2, c2, rfl, rfl⟩ := hq
      simp only [List.cons_append, List.nil_append]
      refine ⟨.inr ⟨_, (.cons (.tail .head) .nil)⟩, ?_⟩
      refine .ef 6 (by kernel_rfl) rfl (.fn rfl rfl (.cons .head .nil) (fun _ _ _ => trivial) (appendText_ok a2 c2 (((six b).flatMap eint ++ (b.recs.take j).flatMap recBody) ++ eint r.time) r.key (by omega) (by rw [List.length_append]; omega))) ?_
      rintro v _ ⟨G1, hq, rfl⟩
      obtain ⟨a3, c3, rfl, rfl⟩ := hq
      simp only [List.cons_append, List.nil_append]
      refine ⟨.inr ⟨_, (.cons (.tail .head) .nil)⟩, ?_⟩
      refine .ef 9 (by kernel_rfl) rfl (.fn rfl rfl (.cons .head .nil) (fun _ _ _ => trivial) (appendText_ok a3 c3 ((((six b).flatMap eint ++ (b.recs.take j).flatMap recBody) ++ eint r.time) ++ eint (r.key.length : Int) ++ r.key) r.value (by omega) (by simp only [List.length_append] at hd4 ⊢; omega))) ?_
      rintro v _ ⟨G1, hq, rfl⟩
      obtain ⟨a4, c4, rfl, rfl⟩ := hq
      simp only [List.cons_append, List.nil_append]
      refine ⟨.inl (by kernel_rfl), ?_⟩
      refine .rp 10 rfl (by kernel_rfl) (by kernel_rfl) (by kernel_rfl) (Reads.pure (.assign rfl)) ?_
      refine .done (by kernel_rfl) ?_
      refine .inBlock ?_
      refine .region ?_   -- R11 wire.go:65
      refine .rd (.add rfl rfl (by omega) (by omega)) ?_
      refine .rd (.move rfl) ?_
      refine .nil ?_
      have hfin : ((((six b).flatMap eint ++ (b.recs.take j).flatMap recBody) ++ eint r.time) ++ eint (r.key.length : Int) ++ r.key) ++ eint (r.value.length : Int) ++ r.value = (six b).flatMap eint ++ (b.recs.take (j + 1)).flatMap recBody := by rw [take_flat hr]; simp only [recBody, List.append_assoc]
      rw [hfin]
      exact (ih (j + 1, a4, c4) (by show j + 1 ≤ _; omega) (by show b.recs.length - (j + 1) < b.recs.length - j; omega)).to (.cons (by show _ = some (Value.slice a4 ((six b).flatMap eint ++ (b.recs.take (j + 1)).flatMap recBody).length c4); rw [← hfin]; rfl) (.cons rfl (.cons rfl (.cons rfl .nil)))) (.cons .head (.cons (.tail .head) .nil))
    · refine .exit rfl ?_
      refine .seq ?_
      refine .region ?_   -- R12 wire.go:68
      refine .rd (.move rfl) ?_
      refine .rd (.assign rfl) ?_
      refine .nil ?_
      obtain rfl : j = b.recs.length := by omega
      rw [List.take_length, ← body_six]
      refine .retP Try.func41 (.cons (.tmp rfl) .nil) (.cons .head (.cons .head .nil)) ?_
      exact ⟨[_], ⟨a', c', rfl, rfl⟩, rfl⟩

end Go.Proofs.Ytllpkagplfmlbaa

