/- Part 2 of a claim's texts: rules for the machine's steps, and steps through functions of the program, under the conditions that each theorem states. -/
import Derived.Test.YtglhoenjflpibaaGreatDoorProg
import Derived.KernelRfl
import Derived.Shelf.SlIter.Nil
import Derived.Shelf.SortM.Plain
import Derived.Shelf.SortM.SortNone
import Derived.Laws.AppendOwn
import Derived.Maps.Range
import Derived.Test.YtglhoenjflpibaaGreatDoorSav0
import Derived.Test.YtglhoenjflpibaaGreatDoorSav1
set_option linter.unusedVariables false
namespace Go.Proofs.YtglhoenjflpibaaGreatDoor
open Go Go.Sp

set_option linter.unusedVariables false

namespace dk1
theorem fd60_2 : FD Tryz.prog 60 2 2 := .of Tryz.underlying60 (by kernel_rfl)
theorem na58 : NotAgg Tryz.prog 58 := ⟨_, Tryz.underlying58, trivial⟩
theorem ti82 : TI Tryz.prog 82 2 24 (.agg #[.string ⟨#[]⟩, .int .i64 0]) := .of (by kernel_rfl)
theorem ts82 : TS Tryz.prog 82 2 := .of (by kernel_rfl)
theorem fd82_0 : FD Tryz.prog 82 0 0 := .of Tryz.underlying82 (by kernel_rfl)
theorem na9 : NotAgg Tryz.prog 9 := ⟨_, Tryz.underlying9, trivial⟩
theorem fd82_1 : FD Tryz.prog 82 1 1 := .of Tryz.underlying82 (by kernel_rfl)
theorem na3 : NotAgg Tryz.prog 3 := ⟨_, Tryz.underlying3, trivial⟩
theorem bld82_0_1 (x0 : ByteArray) (x1 : Int) (w : World) : (Instr.build 82 (([0, 1] : List Nat).zip [.string x0, .int .i64 x1]).toArray).run Tryz.prog w = .ok (.agg #[.string x0, .int .i64 x1]) w := by kernel_rfl
end dk1
open dk1

def abcd : List UInt8 := abc ++ [46]
theorem named_trim {n : Nm} (h : Named n) : Lib.trimS n abcd = [] := trim_nil.2 fun c hc => by
  rcases h.2.2 c hc with h | h
  · exact List.mem_append_left _ h
  · exact List.mem_append_right _ (List.mem_singleton.2 h)

set_option maxRecDepth 20000 in
theorem named_ok (n : Nm) (h : Named n) : Cn Tryz.prog 130 [nmv n] (fun _ => True) [] fun v G => v = .bool true ∧ G = [] := by
  refine .enter Tryz.func130 rfl (by kernel_rfl) rfl fun R k => ?_
  have hn := h.2.1
  refine .seq ?_
  refine .region ?_
  refine .rd (.assign rfl) ?_
  refine .nil ?_
  refine .seq ?_
  refine .region ?_
  refine .rd (.move rfl) ?_
  refine .rd (.neT (m := []) rfl rfl) ?_
  refine .alter (t := 4) (v' := .bool true) rfl (congrArg Value.bool (by rw [decide_eq_false h.1]; rfl)) ?_
  refine .rd (.move rfl) ?_
  refine .on (t := 5) rfl rfl ?_
  refine .rd (.move rfl) ?_
  refine .on (t := 5) rfl rfl ?_
  refine .rd (.lenT rfl rfl Tryz.underlying9 rfl) ?_
  refine .on (t := 5) rfl rfl ?_
  refine .rd (.le rfl rfl) ?_
  refine .alter (t := 8) (v' := .bool true) rfl (congrArg Value.bool (decide_eq_true (by omega))) ?_
  refine .rd (.pickT rfl rfl) ?_
  refine .rd (.move rfl) ?_
  refine .on (t := 10) rfl rfl ?_
  refine .rd (.move rfl) ?_
  refine .on (t := 10) rfl rfl ?_
  refine .fn rfl rfl .nil (fun _ _ _ => trivial) (trim_ok n abcd (by omega) (by decide) (by decide)) (fun v G1 hq => ?_)
  obtain ⟨rfl, rfl⟩ := hq
  simp only [List.nil_append]
  refine .on (t := 10) rfl rfl ?_
  refine .rd (.eqT (m := []) rfl rfl) ?_
  refine .alter (t := 13) (v' := .bool true) rfl (congrArg Value.bool (decide_eq_true (named_trim h))) ?_
  refine .rd (.pickT rfl rfl) ?_
  refine .rd (.assign rfl) ?_
  refine .nil ?_
  refine .retP Tryz.func130 (.cons (.tmp rfl) .nil) (.cons .head .nil) ?_
  exact ⟨[], ⟨rfl, rfl⟩, rfl⟩

set_option maxRecDepth 20000 in
theorem room_ok (db mb : Nat) (d : Dk) (n : Nm) (h : Named n) (hr : (d.get n).isSome = true ∨ d.fs.length < 256) : Cn Tryz.prog 107 [.pointer (some ⟨db, 0, none⟩), nmv n] (fun _ => True) [blk db (d.cells mb) 60, mp nmv Fl.val mb d.fs] fun v G => v = .int .i64 0 ∧ G = [blk db (d.cells mb) 60, mp nmv Fl.val mb d.fs] := by
  refine .enter Tryz.func107 rfl (by kernel_rfl) rfl fun R k => ?_
  refine .seq ?_
  refine .region ?_
  refine .rd (.assign rfl) ?_
  refine .nil ?_
  refine .seq ?_
  refine .seq ?_
  refine .region ?_
  refine .rd (.move rfl) ?_
  refine .fn rfl rfl .nil (fun _ _ _ => trivial) (named_ok n h) (fun v G1 hq => ?_)
  obtain ⟨rfl, rfl⟩ := hq
  simp only [List.nil_append]
  refine .rd (.not rfl) ?_
  refine .nil ?_
  refine .condF rfl ?_
  refine .skip ?_
  refine .seq ?_
  refine .seq ?_
  refine .region ?_
  refine .rd (.move rfl) ?_
  refine .rd (.nilCheck rfl) ?_
  refine .rd (.fieldAddr fd60_2 rfl) ?_
  refine .rd (.ld na58 rfl .head rfl) ?_
  refine .rd (.move rfl) ?_
  refine .rd (.lookupOk (q := n) kl58 Tryz.underlying58 (fun w => ti82.zero w) rfl rfl (.tail .head)) ?_
  refine .alter (t := 16) (v' := .tuple #[(d.file n).val, .bool (d.get n).isSome]) rfl (lkOk d n) ?_
  refine .rd (.move rfl) ?_
  refine .rd (.extract rfl rfl) ?_
  refine .rd (.extract rfl rfl) ?_
  refine .ef (.alloc ti82 rfl (ones.of rfl)) ?_
  rintro _ _ ⟨b5, rfl, rfl⟩
  refine .ef0 (.storeAll ts82 rfl rfl (by rfl) .head rfl (ones.of rfl)) ?_
  rintro _ _ rfl
  refine .rd (.assign rfl) ?_
  refine .nil ?_
  refine .seq ?_
  refine .region ?_
  refine .rd (.move rfl) ?_
  refine .rd (.not rfl) ?_
  refine .rd (.move rfl) ?_
  refine .split (t := 21) rfl (fun hz => ?_) (fun hz => ?_)
  · refine .on (t := 21) rfl rfl ?_
    refine .rd (.move rfl) ?_
    refine .on (t := 21) rfl rfl ?_
    refine .rd (.nilCheck rfl) ?_
    refine .on (t := 21) rfl rfl ?_
    refine .rd (.fieldAddr fd60_2 rfl) ?_
    refine .on (t := 21) rfl rfl ?_
    refine .rd (.ld na58 rfl (.tail .head) rfl) ?_
    refine .on (t := 21) rfl rfl ?_
    refine .rd (.lenM rfl rfl Tryz.underlying58 rfl (.tail (.tail .head))) ?_
    refine .on (t := 21) rfl rfl ?_
    refine .rd (.ge rfl rfl) ?_
    refine .alter (t := 27) (v' := .bool false) rfl (congrArg Value.bool (decide_eq_false (by rcases hr with hr | hr; exact absurd hr (by simpa using hz); omega))) ?_
    refine .rd (.pickT rfl rfl) ?_
    refine .nil ?_
    refine .condF rfl ?_
    refine .skip ?_
    refine .seq ?_
    refine .region ?_
    refine .rd (.assign rfl) ?_
    refine .nil ?_
    refine .retP Tryz.func107 (.cons (.tmp rfl) .nil) (.cons (.tail .head) (.cons (.tail .head) (.cons (.tail .head) .nil))) ?_
    exact ⟨[_, _], ⟨rfl, rfl⟩, rfl⟩
  · refine .off (t := 21) rfl rfl rfl ?_
    refine .off (t := 21) rfl rfl rfl ?_
    refine .off (t := 21) rfl rfl rfl ?_
    refine .off (t := 21) rfl rfl rfl ?_
    refine .off (t := 21) rfl rfl rfl ?_
    refine .off (t := 21) rfl rfl rfl ?_
    refine .rd (.pickF rfl rfl) ?_
    refine .nil ?_
    refine .condF rfl ?_
    refine .skip ?_
    refine .seq ?_
    refine .region ?_
    refine .rd (.assign rfl) ?_
    refine .nil ?_
    refine .retP Tryz.func107 (.cons (.tmp rfl) .nil) (.cons (.tail .head) (.cons (.tail .head) (.cons (.tail .head) .nil))) ?_
    exact ⟨[_, _], ⟨rfl, rfl⟩, rfl⟩

set_option maxRecDepth 20000 in
theorem Append_ok (db mb : Nat) (d : Dk) (n : Nm) (t : List UInt8) (hd : d.ok) (h : Named n) (hr : (d.get n).isSome = true ∨ d.fs.length < 256) (hl : d.used + t.length ≤ d.size) : Cn Tryz.prog 81 [.pointer (some ⟨db, 0, none⟩), nmv n, .string (str t)] (fun _ => True) [blk db (d.cells mb) 60, mp nmv Fl.val mb d.fs] fun v G => v = .int .i64 0 ∧ G = [blk db ((d.put n ⟨(d.file n).b ++ t, (d.file n).safe⟩).cells mb) 60, mp nmv Fl.val mb (d.put n ⟨(d.file n).b ++ t, (d.file n).safe⟩).fs] := by
  refine .enter Tryz.func81 rfl (by kernel_rfl) rfl fun R k => ?_
  have hu := hd.used
  have hz := hd.size
  have hfl := Dk.file_le (d := d) n
  refine .seq ?_
  refine .region ?_
  refine .rd (.assign rfl) ?_
  refine .nil ?_
  refine .seq ?_
  refine .seq ?_
  refine .region ?_
  refine .rd (.move rfl) ?_
  refine .rd (.move rfl) ?_
  refine .fn rfl rfl (.cons .head (.cons .head .nil)) (fun _ _ _ => trivial) (room_ok db mb d n h hr) (fun v G1 hq => ?_)
  obtain ⟨rfl, rfl⟩ := hq
  simp only [List.cons_append, List.nil_append]
  refine .rd (.assign rfl) ?_
  refine .nil ?_
  refine .seq ?_
  refine .region ?_
  refine .rd (.move rfl) ?_
  refine .rd (.neI rfl rfl) ?_
  refine .alter (t := 14) (v' := .bool false) rfl (congrArg Value.bool (by rfl)) ?_
  refine .nil ?_
  refine .condF rfl ?_
  refine .skip ?_
  refine .seq ?_
  refine .region ?_
  refine .rd (.move rfl) ?_
  refine .rd (.nilCheck rfl) ?_
  refine .rd (.fieldAddr fd60_2 rfl) ?_
  refine .rd (.ld na58 rfl .head rfl) ?_
  refine .rd (.move rfl) ?_
  refine .rd (.lookup (q := n) kl58 Tryz.underlying58 (fun w => ti82.zero w) rfl rfl (.tail .head)) ?_
  refine .alter (t := 21) (v' := (d.file n).val) rfl (lkNo d n) ?_
  refine .ef (.alloc ti82 rfl (ones.of rfl)) ?_
  rintro _ _ ⟨b8, rfl, rfl⟩
  refine .ef0 (.storeAll ts82 rfl rfl (by rfl) .head rfl (ones.of rfl)) ?_
  rintro _ _ rfl
  refine .nil ?_
  refine .cast (X' := blk b8 [.string (str (d.file n).b), .int .i64 ((d.file n).safe : Int)] 82) (rfl) ?_
  refine .seq ?_
  refine .region ?_
  refine .rd (.move rfl) ?_
  refine .rd (.lenT rfl rfl Tryz.underlying9 rfl) ?_
  refine .rd (.move rfl) ?_
  refine .fn rfl rfl (.cons (.tail .head) .nil) (fun _ _ _ => trivial) (Free_ok db mb d hd) (fun v G1 hq => ?_)
  obtain ⟨rfl, rfl⟩ := hq
  simp only [List.cons_append, List.nil_append]
  refine .rd (.min2 rfl rfl rfl) ?_
  refine .alter (t := 26) (v' := .int .i64 (t.length : Int)) rfl (congrArg (Value.int .i64) (by omega)) ?_
  refine .rd (.assign rfl) ?_
  refine .nil ?_
  refine .seq ?_
  refine .draws [3, 9] [blk b8 [.string (str (d.file n).b), .int .i64 ((d.file n).safe : Int)] 82] (by kernel_rfl) ?_
  refine .rp 0 rfl (by kernel_rfl) (by kernel_rfl) (by kernel_rfl) (Reads.pure (.move rfl)) ?_
  refine .rp 1 rfl (by kernel_rfl) (by kernel_rfl) (by kernel_rfl) (Reads.pure (.move rfl)) ?_
  refine .rp 2 rfl (by kernel_rfl) (by kernel_rfl) (by kernel_rfl) (Reads.pure (.fieldAddr fd82_0 rfl)) ?_
  refine .rd 3 rfl rfl (by kernel_rfl) (by kernel_rfl) (by kernel_rfl) (.ld na9 rfl .head rfl) (.cons (.tail .head) .nil) ?_
  refine .rp 4 rfl (by kernel_rfl) (by kernel_rfl) (by kernel_rfl) (Reads.pure (.move rfl)) ?_
  refine .rp 5 rfl (by kernel_rfl) (by kernel_rfl) (by kernel_rfl) (Reads.pure (.move rfl)) ?_
  refine .rp 6 rfl (by kernel_rfl) (by kernel_rfl) (by kernel_rfl) (Reads.pure (.sliceT (l := t) (a := 0) (h := t.length) Tryz.underlying9 rfl rfl ⟨_, rfl⟩ (by omega) (by omega))) ?_
  refine .alter (t := 33) (v' := .string (str t)) rfl (by simp) ?_
  refine .rp 7 rfl (by kernel_rfl) (by kernel_rfl) (by kernel_rfl) (Reads.pure (.catT rfl rfl (by omega))) ?_
  refine .rp 8 rfl (by kernel_rfl) (by kernel_rfl) (by kernel_rfl) (Reads.pure (.fieldAddr fd82_1 rfl)) ?_
  refine .rd 9 rfl rfl (by kernel_rfl) (by kernel_rfl) (by kernel_rfl) (.ld na3 rfl .head rfl) (.cons (.tail .head) .nil) ?_
  refine .rp 10 rfl (by kernel_rfl) (by kernel_rfl) (by kernel_rfl) (Reads.pure (.build rfl (bld82_0_1 _ _))) ?_
  refine .alter (t := 37) (v' := (Fl.val ⟨(d.file n).b ++ t, (d.file n).safe⟩)) rfl (by simp [Fl.val]) ?_
  refine .ef 11 (by kernel_rfl) rfl (.fn rfl rfl (.cons .head (.cons (.tail .head) .nil)) (fun _ _ _ => trivial) (put_ok db mb d n ⟨(d.file n).b ++ t, (d.file n).safe⟩ hd (by show ((d.file n).b ++ t).length ≤ _; rw [List.length_append]; omega))) ?_
  rintro v _ ⟨G1, hq, rfl⟩
  obtain rfl := hq
  simp only [List.cons_append, List.nil_append]
  refine ⟨.inl (by kernel_rfl), ?_⟩
  refine .done (by kernel_rfl) ?_
  refine .seq ?_
  refine .seq ?_
  refine .region ?_
  refine .rd (.move rfl) ?_
  refine .rd (.move rfl) ?_
  refine .rd (.lenT rfl rfl Tryz.underlying9 rfl) ?_
  refine .rd (.lt rfl rfl) ?_
  refine .alter (t := 42) (v' := .bool false) rfl (congrArg Value.bool (decide_eq_false (by omega))) ?_
  refine .nil ?_
  refine .condF rfl ?_
  refine .skip ?_
  refine .seq ?_
  refine .region ?_
  refine .rd (.assign rfl) ?_
  refine .nil ?_
  refine .retP Tryz.func81 (.cons (.tmp rfl) .nil) (.cons .head (.cons .head (.cons (.tail .head) .nil))) ?_
  exact ⟨[_, _], ⟨rfl, rfl⟩, rfl⟩

set_option maxRecDepth 20000 in
theorem Replace_ok (db mb : Nat) (d : Dk) (n : Nm) (t : List UInt8) (hd : d.ok) (h : Named n) (hr : (d.get n).isSome = true ∨ d.fs.length < 256) (hl : d.used + t.length ≤ d.size + (d.file n).b.length) : Cn Tryz.prog 74 [.pointer (some ⟨db, 0, none⟩), nmv n, .string (str t)] (fun _ => True) [blk db (d.cells mb) 60, mp nmv Fl.val mb d.fs] fun v G => v = .int .i64 0 ∧ G = [blk db ((d.put n ⟨t, t.length⟩).cells mb) 60, mp nmv Fl.val mb (d.put n ⟨t, t.length⟩).fs] := by
  refine .enter Tryz.func74 rfl (by kernel_rfl) rfl fun R k => ?_
  have hu := hd.used
  have hz := hd.size
  have hfl := Dk.file_le (d := d) n
  refine .seq ?_
  refine .region ?_
  refine .rd (.assign rfl) ?_
  refine .nil ?_
  refine .seq ?_
  refine .seq ?_
  refine .region ?_
  refine .rd (.move rfl) ?_
  refine .rd (.move rfl) ?_
  refine .fn rfl rfl (.cons .head (.cons .head .nil)) (fun _ _ _ => trivial) (room_ok db mb d n h hr) (fun v G1 hq => ?_)
  obtain ⟨rfl, rfl⟩ := hq
  simp only [List.cons_append, List.nil_append]
  refine .rd (.assign rfl) ?_
  refine .nil ?_
  refine .seq ?_
  refine .region ?_
  refine .rd (.move rfl) ?_
  refine .rd (.neI rfl rfl) ?_
  refine .alter (t := 12) (v' := .bool false) rfl (congrArg Value.bool (by rfl)) ?_
  refine .nil ?_
  refine .condF rfl ?_
  refine .skip ?_
  refine .seq ?_
  refine .seq ?_
  refine .region ?_
  refine .rd (.move rfl) ?_
  refine .rd (.lenT rfl rfl Tryz.underlying9 rfl) ?_
  refine .rd (.move rfl) ?_
  refine .fn rfl rfl (.cons .head .nil) (fun _ _ _ => trivial) (Free_ok db mb d hd) (fun v G1 hq => ?_)
  obtain ⟨rfl, rfl⟩ := hq
  simp only [List.cons_append, List.nil_append]
  refine .rd (.move rfl) ?_
  refine .rd (.move rfl) ?_
  refine .fn rfl rfl (.cons .head (.cons .head .nil)) (fun _ _ _ => trivial) (Size_ok db mb d n) (fun v G1 hq => ?_)
  obtain ⟨rfl, rfl⟩ := hq
  simp only [List.cons_append, List.nil_append]
  refine .rd (.add rfl rfl (by omega) (by omega)) ?_
  refine .rd (.gt rfl rfl) ?_
  refine .alter (t := 22) (v' := .bool false) rfl (congrArg Value.bool (decide_eq_false (by omega))) ?_
  refine .nil ?_
  refine .condF rfl ?_
  refine .skip ?_
  refine .seq ?_
  refine .region ?_
  refine .rd (.move rfl) ?_
  refine .rd (.move rfl) ?_
  refine .rd (.move rfl) ?_
  refine .rd (.move rfl) ?_
  refine .rd (.lenT rfl rfl Tryz.underlying9 rfl) ?_
  refine .rd (.build rfl (bld82_0_1 _ _)) ?_
  refine .fn rfl rfl (.cons .head (.cons .head .nil)) (fun _ _ _ => trivial) (put_ok db mb d n ⟨t, t.length⟩ hd (by show t.length ≤ _; omega)) (fun v G1 hq => ?_)
  obtain rfl := hq
  simp only [List.cons_append, List.nil_append]
  refine .nil ?_
  refine .seq ?_
  refine .region ?_
  refine .rd (.assign rfl) ?_
  refine .nil ?_
  refine .retP Tryz.func74 (.cons (.tmp rfl) .nil) (.cons .head (.cons .head (.cons .head .nil))) ?_
  exact ⟨[_, _], ⟨rfl, rfl⟩, rfl⟩

end Go.Proofs.YtglhoenjflpibaaGreatDoor


namespace Go.Proofs.YtglhoenjflpibaaGreatDoor
open Go Go.Sp

set_option linter.unusedVariables false

namespace seg0

end seg0
open seg0

theorem half_is {i j : Nat} (h : i + j ≤ 1000000000000) : (Value.int .i64 (IntKind.i64.wrap (((i + j : Nat) : Int).fdiv (2 ^ (min 1 IntKind.u64.bits))))) = .int .i64 (((i + j) / 2 : Nat) : Int) := by
  have e : (2 : Int) ^ (min 1 IntKind.u64.bits) = 2 := rfl
  rw [e, Int.fdiv_eq_ediv_of_nonneg _ (by omega), wrap_i64 (by omega) (by omega)]; rfl

set_option maxRecDepth 20000 in
theorem Search_ok (n : Nat) (hn : n ≤ 100000000) (p : Nat → Bool) (hm : ∀ a b, a ≤ b → b < n → p a = true → p b = true) (φ : World → Prop) (f : FuncId) (cap : Array Value) (hf : ∀ i < n, Cn Tryz.prog f (.int .i64 (i : Nat) :: cap.toList) φ [] fun v G => v = .bool (p i) ∧ G = []) : Cn Tryz.prog 50 [.int .i64 (n : Nat), .func (.func f) #[] cap] φ [] fun v G => ∃ z ≤ n, (∀ q < z, p q = false) ∧ (∀ q, z ≤ q → q < n → p q = true) ∧ v = .int .i64 (z : Nat) ∧ G = [] := by
  refine .enter Tryz.func50 rfl (by kernel_rfl) rfl fun R k => ?_
  refine .seq ?_
  refine .region ?_
  refine .rd (.assign rfl) ?_
  refine .nil ?_
  refine .seq ?_
  refine .region ?_
  refine .rd (.move rfl) ?_
  refine .rd (.assign rfl) ?_
  refine .rd (.assign rfl) ?_
  refine .nil ?_
  refine .seq ?_
  refine .block ?_
  refine .loop (σ := Nat × Nat) (fun ⟨i, j⟩ => i ≤ j ∧ j ≤ n ∧ (∀ q < i, p q = false) ∧ ∀ q, j ≤ q → q < n → p q = true) (fun ⟨i, j⟩ => j - i) (fun ⟨i, j⟩ => [(1, .func (.func f) #[] cap), (5, .int .i64 (i : Nat)), (6, .int .i64 (j : Nat))]) (fun ⟨i, j⟩ => [R]) (0, n) ⟨Nat.zero_le _, Nat.le_refl _, fun q h => absurd h (Nat.not_lt_zero q), fun q h1 h2 => absurd h1 (by omega)⟩ (.cons rfl (.cons rfl (.cons rfl .nil))) (.cons .head .nil) (fun s' hI ih => ?_)
  obtain ⟨i, j⟩ := s'
  dsimp only at hI ih ⊢
  obtain ⟨hij, hj, ha, hb⟩ := hI
  refine .seq ?_
  refine .seq ?_
  refine .region ?_
  refine .rd (.move rfl) ?_
  refine .rd (.move rfl) ?_
  refine .rd (.lt rfl rfl) ?_
  refine .nil ?_
  refine .condP rfl (fun c2 => ?_) (fun c2 => ?_)
  · refine .skip ?_
    refine .block ?_
    refine .seq ?_
    refine .region ?_
    refine .rd (.move rfl) ?_
    refine .rd (.move rfl) ?_
    refine .rd (.add rfl rfl (by omega) (by omega)) ?_
    refine .rd (.convInt Tryz.underlying3 Tryz.underlying121 rfl) ?_
    refine .alter (t := 15) (v' := .int .u64 ((i + j : Nat) : Int)) rfl (congrArg (Value.int .u64) (by rw [← wrap_u64 (n := i + j) (by omega)]; congr 1)) ?_
    refine .rd (.shr rfl rfl) ?_
    refine .rd (.convInt Tryz.underlying121 Tryz.underlying3 rfl) ?_
    refine .alter (t := 17) (v' := .int .i64 (((i + j) / 2 : Nat) : Int)) rfl (half_is (by omega)) ?_
    refine .rd (.assign rfl) ?_
    refine .nil ?_
    refine .seq ?_
    refine .region ?_
    refine .rd (.move rfl) ?_
    refine .rd (.move rfl) ?_
    have hlt : (i + j) / 2 < n := by omega
    refine .fnC rfl rfl .nil (Knows.pick .head k) (hf ((i + j) / 2) hlt) (fun v G1 hq => ?_)
    obtain ⟨rfl, rfl⟩ := hq
    simp only [List.nil_append]
    refine .rd (.not rfl) ?_
    refine .nil ?_
    refine .cond rfl (fun c4 => ?_) (fun c4 => ?_)
    · refine .region ?_
      refine .rd (.move rfl) ?_
      refine .rd (.add rfl rfl (by omega) (by omega)) ?_
      refine .rd (.assign rfl) ?_
      refine .nil ?_
      refine .inBlock ?_
      exact (ih ((i + j) / 2 + 1, j) ⟨by omega, hj, fun q hq => by cases e : p q with | false => rfl | true => exact absurd (hm q _ (by omega) hlt e) (by simpa using c4), hb⟩ (by show j - ((i + j) / 2 + 1) < j - i; omega)).to (.cons rfl (.cons rfl (.cons rfl .nil))) (.cons .head .nil)
    · refine .region ?_
      refine .rd (.move rfl) ?_
      refine .rd (.assign rfl) ?_
      refine .nil ?_
      refine .inBlock ?_
      exact (ih (i, (i + j) / 2) ⟨by omega, by omega, ha, fun q h1 h2 => hm _ q h1 h2 (by simpa using c4)⟩ (by show (i + j) / 2 - i < j - i; omega)).to (.cons rfl (.cons rfl (.cons rfl .nil))) (.cons .head .nil)
  · refine .exit rfl ?_
    refine .seq ?_
    refine .region ?_
    refine .rd (.move rfl) ?_
    refine .rd (.assign rfl) ?_
    refine .nil ?_
    obtain rfl : i = j := by omega
    refine .retP Tryz.func50 (.cons (.tmp rfl) .nil) (.cons .head .nil) ?_
    exact ⟨[], ⟨i, hj, ha, hb, rfl, rfl⟩, rfl⟩

end Go.Proofs.YtglhoenjflpibaaGreatDoor


namespace Go.Proofs.YtglhoenjflpibaaGreatDoor
open Go Go.Sp

set_option linter.unusedVariables false

namespace seg1
theorem fd69_2 : FD Tryz.prog 69 2 2 := .of Tryz.underlying69 (by kernel_rfl)
theorem na3 : NotAgg Tryz.prog 3 := ⟨_, Tryz.underlying3, trivial⟩
theorem fd69_3 : FD Tryz.prog 69 3 3 := .of Tryz.underlying69 (by kernel_rfl)
theorem na67 : NotAgg Tryz.prog 67 := ⟨_, Tryz.underlying67, trivial⟩
theorem ts71 : TS Tryz.prog 71 4 := .of (by kernel_rfl)
theorem fd71_1 : FD Tryz.prog 71 1 1 := .of Tryz.underlying71 (by kernel_rfl)
theorem fd34_0 : FD Tryz.prog 34 0 0 := .of Tryz.underlying34 (by kernel_rfl)
theorem fd34_5 : FD Tryz.prog 34 5 5 := .of Tryz.underlying34 (by kernel_rfl)
theorem na32 : NotAgg Tryz.prog 32 := ⟨_, Tryz.underlying32, trivial⟩
theorem fd69_0 : FD Tryz.prog 69 0 0 := .of Tryz.underlying69 (by kernel_rfl)
theorem na24 : NotAgg Tryz.prog 24 := ⟨_, Tryz.underlying24, trivial⟩
theorem fd69_1 : FD Tryz.prog 69 1 1 := .of Tryz.underlying69 (by kernel_rfl)
theorem na9 : NotAgg Tryz.prog 9 := ⟨_, Tryz.underlying9, trivial⟩
theorem na39 : NotAgg Tryz.prog 39 := ⟨_, Tryz.underlying39, trivial⟩
theorem fd71_3 : FD Tryz.prog 71 3 3 := .of Tryz.underlying71 (by kernel_rfl)
theorem fd69_4 : FD Tryz.prog 69 4 4 := .of Tryz.underlying69 (by kernel_rfl)
theorem na22 : NotAgg Tryz.prog 22 := ⟨_, Tryz.underlying22, trivial⟩
theorem ts3 : TS Tryz.prog 3 1 := .of (by kernel_rfl)
theorem fd71_0 : FD Tryz.prog 71 0 0 := .of Tryz.underlying71 (by kernel_rfl)
end seg1
open seg1



set_option maxRecDepth 20000 in
theorem Base_ok (db : Nat) (s : Sx) : Cn Tryz.prog 37 [.pointer (some ⟨s.b, 0, none⟩)] (SegAt db s) [] fun v G => v = .int .i64 s.base ∧ G = [] := by
  refine .enter Tryz.func37 rfl (by kernel_rfl) rfl fun R k => ?_
  refine .seq ?_
  refine .region ?_
  refine .rd (.assign rfl) ?_
  refine .nil ?_
  refine .seq ?_
  refine .region ?_
  refine .rd (.move rfl) ?_
  refine .rd (.nilCheck rfl) ?_
  refine .rd (.fieldAddr fd69_2 rfl) ?_
  refine .rd (.load na3 rfl (Knows.one (i := 2) (Knows.pick .head (k.mono fun _ h => h.1)) rfl)) ?_
  refine .rd (.assign rfl) ?_
  refine .nil ?_
  refine .retP Tryz.func37 (.cons (.tmp rfl) .nil) (.cons .head .nil) ?_
  exact ⟨[], ⟨rfl, rfl⟩, rfl⟩

set_option maxRecDepth 20000 in
theorem Next_ok (db : Nat) (s : Sx) (hs : s.ok) : Cn Tryz.prog 14 [.pointer (some ⟨s.b, 0, none⟩)] (SegAt db s) [] fun v G => v = .int .i64 s.next ∧ G = [] := by
  refine .enter Tryz.func14 rfl (by kernel_rfl) rfl fun R k => ?_
  have hl := hs.len
  refine .seq ?_
  refine .region ?_
  refine .rd (.assign rfl) ?_
  refine .nil ?_
  refine .seq ?_
  refine .seq ?_
  refine .region ?_
  refine .rd (.move rfl) ?_
  refine .rd (.nilCheck rfl) ?_
  refine .rd (.fieldAddr fd69_3 rfl) ?_
  refine .rd (.load na67 rfl (Knows.one (i := 3) (Knows.pick .head (k.mono fun _ h => h.1)) rfl)) ?_
  refine .rd (.lenL rfl rfl Tryz.underlying67 rfl) ?_
  refine .rd (.assign rfl) ?_
  refine .nil ?_
  refine .seq ?_
  refine .region ?_
  refine .rd (.move rfl) ?_
  refine .rd (.gt rfl rfl) ?_
  refine .nil ?_
  refine .condP rfl (fun c2 => ?_) (fun c2 => ?_)
  · refine .seq ?_
    obtain ⟨b, hb, hen⟩ := Sx.last (s := s) (by omega)
    refine .tell (φ := ∃ b o, s.aa = some ⟨b, o, none⟩) (Knows.pick .head (k.mono fun _ h => RowAt.addr h.2.1 (by rw [Sx.rows_len]; omega))) (fun hh => ?_)
    obtain ⟨b9, o9, h9⟩ := hh
    refine .region ?_
    refine .rd (.move rfl) ?_
    refine .rd (.nilCheck rfl) ?_
    refine .rd (.fieldAddr fd69_3 rfl) ?_
    refine .rd (.load na67 rfl (Knows.one (i := 3) (Knows.pick .head (k.mono fun _ h => h.1)) rfl)) ?_
    refine .rd (.move rfl) ?_
    refine .rd (.sub rfl rfl (by omega) (by omega)) ?_
    refine .alter (t := 16) (v' := .int .i64 ((s.bs.length - 1 : Nat))) rfl (congrArg (Value.int .i64) (by omega)) ?_
    refine .rd (.indexAddr (b := b9) (o := o9) Tryz.underlying67 ts71 (by show some (Value.slice (s.aa) _ _) = _; rw [h9]) rfl (by omega) (by omega)) ?_
    refine .rd (.fieldAddr fd71_1 rfl) ?_
    refine .rd (.load na3 rfl (Knows.one (i := 1) (Knows.elem (f := One.cells) One.cells_len (by decide) (Knows.pick .head (k.mono fun _ h => h9 ▸ h.2.1)) (one_at hb)) rfl)) ?_
    refine .rd (.assign rfl) ?_
    refine .nil ?_
    refine .retP Tryz.func14 (.cons (.tmp rfl) .nil) (.cons .head .nil) ?_
    exact ⟨[], ⟨by rw [← hen]; rfl, rfl⟩, rfl⟩
  · refine .skip ?_
    refine .seq ?_
    refine .region ?_
    refine .rd (.move rfl) ?_
    refine .rd (.nilCheck rfl) ?_
    refine .rd (.fieldAddr fd69_2 rfl) ?_
    refine .rd (.load na3 rfl (Knows.one (i := 2) (Knows.pick .head (k.mono fun _ h => h.1)) rfl)) ?_
    refine .rd (.assign rfl) ?_
    refine .nil ?_
    refine .retP Tryz.func14 (.cons (.tmp rfl) .nil) (.cons .head .nil) ?_
    exact ⟨[], ⟨by rw [Sx.next0 (by omega)]; rfl, rfl⟩, rfl⟩

set_option maxRecDepth 20000 in
theorem end_ok (b : Bat) (a : Option Addr) (c : Nat) (h0 : 0 ≤ b.base) (h1 : b.base ≤ 1000000000000) (hl : b.recs.length ≤ 140737488351232) : Cn Tryz.prog 80 [.agg (b.cells a c).toArray] (fun _ => True) [] fun v G => v = .int .i64 b.en ∧ G = [] := by
  refine .enter Tryz.func80 rfl (by kernel_rfl) rfl fun R k => ?_
  refine .seq ?_
  refine .region ?_
  refine .ef (.box (l := b.cells a c) rfl rfl (ones.of rfl)) ?_
  rintro _ _ ⟨b1, rfl, rfl⟩
  refine .rd (.assign rfl) ?_
  refine .nil ?_
  refine .seq ?_
  refine .region ?_
  refine .rd (.fieldAddr fd34_0 rfl) ?_
  refine .rd (.ld na3 rfl .head rfl) ?_
  refine .rd (.fieldAddr fd34_5 rfl) ?_
  refine .rd (.ld na32 rfl .head rfl) ?_
  refine .rd (.lenL rfl rfl Tryz.underlying32 rfl) ?_
  refine .rd (.add rfl rfl (by omega) (by omega)) ?_
  refine .rd (.assign rfl) ?_
  refine .nil ?_
  refine .retP Tryz.func80 (.cons (.tmp rfl) .nil) (.cons (.tail .head) .nil) ?_
  exact ⟨[], ⟨rfl, rfl⟩, rfl⟩

set_option maxRecDepth 20000 in
theorem Bytes_ok (db mb : Nat) (d : Dk) (s : Sx) : Cn Tryz.prog 44 [.pointer (some ⟨s.b, 0, none⟩)] (SegAt db s) [blk db (d.cells mb) 60, mp nmv Fl.val mb d.fs] fun v G => v = .int .i64 ((d.file s.nm).b.length : Int) ∧ G = [blk db (d.cells mb) 60, mp nmv Fl.val mb d.fs] := by
  refine .enter Tryz.func44 rfl (by kernel_rfl) rfl fun R k => ?_
  refine .seq ?_
  refine .region ?_
  refine .rd (.assign rfl) ?_
  refine .nil ?_
  refine .seq ?_
  refine .draws [3, 7] [R] (by kernel_rfl) ?_
  refine .rp 0 rfl (by kernel_rfl) (by kernel_rfl) (by kernel_rfl) (Reads.pure (.move rfl)) ?_
  refine .rp 1 rfl (by kernel_rfl) (by kernel_rfl) (by kernel_rfl) (Reads.pure (.nilCheck rfl)) ?_
  refine .rp 2 rfl (by kernel_rfl) (by kernel_rfl) (by kernel_rfl) (Reads.pure (.fieldAddr fd69_0 rfl)) ?_
  refine .rd 3 rfl rfl (by kernel_rfl) (by kernel_rfl) (by kernel_rfl) (.load na24 rfl (Knows.one (i := 0) (Knows.pick .head (k.mono fun _ h => h.1)) rfl)) (.cons (.tail (.tail .head)) .nil) ?_
  refine .rp 4 rfl (by kernel_rfl) (by kernel_rfl) (by kernel_rfl) (Reads.pure (.move rfl)) ?_
  refine .rp 5 rfl (by kernel_rfl) (by kernel_rfl) (by kernel_rfl) (Reads.pure (.nilCheck rfl)) ?_
  refine .rp 6 rfl (by kernel_rfl) (by kernel_rfl) (by kernel_rfl) (Reads.pure (.fieldAddr fd69_1 rfl)) ?_
  refine .rd 7 rfl rfl (by kernel_rfl) (by kernel_rfl) (by kernel_rfl) (.load na9 rfl (Knows.one (i := 1) (Knows.pick .head (k.mono fun _ h => h.1)) rfl)) (.cons (.tail (.tail .head)) .nil) ?_
  refine .ef 8 (by kernel_rfl) rfl (.fn rfl rfl (.cons .head (.cons .head .nil)) (fun _ _ _ => trivial) (Size_ok db mb d s.nm)) ?_
  rintro v _ ⟨G1, hq, rfl⟩
  obtain ⟨rfl, rfl⟩ := hq
  simp only [List.cons_append, List.nil_append]
  refine ⟨.inl (by kernel_rfl), ?_⟩
  refine .rp 9 rfl (by kernel_rfl) (by kernel_rfl) (by kernel_rfl) (Reads.pure (.assign rfl)) ?_
  refine .done (by kernel_rfl) ?_
  refine .retP Tryz.func44 (.cons (.tmp rfl) .nil) (.cons .head (.cons .head (.cons .head .nil))) ?_
  exact ⟨[_, _], ⟨rfl, rfl⟩, rfl⟩

set_option maxRecDepth 20000 in
theorem SegSync_ok (db mb : Nat) (d : Dk) (s : Sx) (hd : d.ok) (hx : (d.get s.nm).isSome = true) : Cn Tryz.prog 26 [.pointer (some ⟨s.b, 0, none⟩)] (SegAt db s) [blk db (d.cells mb) 60, mp nmv Fl.val mb d.fs] fun v G => v = .int .i64 0 ∧ G = [blk db ((d.put s.nm ⟨(d.file s.nm).b, (d.file s.nm).b.length⟩).cells mb) 60, mp nmv Fl.val mb (d.put s.nm ⟨(d.file s.nm).b, (d.file s.nm).b.length⟩).fs] := by
  refine .enter Tryz.func26 rfl (by kernel_rfl) rfl fun R k => ?_
  refine .seq ?_
  refine .region ?_
  refine .rd (.assign rfl) ?_
  refine .nil ?_
  refine .seq ?_
  refine .draws [3, 7] [R] (by kernel_rfl) ?_
  refine .rp 0 rfl (by kernel_rfl) (by kernel_rfl) (by kernel_rfl) (Reads.pure (.move rfl)) ?_
  refine .rp 1 rfl (by kernel_rfl) (by kernel_rfl) (by kernel_rfl) (Reads.pure (.nilCheck rfl)) ?_
  refine .rp 2 rfl (by kernel_rfl) (by kernel_rfl) (by kernel_rfl) (Reads.pure (.fieldAddr fd69_0 rfl)) ?_
  refine .rd 3 rfl rfl (by kernel_rfl) (by kernel_rfl) (by kernel_rfl) (.load na24 rfl (Knows.one (i := 0) (Knows.pick .head (k.mono fun _ h => h.1)) rfl)) (.cons (.tail (.tail .head)) .nil) ?_
  refine .rp 4 rfl (by kernel_rfl) (by kernel_rfl) (by kernel_rfl) (Reads.pure (.move rfl)) ?_
  refine .rp 5 rfl (by kernel_rfl) (by kernel_rfl) (by kernel_rfl) (Reads.pure (.nilCheck rfl)) ?_
  refine .rp 6 rfl (by kernel_rfl) (by kernel_rfl) (by kernel_rfl) (Reads.pure (.fieldAddr fd69_1 rfl)) ?_
  refine .rd 7 rfl rfl (by kernel_rfl) (by kernel_rfl) (by kernel_rfl) (.load na9 rfl (Knows.one (i := 1) (Knows.pick .head (k.mono fun _ h => h.1)) rfl)) (.cons (.tail (.tail .head)) .nil) ?_
  refine .ef 8 (by kernel_rfl) rfl (.fn rfl rfl (.cons .head (.cons .head .nil)) (fun _ _ _ => trivial) (Sync_ok db mb d s.nm hd hx)) ?_
  rintro v _ ⟨G1, hq, rfl⟩
  obtain ⟨rfl, rfl⟩ := hq
  simp only [List.cons_append, List.nil_append]
  refine ⟨.inl (by kernel_rfl), ?_⟩
  refine .rp 9 rfl (by kernel_rfl) (by kernel_rfl) (by kernel_rfl) (Reads.pure (.assign rfl)) ?_
  refine .done (by kernel_rfl) ?_
  refine .retP Tryz.func26 (.cons (.tmp rfl) .nil) (.cons .head (.cons .head (.cons .head .nil))) ?_
  exact ⟨[_, _], ⟨rfl, rfl⟩, rfl⟩

set_option maxRecDepth 20000 in
theorem Cut1_ok (db bx by' i : Nat) (s : Sx) (z : Int) (b : Bat) (hs : s.ok) (hb : s.bs[i]? = some b) : Cn Tryz.prog 75 [.int .i64 (i : Nat), .pointer (some ⟨bx, 0, none⟩), .pointer (some ⟨by', 0, none⟩)] (fun w => CellsAt bx 0 [.pointer (some ⟨s.b, 0, none⟩)] w ∧ CellsAt by' 0 [.int .i64 z] w ∧ SegAt db s w) [] fun v G => v = .bool (decide (z < b.en)) ∧ G = [] := by
  refine .enter Tryz.func75 rfl (by kernel_rfl) rfl fun R k => ?_
  have hl := hs.len
  have hi := (List.getElem?_eq_some_iff.1 hb).1
  refine .tell (φ := ∃ b o, s.aa = some ⟨b, o, none⟩) (Knows.pick .head (k.mono fun _ h => RowAt.addr h.2.2.2.1 (by rw [Sx.rows_len]; omega))) (fun hh => ?_)
  obtain ⟨b9, o9, h9⟩ := hh
  refine .seq ?_
  refine .region ?_
  refine .rd (.assign rfl) ?_
  refine .nil ?_
  refine .seq ?_
  refine .draws [0, 3, 7, 8] [R] (by kernel_rfl) ?_
  refine .rd 0 rfl rfl (by kernel_rfl) (by kernel_rfl) (by kernel_rfl) (.load na39 rfl (Knows.one (i := 0) (Knows.pick .head (k.mono fun _ h => h.1)) rfl)) (.cons .head .nil) ?_
  refine .rp 1 rfl (by kernel_rfl) (by kernel_rfl) (by kernel_rfl) (Reads.pure (.nilCheck rfl)) ?_
  refine .rp 2 rfl (by kernel_rfl) (by kernel_rfl) (by kernel_rfl) (Reads.pure (.fieldAddr fd69_3 rfl)) ?_
  refine .rd 3 rfl rfl (by kernel_rfl) (by kernel_rfl) (by kernel_rfl) (.load na67 rfl (Knows.one (i := 3) (Knows.pick .head (k.mono fun _ h => h.2.2.1)) rfl)) (.cons .head .nil) ?_
  refine .rp 4 rfl (by kernel_rfl) (by kernel_rfl) (by kernel_rfl) (Reads.pure (.move rfl)) ?_
  refine .rp 5 rfl (by kernel_rfl) (by kernel_rfl) (by kernel_rfl) (Reads.pure (.indexAddr (b := b9) (o := o9) Tryz.underlying67 ts71 (by show some (Value.slice (s.aa) _ _) = _; rw [h9]) rfl (by omega) (by omega))) ?_
  refine .rp 6 rfl (by kernel_rfl) (by kernel_rfl) (by kernel_rfl) (Reads.pure (.fieldAddr fd71_1 rfl)) ?_
  refine .rd 7 rfl rfl (by kernel_rfl) (by kernel_rfl) (by kernel_rfl) (.load na3 rfl (Knows.one (i := 1) (Knows.elem (f := One.cells) One.cells_len (by decide) (Knows.pick .head (k.mono fun _ h => h9 ▸ h.2.2.2.1)) (one_at hb)) rfl)) (.cons .head .nil) ?_
  refine .rd 8 rfl rfl (by kernel_rfl) (by kernel_rfl) (by kernel_rfl) (.load na3 rfl (Knows.one (i := 0) (Knows.pick .head (k.mono fun _ h => h.2.1)) rfl)) (.cons .head .nil) ?_
  refine .rp 9 rfl (by kernel_rfl) (by kernel_rfl) (by kernel_rfl) (Reads.pure (.gt rfl rfl)) ?_
  refine .rp 10 rfl (by kernel_rfl) (by kernel_rfl) (by kernel_rfl) (Reads.pure (.assign rfl)) ?_
  refine .done (by kernel_rfl) ?_
  refine .retP Tryz.func75 (.cons (.tmp rfl) .nil) (.cons .head .nil) ?_
  exact ⟨[], ⟨rfl, rfl⟩, rfl⟩

set_option maxRecDepth 20000 in
theorem Safe1_ok (db bx by' i : Nat) (s : Sx) (z : Int) (b : Bat) (hs : s.ok) (hb : s.bs[i]? = some b) : Cn Tryz.prog 51 [.int .i64 (i : Nat), .pointer (some ⟨bx, 0, none⟩), .pointer (some ⟨by', 0, none⟩)] (fun w => CellsAt bx 0 [.pointer (some ⟨s.b, 0, none⟩)] w ∧ CellsAt by' 0 [.int .i64 z] w ∧ SegAt db s w) [] fun v G => v = .bool (decide (z < (((flat (s.bs.take i)).length + (enc b).length : Nat) : Int))) ∧ G = [] := by
  refine .enter Tryz.func51 rfl (by kernel_rfl) rfl fun R k => ?_
  have hl := hs.len
  have hi := (List.getElem?_eq_some_iff.1 hb).1
  refine .tell (φ := ∃ b o, s.aa = some ⟨b, o, none⟩) (Knows.pick .head (k.mono fun _ h => RowAt.addr h.2.2.2.1 (by rw [Sx.rows_len]; omega))) (fun hh => ?_)
  obtain ⟨b9, o9, h9⟩ := hh
  refine .seq ?_
  refine .region ?_
  refine .rd (.assign rfl) ?_
  refine .nil ?_
  refine .seq ?_
  refine .draws [0, 3, 7, 8] [R] (by kernel_rfl) ?_
  refine .rd 0 rfl rfl (by kernel_rfl) (by kernel_rfl) (by kernel_rfl) (.load na39 rfl (Knows.one (i := 0) (Knows.pick .head (k.mono fun _ h => h.1)) rfl)) (.cons .head .nil) ?_
  refine .rp 1 rfl (by kernel_rfl) (by kernel_rfl) (by kernel_rfl) (Reads.pure (.nilCheck rfl)) ?_
  refine .rp 2 rfl (by kernel_rfl) (by kernel_rfl) (by kernel_rfl) (Reads.pure (.fieldAddr fd69_3 rfl)) ?_
  refine .rd 3 rfl rfl (by kernel_rfl) (by kernel_rfl) (by kernel_rfl) (.load na67 rfl (Knows.one (i := 3) (Knows.pick .head (k.mono fun _ h => h.2.2.1)) rfl)) (.cons .head .nil) ?_
  refine .rp 4 rfl (by kernel_rfl) (by kernel_rfl) (by kernel_rfl) (Reads.pure (.move rfl)) ?_
  refine .rp 5 rfl (by kernel_rfl) (by kernel_rfl) (by kernel_rfl) (Reads.pure (.indexAddr (b := b9) (o := o9) Tryz.underlying67 ts71 (by show some (Value.slice (s.aa) _ _) = _; rw [h9]) rfl (by omega) (by omega))) ?_
  refine .rp 6 rfl (by kernel_rfl) (by kernel_rfl) (by kernel_rfl) (Reads.pure (.fieldAddr fd71_3 rfl)) ?_
  refine .rd 7 rfl rfl (by kernel_rfl) (by kernel_rfl) (by kernel_rfl) (.load na3 rfl (Knows.one (i := 3) (Knows.elem (f := One.cells) One.cells_len (by decide) (Knows.pick .head (k.mono fun _ h => h9 ▸ h.2.2.2.1)) (one_at hb)) rfl)) (.cons .head .nil) ?_
  refine .rd 8 rfl rfl (by kernel_rfl) (by kernel_rfl) (by kernel_rfl) (.load na3 rfl (Knows.one (i := 0) (Knows.pick .head (k.mono fun _ h => h.2.1)) rfl)) (.cons .head .nil) ?_
  refine .rp 9 rfl (by kernel_rfl) (by kernel_rfl) (by kernel_rfl) (Reads.pure (.gt rfl rfl)) ?_
  refine .rp 10 rfl (by kernel_rfl) (by kernel_rfl) (by kernel_rfl) (Reads.pure (.assign rfl)) ?_
  refine .done (by kernel_rfl) ?_
  refine .retP Tryz.func51 (.cons (.tmp rfl) .nil) (.cons .head .nil) ?_
  exact ⟨[], ⟨rfl, rfl⟩, rfl⟩

set_option maxRecDepth 20000 in
theorem Read1_ok (db bx by' i j : Nat) (s : Sx) (z : Int) (b : Bat) (hs : s.ok) (hn : s.sm.length ≤ 4096) (hj : s.sm[i]? = some j) (hb : s.bs[j]? = some b) : Cn Tryz.prog 68 [.int .i64 (i : Nat), .pointer (some ⟨bx, 0, none⟩), .pointer (some ⟨by', 0, none⟩)] (fun w => CellsAt bx 0 [.pointer (some ⟨s.b, 0, none⟩)] w ∧ CellsAt by' 0 [.int .i64 z] w ∧ SegAt db s w) [] fun v G => v = .bool (decide (z < b.base)) ∧ G = [] := by
  refine .enter Tryz.func68 rfl (by kernel_rfl) rfl fun R k => ?_
  have hl := hs.len
  have hi := (List.getElem?_eq_some_iff.1 hj).1
  have hi2 := (List.getElem?_eq_some_iff.1 hb).1
  refine .tell (φ := ∃ b o, s.aa = some ⟨b, o, none⟩) (Knows.pick .head (k.mono fun _ h => RowAt.addr h.2.2.2.1 (by rw [Sx.rows_len]; omega))) (fun hh => ?_)
  obtain ⟨b9, o9, h9⟩ := hh
  refine .tell (φ := ∃ b o, s.ia = some ⟨b, o, none⟩) (Knows.pick .head (k.mono fun _ h => RowAt.addr h.2.2.2.2 (by rw [Sx.idx_len]; omega))) (fun hh => ?_)
  obtain ⟨b8, o8, h8⟩ := hh
  refine .seq ?_
  refine .region ?_
  refine .rd (.assign rfl) ?_
  refine .nil ?_
  refine .seq ?_
  refine .draws [0, 3, 4, 7, 10, 13, 14] [R] (by kernel_rfl) ?_
  refine .rd 0 rfl rfl (by kernel_rfl) (by kernel_rfl) (by kernel_rfl) (.load na39 rfl (Knows.one (i := 0) (Knows.pick .head (k.mono fun _ h => h.1)) rfl)) (.cons .head .nil) ?_
  refine .rp 1 rfl (by kernel_rfl) (by kernel_rfl) (by kernel_rfl) (Reads.pure (.nilCheck rfl)) ?_
  refine .rp 2 rfl (by kernel_rfl) (by kernel_rfl) (by kernel_rfl) (Reads.pure (.fieldAddr fd69_3 rfl)) ?_
  refine .rd 3 rfl rfl (by kernel_rfl) (by kernel_rfl) (by kernel_rfl) (.load na67 rfl (Knows.one (i := 3) (Knows.pick .head (k.mono fun _ h => h.2.2.1)) rfl)) (.cons .head .nil) ?_
  refine .rd 4 rfl rfl (by kernel_rfl) (by kernel_rfl) (by kernel_rfl) (.load na39 rfl (Knows.one (i := 0) (Knows.pick .head (k.mono fun _ h => h.1)) rfl)) (.cons .head .nil) ?_
  refine .rp 5 rfl (by kernel_rfl) (by kernel_rfl) (by kernel_rfl) (Reads.pure (.nilCheck rfl)) ?_
  refine .rp 6 rfl (by kernel_rfl) (by kernel_rfl) (by kernel_rfl) (Reads.pure (.fieldAddr fd69_4 rfl)) ?_
  refine .rd 7 rfl rfl (by kernel_rfl) (by kernel_rfl) (by kernel_rfl) (.load na22 rfl (Knows.one (i := 4) (Knows.pick .head (k.mono fun _ h => h.2.2.1)) rfl)) (.cons .head .nil) ?_
  refine .rp 8 rfl (by kernel_rfl) (by kernel_rfl) (by kernel_rfl) (Reads.pure (.move rfl)) ?_
  refine .rp 9 rfl (by kernel_rfl) (by kernel_rfl) (by kernel_rfl) (Reads.pure (.indexAddr (b := b8) (o := o8) Tryz.underlying22 ts3 (by show some (Value.slice (s.ia) _ _) = _; rw [h8]) rfl (by omega) (by omega))) ?_
  refine .rd 10 rfl rfl (by kernel_rfl) (by kernel_rfl) (by kernel_rfl) (.load na3 rfl (Knows.one (i := 0) (Knows.elem (f := icN) icN_len (by decide) (Knows.pick .head (k.mono fun _ h => h8 ▸ h.2.2.2.2)) (hj)) rfl)) (.cons .head .nil) ?_
  refine .rp 11 rfl (by kernel_rfl) (by kernel_rfl) (by kernel_rfl) (Reads.pure (.indexAddr (b := b9) (o := o9) Tryz.underlying67 ts71 (by show some (Value.slice (s.aa) _ _) = _; rw [h9]) rfl (by omega) (by omega))) ?_
  refine .rp 12 rfl (by kernel_rfl) (by kernel_rfl) (by kernel_rfl) (Reads.pure (.fieldAddr fd71_0 rfl)) ?_
  refine .rd 13 rfl rfl (by kernel_rfl) (by kernel_rfl) (by kernel_rfl) (.load na3 rfl (Knows.one (i := 0) (Knows.elem (f := One.cells) One.cells_len (by decide) (Knows.pick .head (k.mono fun _ h => h9 ▸ h.2.2.2.1)) (one_at hb)) rfl)) (.cons .head .nil) ?_
  refine .rd 14 rfl rfl (by kernel_rfl) (by kernel_rfl) (by kernel_rfl) (.load na3 rfl (Knows.one (i := 0) (Knows.pick .head (k.mono fun _ h => h.2.1)) rfl)) (.cons .head .nil) ?_
  refine .rp 15 rfl (by kernel_rfl) (by kernel_rfl) (by kernel_rfl) (Reads.pure (.gt rfl rfl)) ?_
  refine .rp 16 rfl (by kernel_rfl) (by kernel_rfl) (by kernel_rfl) (Reads.pure (.assign rfl)) ?_
  refine .done (by kernel_rfl) ?_
  refine .retP Tryz.func68 (.cons (.tmp rfl) .nil) (.cons .head .nil) ?_
  exact ⟨[], ⟨rfl, rfl⟩, rfl⟩

set_option maxRecDepth 20000 in
theorem Cut2_ok (bx i z : Nat) (hz : z ≤ 100000) : Cn Tryz.prog 78 [.int .i64 (i : Nat), .pointer (some ⟨bx, 0, none⟩)] (CellsAt bx 0 [.int .i64 (z : Int)]) [] fun v G => v = .bool (decide ((z : Int) ≤ (i : Int))) ∧ G = [] := by
  refine .enter Tryz.func78 rfl (by kernel_rfl) rfl fun R k => ?_
  refine .seq ?_
  refine .region ?_
  refine .rd (.assign rfl) ?_
  refine .nil ?_
  refine .seq ?_
  refine .region ?_
  refine .rd (.move rfl) ?_
  refine .rd (.load na3 rfl (Knows.one (i := 0) (Knows.pick .head (k.mono fun _ h => h)) rfl)) ?_
  refine .rd (.ge rfl rfl) ?_
  refine .rd (.assign rfl) ?_
  refine .nil ?_
  refine .retP Tryz.func78 (.cons (.tmp rfl) .nil) (.cons .head .nil) ?_
  exact ⟨[], ⟨rfl, rfl⟩, rfl⟩

end Go.Proofs.YtglhoenjflpibaaGreatDoor


namespace Go.Proofs.YtglhoenjflpibaaGreatDoor
open Go Go.Sp

set_option linter.unusedVariables false

namespace log0
theorem fd42_4 : FD Tryz.prog 42 4 4 := .of Tryz.underlying42 (by kernel_rfl)
theorem na3 : NotAgg Tryz.prog 3 := ⟨_, Tryz.underlying3, trivial⟩
theorem fd42_5 : FD Tryz.prog 42 5 5 := .of Tryz.underlying42 (by kernel_rfl)
theorem fd34_0 : FD Tryz.prog 34 0 0 := .of Tryz.underlying34 (by kernel_rfl)
theorem fd34_5 : FD Tryz.prog 34 5 5 := .of Tryz.underlying34 (by kernel_rfl)
theorem na32 : NotAgg Tryz.prog 32 := ⟨_, Tryz.underlying32, trivial⟩
theorem fd42_2 : FD Tryz.prog 42 2 2 := .of Tryz.underlying42 (by kernel_rfl)
theorem na9 : NotAgg Tryz.prog 9 := ⟨_, Tryz.underlying9, trivial⟩
end log0
open log0



set_option maxRecDepth 20000 in
theorem Start_ok (lb db : Nat) (p : Option Addr) (pre : Nm) (most start high : Int) (la : Option Addr) (n lc : Nat) : Cn Tryz.prog 20 [.pointer (some ⟨lb, 0, none⟩)] (CellsAt lb 0 (lcells p db pre most start high la n lc)) [] fun v G => v = .int .i64 start ∧ G = [] := by
  refine .enter Tryz.func20 rfl (by kernel_rfl) rfl fun R k => ?_
  refine .seq ?_
  refine .region ?_
  refine .rd (.assign rfl) ?_
  refine .nil ?_
  refine .seq ?_
  refine .region ?_
  refine .rd (.move rfl) ?_
  refine .rd (.nilCheck rfl) ?_
  refine .rd (.fieldAddr fd42_4 rfl) ?_
  refine .rd (.load na3 rfl (Knows.one (i := 4) (Knows.pick .head (k.mono fun _ h => h)) rfl)) ?_
  refine .rd (.assign rfl) ?_
  refine .nil ?_
  refine .retP Tryz.func20 (.cons (.tmp rfl) .nil) (.cons .head .nil) ?_
  exact ⟨[], ⟨rfl, rfl⟩, rfl⟩

set_option maxRecDepth 20000 in
theorem Saved_ok (lb db : Nat) (p : Option Addr) (pre : Nm) (most start high : Int) (la : Option Addr) (n lc : Nat) : Cn Tryz.prog 21 [.pointer (some ⟨lb, 0, none⟩)] (CellsAt lb 0 (lcells p db pre most start high la n lc)) [] fun v G => v = .int .i64 high ∧ G = [] := by
  refine .enter Tryz.func21 rfl (by kernel_rfl) rfl fun R k => ?_
  refine .seq ?_
  refine .region ?_
  refine .rd (.assign rfl) ?_
  refine .nil ?_
  refine .seq ?_
  refine .region ?_
  refine .rd (.move rfl) ?_
  refine .rd (.nilCheck rfl) ?_
  refine .rd (.fieldAddr fd42_5 rfl) ?_
  refine .rd (.load na3 rfl (Knows.one (i := 5) (Knows.pick .head (k.mono fun _ h => h)) rfl)) ?_
  refine .rd (.assign rfl) ?_
  refine .nil ?_
  refine .retP Tryz.func21 (.cons (.tmp rfl) .nil) (.cons .head .nil) ?_
  exact ⟨[], ⟨rfl, rfl⟩, rfl⟩

set_option maxRecDepth 20000 in
theorem pend_ok (b : Bat) (a : Option Addr) (c : Nat) (h0 : 0 ≤ b.base) (h1 : b.base ≤ 1000000000000) (hl : b.recs.length ≤ 140737488351232) : Cn Tryz.prog 40 [.agg (b.cells a c).toArray] (fun _ => True) [] fun v G => v = .int .i64 b.en ∧ G = [] := by
  refine .enter Tryz.func40 rfl (by kernel_rfl) rfl fun R k => ?_
  refine .seq ?_
  refine .region ?_
  refine .ef (.box (l := b.cells a c) rfl rfl (ones.of rfl)) ?_
  rintro _ _ ⟨b1, rfl, rfl⟩
  refine .rd (.assign rfl) ?_
  refine .nil ?_
  refine .seq ?_
  refine .region ?_
  refine .rd (.fieldAddr fd34_0 rfl) ?_
  refine .rd (.ld na3 rfl .head rfl) ?_
  refine .rd (.fieldAddr fd34_5 rfl) ?_
  refine .rd (.ld na32 rfl .head rfl) ?_
  refine .rd (.lenL rfl rfl Tryz.underlying32 rfl) ?_
  refine .rd (.add rfl rfl (by omega) (by omega)) ?_
  refine .rd (.assign rfl) ?_
  refine .nil ?_
  refine .retP Tryz.func40 (.cons (.tmp rfl) .nil) (.cons (.tail .head) .nil) ?_
  exact ⟨[], ⟨rfl, rfl⟩, rfl⟩

set_option maxRecDepth 20000 in
theorem name_ok (lb db : Nat) (p : Option Addr) (pre : Nm) (most start high : Int) (la : Option Addr) (n lc : Nat) (z : Nat) (hz : z ≤ 1000000000) (hp : pre.length ≤ 40) : Cn Tryz.prog 34 [.pointer (some ⟨lb, 0, none⟩), .int .i64 (z : Int)] (fun w => CellsAt lb 0 (lcells p db pre most start high la n lc) w ∧ LV w) [] fun v G => v = nmv (nameOf pre z) ∧ G = [] := by
  refine .enter Tryz.func34 rfl (by kernel_rfl) rfl fun R k => ?_
  have hd := dec_len (u := z) (by omega)
  have hrl := Lib.repeatL_length [48] (10 - (Lib.decDigits z).length)
  simp only [List.length_cons, List.length_nil] at hrl
  refine .seq ?_
  refine .region ?_
  refine .rd (.assign rfl) ?_
  refine .nil ?_
  refine .seq ?_
  refine .region ?_
  refine .rd (.move rfl) ?_
  refine .fn rfl rfl .nil ((Knows.pick .head (k.mono fun _ h => h.2))) (itoa_ok z (by omega)) (fun v G1 hq => ?_)
  obtain ⟨rfl, rfl⟩ := hq
  simp only [List.nil_append]
  refine .rd (.assign rfl) ?_
  refine .nil ?_
  refine .seq ?_
  refine .draws [3] [R] (by kernel_rfl) ?_
  refine .rp 0 rfl (by kernel_rfl) (by kernel_rfl) (by kernel_rfl) (Reads.pure (.move rfl)) ?_
  refine .rp 1 rfl (by kernel_rfl) (by kernel_rfl) (by kernel_rfl) (Reads.pure (.nilCheck rfl)) ?_
  refine .rp 2 rfl (by kernel_rfl) (by kernel_rfl) (by kernel_rfl) (Reads.pure (.fieldAddr fd42_2 rfl)) ?_
  refine .rd 3 rfl rfl (by kernel_rfl) (by kernel_rfl) (by kernel_rfl) (.load na9 rfl (Knows.one (i := 2) (Knows.pick .head (k.mono fun _ h => h.1)) rfl)) (.cons .head .nil) ?_
  refine .rp 4 rfl (by kernel_rfl) (by kernel_rfl) (by kernel_rfl) (Reads.pure (.catT (l := pre) (m := [45]) rfl rfl (by (repeat rw [List.length_append]); simp only [List.length_cons, List.length_nil]; omega))) ?_
  refine .rp 5 rfl (by kernel_rfl) (by kernel_rfl) (by kernel_rfl) (Reads.pure (.move rfl)) ?_
  refine .rp 6 rfl (by kernel_rfl) (by kernel_rfl) (by kernel_rfl) (Reads.pure (.lenT rfl rfl Tryz.underlying9 rfl)) ?_
  refine .rp 7 rfl (by kernel_rfl) (by kernel_rfl) (by kernel_rfl) (Reads.pure (.sub rfl rfl (by omega) (by omega))) ?_
  refine .alter (t := 15) (v' := .int .i64 ((10 - (Lib.decDigits z).length : Nat))) rfl (congrArg (Value.int .i64) (by omega)) ?_
  refine .rp 10 rfl (by kernel_rfl) (by kernel_rfl) (by kernel_rfl) (Reads.pure (.move rfl)) ?_
  refine .ef 8 (by kernel_rfl) rfl (.fn rfl rfl .nil (fun _ _ _ => trivial) (rep_ok [48] (10 - (Lib.decDigits z).length) (by omega) (by decide))) ?_
  rintro v _ ⟨G1, hq, rfl⟩
  obtain ⟨rfl, rfl⟩ := hq
  simp only [List.nil_append]
  refine ⟨.inr ⟨_, (.cons .head .nil)⟩, ?_⟩
  refine .rp 9 rfl (by kernel_rfl) (by kernel_rfl) (by kernel_rfl) (Reads.pure (.catT (l := pre ++ [45]) (m := Lib.repeatL [48] (10 - (Lib.decDigits z).length)) rfl rfl (by (repeat rw [List.length_append]); simp only [List.length_cons, List.length_nil]; omega))) ?_
  refine .rp 11 rfl (by kernel_rfl) (by kernel_rfl) (by kernel_rfl) (Reads.pure (.catT (l := pre ++ [45] ++ Lib.repeatL [48] (10 - (Lib.decDigits z).length)) (m := Lib.decDigits z) rfl rfl (by (repeat rw [List.length_append]); simp only [List.length_cons, List.length_nil]; omega))) ?_
  refine .rp 12 rfl (by kernel_rfl) (by kernel_rfl) (by kernel_rfl) (Reads.pure (.catT (l := pre ++ [45] ++ Lib.repeatL [48] (10 - (Lib.decDigits z).length) ++ Lib.decDigits z) (m := [46, 108, 111, 103]) rfl rfl (by (repeat rw [List.length_append]); simp only [List.length_cons, List.length_nil]; omega))) ?_
  refine .alter (t := 20) (v' := .string (str (nameOf pre z))) rfl (by simp [nameOf, pad]) ?_
  refine .rp 13 rfl (by kernel_rfl) (by kernel_rfl) (by kernel_rfl) (Reads.pure (.assign rfl)) ?_
  refine .done (by kernel_rfl) ?_
  refine .retP Tryz.func34 (.cons (.tmp rfl) .nil) (.cons .head .nil) ?_
  exact ⟨[], ⟨rfl, rfl⟩, rfl⟩

end Go.Proofs.YtglhoenjflpibaaGreatDoor


/- Chapter 6: the layings of slices.Sorted and maps.Keys at this program (laid by the kit's command), and what they say. -/
namespace Go.Proofs
open Go.Shelf
def Tryz.keys84_ren : Go.Shelf.Ren := ⟨fun | 7 => 84 | 10 => 112 | n => n, fun | 23 => 58 | 26 => 9 | 3 => 82 | 28 => 119 | 0 => 0 | 27 => 118 | 33 => 146 | 4 => 4 | n => n, fun | n => n⟩
theorem Tryz.keys84 : Go.Proofs.SlLaysZ.n7 Tryz.prog Tryz.keys84_ren := {
  mixed := by kernel_rfl
  f7 := ⟨Tryz.f84.name, by decide, Tryz.func84.trans (congrArg some (by kernel_rfl))⟩
  f10 := ⟨Tryz.f112.name, by decide, Tryz.func112.trans (congrArg some (by kernel_rfl))⟩
  t0 := Tryz.underlying0
  a0 := Tryz.isAgg0
  z0 := Tryz.sizeOf0
  v0 := Tryz.zeroValue0
  t4 := Tryz.underlying4
  a4 := Tryz.isAgg4
  z4 := Tryz.sizeOf4
  v4 := Tryz.zeroValue4
  t23 := Tryz.underlying58
  a23 := Tryz.isAgg58
  z23 := Tryz.sizeOf58
  v23 := Tryz.zeroValue58
  t26 := Tryz.underlying9
  a26 := Tryz.isAgg9
  z26 := Tryz.sizeOf9
  v26 := Tryz.zeroValue9
  t27 := Tryz.underlying118
  a27 := Tryz.isAgg118
  z27 := Tryz.sizeOf118
  v27 := Tryz.zeroValue118
  t28 := Tryz.underlying119
  a28 := Tryz.isAgg119
  z28 := Tryz.sizeOf119
  v28 := Tryz.zeroValue119
  t33 := Tryz.underlying146
  a33 := Tryz.isAgg146
  z33 := Tryz.sizeOf146
  v33 := Tryz.zeroValue146 }
def Tryz.sorted83_ren : Go.Shelf.Ren := ⟨fun | 6 => 83 | 8 => 110 | 9 => 111 | 11 => 131 | 13 => 133 | 12 => 132 | 23 => 158 | 24 => 159 | 14 => 149 | 15 => 150 | 16 => 151 | 17 => 152 | 18 => 153 | 19 => 154 | 20 => 155 | 21 => 156 | 22 => 157 | 25 => 168 | 26 => 169 | 27 => 170 | 28 => 171 | 29 => 172 | 30 => 173 | 31 => 176 | n => n, fun | 26 => 9 | 28 => 119 | 24 => 79 | 0 => 0 | 3 => 3 | 37 => 121 | 48 => 143 | 50 => 158 | 4 => 4 | 40 => 190 | 39 => 189 | 45 => 98 | 5 => 5 | 9 => 9 | 51 => 204 | 55 => 138 | 57 => 209 | 58 => 210 | 33 => 146 | n => n, fun | n => n⟩
theorem Tryz.sorted83 : Go.Proofs.SlLaysZ.n6 Tryz.prog Tryz.sorted83_ren := {
  mixed := by kernel_rfl
  f6 := ⟨Tryz.f83.name, by decide, Tryz.func83.trans (congrArg some (by kernel_rfl))⟩
  f8 := ⟨Tryz.f110.name, by decide, Tryz.func110.trans (congrArg some (by kernel_rfl))⟩
  f11 := ⟨Tryz.f131.name, by decide, Tryz.func131.trans (congrArg some (by kernel_rfl))⟩
  t0 := Tryz.underlying0
  a0 := Tryz.isAgg0
  z0 := Tryz.sizeOf0
  v0 := Tryz.zeroValue0
  t24 := Tryz.underlying79
  a24 := Tryz.isAgg79
  z24 := Tryz.sizeOf79
  v24 := Tryz.zeroValue79
  t26 := Tryz.underlying9
  a26 := Tryz.isAgg9
  z26 := Tryz.sizeOf9
  v26 := Tryz.zeroValue9
  t28 := Tryz.underlying119
  a28 := Tryz.isAgg119
  z28 := Tryz.sizeOf119
  v28 := Tryz.zeroValue119
  i26 := by kernel_rfl }
def Tryz.sort111_ren : Go.Shelf.Ren := ⟨fun | 6 => 111 | 8 => 133 | 9 => 132 | 19 => 158 | 20 => 159 | 21 => 149 | 22 => 150 | 23 => 151 | 24 => 152 | 25 => 153 | 26 => 154 | 27 => 155 | 28 => 156 | 29 => 157 | 36 => 168 | 31 => 169 | 32 => 170 | 37 => 171 | 38 => 172 | 39 => 173 | 41 => 176 | n => n, fun | 27 => 79 | 29 => 9 | 3 => 3 | 32 => 121 | 26 => 79 | 0 => 0 | 44 => 143 | 46 => 158 | 4 => 4 | 36 => 190 | 35 => 189 | 41 => 98 | 5 => 5 | 9 => 9 | 53 => 204 | 57 => 138 | 63 => 209 | 64 => 210 | n => n, fun | n => n⟩
theorem Tryz.sort111 : Go.Proofs.SlLaysM.n6 Tryz.prog Tryz.sort111_ren := {
  mixed := by kernel_rfl
  f6 := ⟨Tryz.f111.name, by decide, Tryz.func111.trans (congrArg some (by kernel_rfl))⟩
  f8 := Tryz.func133.trans (congrArg some (by kernel_rfl))
  f9 := ⟨Tryz.f132.name, by decide, Tryz.func132.trans (congrArg some (by kernel_rfl))⟩
  f19 := Tryz.func158.trans (congrArg some (by kernel_rfl))
  f20 := Tryz.func159.trans (congrArg some (by kernel_rfl))
  f21 := ⟨Tryz.f149.name, by decide, Tryz.func149.trans (congrArg some (by kernel_rfl))⟩
  f22 := ⟨Tryz.f150.name, by decide, Tryz.func150.trans (congrArg some (by kernel_rfl))⟩
  f23 := ⟨Tryz.f151.name, by decide, Tryz.func151.trans (congrArg some (by kernel_rfl))⟩
  f24 := ⟨Tryz.f152.name, by decide, Tryz.func152.trans (congrArg some (by kernel_rfl))⟩
  f25 := ⟨Tryz.f153.name, by decide, Tryz.func153.trans (congrArg some (by kernel_rfl))⟩
  f26 := ⟨Tryz.f154.name, by decide, Tryz.func154.trans (congrArg some (by kernel_rfl))⟩
  f27 := ⟨Tryz.f155.name, by decide, Tryz.func155.trans (congrArg some (by kernel_rfl))⟩
  f28 := ⟨Tryz.f156.name, by decide, Tryz.func156.trans (congrArg some (by kernel_rfl))⟩
  f29 := ⟨Tryz.f157.name, by decide, Tryz.func157.trans (congrArg some (by kernel_rfl))⟩
  f31 := Tryz.func169.trans (congrArg some (by kernel_rfl))
  f32 := Tryz.func170.trans (congrArg some (by kernel_rfl))
  f36 := ⟨Tryz.f168.name, by decide, Tryz.func168.trans (congrArg some (by kernel_rfl))⟩
  f37 := ⟨Tryz.f171.name, by decide, Tryz.func171.trans (congrArg some (by kernel_rfl))⟩
  f38 := ⟨Tryz.f172.name, by decide, Tryz.func172.trans (congrArg some (by kernel_rfl))⟩
  f39 := ⟨Tryz.f173.name, by decide, Tryz.func173.trans (congrArg some (by kernel_rfl))⟩
  f41 := ⟨Tryz.f176.name, by decide, Tryz.func176.trans (congrArg some (by kernel_rfl))⟩
  t0 := Tryz.underlying0
  a0 := Tryz.isAgg0
  z0 := Tryz.sizeOf0
  v0 := Tryz.zeroValue0
  t3 := Tryz.underlying3
  a3 := Tryz.isAgg3
  z3 := Tryz.sizeOf3
  v3 := Tryz.zeroValue3
  t4 := Tryz.underlying4
  a4 := Tryz.isAgg4
  z4 := Tryz.sizeOf4
  v4 := Tryz.zeroValue4
  t5 := Tryz.underlying5
  a5 := Tryz.isAgg5
  z5 := Tryz.sizeOf5
  v5 := Tryz.zeroValue5
  t9 := Tryz.underlying9
  a9 := Tryz.isAgg9
  z9 := Tryz.sizeOf9
  v9 := Tryz.zeroValue9
  t26 := Tryz.underlying79
  a26 := Tryz.isAgg79
  z26 := Tryz.sizeOf79
  v26 := Tryz.zeroValue79
  t27 := Tryz.underlying79
  a27 := Tryz.isAgg79
  z27 := Tryz.sizeOf79
  v27 := Tryz.zeroValue79
  t29 := Tryz.underlying9
  a29 := Tryz.isAgg9
  z29 := Tryz.sizeOf9
  v29 := Tryz.zeroValue9
  t32 := Tryz.underlying121
  a32 := Tryz.isAgg121
  z32 := Tryz.sizeOf121
  v32 := Tryz.zeroValue121
  t35 := Tryz.underlying189
  a35 := Tryz.isAgg189
  z35 := Tryz.sizeOf189
  v35 := Tryz.zeroValue189
  t36 := Tryz.underlying190
  a36 := Tryz.isAgg190
  z36 := Tryz.sizeOf190
  v36 := Tryz.zeroValue190
  t41 := Tryz.underlying98
  a41 := Tryz.isAgg98
  z41 := Tryz.sizeOf98
  v41 := Tryz.zeroValue98
  t44 := Tryz.underlying143
  a44 := Tryz.isAgg143
  z44 := Tryz.sizeOf143
  v44 := Tryz.zeroValue143
  t46 := Tryz.underlying158
  a46 := Tryz.isAgg158
  z46 := Tryz.sizeOf158
  v46 := Tryz.zeroValue158
  t53 := Tryz.underlying204
  a53 := Tryz.isAgg204
  z53 := Tryz.sizeOf204
  v53 := Tryz.zeroValue204
  t57 := Tryz.underlying138
  a57 := Tryz.isAgg138
  z57 := Tryz.sizeOf138
  v57 := Tryz.zeroValue138
  t63 := Tryz.underlying209
  a63 := Tryz.isAgg209
  z63 := Tryz.sizeOf209
  v63 := Tryz.zeroValue209
  t64 := Tryz.underlying210
  a64 := Tryz.isAgg210
  z64 := Tryz.sizeOf210
  v64 := Tryz.zeroValue210 }
end Go.Proofs

/- A separation logic over the given machine. Part 25: contracts of the library that hand back a new row, which is known from then on. -/
namespace Go.Sp
open Go Go.RowKit
theorem Sat.adopt {A w w' Γ g o} (s : Sat A w Γ) (b : Below w.heap.size w w') (hg : w.heap.size ≤ g) (ho : w'.heap[g]? = some o) : Sat A w' (Sp.own g o :: Γ) := by
  obtain ⟨a, h, f, t⟩ := s.keptBelow b
  obtain ⟨_, h0, f0, t0⟩ := s
  have hlt : ∀ b x, h0 b = some x → b < w.heap.size := fun b x e => (Array.getElem?_eq_some_iff.1 (f0 b x e)).1
  have hn : h0 g = none := by
    cases e : h0 g with
    | none => rfl
    | some x => exact absurd (hlt _ _ e) (by omega)
  have f1 : Hp.fits h0 w' := fun c x ex => by rw [b.block c (hlt c x ex)]; exact f0 c x ex
  refine ⟨a, Hp.un (fun c => if c = g then some (false, o) else none) h0, ?_, (fun c => if c = g then some (false, o) else none), h0, ?_, Hp.le_un_left _ _, ?_, ?_, t0⟩
  · intro c x ex
    by_cases hc : c = g
    · subst hc; simp [Hp.un] at ex; subst ex; exact ho
    · simp [Hp.un, hc] at ex; exact f1 c x ex
  · intro c
    by_cases hc : c = g
    · subst hc; exact .inr (.inl hn)
    · exact .inl (by simp [hc])
  · intro c x ex
    by_cases hc : c = g
    · subst hc; rw [hn] at ex; cases ex
    · simp [Hp.un, hc, ex]
  · simp [Sp.own]
/-- A call that hands back a new row: what it holds is known. -/
theorem Cn.callsKnow {P f} {args : List Value} {φ : World → Prop} {e : TypeId} {n : Nat} {xs : List Value} (able : Able P f) (ho : ones xs) (h : ∀ w, φ w → Calls P f args.toArray w fun x w' => ∃ v, x = .returned v ∧ w'.ownsRow w.heap.size e 1 v n xs ∧ Below w.heap.size w w') :
    Cn P f args φ [] fun v G => ∃ a c, v = .slice a n c ∧ G = [know (RowAt a xs)] := fun R kR => by
  refine ⟨able, fun A F w s => ?_⟩
  have s1 : Sat A w ([R] ++ F) := s
  refine (h w (kR A w s1.left)).mono fun x w' ⟨v, he, hr, hb⟩ => ?_
  obtain ⟨hl, ⟨rfl, rfl⟩ | ⟨g, cap, cur, rfl, hg, hc, hn, hcap, hsz, hx⟩⟩ := hr
  · have : xs = [] := List.eq_nil_of_length_eq_zero (by omega)
    subst this
    exact ⟨_, [know (RowAt none []), R], he, ⟨[_], ⟨none, 0, rfl, rfl⟩, rfl⟩, Sat.knowT (φ := RowAt none []) (fun w => .inl rfl) (s1.keptBelow hb)⟩
  · have s2 := Sat.share (s1.adopt hb hg hc)
    refine ⟨_, [know (RowAt (some ⟨g, 0, none⟩) xs), R], he, ⟨[_], ⟨_, _, rfl, rfl⟩, rfl⟩, ?_⟩
    refine Sat.map (Γ := Sp.ro g (.cells cur e (0, 0)) :: ([R] ++ F)) (fun k hk => ?_) s2
    obtain ⟨h1, h2, ok, l1, l2, e1, t⟩ := hk
    refine ⟨h1, h2, ok, l1, l2, sat.ro_know (b := g) (o := .cells cur e (0, 0)) (fun w0 hw0 => .inr ⟨g, 0, rfl, fun i v hv => ?_, ho⟩) e1, t⟩
    rw [← hx, List.getElem?_take] at hv
    split at hv
    · obtain ⟨l⟩ := cur
      rw [cell_of (l := l) hw0, Nat.zero_add]; exact hv
    · cases hv
end Go.Sp

/- Chapter 6: slices.Sorted(maps.Keys(m)) at this program, for the walks. -/
namespace Go.Proofs.YtglhoenjflpibaaGreatDoor
open Go Go.Sp Go.RowKit Go.Maps Go.Sort Go.Shelf

/-- What a world has of a disk's files. -/
def MapAt (mb : Nat) (fs : Fs) (w : World) : Prop := ∃ es clock, w.heap[mb]? = some (.map es clock) ∧ es.toList.map (fun e => (e.key, e.val)) = fs.map (fun p => (nmv p.1, p.2.val)) ∧ (fs.map (·.1)).Nodup ∧
    (es.toList.map (·.born)).Nodup ∧ ∀ e ∈ es.toList, e.born < clock
theorem Knows.map {Γ Γ' mb fs} (p : Pick (mp nmv Fl.val mb fs) Γ Γ') : Knows Γ (MapAt mb fs) := fun _ _ s => by
  obtain ⟨es, clock, h1, h2, h3, h4, h5, _⟩ := (s.map fun _ => p.sat).mp_own
  exact ⟨es, clock, h1, h2, h3, h4, h5⟩
def RB : Value → Option (DataW Unit × List MemPlace) := fun _ => some (.lit (.bool true), [])
def sorted (l : List Nm) : List Nm := l.mergeSort fun x y => decide (x ≤ y)
theorem keyOf_nm {n : Nm} (h : n.length ≤ 64) : keyOf Tryz.prog 9 (nmv n) = some (.string n) := by
  unfold keyOf
  rw [Tryz.underlying9]
  show mapKey Tryz.prog 9 (.string (str n)) = _
  unfold mapKey
  rw [Tryz.underlying9]
  show (if (str n).size ≤ maxLen then _ else none) = _
  rw [if_pos (by rw [str_size]; unfold maxLen; omega)]
  rfl
theorem own_map {mb : Nat} {fs : Fs} {w : World} (hm : MapAt mb fs w) (hk : ∀ p ∈ fs, p.1.length ≤ 64) (hn : fs.length ≤ 1000000) : ∃ D : DataW Unit, w.ownsMap Tryz.prog 9 RB mb fs.length D ∧ Maps.size D = fs.length ∧ (strKeys D).Perm (fs.map (·.1)) := by
  obtain ⟨es, clock, h1, h2, h3, h4, h5⟩ := hm
  have hl : es.toList.length = fs.length := by simpa using congrArg List.length h2
  have hkey : ∀ (i : Nat) (e : MapEntry), es.toList[i]? = some e → ∃ p : Nm × Fl, fs[i]? = some p ∧ e.key = nmv p.1 := fun i e he => by
    have := congrArg (fun l => l[i]?) h2
    simp only [List.getElem?_map, he, Option.map_some] at this
    cases hp : fs[i]? with
    | none => rw [hp] at this; cases this
    | some p => rw [hp] at this; exact ⟨p, rfl, (Prod.mk.inj (Option.some.inj this)).1⟩
  have hrd : ∀ (i : Nat) (e : MapEntry), es.toList[i]? = some e → ∃ p : Nm × Fl, fs[i]? = some p ∧ WideElems.rd Tryz.prog 9 RB e = some (.string p.1, .lit (.bool true)) := fun i e he => by
    obtain ⟨p, hp, hke⟩ := hkey i e he
    refine ⟨p, hp, ?_⟩
    unfold WideElems.rd
    rw [hke, keyOf_nm (hk p (List.mem_of_getElem? hp))]; rfl
  have hrg : es.toList.map (WideElems.rg Tryz.prog 9 RB) = fs.map fun p => (Lit.string p.1, DataW.lit (.bool true)) := by
    apply List.ext_getElem?
    intro i
    rw [List.getElem?_map, List.getElem?_map]
    cases he : es.toList[i]? with
    | none =>
      have : fs[i]? = none := List.getElem?_eq_none_iff.2 (by have := List.getElem?_eq_none_iff.1 he; omega)
      rw [this]; rfl
    | some e =>
      obtain ⟨p, hp, hr⟩ := hrd i e he
      rw [hp]; simp [WideElems.rg_of hr]
  have hkeys : es.toList.map (·.key) = fs.map fun p => nmv p.1 := by
    have := congrArg (List.map Prod.fst) h2
    simpa [List.map_map, Function.comp_def] using this
  have hst := (MapKept.stamped_iff es clock).2 ⟨h5, h4, by
    have hnd : (es.toList.map (·.key)).Nodup := by
      rw [hkeys]
      have e : (fs.map fun p => nmv p.1) = (fs.map (·.1)).map nmv := by rw [List.map_map]; rfl
      rw [e]
      exact List.Pairwise.map nmv (fun a b hab e => hab (str_one a b (by injection e))) h3
    exact List.pairwise_map.1 hnd⟩
  refine ⟨_, ⟨es, clock, h1, ⟨by unfold maxLen; have : es.size = es.toList.length := rfl; omega, hst, fun x hx => ?_⟩, by have : es.size = es.toList.length := rfl; omega, rfl⟩, ?_, ?_⟩
  · obtain ⟨i, hi⟩ := List.getElem?_of_mem hx
    obtain ⟨p, _, hr⟩ := hrd i x hi
    exact ⟨_, hr⟩
  · show ((es.toList.map (WideElems.rg Tryz.prog 9 RB)).foldr DataW.insert []).length = _
    rw [(WideShapes.sorted_perm _).length_eq, List.length_map, hl]
  · show (((es.toList.map (WideElems.rg Tryz.prog 9 RB)).foldr DataW.insert []).map fun p => strOf p.1).Perm _
    refine ((WideShapes.sorted_perm _).map _).trans ?_
    rw [hrg, List.map_map]
    exact List.Perm.of_eq rfl
theorem able83 : Able Tryz.prog 83 := ⟨_, Tryz.func83, by kernel_rfl, rfl⟩
/-- slices.Sort's two contracts at this program. -/
theorem sorts83 (m : Nat) : AnyZ.SortsIn Tryz.prog Tryz.sorted83_ren Fence.wide m :=
  ⟨fun blk off cap ss W hH hblk hsz => callsIn_wide.2 (AnyM.slices_Sort_string Tryz.sort111 blk off cap ss W hH hblk hsz),
   fun p cap W => callsIn_wide.2 (AnyM.slices_Sort_string_none Tryz.sort111 p cap W)⟩
theorem sorted_ok (kb mb : Nat) (fs : Fs) (hk : ∀ p ∈ fs, p.1.length ≤ 64) (hn : fs.length ≤ 1000000) : Cn Tryz.prog 83 [.func (.func 112) #[] #[.pointer (some ⟨kb, 0, none⟩)]] (fun w => CellsAt kb 0 [.map (some mb)] w ∧ MapAt mb fs w) [] fun v G => ∃ a c, v = .slice a fs.length c ∧ G = [know (RowAt a ((sorted (fs.map (·.1))).map nmv))] := by
  have hs : ∀ l : List Nm, (sorted l).length = l.length := fun l => List.length_mergeSort l
  refine Cn.callsKnow (e := 9) able83 (ones.map _ fun _ => rfl) fun w ⟨hc, hm⟩ => ?_
  obtain ⟨D, hown, hsz, hp⟩ := own_map hm hk hn
  have hcell : w.cell? ⟨kb, 0, none⟩ = some (.map (some mb)) := hc.1 0 _ rfl
  have hkb : kb < w.heap.size := by
    unfold World.cell? at hcell
    cases h : w.heap[kb]? with
    | none => simp [h] at hcell
    | some o => exact (Array.getElem?_eq_some_iff.1 h).1
  have hseq : SeqGives Fence.wide 2 Tryz.prog 112 #[.pointer (some ⟨kb, 0, none⟩)] encStr (fun ss => ss.Perm (strKeys D)) (Maps.size D) w :=
    AnyZ.keys_gives (ρ := Tryz.keys84_ren) { Tryz.keys84 with } Fence.wide _ trivial rfl (by omega) kb mb _ D w hkb hcell hown
  have key := AnyZ.sorted_in Tryz.sorted83 Fence.wide 5 trivial trivial trivial trivial rfl (by omega) (sorts83 _) (enters_of Tryz.func111 (by kernel_rfl) rfl) 112 #[.pointer (some ⟨kb, 0, none⟩)] trivial (enters_of Tryz.func112 (by kernel_rfl) rfl) _ _ (by rw [hsz]; unfold maxLen; omega) (by rw [hsz]; omega) _ hseq
  refine (callsIn_wide.1 key).mono fun x w' ⟨v, ss, he, hS, hrow, _, hb⟩ => ⟨v, he, ?_, hb⟩
  have h1 : ss.mergeSort (fun x y => decide (x ≤ y)) = sorted (fs.map (·.1)) := mergeSort_of_perm (hS.trans hp)
  have h2 : ss.length = fs.length := by rw [(hS.trans hp).length_eq, List.length_map]
  rw [h1, h2] at hrow
  exact hrow
end Go.Proofs.YtglhoenjflpibaaGreatDoor

namespace Go.Proofs.YtglhoenjflpibaaGreatDoor
open Go Go.Sp

set_option linter.unusedVariables false

namespace dk2
theorem fd60_2 : FD Tryz.prog 60 2 2 := .of Tryz.underlying60 (by kernel_rfl)
theorem na58 : NotAgg Tryz.prog 58 := ⟨_, Tryz.underlying58, trivial⟩
end dk2
open dk2



set_option maxRecDepth 20000 in
theorem keys_ok (mb : Nat) : Cn Tryz.prog 84 [.map (some mb)] (fun _ => True) [] fun v G => ∃ kb, v = .func (.func 112) #[] #[.pointer (some ⟨kb, 0, none⟩)] ∧ G = [blk kb [.map (some mb)] 58] := by
  refine .enter Tryz.func84 rfl (by kernel_rfl) rfl fun R k => ?_
  refine .seq ?_
  refine .region ?_
  refine .ef (.box (l := [.map (some mb)]) rfl rfl (ones.of rfl)) ?_
  rintro _ _ ⟨kb, rfl, rfl⟩
  refine .rd (.assign rfl) ?_
  refine .nil ?_
  refine .seq ?_
  refine .region ?_
  refine .rd (.makeFunc (cs := [.pointer (some ⟨kb, 0, none⟩)]) rfl rfl) ?_
  refine .rd (.assign rfl) ?_
  refine .nil ?_
  refine .retP Tryz.func84 (.cons (.tmp rfl) .nil) (.cons .head (.cons .head .nil)) ?_
  exact ⟨[_], ⟨_, rfl, rfl⟩, rfl⟩

set_option maxRecDepth 20000 in
theorem Names_ok (db mb : Nat) (d : Dk) (hk : ∀ p ∈ d.fs, p.1.length ≤ 64) (hn : d.fs.length ≤ 1000000) : Cn Tryz.prog 46 [.pointer (some ⟨db, 0, none⟩)] (fun _ => True) [blk db (d.cells mb) 60, mp nmv Fl.val mb d.fs] fun v G => ∃ a c, v = .slice a d.fs.length c ∧ G = [blk db (d.cells mb) 60, mp nmv Fl.val mb d.fs, know (RowAt a ((sorted (d.fs.map (·.1))).map nmv))] := by
  refine .enter Tryz.func46 rfl (by kernel_rfl) rfl fun R k => ?_
  refine .seq ?_
  refine .region ?_
  refine .rd (.assign rfl) ?_
  refine .nil ?_
  refine .seq ?_
  refine .region ?_
  refine .rd (.move rfl) ?_
  refine .rd (.nilCheck rfl) ?_
  refine .rd (.fieldAddr fd60_2 rfl) ?_
  refine .rd (.ld na58 rfl .head rfl) ?_
  refine .fn rfl rfl .nil (fun _ _ _ => trivial) (keys_ok mb) (fun v G1 hq => ?_)
  obtain ⟨kb, rfl, rfl⟩ := hq
  simp only [List.cons_append, List.nil_append]
  refine .fn rfl rfl .nil ((Knows.blk .head).and (Knows.map (.tail (.tail .head)))) (sorted_ok kb mb d.fs hk hn) (fun v G1 hq => ?_)
  obtain ⟨sa, sc, rfl, rfl⟩ := hq
  simp only [List.cons_append, List.nil_append]
  refine .rd (.assign rfl) ?_
  refine .nil ?_
  refine .retP Tryz.func46 (.cons (.tmp rfl) .nil) (.cons (.tail (.tail .head)) (.cons (.tail (.tail .head)) (.cons .head (.cons (.tail .head) .nil)))) ?_
  exact ⟨[_, _, _], ⟨_, _, rfl, rfl⟩, rfl⟩

end Go.Proofs.YtglhoenjflpibaaGreatDoor


namespace Go.Proofs.YtglhoenjflpibaaGreatDoor
open Go Go.Sp

set_option linter.unusedVariables false

namespace seg2
theorem fd69_4 : FD Tryz.prog 69 4 4 := .of Tryz.underlying69 (by kernel_rfl)
theorem na22 : NotAgg Tryz.prog 22 := ⟨_, Tryz.underlying22, trivial⟩
theorem fd71_2 : FD Tryz.prog 71 2 2 := .of Tryz.underlying71 (by kernel_rfl)
theorem na3 : NotAgg Tryz.prog 3 := ⟨_, Tryz.underlying3, trivial⟩
theorem fd69_3 : FD Tryz.prog 69 3 3 := .of Tryz.underlying69 (by kernel_rfl)
theorem na67 : NotAgg Tryz.prog 67 := ⟨_, Tryz.underlying67, trivial⟩
theorem ts3 : TS Tryz.prog 3 1 := .of (by kernel_rfl)
theorem ts71 : TS Tryz.prog 71 4 := .of (by kernel_rfl)
theorem ti3 : TI Tryz.prog 3 1 8 (.int .i64 0) := .of (by kernel_rfl)
theorem ts22 : TS Tryz.prog 22 1 := .of (by kernel_rfl)
theorem ia71 : IsAgg Tryz.prog 71 := ⟨_, Tryz.underlying71, trivial⟩
theorem ti71 : TI Tryz.prog 71 4 32 (.agg #[.int .i64 0, .int .i64 0, .int .i64 0, .int .i64 0]) := .of (by kernel_rfl)
theorem ts67 : TS Tryz.prog 67 1 := .of (by kernel_rfl)
end seg2
open seg2



set_option maxRecDepth 20000 in
theorem add_ok (db : Nat) (s : Sx) (b : Bat) (hs : s.ok) (hb : b.good) (hn : b.base = s.next) (hl : s.bs.length < 4096) : Cn Tryz.prog 82 [.pointer (some ⟨s.b, 0, none⟩), .agg (oneB s b).cells.toArray] (fun _ => True) [blk s.b (s.cells db) 69, arr 71 4 s.aa s.ac s.rows, arr 3 1 s.ia s.ic (s.sm.flatMap icN)] fun v G => ∃ sm aa ac ia ic, Ix sm (s.bs.length + 1) ∧ s.bs.length + 1 ≤ ac ∧ G = [blk s.b ((Sx.mk s.b s.nm s.base (s.bs ++ [b]) sm aa ac ia ic).cells db) 69, arr 71 4 aa ac (Sx.mk s.b s.nm s.base (s.bs ++ [b]) sm aa ac ia ic).rows, arr 3 1 ia ic (sm.flatMap icN)] := by
  refine .enter Tryz.func82 rfl (by kernel_rfl) rfl fun R k => ?_
  have hsl := Sx.sm_le hs
  have hfl := hs.flat_len
  have hof : (oneB s b).fr = (flat s.bs).length := rfl
  refine .seq ?_
  refine .region ?_
  refine .ef (.box (l := (oneB s b).cells) rfl rfl (ones.of rfl)) ?_
  rintro _ _ ⟨b3, rfl, rfl⟩
  refine .nil ?_
  refine .seq ?_
  refine .seq ?_
  refine .region ?_
  refine .rd (.move rfl) ?_
  refine .rd (.nilCheck rfl) ?_
  refine .rd (.fieldAddr fd69_4 rfl) ?_
  refine .rd (.ld na22 rfl (.tail .head) rfl) ?_
  refine .rd (.lenL rfl rfl Tryz.underlying22 rfl) ?_
  refine .rd (.assign rfl) ?_
  refine .nil ?_
  refine .seq ?_
  refine .drawsJoin [4, 8, 12, 16, 19] [blk s.b (s.cells db) 69, arr 71 4 s.aa s.ac s.rows, arr 3 1 s.ia s.ic (s.sm.flatMap icN), blk b3 (oneB s b).cells 71] 32 (addB s) (by kernel_rfl) ?_ ?_
  · refine .rp 0 rfl (by kernel_rfl) (by kernel_rfl) (by kernel_rfl) (Reads.pure (.move rfl)) ?_
    refine .rp 1 rfl (by kernel_rfl) (by kernel_rfl) (by kernel_rfl) (Reads.pure (.eqI rfl rfl)) ?_
    refine .rp 2 rfl (by kernel_rfl) (by kernel_rfl) (by kernel_rfl) (Reads.pure (.move rfl)) ?_
    refine .split (t := 12) rfl (fun hz => ?_) (fun hz => ?_)
    · refine .off 3 (t := 12) rfl rfl rfl rfl (by kernel_rfl) (by kernel_rfl) (by kernel_rfl) ?_
      refine .off 4 (t := 12) rfl rfl rfl rfl (by kernel_rfl) (by kernel_rfl) (by kernel_rfl) ?_
      refine .off 5 (t := 12) rfl rfl rfl rfl (by kernel_rfl) (by kernel_rfl) (by kernel_rfl) ?_
      refine .off 6 (t := 12) rfl rfl rfl rfl (by kernel_rfl) (by kernel_rfl) (by kernel_rfl) ?_
      refine .off 7 (t := 12) rfl rfl rfl rfl (by kernel_rfl) (by kernel_rfl) (by kernel_rfl) ?_
      refine .off 8 (t := 12) rfl rfl rfl rfl (by kernel_rfl) (by kernel_rfl) (by kernel_rfl) ?_
      refine .off 9 (t := 12) rfl rfl rfl rfl (by kernel_rfl) (by kernel_rfl) (by kernel_rfl) ?_
      refine .off 10 (t := 12) rfl rfl rfl rfl (by kernel_rfl) (by kernel_rfl) (by kernel_rfl) ?_
      refine .off 11 (t := 12) rfl rfl rfl rfl (by kernel_rfl) (by kernel_rfl) (by kernel_rfl) ?_
      refine .off 12 (t := 12) rfl rfl rfl rfl (by kernel_rfl) (by kernel_rfl) (by kernel_rfl) ?_
      refine .off 13 (t := 12) rfl rfl rfl rfl (by kernel_rfl) (by kernel_rfl) (by kernel_rfl) ?_
      refine .off 14 (t := 12) rfl rfl rfl rfl (by kernel_rfl) (by kernel_rfl) (by kernel_rfl) ?_
      refine .off 15 (t := 12) rfl rfl rfl rfl (by kernel_rfl) (by kernel_rfl) (by kernel_rfl) ?_
      refine .off 16 (t := 12) rfl rfl rfl rfl (by kernel_rfl) (by kernel_rfl) (by kernel_rfl) ?_
      refine .off 17 (t := 12) rfl rfl rfl rfl (by kernel_rfl) (by kernel_rfl) (by kernel_rfl) ?_
      refine .off 18 (t := 12) rfl rfl rfl rfl (by kernel_rfl) (by kernel_rfl) (by kernel_rfl) ?_
      refine .off 19 (t := 12) rfl rfl rfl rfl (by kernel_rfl) (by kernel_rfl) (by kernel_rfl) ?_
      refine .off 20 (t := 12) rfl rfl rfl rfl (by kernel_rfl) (by kernel_rfl) (by kernel_rfl) ?_
      refine .off 21 (t := 12) rfl rfl rfl rfl (by kernel_rfl) (by kernel_rfl) (by kernel_rfl) ?_
      refine .rp 22 rfl (by kernel_rfl) (by kernel_rfl) (by kernel_rfl) (Reads.pure (.pickT rfl rfl)) ?_
      refine .done (by kernel_rfl) ⟨rfl, ?_, by repeat (first | exact Le.refl _ | refine Le.skip rfl ?_)⟩
      exact congrArg (fun x => some (Value.bool x)) (by unfold addB; have := of_decide_eq_true hz; rw [decide_eq_true (show s.sm.length = 0 by omega)]; rfl)
    · have hz2 : s.sm.length ≠ 0 := by have := of_decide_eq_false hz; omega
      obtain ⟨j, x, hj, hx, hg⟩ := Sx.ixlast hs hz2
      have hjl := (List.getElem?_eq_some_iff.1 hx).1
      have hfl2 := flat_lq (bs := s.bs) j
      refine .tell (φ := ∃ b o, s.ia = some ⟨b, o, none⟩) ((Knows.arr (.tail (.tail (.tail .head)))).mono fun _ h => RowAt.addr h (by rw [Sx.idx_len]; omega)) (fun hh => ?_)
      obtain ⟨b8, o8, h8⟩ := hh
      refine .tell (φ := ∃ b o, s.aa = some ⟨b, o, none⟩) ((Knows.arr (.tail (.tail .head))).mono fun _ h => RowAt.addr h (by rw [Sx.rows_len]; omega)) (fun hh => ?_)
      obtain ⟨b9, o9, h9⟩ := hh
      refine .rpG 3 (t := 12) rfl rfl rfl (by kernel_rfl) (by kernel_rfl) (by kernel_rfl) (Reads.pure (.fieldAddr fd71_2 rfl)) ?_
      refine .rdG 4 (t := 12) rfl rfl rfl rfl (by kernel_rfl) (by kernel_rfl) (by kernel_rfl) (.ld na3 rfl (.tail (.tail (.tail .head))) rfl) (.cons (.tail .head) (.cons (.tail .head) (.cons (.tail .head) (.cons .head .nil)))) ?_
      refine .rpG 5 (t := 12) rfl rfl rfl (by kernel_rfl) (by kernel_rfl) (by kernel_rfl) (Reads.pure (.move rfl)) ?_
      refine .rpG 6 (t := 12) rfl rfl rfl (by kernel_rfl) (by kernel_rfl) (by kernel_rfl) (Reads.pure (.nilCheck rfl)) ?_
      refine .rpG 7 (t := 12) rfl rfl rfl (by kernel_rfl) (by kernel_rfl) (by kernel_rfl) (Reads.pure (.fieldAddr fd69_3 rfl)) ?_
      refine .rdG 8 (t := 12) rfl rfl rfl rfl (by kernel_rfl) (by kernel_rfl) (by kernel_rfl) (.ld na67 rfl .head rfl) (.cons (.tail .head) (.cons (.tail .head) (.cons (.tail .head) (.cons .head .nil)))) ?_
      refine .rpG 9 (t := 12) rfl rfl rfl (by kernel_rfl) (by kernel_rfl) (by kernel_rfl) (Reads.pure (.move rfl)) ?_
      refine .rpG 10 (t := 12) rfl rfl rfl (by kernel_rfl) (by kernel_rfl) (by kernel_rfl) (Reads.pure (.nilCheck rfl)) ?_
      refine .rpG 11 (t := 12) rfl rfl rfl (by kernel_rfl) (by kernel_rfl) (by kernel_rfl) (Reads.pure (.fieldAddr fd69_4 rfl)) ?_
      refine .rdG 12 (t := 12) rfl rfl rfl rfl (by kernel_rfl) (by kernel_rfl) (by kernel_rfl) (.ld na22 rfl .head rfl) (.cons (.tail .head) (.cons (.tail .head) (.cons (.tail .head) (.cons .head .nil)))) ?_
      refine .rpG 13 (t := 12) rfl rfl rfl (by kernel_rfl) (by kernel_rfl) (by kernel_rfl) (Reads.pure (.move rfl)) ?_
      refine .rpG 14 (t := 12) rfl rfl rfl (by kernel_rfl) (by kernel_rfl) (by kernel_rfl) (Reads.pure (.sub rfl rfl (by omega) (by omega))) ?_
      refine .alter (t := 24) (v' := .int .i64 ((s.sm.length - 1 : Nat))) rfl (congrArg (Value.int .i64) (by omega)) ?_
      refine .rpG 15 (t := 12) rfl rfl rfl (by kernel_rfl) (by kernel_rfl) (by kernel_rfl) (Reads.pure (.indexAddr (b := b8) (o := o8) Tryz.underlying22 ts3 (by show some (Value.slice (s.ia) _ _) = _; rw [h8]) rfl (by omega) (by omega))) ?_
      refine .rdG 16 (t := 12) rfl rfl rfl rfl (by kernel_rfl) (by kernel_rfl) (by kernel_rfl) (.load na3 rfl (Knows.one (i := 0) (Knows.elem (f := icN) icN_len (by decide) ((Knows.arr (.tail (.tail .head))).mono fun _ h => h8 ▸ h) (hj)) rfl)) (.cons (.tail .head) (.cons (.tail .head) (.cons (.tail .head) (.cons .head .nil)))) ?_
      refine .rpG 17 (t := 12) rfl rfl rfl (by kernel_rfl) (by kernel_rfl) (by kernel_rfl) (Reads.pure (.indexAddr (b := b9) (o := o9) Tryz.underlying67 ts71 (by show some (Value.slice (s.aa) _ _) = _; rw [h9]) rfl (by omega) (by omega))) ?_
      refine .rpG 18 (t := 12) rfl rfl rfl (by kernel_rfl) (by kernel_rfl) (by kernel_rfl) (Reads.pure (.fieldAddr fd71_2 rfl)) ?_
      refine .rdG 19 (t := 12) rfl rfl rfl rfl (by kernel_rfl) (by kernel_rfl) (by kernel_rfl) (.load na3 rfl (Knows.one (i := 2) (Knows.elem (f := One.cells) One.cells_len (by decide) ((Knows.arr (.tail .head)).mono fun _ h => h9 ▸ h) (one_at hx)) rfl)) (.cons (.tail .head) (.cons (.tail .head) (.cons (.tail .head) (.cons .head .nil)))) ?_
      refine .alter (t := 29) (v' := .int .i64 ((flat (s.bs.take j)).length : Int)) rfl (rfl) ?_
      refine .rpG 20 (t := 12) rfl rfl rfl (by kernel_rfl) (by kernel_rfl) (by kernel_rfl) (Reads.pure (.sub rfl rfl (by omega) (by omega))) ?_
      refine .rpG 21 (t := 12) rfl rfl rfl (by kernel_rfl) (by kernel_rfl) (by kernel_rfl) (Reads.pure (.ge rfl rfl)) ?_
      refine .rp 22 rfl (by kernel_rfl) (by kernel_rfl) (by kernel_rfl) (Reads.pure (.pickF rfl rfl)) ?_
      refine .done (by kernel_rfl) ⟨rfl, ?_, by repeat (first | exact Le.refl _ | refine Le.skip rfl ?_)⟩
      exact congrArg (fun x => some (Value.bool x)) (by unfold addB; rw [decide_eq_false hz2, hg]; rfl)
  refine .cond rfl (fun c2 => ?_) (fun c2 => ?_)
  · refine .draws [4, 8] [blk s.b (s.cells db) 69] (by kernel_rfl) ?_
    refine .rp 0 rfl (by kernel_rfl) (by kernel_rfl) (by kernel_rfl) (Reads.pure (.move rfl)) ?_
    refine .rp 1 rfl (by kernel_rfl) (by kernel_rfl) (by kernel_rfl) (Reads.pure (.move rfl)) ?_
    refine .rp 2 rfl (by kernel_rfl) (by kernel_rfl) (by kernel_rfl) (Reads.pure (.nilCheck rfl)) ?_
    refine .rp 3 rfl (by kernel_rfl) (by kernel_rfl) (by kernel_rfl) (Reads.pure (.fieldAddr fd69_4 rfl)) ?_
    refine .rd 4 rfl rfl (by kernel_rfl) (by kernel_rfl) (by kernel_rfl) (.ld na22 rfl .head rfl) (.cons (.tail .head) .nil) ?_
    refine .rp 5 rfl (by kernel_rfl) (by kernel_rfl) (by kernel_rfl) (Reads.pure (.move rfl)) ?_
    refine .rp 6 rfl (by kernel_rfl) (by kernel_rfl) (by kernel_rfl) (Reads.pure (.nilCheck rfl)) ?_
    refine .rp 7 rfl (by kernel_rfl) (by kernel_rfl) (by kernel_rfl) (Reads.pure (.fieldAddr fd69_3 rfl)) ?_
    refine .rd 8 rfl rfl (by kernel_rfl) (by kernel_rfl) (by kernel_rfl) (.ld na67 rfl .head rfl) (.cons (.tail .head) .nil) ?_
    refine .rp 9 rfl (by kernel_rfl) (by kernel_rfl) (by kernel_rfl) (Reads.pure (.lenL rfl rfl Tryz.underlying67 rfl)) ?_
    refine .ef 10 (by kernel_rfl) rfl (.buildOne (cs := [.int .i64 (s.bs.length : Int)]) Tryz.underlying22 ti3 (by decide) rfl rfl rfl (ones.of rfl)) ?_
    rintro _ _ ⟨bs, rfl, rfl⟩
    refine ⟨.inr ⟨_, (.cons (.tail (.tail .head)) .nil)⟩, ?_⟩
    refine .ef 11 (by kernel_rfl) rfl (.append rfl rfl Tryz.underlying22 ti3 rfl (ones.of rfl) (by decide) (by decide) rfl rfl (.tail (.tail (.tail (.tail .head)))) (n := s.sm.length) (m := 1) (by rw [Sx.idx_len, Nat.mul_one]) (.srcBlk .head Tryz.underlying22 rfl (by decide)) (by omega)) ?_
    rintro _ _ ⟨ra, rc, rfl, rn, rfl⟩
    refine ⟨.inl (by kernel_rfl), ?_⟩
    refine .rp 12 rfl (by kernel_rfl) (by kernel_rfl) (by kernel_rfl) (Reads.pure (.nilCheck rfl)) ?_
    refine .rp 13 rfl (by kernel_rfl) (by kernel_rfl) (by kernel_rfl) (Reads.pure (.fieldAddr fd69_4 rfl)) ?_
    refine .ef0 14 (by kernel_rfl) rfl (.store ts22 rfl rfl (.tail (.tail (.tail .head))) rfl (Nat.le_of_ble_eq_true rfl)) ?_
    rintro _ _ rfl
    refine ⟨.inl (by kernel_rfl), ?_⟩
    refine .done (by kernel_rfl) ?_
    refine .cast (X' := blk s.b [.pointer (some ⟨db, 0, none⟩), nmv s.nm, .int .i64 s.base, .slice s.aa s.bs.length s.ac, .slice ra (s.sm.length + 1) rc] 69) (rfl) ?_
    refine .draws [4, 5] [blk s.b [.pointer (some ⟨db, 0, none⟩), nmv s.nm, .int .i64 s.base, .slice s.aa s.bs.length s.ac, .slice ra (s.sm.length + 1) rc] 69, blk b3 (oneB s b).cells 71] (by kernel_rfl) ?_
    refine .rp 0 rfl (by kernel_rfl) (by kernel_rfl) (by kernel_rfl) (Reads.pure (.move rfl)) ?_
    refine .rp 1 rfl (by kernel_rfl) (by kernel_rfl) (by kernel_rfl) (Reads.pure (.move rfl)) ?_
    refine .rp 2 rfl (by kernel_rfl) (by kernel_rfl) (by kernel_rfl) (Reads.pure (.nilCheck rfl)) ?_
    refine .rp 3 rfl (by kernel_rfl) (by kernel_rfl) (by kernel_rfl) (Reads.pure (.fieldAddr fd69_3 rfl)) ?_
    refine .rd 4 rfl rfl (by kernel_rfl) (by kernel_rfl) (by kernel_rfl) (.ld na67 rfl .head rfl) (.cons .head (.cons (.tail (.tail .head)) .nil)) ?_
    refine .rd 5 rfl rfl (by kernel_rfl) (by kernel_rfl) (by kernel_rfl) (.ldN ia71 ts71 rfl (.tail .head) rfl) (.cons .head (.cons (.tail (.tail .head)) .nil)) ?_
    refine .ef 6 (by kernel_rfl) rfl (.buildOne (cs := (oneB s b).cells) Tryz.underlying67 ti71 (by decide) rfl rfl rfl (ones.of rfl)) ?_
    rintro _ _ ⟨bq, rfl, rfl⟩
    refine ⟨.inr ⟨_, (.cons (.tail .head) (.cons (.tail (.tail (.tail .head))) .nil))⟩, ?_⟩
    refine .ef 7 (by kernel_rfl) rfl (.append rfl rfl Tryz.underlying67 ti71 rfl (ones.of rfl) (by decide) (by decide) rfl rfl (.tail (.tail (.tail (.tail (.tail .head))))) (n := s.bs.length) (m := 1) (Sx.rows_len s) (.srcBlk .head Tryz.underlying67 rfl (by decide)) (by omega)) ?_
    rintro _ _ ⟨qa, qc, rfl, qn, rfl⟩
    refine ⟨.inl (by kernel_rfl), ?_⟩
    refine .rp 8 rfl (by kernel_rfl) (by kernel_rfl) (by kernel_rfl) (Reads.pure (.nilCheck rfl)) ?_
    refine .rp 9 rfl (by kernel_rfl) (by kernel_rfl) (by kernel_rfl) (Reads.pure (.fieldAddr fd69_3 rfl)) ?_
    refine .ef0 10 (by kernel_rfl) rfl (.store ts67 rfl rfl (.tail (.tail .head)) rfl (Nat.le_of_ble_eq_true rfl)) ?_
    rintro _ _ rfl
    refine ⟨.inl (by kernel_rfl), ?_⟩
    refine .done (by kernel_rfl) ?_
    refine .cast (X' := blk s.b ((Sx.mk s.b s.nm s.base (s.bs ++ [b]) (s.sm ++ [s.bs.length]) qa qc ra rc).cells db) 69) (by simp [Sx.cells]) ?_
    refine .perm (.cons (.tail .head) (.cons .head (.cons .head (.cons .head (.cons .head (.cons .head (.cons .head .nil))))))) ?_
    refine .cast (X' := arr 71 4 qa qc (Sx.mk s.b s.nm s.base (s.bs ++ [b]) (s.sm ++ [s.bs.length]) qa qc ra rc).rows) (congrArg _ (Sx.rows_snoc s b).symm) ?_
    refine .perm (.cons (.tail (.tail (.tail .head))) (.cons .head (.cons .head (.cons .head (.cons .head (.cons .head (.cons .head .nil))))))) ?_
    refine .cast (X' := arr 3 1 ra rc ((s.sm ++ [s.bs.length]).flatMap icN)) (congrArg _ (idx_snoc _ _).symm) ?_
    refine .tell (φ := s.bs.length + 1 ≤ qc) (fun A w h => by have := (h.map fun _ => ((.tail .head) : Pick (arr 71 4 qa qc (Sx.mk s.b s.nm s.base (s.bs ++ [b]) (s.sm ++ [s.bs.length]) qa qc ra rc).rows) _ _).sat).arr_len.1; rw [Sx.rows_len, List.length_append] at this; simp at this; omega) (fun hqc => ?_)
    refine .endP Tryz.func82 .nil (.cons (.tail (.tail .head)) (.cons (.tail .head) (.cons .head (.cons (.tail (.tail (.tail .head))) .nil)))) ?_
    exact ⟨[_, _, _], ⟨(s.sm ++ [s.bs.length]), qa, qc, ra, rc, hs.ix.more, hqc, rfl⟩, rfl⟩
  · refine .skip ?_
    refine .perm (.cons (.tail .head) (.cons .head (.cons .head (.cons .head (.cons .head .nil))))) ?_
    refine .cast (X' := blk s.b [.pointer (some ⟨db, 0, none⟩), nmv s.nm, .int .i64 s.base, .slice s.aa s.bs.length s.ac, .slice s.ia s.sm.length s.ic] 69) (rfl) ?_
    refine .draws [4, 5] [blk s.b [.pointer (some ⟨db, 0, none⟩), nmv s.nm, .int .i64 s.base, .slice s.aa s.bs.length s.ac, .slice s.ia s.sm.length s.ic] 69, blk b3 (oneB s b).cells 71] (by kernel_rfl) ?_
    refine .rp 0 rfl (by kernel_rfl) (by kernel_rfl) (by kernel_rfl) (Reads.pure (.move rfl)) ?_
    refine .rp 1 rfl (by kernel_rfl) (by kernel_rfl) (by kernel_rfl) (Reads.pure (.move rfl)) ?_
    refine .rp 2 rfl (by kernel_rfl) (by kernel_rfl) (by kernel_rfl) (Reads.pure (.nilCheck rfl)) ?_
    refine .rp 3 rfl (by kernel_rfl) (by kernel_rfl) (by kernel_rfl) (Reads.pure (.fieldAddr fd69_3 rfl)) ?_
    refine .rd 4 rfl rfl (by kernel_rfl) (by kernel_rfl) (by kernel_rfl) (.ld na67 rfl .head rfl) (.cons .head (.cons .head .nil)) ?_
    refine .rd 5 rfl rfl (by kernel_rfl) (by kernel_rfl) (by kernel_rfl) (.ldN ia71 ts71 rfl (.tail .head) rfl) (.cons .head (.cons .head .nil)) ?_
    refine .ef 6 (by kernel_rfl) rfl (.buildOne (cs := (oneB s b).cells) Tryz.underlying67 ti71 (by decide) rfl rfl rfl (ones.of rfl)) ?_
    rintro _ _ ⟨bq, rfl, rfl⟩
    refine ⟨.inr ⟨_, (.cons (.tail .head) (.cons (.tail .head) .nil))⟩, ?_⟩
    refine .ef 7 (by kernel_rfl) rfl (.append rfl rfl Tryz.underlying67 ti71 rfl (ones.of rfl) (by decide) (by decide) rfl rfl (.tail (.tail (.tail .head))) (n := s.bs.length) (m := 1) (Sx.rows_len s) (.srcBlk .head Tryz.underlying67 rfl (by decide)) (by omega)) ?_
    rintro _ _ ⟨qa, qc, rfl, qn, rfl⟩
    refine ⟨.inl (by kernel_rfl), ?_⟩
    refine .rp 8 rfl (by kernel_rfl) (by kernel_rfl) (by kernel_rfl) (Reads.pure (.nilCheck rfl)) ?_
    refine .rp 9 rfl (by kernel_rfl) (by kernel_rfl) (by kernel_rfl) (Reads.pure (.fieldAddr fd69_3 rfl)) ?_
    refine .ef0 10 (by kernel_rfl) rfl (.store ts67 rfl rfl (.tail (.tail .head)) rfl (Nat.le_of_ble_eq_true rfl)) ?_
    rintro _ _ rfl
    refine ⟨.inl (by kernel_rfl), ?_⟩
    refine .done (by kernel_rfl) ?_
    refine .cast (X' := blk s.b ((Sx.mk s.b s.nm s.base (s.bs ++ [b]) s.sm qa qc s.ia s.ic).cells db) 69) (by simp [Sx.cells]) ?_
    refine .perm (.cons (.tail .head) (.cons .head (.cons .head (.cons .head (.cons .head (.cons .head .nil)))))) ?_
    refine .cast (X' := arr 71 4 qa qc (Sx.mk s.b s.nm s.base (s.bs ++ [b]) s.sm qa qc s.ia s.ic).rows) (congrArg _ (Sx.rows_snoc s b).symm) ?_
    refine .tell (φ := s.bs.length + 1 ≤ qc) (fun A w h => by have := (h.map fun _ => (.head : Pick (arr 71 4 qa qc (Sx.mk s.b s.nm s.base (s.bs ++ [b]) s.sm qa qc s.ia s.ic).rows) _ _).sat).arr_len.1; rw [Sx.rows_len, List.length_append] at this; simp at this; omega) (fun hqc => ?_)
    refine .endP Tryz.func82 .nil (.cons (.tail .head) (.cons .head (.cons (.tail (.tail .head)) (.cons (.tail (.tail .head)) .nil)))) ?_
    exact ⟨[_, _, _], ⟨s.sm, qa, qc, s.ia, s.ic, addB_no hs c2, hqc, rfl⟩, rfl⟩

end Go.Proofs.YtglhoenjflpibaaGreatDoor


/- Chapter 6: texts of chapter 3 (wire) under this seat's numbers. -/
namespace Go.Proofs.YtglhoenjflpibaaGreatDoor
open Go Go.Sp

set_option linter.unusedVariables false

namespace wire2

end wire2
open wire2



set_option maxRecDepth 20000 in
theorem ReadInt_ok (l : List UInt8) (hl : l.length ≤ 9000000000000000000) : Cn Tryz.prog 129 [.string (str l)] (fun _ => True) [] fun v G => v = .tuple #[.int .i64 (rint l).1, .int .i64 ((rint l).2.1 : Nat), .int .i64 (rint l).2.2] ∧ G = [] := by
  refine .enter Tryz.func129 rfl (by kernel_rfl) rfl fun R k => ?_
  refine .seq ?_
  refine .region ?_
  refine .rd (.assign rfl) ?_
  refine .rd (.assign rfl) ?_
  refine .rd (.assign rfl) ?_
  refine .nil ?_
  refine .seq ?_
  refine .region ?_
  refine .rd (.assign rfl) ?_
  refine .nil ?_
  refine .seq ?_
  refine .seq ?_
  refine .region ?_
  refine .rd (.move rfl) ?_
  refine .nil ?_
  refine .block ?_
  refine .loop (σ := Nat × Nat) (fun ⟨i, z⟩ => rintGo (10 - i) i z (l.drop i) = rint l ∧ z < 128 ^ i ∧ i ≤ 10 ∧ i ≤ l.length) (fun ⟨i, z⟩ => 10 - i) (fun ⟨i, z⟩ => [(0, .string (str l)), (5, .int .u64 (z : Int)), (7, .int .i64 (i : Nat))]) (fun ⟨i, z⟩ => [R]) (0, 0) ⟨rfl, by decide, Nat.zero_le _, Nat.zero_le _⟩ (.cons rfl (.cons rfl (.cons rfl .nil))) (.cons .head .nil) (fun s hI ih => ?_)
  obtain ⟨i, z⟩ := s
  dsimp only at hI ih ⊢
  have hi10 := hI.2.2.1
  have hil := hI.2.2.2
  refine .seq ?_
  refine .region ?_
  refine .rd (.lt rfl rfl) ?_
  refine .nil ?_
  refine .seq ?_
  refine .condP rfl (fun h3 => ?_) (fun h3 => ?_)
  · refine .skip ?_
    refine .seq ?_
    refine .block ?_
    refine .seq ?_
    refine .region ?_
    refine .rd (.move rfl) ?_
    refine .rd (.assign rfl) ?_
    refine .nil ?_
    refine .seq ?_
    refine .block ?_
    refine .seq ?_
    refine .region ?_
    refine .rd (.move rfl) ?_
    refine .rd (.move rfl) ?_
    refine .rd (.lenT rfl rfl Tryz.underlying9 rfl) ?_
    refine .rd (.eqI rfl rfl) ?_
    refine .rd (.assign rfl) ?_
    refine .nil ?_
    refine .condP rfl (fun h5 => ?_) (fun h5 => ?_)
    · have hrv : (0, 0, 5) = rint l := by
        have := hI.1
        rw [show 10 - i = (10 - (i + 1)) + 1 by omega, List.drop_eq_nil_of_le (by omega)] at this
        exact this
      refine .seq ?_
      refine .region ?_
      refine .rd (.assign rfl) ?_
      refine .rd (.assign rfl) ?_
      refine .rd (.assign rfl) ?_
      refine .nil ?_
      refine .retP Tryz.func129 (.cons (.tmp rfl) (.cons (.tmp rfl) (.cons (.tmp rfl) .nil))) (.cons .head .nil) ?_
      exact ⟨[], ⟨by rw [← hrv]; rfl, rfl⟩, rfl⟩
    · have hlt : i < l.length := by omega
      obtain ⟨b, hb⟩ : ∃ b, l[i]? = some b := ⟨_, List.getElem?_eq_getElem hlt⟩
      have hdr : l.drop i = b :: l.drop (i + 1) := by rw [List.drop_eq_getElem_cons hlt]; congr 1; rw [List.getElem?_eq_getElem hlt] at hb; exact Option.some.inj hb
      have hb8 := b.toNat_lt
      have hgo := hI.1
      rw [show 10 - i = (10 - (i + 1)) + 1 by omega, hdr] at hgo
      unfold rintGo at hgo
      refine .seq ?_
      refine .region ?_
      refine .rd (.move rfl) ?_
      refine .rd (.eqI rfl rfl) ?_
      refine .rd (.move rfl) ?_
      refine .split (t := 18) rfl (fun h7 => ?_) (fun h7 => ?_)
      · replace h7 := of_decide_eq_true h7
        refine .on (t := 18) rfl rfl ?_
        refine .rd (.move rfl) ?_
        refine .on (t := 18) rfl rfl ?_
        refine .rd (.move rfl) ?_
        refine .on (t := 18) rfl rfl ?_
        refine .rd (.indexT Tryz.underlying9 rfl rfl (by omega) hb) ?_
        refine .on (t := 18) rfl rfl ?_
        refine .rd (.gt rfl rfl) ?_
        refine .rd (.pickT rfl rfl) ?_
        refine .rd (.assign rfl) ?_
        refine .nil ?_
        refine .condP rfl (fun h7b => ?_) (fun h7b => ?_)
        · refine .seq ?_
          have hrv : (0, 0, 4) = rint l := by rw [← hgo, if_pos (by omega)]
          refine .region ?_
          refine .rd (.assign rfl) ?_
          refine .rd (.assign rfl) ?_
          refine .rd (.assign rfl) ?_
          refine .nil ?_
          refine .retP Tryz.func129 (.cons (.tmp rfl) (.cons (.tmp rfl) (.cons (.tmp rfl) .nil))) (.cons .head .nil) ?_
          exact ⟨[], ⟨by rw [← hrv]; rfl, rfl⟩, rfl⟩
        · refine .skip ?_
          refine .inBlock ?_
          refine .seq ?_
          have h9 : ¬ (i = 9 ∧ 1 < b.toNat) := by omega
          refine .region ?_
          refine .rd (.move rfl) ?_
          refine .rd (.move rfl) ?_
          refine .rd (.move rfl) ?_
          refine .rd (.indexT Tryz.underlying9 rfl rfl (by omega) hb) ?_
          refine .rd (.and rfl rfl) ?_
          refine .rd (.convInt Tryz.underlying5 Tryz.underlying158 rfl) ?_
          refine .alter (t := 29) (v' := .int .u64 ((b.toNat % 128 : Nat) : Int)) rfl (by exact congrArg (Value.int .u64) (and127 b)) ?_
          refine .rd (.move rfl) ?_
          refine .rd (.mul rfl rfl (by omega) (by omega)) ?_
          refine .rd (.shl (n := 7 * i) rfl rfl) ?_
          refine .rd (.or rfl rfl) ?_
          refine .alter (t := 33) (v' := .int .u64 ((z + b.toNat % 128 * 128 ^ i : Nat) : Int)) rfl (by exact congrArg (Value.int .u64) (or_shift hI.2.1 (by omega) h9)) ?_
          refine .rd (.assign rfl) ?_
          refine .nil ?_
          refine .block ?_
          refine .seq ?_
          refine .region ?_
          refine .rd (.move rfl) ?_
          refine .rd (.move rfl) ?_
          refine .rd (.indexT Tryz.underlying9 rfl rfl (by omega) hb) ?_
          refine .rd (.gt rfl rfl) ?_
          refine .rd (.assign rfl) ?_
          refine .nil ?_
          refine .condP rfl (fun h11 => ?_) (fun h11 => ?_)
          · refine .skip ?_
            refine .inBlock ?_
            refine .inBlock ?_
            refine .region ?_
            refine .rd (.add rfl rfl (by omega) (by omega)) ?_
            refine .rd (.move rfl) ?_
            refine .nil ?_
            rw [if_neg h9, if_pos (by omega)] at hgo
            exact (ih (i + 1, z + b.toNat % 128 * 128 ^ i) ⟨hgo, z_next hI.2.1, by show i + 1 ≤ 10; omega, by show i + 1 ≤ l.length; omega⟩ (by show 10 - (i + 1) < 10 - i; omega)).to (.cons rfl (.cons rfl (.cons rfl .nil))) (.cons .head .nil)
          · refine .seq ?_
            refine .region ?_
            refine .rd (.move rfl) ?_
            refine .rd (.gt rfl rfl) ?_
            refine .rd (.move rfl) ?_
            refine .split (t := 52) rfl (fun h12 => ?_) (fun h12 => ?_)
            · replace h12 := of_decide_eq_true h12
              refine .on (t := 52) rfl rfl ?_
              refine .rd (.move rfl) ?_
              refine .on (t := 52) rfl rfl ?_
              refine .rd (.move rfl) ?_
              refine .on (t := 52) rfl rfl ?_
              refine .rd (.indexT Tryz.underlying9 rfl rfl (by omega) hb) ?_
              refine .on (t := 52) rfl rfl ?_
              refine .rd (.eqI rfl rfl) ?_
              refine .rd (.pickT rfl rfl) ?_
              refine .rd (.assign rfl) ?_
              refine .nil ?_
              refine .condP rfl (fun h12b => ?_) (fun h12b => ?_)
              · refine .seq ?_
                have hrv : (0, 0, 4) = rint l := by rw [← hgo, if_neg h9, if_neg (by omega), if_pos (by omega)]
                refine .region ?_
                refine .rd (.assign rfl) ?_
                refine .rd (.assign rfl) ?_
                refine .rd (.assign rfl) ?_
                refine .nil ?_
                refine .retP Tryz.func129 (.cons (.tmp rfl) (.cons (.tmp rfl) (.cons (.tmp rfl) .nil))) (.cons .head .nil) ?_
                exact ⟨[], ⟨by rw [← hrv]; rfl, rfl⟩, rfl⟩
              · refine .seq ?_
                have hrv : (zag (z + b.toNat % 128 * 128 ^ i), i + 1, 0) = rint l := by rw [← hgo, if_neg h9, if_neg (by omega), if_neg (by omega)]
                have hzf := z_fits hI.2.1 (by omega) h9
                refine .region ?_
                refine .rd (.move rfl) ?_
                refine .rd (.shr (n := 1) rfl rfl) ?_
                refine .rd (.convInt Tryz.underlying158 Tryz.underlying3 rfl) ?_
                refine .rd (.move rfl) ?_
                refine .rd (.and rfl rfl) ?_
                refine .rd (.convInt Tryz.underlying158 Tryz.underlying3 rfl) ?_
                refine .rd (.negW rfl) ?_
                refine .rd (.xor rfl rfl) ?_
                refine .alter (t := 41) (v' := .int .i64 (zag (z + b.toNat % 128 * 128 ^ i))) rfl (by exact congrArg (Value.int .i64) (zag_bits hzf)) ?_
                refine .rd (.move rfl) ?_
                refine .rd (.add rfl rfl (by omega) (by omega)) ?_
                refine .rd (.assign rfl) ?_
                refine .rd (.assign rfl) ?_
                refine .rd (.assign rfl) ?_
                refine .nil ?_
                refine .retP Tryz.func129 (.cons (.tmp rfl) (.cons (.tmp rfl) (.cons (.tmp rfl) .nil))) (.cons .head .nil) ?_
                exact ⟨[], ⟨by rw [← hrv]; rfl, rfl⟩, rfl⟩
            · replace h12 := of_decide_eq_false h12
              refine .off (t := 52) rfl rfl rfl ?_
              refine .off (t := 52) rfl rfl rfl ?_
              refine .off (t := 52) rfl rfl rfl ?_
              refine .off (t := 52) rfl rfl rfl ?_
              refine .rd (.pickF rfl rfl) ?_
              refine .rd (.assign rfl) ?_
              refine .nil ?_
              refine .condF rfl ?_
              refine .seq ?_
              have hrv : (zag (z + b.toNat % 128 * 128 ^ i), i + 1, 0) = rint l := by rw [← hgo, if_neg h9, if_neg (by omega), if_neg (by omega)]
              have hzf := z_fits hI.2.1 (by omega) h9
              refine .region ?_
              refine .rd (.move rfl) ?_
              refine .rd (.shr (n := 1) rfl rfl) ?_
              refine .rd (.convInt Tryz.underlying158 Tryz.underlying3 rfl) ?_
              refine .rd (.move rfl) ?_
              refine .rd (.and rfl rfl) ?_
              refine .rd (.convInt Tryz.underlying158 Tryz.underlying3 rfl) ?_
              refine .rd (.negW rfl) ?_
              refine .rd (.xor rfl rfl) ?_
              refine .alter (t := 41) (v' := .int .i64 (zag (z + b.toNat % 128 * 128 ^ i))) rfl (by exact congrArg (Value.int .i64) (zag_bits hzf)) ?_
              refine .rd (.move rfl) ?_
              refine .rd (.add rfl rfl (by omega) (by omega)) ?_
              refine .rd (.assign rfl) ?_
              refine .rd (.assign rfl) ?_
              refine .rd (.assign rfl) ?_
              refine .nil ?_
              refine .retP Tryz.func129 (.cons (.tmp rfl) (.cons (.tmp rfl) (.cons (.tmp rfl) .nil))) (.cons .head .nil) ?_
              exact ⟨[], ⟨by rw [← hrv]; rfl, rfl⟩, rfl⟩
      · replace h7 := of_decide_eq_false h7
        refine .off (t := 18) rfl rfl rfl ?_
        refine .off (t := 18) rfl rfl rfl ?_
        refine .off (t := 18) rfl rfl rfl ?_
        refine .off (t := 18) rfl rfl rfl ?_
        refine .rd (.pickF rfl rfl) ?_
        refine .rd (.assign rfl) ?_
        refine .nil ?_
        refine .condF rfl ?_
        refine .skip ?_
        refine .inBlock ?_
        refine .seq ?_
        have h9 : ¬ (i = 9 ∧ 1 < b.toNat) := by omega
        refine .region ?_
        refine .rd (.move rfl) ?_
        refine .rd (.move rfl) ?_
        refine .rd (.move rfl) ?_
        refine .rd (.indexT Tryz.underlying9 rfl rfl (by omega) hb) ?_
        refine .rd (.and rfl rfl) ?_
        refine .rd (.convInt Tryz.underlying5 Tryz.underlying158 rfl) ?_
        refine .alter (t := 29) (v' := .int .u64 ((b.toNat % 128 : Nat) : Int)) rfl (by exact congrArg (Value.int .u64) (and127 b)) ?_
        refine .rd (.move rfl) ?_
        refine .rd (.mul rfl rfl (by omega) (by omega)) ?_
        refine .rd (.shl (n := 7 * i) rfl rfl) ?_
        refine .rd (.or rfl rfl) ?_
        refine .alter (t := 33) (v' := .int .u64 ((z + b.toNat % 128 * 128 ^ i : Nat) : Int)) rfl (by exact congrArg (Value.int .u64) (or_shift hI.2.1 (by omega) h9)) ?_
        refine .rd (.assign rfl) ?_
        refine .nil ?_
        refine .block ?_
        refine .seq ?_
        refine .region ?_
        refine .rd (.move rfl) ?_
        refine .rd (.move rfl) ?_
        refine .rd (.indexT Tryz.underlying9 rfl rfl (by omega) hb) ?_
        refine .rd (.gt rfl rfl) ?_
        refine .rd (.assign rfl) ?_
        refine .nil ?_
        refine .condP rfl (fun h11 => ?_) (fun h11 => ?_)
        · refine .skip ?_
          refine .inBlock ?_
          refine .inBlock ?_
          refine .region ?_
          refine .rd (.add rfl rfl (by omega) (by omega)) ?_
          refine .rd (.move rfl) ?_
          refine .nil ?_
          rw [if_neg h9, if_pos (by omega)] at hgo
          exact (ih (i + 1, z + b.toNat % 128 * 128 ^ i) ⟨hgo, z_next hI.2.1, by show i + 1 ≤ 10; omega, by show i + 1 ≤ l.length; omega⟩ (by show 10 - (i + 1) < 10 - i; omega)).to (.cons rfl (.cons rfl (.cons rfl .nil))) (.cons .head .nil)
        · refine .seq ?_
          refine .region ?_
          refine .rd (.move rfl) ?_
          refine .rd (.gt rfl rfl) ?_
          refine .rd (.move rfl) ?_
          refine .split (t := 52) rfl (fun h12 => ?_) (fun h12 => ?_)
          · replace h12 := of_decide_eq_true h12
            refine .on (t := 52) rfl rfl ?_
            refine .rd (.move rfl) ?_
            refine .on (t := 52) rfl rfl ?_
            refine .rd (.move rfl) ?_
            refine .on (t := 52) rfl rfl ?_
            refine .rd (.indexT Tryz.underlying9 rfl rfl (by omega) hb) ?_
            refine .on (t := 52) rfl rfl ?_
            refine .rd (.eqI rfl rfl) ?_
            refine .rd (.pickT rfl rfl) ?_
            refine .rd (.assign rfl) ?_
            refine .nil ?_
            refine .condP rfl (fun h12b => ?_) (fun h12b => ?_)
            · refine .seq ?_
              have hrv : (0, 0, 4) = rint l := by rw [← hgo, if_neg h9, if_neg (by omega), if_pos (by omega)]
              refine .region ?_
              refine .rd (.assign rfl) ?_
              refine .rd (.assign rfl) ?_
              refine .rd (.assign rfl) ?_
              refine .nil ?_
              refine .retP Tryz.func129 (.cons (.tmp rfl) (.cons (.tmp rfl) (.cons (.tmp rfl) .nil))) (.cons .head .nil) ?_
              exact ⟨[], ⟨by rw [← hrv]; rfl, rfl⟩, rfl⟩
            · refine .seq ?_
              have hrv : (zag (z + b.toNat % 128 * 128 ^ i), i + 1, 0) = rint l := by rw [← hgo, if_neg h9, if_neg (by omega), if_neg (by omega)]
              have hzf := z_fits hI.2.1 (by omega) h9
              refine .region ?_
              refine .rd (.move rfl) ?_
              refine .rd (.shr (n := 1) rfl rfl) ?_
              refine .rd (.convInt Tryz.underlying158 Tryz.underlying3 rfl) ?_
              refine .rd (.move rfl) ?_
              refine .rd (.and rfl rfl) ?_
              refine .rd (.convInt Tryz.underlying158 Tryz.underlying3 rfl) ?_
              refine .rd (.negW rfl) ?_
              refine .rd (.xor rfl rfl) ?_
              refine .alter (t := 41) (v' := .int .i64 (zag (z + b.toNat % 128 * 128 ^ i))) rfl (by exact congrArg (Value.int .i64) (zag_bits hzf)) ?_
              refine .rd (.move rfl) ?_
              refine .rd (.add rfl rfl (by omega) (by omega)) ?_
              refine .rd (.assign rfl) ?_
              refine .rd (.assign rfl) ?_
              refine .rd (.assign rfl) ?_
              refine .nil ?_
              refine .retP Tryz.func129 (.cons (.tmp rfl) (.cons (.tmp rfl) (.cons (.tmp rfl) .nil))) (.cons .head .nil) ?_
              exact ⟨[], ⟨by rw [← hrv]; rfl, rfl⟩, rfl⟩
          · replace h12 := of_decide_eq_false h12
            refine .off (t := 52) rfl rfl rfl ?_
            refine .off (t := 52) rfl rfl rfl ?_
            refine .off (t := 52) rfl rfl rfl ?_
            refine .off (t := 52) rfl rfl rfl ?_
            refine .rd (.pickF rfl rfl) ?_
            refine .rd (.assign rfl) ?_
            refine .nil ?_
            refine .condF rfl ?_
            refine .seq ?_
            have hrv : (zag (z + b.toNat % 128 * 128 ^ i), i + 1, 0) = rint l := by rw [← hgo, if_neg h9, if_neg (by omega), if_neg (by omega)]
            have hzf := z_fits hI.2.1 (by omega) h9
            refine .region ?_
            refine .rd (.move rfl) ?_
            refine .rd (.shr (n := 1) rfl rfl) ?_
            refine .rd (.convInt Tryz.underlying158 Tryz.underlying3 rfl) ?_
            refine .rd (.move rfl) ?_
            refine .rd (.and rfl rfl) ?_
            refine .rd (.convInt Tryz.underlying158 Tryz.underlying3 rfl) ?_
            refine .rd (.negW rfl) ?_
            refine .rd (.xor rfl rfl) ?_
            refine .alter (t := 41) (v' := .int .i64 (zag (z + b.toNat % 128 * 128 ^ i))) rfl (by exact congrArg (Value.int .i64) (zag_bits hzf)) ?_
            refine .rd (.move rfl) ?_
            refine .rd (.add rfl rfl (by omega) (by omega)) ?_
            refine .rd (.assign rfl) ?_
            refine .rd (.assign rfl) ?_
            refine .rd (.assign rfl) ?_
            refine .nil ?_
            refine .retP Tryz.func129 (.cons (.tmp rfl) (.cons (.tmp rfl) (.cons (.tmp rfl) .nil))) (.cons .head .nil) ?_
            exact ⟨[], ⟨by rw [← hrv]; rfl, rfl⟩, rfl⟩
  · refine .exit rfl ?_
    refine .seq ?_
    have hrv : (0, 0, 4) = rint l := by
      have := hI.1
      rw [show 10 - i = 0 by omega] at this
      exact this
    refine .region ?_
    refine .rd (.assign rfl) ?_
    refine .rd (.assign rfl) ?_
    refine .rd (.assign rfl) ?_
    refine .nil ?_
    refine .retP Tryz.func129 (.cons (.tmp rfl) (.cons (.tmp rfl) (.cons (.tmp rfl) .nil))) (.cons .head .nil) ?_
    exact ⟨[], ⟨by rw [← hrv]; rfl, rfl⟩, rfl⟩

end Go.Proofs.YtglhoenjflpibaaGreatDoor


/- Chapter 6: texts of chapter 3 (wire) under this seat's numbers. -/
namespace Go.Proofs.YtglhoenjflpibaaGreatDoor
open Go Go.Sp

set_option linter.unusedVariables false

namespace wire7
theorem fd72_0 : FD Tryz.prog 137 0 0 := .of Tryz.underlying137 (by kernel_rfl)
theorem na9 : NotAgg Tryz.prog 9 := ⟨_, Tryz.underlying9, trivial⟩
theorem fd72_1 : FD Tryz.prog 137 1 1 := .of Tryz.underlying137 (by kernel_rfl)
theorem na4 : NotAgg Tryz.prog 4 := ⟨_, Tryz.underlying4, trivial⟩
theorem ts4 : TS Tryz.prog 4 1 := .of (by kernel_rfl)
theorem ts9 : TS Tryz.prog 9 1 := .of (by kernel_rfl)
end wire7
open wire7



set_option maxRecDepth 20000 in
theorem rdint_ok (r : Nat) (p : Rdr) (hl : p.1.length ≤ 9000000000000000000) : Cn Tryz.prog 102 [.pointer (some ⟨r, 0, none⟩)] (fun _ => True) [blk r [.string (str p.1), .bool p.2] 137] fun v G => v = .int .i64 (rdI p).1 ∧ G = [blk r [.string (str (rdI p).2.1), .bool (rdI p).2.2] 137] := by
  refine .enter Tryz.func102 rfl (by kernel_rfl) rfl fun R k => ?_
  refine .seq ?_
  refine .region ?_
  refine .rd (.assign rfl) ?_
  refine .nil ?_
  refine .seq ?_
  refine .region ?_
  refine .rd (.move rfl) ?_
  refine .rd (.nilCheck rfl) ?_
  refine .rd (.fieldAddr fd72_0 rfl) ?_
  refine .rd (.ld na9 rfl .head rfl) ?_
  refine .fn rfl rfl .nil (fun _ _ _ => trivial) (ReadInt_ok p.1 hl) (fun v G1 hq => ?_)
  obtain ⟨rfl, rfl⟩ := hq
  simp only [List.nil_append]
  refine .rd (.move rfl) ?_
  refine .rd (.extract rfl rfl) ?_
  refine .rd (.extract rfl rfl) ?_
  refine .rd (.extract rfl rfl) ?_
  refine .rd (.assign rfl) ?_
  refine .rd (.assign rfl) ?_
  refine .rd (.assign rfl) ?_
  refine .nil ?_
  refine .seq ?_
  refine .region ?_
  refine .rd (.move rfl) ?_
  refine .rd (.move rfl) ?_
  refine .rd (.nilCheck rfl) ?_
  refine .rd (.fieldAddr fd72_1 rfl) ?_
  refine .rd (.ld na4 rfl .head rfl) ?_
  refine .rd (.move rfl) ?_
  refine .split (t := 20) rfl (fun h5 => ?_) (fun h5 => ?_)
  · refine .on (t := 20) rfl rfl ?_
    refine .rd (.move rfl) ?_
    refine .on (t := 20) rfl rfl ?_
    refine .rd (.eqI rfl rfl) ?_
    refine .rd (.pickT rfl rfl) ?_
    refine .rd (.nilCheck rfl) ?_
    refine .rd (.fieldAddr fd72_1 rfl) ?_
    refine .ef0 (.store ts4 rfl rfl .head rfl (Nat.le_of_ble_eq_true rfl)) ?_
    rintro _ _ rfl
    refine .nil ?_
    refine .seq ?_
    have hk := rint_le p.1
    refine .region ?_
    refine .rd (.move rfl) ?_
    refine .rd (.move rfl) ?_
    refine .rd (.nilCheck rfl) ?_
    refine .rd (.fieldAddr fd72_0 rfl) ?_
    refine .rd (.ld na9 rfl .head rfl) ?_
    refine .rd (.move rfl) ?_
    refine .rd (.sliceT (l := p.1) (a := (rint p.1).2.1) (h := p.1.length) Tryz.underlying9 rfl ⟨_, rfl⟩ rfl (by omega) (by omega)) ?_
    refine .rd (.nilCheck rfl) ?_
    refine .rd (.fieldAddr fd72_0 rfl) ?_
    refine .ef0 (.store ts9 rfl rfl .head rfl (Nat.le_of_ble_eq_true rfl)) ?_
    rintro _ _ rfl
    refine .nil ?_
    refine .seq ?_
    refine .region ?_
    refine .rd (.move rfl) ?_
    refine .rd (.assign rfl) ?_
    refine .nil ?_
    have hcell : [Value.string (str ((p.1.drop (rint p.1).2.1).take (p.1.length - (rint p.1).2.1))), Value.bool (decide ((rint p.1).2.2 = 0))] = [Value.string (str (rdI p).2.1), Value.bool (rdI p).2.2] := by rw [List.take_of_length_le (by rw [List.length_drop]; omega)]; simp only [rdI, h5, Bool.true_and]
    refine .cast (X' := blk r [.string (str (rdI p).2.1), .bool (rdI p).2.2] 137) (by show blk r [_, _] 137 = _; exact congrArg (fun l => blk r l 137) hcell) ?_
    refine .retP Tryz.func102 (.cons (.tmp rfl) .nil) (.cons .head (.cons .head .nil)) ?_
    exact ⟨[_], ⟨rfl, rfl⟩, rfl⟩
  · refine .off (t := 20) rfl rfl rfl ?_
    refine .off (t := 20) rfl rfl rfl ?_
    refine .rd (.pickF rfl rfl) ?_
    refine .rd (.nilCheck rfl) ?_
    refine .rd (.fieldAddr fd72_1 rfl) ?_
    refine .ef0 (.store ts4 rfl rfl .head rfl (Nat.le_of_ble_eq_true rfl)) ?_
    rintro _ _ rfl
    refine .nil ?_
    refine .seq ?_
    have hk := rint_le p.1
    refine .region ?_
    refine .rd (.move rfl) ?_
    refine .rd (.move rfl) ?_
    refine .rd (.nilCheck rfl) ?_
    refine .rd (.fieldAddr fd72_0 rfl) ?_
    refine .rd (.ld na9 rfl .head rfl) ?_
    refine .rd (.move rfl) ?_
    refine .rd (.sliceT (l := p.1) (a := (rint p.1).2.1) (h := p.1.length) Tryz.underlying9 rfl ⟨_, rfl⟩ rfl (by omega) (by omega)) ?_
    refine .rd (.nilCheck rfl) ?_
    refine .rd (.fieldAddr fd72_0 rfl) ?_
    refine .ef0 (.store ts9 rfl rfl .head rfl (Nat.le_of_ble_eq_true rfl)) ?_
    rintro _ _ rfl
    refine .nil ?_
    refine .seq ?_
    refine .region ?_
    refine .rd (.move rfl) ?_
    refine .rd (.assign rfl) ?_
    refine .nil ?_
    have hcell : [Value.string (str ((p.1.drop (rint p.1).2.1).take (p.1.length - (rint p.1).2.1))), Value.bool false] = [Value.string (str (rdI p).2.1), Value.bool (rdI p).2.2] := by rw [List.take_of_length_le (by rw [List.length_drop]; omega)]; simp only [rdI, h5, Bool.false_and]
    refine .cast (X' := blk r [.string (str (rdI p).2.1), .bool (rdI p).2.2] 137) (by show blk r [_, _] 137 = _; exact congrArg (fun l => blk r l 137) hcell) ?_
    refine .retP Tryz.func102 (.cons (.tmp rfl) .nil) (.cons .head (.cons .head .nil)) ?_
    exact ⟨[_], ⟨rfl, rfl⟩, rfl⟩

set_option maxRecDepth 20000 in
theorem within_ok (n m : Int) : Cn Tryz.prog 104 [.int .i64 n, .int .i64 m] (fun _ => True) [] fun v G => v = .bool (decide (0 ≤ n ∧ n ≤ m)) ∧ G = [] := by
  refine .enter Tryz.func104 rfl (by kernel_rfl) rfl fun R k => ?_
  refine .seq ?_
  refine .region ?_
  refine .rd (.assign rfl) ?_
  refine .nil ?_
  refine .seq ?_
  refine .region ?_
  refine .rd (.move rfl) ?_
  refine .rd (.ge rfl rfl) ?_
  refine .rd (.move rfl) ?_
  refine .split (t := 7) rfl (fun h2 => ?_) (fun h2 => ?_)
  · replace h2 := of_decide_eq_true h2
    refine .on (t := 7) rfl rfl ?_
    refine .rd (.move rfl) ?_
    refine .on (t := 7) rfl rfl ?_
    refine .rd (.move rfl) ?_
    refine .on (t := 7) rfl rfl ?_
    refine .rd (.le rfl rfl) ?_
    refine .rd (.pickT rfl rfl) ?_
    refine .rd (.assign rfl) ?_
    refine .nil ?_
    refine .retP Tryz.func104 (.cons (.tmp rfl) .nil) (.cons .head .nil) ?_
    exact ⟨[], ⟨by simp only [resVal]; congr 1; simp [h2], rfl⟩, rfl⟩
  · replace h2 := of_decide_eq_false h2
    refine .off (t := 7) rfl rfl rfl ?_
    refine .off (t := 7) rfl rfl rfl ?_
    refine .off (t := 7) rfl rfl rfl ?_
    refine .rd (.pickF rfl rfl) ?_
    refine .rd (.assign rfl) ?_
    refine .nil ?_
    refine .retP Tryz.func104 (.cons (.tmp rfl) .nil) (.cons .head .nil) ?_
    exact ⟨[], ⟨by simp only [resVal]; congr 1; simp [h2], rfl⟩, rfl⟩

set_option maxRecDepth 20000 in
theorem rdtext_ok (r : Nat) (p : Rdr) (most : Int) (hl : p.1.length ≤ 9000000000000000000) : Cn Tryz.prog 103 [.pointer (some ⟨r, 0, none⟩), .int .i64 most] (fun _ => True) [blk r [.string (str p.1), .bool p.2] 137] fun v G => v = .string (str (rdT most p).1) ∧ G = [blk r [.string (str (rdT most p).2.1), .bool (rdT most p).2.2] 137] := by
  refine .enter Tryz.func103 rfl (by kernel_rfl) rfl fun R k => ?_
  refine .seq ?_
  refine .region ?_
  refine .rd (.assign rfl) ?_
  refine .nil ?_
  refine .seq ?_
  refine .region ?_
  refine .rd (.move rfl) ?_
  refine .fn rfl rfl (.cons .head .nil) (fun _ _ _ => trivial) (rdint_ok r p hl) (fun v G1 hq => ?_)
  obtain ⟨rfl, rfl⟩ := hq
  simp only [List.cons_append, List.nil_append]
  refine .rd (.assign rfl) ?_
  refine .nil ?_
  refine .seq ?_
  refine .seq ?_
  refine .region ?_
  refine .rd (.move rfl) ?_
  refine .rd (.move rfl) ?_
  refine .rd (.move rfl) ?_
  refine .rd (.nilCheck rfl) ?_
  refine .rd (.fieldAddr fd72_0 rfl) ?_
  refine .rd (.ld na9 rfl .head rfl) ?_
  refine .rd (.lenT rfl rfl Tryz.underlying9 rfl) ?_
  refine .rd (.min2 rfl rfl rfl) ?_
  refine .fn rfl rfl .nil (fun _ _ _ => trivial) (within_ok (rdI p).1 (if ((rdI p).2.1.length : Int) < most then ((rdI p).2.1.length : Int) else most)) (fun v G1 hq => ?_)
  obtain ⟨rfl, rfl⟩ := hq
  simp only [List.nil_append]
  refine .rd (.not rfl) ?_
  refine .nil ?_
  refine .condN rfl (fun c2 => ?_) (fun c2 => ?_)
  · have hcell : rdT most p = ([], (rdI p).2.1, false) := by unfold rdT; rw [if_neg]; intro h; exact c2 ⟨h.1, by split <;> omega⟩
    refine .region ?_
    refine .rd (.move rfl) ?_
    refine .rd (.nilCheck rfl) ?_
    refine .rd (.fieldAddr fd72_1 rfl) ?_
    refine .ef0 (.store ts4 rfl rfl .head rfl (Nat.le_of_ble_eq_true rfl)) ?_
    rintro _ _ rfl
    refine .rd (.assign rfl) ?_
    refine .nil ?_
    refine .seq ?_
    refine .region ?_
    refine .rd (.move rfl) ?_
    refine .rd (.nilCheck rfl) ?_
    refine .rd (.fieldAddr fd72_0 rfl) ?_
    refine .rd (.ld na9 rfl .head rfl) ?_
    refine .rd (.move rfl) ?_
    refine .rd (.sliceT (l := (rdI p).2.1) (a := 0) (h := 0) Tryz.underlying9 rfl rfl ⟨_, rfl⟩ (by omega) (by omega)) ?_
    refine .rd (.assign rfl) ?_
    refine .nil ?_
    refine .seq ?_
    refine .region ?_
    refine .rd (.move rfl) ?_
    refine .rd (.move rfl) ?_
    refine .rd (.nilCheck rfl) ?_
    refine .rd (.fieldAddr fd72_0 rfl) ?_
    refine .rd (.ld na9 rfl .head rfl) ?_
    refine .rd (.move rfl) ?_
    refine .rd (.sliceT (l := (rdI p).2.1) (a := 0) (h := (rdI p).2.1.length) Tryz.underlying9 rfl ⟨_, rfl⟩ rfl (by omega) (by omega)) ?_
    refine .rd (.nilCheck rfl) ?_
    refine .rd (.fieldAddr fd72_0 rfl) ?_
    refine .ef0 (.store ts9 rfl rfl .head rfl (Nat.le_of_ble_eq_true rfl)) ?_
    rintro _ _ rfl
    refine .nil ?_
    refine .seq ?_
    refine .region ?_
    refine .rd (.move rfl) ?_
    refine .rd (.assign rfl) ?_
    refine .nil ?_
    refine .cast (X' := blk r [.string (str (rdT most p).2.1), .bool (rdT most p).2.2] 137) (by show blk r [Value.string (str (((rdI p).2.1.drop 0).take ((rdI p).2.1.length - 0))), Value.bool false] 137 = _; rw [hcell, List.take_of_length_le (by rw [List.length_drop]; omega)]; rfl) ?_
    refine .retP Tryz.func103 (.cons (.tmp rfl) .nil) (.cons .head (.cons .head .nil)) ?_
    exact ⟨[_], ⟨by simp only [resVal]; rw [hcell]; rfl, rfl⟩, rfl⟩
  · have hcell : rdT most p = ((rdI p).2.1.take (rdI p).1.toNat, (rdI p).2.1.drop (rdI p).1.toNat, (rdI p).2.2) := by unfold rdT; rw [if_pos]; obtain ⟨h1, h2⟩ := c2; split at h2 <;> exact ⟨h1, by omega, by omega⟩
    obtain ⟨k, hk⟩ : ∃ k : Nat, (rdI p).1 = k := ⟨(rdI p).1.toNat, by have := c2.1; omega⟩
    have hkl : k ≤ (rdI p).2.1.length := by have := c2.2; split at this <;> omega
    refine .alter (t := 5) (v' := .int .i64 (k : Nat)) rfl (by rw [hk]) ?_
    refine .skip ?_
    refine .seq ?_
    refine .region ?_
    refine .rd (.move rfl) ?_
    refine .rd (.nilCheck rfl) ?_
    refine .rd (.fieldAddr fd72_0 rfl) ?_
    refine .rd (.ld na9 rfl .head rfl) ?_
    refine .rd (.move rfl) ?_
    refine .rd (.sliceT (l := (rdI p).2.1) (a := 0) (h := k) Tryz.underlying9 rfl rfl ⟨_, rfl⟩ (by omega) (by omega)) ?_
    refine .rd (.assign rfl) ?_
    refine .nil ?_
    refine .seq ?_
    refine .region ?_
    refine .rd (.move rfl) ?_
    refine .rd (.move rfl) ?_
    refine .rd (.nilCheck rfl) ?_
    refine .rd (.fieldAddr fd72_0 rfl) ?_
    refine .rd (.ld na9 rfl .head rfl) ?_
    refine .rd (.move rfl) ?_
    refine .rd (.sliceT (l := (rdI p).2.1) (a := k) (h := (rdI p).2.1.length) Tryz.underlying9 rfl ⟨_, rfl⟩ rfl (by omega) (by omega)) ?_
    refine .rd (.nilCheck rfl) ?_
    refine .rd (.fieldAddr fd72_0 rfl) ?_
    refine .ef0 (.store ts9 rfl rfl .head rfl (Nat.le_of_ble_eq_true rfl)) ?_
    rintro _ _ rfl
    refine .nil ?_
    refine .seq ?_
    refine .region ?_
    refine .rd (.move rfl) ?_
    refine .rd (.assign rfl) ?_
    refine .nil ?_
    refine .cast (X' := blk r [.string (str (rdT most p).2.1), .bool (rdT most p).2.2] 137) (by show blk r [Value.string (str (((rdI p).2.1.drop k).take ((rdI p).2.1.length - k))), Value.bool (rdI p).2.2] 137 = _; rw [hcell, List.take_of_length_le (by rw [List.length_drop]; omega), hk]; rfl) ?_
    refine .retP Tryz.func103 (.cons (.tmp rfl) .nil) (.cons .head (.cons .head .nil)) ?_
    exact ⟨[_], ⟨by simp only [resVal]; rw [hcell, hk]; rfl, rfl⟩, rfl⟩

end Go.Proofs.YtglhoenjflpibaaGreatDoor


/- Chapter 6: texts of chapter 3 (wire) under this seat's numbers. -/
namespace Go.Proofs.YtglhoenjflpibaaGreatDoor
open Go Go.Sp

set_option linter.unusedVariables false

namespace wire0

end wire0
open wire0

theorem quo_two (c : BitVec 32) : (Value.int .u32 (IntKind.u32.wrap ((c.toNat : Int).tdiv 2))) = .int .u32 ((c >>> 1).toNat : Int) := by
  have e : (c.toNat : Int).tdiv 2 = ((c >>> 1).toNat : Int) := by
    rw [Int.tdiv_eq_ediv_of_nonneg (by omega), BitVec.toNat_ushiftRight, Nat.shiftRight_eq_div_pow]; omega
  rw [e]; exact congrArg (Value.int .u32) (wrap_u (k := .u32) rfl (c >>> 1))
theorem xor_ones (c : BitVec 32) : c ^^^ 4294967295#32 = ~~~ c := by
  rw [show (4294967295#32 : BitVec 32) = BitVec.allOnes 32 from rfl, BitVec.xor_allOnes]
theorem crc_int (c : BitVec 32) : resVal [Value.int .i64 (IntKind.i64.wrap ((~~~ c).toNat : Int))] = .int .i64 ((~~~ c).toNat : Int) := by
  simp only [resVal]
  rw [wrap_i64 (by omega) (by have := (~~~ c).isLt; omega)]

set_option maxRecDepth 20000 in
theorem Crc_ok (l : List UInt8) (hl : l.length ≤ 9000000000000000000) : Cn Tryz.prog 73 [.string (str l)] (fun _ => True) [] fun v G => v = .int .i64 ((crc l).toNat : Int) ∧ G = [] := by
  refine .enter Tryz.func73 rfl (by kernel_rfl) rfl fun R k => ?_
  refine .seq ?_
  refine .region ?_
  refine .rd (.assign rfl) ?_
  refine .nil ?_
  refine .seq ?_
  refine .region ?_
  refine .rd (.assign rfl) ?_
  refine .nil ?_
  refine .seq ?_
  refine .seq ?_
  refine .region ?_
  refine .rd (.move rfl) ?_
  refine .rd (.lenT rfl rfl Tryz.underlying9 rfl) ?_
  refine .rd (.move rfl) ?_
  refine .nil ?_
  refine .block ?_
  refine .loop (σ := Nat) (fun i => i ≤ l.length) (fun i => l.length - i) (fun i => [(0, .string (str l)), (3, .int .u32 ((crcS (l.take i)).toNat : Int)), (6, .int .i64 l.length), (7, .int .i64 (i : Nat))]) (fun i => [R]) 0 (Nat.zero_le _) (.cons rfl (.cons rfl (.cons rfl (.cons rfl .nil)))) (.cons .head .nil) (fun i hI ih => ?_)
  have hI0 := hI
  have ih0 := ih
  refine .seq ?_
  refine .region ?_
  refine .rd (.lt rfl rfl) ?_
  refine .nil ?_
  refine .seq ?_
  refine .condP rfl (fun h3 => ?_) (fun h3 => ?_)
  · refine .skip ?_
    refine .seq ?_
    refine .block ?_
    refine .seq ?_
    refine .region ?_
    refine .rd (.move rfl) ?_
    refine .rd (.assign rfl) ?_
    refine .nil ?_
    refine .seq ?_
    have hlt : i < l.length := by omega
    obtain ⟨b, hb⟩ : ∃ b, l[i]? = some b := ⟨_, List.getElem?_eq_getElem hlt⟩
    refine .region ?_
    refine .rd (.move rfl) ?_
    refine .rd (.move rfl) ?_
    refine .rd (.move rfl) ?_
    refine .rd (.indexT Tryz.underlying9 rfl rfl (by omega) hb) ?_
    refine .rd (.convInt (k := .u32) (j := .u8) (n := (b.toNat : Int)) Tryz.underlying5 Tryz.underlying143 rfl) ?_
    refine .alter (t := 14) (v' := .int .u32 ((BitVec.ofNat 32 b.toNat).toNat : Int)) rfl (by rw [u8_u32]) ?_
    refine .rd (.xorU (k := .u32) (a := (crcS (l.take i))) (b := BitVec.ofNat 32 b.toNat) rfl rfl rfl) ?_
    refine .rd (.assign rfl) ?_
    refine .nil ?_
    refine .seq ?_
    refine .region ?_
    refine .rd (.move rfl) ?_
    refine .nil ?_
    refine .block ?_
    refine .loop (σ := Nat × BitVec 32) (fun ⟨j, c⟩ => j ≤ 8 ∧ crcN (8 - j) c = crcB (crcS (l.take i)) b) (fun ⟨j, c⟩ => 8 - j) (fun ⟨j, c⟩ => [(0, .string (str l)), (3, .int .u32 (c.toNat : Int)), (6, .int .i64 l.length), (7, .int .i64 (i : Nat)), (16, .int .i64 (j : Nat))]) (fun ⟨j, c⟩ => [R]) (0, (crcS (l.take i)) ^^^ BitVec.ofNat 32 b.toNat) ⟨Nat.zero_le _, rfl⟩ (.cons rfl (.cons rfl (.cons rfl (.cons rfl (.cons rfl .nil))))) (.cons .head .nil) (fun s hI ih => ?_)
    obtain ⟨j, c⟩ := s
    dsimp only at hI ih ⊢
    have hj := hI.1
    refine .seq ?_
    refine .region ?_
    refine .rd (.lt rfl rfl) ?_
    refine .nil ?_
    refine .seq ?_
    refine .condP rfl (fun h7 => ?_) (fun h7 => ?_)
    · refine .skip ?_
      refine .seq ?_
      refine .block ?_
      refine .region ?_
      refine .rd (.move rfl) ?_
      refine .rd (.shrU (k := .u32) (a := c) (n := 1) (by decide) rfl rfl) ?_
      refine .rd (.move rfl) ?_
      refine .rd (.andU (k := .u32) (a := c) (b := 1#32) rfl rfl rfl) ?_
      refine .rd (.negU (k := .u32) (a := (c &&& 1#32)) rfl rfl) ?_
      refine .rd (.andU (k := .u32) (a := 2197175160#32) (b := (-(c &&& 1#32))) rfl rfl rfl) ?_
      refine .rd (.xorU (k := .u32) (a := (c >>> 1)) (b := (2197175160#32 &&& -(c &&& 1#32))) rfl rfl rfl) ?_
      refine .rd (.assign rfl) ?_
      refine .nil ?_
      refine .inBlock ?_
      refine .region ?_
      refine .rd (.add rfl rfl (by omega) (by omega)) ?_
      refine .rd (.move rfl) ?_
      refine .nil ?_
      exact (ih (j + 1, crc1 c) ⟨by show j + 1 ≤ 8; omega, by show crcN (8 - (j + 1)) (crc1 c) = _; rw [← hI.2, show 8 - j = (8 - (j + 1)) + 1 by omega]; rfl⟩ (by show 8 - (j + 1) < 8 - j; omega)).to (.cons rfl (.cons rfl (.cons rfl (.cons rfl (.cons rfl .nil))))) (.cons .head .nil)
    · have hc8 : c = crcB (crcS (l.take i)) b := by have := hI.2; rw [show 8 - j = 0 by omega] at this; exact this
      refine .exit rfl ?_
      refine .inBlock ?_
      refine .region ?_
      refine .rd (.add rfl rfl (by omega) (by omega)) ?_
      refine .rd (.move rfl) ?_
      refine .nil ?_
      exact (ih0 (i + 1) (by omega) (by omega)).to (.cons rfl (.cons (by show _ = some (Value.int .u32 ((crcS (l.take (i + 1))).toNat : Int)); rw [crcS_snoc l i hb, ← hc8]; rfl) (.cons rfl (.cons rfl .nil)))) (.cons .head .nil)
  · refine .exit rfl ?_
    refine .seq ?_
    refine .region ?_
    refine .rd (.move rfl) ?_
    refine .rd (.comU (k := .u32) (a := (crcS (l.take i))) rfl rfl) ?_
    refine .rd (.convInt (k := .i64) (j := .u32) (n := ((~~~ (crcS (l.take i))).toNat : Int)) Tryz.underlying143 Tryz.underlying3 rfl) ?_
    refine .rd (.assign rfl) ?_
    refine .nil ?_
    refine .retP Tryz.func73 (.cons (.tmp rfl) .nil) (.cons .head .nil) ?_
    refine ⟨[], ⟨?_, rfl⟩, rfl⟩
    rw [List.take_of_length_le (by omega)]
    exact crc_int _

end Go.Proofs.YtglhoenjflpibaaGreatDoor


/- Chapter 6: texts of chapter 3 (wire) under this seat's numbers. -/
namespace Go.Proofs.YtglhoenjflpibaaGreatDoor
open Go Go.Sp

set_option linter.unusedVariables false

namespace wire6
theorem ti5 : TI Tryz.prog 5 1 1 (.int .u8 0) := .of (by kernel_rfl)
end wire6
open wire6

theorem q_byte (n d : Nat) : (Value.int .u8 (IntKind.u8.wrap ((n : Int) / (d : Int)))) = .int .u8 ((UInt8.ofNat (n / d % 256)).toNat : Int) := by
  rw [← Int.natCast_ediv, u64_u8, toNat_256]
theorem qm_byte (n d : Nat) : (Value.int .u8 (IntKind.u8.wrap ((n : Int) / (d : Int) % 256))) = .int .u8 ((UInt8.ofNat (n / d % 256)).toNat : Int) := by
  have e : (n : Int) / (d : Int) % 256 = ((n / d % 256 : Nat) : Int) := by rw [← Int.natCast_ediv]; omega
  rw [e, u64_u8, toNat_256]; congr 2; omega
theorem m_byte (n : Nat) : (Value.int .u8 (IntKind.u8.wrap ((n : Int) % 256))) = .int .u8 ((UInt8.ofNat (n % 256)).toNat : Int) := by
  have e : (n : Int) % 256 = ((n % 256 : Nat) : Int) := by omega
  rw [e, u64_u8, toNat_256]; congr 2; omega

set_option maxRecDepth 20000 in
theorem appendFour_ok (a : Option Addr) (c : Nat) (l : List UInt8) (n : Nat) (hl : l.length ≤ 1000000000000) : Cn Tryz.prog 72 [.slice a l.length c, .int .i64 (n : Int)] (fun _ => True) [arr 5 1 a c (bcs l)] fun v G => ∃ a' c', v = .slice a' (l ++ fours n).length c' ∧ G = [arr 5 1 a' c' (bcs (l ++ fours n))] := by
  refine .enter Tryz.func72 rfl (by kernel_rfl) rfl fun R k => ?_
  refine .seq ?_
  refine .region ?_
  refine .rd (.assign rfl) ?_
  refine .nil ?_
  refine .seq ?_
  refine .region ?_
  refine .rd (.move rfl) ?_
  refine .rd (.move rfl) ?_
  refine .rd (.shr (n := 24) rfl rfl) ?_
  refine .rd (.convInt Tryz.underlying3 Tryz.underlying5 rfl) ?_
  refine .alter (t := 8) (v' := .int .u8 ((UInt8.ofNat (n / 2 ^ 24 % 256)).toNat : Int)) rfl (by exact shr_byte n 24 (by decide)) ?_
  refine .rd (.move rfl) ?_
  refine .rd (.shr (n := 16) rfl rfl) ?_
  refine .rd (.convInt Tryz.underlying3 Tryz.underlying5 rfl) ?_
  refine .alter (t := 11) (v' := .int .u8 ((UInt8.ofNat (n / 2 ^ 16 % 256)).toNat : Int)) rfl (by exact shr_byte n 16 (by decide)) ?_
  refine .rd (.move rfl) ?_
  refine .rd (.shr (n := 8) rfl rfl) ?_
  refine .rd (.convInt Tryz.underlying3 Tryz.underlying5 rfl) ?_
  refine .alter (t := 14) (v' := .int .u8 ((UInt8.ofNat (n / 2 ^ 8 % 256)).toNat : Int)) rfl (by exact shr_byte n 8 (by decide)) ?_
  refine .rd (.move rfl) ?_
  refine .rd (.convInt Tryz.underlying3 Tryz.underlying5 rfl) ?_
  refine .alter (t := 16) (v' := .int .u8 ((UInt8.ofNat (n % 256)).toNat : Int)) rfl (by exact low_byte n) ?_
  refine .ef (.buildSlice (n := 4) (cs := bcs (fours n)) Tryz.underlying110 ti5 rfl (by decide) (fill4 _ _ _ _) (ones.of rfl)) ?_
  rintro _ _ ⟨bs, rfl, rfl⟩
  refine .ef (.append rfl rfl Tryz.underlying110 ti5 rfl (ones.of rfl) (by decide) (by decide) rfl rfl (.tail .head) (n := l.length) (m := 4) (by rw [bcs_len, Nat.mul_one]) (.srcBlk .head Tryz.underlying110 rfl (by decide)) (by omega)) ?_
  rintro _ _ ⟨ra, rc, rfl, rn, rfl⟩
  refine .rd (.assign rfl) ?_
  refine .nil ?_
  rw [← bcs_append]
  refine .retP Tryz.func72 (.cons (.tmp rfl) .nil) (.cons .head (.cons (.tail .head) .nil)) ?_
  exact ⟨[_], ⟨ra, rc, by simp only [resVal]; rw [List.length_append]; rfl, rfl⟩, rfl⟩

end Go.Proofs.YtglhoenjflpibaaGreatDoor


/- Chapter 6: texts of chapter 3 (wire) under this seat's numbers. -/
namespace Go.Proofs.YtglhoenjflpibaaGreatDoor
open Go Go.Sp

set_option linter.unusedVariables false

namespace wire11
theorem fd27_5 : FD Tryz.prog 34 5 5 := .of Tryz.underlying34 (by kernel_rfl)
theorem na25 : NotAgg Tryz.prog 32 := ⟨_, Tryz.underlying32, trivial⟩
theorem fd27_0 : FD Tryz.prog 34 0 0 := .of Tryz.underlying34 (by kernel_rfl)
theorem na3 : NotAgg Tryz.prog 3 := ⟨_, Tryz.underlying3, trivial⟩
theorem fd27_1 : FD Tryz.prog 34 1 1 := .of Tryz.underlying34 (by kernel_rfl)
theorem fd27_2 : FD Tryz.prog 34 2 2 := .of Tryz.underlying34 (by kernel_rfl)
theorem fd27_3 : FD Tryz.prog 34 3 3 := .of Tryz.underlying34 (by kernel_rfl)
theorem fd27_4 : FD Tryz.prog 34 4 4 := .of Tryz.underlying34 (by kernel_rfl)
theorem ts65 : TS Tryz.prog 66 3 := .of (by kernel_rfl)
theorem ia65 : IsAgg Tryz.prog 66 := ⟨_, Tryz.underlying66, trivial⟩
theorem ti65 : TI Tryz.prog 66 3 40 (.agg #[.string ⟨#[]⟩, .string ⟨#[]⟩, .int .i64 0]) := .of (by kernel_rfl)
theorem fd65_2 : FD Tryz.prog 66 2 2 := .of Tryz.underlying66 (by kernel_rfl)
theorem fd65_0 : FD Tryz.prog 66 0 0 := .of Tryz.underlying66 (by kernel_rfl)
theorem na9 : NotAgg Tryz.prog 9 := ⟨_, Tryz.underlying9, trivial⟩
theorem fd65_1 : FD Tryz.prog 66 1 1 := .of Tryz.underlying66 (by kernel_rfl)
theorem ia27 : IsAgg Tryz.prog 34 := ⟨_, Tryz.underlying34, trivial⟩
theorem ts27 : TS Tryz.prog 34 6 := .of (by kernel_rfl)
end wire11
open wire11



set_option maxRecDepth 20000 in
theorem Right_ok (b : Bat) (a : Option Addr) (c : Nat) (hf : b.fits) : Cn Tryz.prog 70 [.agg (b.cells a c).toArray] (RowAt a (b.recs.flatMap Rec.cells)) [] fun v G => v = .int .i64 (right b) ∧ G = [] := by
  refine .enter Tryz.func70 rfl (by kernel_rfl) rfl fun R k => ?_
  have hfl := hf.len
  have hor := orI_zero hf.pidEpoch hf.seq
  refine .seq ?_
  refine .region ?_
  refine .ef (.box (l := b.cells a c) rfl rfl (ones.of rfl)) ?_
  rintro _ _ ⟨b1, rfl, rfl⟩
  refine .rd (.assign rfl) ?_
  refine .nil ?_
  refine .seq ?_
  refine .region ?_
  refine .rd (.fieldAddr fd27_5 rfl) ?_
  refine .rd (.ld na25 rfl .head rfl) ?_
  refine .rd (.lenL rfl rfl Tryz.underlying32 rfl) ?_
  refine .rd (.assign rfl) ?_
  refine .nil ?_
  refine .seq ?_
  refine .seq ?_
  refine .region ?_
  refine .rd (.fieldAddr fd27_0 rfl) ?_
  refine .rd (.ld na3 rfl .head rfl) ?_
  refine .rd (.lt rfl rfl) ?_
  refine .rd (.move rfl) ?_
  refine .split (t := 13) rfl (fun g2_3 => ?_) (fun g2_3 => ?_)
  · replace g2_3 := of_decide_eq_true g2_3
    refine .off (t := 13) rfl rfl rfl ?_
    refine .off (t := 13) rfl rfl rfl ?_
    refine .off (t := 13) rfl rfl rfl ?_
    refine .off (t := 13) rfl rfl rfl ?_
    refine .rd (.pickT rfl rfl) ?_
    refine .rd (.move rfl) ?_
    refine .off (t := 19) rfl rfl rfl ?_
    refine .off (t := 19) rfl rfl rfl ?_
    refine .off (t := 19) rfl rfl rfl ?_
    refine .off (t := 19) rfl rfl rfl ?_
    refine .rd (.pickT rfl rfl) ?_
    refine .rd (.move rfl) ?_
    refine .off (t := 25) rfl rfl rfl ?_
    refine .off (t := 25) rfl rfl rfl ?_
    refine .off (t := 25) rfl rfl rfl ?_
    refine .off (t := 25) rfl rfl rfl ?_
    refine .rd (.pickT rfl rfl) ?_
    refine .rd (.move rfl) ?_
    refine .off (t := 31) rfl rfl rfl ?_
    refine .off (t := 31) rfl rfl rfl ?_
    refine .off (t := 31) rfl rfl rfl ?_
    refine .off (t := 31) rfl rfl rfl ?_
    refine .rd (.pickT rfl rfl) ?_
    refine .rd (.move rfl) ?_
    refine .off (t := 37) rfl rfl rfl ?_
    refine .off (t := 37) rfl rfl rfl ?_
    refine .off (t := 37) rfl rfl rfl ?_
    refine .offU (t := 37) rfl rfl rfl rfl ?_
    refine .offX (t := 41) rfl rfl rfl ?_
    refine .offX (t := 41) rfl rfl rfl ?_
    refine .offX (t := 41) rfl rfl rfl ?_
    refine .offX (t := 41) rfl rfl rfl ?_
    refine .offX (t := 41) rfl rfl rfl ?_
    refine .offX (t := 41) rfl rfl rfl ?_
    refine .off (t := 37) rfl rfl rfl ?_
    refine .rd (.pickT rfl rfl) ?_
    refine .rd (.move rfl) ?_
    refine .off (t := 50) rfl rfl rfl ?_
    refine .off (t := 50) rfl rfl rfl ?_
    refine .rd (.pickT rfl rfl) ?_
    refine .nil ?_
    refine .condT rfl ?_
    refine .seq ?_
    refine .region ?_
    refine .rd (.assign rfl) ?_
    refine .nil ?_
    have hq : b.off := by unfold Bat.off; omega
    rw [right_off hq]
    refine .retP Tryz.func70 (.cons (.tmp rfl) .nil) (.cons (.tail .head) .nil) ?_
    exact ⟨[], ⟨rfl, rfl⟩, rfl⟩
  · replace g2_3 := of_decide_eq_false g2_3
    refine .on (t := 13) rfl rfl ?_
    refine .rd (.fieldAddr fd27_1 rfl) ?_
    refine .on (t := 13) rfl rfl ?_
    refine .rd (.ld na3 rfl .head rfl) ?_
    refine .on (t := 13) rfl rfl ?_
    refine .fn rfl rfl .nil (fun _ _ _ => trivial) (within_ok _ _) (fun v G1 hq => ?_)
    obtain ⟨rfl, rfl⟩ := hq
    simp only [List.nil_append]
    refine .on (t := 13) rfl rfl ?_
    refine .rd (.not rfl) ?_
    refine .rd (.pickF rfl rfl) ?_
    refine .rd (.move rfl) ?_
    refine .split (t := 19) rfl (fun g2_9 => ?_) (fun g2_9 => ?_)
    · simp at g2_9
      refine .off (t := 19) rfl rfl rfl ?_
      refine .off (t := 19) rfl rfl rfl ?_
      refine .off (t := 19) rfl rfl rfl ?_
      refine .off (t := 19) rfl rfl rfl ?_
      refine .rd (.pickT rfl rfl) ?_
      refine .rd (.move rfl) ?_
      refine .off (t := 25) rfl rfl rfl ?_
      refine .off (t := 25) rfl rfl rfl ?_
      refine .off (t := 25) rfl rfl rfl ?_
      refine .off (t := 25) rfl rfl rfl ?_
      refine .rd (.pickT rfl rfl) ?_
      refine .rd (.move rfl) ?_
      refine .off (t := 31) rfl rfl rfl ?_
      refine .off (t := 31) rfl rfl rfl ?_
      refine .off (t := 31) rfl rfl rfl ?_
      refine .off (t := 31) rfl rfl rfl ?_
      refine .rd (.pickT rfl rfl) ?_
      refine .rd (.move rfl) ?_
      refine .off (t := 37) rfl rfl rfl ?_
      refine .off (t := 37) rfl rfl rfl ?_
      refine .off (t := 37) rfl rfl rfl ?_
      refine .offU (t := 37) rfl rfl rfl rfl ?_
      refine .offX (t := 41) rfl rfl rfl ?_
      refine .offX (t := 41) rfl rfl rfl ?_
      refine .offX (t := 41) rfl rfl rfl ?_
      refine .offX (t := 41) rfl rfl rfl ?_
      refine .offX (t := 41) rfl rfl rfl ?_
      refine .offX (t := 41) rfl rfl rfl ?_
      refine .off (t := 37) rfl rfl rfl ?_
      refine .rd (.pickT rfl rfl) ?_
      refine .rd (.move rfl) ?_
      refine .off (t := 50) rfl rfl rfl ?_
      refine .off (t := 50) rfl rfl rfl ?_
      refine .rd (.pickT rfl rfl) ?_
      refine .nil ?_
      refine .condT rfl ?_
      refine .seq ?_
      refine .region ?_
      refine .rd (.assign rfl) ?_
      refine .nil ?_
      have hq : b.off := by unfold Bat.off; omega
      rw [right_off hq]
      refine .retP Tryz.func70 (.cons (.tmp rfl) .nil) (.cons (.tail .head) .nil) ?_
      exact ⟨[], ⟨rfl, rfl⟩, rfl⟩
    · simp at g2_9
      refine .on (t := 19) rfl rfl ?_
      refine .rd (.fieldAddr fd27_2 rfl) ?_
      refine .on (t := 19) rfl rfl ?_
      refine .rd (.ld na3 rfl .head rfl) ?_
      refine .on (t := 19) rfl rfl ?_
      refine .fn rfl rfl .nil (fun _ _ _ => trivial) (within_ok _ _) (fun v G1 hq => ?_)
      obtain ⟨rfl, rfl⟩ := hq
      simp only [List.nil_append]
      refine .on (t := 19) rfl rfl ?_
      refine .rd (.not rfl) ?_
      refine .rd (.pickF rfl rfl) ?_
      refine .rd (.move rfl) ?_
      refine .split (t := 25) rfl (fun g2_15 => ?_) (fun g2_15 => ?_)
      · simp at g2_15
        refine .off (t := 25) rfl rfl rfl ?_
        refine .off (t := 25) rfl rfl rfl ?_
        refine .off (t := 25) rfl rfl rfl ?_
        refine .off (t := 25) rfl rfl rfl ?_
        refine .rd (.pickT rfl rfl) ?_
        refine .rd (.move rfl) ?_
        refine .off (t := 31) rfl rfl rfl ?_
        refine .off (t := 31) rfl rfl rfl ?_
        refine .off (t := 31) rfl rfl rfl ?_
        refine .off (t := 31) rfl rfl rfl ?_
        refine .rd (.pickT rfl rfl) ?_
        refine .rd (.move rfl) ?_
        refine .off (t := 37) rfl rfl rfl ?_
        refine .off (t := 37) rfl rfl rfl ?_
        refine .off (t := 37) rfl rfl rfl ?_
        refine .offU (t := 37) rfl rfl rfl rfl ?_
        refine .offX (t := 41) rfl rfl rfl ?_
        refine .offX (t := 41) rfl rfl rfl ?_
        refine .offX (t := 41) rfl rfl rfl ?_
        refine .offX (t := 41) rfl rfl rfl ?_
        refine .offX (t := 41) rfl rfl rfl ?_
        refine .offX (t := 41) rfl rfl rfl ?_
        refine .off (t := 37) rfl rfl rfl ?_
        refine .rd (.pickT rfl rfl) ?_
        refine .rd (.move rfl) ?_
        refine .off (t := 50) rfl rfl rfl ?_
        refine .off (t := 50) rfl rfl rfl ?_
        refine .rd (.pickT rfl rfl) ?_
        refine .nil ?_
        refine .condT rfl ?_
        refine .seq ?_
        refine .region ?_
        refine .rd (.assign rfl) ?_
        refine .nil ?_
        have hq : b.off := by unfold Bat.off; omega
        rw [right_off hq]
        refine .retP Tryz.func70 (.cons (.tmp rfl) .nil) (.cons (.tail .head) .nil) ?_
        exact ⟨[], ⟨rfl, rfl⟩, rfl⟩
      · simp at g2_15
        refine .on (t := 25) rfl rfl ?_
        refine .rd (.fieldAddr fd27_3 rfl) ?_
        refine .on (t := 25) rfl rfl ?_
        refine .rd (.ld na3 rfl .head rfl) ?_
        refine .on (t := 25) rfl rfl ?_
        refine .fn rfl rfl .nil (fun _ _ _ => trivial) (within_ok _ _) (fun v G1 hq => ?_)
        obtain ⟨rfl, rfl⟩ := hq
        simp only [List.nil_append]
        refine .on (t := 25) rfl rfl ?_
        refine .rd (.not rfl) ?_
        refine .rd (.pickF rfl rfl) ?_
        refine .rd (.move rfl) ?_
        refine .split (t := 31) rfl (fun g2_21 => ?_) (fun g2_21 => ?_)
        · simp at g2_21
          refine .off (t := 31) rfl rfl rfl ?_
          refine .off (t := 31) rfl rfl rfl ?_
          refine .off (t := 31) rfl rfl rfl ?_
          refine .off (t := 31) rfl rfl rfl ?_
          refine .rd (.pickT rfl rfl) ?_
          refine .rd (.move rfl) ?_
          refine .off (t := 37) rfl rfl rfl ?_
          refine .off (t := 37) rfl rfl rfl ?_
          refine .off (t := 37) rfl rfl rfl ?_
          refine .offU (t := 37) rfl rfl rfl rfl ?_
          refine .offX (t := 41) rfl rfl rfl ?_
          refine .offX (t := 41) rfl rfl rfl ?_
          refine .offX (t := 41) rfl rfl rfl ?_
          refine .offX (t := 41) rfl rfl rfl ?_
          refine .offX (t := 41) rfl rfl rfl ?_
          refine .offX (t := 41) rfl rfl rfl ?_
          refine .off (t := 37) rfl rfl rfl ?_
          refine .rd (.pickT rfl rfl) ?_
          refine .rd (.move rfl) ?_
          refine .off (t := 50) rfl rfl rfl ?_
          refine .off (t := 50) rfl rfl rfl ?_
          refine .rd (.pickT rfl rfl) ?_
          refine .nil ?_
          refine .condT rfl ?_
          refine .seq ?_
          refine .region ?_
          refine .rd (.assign rfl) ?_
          refine .nil ?_
          have hq : b.off := by unfold Bat.off; omega
          rw [right_off hq]
          refine .retP Tryz.func70 (.cons (.tmp rfl) .nil) (.cons (.tail .head) .nil) ?_
          exact ⟨[], ⟨rfl, rfl⟩, rfl⟩
        · simp at g2_21
          refine .on (t := 31) rfl rfl ?_
          refine .rd (.fieldAddr fd27_4 rfl) ?_
          refine .on (t := 31) rfl rfl ?_
          refine .rd (.ld na3 rfl .head rfl) ?_
          refine .on (t := 31) rfl rfl ?_
          refine .fn rfl rfl .nil (fun _ _ _ => trivial) (within_ok _ _) (fun v G1 hq => ?_)
          obtain ⟨rfl, rfl⟩ := hq
          simp only [List.nil_append]
          refine .on (t := 31) rfl rfl ?_
          refine .rd (.not rfl) ?_
          refine .rd (.pickF rfl rfl) ?_
          refine .rd (.move rfl) ?_
          refine .split (t := 37) rfl (fun g2_27 => ?_) (fun g2_27 => ?_)
          · simp at g2_27
            refine .off (t := 37) rfl rfl rfl ?_
            refine .off (t := 37) rfl rfl rfl ?_
            refine .off (t := 37) rfl rfl rfl ?_
            refine .offU (t := 37) rfl rfl rfl rfl ?_
            refine .offX (t := 41) rfl rfl rfl ?_
            refine .offX (t := 41) rfl rfl rfl ?_
            refine .offX (t := 41) rfl rfl rfl ?_
            refine .offX (t := 41) rfl rfl rfl ?_
            refine .offX (t := 41) rfl rfl rfl ?_
            refine .offX (t := 41) rfl rfl rfl ?_
            refine .off (t := 37) rfl rfl rfl ?_
            refine .rd (.pickT rfl rfl) ?_
            refine .rd (.move rfl) ?_
            refine .off (t := 50) rfl rfl rfl ?_
            refine .off (t := 50) rfl rfl rfl ?_
            refine .rd (.pickT rfl rfl) ?_
            refine .nil ?_
            refine .condT rfl ?_
            refine .seq ?_
            refine .region ?_
            refine .rd (.assign rfl) ?_
            refine .nil ?_
            have hq : b.off := by unfold Bat.off; omega
            rw [right_off hq]
            refine .retP Tryz.func70 (.cons (.tmp rfl) .nil) (.cons (.tail .head) .nil) ?_
            exact ⟨[], ⟨rfl, rfl⟩, rfl⟩
          · simp at g2_27
            refine .on (t := 37) rfl rfl ?_
            refine .rd (.fieldAddr fd27_2 rfl) ?_
            refine .on (t := 37) rfl rfl ?_
            refine .rd (.ld na3 rfl .head rfl) ?_
            refine .on (t := 37) rfl rfl ?_
            refine .rd (.eqI rfl rfl) ?_
            refine .on (t := 37) rfl rfl ?_
            refine .rd (.move rfl) ?_
            refine .split (t := 41) rfl (fun g2_31 => ?_) (fun g2_31 => ?_)
            · replace g2_31 := of_decide_eq_true g2_31
              refine .on (t := 41) rfl rfl ?_
              refine .rd (.fieldAddr fd27_3 rfl) ?_
              refine .on (t := 41) rfl rfl ?_
              refine .rd (.ld na3 rfl .head rfl) ?_
              refine .on (t := 41) rfl rfl ?_
              refine .rd (.fieldAddr fd27_4 rfl) ?_
              refine .on (t := 41) rfl rfl ?_
              refine .rd (.ld na3 rfl .head rfl) ?_
              refine .on (t := 41) rfl rfl ?_
              refine .rd (.or rfl rfl) ?_
              refine .alter (t := 46) (v' := .int .i64 (orI b.pidEpoch b.seq)) rfl (rfl) ?_
              refine .on (t := 41) rfl rfl ?_
              refine .rd (.neI rfl rfl) ?_
              refine .on (t := 37) rfl rfl ?_
              refine .rd (.pickT rfl rfl) ?_
              refine .rd (.pickF rfl rfl) ?_
              refine .rd (.move rfl) ?_
              refine .split (t := 50) rfl (fun g2_40 => ?_) (fun g2_40 => ?_)
              · simp at g2_40
                refine .off (t := 50) rfl rfl rfl ?_
                refine .off (t := 50) rfl rfl rfl ?_
                refine .rd (.pickT rfl rfl) ?_
                refine .nil ?_
                refine .condT rfl ?_
                refine .seq ?_
                refine .region ?_
                refine .rd (.assign rfl) ?_
                refine .nil ?_
                have hq : b.off := by unfold Bat.off; omega
                rw [right_off hq]
                refine .retP Tryz.func70 (.cons (.tmp rfl) .nil) (.cons (.tail .head) .nil) ?_
                exact ⟨[], ⟨rfl, rfl⟩, rfl⟩
              · simp at g2_40
                refine .on (t := 50) rfl rfl ?_
                refine .rd (.move rfl) ?_
                refine .on (t := 50) rfl rfl ?_
                refine .rd (.eqI rfl rfl) ?_
                refine .rd (.pickF rfl rfl) ?_
                refine .nil ?_
                refine .condP rfl (fun h2 => ?_) (fun h2 => ?_)
                · refine .seq ?_
                  refine .region ?_
                  refine .rd (.assign rfl) ?_
                  refine .nil ?_
                  have hq : b.off := by unfold Bat.off; omega
                  rw [right_off hq]
                  refine .retP Tryz.func70 (.cons (.tmp rfl) .nil) (.cons (.tail .head) .nil) ?_
                  exact ⟨[], ⟨rfl, rfl⟩, rfl⟩
                · have hno : ¬ b.off := by unfold Bat.off; omega
                  refine .skip ?_
                  refine .seq ?_
                  refine .region ?_
                  refine .rd (.assign rfl) ?_
                  refine .nil ?_
                  refine .seq ?_
                  refine .seq ?_
                  refine .region ?_
                  refine .rd (.fieldAddr fd27_5 rfl) ?_
                  refine .rd (.ld na25 rfl .head rfl) ?_
                  refine .rd (.lenL rfl rfl Tryz.underlying32 rfl) ?_
                  refine .rd (.move rfl) ?_
                  refine .nil ?_
                  refine .block ?_
                  refine .loop (σ := Nat) (fun j => j ≤ b.recs.length ∧ ∀ r ∈ b.recs.take j, timely r) (fun j => b.recs.length - j) (fun j => [(1, .pointer (some ⟨b1, 0, none⟩)), (2, .int .i64 0), (3, .int .i64 b.recs.length), (4, .bool ((b.recs.take j).any long)), (55, .slice a b.recs.length c), (56, .int .i64 b.recs.length), (57, .int .i64 (j : Nat))]) (fun j => [blk b1 (b.cells a c) 34, R]) 0 ⟨Nat.zero_le _, by simp⟩ (.cons rfl (.cons rfl (.cons rfl (.cons rfl (.cons rfl (.cons rfl (.cons rfl .nil))))))) (.cons .head (.cons .head .nil)) (fun j hI ih => ?_)
                  have hj := hI.1
                  refine .seq ?_
                  refine .region ?_
                  refine .rd (.lt rfl rfl) ?_
                  refine .nil ?_
                  refine .seq ?_
                  refine .condP rfl (fun h6 => ?_) (fun h6 => ?_)
                  · refine .skip ?_
                    refine .seq ?_
                    refine .block ?_
                    refine .seq ?_
                    have hjl : j < b.recs.length := by omega
                    obtain ⟨r, hr⟩ : ∃ r, b.recs[j]? = some r := ⟨_, List.getElem?_eq_getElem hjl⟩
                    have hrm := List.mem_of_getElem? hr
                    have hk1 := hf.key r hrm
                    have hk2 := hf.value r hrm
                    refine .tell (φ := ∃ b o, a = some ⟨b, o, none⟩) (Knows.pick (.tail .head) (k.mono fun _ h => h.addr (by rw [flat_length Rec.cells_len]; omega))) (fun hx => ?_)
                    obtain ⟨bb, oo, rfl⟩ := hx
                    refine .region ?_
                    refine .rd (.indexAddr Tryz.underlying32 ts65 rfl rfl (by omega) (by omega)) ?_
                    refine .rd (.loadN ia65 ts65 rfl rfl (Knows.elem Rec.cells_len (by decide) (Knows.pick (.tail .head) k) hr)) ?_
                    refine .ef (.alloc ti65 rfl (ones.of rfl)) ?_
                    rintro _ _ ⟨b6, rfl, rfl⟩
                    refine .ef0 (.storeAll (vs := r.cells) ts65 rfl rfl rfl .head rfl (ones.of rfl)) ?_
                    rintro _ _ rfl
                    refine .nil ?_
                    refine .seq ?_
                    refine .seq ?_
                    refine .region ?_
                    refine .rd (.fieldAddr fd65_2 rfl) ?_
                    refine .rd (.ld na3 rfl .head rfl) ?_
                    refine .fn rfl rfl .nil (fun _ _ _ => trivial) (within_ok _ _) (fun v G1 hq => ?_)
                    obtain ⟨rfl, rfl⟩ := hq
                    simp only [List.nil_append]
                    refine .rd (.not rfl) ?_
                    refine .nil ?_
                    refine .condN rfl (fun h8 => ?_) (fun h8 => ?_)
                    · refine .seq ?_
                      refine .region ?_
                      refine .rd (.assign rfl) ?_
                      refine .nil ?_
                      rw [right_time hr (by show ¬ (_ ∧ _); omega)]
                      refine .retP Tryz.func70 (.cons (.tmp rfl) .nil) (.cons (.tail (.tail .head)) .nil) ?_
                      exact ⟨[], ⟨rfl, rfl⟩, rfl⟩
                    · refine .skip ?_
                      refine .region ?_
                      refine .rd (.move rfl) ?_
                      refine .rd (.move rfl) ?_
                      refine .split (t := 66) rfl (fun g10_1 => ?_) (fun g10_1 => ?_)
                      · refine .off (t := 66) rfl rfl rfl ?_
                        refine .off (t := 66) rfl rfl rfl ?_
                        refine .off (t := 66) rfl rfl rfl ?_
                        refine .off (t := 66) rfl rfl rfl ?_
                        refine .rd (.pickT rfl rfl) ?_
                        refine .rd (.move rfl) ?_
                        refine .off (t := 72) rfl rfl rfl ?_
                        refine .off (t := 72) rfl rfl rfl ?_
                        refine .off (t := 72) rfl rfl rfl ?_
                        refine .off (t := 72) rfl rfl rfl ?_
                        refine .rd (.pickT rfl rfl) ?_
                        refine .rd (.assign rfl) ?_
                        refine .nil ?_
                        refine .inBlock ?_
                        refine .region ?_
                        refine .rd (.add rfl rfl (by omega) (by omega)) ?_
                        refine .rd (.move rfl) ?_
                        refine .nil ?_
                        exact (ih (j + 1) ⟨by omega, all_take (p := timely) hr (by show _ ∧ _; omega) hI.2⟩ (by omega)).to (.cons rfl (.cons rfl (.cons rfl (.cons (by rw [any_take hr, g10_1]; rfl) (.cons rfl (.cons rfl (.cons rfl .nil))))))) (.cons (.tail .head) (.cons (.tail .head) .nil))
                      · refine .on (t := 66) rfl rfl ?_
                        refine .rd (.fieldAddr fd65_0 rfl) ?_
                        refine .on (t := 66) rfl rfl ?_
                        refine .rd (.ld na9 rfl .head rfl) ?_
                        refine .on (t := 66) rfl rfl ?_
                        refine .rd (.lenT rfl rfl Tryz.underlying9 rfl) ?_
                        refine .on (t := 66) rfl rfl ?_
                        refine .rd (.gt rfl rfl) ?_
                        refine .rd (.pickF rfl rfl) ?_
                        refine .rd (.move rfl) ?_
                        refine .split (t := 72) rfl (fun g10_7 => ?_) (fun g10_7 => ?_)
                        · replace g10_7 := of_decide_eq_true g10_7
                          refine .off (t := 72) rfl rfl rfl ?_
                          refine .off (t := 72) rfl rfl rfl ?_
                          refine .off (t := 72) rfl rfl rfl ?_
                          refine .off (t := 72) rfl rfl rfl ?_
                          refine .rd (.pickT rfl rfl) ?_
                          refine .rd (.assign rfl) ?_
                          refine .nil ?_
                          refine .inBlock ?_
                          refine .region ?_
                          refine .rd (.add rfl rfl (by omega) (by omega)) ?_
                          refine .rd (.move rfl) ?_
                          refine .nil ?_
                          exact (ih (j + 1) ⟨by omega, all_take (p := timely) hr (by show _ ∧ _; omega) hI.2⟩ (by omega)).to (.cons rfl (.cons rfl (.cons rfl (.cons (by rw [any_take hr, g10_1]; show _ = some (Value.bool (false || long r)); rw [show long r = true from (long_iff r).2 (.inl (by omega))]; rfl) (.cons rfl (.cons rfl (.cons rfl .nil))))))) (.cons (.tail .head) (.cons (.tail .head) .nil))
                        · replace g10_7 := of_decide_eq_false g10_7
                          refine .on (t := 72) rfl rfl ?_
                          refine .rd (.fieldAddr fd65_1 rfl) ?_
                          refine .on (t := 72) rfl rfl ?_
                          refine .rd (.ld na9 rfl .head rfl) ?_
                          refine .on (t := 72) rfl rfl ?_
                          refine .rd (.lenT rfl rfl Tryz.underlying9 rfl) ?_
                          refine .on (t := 72) rfl rfl ?_
                          refine .rd (.gt rfl rfl) ?_
                          refine .rd (.pickF rfl rfl) ?_
                          refine .rd (.assign rfl) ?_
                          refine .nil ?_
                          refine .inBlock ?_
                          refine .region ?_
                          refine .rd (.add rfl rfl (by omega) (by omega)) ?_
                          refine .rd (.move rfl) ?_
                          refine .nil ?_
                          exact (ih (j + 1) ⟨by omega, all_take (p := timely) hr (by show _ ∧ _; omega) hI.2⟩ (by omega)).to (.cons rfl (.cons rfl (.cons rfl (.cons (by rw [any_take hr, g10_1, Bool.false_or, long_r3 (by omega)]; exact congrArg (fun x => some (Value.bool x)) (decide_eq_decide.2 (by omega))) (.cons rfl (.cons rfl (.cons rfl .nil))))))) (.cons (.tail .head) (.cons (.tail .head) .nil))
                  · obtain rfl : j = b.recs.length := by omega
                    have hrt := right_on hno (by have := hI.2; rwa [List.take_length] at this)
                    refine .alter (t := 4) (v' := .bool (b.recs.any long)) rfl (by rw [List.take_length]) ?_
                    refine .exit rfl ?_
                    refine .seq ?_
                    refine .block ?_
                    refine .seq ?_
                    refine .region ?_
                    refine .rd (.move rfl) ?_
                    refine .rd (.gt rfl rfl) ?_
                    refine .rd (.assign rfl) ?_
                    refine .nil ?_
                    refine .condP rfl (fun h12 => ?_) (fun h12 => ?_)
                    · refine .seq ?_
                      refine .region ?_
                      refine .rd (.assign rfl) ?_
                      refine .nil ?_
                      have hv : right b = 3 := by rw [hrt, if_pos (by omega)]
                      rw [hv]
                      refine .retP Tryz.func70 (.cons (.tmp rfl) .nil) (.cons (.tail .head) .nil) ?_
                      exact ⟨[], ⟨rfl, rfl⟩, rfl⟩
                    · refine .seq ?_
                      refine .region ?_
                      refine .rd (.move rfl) ?_
                      refine .rd (.assign rfl) ?_
                      refine .nil ?_
                      refine .cond rfl (fun h14 => ?_) (fun h14 => ?_)
                      · refine .seq ?_
                        refine .region ?_
                        refine .rd (.assign rfl) ?_
                        refine .nil ?_
                        have hv : right b = 2 := by rw [hrt, if_neg (by omega), if_pos h14]
                        rw [hv]
                        refine .retP Tryz.func70 (.cons (.tmp rfl) .nil) (.cons (.tail .head) .nil) ?_
                        exact ⟨[], ⟨rfl, rfl⟩, rfl⟩
                      · have hl14 : ¬ b.recs.any long = true := by rw [h14]; decide
                        refine .seq ?_
                        refine .region ?_
                        refine .rd (.fieldAddr fd27_0 rfl) ?_
                        refine .rd (.ld na3 rfl .head rfl) ?_
                        refine .rd (.move rfl) ?_
                        refine .rd (.sub rfl rfl (by omega) (by omega)) ?_
                        refine .rd (.add rfl rfl (by omega) (by omega)) ?_
                        refine .rd (.gt rfl rfl) ?_
                        refine .rd (.move rfl) ?_
                        refine .split (t := 91) rfl (fun g16_6 => ?_) (fun g16_6 => ?_)
                        · replace g16_6 := of_decide_eq_true g16_6
                          refine .off (t := 91) rfl rfl rfl ?_
                          refine .off (t := 91) rfl rfl rfl ?_
                          refine .off (t := 91) rfl rfl rfl ?_
                          refine .off (t := 91) rfl rfl rfl ?_
                          refine .off (t := 91) rfl rfl rfl ?_
                          refine .off (t := 91) rfl rfl rfl ?_
                          refine .rd (.pickT rfl rfl) ?_
                          refine .rd (.assign rfl) ?_
                          refine .nil ?_
                          refine .condT rfl ?_
                          refine .seq ?_
                          refine .region ?_
                          refine .rd (.assign rfl) ?_
                          refine .nil ?_
                          have hv : right b = 20 := by rw [hrt, if_neg (by omega), if_neg hl14, if_pos (by omega)]
                          rw [hv]
                          refine .retP Tryz.func70 (.cons (.tmp rfl) .nil) (.cons (.tail .head) .nil) ?_
                          exact ⟨[], ⟨rfl, rfl⟩, rfl⟩
                        · replace g16_6 := of_decide_eq_false g16_6
                          refine .on (t := 91) rfl rfl ?_
                          refine .rd (.fieldAddr fd27_4 rfl) ?_
                          refine .on (t := 91) rfl rfl ?_
                          refine .rd (.ld na3 rfl .head rfl) ?_
                          refine .on (t := 91) rfl rfl ?_
                          refine .rd (.move rfl) ?_
                          refine .on (t := 91) rfl rfl ?_
                          refine .rd (.sub rfl rfl (by omega) (by omega)) ?_
                          refine .on (t := 91) rfl rfl ?_
                          refine .rd (.add rfl rfl (by omega) (by omega)) ?_
                          refine .on (t := 91) rfl rfl ?_
                          refine .rd (.gt rfl rfl) ?_
                          refine .rd (.pickF rfl rfl) ?_
                          refine .rd (.assign rfl) ?_
                          refine .nil ?_
                          refine .condP rfl (fun h16 => ?_) (fun h16 => ?_)
                          · refine .seq ?_
                            refine .region ?_
                            refine .rd (.assign rfl) ?_
                            refine .nil ?_
                            have hv : right b = 20 := by rw [hrt, if_neg (by omega), if_neg hl14, if_pos (by omega)]
                            rw [hv]
                            refine .retP Tryz.func70 (.cons (.tmp rfl) .nil) (.cons (.tail .head) .nil) ?_
                            exact ⟨[], ⟨rfl, rfl⟩, rfl⟩
                          · refine .seq ?_
                            refine .region ?_
                            refine .rd (.ldN ia27 ts27 rfl .head rfl) ?_
                            refine .fn rfl rfl .nil (Knows.pick (.tail .head) k) (body_ok b a c hf (small_of (by omega) hl14)) (fun v G1 hq => ?_)
                            obtain ⟨a', c', rfl, rfl⟩ := hq
                            simp only [List.cons_append, List.nil_append]
                            refine .rd (.lenL rfl rfl Tryz.underlying110 rfl) ?_
                            refine .rd (.gt rfl rfl) ?_
                            refine .rd (.assign rfl) ?_
                            refine .nil ?_
                            refine .condP rfl (fun h18 => ?_) (fun h18 => ?_)
                            · refine .seq ?_
                              refine .region ?_
                              refine .rd (.assign rfl) ?_
                              refine .nil ?_
                              have hv : right b = 2 := by rw [hrt, if_neg (by omega), if_neg hl14, if_neg (by omega), if_pos (by omega)]
                              rw [hv]
                              refine .retP Tryz.func70 (.cons (.tmp rfl) .nil) (.cons (.tail (.tail .head)) .nil) ?_
                              exact ⟨[], ⟨rfl, rfl⟩, rfl⟩
                            · refine .skip ?_
                              refine .inBlock ?_
                              refine .seq ?_
                              refine .region ?_
                              refine .rd (.assign rfl) ?_
                              refine .nil ?_
                              have hv : right b = 0 := by rw [hrt, if_neg (by omega), if_neg hl14, if_neg (by omega), if_neg (by omega)]
                              rw [hv]
                              refine .retP Tryz.func70 (.cons (.tmp rfl) .nil) (.cons (.tail (.tail .head)) .nil) ?_
                              exact ⟨[], ⟨rfl, rfl⟩, rfl⟩
            · replace g2_31 := of_decide_eq_false g2_31
              refine .off (t := 41) rfl rfl rfl ?_
              refine .off (t := 41) rfl rfl rfl ?_
              refine .off (t := 41) rfl rfl rfl ?_
              refine .off (t := 41) rfl rfl rfl ?_
              refine .off (t := 41) rfl rfl rfl ?_
              refine .off (t := 41) rfl rfl rfl ?_
              refine .on (t := 37) rfl rfl ?_
              refine .rd (.pickF rfl rfl) ?_
              refine .rd (.pickF rfl rfl) ?_
              refine .rd (.move rfl) ?_
              refine .on (t := 50) rfl rfl ?_
              refine .rd (.move rfl) ?_
              refine .on (t := 50) rfl rfl ?_
              refine .rd (.eqI rfl rfl) ?_
              refine .rd (.pickF rfl rfl) ?_
              refine .nil ?_
              refine .condP rfl (fun h2 => ?_) (fun h2 => ?_)
              · refine .seq ?_
                refine .region ?_
                refine .rd (.assign rfl) ?_
                refine .nil ?_
                have hq : b.off := by unfold Bat.off; omega
                rw [right_off hq]
                refine .retP Tryz.func70 (.cons (.tmp rfl) .nil) (.cons (.tail .head) .nil) ?_
                exact ⟨[], ⟨rfl, rfl⟩, rfl⟩
              · have hno : ¬ b.off := by unfold Bat.off; omega
                refine .skip ?_
                refine .seq ?_
                refine .region ?_
                refine .rd (.assign rfl) ?_
                refine .nil ?_
                refine .seq ?_
                refine .seq ?_
                refine .region ?_
                refine .rd (.fieldAddr fd27_5 rfl) ?_
                refine .rd (.ld na25 rfl .head rfl) ?_
                refine .rd (.lenL rfl rfl Tryz.underlying32 rfl) ?_
                refine .rd (.move rfl) ?_
                refine .nil ?_
                refine .block ?_
                refine .loop (σ := Nat) (fun j => j ≤ b.recs.length ∧ ∀ r ∈ b.recs.take j, timely r) (fun j => b.recs.length - j) (fun j => [(1, .pointer (some ⟨b1, 0, none⟩)), (2, .int .i64 0), (3, .int .i64 b.recs.length), (4, .bool ((b.recs.take j).any long)), (55, .slice a b.recs.length c), (56, .int .i64 b.recs.length), (57, .int .i64 (j : Nat))]) (fun j => [blk b1 (b.cells a c) 34, R]) 0 ⟨Nat.zero_le _, by simp⟩ (.cons rfl (.cons rfl (.cons rfl (.cons rfl (.cons rfl (.cons rfl (.cons rfl .nil))))))) (.cons .head (.cons .head .nil)) (fun j hI ih => ?_)
                have hj := hI.1
                refine .seq ?_
                refine .region ?_
                refine .rd (.lt rfl rfl) ?_
                refine .nil ?_
                refine .seq ?_
                refine .condP rfl (fun h6 => ?_) (fun h6 => ?_)
                · refine .skip ?_
                  refine .seq ?_
                  refine .block ?_
                  refine .seq ?_
                  have hjl : j < b.recs.length := by omega
                  obtain ⟨r, hr⟩ : ∃ r, b.recs[j]? = some r := ⟨_, List.getElem?_eq_getElem hjl⟩
                  have hrm := List.mem_of_getElem? hr
                  have hk1 := hf.key r hrm
                  have hk2 := hf.value r hrm
                  refine .tell (φ := ∃ b o, a = some ⟨b, o, none⟩) (Knows.pick (.tail .head) (k.mono fun _ h => h.addr (by rw [flat_length Rec.cells_len]; omega))) (fun hx => ?_)
                  obtain ⟨bb, oo, rfl⟩ := hx
                  refine .region ?_
                  refine .rd (.indexAddr Tryz.underlying32 ts65 rfl rfl (by omega) (by omega)) ?_
                  refine .rd (.loadN ia65 ts65 rfl rfl (Knows.elem Rec.cells_len (by decide) (Knows.pick (.tail .head) k) hr)) ?_
                  refine .ef (.alloc ti65 rfl (ones.of rfl)) ?_
                  rintro _ _ ⟨b6, rfl, rfl⟩
                  refine .ef0 (.storeAll (vs := r.cells) ts65 rfl rfl rfl .head rfl (ones.of rfl)) ?_
                  rintro _ _ rfl
                  refine .nil ?_
                  refine .seq ?_
                  refine .seq ?_
                  refine .region ?_
                  refine .rd (.fieldAddr fd65_2 rfl) ?_
                  refine .rd (.ld na3 rfl .head rfl) ?_
                  refine .fn rfl rfl .nil (fun _ _ _ => trivial) (within_ok _ _) (fun v G1 hq => ?_)
                  obtain ⟨rfl, rfl⟩ := hq
                  simp only [List.nil_append]
                  refine .rd (.not rfl) ?_
                  refine .nil ?_
                  refine .condN rfl (fun h8 => ?_) (fun h8 => ?_)
                  · refine .seq ?_
                    refine .region ?_
                    refine .rd (.assign rfl) ?_
                    refine .nil ?_
                    rw [right_time hr (by show ¬ (_ ∧ _); omega)]
                    refine .retP Tryz.func70 (.cons (.tmp rfl) .nil) (.cons (.tail (.tail .head)) .nil) ?_
                    exact ⟨[], ⟨rfl, rfl⟩, rfl⟩
                  · refine .skip ?_
                    refine .region ?_
                    refine .rd (.move rfl) ?_
                    refine .rd (.move rfl) ?_
                    refine .split (t := 66) rfl (fun g10_1 => ?_) (fun g10_1 => ?_)
                    · refine .off (t := 66) rfl rfl rfl ?_
                      refine .off (t := 66) rfl rfl rfl ?_
                      refine .off (t := 66) rfl rfl rfl ?_
                      refine .off (t := 66) rfl rfl rfl ?_
                      refine .rd (.pickT rfl rfl) ?_
                      refine .rd (.move rfl) ?_
                      refine .off (t := 72) rfl rfl rfl ?_
                      refine .off (t := 72) rfl rfl rfl ?_
                      refine .off (t := 72) rfl rfl rfl ?_
                      refine .off (t := 72) rfl rfl rfl ?_
                      refine .rd (.pickT rfl rfl) ?_
                      refine .rd (.assign rfl) ?_
                      refine .nil ?_
                      refine .inBlock ?_
                      refine .region ?_
                      refine .rd (.add rfl rfl (by omega) (by omega)) ?_
                      refine .rd (.move rfl) ?_
                      refine .nil ?_
                      exact (ih (j + 1) ⟨by omega, all_take (p := timely) hr (by show _ ∧ _; omega) hI.2⟩ (by omega)).to (.cons rfl (.cons rfl (.cons rfl (.cons (by rw [any_take hr, g10_1]; rfl) (.cons rfl (.cons rfl (.cons rfl .nil))))))) (.cons (.tail .head) (.cons (.tail .head) .nil))
                    · refine .on (t := 66) rfl rfl ?_
                      refine .rd (.fieldAddr fd65_0 rfl) ?_
                      refine .on (t := 66) rfl rfl ?_
                      refine .rd (.ld na9 rfl .head rfl) ?_
                      refine .on (t := 66) rfl rfl ?_
                      refine .rd (.lenT rfl rfl Tryz.underlying9 rfl) ?_
                      refine .on (t := 66) rfl rfl ?_
                      refine .rd (.gt rfl rfl) ?_
                      refine .rd (.pickF rfl rfl) ?_
                      refine .rd (.move rfl) ?_
                      refine .split (t := 72) rfl (fun g10_7 => ?_) (fun g10_7 => ?_)
                      · replace g10_7 := of_decide_eq_true g10_7
                        refine .off (t := 72) rfl rfl rfl ?_
                        refine .off (t := 72) rfl rfl rfl ?_
                        refine .off (t := 72) rfl rfl rfl ?_
                        refine .off (t := 72) rfl rfl rfl ?_
                        refine .rd (.pickT rfl rfl) ?_
                        refine .rd (.assign rfl) ?_
                        refine .nil ?_
                        refine .inBlock ?_
                        refine .region ?_
                        refine .rd (.add rfl rfl (by omega) (by omega)) ?_
                        refine .rd (.move rfl) ?_
                        refine .nil ?_
                        exact (ih (j + 1) ⟨by omega, all_take (p := timely) hr (by show _ ∧ _; omega) hI.2⟩ (by omega)).to (.cons rfl (.cons rfl (.cons rfl (.cons (by rw [any_take hr, g10_1]; show _ = some (Value.bool (false || long r)); rw [show long r = true from (long_iff r).2 (.inl (by omega))]; rfl) (.cons rfl (.cons rfl (.cons rfl .nil))))))) (.cons (.tail .head) (.cons (.tail .head) .nil))
                      · replace g10_7 := of_decide_eq_false g10_7
                        refine .on (t := 72) rfl rfl ?_
                        refine .rd (.fieldAddr fd65_1 rfl) ?_
                        refine .on (t := 72) rfl rfl ?_
                        refine .rd (.ld na9 rfl .head rfl) ?_
                        refine .on (t := 72) rfl rfl ?_
                        refine .rd (.lenT rfl rfl Tryz.underlying9 rfl) ?_
                        refine .on (t := 72) rfl rfl ?_
                        refine .rd (.gt rfl rfl) ?_
                        refine .rd (.pickF rfl rfl) ?_
                        refine .rd (.assign rfl) ?_
                        refine .nil ?_
                        refine .inBlock ?_
                        refine .region ?_
                        refine .rd (.add rfl rfl (by omega) (by omega)) ?_
                        refine .rd (.move rfl) ?_
                        refine .nil ?_
                        exact (ih (j + 1) ⟨by omega, all_take (p := timely) hr (by show _ ∧ _; omega) hI.2⟩ (by omega)).to (.cons rfl (.cons rfl (.cons rfl (.cons (by rw [any_take hr, g10_1, Bool.false_or, long_r3 (by omega)]; exact congrArg (fun x => some (Value.bool x)) (decide_eq_decide.2 (by omega))) (.cons rfl (.cons rfl (.cons rfl .nil))))))) (.cons (.tail .head) (.cons (.tail .head) .nil))
                · obtain rfl : j = b.recs.length := by omega
                  have hrt := right_on hno (by have := hI.2; rwa [List.take_length] at this)
                  refine .alter (t := 4) (v' := .bool (b.recs.any long)) rfl (by rw [List.take_length]) ?_
                  refine .exit rfl ?_
                  refine .seq ?_
                  refine .block ?_
                  refine .seq ?_
                  refine .region ?_
                  refine .rd (.move rfl) ?_
                  refine .rd (.gt rfl rfl) ?_
                  refine .rd (.assign rfl) ?_
                  refine .nil ?_
                  refine .condP rfl (fun h12 => ?_) (fun h12 => ?_)
                  · refine .seq ?_
                    refine .region ?_
                    refine .rd (.assign rfl) ?_
                    refine .nil ?_
                    have hv : right b = 3 := by rw [hrt, if_pos (by omega)]
                    rw [hv]
                    refine .retP Tryz.func70 (.cons (.tmp rfl) .nil) (.cons (.tail .head) .nil) ?_
                    exact ⟨[], ⟨rfl, rfl⟩, rfl⟩
                  · refine .seq ?_
                    refine .region ?_
                    refine .rd (.move rfl) ?_
                    refine .rd (.assign rfl) ?_
                    refine .nil ?_
                    refine .cond rfl (fun h14 => ?_) (fun h14 => ?_)
                    · refine .seq ?_
                      refine .region ?_
                      refine .rd (.assign rfl) ?_
                      refine .nil ?_
                      have hv : right b = 2 := by rw [hrt, if_neg (by omega), if_pos h14]
                      rw [hv]
                      refine .retP Tryz.func70 (.cons (.tmp rfl) .nil) (.cons (.tail .head) .nil) ?_
                      exact ⟨[], ⟨rfl, rfl⟩, rfl⟩
                    · have hl14 : ¬ b.recs.any long = true := by rw [h14]; decide
                      refine .seq ?_
                      refine .region ?_
                      refine .rd (.fieldAddr fd27_0 rfl) ?_
                      refine .rd (.ld na3 rfl .head rfl) ?_
                      refine .rd (.move rfl) ?_
                      refine .rd (.sub rfl rfl (by omega) (by omega)) ?_
                      refine .rd (.add rfl rfl (by omega) (by omega)) ?_
                      refine .rd (.gt rfl rfl) ?_
                      refine .rd (.move rfl) ?_
                      refine .split (t := 91) rfl (fun g16_6 => ?_) (fun g16_6 => ?_)
                      · replace g16_6 := of_decide_eq_true g16_6
                        refine .off (t := 91) rfl rfl rfl ?_
                        refine .off (t := 91) rfl rfl rfl ?_
                        refine .off (t := 91) rfl rfl rfl ?_
                        refine .off (t := 91) rfl rfl rfl ?_
                        refine .off (t := 91) rfl rfl rfl ?_
                        refine .off (t := 91) rfl rfl rfl ?_
                        refine .rd (.pickT rfl rfl) ?_
                        refine .rd (.assign rfl) ?_
                        refine .nil ?_
                        refine .condT rfl ?_
                        refine .seq ?_
                        refine .region ?_
                        refine .rd (.assign rfl) ?_
                        refine .nil ?_
                        have hv : right b = 20 := by rw [hrt, if_neg (by omega), if_neg hl14, if_pos (by omega)]
                        rw [hv]
                        refine .retP Tryz.func70 (.cons (.tmp rfl) .nil) (.cons (.tail .head) .nil) ?_
                        exact ⟨[], ⟨rfl, rfl⟩, rfl⟩
                      · replace g16_6 := of_decide_eq_false g16_6
                        refine .on (t := 91) rfl rfl ?_
                        refine .rd (.fieldAddr fd27_4 rfl) ?_
                        refine .on (t := 91) rfl rfl ?_
                        refine .rd (.ld na3 rfl .head rfl) ?_
                        refine .on (t := 91) rfl rfl ?_
                        refine .rd (.move rfl) ?_
                        refine .on (t := 91) rfl rfl ?_
                        refine .rd (.sub rfl rfl (by omega) (by omega)) ?_
                        refine .on (t := 91) rfl rfl ?_
                        refine .rd (.add rfl rfl (by omega) (by omega)) ?_
                        refine .on (t := 91) rfl rfl ?_
                        refine .rd (.gt rfl rfl) ?_
                        refine .rd (.pickF rfl rfl) ?_
                        refine .rd (.assign rfl) ?_
                        refine .nil ?_
                        refine .condP rfl (fun h16 => ?_) (fun h16 => ?_)
                        · refine .seq ?_
                          refine .region ?_
                          refine .rd (.assign rfl) ?_
                          refine .nil ?_
                          have hv : right b = 20 := by rw [hrt, if_neg (by omega), if_neg hl14, if_pos (by omega)]
                          rw [hv]
                          refine .retP Tryz.func70 (.cons (.tmp rfl) .nil) (.cons (.tail .head) .nil) ?_
                          exact ⟨[], ⟨rfl, rfl⟩, rfl⟩
                        · refine .seq ?_
                          refine .region ?_
                          refine .rd (.ldN ia27 ts27 rfl .head rfl) ?_
                          refine .fn rfl rfl .nil (Knows.pick (.tail .head) k) (body_ok b a c hf (small_of (by omega) hl14)) (fun v G1 hq => ?_)
                          obtain ⟨a', c', rfl, rfl⟩ := hq
                          simp only [List.cons_append, List.nil_append]
                          refine .rd (.lenL rfl rfl Tryz.underlying110 rfl) ?_
                          refine .rd (.gt rfl rfl) ?_
                          refine .rd (.assign rfl) ?_
                          refine .nil ?_
                          refine .condP rfl (fun h18 => ?_) (fun h18 => ?_)
                          · refine .seq ?_
                            refine .region ?_
                            refine .rd (.assign rfl) ?_
                            refine .nil ?_
                            have hv : right b = 2 := by rw [hrt, if_neg (by omega), if_neg hl14, if_neg (by omega), if_pos (by omega)]
                            rw [hv]
                            refine .retP Tryz.func70 (.cons (.tmp rfl) .nil) (.cons (.tail (.tail .head)) .nil) ?_
                            exact ⟨[], ⟨rfl, rfl⟩, rfl⟩
                          · refine .skip ?_
                            refine .inBlock ?_
                            refine .seq ?_
                            refine .region ?_
                            refine .rd (.assign rfl) ?_
                            refine .nil ?_
                            have hv : right b = 0 := by rw [hrt, if_neg (by omega), if_neg hl14, if_neg (by omega), if_neg (by omega)]
                            rw [hv]
                            refine .retP Tryz.func70 (.cons (.tmp rfl) .nil) (.cons (.tail (.tail .head)) .nil) ?_
                            exact ⟨[], ⟨rfl, rfl⟩, rfl⟩

end Go.Proofs.YtglhoenjflpibaaGreatDoor


/- Chapter 6: texts of chapter 3 (wire) under this seat's numbers. -/
namespace Go.Proofs.YtglhoenjflpibaaGreatDoor
open Go Go.Sp

set_option linter.unusedVariables false

namespace wire13
theorem ia27 : IsAgg Tryz.prog 34 := ⟨_, Tryz.underlying34, trivial⟩
theorem ts27 : TS Tryz.prog 34 6 := .of (by kernel_rfl)
theorem ti5 : TI Tryz.prog 5 1 1 (.int .u8 0) := .of (by kernel_rfl)
end wire13
open wire13

theorem or_add {x y : Nat} (k a : Nat) (hx : x = a * 2 ^ k) (hy : y < 2 ^ k) (h : x + y < 9223372036854775808) : IntKind.i64.wrap ((BitVec.ofInt 64 (x : Int) ||| BitVec.ofInt 64 (y : Int)).toNat : Int) = ((x + y : Nat) : Int) := by
  rw [BitVec.toNat_or, toNat_ofInt64, toNat_ofInt64]
  have e2 : ((x : Int) % 18446744073709551616).toNat = x := by omega
  have e3 : ((y : Int) % 18446744073709551616).toNat = y := by omega
  have := Nat.shiftLeft_add_eq_or_of_lt hy a
  rw [Nat.shiftLeft_eq, ← hx] at this
  rw [e2, e3, ← this, wrap_i64 (by omega) (by omega)]
theorem shl_is (x k : Nat) (hk : k ≤ 64) (h : x * 2 ^ k < 9223372036854775808) : IntKind.i64.wrap ((x : Int) * 2 ^ (min k IntKind.i64.bits)) = ((x * 2 ^ k : Nat) : Int) := by
  rw [show IntKind.i64.bits = 64 from rfl, Nat.min_eq_left hk]
  have e : ((x : Int) * 2 ^ k) = ((x * 2 ^ k : Nat) : Int) := by push_cast; rfl
  rw [e, wrap_i64 (by omega) (by omega)]

set_option maxRecDepth 20000 in
theorem four_ok (l : List UInt8) (h4 : 4 ≤ l.length) : Cn Tryz.prog 101 [.string (str l)] (fun _ => True) [] fun v G => v = .int .i64 (four l : Int) ∧ G = [] := by
  refine .enter Tryz.func101 rfl (by kernel_rfl) rfl fun R k => ?_
  obtain ⟨b0, b1, b2, b3, t, rfl⟩ : ∃ b0 b1 b2 b3 t, l = b0 :: b1 :: b2 :: b3 :: t := by
    match l, h4 with
    | b0 :: b1 :: b2 :: b3 :: t, _ => exact ⟨b0, b1, b2, b3, t, rfl⟩
  have h0 := b0.toNat_lt; have h1 := b1.toNat_lt; have h2 := b2.toNat_lt; have h3 := b3.toNat_lt
  refine .seq ?_
  refine .region ?_
  refine .rd (.assign rfl) ?_
  refine .nil ?_
  refine .seq ?_
  refine .draws [2, 6, 11, 16] [] (by kernel_rfl) ?_
  refine .rp 0 rfl (by kernel_rfl) (by kernel_rfl) (by kernel_rfl) (Reads.pure (.move rfl)) ?_
  refine .rp 1 rfl (by kernel_rfl) (by kernel_rfl) (by kernel_rfl) (Reads.pure (.indexT Tryz.underlying9 rfl rfl (by decide) rfl)) ?_
  refine .rd 2 rfl rfl (by kernel_rfl) (by kernel_rfl) (by kernel_rfl) (.convInt Tryz.underlying5 Tryz.underlying3 rfl) .nil ?_
  refine .alter (t := 5) (v' := .int .i64 ((b0.toNat : Nat) : Int)) rfl (by rw [wrap_i64 (by omega) (by omega)]) ?_
  refine .rp 3 rfl (by kernel_rfl) (by kernel_rfl) (by kernel_rfl) (Reads.pure (.shl (n := 24) rfl rfl)) ?_
  refine .alter (t := 6) (v' := .int .i64 ((b0.toNat * 2 ^ 24 : Nat) : Int)) rfl (by rw [shl_is _ 24 (by decide) (by omega)]) ?_
  refine .rp 4 rfl (by kernel_rfl) (by kernel_rfl) (by kernel_rfl) (Reads.pure (.move rfl)) ?_
  refine .rp 5 rfl (by kernel_rfl) (by kernel_rfl) (by kernel_rfl) (Reads.pure (.indexT Tryz.underlying9 rfl rfl (by decide) rfl)) ?_
  refine .rd 6 rfl rfl (by kernel_rfl) (by kernel_rfl) (by kernel_rfl) (.convInt Tryz.underlying5 Tryz.underlying3 rfl) .nil ?_
  refine .alter (t := 9) (v' := .int .i64 ((b1.toNat : Nat) : Int)) rfl (by rw [wrap_i64 (by omega) (by omega)]) ?_
  refine .rp 7 rfl (by kernel_rfl) (by kernel_rfl) (by kernel_rfl) (Reads.pure (.shl (n := 16) rfl rfl)) ?_
  refine .alter (t := 10) (v' := .int .i64 ((b1.toNat * 2 ^ 16 : Nat) : Int)) rfl (by rw [shl_is _ 16 (by decide) (by omega)]) ?_
  refine .rp 8 rfl (by kernel_rfl) (by kernel_rfl) (by kernel_rfl) (Reads.pure (.or rfl rfl)) ?_
  refine .alter (t := 11) (v' := .int .i64 ((b0.toNat * 2 ^ 24 + b1.toNat * 2 ^ 16 : Nat) : Int)) rfl (congrArg (Value.int .i64) (or_add 24 (b0.toNat) (by omega) (by omega) (by omega))) ?_
  refine .rp 9 rfl (by kernel_rfl) (by kernel_rfl) (by kernel_rfl) (Reads.pure (.move rfl)) ?_
  refine .rp 10 rfl (by kernel_rfl) (by kernel_rfl) (by kernel_rfl) (Reads.pure (.indexT Tryz.underlying9 rfl rfl (by decide) rfl)) ?_
  refine .rd 11 rfl rfl (by kernel_rfl) (by kernel_rfl) (by kernel_rfl) (.convInt Tryz.underlying5 Tryz.underlying3 rfl) .nil ?_
  refine .alter (t := 14) (v' := .int .i64 ((b2.toNat : Nat) : Int)) rfl (by rw [wrap_i64 (by omega) (by omega)]) ?_
  refine .rp 12 rfl (by kernel_rfl) (by kernel_rfl) (by kernel_rfl) (Reads.pure (.shl (n := 8) rfl rfl)) ?_
  refine .alter (t := 15) (v' := .int .i64 ((b2.toNat * 2 ^ 8 : Nat) : Int)) rfl (by rw [shl_is _ 8 (by decide) (by omega)]) ?_
  refine .rp 13 rfl (by kernel_rfl) (by kernel_rfl) (by kernel_rfl) (Reads.pure (.or rfl rfl)) ?_
  refine .alter (t := 16) (v' := .int .i64 ((b0.toNat * 2 ^ 24 + b1.toNat * 2 ^ 16 + b2.toNat * 2 ^ 8 : Nat) : Int)) rfl (congrArg (Value.int .i64) (or_add 16 (b0.toNat * 2 ^ 8 + b1.toNat) (by omega) (by omega) (by omega))) ?_
  refine .rp 14 rfl (by kernel_rfl) (by kernel_rfl) (by kernel_rfl) (Reads.pure (.move rfl)) ?_
  refine .rp 15 rfl (by kernel_rfl) (by kernel_rfl) (by kernel_rfl) (Reads.pure (.indexT Tryz.underlying9 rfl rfl (by decide) rfl)) ?_
  refine .rd 16 rfl rfl (by kernel_rfl) (by kernel_rfl) (by kernel_rfl) (.convInt Tryz.underlying5 Tryz.underlying3 rfl) .nil ?_
  refine .alter (t := 19) (v' := .int .i64 ((b3.toNat : Nat) : Int)) rfl (by rw [wrap_i64 (by omega) (by omega)]) ?_
  refine .rp 17 rfl (by kernel_rfl) (by kernel_rfl) (by kernel_rfl) (Reads.pure (.or rfl rfl)) ?_
  refine .alter (t := 20) (v' := .int .i64 ((b0.toNat * 2 ^ 24 + b1.toNat * 2 ^ 16 + b2.toNat * 2 ^ 8 + b3.toNat : Nat) : Int)) rfl (congrArg (Value.int .i64) (or_add 8 (b0.toNat * 2 ^ 16 + b1.toNat * 2 ^ 8 + b2.toNat) (by omega) (by omega) (by omega))) ?_
  refine .rp 18 rfl (by kernel_rfl) (by kernel_rfl) (by kernel_rfl) (Reads.pure (.assign rfl)) ?_
  refine .done (by kernel_rfl) ?_
  refine .retP Tryz.func101 (.cons (.tmp rfl) .nil) (.cons .head .nil) ?_
  exact ⟨[], ⟨rfl, rfl⟩, rfl⟩

set_option maxRecDepth 20000 in
theorem Batch_ok (b : Bat) (a : Option Addr) (c : Nat) (hf : b.fits) : Cn Tryz.prog 38 [.agg (b.cells a c).toArray] (RowAt a (b.recs.flatMap Rec.cells)) [] fun v G => v = .tuple #[.string (str (wbatch b).1), .int .i64 (wbatch b).2] ∧ G = [] := by
  refine .enter Tryz.func38 rfl (by kernel_rfl) rfl fun R k => ?_
  refine .seq ?_
  refine .region ?_
  refine .ef (.box (l := b.cells a c) rfl rfl (ones.of rfl)) ?_
  rintro _ _ ⟨b1, rfl, rfl⟩
  refine .rd (.assign rfl) ?_
  refine .rd (.assign rfl) ?_
  refine .nil ?_
  refine .seq ?_
  refine .seq ?_
  refine .region ?_
  refine .rd (.ldN ia27 ts27 rfl .head rfl) ?_
  refine .fn rfl rfl .nil (Knows.pick (.tail .head) k) (Right_ok b a c hf) (fun v G1 hq => ?_)
  obtain ⟨rfl, rfl⟩ := hq
  simp only [List.nil_append]
  refine .rd (.assign rfl) ?_
  refine .nil ?_
  refine .seq ?_
  refine .region ?_
  refine .rd (.move rfl) ?_
  refine .rd (.neI rfl rfl) ?_
  refine .nil ?_
  refine .condN rfl (fun h2 => ?_) (fun h2 => ?_)
  · refine .seq ?_
    refine .region ?_
    refine .rd (.move rfl) ?_
    refine .rd (.assign rfl) ?_
    refine .rd (.assign rfl) ?_
    refine .nil ?_
    rw [wbatch_no h2]
    refine .retP Tryz.func38 (.cons (.tmp rfl) (.cons (.tmp rfl) .nil)) (.cons (.tail .head) .nil) ?_
    exact ⟨[], ⟨rfl, rfl⟩, rfl⟩
  · have h2 : right b = 0 := by omega
    obtain ⟨hs, hbl⟩ := right_zero h2
    rw [wbatch_yes h2]
    refine .skip ?_
    refine .seq ?_
    refine .region ?_
    refine .rd (.ldN ia27 ts27 rfl .head rfl) ?_
    refine .fn rfl rfl .nil (Knows.pick (.tail .head) k) (body_ok b a c hf hs) (fun v G1 hq => ?_)
    obtain ⟨a', c', rfl, rfl⟩ := hq
    simp only [List.cons_append, List.nil_append]
    refine .rd (.assign rfl) ?_
    refine .nil ?_
    refine .seq ?_
    refine .nilArr 5 1 none ?_
    refine .draws [4] [arr 5 1 a' c' (bcs (body b))] (by kernel_rfl) ?_
    refine .rp 0 rfl (by kernel_rfl) (by kernel_rfl) (by kernel_rfl) (Reads.pure (.move rfl)) ?_
    refine .rp 1 rfl (by kernel_rfl) (by kernel_rfl) (by kernel_rfl) (Reads.pure (.lenL rfl rfl Tryz.underlying110 rfl)) ?_
    refine .rp 3 rfl (by kernel_rfl) (by kernel_rfl) (by kernel_rfl) (Reads.pure (.move rfl)) ?_
    refine .rd 4 rfl rfl (by kernel_rfl) (by kernel_rfl) (by kernel_rfl) (.bytesToStr (l := body b) Tryz.underlying110 Tryz.underlying5 Tryz.underlying9 rfl rfl (Knows.arr .head)) (.cons (.tail .head) .nil) ?_
    refine .rp 7 rfl (by kernel_rfl) (by kernel_rfl) (by kernel_rfl) (Reads.pure (.move rfl)) ?_
    refine .ef 2 (by kernel_rfl) rfl (.fn rfl rfl (.cons .head .nil) (fun _ _ _ => trivial) (appendFour_ok none 0 [] (body b).length (by decide))) ?_
    rintro v _ ⟨G1, hq, rfl⟩
    obtain ⟨a1, c1, rfl, rfl⟩ := hq
    simp only [List.cons_append, List.nil_append]
    refine ⟨.inr ⟨_, (.cons (.tail .head) .nil)⟩, ?_⟩
    refine .ef 5 (by kernel_rfl) rfl (.fn rfl rfl .nil (fun _ _ _ => trivial) (Crc_ok (body b) (by omega))) ?_
    rintro v _ ⟨G1, hq, rfl⟩
    obtain ⟨rfl, rfl⟩ := hq
    simp only [List.nil_append]
    refine ⟨.inl (by kernel_rfl), ?_⟩
    refine .ef 6 (by kernel_rfl) rfl (.fn rfl rfl (.cons .head .nil) (fun _ _ _ => trivial) (appendFour_ok a1 c1 (fours (body b).length) (crc (body b)).toNat (by rw [fours_len]; decide))) ?_
    rintro v _ ⟨G1, hq, rfl⟩
    obtain ⟨a2, c2, rfl, rfl⟩ := hq
    simp only [List.cons_append, List.nil_append]
    refine ⟨.inl (by kernel_rfl), ?_⟩
    refine .ef 8 (by kernel_rfl) rfl (.append rfl rfl Tryz.underlying110 ti5 rfl (ones.of rfl) (by decide) (by decide) rfl rfl .head (n := (fours (body b).length ++ fours (crc (body b)).toNat).length) (m := (body b).length) (by rw [bcs_len, Nat.mul_one]) (.srcRow (Knows.arr (.tail .head)) Tryz.underlying110 (by rw [bcs_len, Nat.mul_one]) (by decide)) (by rw [List.length_append, fours_len, fours_len]; omega)) ?_
    rintro _ _ ⟨ra, rc, rfl, rn, rfl⟩
    rw [← bcs_append]
    refine ⟨.inl (by kernel_rfl), ?_⟩
    refine .rs (Δ := []) 9 (by kernel_rfl) rfl (.bytesToStr (l := (fours (body b).length ++ fours (crc (body b)).toNat) ++ body b) Tryz.underlying110 Tryz.underlying5 Tryz.underlying9 rfl (by simp only [List.length_append]) (Knows.arr .head)) (.inl (by kernel_rfl)) ?_
    refine .rp 10 rfl (by kernel_rfl) (by kernel_rfl) (by kernel_rfl) (Reads.pure (.assign rfl)) ?_
    refine .rp 11 rfl (by kernel_rfl) (by kernel_rfl) (by kernel_rfl) (Reads.pure (.assign rfl)) ?_
    refine .done (by kernel_rfl) ?_
    refine .retP Tryz.func38 (.cons (.tmp rfl) (.cons (.tmp rfl) .nil)) (.cons (.tail (.tail (.tail .head))) .nil) ?_
    exact ⟨[], ⟨rfl, rfl⟩, rfl⟩

end Go.Proofs.YtglhoenjflpibaaGreatDoor


/- Chapter 6: texts of chapter 3 (wire) under this seat's numbers. -/
namespace Go.Proofs.YtglhoenjflpibaaGreatDoor
open Go Go.Sp

set_option linter.unusedVariables false

namespace wire14
theorem ti27 : TI Tryz.prog 34 6 64 (.agg #[.int .i64 0, .int .i64 0, .int .i64 0, .int .i64 0, .int .i64 0, .slice none 0 0]) := .of (by kernel_rfl)
theorem bld27_  (w : World) : (Instr.build 34 (([] : List Nat).zip []).toArray).run Tryz.prog w = .ok (.agg #[.int .i64 0, .int .i64 0, .int .i64 0, .int .i64 0, .int .i64 0, .slice none 0 0]) w := by kernel_rfl
theorem ts27 : TS Tryz.prog 34 6 := .of (by kernel_rfl)
theorem ia27 : IsAgg Tryz.prog 34 := ⟨_, Tryz.underlying34, trivial⟩
theorem bld72_0_1 (x0 : ByteArray) (x1 : Bool) (w : World) : (Instr.build 137 (([0, 1] : List Nat).zip [.string x0, .bool x1]).toArray).run Tryz.prog w = .ok (.agg #[.string x0, .bool x1]) w := by kernel_rfl
theorem fd27_0 : FD Tryz.prog 34 0 0 := .of Tryz.underlying34 (by kernel_rfl)
theorem fd27_1 : FD Tryz.prog 34 1 1 := .of Tryz.underlying34 (by kernel_rfl)
theorem fd27_2 : FD Tryz.prog 34 2 2 := .of Tryz.underlying34 (by kernel_rfl)
theorem fd27_3 : FD Tryz.prog 34 3 3 := .of Tryz.underlying34 (by kernel_rfl)
theorem fd27_4 : FD Tryz.prog 34 4 4 := .of Tryz.underlying34 (by kernel_rfl)
theorem bld74_0_1_2_3_4 (x0 : Option Addr) (x1 : Option Addr) (x2 : Option Addr) (x3 : Option Addr) (x4 : Option Addr) (w : World) : (Instr.build 139 (([0, 1, 2, 3, 4] : List Nat).zip [.pointer x0, .pointer x1, .pointer x2, .pointer x3, .pointer x4]).toArray).run Tryz.prog w = .ok (.agg #[.pointer x0, .pointer x1, .pointer x2, .pointer x3, .pointer x4]) w := by kernel_rfl
theorem na73 : NotAgg Tryz.prog 138 := ⟨_, Tryz.underlying138, trivial⟩
theorem ts73 : TS Tryz.prog 138 1 := .of (by kernel_rfl)
theorem ts3 : TS Tryz.prog 3 1 := .of (by kernel_rfl)
theorem fd72_1 : FD Tryz.prog 137 1 1 := .of Tryz.underlying137 (by kernel_rfl)
theorem na4 : NotAgg Tryz.prog 4 := ⟨_, Tryz.underlying4, trivial⟩
theorem fd27_5 : FD Tryz.prog 34 5 5 := .of Tryz.underlying34 (by kernel_rfl)
theorem na25 : NotAgg Tryz.prog 32 := ⟨_, Tryz.underlying32, trivial⟩
theorem bld65_2 (x0 : Int) (w : World) : (Instr.build 66 (([2] : List Nat).zip [.int .i64 x0]).toArray).run Tryz.prog w = .ok (.agg #[.string ⟨#[]⟩, .string ⟨#[]⟩, .int .i64 x0]) w := by kernel_rfl
theorem ti65 : TI Tryz.prog 66 3 40 (.agg #[.string ⟨#[]⟩, .string ⟨#[]⟩, .int .i64 0]) := .of (by kernel_rfl)
theorem ts65 : TS Tryz.prog 66 3 := .of (by kernel_rfl)
theorem fd65_0 : FD Tryz.prog 66 0 0 := .of Tryz.underlying66 (by kernel_rfl)
theorem ts9 : TS Tryz.prog 9 1 := .of (by kernel_rfl)
theorem fd65_1 : FD Tryz.prog 66 1 1 := .of Tryz.underlying66 (by kernel_rfl)
theorem ia65 : IsAgg Tryz.prog 66 := ⟨_, Tryz.underlying66, trivial⟩
theorem ts25 : TS Tryz.prog 32 1 := .of (by kernel_rfl)
theorem fd72_0 : FD Tryz.prog 137 0 0 := .of Tryz.underlying137 (by kernel_rfl)
theorem na9 : NotAgg Tryz.prog 9 := ⟨_, Tryz.underlying9, trivial⟩
end wire14
open wire14



set_option maxHeartbeats 1000000 in
set_option maxRecDepth 20000 in
theorem ReadBatch_ok (s : List UInt8) (hl : s.length ≤ 9000000000000000000) : Cn Tryz.prog 69 [.string (str s)] (fun _ => True) [] fun v G => ∃ a' c', v = .tuple #[.agg ((readBatch s).1.cells a' c').toArray, .int .i64 (readBatch s).2.1, .int .i64 (readBatch s).2.2] ∧ G = [arr 66 3 a' c' ((readBatch s).1.recs.flatMap Rec.cells)] := by
  refine .enter Tryz.func69 rfl (by kernel_rfl) rfl fun R k => ?_
  refine .seq ?_
  refine .region ?_
  refine .ef (.alloc ti27 rfl (ones.of rfl)) ?_
  rintro _ _ ⟨b2, rfl, rfl⟩
  refine .rd (.assign rfl) ?_
  refine .rd (.assign rfl) ?_
  refine .nil ?_
  refine .seq ?_
  refine .seq ?_
  refine .region ?_
  refine .rd (.move rfl) ?_
  refine .rd (.lenT rfl rfl Tryz.underlying9 rfl) ?_
  refine .rd (.lt rfl rfl) ?_
  refine .nil ?_
  refine .condP rfl (fun h2 => ?_) (fun h2 => ?_)
  · refine .seq ?_
    refine .region ?_
    refine .rd (.build rfl (bld27_)) ?_
    refine .ef0 (.storeAll (vs := [.int .i64 0, .int .i64 0, .int .i64 0, .int .i64 0, .int .i64 0, .slice none 0 0]) ts27 rfl rfl rfl .head rfl (ones.of rfl)) ?_
    rintro _ _ rfl
    refine .rd (.assign rfl) ?_
    refine .rd (.assign rfl) ?_
    refine .nil ?_
    rw [readBatch_short (s := s) (by omega)]
    refine .nilArr 66 3 none ?_
    refine .retP Tryz.func69 (.cons (.blkN ia27 ts27 rfl (.tail .head) rfl) (.cons (.tmp rfl) (.cons (.tmp rfl) .nil))) (.cons .head (.cons (.tail .head) .nil)) ?_
    exact ⟨[_], ⟨none, 0, rfl, rfl⟩, rfl⟩
  · refine .skip ?_
    refine .seq ?_
    refine .region ?_
    refine .rd (.move rfl) ?_
    refine .fn rfl rfl .nil (fun _ _ _ => trivial) (four_ok s (by omega)) (fun v G1 hq => ?_)
    obtain ⟨rfl, rfl⟩ := hq
    simp only [List.nil_append]
    refine .rd (.assign rfl) ?_
    refine .nil ?_
    refine .seq ?_
    refine .block ?_
    refine .seq ?_
    refine .region ?_
    refine .rd (.move rfl) ?_
    refine .rd (.gt rfl rfl) ?_
    refine .rd (.assign rfl) ?_
    refine .nil ?_
    refine .condP rfl (fun h4 => ?_) (fun h4 => ?_)
    · refine .seq ?_
      refine .region ?_
      refine .rd (.build rfl (bld27_)) ?_
      refine .ef0 (.storeAll (vs := [.int .i64 0, .int .i64 0, .int .i64 0, .int .i64 0, .int .i64 0, .slice none 0 0]) ts27 rfl rfl rfl .head rfl (ones.of rfl)) ?_
      rintro _ _ rfl
      refine .rd (.assign rfl) ?_
      refine .rd (.assign rfl) ?_
      refine .nil ?_
      rw [readBatch_long (s := s) (by omega) (by omega)]
      refine .nilArr 66 3 none ?_
      refine .retP Tryz.func69 (.cons (.blkN ia27 ts27 rfl (.tail .head) rfl) (.cons (.tmp rfl) (.cons (.tmp rfl) .nil))) (.cons .head (.cons (.tail .head) .nil)) ?_
      exact ⟨[_], ⟨none, 0, rfl, rfl⟩, rfl⟩
    · refine .seq ?_
      refine .region ?_
      refine .rd (.move rfl) ?_
      refine .rd (.lenT rfl rfl Tryz.underlying9 rfl) ?_
      refine .rd (.sub rfl rfl (by omega) (by omega)) ?_
      refine .rd (.move rfl) ?_
      refine .rd (.lt rfl rfl) ?_
      refine .rd (.assign rfl) ?_
      refine .nil ?_
      refine .condP rfl (fun h6 => ?_) (fun h6 => ?_)
      · refine .seq ?_
        refine .region ?_
        refine .rd (.build rfl (bld27_)) ?_
        refine .ef0 (.storeAll (vs := [.int .i64 0, .int .i64 0, .int .i64 0, .int .i64 0, .int .i64 0, .slice none 0 0]) ts27 rfl rfl rfl .head rfl (ones.of rfl)) ?_
        rintro _ _ rfl
        refine .rd (.assign rfl) ?_
        refine .rd (.assign rfl) ?_
        refine .nil ?_
        rw [readBatch_cut (s := s) (by omega) (by omega) (by omega)]
        refine .nilArr 66 3 none ?_
        refine .retP Tryz.func69 (.cons (.blkN ia27 ts27 rfl (.tail .head) rfl) (.cons (.tmp rfl) (.cons (.tmp rfl) .nil))) (.cons .head (.cons (.tail .head) .nil)) ?_
        exact ⟨[_], ⟨none, 0, rfl, rfl⟩, rfl⟩
      · refine .seq ?_
        have h4l := four_lt s
        obtain ⟨t, ht⟩ : ∃ t, t = (s.drop 8).take (four s) := ⟨_, rfl⟩
        have htl : t.length ≤ 4088 := by rw [ht, List.length_take]; omega
        refine .draws [] [] (by kernel_rfl) ?_
        refine .rp 0 rfl (by kernel_rfl) (by kernel_rfl) (by kernel_rfl) (Reads.pure (.move rfl)) ?_
        refine .rp 1 rfl (by kernel_rfl) (by kernel_rfl) (by kernel_rfl) (Reads.pure (.move rfl)) ?_
        refine .rp 2 rfl (by kernel_rfl) (by kernel_rfl) (by kernel_rfl) (Reads.pure (.add rfl rfl (by omega) (by omega))) ?_
        refine .alter (t := 32) (v' := .int .i64 ((8 + four s : Nat) : Int)) rfl (by rw [Int.natCast_add]; rfl) ?_
        refine .rp 3 rfl (by kernel_rfl) (by kernel_rfl) (by kernel_rfl) (Reads.pure (.sliceT (l := s) (a := 8) (h := (8 + four s)) Tryz.underlying9 rfl ⟨_, rfl⟩ ⟨_, rfl⟩ (by omega) (by omega))) ?_
        refine .alter (t := 33) (v' := .string (str t)) rfl (by rw [ht, Nat.add_sub_cancel_left]) ?_
        refine .rp 5 rfl (by kernel_rfl) (by kernel_rfl) (by kernel_rfl) (Reads.pure (.move rfl)) ?_
        refine .rp 6 rfl (by kernel_rfl) (by kernel_rfl) (by kernel_rfl) (Reads.pure (.sliceT (l := s) (a := 4) (h := s.length) Tryz.underlying9 rfl ⟨_, rfl⟩ rfl (by omega) (by omega))) ?_
        refine .alter (t := 36) (v' := .string (str (s.drop 4))) rfl (by rw [List.take_of_length_le (by rw [List.length_drop]; omega)]) ?_
        refine .ef 4 (by kernel_rfl) rfl (.fn rfl rfl .nil (fun _ _ _ => trivial) (Crc_ok t (by omega))) ?_
        rintro v _ ⟨G1, hq, rfl⟩
        obtain ⟨rfl, rfl⟩ := hq
        simp only [List.nil_append]
        refine ⟨.inl (by kernel_rfl), ?_⟩
        refine .ef 7 (by kernel_rfl) rfl (.fn rfl rfl .nil (fun _ _ _ => trivial) (four_ok (s.drop 4) (by rw [List.length_drop]; omega))) ?_
        rintro v _ ⟨G1, hq, rfl⟩
        obtain ⟨rfl, rfl⟩ := hq
        simp only [List.nil_append]
        refine ⟨.inl (by kernel_rfl), ?_⟩
        refine .rp 8 rfl (by kernel_rfl) (by kernel_rfl) (by kernel_rfl) (Reads.pure (.neI rfl rfl)) ?_
        refine .rp 9 rfl (by kernel_rfl) (by kernel_rfl) (by kernel_rfl) (Reads.pure (.assign rfl)) ?_
        refine .done (by kernel_rfl) ?_
        refine .condN rfl (fun h8 => ?_) (fun h8 => ?_)
        · refine .seq ?_
          refine .region ?_
          refine .rd (.build rfl (bld27_)) ?_
          refine .ef0 (.storeAll (vs := [.int .i64 0, .int .i64 0, .int .i64 0, .int .i64 0, .int .i64 0, .slice none 0 0]) ts27 rfl rfl rfl .head rfl (ones.of rfl)) ?_
          rintro _ _ rfl
          refine .rd (.assign rfl) ?_
          refine .rd (.assign rfl) ?_
          refine .nil ?_
          rw [readBatch_sum (s := s) (by omega) (by omega) (by omega) ht (by omega)]
          refine .nilArr 66 3 none ?_
          refine .retP Tryz.func69 (.cons (.blkN ia27 ts27 rfl (.tail .head) rfl) (.cons (.tmp rfl) (.cons (.tmp rfl) .nil))) (.cons .head (.cons (.tail .head) .nil)) ?_
          exact ⟨[_], ⟨none, 0, rfl, rfl⟩, rfl⟩
        · have hcs : (crc t).toNat = four (s.drop 4) := by omega
          refine .skip ?_
          refine .inBlock ?_
          refine .seq ?_
          refine .region ?_
          refine .rd (.move rfl) ?_
          refine .rd (.move rfl) ?_
          refine .rd (.add rfl rfl (by omega) (by omega)) ?_
          refine .alter (t := 42) (v' := .int .i64 ((8 + four s : Nat) : Int)) rfl (by rw [Int.natCast_add]; rfl) ?_
          refine .rd (.sliceT (l := s) (a := 8) (h := (8 + four s)) Tryz.underlying9 rfl ⟨_, rfl⟩ ⟨_, rfl⟩ (by omega) (by omega)) ?_
          refine .alter (t := 43) (v' := .string (str t)) rfl (by rw [ht, Nat.add_sub_cancel_left]) ?_
          refine .rd (.build rfl (bld72_0_1 _ _)) ?_
          refine .ef (.box rfl rfl (ones.of rfl)) ?_
          rintro _ _ ⟨b45, rfl, rfl⟩
          refine .rd (.assign rfl) ?_
          refine .nil ?_
          refine .seq ?_
          refine .region ?_
          refine .ef (.alloc ti27 rfl (ones.of rfl)) ?_
          rintro _ _ ⟨b7, rfl, rfl⟩
          refine .nil ?_
          refine .seq ?_
          refine .seq ?_
          refine .region ?_
          refine .rd (.fieldAddr fd27_0 rfl) ?_
          refine .rd (.fieldAddr fd27_1 rfl) ?_
          refine .rd (.fieldAddr fd27_2 rfl) ?_
          refine .rd (.fieldAddr fd27_3 rfl) ?_
          refine .rd (.fieldAddr fd27_4 rfl) ?_
          refine .rd (.build rfl (bld74_0_1_2_3_4 _ _ _ _ _)) ?_
          refine .rd (.move rfl) ?_
          refine .nil ?_
          refine .block ?_
          refine .loop (σ := List Int × Rdr) (fun ⟨xs, p⟩ => xs.length ≤ 5 ∧ (∀ x ∈ xs, i64 x) ∧ p.1.length ≤ 4096 ∧ Fol p.2 p.1 (pMany pI xs.length t) xs) (fun ⟨xs, p⟩ => 5 - xs.length) (fun ⟨xs, p⟩ => [(2, .pointer (some ⟨b2, 0, none⟩)), (5, .int .i64 (four s : Int)), (6, .pointer (some ⟨b45, 0, none⟩)), (7, .pointer (some ⟨b7, 0, none⟩)), (51, .agg #[.pointer (some ⟨b7, 0, none⟩), .pointer (some ⟨b7, 1, none⟩), .pointer (some ⟨b7, 2, none⟩), .pointer (some ⟨b7, 3, none⟩), .pointer (some ⟨b7, 4, none⟩)]), (52, .int .i64 (xs.length : Int))]) (fun ⟨xs, p⟩ => [blk b2 [.int .i64 0, .int .i64 0, .int .i64 0, .int .i64 0, .int .i64 0, .slice none 0 0] 34, blk b45 [.string (str p.1), .bool p.2] 137, blk b7 (vec xs ++ [.slice none 0 0]) 34, R]) ([], t, true) ⟨Nat.zero_le _, by simp, by show t.length ≤ 4096; omega, .inl ⟨rfl, rfl⟩⟩ (.cons rfl (.cons rfl (.cons rfl (.cons rfl (.cons rfl (.cons rfl .nil)))))) (.cons (.tail (.tail .head)) (.cons (.tail .head) (.cons .head (.cons .head .nil)))) (fun s' hI ih => ?_)
          obtain ⟨xs, p⟩ := s'
          dsimp only at hI ih ⊢
          have h5 := hI.1
          have hpl := hI.2.2.1
          refine .seq ?_
          refine .region ?_
          refine .rd (.lt rfl rfl) ?_
          refine .nil ?_
          refine .seq ?_
          refine .condP rfl (fun h13 => ?_) (fun h13 => ?_)
          · refine .skip ?_
            refine .seq ?_
            refine .block ?_
            refine .seq ?_
            refine .region ?_
            refine .rd (.indexA1 Tryz.underlying139 na73 ts73 rfl rfl (by omega) (by omega) (by rw [Int.toNat_natCast, Nat.mul_one]; exact ptr_at b7 (by omega))) ?_
            refine .rd (.assign rfl) ?_
            refine .nil ?_
            refine .region ?_
            refine .rd (.move rfl) ?_
            refine .rd (.move rfl) ?_
            refine .fn rfl rfl (.cons (.tail .head) .nil) (fun _ _ _ => trivial) (rdint_ok b45 p (by omega)) (fun v G1 hq => ?_)
            obtain ⟨rfl, rfl⟩ := hq
            simp only [List.cons_append, List.nil_append]
            refine .rd (.nilCheck rfl) ?_
            refine .ef0 (.store ts3 rfl rfl (.tail (.tail .head)) rfl (by rw [List.length_append, vec_len h5]; show xs.length + 1 ≤ 5 + 1; omega)) ?_
            rintro _ _ rfl
            refine .cast (X' := blk b7 (vec (xs ++ [(rdI p).1]) ++ [.slice none 0 0]) 34) (by rw [vec_set (by omega)]) ?_
            refine .nil ?_
            refine .inBlock ?_
            refine .region ?_
            refine .rd (.add rfl rfl (by omega) (by omega)) ?_
            refine .rd (.move rfl) ?_
            refine .nil ?_
            exact (ih (xs ++ [(rdI p).1], (rdI p).2) ⟨by show (xs ++ [_]).length ≤ 5; rw [List.length_append]; show xs.length + 1 ≤ 5; omega, all_snoc hI.2.1 (rint_i64 _), Nat.le_trans (rdI_len p) hI.2.2.1, pMany_next (hI.2.2.2.rdI (f := fun xs x => xs ++ [x]))⟩ (by show 5 - (xs ++ [_]).length < 5 - xs.length; rw [List.length_append]; show 5 - (xs.length + 1) < _; omega)).to (.cons rfl (.cons rfl (.cons rfl (.cons rfl (.cons rfl (.cons (by show _ = some (Value.int .i64 ((xs ++ [(rdI p).1]).length : Int)); rw [List.length_append]; rfl) .nil)))))) (.cons (.tail (.tail .head)) (.cons (.tail .head) (.cons .head (.cons .head .nil))))
          · obtain ⟨x0, x1, x2, x3, x4, rfl⟩ := five_of (show xs.length = 5 by omega)
            obtain ⟨_, hxs, hpl', hFol⟩ := hI
            clear ih h5 hpl
            have hpl := hpl'
            refine .perm (.cons (.tail (.tail .head)) (.cons .head (.cons .head (.cons .head .nil)))) ?_
            refine .cast (X' := blk b7 [.int .i64 x0, .int .i64 x1, .int .i64 x2, .int .i64 x3, .int .i64 x4, .slice none 0 0] 34) (rfl) ?_
            refine .exit rfl ?_
            refine .seq ?_
            refine .seq ?_
            refine .region ?_
            refine .rd (.move rfl) ?_
            refine .fn rfl rfl (.cons (.tail (.tail .head)) .nil) (fun _ _ _ => trivial) (rdint_ok b45 p (by omega)) (fun v G1 hq => ?_)
            obtain ⟨rfl, rfl⟩ := hq
            simp only [List.cons_append, List.nil_append]
            refine .rd (.assign rfl) ?_
            refine .nil ?_
            have hH : Fol (rdI p).2.2 (rdI p).2.1 (pHead t) ([x0, x1, x2, x3, x4], (rdI p).1) := hFol.rdI (f := fun a b => (a, b))
            have hni := rint_i64 p.1
            have hq1 := Nat.le_trans (rdI_len p) hpl
            obtain ⟨n, hn⟩ : ∃ n, n = (rdI p).1 := ⟨_, rfl⟩
            obtain ⟨q, hq⟩ : ∃ q, q = (rdI p).2 := ⟨_, rfl⟩
            rw [← hn, ← hq] at hH
            rw [← hq] at hq1
            have hni' : i64 n := by rw [hn]; exact hni
            obtain ⟨hn1, hn2⟩ := hni'
            rw [← hq]
            refine .alter (t := 10) (v' := .int .i64 (n - (([] : List Rec).length : Int))) rfl (by rw [hn]; simp) ?_
            clear hni hn hq hFol
            refine .nilArr 66 3 none ?_
            refine .block ?_
            refine .loop (σ := List Rec × Rdr × Option Addr × Nat) (fun ⟨rs, p, a', c'⟩ => Far n rs ∧ p.1.length ≤ 4096 ∧ Fol p.2 p.1 (pPart rs.length t) (([x0, x1, x2, x3, x4], n), rs)) (fun ⟨rs, p, a', c'⟩ => 65 - rs.length) (fun ⟨rs, p, a', c'⟩ => [(2, .pointer (some ⟨b2, 0, none⟩)), (5, .int .i64 (four s : Int)), (6, .pointer (some ⟨b45, 0, none⟩)), (7, .pointer (some ⟨b7, 0, none⟩)), (10, .int .i64 (n - (rs.length : Int)))]) (fun ⟨rs, p, a', c'⟩ => [blk b2 [.int .i64 0, .int .i64 0, .int .i64 0, .int .i64 0, .int .i64 0, .slice none 0 0] 34, blk b45 [.string (str p.1), .bool p.2] 137, blk b7 [.int .i64 x0, .int .i64 x1, .int .i64 x2, .int .i64 x3, .int .i64 x4, .slice a' rs.length c'] 34, arr 66 3 a' c' (rs.flatMap Rec.cells), R]) ([], q, none, 0) ⟨.nil n, hq1, pPart_zero hH⟩ (.cons rfl (.cons rfl (.cons rfl (.cons rfl (.cons rfl .nil))))) (.cons (.tail (.tail (.tail .head))) (.cons (.tail .head) (.cons (.tail .head) (.cons .head (.cons .head .nil))))) (fun s' hI ih => ?_)
            obtain ⟨rs, p, a', c'⟩ := s'
            dsimp only at hI ih ⊢
            have hm := hI.1.most
            have hpl := hI.2.1
            refine .seq ?_
            refine .seq ?_
            refine .region ?_
            refine RunO.join 14 75 (decide (0 < n - (rs.length : Int) ∧ p.2 = true ∧ rs.length ≤ 64)) ?_ ?_
            · refine .rd (.move rfl) ?_
              refine .rd (.gt rfl rfl) ?_
              refine .rd (.move rfl) ?_
              refine .split (t := 64) rfl (fun g18_2 => ?_) (fun g18_2 => ?_)
              · replace g18_2 := of_decide_eq_true g18_2
                refine .on (t := 64) rfl rfl ?_
                refine .rd (.move rfl) ?_
                refine .on (t := 64) rfl rfl ?_
                refine .rd (.nilCheck rfl) ?_
                refine .on (t := 64) rfl rfl ?_
                refine .rd (.fieldAddr fd72_1 rfl) ?_
                refine .on (t := 64) rfl rfl ?_
                refine .rd (.ld na4 rfl (.tail .head) rfl) ?_
                refine .rd (.pickT rfl rfl) ?_
                refine .rd (.move rfl) ?_
                refine .split (t := 70) rfl (fun g18_8 => ?_) (fun g18_8 => ?_)
                · refine .on (t := 70) rfl rfl ?_
                  refine .rd (.fieldAddr fd27_5 rfl) ?_
                  refine .on (t := 70) rfl rfl ?_
                  refine .rd (.ld na25 rfl (.tail (.tail .head)) rfl) ?_
                  refine .on (t := 70) rfl rfl ?_
                  refine .rd (.lenL rfl rfl Tryz.underlying32 rfl) ?_
                  refine .on (t := 70) rfl rfl ?_
                  refine .rd (.le rfl rfl) ?_
                  refine .rd (.pickT rfl rfl) ?_
                  refine .nil ⟨rfl, ?_, by repeat (first | exact Le.refl _ | refine Le.skip rfl ?_)⟩
                  exact congrArg (fun x => some (Value.bool x)) (decide_eq_decide.2 (by rw [g18_8]; exact ⟨fun h => ⟨by omega, rfl, by omega⟩, fun h => by have := h.2.2; omega⟩))
                · refine .off (t := 70) rfl rfl rfl ?_
                  refine .off (t := 70) rfl rfl rfl ?_
                  refine .off (t := 70) rfl rfl rfl ?_
                  refine .off (t := 70) rfl rfl rfl ?_
                  refine .rd (.pickF rfl rfl) ?_
                  refine .nil ⟨rfl, ?_, by repeat (first | exact Le.refl _ | refine Le.skip rfl ?_)⟩
                  exact congrArg (fun x => some (Value.bool x)) ((decide_eq_false (p := 0 < n - (rs.length : Int) ∧ p.2 = true ∧ rs.length ≤ 64) (by rw [g18_8]; simp)).symm)
              · replace g18_2 := of_decide_eq_false g18_2
                refine .off (t := 64) rfl rfl rfl ?_
                refine .off (t := 64) rfl rfl rfl ?_
                refine .off (t := 64) rfl rfl rfl ?_
                refine .off (t := 64) rfl rfl rfl ?_
                refine .rd (.pickF rfl rfl) ?_
                refine .rd (.move rfl) ?_
                refine .off (t := 70) rfl rfl rfl ?_
                refine .off (t := 70) rfl rfl rfl ?_
                refine .off (t := 70) rfl rfl rfl ?_
                refine .off (t := 70) rfl rfl rfl ?_
                refine .rd (.pickF rfl rfl) ?_
                refine .nil ⟨rfl, ?_, by repeat (first | exact Le.refl _ | refine Le.skip rfl ?_)⟩
                exact congrArg (fun x => some (Value.bool x)) ((decide_eq_false (by omega)).symm)
            refine .nil ?_
            refine .condP rfl (fun h18 => ?_) (fun h18 => ?_)
            · refine .skip ?_
              refine .seq ?_
              refine .block ?_
              refine .seq ?_
              have hrl := rdI_len p
              have hrl2 := rdT_len 1000 (rdI p).2
              refine .region ?_
              refine .rd (.move rfl) ?_
              refine .fn rfl rfl (.cons (.tail .head) .nil) (fun _ _ _ => trivial) (rdint_ok b45 p (by omega)) (fun v G1 hq => ?_)
              obtain ⟨rfl, rfl⟩ := hq
              simp only [List.cons_append, List.nil_append]
              refine .rd (.build rfl (bld65_2 _)) ?_
              refine .ef (.alloc ti65 rfl (ones.of rfl)) ?_
              rintro _ _ ⟨b11, rfl, rfl⟩
              refine .ef0 (.storeAll ts65 rfl rfl rfl .head rfl (ones.of rfl)) ?_
              rintro _ _ rfl
              refine .nil ?_
              refine .seq ?_
              refine .region ?_
              refine .rd (.move rfl) ?_
              refine .fn rfl rfl (.cons (.tail .head) .nil) (fun _ _ _ => trivial) (rdtext_ok b45 (rdI p).2 1000 (by omega)) (fun v G1 hq => ?_)
              obtain ⟨rfl, rfl⟩ := hq
              simp only [List.cons_append, List.nil_append]
              refine .rd (.fieldAddr fd65_0 rfl) ?_
              refine .ef0 (.store ts9 rfl rfl (.tail .head) rfl (Nat.le_of_ble_eq_true rfl)) ?_
              rintro _ _ rfl
              refine .nil ?_
              refine .seq ?_
              refine .region ?_
              refine .rd (.move rfl) ?_
              refine .fn rfl rfl (.cons (.tail .head) .nil) (fun _ _ _ => trivial) (rdtext_ok b45 (rdT 1000 (rdI p).2).2 1000 (by omega)) (fun v G1 hq => ?_)
              obtain ⟨rfl, rfl⟩ := hq
              simp only [List.cons_append, List.nil_append]
              refine .rd (.fieldAddr fd65_1 rfl) ?_
              refine .ef0 (.store ts9 rfl rfl (.tail .head) rfl (Nat.le_of_ble_eq_true rfl)) ?_
              rintro _ _ rfl
              refine .nil ?_
              obtain ⟨tm, htm⟩ : ∃ tm, tm = (rdI p).1 := ⟨_, rfl⟩
              obtain ⟨k, hk⟩ : ∃ k, k = (rdT 1000 (rdI p).2).1 := ⟨_, rfl⟩
              obtain ⟨v, hv⟩ : ∃ v, v = (rdT 1000 (rdT 1000 (rdI p).2).2).1 := ⟨_, rfl⟩
              refine .cast (X' := blk b11 (Rec.cells ⟨k, v, tm⟩) 66) (by rw [htm, hk, hv]; rfl) ?_
              refine .region ?_
              refine .rd (.fieldAddr fd27_5 rfl) ?_
              refine .rd (.ld na25 rfl (.tail (.tail (.tail .head))) rfl) ?_
              refine .rd (.ldN ia65 ts65 rfl .head rfl) ?_
              refine .ef (.buildOne (cs := Rec.cells ⟨k, v, tm⟩) Tryz.underlying32 ti65 (by decide) rfl rfl rfl (ones.of rfl)) ?_
              rintro _ _ ⟨bs, rfl, rfl⟩
              refine .ef (.append rfl rfl Tryz.underlying32 ti65 rfl (ones.of rfl) (by decide) (by decide) rfl rfl (.tail (.tail (.tail (.tail (.tail .head))))) (n := rs.length) (m := 1) (by rw [flat_length Rec.cells_len]) (.srcBlk (ys := Rec.cells ⟨k, v, tm⟩) .head Tryz.underlying32 rfl (by decide)) (by omega)) ?_
              rintro _ _ ⟨ra, rc, rfl, rn, rfl⟩
              refine .rd (.fieldAddr fd27_5 rfl) ?_
              refine .ef0 (.store ts25 rfl rfl (.tail (.tail (.tail (.tail (.tail .head))))) rfl (Nat.le_of_ble_eq_true rfl)) ?_
              rintro _ _ rfl
              refine .nil ?_
              refine .perm (.cons (.tail .head) (.cons .head (.cons .head (.cons .head (.cons .head (.cons .head (.cons .head .nil))))))) ?_
              refine .cast (X' := arr 66 3 ra rc ((rs ++ [(⟨k, v, tm⟩ : Rec)]).flatMap Rec.cells)) (by rw [List.flatMap_append]; simp) ?_
              refine .perm (.cons (.tail .head) (.cons .head (.cons .head (.cons .head (.cons .head (.cons .head (.cons .head .nil))))))) ?_
              refine .cast (X' := blk b7 [.int .i64 x0, .int .i64 x1, .int .i64 x2, .int .i64 x3, .int .i64 x4, .slice ra (rs ++ [(⟨k, v, tm⟩ : Rec)]).length rc] 34) (by rw [List.length_append]; rfl) ?_
              refine .inBlock ?_
              refine .region ?_
              refine .rd (.move rfl) ?_
              refine .rd (.sub rfl rfl (by omega) (by omega)) ?_
              refine .rd (.assign rfl) ?_
              refine .nil ?_
              have hf0 := ((hI.2.2.rdI (f := fun a b => (a, b))).rdT 1000 (f := fun a b => (a, b))).rdT 1000 (f := fun a b => (a, b))
              rw [← htm, ← hk, ← hv] at hf0
              have hpp := pPart_next (r := ⟨k, v, tm⟩) hf0
              exact (ih (rs ++ [(⟨k, v, tm⟩ : Rec)], (rdT 1000 (rdT 1000 (rdI p).2).2).2, ra, rc) ⟨hI.1.snoc (by omega) (by omega) ⟨by show i64 tm; rw [htm]; exact rint_i64 _, by have := rdT_most (m := 1000) (rdI p).2 (by decide); show k.length ≤ 1000; rw [hk]; omega, by have := rdT_most (m := 1000) (rdT 1000 (rdI p).2).2 (by decide); show v.length ≤ 1000; rw [hv]; omega⟩, Nat.le_trans (rdT_len _ _) (Nat.le_trans (rdT_len _ _) (Nat.le_trans (rdI_len p) hI.2.1)), by rw [List.length_append]; exact hpp⟩ (by show 65 - (rs ++ [_]).length < _; rw [List.length_append]; show 65 - (rs.length + 1) < 65 - rs.length; omega)).to (.cons rfl (.cons rfl (.cons rfl (.cons rfl (.cons (by show _ = some (Value.int .i64 (n - ((rs ++ [(⟨k, v, tm⟩ : Rec)]).length : Int))); rw [List.length_append]; exact congrArg (fun z => some (Value.int .i64 z)) (by show n - (rs.length : Int) - 1 = n - ((rs.length + 1 : Nat) : Int); omega)) .nil))))) (.cons (.tail (.tail (.tail (.tail (.tail .head))))) (.cons (.tail (.tail (.tail (.tail .head)))) (.cons .head (.cons .head (.cons (.tail (.tail .head)) .nil)))))
            · have hfb : (bat [x0, x1, x2, x3, x4] rs).fits := bat_fits rfl hxs hI.1.ok hm
              have hle := hI.1.le
              refine .exit rfl ?_
              refine .seq ?_
              refine .seq ?_
              refine .region ?_
              refine RunO.join 17 109 (!decide (p.2 = true ∧ p.1 = [] ∧ right (bat [x0, x1, x2, x3, x4] rs) = 0)) ?_ ?_
              · refine .rd (.move rfl) ?_
                refine .rd (.nilCheck rfl) ?_
                refine .rd (.fieldAddr fd72_1 rfl) ?_
                refine .rd (.ld na4 rfl (.tail .head) rfl) ?_
                refine .rd (.not rfl) ?_
                refine .rd (.move rfl) ?_
                refine .split (t := 98) rfl (fun g24_5 => ?_) (fun g24_5 => ?_)
                · refine .off (t := 98) rfl rfl rfl ?_
                  refine .off (t := 98) rfl rfl rfl ?_
                  refine .off (t := 98) rfl rfl rfl ?_
                  refine .off (t := 98) rfl rfl rfl ?_
                  refine .off (t := 98) rfl rfl rfl ?_
                  refine .rd (.pickT rfl rfl) ?_
                  refine .rd (.move rfl) ?_
                  refine .off (t := 105) rfl rfl rfl ?_
                  refine .off (t := 105) rfl rfl rfl ?_
                  refine .off (t := 105) rfl rfl rfl ?_
                  refine .rd (.pickT rfl rfl) ?_
                  refine .nil ⟨rfl, ?_, by repeat (first | exact Le.refl _ | refine Le.skip rfl ?_)⟩
                  exact congrArg (fun x => some (Value.bool x)) (by simp [g24_5])
                · refine .on (t := 98) rfl rfl ?_
                  refine .rd (.move rfl) ?_
                  refine .on (t := 98) rfl rfl ?_
                  refine .rd (.nilCheck rfl) ?_
                  refine .on (t := 98) rfl rfl ?_
                  refine .rd (.fieldAddr fd72_0 rfl) ?_
                  refine .on (t := 98) rfl rfl ?_
                  refine .rd (.ld na9 rfl (.tail .head) rfl) ?_
                  refine .on (t := 98) rfl rfl ?_
                  refine .rd (.neT rfl rfl) ?_
                  refine .rd (.pickF rfl rfl) ?_
                  refine .rd (.move rfl) ?_
                  refine .split (t := 105) rfl (fun g24_12 => ?_) (fun g24_12 => ?_)
                  · simp at g24_12
                    refine .off (t := 105) rfl rfl rfl ?_
                    refine .off (t := 105) rfl rfl rfl ?_
                    refine .off (t := 105) rfl rfl rfl ?_
                    refine .rd (.pickT rfl rfl) ?_
                    refine .nil ⟨rfl, ?_, by repeat (first | exact Le.refl _ | refine Le.skip rfl ?_)⟩
                    exact congrArg (fun x => some (Value.bool x)) (by simp [g24_12])
                  · simp at g24_12
                    refine .on (t := 105) rfl rfl ?_
                    refine .rd (.ldN ia27 ts27 rfl (.tail (.tail .head)) rfl) ?_
                    refine .on (t := 105) rfl rfl ?_
                    refine .fn rfl rfl .nil (Knows.arr (.tail (.tail (.tail .head)))) (Right_ok (bat [x0, x1, x2, x3, x4] rs) a' c' hfb) (fun v G1 hq => ?_)
                    obtain ⟨rfl, rfl⟩ := hq
                    simp only [List.nil_append]
                    refine .on (t := 105) rfl rfl ?_
                    refine .rd (.neI rfl rfl) ?_
                    refine .rd (.pickF rfl rfl) ?_
                    refine .nil ⟨rfl, ?_, by repeat (first | exact Le.refl _ | refine Le.skip rfl ?_)⟩
                    exact congrArg (fun x => some (Value.bool x)) (by simp [g24_5, g24_12])
              refine .nil ?_
              refine .condN rfl (fun h24 => ?_) (fun h24 => ?_)
              · have hno : pBatch t = none := by
                  refine pBatch_no hI.2.2 h24 (fun hg h1 h2 => ?_) (fun hg h1 h2 => ?_) (fun hg => hH.head hI.2.2)
                  · have hle' : (rs.length : Int) ≤ n := by
                      rcases hle with rfl | hle
                      · simp; omega
                      · exact hle
                    have h0 : ¬ 0 < n - (rs.length : Int) := fun h => h18 ⟨h, hg, by omega⟩
                    omega
                  · rcases hle with rfl | hle
                    · simp; omega
                    · exact hle
                refine .seq ?_
                refine .region ?_
                refine .rd (.build rfl (bld27_)) ?_
                refine .ef0 (.storeAll (vs := [.int .i64 0, .int .i64 0, .int .i64 0, .int .i64 0, .int .i64 0, .slice none 0 0]) ts27 rfl rfl rfl .head rfl (ones.of rfl)) ?_
                rintro _ _ rfl
                refine .rd (.assign rfl) ?_
                refine .rd (.assign rfl) ?_
                refine .nil ?_
                rw [readBatch_no (s := s) (by omega) (by omega) (by omega) ht hcs hno]
                refine .nilArr 66 3 none ?_
                refine .retP Tryz.func69 (.cons (.blkN ia27 ts27 rfl (.tail .head) rfl) (.cons (.tmp rfl) (.cons (.tmp rfl) .nil))) (.cons .head (.cons (.tail (.tail (.tail (.tail .head)))) .nil)) ?_
                exact ⟨[_], ⟨none, 0, rfl, rfl⟩, rfl⟩
              · have hrm : 1 ≤ rs.length ∧ rs.length ≤ 64 := right_many h24.2.2
                have hrn : (rs.length : Int) = n := by
                  have h0 : ¬ 0 < n - (rs.length : Int) := fun h => h18 ⟨h, h24.1, hrm.2⟩
                  rcases hle with rfl | hle
                  · simp at hrm
                  · omega
                have hyes : pBatch t = some (bat [x0, x1, x2, x3, x4] rs) := pBatch_yes hI.2.2 hrn h24.1 h24.2.1 h24.2.2 (by omega)
                refine .skip ?_
                refine .seq ?_
                refine .region ?_
                refine .rd (.ldN ia27 ts27 rfl (.tail (.tail .head)) rfl) ?_
                refine .rd (.move rfl) ?_
                refine .rd (.add rfl rfl (by omega) (by omega)) ?_
                refine .ef0 (.storeAll (vs := Bat.cells (bat [x0, x1, x2, x3, x4] rs) a' c') ts27 rfl rfl rfl .head rfl (ones.of rfl)) ?_
                rintro _ _ rfl
                refine .rd (.assign rfl) ?_
                refine .rd (.assign rfl) ?_
                refine .nil ?_
                rw [readBatch_yes (s := s) (by omega) (by omega) (by omega) ht hcs hyes]
                refine .retP Tryz.func69 (.cons (.blkN ia27 ts27 rfl .head rfl) (.cons (.tmp rfl) (.cons (.tmp rfl) .nil))) (.cons (.tail (.tail (.tail .head))) (.cons (.tail (.tail (.tail .head))) .nil)) ?_
                exact ⟨[_], ⟨a', c', rfl, rfl⟩, rfl⟩

end Go.Proofs.YtglhoenjflpibaaGreatDoor


namespace Go.Proofs.YtglhoenjflpibaaGreatDoor
open Go Go.Sp

set_option linter.unusedVariables false

namespace seg5
theorem bld69_0_1_2 (x0 : Option Addr) (x1 : ByteArray) (x2 : Int) (w : World) : (Instr.build 69 (([0, 1, 2] : List Nat).zip [.pointer x0, .string x1, .int .i64 x2]).toArray).run Tryz.prog w = .ok (.agg #[.pointer x0, .string x1, .int .i64 x2, .slice none 0 0, .slice none 0 0]) w := by kernel_rfl
theorem fd69_3 : FD Tryz.prog 69 3 3 := .of Tryz.underlying69 (by kernel_rfl)
theorem na67 : NotAgg Tryz.prog 67 := ⟨_, Tryz.underlying67, trivial⟩
theorem ti34 : TI Tryz.prog 34 6 64 (.agg #[.int .i64 0, .int .i64 0, .int .i64 0, .int .i64 0, .int .i64 0, .slice none 0 0]) := .of (by kernel_rfl)
theorem ts34 : TS Tryz.prog 34 6 := .of (by kernel_rfl)
theorem fd34_0 : FD Tryz.prog 34 0 0 := .of Tryz.underlying34 (by kernel_rfl)
theorem na3 : NotAgg Tryz.prog 3 := ⟨_, Tryz.underlying3, trivial⟩
theorem ia34 : IsAgg Tryz.prog 34 := ⟨_, Tryz.underlying34, trivial⟩
theorem bld71_0_1_2_3 (x0 : Int) (x1 : Int) (x2 : Int) (x3 : Int) (w : World) : (Instr.build 71 (([0, 1, 2, 3] : List Nat).zip [.int .i64 x0, .int .i64 x1, .int .i64 x2, .int .i64 x3]).toArray).run Tryz.prog w = .ok (.agg #[.int .i64 x0, .int .i64 x1, .int .i64 x2, .int .i64 x3]) w := by kernel_rfl
end seg5
open seg5

theorem seg_ret {b : Nat} {x y : Int} (h : x = y) : resVal [.pointer (some ⟨b, 0, none⟩), .int .i64 x, .int .i64 0] = .tuple #[.pointer (some ⟨b, 0, none⟩), .int .i64 y, .int .i64 0] := by subst h; rfl
theorem rd_tup {x : List UInt8} {a : Option Addr} {c : Nat} {b : Bat} {n k : Int} (h : readBatch x = (b, n, k)) : Value.tuple #[.agg ((readBatch x).1.cells a c).toArray, .int .i64 (readBatch x).2.1, .int .i64 (readBatch x).2.2] = .tuple #[.agg (b.cells a c).toArray, .int .i64 n, .int .i64 k] := by rw [h]

set_option maxHeartbeats 1000000 in
set_option maxRecDepth 20000 in
theorem SegOpen_ok (db mb : Nat) (d : Dk) (nm : Nm) (base : Int) (bs : List Bat) (rest : List UInt8) (hd : d.ok) (hnm : Named nm) (hr : (d.get nm).isSome = true ∨ d.fs.length < 256) (ht : (d.file nm).b = flat bs ++ rest) (hstop : rest = [] ∨ (readBatch rest).2.2 ≠ 0) (h0 : 0 ≤ base) (h1 : base ≤ 1000000000) (hc : Chain base bs) (hg : ∀ b ∈ bs, b.good) (hl : bs.length ≤ 4096) : Cn Tryz.prog 65 [.pointer (some ⟨db, 0, none⟩), nmv nm, .int .i64 base] (fun _ => True) [blk db (d.cells mb) 60, mp nmv Fl.val mb d.fs] fun v G => ∃ sb sm aa ac ia ic, v = .tuple #[.pointer (some ⟨sb, 0, none⟩), .int .i64 (rest.length : Int), .int .i64 0] ∧ Ix sm bs.length ∧ bs.length ≤ ac ∧ G = [blk db (((d.put nm ⟨flat bs, (flat bs).length⟩)).cells mb) 60, mp nmv Fl.val mb ((d.put nm ⟨flat bs, (flat bs).length⟩)).fs] ++ [blk sb ((Sx.mk sb nm base bs sm aa ac ia ic).cells db) 69, arr 71 4 aa ac (Sx.mk sb nm base bs sm aa ac ia ic).rows, arr 3 1 ia ic (sm.flatMap icN)] := by
  refine .enter Tryz.func65 rfl (by kernel_rfl) rfl fun R k => ?_
  have hu := hd.used
  have hz := hd.size
  have hfl := Dk.file_le (d := d) nm
  have hlen : (flat bs ++ rest).length ≤ 16777216 := by rw [← ht]; omega
  have hlen2 : (flat bs ++ rest).length = (flat bs).length + rest.length := List.length_append
  have hd1 : (d.put nm ⟨(d.file nm).b ++ [], (d.file nm).safe⟩).ok := Dk.ok_touch hd nm
  refine .seq ?_
  refine .region ?_
  refine .rd (.assign rfl) ?_
  refine .rd (.assign rfl) ?_
  refine .rd (.assign rfl) ?_
  refine .nil ?_
  refine .seq ?_
  refine .seq ?_
  refine .region ?_
  refine .rd (.move rfl) ?_
  refine .rd (.lt rfl rfl) ?_
  refine .alter (t := 18) (v' := .bool false) rfl (congrArg Value.bool (decide_eq_false (by omega))) ?_
  refine .rd (.move rfl) ?_
  refine .on (t := 19) rfl rfl ?_
  refine .rd (.move rfl) ?_
  refine .on (t := 19) rfl rfl ?_
  refine .rd (.gt rfl rfl) ?_
  refine .alter (t := 21) (v' := .bool false) rfl (congrArg Value.bool (decide_eq_false (by omega))) ?_
  refine .rd (.pickF rfl rfl) ?_
  refine .nil ?_
  refine .condF rfl ?_
  refine .skip ?_
  refine .seq ?_
  refine .seq ?_
  refine .region ?_
  refine .rd (.move rfl) ?_
  refine .rd (.move rfl) ?_
  refine .fn rfl rfl (.cons .head (.cons .head .nil)) (fun _ _ _ => trivial) (Append_ok db mb d nm [] hd hnm hr (by simp; omega)) (fun v G1 hq => ?_)
  obtain ⟨rfl, rfl⟩ := hq
  simp only [List.cons_append, List.nil_append]
  refine .rd (.assign rfl) ?_
  refine .nil ?_
  refine .seq ?_
  refine .region ?_
  refine .rd (.move rfl) ?_
  refine .rd (.neI rfl rfl) ?_
  refine .alter (t := 27) (v' := .bool false) rfl (congrArg Value.bool (by rfl)) ?_
  refine .nil ?_
  refine .condF rfl ?_
  refine .skip ?_
  refine .seq ?_
  refine .region ?_
  refine .rd (.move rfl) ?_
  refine .rd (.move rfl) ?_
  refine .rd (.move rfl) ?_
  refine .rd (.build rfl (bld69_0_1_2 _ _ _)) ?_
  refine .ef (.box (l := [.pointer (some ⟨db, 0, none⟩), nmv nm, .int .i64 base, .slice none 0 0, .slice none 0 0]) rfl rfl (ones.of rfl)) ?_
  rintro _ _ ⟨b33, rfl, rfl⟩
  refine .rd (.assign rfl) ?_
  refine .nil ?_
  refine .seq ?_
  refine .region ?_
  refine .rd (.move rfl) ?_
  refine .rd (.move rfl) ?_
  refine .fn rfl rfl (.cons (.tail .head) (.cons (.tail .head) .nil)) (fun _ _ _ => trivial) (Read_ok db mb (d.put nm ⟨(d.file nm).b ++ [], (d.file nm).safe⟩) nm) (fun v G1 hq => ?_)
  obtain ⟨rfl, rfl⟩ := hq
  simp only [List.cons_append, List.nil_append]
  refine .alter (t := 37) (v' := .tuple #[.string (str (flat bs ++ rest)), .int .i64 0]) rfl (by rw [Dk.file_put, if_pos (Dk.some_put _ _ _), ht, List.append_nil]) ?_
  refine .rd (.move rfl) ?_
  refine .rd (.extract rfl rfl) ?_
  refine .rd (.extract rfl rfl) ?_
  refine .rd (.assign rfl) ?_
  refine .rd (.assign rfl) ?_
  refine .nil ?_
  refine .seq ?_
  refine .region ?_
  refine .rd (.assign rfl) ?_
  refine .nil ?_
  refine .perm (.cons (.tail (.tail .head)) (.cons .head (.cons .head (.cons .head .nil)))) ?_
  refine .cast (X' := blk b33 ((Sx.mk b33 nm base (bs.take 0) [] none 0 none 0).cells db) 69) (rfl) ?_
  refine .nilArr 71 4 none ?_
  refine .nilArr 3 1 none ?_
  refine .seq ?_
  refine .block ?_
  refine .loop (σ := Nat × List Nat × Option Addr × Nat × Option Addr × Nat) (fun ⟨i, sm, aa, ac, ia, ic⟩ => i ≤ bs.length ∧ Ix sm i ∧ i ≤ ac) (fun ⟨i, sm, aa, ac, ia, ic⟩ => bs.length - i) (fun ⟨i, sm, aa, ac, ia, ic⟩ => [(0, .pointer (some ⟨db, 0, none⟩)), (1, nmv nm), (10, .pointer (some ⟨b33, 0, none⟩)), (11, .string (str (flat bs ++ rest))), (13, .int .i64 ((flat (bs.take i)).length : Int))]) (fun ⟨i, sm, aa, ac, ia, ic⟩ => [blk b33 ((Sx.mk b33 nm base (bs.take i) sm aa ac ia ic).cells db) 69, arr 71 4 aa ac (Sx.mk b33 nm base (bs.take i) sm aa ac ia ic).rows, arr 3 1 ia ic (sm.flatMap icN), blk db ((d.put nm ⟨(d.file nm).b ++ [], (d.file nm).safe⟩).cells mb) 60, mp nmv Fl.val mb (d.put nm ⟨(d.file nm).b ++ [], (d.file nm).safe⟩).fs, R]) (0, [], none, 0, none, 0) ⟨Nat.zero_le _, Ix.nil, Nat.le_refl _⟩ (.cons rfl (.cons rfl (.cons rfl (.cons rfl (.cons rfl .nil))))) (.cons (.tail (.tail .head)) (.cons (.tail .head) (.cons .head (.cons .head (.cons .head (.cons .head .nil)))))) (fun s' hI ih => ?_)
  obtain ⟨i, sm, aa, ac, ia, ic⟩ := s'
  dsimp only at hI ih ⊢
  obtain ⟨hin, hix, hca⟩ := hI
  have hfl2 : (flat (bs.take i)).length ≤ (flat bs).length := flat_lq i
  refine .seq ?_
  refine .seq ?_
  refine .region ?_
  refine .rd (.move rfl) ?_
  refine .rd (.move rfl) ?_
  refine .rd (.lenT rfl rfl Tryz.underlying9 rfl) ?_
  refine .rd (.lt rfl rfl) ?_
  refine .rd (.move rfl) ?_
  refine .split (t := 44) rfl (fun g9 => ?_) (fun g9 => ?_)
  · replace g9 := of_decide_eq_true g9
    refine .on (t := 44) rfl rfl ?_
    refine .rd (.move rfl) ?_
    refine .on (t := 44) rfl rfl ?_
    refine .rd (.nilCheck rfl) ?_
    refine .on (t := 44) rfl rfl ?_
    refine .rd (.fieldAddr fd69_3 rfl) ?_
    refine .on (t := 44) rfl rfl ?_
    refine .rd (.ld na67 rfl .head rfl) ?_
    refine .on (t := 44) rfl rfl ?_
    refine .rd (.lenL rfl rfl Tryz.underlying67 rfl) ?_
    refine .on (t := 44) rfl rfl ?_
    refine .rd (.lt rfl rfl) ?_
    refine .rd (.pickT rfl rfl) ?_
    refine .nil ?_
    refine .condP rfl (fun c9 => ?_) (fun c9 => ?_)
    · refine .skip ?_
      refine .block ?_
      refine .seq ?_
      refine .region ?_
      rcases Nat.lt_or_ge i bs.length with hi | hi
      · obtain ⟨b, hb⟩ : ∃ b, bs[i]? = some b := ⟨_, List.getElem?_eq_getElem hi⟩
        have hgd := hg b (List.mem_of_getElem? hb)
        have hdr := flat_drop (rest := rest) hb
        have hbn := (hc.at hb).1
        have hss := open_ok (b := b33) (nm := nm) (aa := aa) (ia := ia) (ic := ic) h0 h1 hc hg hl hin hix hca
        have hge := hgd.enc_le
        have hb0 := hgd.base
        have hb1 := hgd.en
        have hb2 := hgd.recs64
        have hb3 := hgd.lt
        have hfn : (flat (bs.take (i + 1))).length = (flat (bs.take i)).length + (enc b).length := by rw [List.take_add_one, hb, flat_app, List.length_append]; simp [flat]
        refine .rd (.move rfl) ?_
        refine .rd (.move rfl) ?_
        refine .rd (.sliceT (l := (flat bs ++ rest)) (a := (flat (bs.take i)).length) (h := (flat bs ++ rest).length) Tryz.underlying9 rfl ⟨_, rfl⟩ rfl (by omega) (by omega)) ?_
        refine .alter (t := 55) (v' := .string (str (enc b ++ (flat (bs.drop (i + 1)) ++ rest)))) rfl (by rw [List.take_of_length_le (by rw [List.length_drop]; omega), hdr]) ?_
        refine .fn rfl rfl .nil (fun _ _ _ => trivial) (ReadBatch_ok (enc b ++ (flat (bs.drop (i + 1)) ++ rest)) (by rw [← hdr, List.length_drop]; omega)) (fun v G1 hq => ?_)
        obtain ⟨ba, bc, rfl, rfl⟩ := hq
        simp only [List.cons_append, List.nil_append]
        refine .alter (t := 56) (v' := .tuple #[.agg (b.cells ba bc).toArray, .int .i64 ((enc b).length : Int), .int .i64 0]) rfl (rd_tup (read_next hgd _)) ?_
        refine .rd (.move rfl) ?_
        refine .rd (.extract rfl rfl) ?_
        refine .rd (.extract rfl rfl) ?_
        refine .rd (.extract rfl rfl) ?_
        refine .ef (.alloc ti34 rfl (ones.of rfl)) ?_
        rintro _ _ ⟨b14, rfl, rfl⟩
        refine .ef0 (.storeAll ts34 rfl rfl (by rfl) .head rfl (ones.of rfl)) ?_
        rintro _ _ rfl
        refine .rd (.assign rfl) ?_
        refine .rd (.assign rfl) ?_
        refine .nil ?_
        refine .cast (X' := blk b14 (b.cells ba bc) 34) (rfl) ?_
        refine .seq ?_
        refine .seq ?_
        refine .draws [4, 10] [blk b14 (b.cells ba bc) 34] (by kernel_rfl) ?_
        refine .rp 0 rfl (by kernel_rfl) (by kernel_rfl) (by kernel_rfl) (Reads.pure (.move rfl)) ?_
        refine .rp 1 rfl (by kernel_rfl) (by kernel_rfl) (by kernel_rfl) (Reads.pure (.neI rfl rfl)) ?_
        refine .alter (t := 61) (v' := .bool false) rfl (congrArg Value.bool (by rfl)) ?_
        refine .rp 2 rfl (by kernel_rfl) (by kernel_rfl) (by kernel_rfl) (Reads.pure (.move rfl)) ?_
        refine .rpG 3 (t := 62) rfl rfl rfl (by kernel_rfl) (by kernel_rfl) (by kernel_rfl) (Reads.pure (.fieldAddr fd34_0 rfl)) ?_
        refine .rdG 4 (t := 62) rfl rfl rfl rfl (by kernel_rfl) (by kernel_rfl) (by kernel_rfl) (.ld na3 rfl .head rfl) (.cons .head .nil) ?_
        refine .rpG 5 (t := 62) rfl rfl rfl (by kernel_rfl) (by kernel_rfl) (by kernel_rfl) (Reads.pure (.move rfl)) ?_
        refine .efG 6 (t := 62) (by kernel_rfl) rfl rfl rfl (.fn rfl rfl .nil ((Knows.blk (.tail (.tail .head))).and ((Knows.arr (.tail (.tail (.tail .head)))).and (Knows.arr (.tail (.tail (.tail (.tail .head))))))) (Next_ok db (Sx.mk b33 nm base (bs.take i) sm aa ac ia ic) hss)) ?_
        rintro v _ ⟨G1, hq, rfl⟩
        obtain ⟨rfl, rfl⟩ := hq
        simp only [List.nil_append]
        refine ⟨.inr ⟨_, (.cons .head .nil)⟩, ?_⟩
        refine .rpG 7 (t := 62) rfl rfl rfl (by kernel_rfl) (by kernel_rfl) (by kernel_rfl) (Reads.pure (.neI rfl rfl)) ?_
        refine .alter (t := 67) (v' := .bool false) rfl (congrArg Value.bool (by rw [decide_eq_true (show b.base = Sx.next (Sx.mk b33 nm base (bs.take i) sm aa ac ia ic) from hbn)]; rfl)) ?_
        refine .rp 8 rfl (by kernel_rfl) (by kernel_rfl) (by kernel_rfl) (Reads.pure (.pickF rfl rfl)) ?_
        refine .rp 9 rfl (by kernel_rfl) (by kernel_rfl) (by kernel_rfl) (Reads.pure (.move rfl)) ?_
        refine .rdG 10 (t := 69) rfl rfl rfl rfl (by kernel_rfl) (by kernel_rfl) (by kernel_rfl) (.ldN ia34 ts34 rfl .head rfl) (.cons .head .nil) ?_
        refine .efG 11 (t := 69) (by kernel_rfl) rfl rfl rfl (.fn rfl rfl .nil (fun _ _ _ => trivial) (end_ok b ba bc (by omega) (by omega) (by omega))) ?_
        rintro v _ ⟨G1, hq, rfl⟩
        obtain ⟨rfl, rfl⟩ := hq
        simp only [List.nil_append]
        refine ⟨.inl (by kernel_rfl), ?_⟩
        refine .rpG 12 (t := 69) rfl rfl rfl (by kernel_rfl) (by kernel_rfl) (by kernel_rfl) (Reads.pure (.gt rfl rfl)) ?_
        refine .alter (t := 72) (v' := .bool false) rfl (congrArg Value.bool (decide_eq_false (by omega))) ?_
        refine .rp 13 rfl (by kernel_rfl) (by kernel_rfl) (by kernel_rfl) (Reads.pure (.pickF rfl rfl)) ?_
        refine .done (by kernel_rfl) ?_
        refine .condF rfl ?_
        refine .skip ?_
        refine .seq ?_
        refine .draws [2, 3] [blk b14 (b.cells ba bc) 34] (by kernel_rfl) ?_
        refine .rp 0 rfl (by kernel_rfl) (by kernel_rfl) (by kernel_rfl) (Reads.pure (.move rfl)) ?_
        refine .rp 1 rfl (by kernel_rfl) (by kernel_rfl) (by kernel_rfl) (Reads.pure (.fieldAddr fd34_0 rfl)) ?_
        refine .rd 2 rfl rfl (by kernel_rfl) (by kernel_rfl) (by kernel_rfl) (.ld na3 rfl .head rfl) (.cons .head .nil) ?_
        refine .rd 3 rfl rfl (by kernel_rfl) (by kernel_rfl) (by kernel_rfl) (.ldN ia34 ts34 rfl .head rfl) (.cons .head .nil) ?_
        refine .rp 5 rfl (by kernel_rfl) (by kernel_rfl) (by kernel_rfl) (Reads.pure (.move rfl)) ?_
        refine .rp 6 rfl (by kernel_rfl) (by kernel_rfl) (by kernel_rfl) (Reads.pure (.move rfl)) ?_
        refine .rp 7 rfl (by kernel_rfl) (by kernel_rfl) (by kernel_rfl) (Reads.pure (.move rfl)) ?_
        refine .rp 8 rfl (by kernel_rfl) (by kernel_rfl) (by kernel_rfl) (Reads.pure (.add rfl rfl (by omega) (by omega))) ?_
        refine .ef 4 (by kernel_rfl) rfl (.fn rfl rfl .nil (fun _ _ _ => trivial) (end_ok b ba bc (by omega) (by omega) (by omega))) ?_
        rintro v _ ⟨G1, hq, rfl⟩
        obtain ⟨rfl, rfl⟩ := hq
        simp only [List.nil_append]
        refine ⟨.inr ⟨_, (.cons .head .nil)⟩, ?_⟩
        refine .rp 9 rfl (by kernel_rfl) (by kernel_rfl) (by kernel_rfl) (Reads.pure (.build rfl (bld71_0_1_2_3 _ _ _ _))) ?_
        refine .alter (t := 83) (v' := .agg (oneB (Sx.mk b33 nm base (bs.take i) sm aa ac ia ic) b).cells.toArray) rfl (rfl) ?_
        refine .ef 10 (by kernel_rfl) rfl (.fn rfl rfl (.cons (.tail (.tail .head)) (.cons (.tail (.tail .head)) (.cons (.tail (.tail .head)) .nil))) (fun _ _ _ => trivial) (add_ok db (Sx.mk b33 nm base (bs.take i) sm aa ac ia ic) b hss hgd hbn (by show (bs.take i).length < 4096; rw [List.length_take]; omega))) ?_
        rintro v _ ⟨G1, hq, rfl⟩
        obtain ⟨sm', aa', ac', ia', ic', hix', hca', rfl⟩ := hq
        simp only [List.cons_append, List.nil_append]
        refine ⟨.inl (by kernel_rfl), ?_⟩
        refine .done (by kernel_rfl) ?_
        have hlt : (bs.take i).length = i := by rw [List.length_take]; omega
        refine .cast (X' := blk b33 ((Sx.mk b33 nm base (bs.take (i + 1)) sm' aa' ac' ia' ic').cells db) 69) (by rw [← take_snoc hb]) ?_
        refine .perm (.cons (.tail .head) (.cons .head (.cons .head (.cons .head (.cons .head (.cons .head (.cons .head (.cons .head .nil)))))))) ?_
        refine .cast (X' := arr 71 4 aa' ac' (Sx.mk b33 nm base (bs.take (i + 1)) sm' aa' ac' ia' ic').rows) (by rw [← take_snoc hb]) ?_
        refine .region ?_
        refine .rd (.move rfl) ?_
        refine .rd (.move rfl) ?_
        refine .rd (.add rfl rfl (by omega) (by omega)) ?_
        refine .alter (t := 87) (v' := .int .i64 (((flat (bs.take (i + 1))).length : Nat))) rfl (congrArg (Value.int .i64) (by omega)) ?_
        refine .rd (.assign rfl) ?_
        refine .nil ?_
        refine .inBlock ?_
        exact (ih (i + 1, sm', aa', ac', ia', ic') ⟨by omega, by rw [← hlt]; exact hix', by rw [← hlt]; exact hca'⟩ (by show bs.length - (i + 1) < bs.length - i; omega)).to (.cons rfl (.cons rfl (.cons rfl (.cons rfl (.cons rfl .nil))))) (.cons (.tail .head) (.cons .head (.cons .head (.cons (.tail (.tail .head)) (.cons (.tail (.tail .head)) (.cons (.tail (.tail .head)) .nil))))))
      · have hie : i = bs.length := by omega
        have hta : bs.take i = bs := List.take_of_length_le (by omega)
        have hdr : (flat bs ++ rest).drop (flat (bs.take i)).length = rest := by rw [hta, List.drop_left]
        have hre : (readBatch rest).2.2 ≠ 0 := by rcases hstop with h | h; exact absurd g9 (by rw [hta, h]; simp); exact h
        refine .rd (.move rfl) ?_
        refine .rd (.move rfl) ?_
        refine .rd (.sliceT (l := (flat bs ++ rest)) (a := (flat (bs.take i)).length) (h := (flat bs ++ rest).length) Tryz.underlying9 rfl ⟨_, rfl⟩ rfl (by omega) (by omega)) ?_
        refine .alter (t := 55) (v' := .string (str (rest))) rfl (by rw [List.take_of_length_le (by rw [List.length_drop]; omega), hdr]) ?_
        refine .fn rfl rfl .nil (fun _ _ _ => trivial) (ReadBatch_ok rest (by rw [← hdr, List.length_drop]; omega)) (fun v G1 hq => ?_)
        obtain ⟨ba, bc, rfl, rfl⟩ := hq
        simp only [List.cons_append, List.nil_append]
        refine .rd (.move rfl) ?_
        refine .rd (.extract rfl rfl) ?_
        refine .rd (.extract rfl rfl) ?_
        refine .rd (.extract rfl rfl) ?_
        refine .ef (.alloc ti34 rfl (ones.of rfl)) ?_
        rintro _ _ ⟨b14, rfl, rfl⟩
        refine .ef0 (.storeAll ts34 rfl rfl (by rfl) .head rfl (ones.of rfl)) ?_
        rintro _ _ rfl
        refine .rd (.assign rfl) ?_
        refine .rd (.assign rfl) ?_
        refine .nil ?_
        refine .seq ?_
        refine .seq ?_
        refine .draws [4, 10] [] (by kernel_rfl) ?_
        refine .rp 0 rfl (by kernel_rfl) (by kernel_rfl) (by kernel_rfl) (Reads.pure (.move rfl)) ?_
        refine .rp 1 rfl (by kernel_rfl) (by kernel_rfl) (by kernel_rfl) (Reads.pure (.neI rfl rfl)) ?_
        refine .alter (t := 61) (v' := .bool true) rfl (congrArg Value.bool (by rw [decide_eq_false hre]; rfl)) ?_
        refine .rp 2 rfl (by kernel_rfl) (by kernel_rfl) (by kernel_rfl) (Reads.pure (.move rfl)) ?_
        refine .off 3 (t := 62) rfl rfl rfl rfl (by kernel_rfl) (by kernel_rfl) (by kernel_rfl) ?_
        refine .off 4 (t := 62) rfl rfl rfl rfl (by kernel_rfl) (by kernel_rfl) (by kernel_rfl) ?_
        refine .off 5 (t := 62) rfl rfl rfl rfl (by kernel_rfl) (by kernel_rfl) (by kernel_rfl) ?_
        refine .off 6 (t := 62) rfl rfl rfl rfl (by kernel_rfl) (by kernel_rfl) (by kernel_rfl) ?_
        refine .off 7 (t := 62) rfl rfl rfl rfl (by kernel_rfl) (by kernel_rfl) (by kernel_rfl) ?_
        refine .rp 8 rfl (by kernel_rfl) (by kernel_rfl) (by kernel_rfl) (Reads.pure (.pickT rfl rfl)) ?_
        refine .rp 9 rfl (by kernel_rfl) (by kernel_rfl) (by kernel_rfl) (Reads.pure (.move rfl)) ?_
        refine .off 10 (t := 69) rfl rfl rfl rfl (by kernel_rfl) (by kernel_rfl) (by kernel_rfl) ?_
        refine .off 11 (t := 69) rfl rfl rfl rfl (by kernel_rfl) (by kernel_rfl) (by kernel_rfl) ?_
        refine .off 12 (t := 69) rfl rfl rfl rfl (by kernel_rfl) (by kernel_rfl) (by kernel_rfl) ?_
        refine .rp 13 rfl (by kernel_rfl) (by kernel_rfl) (by kernel_rfl) (Reads.pure (.pickT rfl rfl)) ?_
        refine .done (by kernel_rfl) ?_
        refine .condT rfl ?_
        refine .exit rfl ?_
        refine .seq ?_
        have hall : bs.take i = bs := by
          refine List.take_of_length_le ?_
          rcases Nat.lt_or_ge i bs.length with h | h
          · exfalso
            obtain ⟨b, hb⟩ : ∃ b, bs[i]? = some b := ⟨_, List.getElem?_eq_getElem h⟩
            have h2 := (hg b (List.mem_of_getElem? hb)).enc_pos
            have h3 := congrArg List.length (flat_drop (rest := rest) hb)
            simp only [List.length_drop, List.length_append] at h3
            have h5 : (bs.take i).length = i := by rw [List.length_take]; omega
            simp only [List.length_append] at *
            omega
          · exact h
        have hix' : Ix sm bs.length := by have := congrArg List.length hall; rw [List.length_take, Nat.min_eq_left hin] at this; rw [← this]; exact hix
        have hca' : bs.length ≤ ac := by have := congrArg List.length hall; rw [List.length_take, Nat.min_eq_left hin] at this; rw [← this]; exact hca
        refine .alter (t := 13) (v' := .int .i64 ((flat bs).length : Int)) rfl (by rw [hall]) ?_
        refine .perm (.cons (.tail (.tail .head)) (.cons .head (.cons .head (.cons .head (.cons .head (.cons .head (.cons .head (.cons .head .nil)))))))) ?_
        refine .cast (X' := blk b33 ((Sx.mk b33 nm base bs sm aa ac ia ic).cells db) 69) (by rw [hall]) ?_
        refine .perm (.cons (.tail (.tail (.tail .head))) (.cons .head (.cons .head (.cons .head (.cons .head (.cons .head (.cons .head (.cons .head .nil)))))))) ?_
        refine .cast (X' := arr 71 4 aa ac (Sx.mk b33 nm base bs sm aa ac ia ic).rows) (by rw [hall]) ?_
        refine .region ?_
        refine .rd (.move rfl) ?_
        refine .rd (.move rfl) ?_
        refine .rd (.move rfl) ?_
        refine .fn rfl rfl (.cons (.tail (.tail (.tail (.tail (.tail .head))))) (.cons (.tail (.tail (.tail (.tail (.tail .head))))) .nil)) (fun _ _ _ => trivial) (Cut_ok db mb (d.put nm ⟨(d.file nm).b ++ [], (d.file nm).safe⟩) nm (flat bs).length hd1 (Dk.some_put _ _ _) (by rw [Dk.file_put]; show _ ≤ ((d.file nm).b ++ []).length; rw [List.append_nil, ht]; omega)) (fun v G1 hq => ?_)
        obtain ⟨rfl, rfl⟩ := hq
        simp only [List.cons_append, List.nil_append]
        refine .cast (X' := blk db ((d.put nm ⟨flat bs, min (d.file nm).safe (flat bs).length⟩).cells mb) 60) (by rw [Dk.put_put, Dk.file_put]; show _ = _; simp only [List.append_nil, ht, List.take_left]) ?_
        refine .perm (.cons (.tail .head) (.cons .head (.cons .head (.cons .head (.cons .head (.cons .head (.cons .head (.cons .head .nil)))))))) ?_
        refine .cast (X' := mp nmv Fl.val mb (d.put nm ⟨flat bs, min (d.file nm).safe (flat bs).length⟩).fs) (by rw [Dk.put_put, Dk.file_put]; show _ = _; simp only [List.append_nil, ht, List.take_left]) ?_
        refine .nil ?_
        refine .seq ?_
        have hd2 : (d.put nm ⟨flat bs, min (d.file nm).safe (flat bs).length⟩).ok := Dk.ok_put hd (by show _ + (flat bs).length ≤ _; have := congrArg List.length ht; omega) (by show min _ _ ≤ (flat bs).length; omega)
        refine .region ?_
        refine .rd (.move rfl) ?_
        refine .rd (.move rfl) ?_
        refine .fn rfl rfl (.cons (.tail .head) (.cons .head .nil)) (fun _ _ _ => trivial) (Sync_ok db mb (d.put nm ⟨flat bs, min (d.file nm).safe (flat bs).length⟩) nm hd2 (Dk.some_put _ _ _)) (fun v G1 hq => ?_)
        obtain ⟨rfl, rfl⟩ := hq
        simp only [List.cons_append, List.nil_append]
        refine .cast (X' := blk db ((d.put nm ⟨flat bs, (flat bs).length⟩).cells mb) 60) (by rw [Dk.put_put, Dk.file_put]) ?_
        refine .perm (.cons (.tail .head) (.cons .head (.cons .head (.cons .head (.cons .head (.cons .head (.cons .head (.cons .head .nil)))))))) ?_
        refine .cast (X' := mp nmv Fl.val mb (d.put nm ⟨flat bs, (flat bs).length⟩).fs) (by rw [Dk.put_put, Dk.file_put]) ?_
        refine .nil ?_
        refine .seq ?_
        refine .region ?_
        refine .rd (.move rfl) ?_
        refine .rd (.move rfl) ?_
        refine .rd (.lenT rfl rfl Tryz.underlying9 rfl) ?_
        refine .rd (.move rfl) ?_
        refine .rd (.sub rfl rfl (by omega) (by omega)) ?_
        refine .rd (.assign rfl) ?_
        refine .rd (.assign rfl) ?_
        refine .rd (.assign rfl) ?_
        refine .nil ?_
        refine .retP Tryz.func65 (.cons (.tmp rfl) (.cons (.tmp rfl) (.cons (.tmp rfl) .nil))) (.cons (.tail .head) (.cons .head (.cons (.tail .head) (.cons .head (.cons (.tail (.tail .head)) (.cons (.tail (.tail .head)) .nil)))))) ?_
        exact ⟨[_, _, _, _, _], ⟨b33, sm, aa, ac, ia, ic, seg_ret (by omega), hix', hca', rfl⟩, rfl⟩
    · refine .exit rfl ?_
      refine .seq ?_
      have hall : bs.take i = bs := by
        refine List.take_of_length_le ?_
        rcases Nat.lt_or_ge i bs.length with h | h
        · exfalso
          obtain ⟨b, hb⟩ : ∃ b, bs[i]? = some b := ⟨_, List.getElem?_eq_getElem h⟩
          have h2 := (hg b (List.mem_of_getElem? hb)).enc_pos
          have h3 := congrArg List.length (flat_drop (rest := rest) hb)
          simp only [List.length_drop, List.length_append] at h3
          have h5 : (bs.take i).length = i := by rw [List.length_take]; omega
          simp only [List.length_append] at *
          omega
        · exact h
      have hix' : Ix sm bs.length := by have := congrArg List.length hall; rw [List.length_take, Nat.min_eq_left hin] at this; rw [← this]; exact hix
      have hca' : bs.length ≤ ac := by have := congrArg List.length hall; rw [List.length_take, Nat.min_eq_left hin] at this; rw [← this]; exact hca
      refine .alter (t := 13) (v' := .int .i64 ((flat bs).length : Int)) rfl (by rw [hall]) ?_
      refine .cast (X' := blk b33 ((Sx.mk b33 nm base bs sm aa ac ia ic).cells db) 69) (by rw [hall]) ?_
      refine .perm (.cons (.tail .head) (.cons .head (.cons .head (.cons .head (.cons .head (.cons .head .nil)))))) ?_
      refine .cast (X' := arr 71 4 aa ac (Sx.mk b33 nm base bs sm aa ac ia ic).rows) (by rw [hall]) ?_
      refine .region ?_
      refine .rd (.move rfl) ?_
      refine .rd (.move rfl) ?_
      refine .rd (.move rfl) ?_
      refine .fn rfl rfl (.cons (.tail (.tail (.tail .head))) (.cons (.tail (.tail (.tail .head))) .nil)) (fun _ _ _ => trivial) (Cut_ok db mb (d.put nm ⟨(d.file nm).b ++ [], (d.file nm).safe⟩) nm (flat bs).length hd1 (Dk.some_put _ _ _) (by rw [Dk.file_put]; show _ ≤ ((d.file nm).b ++ []).length; rw [List.append_nil, ht]; omega)) (fun v G1 hq => ?_)
      obtain ⟨rfl, rfl⟩ := hq
      simp only [List.cons_append, List.nil_append]
      refine .cast (X' := blk db ((d.put nm ⟨flat bs, min (d.file nm).safe (flat bs).length⟩).cells mb) 60) (by rw [Dk.put_put, Dk.file_put]; show _ = _; simp only [List.append_nil, ht, List.take_left]) ?_
      refine .perm (.cons (.tail .head) (.cons .head (.cons .head (.cons .head (.cons .head (.cons .head .nil)))))) ?_
      refine .cast (X' := mp nmv Fl.val mb (d.put nm ⟨flat bs, min (d.file nm).safe (flat bs).length⟩).fs) (by rw [Dk.put_put, Dk.file_put]; show _ = _; simp only [List.append_nil, ht, List.take_left]) ?_
      refine .nil ?_
      refine .seq ?_
      have hd2 : (d.put nm ⟨flat bs, min (d.file nm).safe (flat bs).length⟩).ok := Dk.ok_put hd (by show _ + (flat bs).length ≤ _; have := congrArg List.length ht; omega) (by show min _ _ ≤ (flat bs).length; omega)
      refine .region ?_
      refine .rd (.move rfl) ?_
      refine .rd (.move rfl) ?_
      refine .fn rfl rfl (.cons (.tail .head) (.cons .head .nil)) (fun _ _ _ => trivial) (Sync_ok db mb (d.put nm ⟨flat bs, min (d.file nm).safe (flat bs).length⟩) nm hd2 (Dk.some_put _ _ _)) (fun v G1 hq => ?_)
      obtain ⟨rfl, rfl⟩ := hq
      simp only [List.cons_append, List.nil_append]
      refine .cast (X' := blk db ((d.put nm ⟨flat bs, (flat bs).length⟩).cells mb) 60) (by rw [Dk.put_put, Dk.file_put]) ?_
      refine .perm (.cons (.tail .head) (.cons .head (.cons .head (.cons .head (.cons .head (.cons .head .nil)))))) ?_
      refine .cast (X' := mp nmv Fl.val mb (d.put nm ⟨flat bs, (flat bs).length⟩).fs) (by rw [Dk.put_put, Dk.file_put]) ?_
      refine .nil ?_
      refine .seq ?_
      refine .region ?_
      refine .rd (.move rfl) ?_
      refine .rd (.move rfl) ?_
      refine .rd (.lenT rfl rfl Tryz.underlying9 rfl) ?_
      refine .rd (.move rfl) ?_
      refine .rd (.sub rfl rfl (by omega) (by omega)) ?_
      refine .rd (.assign rfl) ?_
      refine .rd (.assign rfl) ?_
      refine .rd (.assign rfl) ?_
      refine .nil ?_
      refine .retP Tryz.func65 (.cons (.tmp rfl) (.cons (.tmp rfl) (.cons (.tmp rfl) .nil))) (.cons (.tail .head) (.cons .head (.cons (.tail .head) (.cons .head (.cons .head (.cons .head .nil)))))) ?_
      exact ⟨[_, _, _, _, _], ⟨b33, sm, aa, ac, ia, ic, seg_ret (by omega), hix', hca', rfl⟩, rfl⟩
  · replace g9 := of_decide_eq_false g9
    refine .off (t := 44) rfl rfl rfl ?_
    refine .off (t := 44) rfl rfl rfl ?_
    refine .off (t := 44) rfl rfl rfl ?_
    refine .off (t := 44) rfl rfl rfl ?_
    refine .off (t := 44) rfl rfl rfl ?_
    refine .off (t := 44) rfl rfl rfl ?_
    refine .rd (.pickF rfl rfl) ?_
    refine .nil ?_
    refine .condF rfl ?_
    refine .exit rfl ?_
    refine .seq ?_
    have hall : bs.take i = bs := by
      refine List.take_of_length_le ?_
      rcases Nat.lt_or_ge i bs.length with h | h
      · exfalso
        obtain ⟨b, hb⟩ : ∃ b, bs[i]? = some b := ⟨_, List.getElem?_eq_getElem h⟩
        have h2 := (hg b (List.mem_of_getElem? hb)).enc_pos
        have h3 := congrArg List.length (flat_drop (rest := rest) hb)
        simp only [List.length_drop, List.length_append] at h3
        have h5 : (bs.take i).length = i := by rw [List.length_take]; omega
        simp only [List.length_append] at *
        omega
      · exact h
    have hix' : Ix sm bs.length := by have := congrArg List.length hall; rw [List.length_take, Nat.min_eq_left hin] at this; rw [← this]; exact hix
    have hca' : bs.length ≤ ac := by have := congrArg List.length hall; rw [List.length_take, Nat.min_eq_left hin] at this; rw [← this]; exact hca
    refine .alter (t := 13) (v' := .int .i64 ((flat bs).length : Int)) rfl (by rw [hall]) ?_
    refine .cast (X' := blk b33 ((Sx.mk b33 nm base bs sm aa ac ia ic).cells db) 69) (by rw [hall]) ?_
    refine .perm (.cons (.tail .head) (.cons .head (.cons .head (.cons .head (.cons .head (.cons .head .nil)))))) ?_
    refine .cast (X' := arr 71 4 aa ac (Sx.mk b33 nm base bs sm aa ac ia ic).rows) (by rw [hall]) ?_
    refine .region ?_
    refine .rd (.move rfl) ?_
    refine .rd (.move rfl) ?_
    refine .rd (.move rfl) ?_
    refine .fn rfl rfl (.cons (.tail (.tail (.tail .head))) (.cons (.tail (.tail (.tail .head))) .nil)) (fun _ _ _ => trivial) (Cut_ok db mb (d.put nm ⟨(d.file nm).b ++ [], (d.file nm).safe⟩) nm (flat bs).length hd1 (Dk.some_put _ _ _) (by rw [Dk.file_put]; show _ ≤ ((d.file nm).b ++ []).length; rw [List.append_nil, ht]; omega)) (fun v G1 hq => ?_)
    obtain ⟨rfl, rfl⟩ := hq
    simp only [List.cons_append, List.nil_append]
    refine .cast (X' := blk db ((d.put nm ⟨flat bs, min (d.file nm).safe (flat bs).length⟩).cells mb) 60) (by rw [Dk.put_put, Dk.file_put]; show _ = _; simp only [List.append_nil, ht, List.take_left]) ?_
    refine .perm (.cons (.tail .head) (.cons .head (.cons .head (.cons .head (.cons .head (.cons .head .nil)))))) ?_
    refine .cast (X' := mp nmv Fl.val mb (d.put nm ⟨flat bs, min (d.file nm).safe (flat bs).length⟩).fs) (by rw [Dk.put_put, Dk.file_put]; show _ = _; simp only [List.append_nil, ht, List.take_left]) ?_
    refine .nil ?_
    refine .seq ?_
    have hd2 : (d.put nm ⟨flat bs, min (d.file nm).safe (flat bs).length⟩).ok := Dk.ok_put hd (by show _ + (flat bs).length ≤ _; have := congrArg List.length ht; omega) (by show min _ _ ≤ (flat bs).length; omega)
    refine .region ?_
    refine .rd (.move rfl) ?_
    refine .rd (.move rfl) ?_
    refine .fn rfl rfl (.cons (.tail .head) (.cons .head .nil)) (fun _ _ _ => trivial) (Sync_ok db mb (d.put nm ⟨flat bs, min (d.file nm).safe (flat bs).length⟩) nm hd2 (Dk.some_put _ _ _)) (fun v G1 hq => ?_)
    obtain ⟨rfl, rfl⟩ := hq
    simp only [List.cons_append, List.nil_append]
    refine .cast (X' := blk db ((d.put nm ⟨flat bs, (flat bs).length⟩).cells mb) 60) (by rw [Dk.put_put, Dk.file_put]) ?_
    refine .perm (.cons (.tail .head) (.cons .head (.cons .head (.cons .head (.cons .head (.cons .head .nil)))))) ?_
    refine .cast (X' := mp nmv Fl.val mb (d.put nm ⟨flat bs, (flat bs).length⟩).fs) (by rw [Dk.put_put, Dk.file_put]) ?_
    refine .nil ?_
    refine .seq ?_
    refine .region ?_
    refine .rd (.move rfl) ?_
    refine .rd (.move rfl) ?_
    refine .rd (.lenT rfl rfl Tryz.underlying9 rfl) ?_
    refine .rd (.move rfl) ?_
    refine .rd (.sub rfl rfl (by omega) (by omega)) ?_
    refine .rd (.assign rfl) ?_
    refine .rd (.assign rfl) ?_
    refine .rd (.assign rfl) ?_
    refine .nil ?_
    refine .retP Tryz.func65 (.cons (.tmp rfl) (.cons (.tmp rfl) (.cons (.tmp rfl) .nil))) (.cons (.tail .head) (.cons .head (.cons (.tail .head) (.cons .head (.cons .head (.cons .head .nil)))))) ?_
    exact ⟨[_, _, _, _, _], ⟨b33, sm, aa, ac, ia, ic, seg_ret (by omega), hix', hca', rfl⟩, rfl⟩

end Go.Proofs.YtglhoenjflpibaaGreatDoor

