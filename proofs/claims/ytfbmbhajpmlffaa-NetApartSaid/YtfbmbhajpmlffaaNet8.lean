/- Steps through functions of the program, under conditions that each theorem states (part net8 of a claim). -/
import Derived.Test.YtfbmbhajpmlffaaProg
import Derived.Test.YtfbmbhajpmlffaaL9
import Derived.Test.YtfbmbhajpmlffaaDefs
import Derived.Test.YtfbmbhajpmlffaaNet7
namespace Go.Proofs.Ytfbmbhajpmlffaa
open Go Go.Sp

set_option linter.unusedVariables false

namespace net8
theorem fd32_1 : FD Try.prog 32 1 1 := .of Try.underlying32 (by kernel_rfl)
theorem na3 : NotAgg Try.prog 3 := ⟨_, Try.underlying3, trivial⟩
theorem fd32_2 : FD Try.prog 32 2 2 := .of Try.underlying32 (by kernel_rfl)
theorem ts32 : TS Try.prog 32 21 := .of (by kernel_rfl)
theorem ia32 : IsAgg Try.prog 32 := ⟨_, Try.underlying32, trivial⟩
theorem ti32 : TI Try.prog 32 21 232 (.agg #[.int .i64 0, .int .i64 0, .int .i64 0, .int .i64 0, .int .i64 0, .int .i64 0, .int .i64 0, .int .i64 0, .int .i64 0, .int .i64 0, .int .i64 0, .int .i64 0, .int .i64 0, .int .i64 0, .int .i64 0, .int .i64 0, .string ⟨#[]⟩, .string ⟨#[]⟩, .slice none 0 0, .slice none 0 0, .slice none 0 0]) := .of (by kernel_rfl)
theorem fd57_1 : FD Try.prog 57 1 1 := .of Try.underlying57 (by kernel_rfl)
theorem na53 : NotAgg Try.prog 53 := ⟨_, Try.underlying53, trivial⟩
theorem fd57_0 : FD Try.prog 57 0 0 := .of Try.underlying57 (by kernel_rfl)
theorem fd55_0 : FD Try.prog 55 0 0 := .of Try.underlying55 (by kernel_rfl)
theorem na42 : NotAgg Try.prog 42 := ⟨_, Try.underlying42, trivial⟩
theorem ts42 : TS Try.prog 42 1 := .of (by kernel_rfl)
end net8
open net8

def hit (x y : Int) (p : Pm) : Bool := decide (endsS p.1.hd.frm p.1.hd.to = endsS x y)
def FV (c4 c5 : Nat) : Value := .func (.func 30) #[] #[.pointer (some ⟨c4, 0, none⟩), .pointer (some ⟨c5, 0, none⟩)]
theorem zeros_len (n : Nat) : (Builtin.zeroCells (Value.agg (mcells (toS 0 0 0) .sn .sn .sn).toArray).cells n).toList.length = n * 21 := by
  simp [Builtin.zeroCells, Value.cells, mcells]
theorem cut_end {l' : List Pm} {i : Nat} (hi : i ≤ l'.length) {pre post zs : List Value} (hz : zs.length = (l'.length - i) * 21) :
    splice (pre ++ (l'.flatMap pcell ++ post)) (pre.length + i * 21) zs = pre ++ ((l'.take i).flatMap pcell ++ (zs ++ post)) := by
  have hf := flat_length pcell_len l'
  rw [splice_mid (by omega)]
  unfold splice
  rw [flat_take pcell_len, List.drop_eq_nil_of_le (by omega)]
  simp [List.append_assoc]
theorem sat.app_left' {A B : SProp} {Γ h} (H : ∀ h, A h → B h) (s : sat (A :: Γ) h) : sat (B :: Γ) h := by
  obtain ⟨h1, h2, ok, l1, l2, a, t⟩ := s
  exact ⟨h1, h2, ok, l1, l2, H _ a, t⟩
theorem flt_start {l : List Pm} {i : Nat} {p : Pm} {x y : Int} (hp : l[i]? = some p) (hh : hit x y p = true) (hn : ∀ q ∈ l.take i, hit x y q = false) : l.take i = (l.take (i + 1)).filter (fun q => !hit x y q) := by
  rw [List.take_add_one, hp, List.filter_append]
  have : (l.take i).filter (fun q => !hit x y q) = l.take i := List.filter_eq_self.2 fun q hq => by simp [hn q hq]
  rw [this]; simp [hh]
theorem Knows.arrCap {Γ Γ' : List SProp} {a c} {l : List Pm} (p : Pick (arr 32 21 a c (l.flatMap pcell)) Γ Γ') : Knows Γ fun _ => l.length ≤ c := fun A w h => by
  have := (h.map fun _ => p.sat).arr_len.1
  rw [flat_length pcell_len] at this; omega
theorem part_sat {A B C : SProp} {ps : List Pm} {x y : Int} {h} (H : sat [A, B, sat (owms ps), C] h) : sat [A, B, sat (owms (ps.filter fun q => !hit x y q)), C] h :=
  sat.cons (fun _ H => sat.cons (fun _ H => sat.app_left' (fun _ s => sat.filter (fun p : Pm => owm p.1 p.2) _ ps s) H) H) H

theorem Part1_ok (m : Msg) (s : Ms) (x y : Int) (c4 c5 : Nat) : Cn Try.prog 30 [.agg (mval m s).toArray, .pointer (some ⟨c4, 0, none⟩), .pointer (some ⟨c5, 0, none⟩)] (fun _ => True) [blk c4 [.int .i64 x] 3, blk c5 [.int .i64 y] 3] fun v G => v = .bool (hit x y (m, s)) ∧ G = [blk c4 [.int .i64 x] 3, blk c5 [.int .i64 y] 3] := by
  refine .enter Try.func30 rfl (by kernel_rfl) rfl fun R k => ?_
  refine .seq ?_
  refine .region ?_   -- R0 network.go:82
  refine .ef (.box (l := mval m s) rfl rfl (ones.of rfl)) ?_
  rintro _ _ ⟨b3, rfl, rfl⟩
  refine .rd (.assign rfl) ?_
  refine .nil ?_
  refine .seq ?_
  refine .draws [1, 3, 5, 6] [blk b3 (mval m s) 32, blk c4 [.int .i64 x] 3, blk c5 [.int .i64 y] 3] (by kernel_rfl) ?_   -- R1 network.go:82
  refine .rp 0 rfl (by kernel_rfl) (by kernel_rfl) (by kernel_rfl) (Reads.pure (.fieldAddr fd32_1 rfl)) ?_
  refine .rd 1 rfl rfl (by kernel_rfl) (by kernel_rfl) (by kernel_rfl) (.ld na3 rfl .head rfl) (.cons .head (.cons .head (.cons .head .nil))) ?_
  refine .rp 2 rfl (by kernel_rfl) (by kernel_rfl) (by kernel_rfl) (Reads.pure (.fieldAddr fd32_2 rfl)) ?_
  refine .rd 3 rfl rfl (by kernel_rfl) (by kernel_rfl) (by kernel_rfl) (.ld na3 rfl .head rfl) (.cons .head (.cons .head (.cons .head .nil))) ?_
  refine .rd 5 rfl rfl (by kernel_rfl) (by kernel_rfl) (by kernel_rfl) (.ld na3 rfl (.tail .head) rfl) (.cons .head (.cons .head (.cons .head .nil))) ?_
  refine .rd 6 rfl rfl (by kernel_rfl) (by kernel_rfl) (by kernel_rfl) (.ld na3 rfl (.tail (.tail .head)) rfl) (.cons .head (.cons .head (.cons .head .nil))) ?_
  refine .ef 4 (by kernel_rfl) rfl (.fn rfl rfl .nil (fun _ _ _ => trivial) (ends_ok _ _)) ?_
  rintro v _ ⟨G1, hq, rfl⟩
  obtain ⟨rfl, rfl⟩ := hq
  simp only [List.nil_append]
  refine ⟨.inr ⟨_, (.cons .head (.cons .head (.cons .head .nil)))⟩, ?_⟩
  refine .ef 7 (by kernel_rfl) rfl (.fn rfl rfl .nil (fun _ _ _ => trivial) (ends_ok _ _)) ?_
  rintro v _ ⟨G1, hq, rfl⟩
  obtain ⟨rfl, rfl⟩ := hq
  simp only [List.nil_append]
  refine ⟨.inl (by kernel_rfl), ?_⟩
  refine .rp 8 rfl (by kernel_rfl) (by kernel_rfl) (by kernel_rfl) (Reads.pure (.eqA (xs := #[_, _]) (ys := #[_, _]) (by kernel_rfl) rfl (eq60 (endsS m.hd.frm m.hd.to) (endsS x y)) rfl rfl)) ?_
  refine .rp 9 rfl (by kernel_rfl) (by kernel_rfl) (by kernel_rfl) (Reads.pure (.assign rfl)) ?_
  refine .done (by kernel_rfl) ?_
  refine .retP Try.func30 (.cons (.tmp rfl) .nil) (.cons (.tail .head) (.cons (.tail .head) (.cons (.tail .head) .nil))) ?_
  exact ⟨[_, _], ⟨rfl, rfl⟩, rfl⟩

theorem IndexFunc_ok (a : Option Addr) (c : Nat) (l : List Pm) (x y : Int) (c4 c5 : Nat) (hb : l.length ≤ 100000) : Cn Try.prog 37 [.slice a l.length c, FV c4 c5] (fun _ => True) [arr 32 21 a c (l.flatMap pcell), blk c4 [.int .i64 x] 3, blk c5 [.int .i64 y] 3] fun v G =>
    ((∃ (i : Nat) (p : Pm), l[i]? = some p ∧ hit x y p = true ∧ (∀ q ∈ l.take i, hit x y q = false) ∧ v = .int .i64 i) ∨ ((∀ q ∈ l, hit x y q = false) ∧ v = .int .i64 (-1))) ∧ G = [arr 32 21 a c (l.flatMap pcell), blk c4 [.int .i64 x] 3, blk c5 [.int .i64 y] 3] := by
  refine .enter Try.func37 rfl (by kernel_rfl) rfl fun R k => ?_
  refine .seq ?_
  refine .region ?_   -- R0 slices.go:107
  refine .rd (.assign rfl) ?_
  refine .nil ?_
  refine .seq ?_
  refine .seq ?_
  refine .region ?_   -- R1 slices.go:108
  refine .rd (.move rfl) ?_
  refine .rd (.lenL rfl rfl Try.underlying42 rfl) ?_
  refine .rd (.move rfl) ?_
  refine .nil ?_
  refine .block ?_
  refine .loop (σ := Nat) (fun i => i ≤ l.length ∧ ∀ q ∈ l.take i, hit x y q = false) (fun i => l.length - i) (fun i => [(0, .slice a l.length c), (1, FV c4 c5), (7, .int .i64 l.length), (8, .int .i64 (i : Nat))]) (fun i => [arr 32 21 a c (l.flatMap pcell), blk c4 [.int .i64 x] 3, blk c5 [.int .i64 y] 3, R]) 0 ⟨Nat.zero_le _, by simp⟩ (.cons rfl (.cons rfl (.cons rfl (.cons rfl .nil)))) (.cons .head (.cons .head (.cons .head (.cons .head .nil)))) (fun i hI ih => ?_)
  obtain ⟨hi, hno⟩ := hI
  refine .seq ?_
  refine .region ?_   -- R2 slices.go:108
  refine .rd (.lt rfl rfl) ?_
  refine .nil ?_
  refine .seq ?_
  refine .condP rfl (fun hc2 => ?_) (fun hc2 => ?_)
  · refine .skip ?_
    refine .seq ?_
    refine .block ?_
    refine .seq ?_
    refine .region ?_   -- R3 slices.go:108
    refine .rd (.move rfl) ?_
    refine .rd (.assign rfl) ?_
    refine .nil ?_
    refine .seq ?_
    have hj : i < l.length := by omega
    obtain ⟨p, hp⟩ : ∃ p, l[i]? = some p := ⟨_, List.getElem?_eq_getElem hj⟩
    have hfl : (l.flatMap pcell).length = l.length * 21 := flat_length pcell_len l
    refine .tell (φ := ∃ b o, a = some ⟨b, o, none⟩) ((Knows.arr .head).mono fun _ h => h.addr (by omega)) (fun hx => ?_)
    obtain ⟨bb, oo, rfl⟩ := hx
    refine .region ?_   -- R4 slices.go:109
    refine .rd (.move rfl) ?_
    refine .rd (.move rfl) ?_
    refine .rd (.move rfl) ?_
    refine .rd (.indexAddr Try.underlying42 ts32 rfl rfl (by omega) (by omega)) ?_
    refine .rd (.loadN ia32 ts32 rfl rfl (Knows.elem pcell_len (by decide) (Knows.arr .head) hp)) ?_
    refine .fnC rfl rfl (.cons (.tail .head) (.cons (.tail .head) .nil)) (fun _ _ _ => trivial) (Part1_ok p.1 p.2 x y c4 c5) (fun v G1 hq => ?_)
    obtain ⟨rfl, rfl⟩ := hq
    simp only [List.cons_append, List.nil_append]
    refine .nil ?_
    refine .cond rfl (fun c4_ => ?_) (fun c4_ => ?_)
    · refine .seq ?_
      refine .region ?_   -- R5 slices.go:110
      refine .rd (.move rfl) ?_
      refine .rd (.assign rfl) ?_
      refine .nil ?_
      refine .retP Try.func37 (.cons (.tmp rfl) .nil) (.cons (.tail (.tail .head)) (.cons .head (.cons .head (.cons .head .nil)))) ?_
      exact ⟨[_, _, _], ⟨.inl ⟨i, p, hp, c4_, hno, rfl⟩, rfl⟩, rfl⟩
    · refine .skip ?_
      refine .inBlock ?_
      refine .region ?_   -- R6 slices.go:108
      refine .rd (.add rfl rfl (by omega) (by omega)) ?_
      refine .rd (.move rfl) ?_
      refine .nil ?_
      refine (ih (i + 1) ⟨by omega, fun q hq => ?_⟩ (by omega)).to (.cons rfl (.cons rfl (.cons rfl (.cons rfl .nil)))) (.cons (.tail (.tail .head)) (.cons .head (.cons .head (.cons .head .nil))))
      rw [List.take_add_one, hp] at hq
      simp only [Option.toList_some, List.mem_append, List.mem_singleton] at hq
      rcases hq with hq | rfl
      · exact hno q hq
      · exact c4_
  · refine .exit rfl ?_
    refine .seq ?_
    refine .region ?_   -- R7 slices.go:113
    refine .rd (.assign rfl) ?_
    refine .nil ?_
    refine .retP Try.func37 (.cons (.tmp rfl) .nil) (.cons .head (.cons .head (.cons .head (.cons .head .nil)))) ?_
    refine ⟨[_, _, _], ⟨.inr ⟨?_, rfl⟩, rfl⟩, rfl⟩
    rw [List.take_of_length_le (by omega)] at hno
    exact hno

theorem DeleteFunc_ok (a : Option Addr) (c : Nat) (l : List Pm) (x y : Int) (c4 c5 : Nat) (hb : l.length ≤ 100000) : Cn Try.prog 29 [.slice a l.length c, FV c4 c5] (fun _ => True) [arr 32 21 a c (l.flatMap pcell), blk c4 [.int .i64 x] 3, blk c5 [.int .i64 y] 3] fun v G =>
    v = .slice a (l.filter fun q => !hit x y q).length c ∧ G = [arr 32 21 a c ((l.filter fun q => !hit x y q).flatMap pcell), blk c4 [.int .i64 x] 3, blk c5 [.int .i64 y] 3] := by
  refine .enter Try.func29 rfl (by kernel_rfl) rfl fun R k => ?_
  refine .seq ?_
  refine .region ?_   -- R0 slices.go:241
  refine .rd (.assign rfl) ?_
  refine .nil ?_
  refine .seq ?_
  refine .region ?_   -- R1 slices.go:242
  refine .rd (.move rfl) ?_
  refine .rd (.move rfl) ?_
  refine .fn rfl rfl (.cons .head (.cons .head (.cons .head .nil))) (fun _ _ _ => trivial) (IndexFunc_ok a c l x y c4 c5 hb) (fun v G1 hq => ?_)
  obtain ⟨hv, rfl⟩ := hq
  obtain ⟨z, rfl⟩ : ∃ z : Int, v = .int .i64 z := by rcases hv with ⟨i, _, _, _, _, h⟩ | ⟨_, h⟩ <;> exact ⟨_, h⟩
  simp only [List.cons_append, List.nil_append]
  refine .rd (.assign rfl) ?_
  refine .nil ?_
  refine .seq ?_
  refine .seq ?_
  refine .region ?_   -- R2 slices.go:243
  refine .rd (.move rfl) ?_
  refine .rd (.eqI rfl rfl) ?_
  refine .nil ?_
  refine .condP rfl (fun hz2 => ?_) (fun hz2 => ?_)
  · have hno : ∀ q ∈ l, hit x y q = false := by
      rcases hv with ⟨i, _, _, _, _, h⟩ | ⟨h, _⟩
      · rw [hz2] at h; injection h with _ h; omega
      · exact h
    refine .seq ?_
    refine .region ?_   -- R3 slices.go:244
    refine .rd (.move rfl) ?_
    refine .rd (.assign rfl) ?_
    refine .nil ?_
    have hfe : (l.filter fun q => !hit x y q) = l := List.filter_eq_self.2 fun q hq => by simp [hno q hq]
    refine .retP Try.func29 (.cons (.tmp rfl) .nil) (.cons .head (.cons .head (.cons .head (.cons .head .nil)))) ?_
    rw [hfe]
    exact ⟨[_, _, _], ⟨rfl, rfl⟩, rfl⟩
  · obtain ⟨i0, p0, hp0, hh0, hn0, hz⟩ : ∃ (i : Nat) (p : Pm), l[i]? = some p ∧ hit x y p = true ∧ (∀ q ∈ l.take i, hit x y q = false) ∧ z = i := by
      rcases hv with ⟨i, p, h1, h2, h3, h⟩ | ⟨_, h⟩
      · injection h with _ h; exact ⟨i, p, h1, h2, h3, h⟩
      · injection h with _ h; omega
    subst hz
    have hi0 : i0 < l.length := (List.getElem?_eq_some_iff.1 hp0).1
    have hfl : (l.flatMap pcell).length = l.length * 21 := flat_length pcell_len l
    refine .tell ((Knows.arrCap .head)) (fun hcap => ?_)
    refine .open_ .head (fun h => arr.blk_of (by omega)) (fun x hx => ?_)
    obtain ⟨b, pre, post⟩ := x
    obtain ⟨rfl, hlen⟩ := hx
    dsimp only at hlen
    simp only [List.cons_append, List.nil_append]
    refine .skip ?_
    refine .seq ?_
    refine .seq ?_
    refine .region ?_   -- R4 slices.go:247
    refine .rd (.move rfl) ?_
    refine .rd (.add rfl rfl (by omega) (by omega)) ?_
    refine .rd (.assign rfl) ?_
    refine .nil ?_
    refine .block ?_
    refine .loop (σ := Nat × Nat × List Pm) (fun ⟨i, j, l'⟩ => i < j ∧ j ≤ l.length ∧ l'.length = l.length ∧ l'.take i = (l.take j).filter (fun q => !hit x y q) ∧ l'.drop j = l.drop j) (fun ⟨i, j, l'⟩ => l.length - j) (fun ⟨i, j, l'⟩ => [(0, .slice (some ⟨b, pre.length, none⟩) l.length c), (1, FV c4 c5), (5, .int .i64 (i : Nat)), (6, .int .i64 (j : Nat))]) (fun ⟨i, j, l'⟩ => [blk b (pre ++ (l'.flatMap pcell ++ post)) 32, blk c4 [.int .i64 x] 3, blk c5 [.int .i64 y] 3, R]) (i0, i0 + 1, l) ⟨Nat.lt_succ_self _, hi0, rfl, flt_start hp0 hh0 hn0, rfl⟩ (.cons rfl (.cons rfl (.cons rfl (.cons rfl .nil)))) (.cons .head (.cons .head (.cons .head (.cons .head .nil)))) (fun s hI ih => ?_)
    obtain ⟨i, j, l'⟩ := s
    dsimp only at hI ih ⊢
    obtain ⟨hij, hjl, hll, htk, hdr⟩ := hI
    refine .seq ?_
    refine .seq ?_
    refine .region ?_   -- R5 slices.go:247
    refine .rd (.move rfl) ?_
    refine .rd (.move rfl) ?_
    refine .rd (.lenL rfl rfl Try.underlying42 rfl) ?_
    refine .rd (.lt rfl rfl) ?_
    refine .nil ?_
    refine .condP rfl (fun hc5 => ?_) (fun hc5 => ?_)
    · refine .skip ?_
      refine .seq ?_
      refine .block ?_
      refine .seq ?_
      have hj : j < l.length := by omega
      obtain ⟨p, hp⟩ : ∃ p, l[j]? = some p := ⟨_, List.getElem?_eq_getElem hj⟩
      have hp' : l'[j]? = some p := by
        have := congrArg (fun k : List Pm => k[0]?) hdr
        simpa [List.getElem?_drop, hp] using this
      refine .region ?_   -- R7 slices.go:248
      refine .rd (.move rfl) ?_
      refine .rd (.move rfl) ?_
      refine .rd (.indexAddr Try.underlying42 ts32 rfl rfl (by omega) (by omega)) ?_
      refine .rd (.loadN ia32 ts32 rfl rfl (Knows.mid pcell_len .head hp')) ?_
      refine .ef (.alloc ti32 rfl (ones.of rfl)) ?_
      rintro _ _ ⟨b7, rfl, rfl⟩
      refine .ef0 (.storeAll (vs := mval p.1 p.2) ts32 rfl rfl rfl .head rfl (ones.of rfl)) ?_
      rintro _ _ rfl
      refine .nil ?_
      refine .seq ?_
      refine .region ?_   -- R8 slices.go:248
      refine .rd (.move rfl) ?_
      refine .rd (.ldN ia32 ts32 rfl .head rfl) ?_
      refine .fnC rfl rfl (.cons (.tail (.tail .head)) (.cons (.tail (.tail .head)) .nil)) (fun _ _ _ => trivial) (Part1_ok p.1 p.2 x y c4 c5) (fun v G1 hq => ?_)
      obtain ⟨rfl, rfl⟩ := hq
      simp only [List.cons_append, List.nil_append]
      refine .rd (.not rfl) ?_
      refine .nil ?_
      refine .cond rfl (fun c8_ => ?_) (fun c8_ => ?_)
      · refine .seq ?_
        refine .region ?_   -- R9 slices.go:249
        refine .rd (.move rfl) ?_
        refine .rd (.move rfl) ?_
        refine .rd (.ldN ia32 ts32 rfl (.tail (.tail .head)) rfl) ?_
        refine .rd (.indexAddr Try.underlying42 ts32 rfl rfl (by omega) (by omega)) ?_
        refine .ef0 (.storeN (vs := mval p.1 p.2) ts32 rfl rfl rfl (.tail (.tail (.tail .head))) (by simp only [List.length_append, flat_length pcell_len, mval_len, Int.toNat_natCast]; omega) (ones.of rfl)) ?_
        rintro _ _ rfl
        refine .nil ?_
        have hsp : splice (pre ++ (l'.flatMap pcell ++ post)) (pre.length + (i : Int).toNat * 21) (mval p.1 p.2) = pre ++ ((l'.set i p).flatMap pcell ++ post) := by rw [Int.toNat_natCast, splice_mid (by rw [flat_length pcell_len, mval_len]; omega)]; rw [show mval p.1 p.2 = pcell p from rfl, splice_elem pcell_len l' i (by omega) p]
        rw [hsp]
        refine .region ?_   -- R10 slices.go:250
        refine .rd (.move rfl) ?_
        refine .rd (.add rfl rfl (by omega) (by omega)) ?_
        refine .rd (.assign rfl) ?_
        refine .nil ?_
        refine .inBlock ?_
        refine .region ?_   -- R6 slices.go:247
        refine .rd (.move rfl) ?_
        refine .rd (.add rfl rfl (by omega) (by omega)) ?_
        refine .rd (.assign rfl) ?_
        refine .nil ?_
        refine (ih (i + 1, j + 1, l'.set i p) ⟨?_, ?_, ?_, ?_, ?_⟩ (by show l.length - (j + 1) < _; omega)).to (.cons rfl (.cons rfl (.cons rfl (.cons rfl .nil)))) (.cons .head (.cons .head (.cons .head (.cons (.tail .head) .nil))))
        · show i + 1 < j + 1; omega
        · show j + 1 ≤ _; omega
        · show (l'.set i p).length = _; simp [hll]
        · show (l'.set i p).take (i + 1) = (l.take (j + 1)).filter _
          have hil : i < l'.length := by omega
          rw [List.take_add_one, List.take_add_one, hp, List.filter_append, ← htk, List.take_set_of_le (Nat.le_refl _), List.getElem?_set_self hil]
          simp [c8_]
        · show (l'.set i p).drop (j + 1) = _
          rw [List.drop_set_of_lt (by omega), ← List.drop_drop, ← List.drop_drop, hdr]
      · refine .skip ?_
        refine .inBlock ?_
        refine .region ?_   -- R6 slices.go:247
        refine .rd (.move rfl) ?_
        refine .rd (.add rfl rfl (by omega) (by omega)) ?_
        refine .rd (.assign rfl) ?_
        refine .nil ?_
        refine (ih (i, j + 1, l') ⟨?_, ?_, hll, ?_, ?_⟩ (by show l.length - (j + 1) < _; omega)).to (.cons rfl (.cons rfl (.cons rfl (.cons rfl .nil)))) (.cons (.tail (.tail (.tail .head))) (.cons .head (.cons .head (.cons (.tail .head) .nil))))
        · show i < j + 1; omega
        · show j + 1 ≤ _; omega
        · show l'.take i = (l.take (j + 1)).filter _
          rw [List.take_add_one, hp, List.filter_append, ← htk]
          simp [c8_]
        · show l'.drop (j + 1) = _
          rw [← List.drop_drop, ← List.drop_drop, hdr]
    · refine .exit rfl ?_
      refine .seq ?_
      have hjl' : j = l.length := by omega
      subst hjl'
      refine .region ?_   -- R11 slices.go:253
      refine .rd (.move rfl) ?_
      refine .rd (.move rfl) ?_
      refine .rd (.slice (l := i) (h := l.length) (m := c) Try.underlying42 ts32 rfl rfl ⟨rfl, rfl⟩ ⟨_, rfl⟩ (by omega) (by omega) (by omega)) ?_
      refine .ef0 (.clear (b := b) (o := pre.length + i * 21) (n := l.length - i) (cap := c - i) rfl rfl Try.underlying42 ti32 rfl (ones.of rfl) (by show some _ = some _; rw [if_neg (by omega)]; simp [Addr_add]) .head (by simp only [List.length_append, flat_length pcell_len]; omega)) ?_
      rintro _ _ rfl
      refine .nil ?_
      refine .seq ?_
      refine .region ?_   -- R12 slices.go:254
      refine .rd (.move rfl) ?_
      refine .rd (.move rfl) ?_
      refine .rd (.slice (l := 0) (h := i) (m := c) Try.underlying42 ts32 rfl rfl ⟨_, rfl⟩ rfl (by omega) (by omega) (by omega)) ?_
      refine .rd (.assign rfl) ?_
      refine .nil ?_
      rw [List.take_of_length_le (Nat.le_refl _)] at htk
      have hfl2 : (l.filter fun q => !hit x y q).length = i := by rw [← htk, List.length_take]; omega
      refine .close (X := arr 32 21 (some ⟨b, pre.length, none⟩) c ((l.filter fun q => !hit x y q).flatMap pcell)) (.cons .head .nil) (fun h H => sat.arr_close (post := (Builtin.zeroCells (Value.agg (mcells (toS 0 0 0) .sn .sn .sn).toArray).cells (l.length - i)).toList ++ post) (by rw [flat_length pcell_len, List.length_append, zeros_len, hfl2]; omega) (by rw [← htk, ← cut_end (by omega) (by rw [zeros_len, hll])]; exact H)) ?_
      refine .retP Try.func29 (.cons (.tmp rfl) .nil) (.cons .head (.cons .head (.cons .head (.cons .head .nil)))) ?_
      exact ⟨[_, _, _], ⟨by simp only [resVal]; rw [if_neg (by omega), hfl2]; simp [Addr_add], rfl⟩, rfl⟩

theorem Part_ok (n ps pt) (a b : Int) (hps : ps.length ≤ 100000) : Cn Try.prog 12 [.pointer (some ⟨n, 0, none⟩), .int .i64 a, .int .i64 b] (fun _ => True) [net n ps pt] fun v G =>
    v = .tuple #[] ∧ G = if a = b then [net n ps pt] else [net n (ps.filter fun q => !hit a b q) (mset pt (endsS a b) true)] := by
  refine .enter Try.func12 rfl (by kernel_rfl) rfl fun R k => ?_
  refine .seq ?_
  refine .region ?_   -- R0 network.go:77
  refine .ef (.box rfl rfl (ones.of rfl)) ?_
  rintro _ _ ⟨b4, rfl, rfl⟩
  refine .ef (.box rfl rfl (ones.of rfl)) ?_
  rintro _ _ ⟨b5, rfl, rfl⟩
  refine .nil ?_
  refine .seq ?_
  refine .seq ?_
  refine .region ?_   -- R1 network.go:78
  refine .rd (.ld na3 rfl (.tail .head) rfl) ?_
  refine .rd (.ld na3 rfl .head rfl) ?_
  refine .rd (.eqI rfl rfl) ?_
  refine .nil ?_
  refine .condP rfl (fun c1 => ?_) (fun c1 => ?_)
  · refine .retP Try.func12 .nil (.cons (.tail (.tail .head)) (.cons (.tail (.tail .head)) .nil)) ?_
    exact ⟨[_], ⟨rfl, by rw [if_pos c1]⟩, rfl⟩
  · refine .skip ?_
    refine .seq ?_
    refine .open_ (.tail (.tail .head)) net_open (fun x _ => ?_)
    obtain ⟨sa, sc, mb⟩ := x
    simp only [List.cons_append, List.nil_append]
    refine .draws [3, 4, 5] [blk n [.slice sa ps.length sc, .map (some mb)] 57, blk b4 [.int .i64 a] 3, blk b5 [.int .i64 b] 3] (by kernel_rfl) ?_   -- R2 network.go:81
    refine .rp 0 rfl (by kernel_rfl) (by kernel_rfl) (by kernel_rfl) (Reads.pure (.move rfl)) ?_
    refine .rp 1 rfl (by kernel_rfl) (by kernel_rfl) (by kernel_rfl) (Reads.pure (.nilCheck rfl)) ?_
    refine .rp 2 rfl (by kernel_rfl) (by kernel_rfl) (by kernel_rfl) (Reads.pure (.fieldAddr fd57_1 rfl)) ?_
    refine .rd 3 rfl rfl (by kernel_rfl) (by kernel_rfl) (by kernel_rfl) (.ld na53 rfl .head rfl) (.cons .head (.cons (.tail (.tail (.tail (.tail .head)))) (.cons (.tail (.tail (.tail .head))) .nil))) ?_
    refine .rd 4 rfl rfl (by kernel_rfl) (by kernel_rfl) (by kernel_rfl) (.ld na3 rfl (.tail .head) rfl) (.cons .head (.cons (.tail (.tail (.tail (.tail .head)))) (.cons (.tail (.tail (.tail .head))) .nil))) ?_
    refine .rd 5 rfl rfl (by kernel_rfl) (by kernel_rfl) (by kernel_rfl) (.ld na3 rfl (.tail (.tail .head)) rfl) (.cons .head (.cons (.tail (.tail (.tail (.tail .head)))) (.cons (.tail (.tail (.tail .head))) .nil))) ?_
    refine .ef 6 (by kernel_rfl) rfl (.fn rfl rfl .nil (fun _ _ _ => trivial) (ends_ok _ _)) ?_
    rintro v _ ⟨G1, hq, rfl⟩
    obtain ⟨rfl, rfl⟩ := hq
    simp only [List.nil_append]
    refine ⟨.inr ⟨_, (.cons .head (.cons (.tail (.tail (.tail (.tail .head)))) (.cons (.tail (.tail (.tail .head))) .nil)))⟩, ?_⟩
    refine .ef0 7 (by kernel_rfl) rfl (.mapUpdate (u := true) kl60 Try.underlying53 rfl rfl rfl (.tail (.tail (.tail .head)))) ?_
    rintro _ _ rfl
    refine ⟨.inl (by kernel_rfl), ?_⟩
    refine .done (by kernel_rfl) ?_
    refine .region ?_   -- R3 network.go:82
    refine .rd (.move rfl) ?_
    refine .rd (.move rfl) ?_
    refine .rd (.nilCheck rfl) ?_
    refine .rd (.fieldAddr fd57_0 rfl) ?_
    refine .rd (.fieldAddr fd55_0 rfl) ?_
    refine .rd (.ld na42 rfl (.tail .head) rfl) ?_
    refine .rd (.makeFunc (fs := []) rfl rfl) ?_
    refine .fn rfl rfl (.cons (.tail (.tail .head)) (.cons (.tail (.tail (.tail (.tail .head)))) (.cons (.tail (.tail (.tail .head))) .nil))) (fun _ _ _ => trivial) (DeleteFunc_ok sa sc ps a b b4 b5 hps) (fun v G1 hq => ?_)
    obtain ⟨rfl, rfl⟩ := hq
    simp only [List.cons_append, List.nil_append]
    refine .rd (.nilCheck rfl) ?_
    refine .rd (.fieldAddr fd57_0 rfl) ?_
    refine .rd (.fieldAddr fd55_0 rfl) ?_
    refine .ef0 (.store ts42 rfl rfl (.tail (.tail (.tail (.tail .head)))) rfl (Nat.le_of_ble_eq_true rfl)) ?_
    rintro _ _ rfl
    refine .nil ?_
    refine .close (X := net n (ps.filter fun q => !hit a b q) (mset pt (endsS a b) true)) (.cons .head (.cons .head (.cons (.tail (.tail (.tail .head))) (.cons (.tail (.tail .head)) .nil)))) (fun h H => net_close (ps := (ps.filter fun q => !hit a b q)) sa sc mb h (part_sat H)) ?_
    refine .endP Try.func12 .nil (.cons .head (.cons (.tail (.tail .head)) .nil)) ?_
    exact ⟨[_], ⟨rfl, by rw [if_neg c1]⟩, rfl⟩

end Go.Proofs.Ytfbmbhajpmlffaa

