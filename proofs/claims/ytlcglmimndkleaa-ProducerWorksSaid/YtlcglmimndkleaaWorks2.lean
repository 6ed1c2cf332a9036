/- Part 2 of a claim's texts: rules for the machine's steps, and steps through functions of the program, under the conditions that each theorem states. -/
import Derived.Test.YtlcglmimndkleaaProg
import Derived.KernelRfl
import Derived.Test.YtlcglmimndkleaaWorks1
set_option linter.unusedVariables false
namespace Go.Proofs.Ytlcglmimndkleaa
open Go Go.Sp

set_option linter.unusedVariables false

namespace prod4
theorem ts69 : TS Try.prog 69 1 := .of (by kernel_rfl)
theorem na69 : NotAgg Try.prog 69 := ⟨_, Try.underlying69, trivial⟩
theorem ti69 : TI Try.prog 69 1 8 (.pointer none) := .of (by kernel_rfl)
theorem na62 : NotAgg Try.prog 62 := ⟨_, Try.underlying62, trivial⟩
theorem fd65_1 : FD Try.prog 65 1 1 := .of Try.underlying65 (by kernel_rfl)
theorem na3 : NotAgg Try.prog 3 := ⟨_, Try.underlying3, trivial⟩
end prod4
open prod4

theorem rowCells {b o : Nat} {v : Value} {w : World} (h : RowAt (some ⟨b, o, none⟩) [v] w) : CellsAt b o [v] w := by
  rcases h with h | ⟨b', o', e, h⟩
  · cases h
  · cases e; exact h
theorem zero1 : (Builtin.zeroCells (Value.pointer none).cells 1).toList = [.pointer none] := by simp [Builtin.zeroCells, Value.cells]
theorem Knows.arrCap1 {Γ Γ' : List SProp} {a c} {v : Value} (p : Pick (arr 69 1 a c [v]) Γ Γ') : Knows Γ fun _ => 1 ≤ c := fun A w h => by
  have := (h.map fun _ => p.sat).arr_len.1
  simp at this; omega
theorem splice_one_mid {pre post : List Value} {u v : Value} : splice (pre ++ u :: post) pre.length [v] = pre ++ ([] ++ (v :: post)) := by
  unfold splice; simp

set_option maxRecDepth 20000 in
theorem index0_ok (a : Option Addr) (c : Nat) (f : FuncId) (cap : Array Value) : Cn Try.prog 27 [.slice a 0 c, .func (.func f) #[] cap] (fun _ => True) [] fun v G => v = .int .i64 (-1) ∧ G = [] := by
  refine .enter Try.func27 rfl (by kernel_rfl) rfl fun R k => ?_
  refine .seq ?_
  refine .region ?_
  refine .rd (.assign rfl) ?_
  refine .nil ?_
  refine .seq ?_
  refine .seq ?_
  refine .region ?_
  refine .rd (.move rfl) ?_
  refine .rd (.lenL rfl rfl Try.underlying58 rfl) ?_
  refine .rd (.move rfl) ?_
  refine .nil ?_
  refine .block ?_
  refine .loop (σ := Unit) (fun _ => True) (fun _ => 0) (fun _ => [(0, .slice a 0 c), (1, .func (.func f) #[] cap), (7, .int .i64 ((0 : Nat) : Int)), (8, .int .i64 0)]) (fun _ => [R]) () trivial (.cons rfl (.cons rfl (.cons rfl (.cons rfl .nil)))) (.cons .head .nil) (fun s' hI ih => ?_)
  skip
  refine .seq ?_
  refine .region ?_
  refine .rd (.lt rfl rfl) ?_
  refine .nil ?_
  refine .seq ?_
  refine .condP rfl (fun c2 => absurd c2 (by decide)) (fun c2 => ?_)
  refine .exit rfl ?_
  refine .seq ?_
  refine .region ?_
  refine .rd (.assign rfl) ?_
  refine .nil ?_
  refine .retP Try.func27 (.cons (.tmp rfl) .nil) (.cons .head .nil) ?_
  exact ⟨[], ⟨rfl, rfl⟩, rfl⟩

set_option maxRecDepth 20000 in
theorem index1_ok (a : Option Addr) (c : Nat) (f : FuncId) (cap : Array Value) (rb : Nat) (L : SProp) (Q : Bool → SProp → Prop) (φ : World → Prop) (hf : Cn Try.prog f (Value.pointer (some ⟨rb, 0, none⟩) :: cap.toList) φ [L] fun v G => ∃ b X, v = .bool b ∧ Q b X ∧ G = [X]) : Cn Try.prog 27 [.slice a 1 c, .func (.func f) #[] cap] (fun w => RowAt a [Value.pointer (some ⟨rb, 0, none⟩)] w ∧ φ w) [L] fun v G => ∃ b X, v = .int .i64 (if b then 0 else -1) ∧ Q b X ∧ G = [X] := by
  refine .enter Try.func27 rfl (by kernel_rfl) rfl fun R k => ?_
  refine .seq ?_
  refine .region ?_
  refine .rd (.assign rfl) ?_
  refine .nil ?_
  refine .seq ?_
  refine .seq ?_
  refine .region ?_
  refine .rd (.move rfl) ?_
  refine .rd (.lenL rfl rfl Try.underlying58 rfl) ?_
  refine .rd (.move rfl) ?_
  refine .nil ?_
  refine .block ?_
  refine .loop (σ := Nat × SProp) (fun ⟨i, X⟩ => (i = 0 ∧ X = L) ∨ (i = 1 ∧ Q false X)) (fun ⟨i, X⟩ => 1 - i) (fun ⟨i, X⟩ => [(0, .slice a 1 c), (1, .func (.func f) #[] cap), (7, .int .i64 ((1 : Nat) : Int)), (8, .int .i64 (i : Nat))]) (fun ⟨i, X⟩ => [X, R]) (0, L) (.inl ⟨rfl, rfl⟩) (.cons rfl (.cons rfl (.cons rfl (.cons rfl .nil)))) (.cons .head (.cons .head .nil)) (fun s' hI ih => ?_)
  obtain ⟨i, X⟩ := s'
  dsimp only at hI ih ⊢
  refine .seq ?_
  refine .region ?_
  refine .rd (.lt rfl rfl) ?_
  refine .nil ?_
  refine .seq ?_
  refine .condP rfl (fun h2 => ?_) (fun h2 => ?_)
  · refine .skip ?_
    refine .seq ?_
    refine .block ?_
    refine .seq ?_
    refine .region ?_
    refine .rd (.move rfl) ?_
    refine .rd (.assign rfl) ?_
    refine .nil ?_
    refine .seq ?_
    obtain ⟨rfl, rfl⟩ : i = 0 ∧ X = L := by rcases hI with h | h; exact h; omega
    refine .tell (φ := ∃ b o, a = some ⟨b, o, none⟩) (Knows.pick (.tail .head) (k.mono fun _ h => RowAt.addr h.1 (by show 0 < 1; decide))) (fun hh => ?_)
    obtain ⟨b9, o9, hab⟩ := hh
    refine .region ?_
    refine .rd (.move rfl) ?_
    refine .rd (.move rfl) ?_
    refine .rd (.move rfl) ?_
    refine .rd (.indexAddr (b := b9) (o := o9) Try.underlying58 ts69 (by show some (Value.slice a _ _) = _; rw [hab]) rfl (by decide) (by decide)) ?_
    refine .rd (.load na69 rfl (Knows.one (i := 0) (Knows.pick (.tail .head) (k.mono fun _ h => rowCells (hab ▸ h.1))) rfl)) ?_
    refine .fnC rfl rfl (.cons .head .nil) (Knows.pick .head (k.mono fun _ h => h.2)) hf (fun v G1 hq => ?_)
    obtain ⟨b, X2, rfl, hq2, rfl⟩ := hq
    simp only [List.cons_append, List.nil_append]
    refine .nil ?_
    refine .cond rfl (fun h4 => ?_) (fun h4 => ?_)
    · obtain rfl := h4
      refine .seq ?_
      refine .region ?_
      refine .rd (.move rfl) ?_
      refine .rd (.assign rfl) ?_
      refine .nil ?_
      refine .retP Try.func27 (.cons (.tmp rfl) .nil) (.cons .head (.cons .head .nil)) ?_
      exact ⟨[_], ⟨true, X2, rfl, hq2, rfl⟩, rfl⟩
    · obtain rfl := h4
      refine .skip ?_
      refine .inBlock ?_
      refine .region ?_
      refine .rd (.add rfl rfl (by omega) (by omega)) ?_
      refine .rd (.move rfl) ?_
      refine .nil ?_
      exact (ih (0 + 1, X2) (.inr ⟨rfl, hq2⟩) (by show 1 - 1 < 1 - 0; decide)).to (.cons rfl (.cons rfl (.cons rfl (.cons rfl .nil)))) (.cons .head (.cons .head .nil))
  · refine .exit rfl ?_
    refine .seq ?_
    refine .region ?_
    refine .rd (.assign rfl) ?_
    refine .nil ?_
    have hx : Q false X := by rcases hI with h | h; exact absurd h2 (by rw [h.1]; decide); exact h.2
    refine .retP Try.func27 (.cons (.tmp rfl) .nil) (.cons .head (.cons .head .nil)) ?_
    exact ⟨[_], ⟨false, X, rfl, hx, rfl⟩, rfl⟩

set_option maxRecDepth 20000 in
theorem containsf0_ok (a : Option Addr) (c : Nat) (f : FuncId) (cap : Array Value) : Cn Try.prog 34 [.slice a 0 c, .func (.func f) #[] cap] (fun _ => True) [] fun v G => v = .bool false ∧ G = [] := by
  refine .enter Try.func34 rfl (by kernel_rfl) rfl fun R k => ?_
  refine .seq ?_
  refine .region ?_
  refine .rd (.assign rfl) ?_
  refine .nil ?_
  refine .seq ?_
  refine .region ?_
  refine .rd (.move rfl) ?_
  refine .rd (.move rfl) ?_
  refine .fn rfl rfl .nil (fun _ _ _ => trivial) (index0_ok a c f cap) (fun v G1 hq => ?_)
  obtain ⟨rfl, rfl⟩ := hq
  simp only [List.nil_append]
  refine .rd (.ge rfl rfl) ?_
  refine .rd (.assign rfl) ?_
  refine .nil ?_
  refine .retP Try.func34 (.cons (.tmp rfl) .nil) (.cons .head .nil) ?_
  exact ⟨[], ⟨rfl, rfl⟩, rfl⟩

set_option maxRecDepth 20000 in
theorem containsf1_ok (a : Option Addr) (c : Nat) (f : FuncId) (cap : Array Value) (rb : Nat) (L : SProp) (Q : Bool → SProp → Prop) (φ : World → Prop) (hf : Cn Try.prog f (Value.pointer (some ⟨rb, 0, none⟩) :: cap.toList) φ [L] fun v G => ∃ b X, v = .bool b ∧ Q b X ∧ G = [X]) : Cn Try.prog 34 [.slice a 1 c, .func (.func f) #[] cap] (fun w => RowAt a [Value.pointer (some ⟨rb, 0, none⟩)] w ∧ φ w) [L] fun v G => ∃ b X, v = .bool b ∧ Q b X ∧ G = [X] := by
  refine .enter Try.func34 rfl (by kernel_rfl) rfl fun R k => ?_
  refine .seq ?_
  refine .region ?_
  refine .rd (.assign rfl) ?_
  refine .nil ?_
  refine .seq ?_
  refine .region ?_
  refine .rd (.move rfl) ?_
  refine .rd (.move rfl) ?_
  refine .fn rfl rfl (.cons .head .nil) (Knows.pick .head k) (index1_ok a c f cap rb L Q φ hf) (fun v G1 hq => ?_)
  obtain ⟨b, X, rfl, hq, rfl⟩ := hq
  simp only [List.cons_append, List.nil_append]
  refine .rd (.ge rfl rfl) ?_
  refine .alter (t := 8) (v' := .bool b) rfl (by cases b <;> rfl) ?_
  refine .rd (.assign rfl) ?_
  refine .nil ?_
  refine .retP Try.func34 (.cons (.tmp rfl) .nil) (.cons .head (.cons .head .nil)) ?_
  exact ⟨[_], ⟨b, X, rfl, hq, rfl⟩, rfl⟩

set_option maxRecDepth 20000 in
theorem deletef0_ok (a : Option Addr) (c : Nat) (f : FuncId) (cap : Array Value) : Cn Try.prog 20 [.slice a 0 c, .func (.func f) #[] cap] (fun _ => True) [] fun v G => v = .slice a 0 c ∧ G = [] := by
  refine .enter Try.func20 rfl (by kernel_rfl) rfl fun R k => ?_
  refine .seq ?_
  refine .region ?_
  refine .rd (.assign rfl) ?_
  refine .nil ?_
  refine .seq ?_
  refine .region ?_
  refine .rd (.move rfl) ?_
  refine .rd (.move rfl) ?_
  refine .fn rfl rfl .nil (fun _ _ _ => trivial) (index0_ok a c f cap) (fun v G1 hq => ?_)
  obtain ⟨rfl, rfl⟩ := hq
  simp only [List.nil_append]
  refine .rd (.assign rfl) ?_
  refine .nil ?_
  refine .seq ?_
  refine .seq ?_
  refine .region ?_
  refine .rd (.move rfl) ?_
  refine .rd (.eqI rfl rfl) ?_
  refine .nil ?_
  refine .condP rfl (fun c2 => ?_) (fun c2 => absurd c2 (by decide))
  refine .seq ?_
  refine .region ?_
  refine .rd (.move rfl) ?_
  refine .rd (.assign rfl) ?_
  refine .nil ?_
  refine .retP Try.func20 (.cons (.tmp rfl) .nil) (.cons .head .nil) ?_
  exact ⟨[], ⟨rfl, rfl⟩, rfl⟩

set_option maxRecDepth 20000 in
theorem deletef1_ok (a : Option Addr) (c : Nat) (f : FuncId) (cap : Array Value) (rb : Nat) (L : SProp) (Q : Bool → SProp → Prop) (φ : World → Prop) (hf : Cn Try.prog f (Value.pointer (some ⟨rb, 0, none⟩) :: cap.toList) φ [L] fun v G => ∃ b X, v = .bool b ∧ Q b X ∧ G = [X]) : Cn Try.prog 20 [.slice a 1 c, .func (.func f) #[] cap] φ [arr 69 1 a c [Value.pointer (some ⟨rb, 0, none⟩)], L] fun v G => ∃ b X, v = .slice a (if b then 0 else 1) c ∧ Q b X ∧ G = [arr 69 1 a c (if b then [] else [Value.pointer (some ⟨rb, 0, none⟩)]), X] := by
  refine .enter Try.func20 rfl (by kernel_rfl) rfl fun R k => ?_
  refine .seq ?_
  refine .region ?_
  refine .rd (.assign rfl) ?_
  refine .nil ?_
  refine .seq ?_
  refine .region ?_
  refine .rd (.move rfl) ?_
  refine .rd (.move rfl) ?_
  refine .fn rfl rfl (.cons (.tail .head) .nil) (fun A w h => ⟨(Knows.arr .head) A w h, (Knows.pick (.tail .head) k) A w h⟩) (index1_ok a c f cap rb L Q φ hf) (fun v G1 hq => ?_)
  obtain ⟨b, X, rfl, hq, rfl⟩ := hq
  simp only [List.cons_append, List.nil_append]
  refine .rd (.assign rfl) ?_
  refine .nil ?_
  refine .seq ?_
  refine .seq ?_
  refine .region ?_
  refine .rd (.move rfl) ?_
  refine .rd (.eqI rfl rfl) ?_
  refine .nil ?_
  refine .condP rfl (fun h2 => ?_) (fun h2 => ?_)
  · obtain rfl : b = false := by cases b with | false => rfl | true => exact absurd h2 (by decide)
    refine .seq ?_
    refine .region ?_
    refine .rd (.move rfl) ?_
    refine .rd (.assign rfl) ?_
    refine .nil ?_
    refine .retP Try.func20 (.cons (.tmp rfl) .nil) (.cons (.tail .head) (.cons .head (.cons .head .nil))) ?_
    exact ⟨[_, _], ⟨false, X, rfl, hq, rfl⟩, rfl⟩
  · obtain rfl : b = true := by cases b with | true => rfl | false => exact absurd rfl h2
    refine .alter (t := 5) (v' := .int .i64 0) rfl rfl ?_
    refine .skip ?_
    refine .seq ?_
    refine .seq ?_
    refine .region ?_
    refine .rd (.move rfl) ?_
    refine .rd (.add rfl rfl (by omega) (by omega)) ?_
    refine .rd (.assign rfl) ?_
    refine .nil ?_
    refine .block ?_
    refine .loop (σ := Unit) (fun _ => True) (fun _ => 0) (fun _ => [(0, .slice a 1 c), (1, .func (.func f) #[] cap), (5, .int .i64 0), (6, .int .i64 (0 + 1))]) (fun _ => [arr 69 1 a c [Value.pointer (some ⟨rb, 0, none⟩)], X, R]) () trivial (.cons rfl (.cons rfl (.cons rfl (.cons rfl .nil)))) (.cons (.tail .head) (.cons .head (.cons .head .nil))) (fun s' hI ih => ?_)
    skip
    refine .seq ?_
    refine .seq ?_
    refine .region ?_
    refine .rd (.move rfl) ?_
    refine .rd (.move rfl) ?_
    refine .rd (.lenL rfl rfl Try.underlying58 rfl) ?_
    refine .rd (.lt rfl rfl) ?_
    refine .nil ?_
    refine .condP rfl (fun c5 => absurd c5 (by decide)) (fun c5 => ?_)
    refine .exit rfl ?_
    refine .seq ?_
    refine .tell (Knows.arrCap1 .head) (fun hc => ?_)
    refine .open_ .head (fun h => arr.blk_of (by omega)) (fun x hx => ?_)
    obtain ⟨bb, pre, post⟩ := x
    obtain ⟨rfl, hlen⟩ := hx
    dsimp only at hlen
    simp only [List.length_cons, List.length_nil] at hlen
    simp only [List.cons_append, List.nil_append]
    refine .region ?_
    refine .rd (.move rfl) ?_
    refine .rd (.move rfl) ?_
    refine .rd (.slice (l := 0) (h := 1) (m := c) Try.underlying58 ts69 rfl rfl ⟨rfl, rfl⟩ ⟨_, rfl⟩ (by omega) (by omega) (by omega)) ?_
    refine .ef0 (.clear (b := bb) (o := pre.length) (n := 1) (cap := c - 0) rfl rfl Try.underlying58 ti69 rfl (ones.of rfl) (by show some _ = some _; rw [if_neg (by omega)]; simp [Addr_add]) .head (by rw [List.length_append, List.length_cons]; omega)) ?_
    rintro _ _ rfl
    refine .nil ?_
    refine .seq ?_
    refine .region ?_
    refine .rd (.move rfl) ?_
    refine .rd (.move rfl) ?_
    refine .rd (.slice (l := 0) (h := 0) (m := c) Try.underlying58 ts69 rfl rfl ⟨_, rfl⟩ rfl (by omega) (by omega) (by omega)) ?_
    refine .rd (.assign rfl) ?_
    refine .nil ?_
    refine .close (X := arr 69 1 (some ⟨bb, pre.length, none⟩) c []) (.cons .head .nil) (fun h H => sat.arr_close (post := .pointer none :: post) (by show 0 + (post.length + 1) = _; omega) (by rw [show pre ++ ([] ++ (Value.pointer none :: post)) = splice (pre ++ Value.pointer (some ⟨rb, 0, none⟩) :: post) pre.length [.pointer none] from (splice_one_mid).symm]; exact (zero1 ▸ H))) ?_
    refine .retP Try.func20 (.cons (.tmp rfl) .nil) (.cons .head (.cons .head (.cons .head .nil))) ?_
    exact ⟨[_, _], ⟨true, X, (by simp only [resVal]; rw [if_neg (by omega)]; simp [Addr_add]), hq, rfl⟩, rfl⟩

set_option maxRecDepth 20000 in
theorem delete_ok (a : Option Addr) (c rb : Nat) : Cn Try.prog 30 [.slice a 1 c, .int .i64 0, .int .i64 (0 + 1)] (fun _ => True) [arr 69 1 a c [Value.pointer (some ⟨rb, 0, none⟩)]] fun v G => v = .slice a 0 c ∧ G = [arr 69 1 a c []] := by
  refine .enter Try.func30 rfl (by kernel_rfl) rfl fun R k => ?_
  refine .tell (Knows.arrCap1 .head) (fun hc => ?_)
  refine .open_ .head (fun h => arr.blk_of (by omega)) (fun x hx => ?_)
  obtain ⟨bb, pre, post⟩ := x
  obtain ⟨rfl, hlen⟩ := hx
  dsimp only at hlen
  simp only [List.length_cons, List.length_nil] at hlen
  simp only [List.cons_append, List.nil_append]
  refine .seq ?_
  refine .region ?_
  refine .rd (.assign rfl) ?_
  refine .nil ?_
  refine .seq ?_
  refine .region ?_
  refine .rd (.move rfl) ?_
  refine .rd (.move rfl) ?_
  refine .rd (.move rfl) ?_
  refine .rd (.move rfl) ?_
  refine .rd (.lenL rfl rfl Try.underlying58 rfl) ?_
  refine .rd (.slice (l := 0) (h := 1) (m := 1) Try.underlying58 ts69 rfl ⟨_, rfl⟩ ⟨_, rfl⟩ ⟨_, rfl⟩ (by omega) (by omega) (by omega)) ?_
  refine .nil ?_
  refine .seq ?_
  refine .seq ?_
  refine .region ?_
  refine .rd (.move rfl) ?_
  refine .rd (.move rfl) ?_
  refine .rd (.eqI rfl rfl) ?_
  refine .nil ?_
  refine .condP rfl (fun c2 => absurd c2 (by decide)) (fun c2 => ?_)
  refine .skip ?_
  refine .seq ?_
  refine .region ?_
  refine .rd (.move rfl) ?_
  refine .rd (.lenL rfl rfl Try.underlying58 rfl) ?_
  refine .rd (.assign rfl) ?_
  refine .nil ?_
  refine .seq ?_
  refine .draws [] [] (by kernel_rfl) ?_
  refine .rp 0 rfl (by kernel_rfl) (by kernel_rfl) (by kernel_rfl) (Reads.pure (.move rfl)) ?_
  refine .rp 1 rfl (by kernel_rfl) (by kernel_rfl) (by kernel_rfl) (Reads.pure (.move rfl)) ?_
  refine .rp 2 rfl (by kernel_rfl) (by kernel_rfl) (by kernel_rfl) (Reads.pure (.slice (l := 0) (h := 0) (m := c) Try.underlying58 ts69 rfl rfl ⟨_, rfl⟩ rfl (by omega) (by omega) (by omega))) ?_
  refine .rp 3 rfl (by kernel_rfl) (by kernel_rfl) (by kernel_rfl) (Reads.pure (.move rfl)) ?_
  refine .rp 4 rfl (by kernel_rfl) (by kernel_rfl) (by kernel_rfl) (Reads.pure (.move rfl)) ?_
  refine .rp 5 rfl (by kernel_rfl) (by kernel_rfl) (by kernel_rfl) (Reads.pure (.slice (l := 1) (h := 1) (m := c) Try.underlying58 ts69 rfl rfl ⟨rfl, rfl⟩ ⟨_, rfl⟩ (by omega) (by omega) (by omega))) ?_
  refine .ef 6 (by kernel_rfl) rfl (.appendRoom (b := bb) (o := pre.length) (n := 0) (cap := c) (ys := []) rfl rfl Try.underlying58 ts69 (by show some _ = some _; rw [if_neg (by omega)]; simp [Addr_add]) rfl .head (Knows.srcRow (e := 69) (fun _ _ _ => .inl rfl) Try.underlying58 rfl (by decide)) (by omega) (by rw [List.length_append, List.length_cons]; show pre.length + 0 + 0 ≤ _; omega)) ?_
  rintro _ _ ⟨rfl, rfl⟩
  refine ⟨.inl (by kernel_rfl), ?_⟩
  refine .rp 7 rfl (by kernel_rfl) (by kernel_rfl) (by kernel_rfl) (Reads.pure (.assign rfl)) ?_
  refine .done (by kernel_rfl) ?_
  refine .seq ?_
  refine .region ?_
  refine .rd (.move rfl) ?_
  refine .rd (.move rfl) ?_
  refine .rd (.lenL rfl rfl Try.underlying58 rfl) ?_
  refine .rd (.move rfl) ?_
  refine .rd (.slice (l := 0) (h := 1) (m := c) Try.underlying58 ts69 rfl rfl ⟨_, rfl⟩ ⟨_, rfl⟩ (by omega) (by omega) (by omega)) ?_
  refine .ef0 (.clear (b := bb) (o := pre.length) (n := 1) (cap := c - 0) rfl rfl Try.underlying58 ti69 rfl (ones.of rfl) (by show some _ = some _; rw [if_neg (by omega)]; simp [Addr_add]) .head (by simp [splice])) ?_
  rintro _ _ rfl
  refine .nil ?_
  refine .seq ?_
  refine .region ?_
  refine .rd (.move rfl) ?_
  refine .rd (.assign rfl) ?_
  refine .nil ?_
  refine .close (X := arr 69 1 (some ⟨bb, pre.length, none⟩) c []) (.cons .head .nil) (fun h H => sat.arr_close (post := .pointer none :: post) (by show 0 + (post.length + 1) = _; omega) (by rw [show pre ++ ([] ++ (Value.pointer none :: post)) = splice (pre ++ Value.pointer (some ⟨rb, 0, none⟩) :: post) pre.length [.pointer none] from (splice_one_mid).symm]; rw [zero1] at H; simpa [splice] using H)) ?_
  refine .retP Try.func30 (.cons (.tmp rfl) .nil) (.cons .head (.cons .head .nil)) ?_
  exact ⟨[_], ⟨rfl, rfl⟩, rfl⟩

set_option maxRecDepth 20000 in
theorem waits_ok (rb bx ya : Nat) (q : Option Nat) : Cn Try.prog 35 [.pointer (some ⟨rb, 0, none⟩), .pointer (some ⟨bx, 0, none⟩)] (fun w => (CellsAt rb 4 [.pointer (q.map fun a => (⟨a, 0, none⟩ : Addr))] w ∧ ∀ a, q = some a → CellsAt a 1 [.int .i64 2] w) ∧ CellsAt ya 1 [.int .i64 2] w) [blk bx [.pointer (some ⟨ya, 0, none⟩)] 62] fun v G => ∃ b X, v = .bool b ∧ (b = !q.isNone ∧ X = blk bx [.pointer (some ⟨ya, 0, none⟩)] 62) ∧ G = [X] := by
  refine .enter Try.func35 rfl (by kernel_rfl) rfl fun R k => ?_
  refine .seq ?_
  refine .region ?_
  refine .rd (.assign rfl) ?_
  refine .nil ?_
  refine .seq ?_
  refine .draws [2, 5] [blk bx [.pointer (some ⟨ya, 0, none⟩)] 62, R] (by kernel_rfl) ?_
  refine .rp 0 rfl (by kernel_rfl) (by kernel_rfl) (by kernel_rfl) (Reads.pure (.move rfl)) ?_
  refine .rd 2 rfl rfl (by kernel_rfl) (by kernel_rfl) (by kernel_rfl) (.load na62 rfl (Knows.one (i := 0) (Knows.blk .head) rfl)) (.cons .head (.cons .head .nil)) ?_
  refine .rp 3 rfl (by kernel_rfl) (by kernel_rfl) (by kernel_rfl) (Reads.pure (.nilCheck rfl)) ?_
  refine .rp 4 rfl (by kernel_rfl) (by kernel_rfl) (by kernel_rfl) (Reads.pure (.fieldAddr fd65_1 rfl)) ?_
  refine .rd 5 rfl rfl (by kernel_rfl) (by kernel_rfl) (by kernel_rfl) (.load na3 rfl (Knows.pick (.tail .head) (k.mono fun _ h => h.2))) (.cons .head (.cons .head .nil)) ?_
  refine .ef 1 (by kernel_rfl) rfl (.fn rfl rfl .nil (Knows.pick (.tail .head) (k.mono fun _ h => h.1)) (part_ok rb q)) ?_
  rintro v _ ⟨G1, hq, rfl⟩
  obtain ⟨rfl, rfl⟩ := hq
  simp only [List.nil_append]
  refine ⟨.inr ⟨_, (.cons .head (.cons .head .nil))⟩, ?_⟩
  refine .rp 6 rfl (by kernel_rfl) (by kernel_rfl) (by kernel_rfl) (Reads.pure (.eqI rfl rfl)) ?_
  refine .rp 7 rfl (by kernel_rfl) (by kernel_rfl) (by kernel_rfl) (Reads.pure (.assign rfl)) ?_
  refine .done (by kernel_rfl) ?_
  refine .retP Try.func35 (.cons (.tmp rfl) .nil) (.cons .head (.cons .head .nil)) ?_
  exact ⟨[_], ⟨_, _, rfl, ⟨by cases q <;> rfl, rfl⟩, rfl⟩, rfl⟩

end Go.Proofs.Ytlcglmimndkleaa


namespace Go.Proofs.Ytlcglmimndkleaa
open Go Go.Sp

set_option linter.unusedVariables false

namespace prod2
theorem fd60_11 : FD Try.prog 60 11 11 := .of Try.underlying60 (by kernel_rfl)
theorem na3 : NotAgg Try.prog 3 := ⟨_, Try.underlying3, trivial⟩
theorem ts3 : TS Try.prog 3 1 := .of (by kernel_rfl)
theorem fd60_1 : FD Try.prog 60 1 1 := .of Try.underlying60 (by kernel_rfl)
theorem fd71_0 : FD Try.prog 71 0 0 := .of Try.underlying71 (by kernel_rfl)
theorem fd71_1 : FD Try.prog 71 1 1 := .of Try.underlying71 (by kernel_rfl)
theorem fd71_3 : FD Try.prog 71 3 3 := .of Try.underlying71 (by kernel_rfl)
theorem fd71_2 : FD Try.prog 71 2 2 := .of Try.underlying71 (by kernel_rfl)
theorem fd60_0 : FD Try.prog 60 0 0 := .of Try.underlying60 (by kernel_rfl)
theorem fd60_4 : FD Try.prog 60 4 4 := .of Try.underlying60 (by kernel_rfl)
theorem bld32_0_1_2_3_11_9 (x0 : Int) (x1 : Int) (x2 : Int) (x3 : Int) (x4 : Int) (x5 : Int) (w : World) : (Instr.build 32 (([0, 1, 2, 3, 11, 9] : List Nat).zip [.int .i64 x0, .int .i64 x1, .int .i64 x2, .int .i64 x3, .int .i64 x4, .int .i64 x5]).toArray).run Try.prog w = .ok (.agg #[.int .i64 x0, .int .i64 x1, .int .i64 x2, .int .i64 x3, .int .i64 0, .int .i64 0, .int .i64 0, .int .i64 0, .int .i64 0, .int .i64 x5, .int .i64 0, .int .i64 x4, .int .i64 0, .int .i64 0, .int .i64 0, .int .i64 0, .string ⟨#[]⟩, .string ⟨#[]⟩, .slice none 0 0, .slice none 0 0, .slice none 0 0]) w := by kernel_rfl
theorem ti32 : TI Try.prog 32 21 232 (.agg #[.int .i64 0, .int .i64 0, .int .i64 0, .int .i64 0, .int .i64 0, .int .i64 0, .int .i64 0, .int .i64 0, .int .i64 0, .int .i64 0, .int .i64 0, .int .i64 0, .int .i64 0, .int .i64 0, .int .i64 0, .int .i64 0, .string ⟨#[]⟩, .string ⟨#[]⟩, .slice none 0 0, .slice none 0 0, .slice none 0 0]) := .of (by kernel_rfl)
theorem ts32 : TS Try.prog 32 21 := .of (by kernel_rfl)
theorem fd71_4 : FD Try.prog 71 4 4 := .of Try.underlying71 (by kernel_rfl)
theorem na62 : NotAgg Try.prog 62 := ⟨_, Try.underlying62, trivial⟩
theorem fd60_14 : FD Try.prog 60 14 14 := .of Try.underlying60 (by kernel_rfl)
theorem na36 : NotAgg Try.prog 36 := ⟨_, Try.underlying36, trivial⟩
theorem ia32 : IsAgg Try.prog 32 := ⟨_, Try.underlying32, trivial⟩
theorem ts36 : TS Try.prog 36 1 := .of (by kernel_rfl)
theorem fd65_1 : FD Try.prog 65 1 1 := .of Try.underlying65 (by kernel_rfl)
theorem fd65_3 : FD Try.prog 65 3 3 := .of Try.underlying65 (by kernel_rfl)
theorem fd65_4 : FD Try.prog 65 4 4 := .of Try.underlying65 (by kernel_rfl)
theorem fd65_5 : FD Try.prog 65 5 5 := .of Try.underlying65 (by kernel_rfl)
theorem fd65_2 : FD Try.prog 65 2 2 := .of Try.underlying65 (by kernel_rfl)
theorem na33 : NotAgg Try.prog 33 := ⟨_, Try.underlying33, trivial⟩
theorem bld52_2_3_4_5 (x0 : Int) (x1 : Int) (x2 : Int) (x3a : Option Addr) (x3n : Nat) (x3c : Nat) (w : World) : (Instr.build 52 (([2, 3, 4, 5] : List Nat).zip [.int .i64 x0, .int .i64 x1, .int .i64 x2, .slice x3a x3n x3c]).toArray).run Try.prog w = .ok (.agg #[.int .i64 0, .int .i64 0, .int .i64 x0, .int .i64 x1, .int .i64 x2, .slice x3a x3n x3c]) w := by kernel_rfl
theorem ti52 : TI Try.prog 52 6 64 (.agg #[.int .i64 0, .int .i64 0, .int .i64 0, .int .i64 0, .int .i64 0, .slice none 0 0]) := .of (by kernel_rfl)
theorem bld32_0_1_2_3_4_18 (x0 : Int) (x1 : Int) (x2 : Int) (x3 : Int) (x4 : Int) (x5a : Option Addr) (x5n : Nat) (x5c : Nat) (w : World) : (Instr.build 32 (([0, 1, 2, 3, 4, 18] : List Nat).zip [.int .i64 x0, .int .i64 x1, .int .i64 x2, .int .i64 x3, .int .i64 x4, .slice x5a x5n x5c]).toArray).run Try.prog w = .ok (.agg #[.int .i64 x0, .int .i64 x1, .int .i64 x2, .int .i64 x3, .int .i64 x4, .int .i64 0, .int .i64 0, .int .i64 0, .int .i64 0, .int .i64 0, .int .i64 0, .int .i64 0, .int .i64 0, .int .i64 0, .int .i64 0, .int .i64 0, .string ⟨#[]⟩, .string ⟨#[]⟩, .slice x5a x5n x5c, .slice none 0 0, .slice none 0 0]) w := by kernel_rfl
theorem fd60_2 : FD Try.prog 60 2 2 := .of Try.underlying60 (by kernel_rfl)
theorem bld71_4_2 (x0 : Option Addr) (x1 : Int) (w : World) : (Instr.build 71 (([4, 2] : List Nat).zip [.pointer x0, .int .i64 x1]).toArray).run Try.prog w = .ok (.agg #[.int .i64 0, .int .i64 0, .int .i64 x1, .int .i64 0, .pointer x0]) w := by kernel_rfl
theorem fd60_10 : FD Try.prog 60 10 10 := .of Try.underlying60 (by kernel_rfl)
theorem na58 : NotAgg Try.prog 58 := ⟨_, Try.underlying58, trivial⟩
theorem ti69 : TI Try.prog 69 1 8 (.pointer none) := .of (by kernel_rfl)
theorem ts58 : TS Try.prog 58 1 := .of (by kernel_rfl)
end prod2
open prod2

theorem rowBlk {b : Nat} {cs : List Value} {w : World} (h : CellsAt b 0 cs w) : RowAt (some ⟨b, 0, none⟩) cs w := .inr ⟨b, 0, rfl, h⟩
theorem nextN_hi {n : Int} (h : 1000000000 < n + 1) : nextN n = 1 := if_pos h
theorem nextN_lo {n : Int} (h : ¬ 1000000000 < n + 1) : nextN n = n + 1 := if_neg h
theorem partOf_q {cl : List CallX} {r : Req} {q : Option Nat} (h : ofAt cl r.of q) : (if q.isNone then (0 : Int) else 2) = partOf r := by unfold partOf; rw [ofAt_none h]

set_option maxHeartbeats 2000000 in
set_option maxRecDepth 20000 in
theorem ask_ok (pb rb : Nat) (now : Int) (s : PS) (x : PX) (cl : List CallX) (r : Req) (q : Option Nat) (hB : PB s) (hW : PW s cl) (hof : ofAt cl r.of q) (hnow : 0 ≤ now ∧ now ≤ 1000000000000) (htr : 1 ≤ r.tries ∧ r.tries ≤ 1000) : Cn Try.prog 26 [.pointer (some ⟨pb, 0, none⟩), .int .i64 now, .pointer (some ⟨rb, 0, none⟩)] (fun _ => True) [blk pb (PS.cells s x none 0 0) 60, blk rb (Req.cells r q) 71, bag CB cl, IM x.ab s.aims, know (KN s x cl)] fun v G => ∃ (z : OutX) (oa : Option Addr) (oc : Nat), z.o = askO s now r (r.of.map (callAt s)) ∧ G = [blk pb (PS.cells (askS s) x oa 1 oc) 60, blk rb (Req.cells (askR s now r) q) 71, bag CB cl, IM x.ab s.aims, know (KN s x cl), arr 32 21 oa oc z.cells, know z.at_] := by
  refine .enter Try.func26 rfl (by kernel_rfl) rfl fun R k => ?_
  obtain ⟨hn1, hn2⟩ := hB.number
  obtain ⟨hw1, hw2⟩ := hB.wait
  refine .seq ?_
  refine .seq ?_
  refine .region ?_
  refine .rd (.move rfl) ?_
  refine .rd (.nilCheck rfl) ?_
  refine .rd (.fieldAddr fd60_11 rfl) ?_
  refine .rd (.ld na3 rfl .head rfl) ?_
  refine .rd (.add rfl rfl (by omega) (by omega)) ?_
  refine .rd (.nilCheck rfl) ?_
  refine .rd (.fieldAddr fd60_11 rfl) ?_
  refine .ef0 (.store ts3 rfl rfl .head rfl (Nat.le_of_ble_eq_true rfl)) ?_
  rintro _ _ rfl
  refine .nil ?_
  refine .seq ?_
  refine .region ?_
  refine .rd (.move rfl) ?_
  refine .rd (.nilCheck rfl) ?_
  refine .rd (.fieldAddr fd60_11 rfl) ?_
  refine .rd (.ld na3 rfl .head rfl) ?_
  refine .rd (.gt rfl rfl) ?_
  refine .nil ?_
  refine .joinAt (E' := [(0, .pointer (some ⟨pb, 0, none⟩)), (1, .int .i64 now), (2, .pointer (some ⟨rb, 0, none⟩))]) (Γ' := [blk pb (PS.cells (askS s) x none 0 0) 60, blk rb (Req.cells r q) 71, bag CB cl, IM x.ab s.aims, know (KN s x cl), R]) ?_ (fun fin => ?_)
  · refine .seq ?_
    refine .drawsTo [6, 15] [blk pb (PS.cells (askS s) x none 0 0) 60] [(0, .pointer (some ⟨pb, 0, none⟩)), (1, .int .i64 now), (2, .pointer (some ⟨rb, 0, none⟩))] [blk pb (PS.cells (askS s) x none 0 0) 60, blk rb (Req.cells { n := nextN s.number, to := s.aim (partOf r), tries := r.tries, deadline := now + s.wait, of := r.of } q) 71, bag CB cl, IM x.ab s.aims, know (KN s x cl), R] (by kernel_rfl) ?_ ?_
    · refine .rp 0 rfl (by kernel_rfl) (by kernel_rfl) (by kernel_rfl) (Reads.pure (.move rfl)) ?_
      refine .rp 1 rfl (by kernel_rfl) (by kernel_rfl) (by kernel_rfl) (Reads.pure (.move rfl)) ?_
      refine .rp 2 rfl (by kernel_rfl) (by kernel_rfl) (by kernel_rfl) (Reads.pure (.move rfl)) ?_
      refine .rp 3 rfl (by kernel_rfl) (by kernel_rfl) (by kernel_rfl) (Reads.pure (.move rfl)) ?_
      refine .rp 4 rfl (by kernel_rfl) (by kernel_rfl) (by kernel_rfl) (Reads.pure (.nilCheck rfl)) ?_
      refine .rp 5 rfl (by kernel_rfl) (by kernel_rfl) (by kernel_rfl) (Reads.pure (.fieldAddr fd60_11 rfl)) ?_
      refine .rd 6 rfl rfl (by kernel_rfl) (by kernel_rfl) (by kernel_rfl) (.ld na3 rfl .head rfl) (.cons .head .nil) ?_
      refine .rp 7 rfl (by kernel_rfl) (by kernel_rfl) (by kernel_rfl) (Reads.pure (.move rfl)) ?_
      refine .rp 8 rfl (by kernel_rfl) (by kernel_rfl) (by kernel_rfl) (Reads.pure (.move rfl)) ?_
      refine .rp 11 rfl (by kernel_rfl) (by kernel_rfl) (by kernel_rfl) (Reads.pure (.move rfl)) ?_
      refine .rp 12 rfl (by kernel_rfl) (by kernel_rfl) (by kernel_rfl) (Reads.pure (.move rfl)) ?_
      refine .rp 13 rfl (by kernel_rfl) (by kernel_rfl) (by kernel_rfl) (Reads.pure (.nilCheck rfl)) ?_
      refine .rp 14 rfl (by kernel_rfl) (by kernel_rfl) (by kernel_rfl) (Reads.pure (.fieldAddr fd60_1 rfl)) ?_
      refine .rd 15 rfl rfl (by kernel_rfl) (by kernel_rfl) (by kernel_rfl) (.ld na3 rfl .head rfl) (.cons .head .nil) ?_
      refine .rp 16 rfl (by kernel_rfl) (by kernel_rfl) (by kernel_rfl) (Reads.pure (.add rfl rfl (by show _ ≤ now + s.wait; omega) (by show now + s.wait ≤ _; omega))) ?_
      refine .ef 9 (by kernel_rfl) rfl (.fn rfl rfl .nil (fun A w h => ⟨(Knows.one (i := 4) (Knows.blk (.tail .head)) rfl) A w h, (Knows.part (.tail (.tail .head)) hof) A w h⟩) (part_ok rb q)) ?_
      rintro v _ ⟨G1, hq, rfl⟩
      obtain ⟨rfl, rfl⟩ := hq
      simp only [List.nil_append]
      refine ⟨.inr ⟨_, (.cons .head .nil)⟩, ?_⟩
      refine .alter (t := 32) (v' := .int .i64 (partOf r)) rfl (by rw [partOf_q hof]) ?_
      refine .ef 10 (by kernel_rfl) rfl (.fn rfl rfl (.cons (.tail (.tail (.tail .head))) .nil) (fun A w h => ⟨(Knows.blk .head) A w h, ((Knows.know (.tail (.tail (.tail .head)))) A w h).1⟩) (aim_ok pb (askS s) x none 0 0 (partOf r) hB.bne)) ?_
      rintro v _ ⟨G1, hq, rfl⟩
      obtain ⟨rfl, rfl⟩ := hq
      simp only [List.cons_append, List.nil_append]
      refine ⟨.inr ⟨_, (.cons (.tail .head) .nil)⟩, ?_⟩
      refine .rp 17 rfl (by kernel_rfl) (by kernel_rfl) (by kernel_rfl) (Reads.pure (.nilCheck rfl)) ?_
      refine .rp 18 rfl (by kernel_rfl) (by kernel_rfl) (by kernel_rfl) (Reads.pure (.fieldAddr fd71_0 rfl)) ?_
      refine .ef0 19 (by kernel_rfl) rfl (.store ts3 rfl rfl (.tail (.tail .head)) rfl (Nat.le_of_ble_eq_true rfl)) ?_
      rintro _ _ rfl
      refine ⟨.inl (by kernel_rfl), ?_⟩
      refine .rp 20 rfl (by kernel_rfl) (by kernel_rfl) (by kernel_rfl) (Reads.pure (.nilCheck rfl)) ?_
      refine .rp 21 rfl (by kernel_rfl) (by kernel_rfl) (by kernel_rfl) (Reads.pure (.fieldAddr fd71_1 rfl)) ?_
      refine .ef0 22 (by kernel_rfl) rfl (.store ts3 rfl rfl .head rfl (Nat.le_of_ble_eq_true rfl)) ?_
      rintro _ _ rfl
      refine ⟨.inl (by kernel_rfl), ?_⟩
      refine .rp 23 rfl (by kernel_rfl) (by kernel_rfl) (by kernel_rfl) (Reads.pure (.nilCheck rfl)) ?_
      refine .rp 24 rfl (by kernel_rfl) (by kernel_rfl) (by kernel_rfl) (Reads.pure (.fieldAddr fd71_3 rfl)) ?_
      refine .ef0 25 (by kernel_rfl) rfl (.store ts3 rfl rfl .head rfl (Nat.le_of_ble_eq_true rfl)) ?_
      rintro _ _ rfl
      refine ⟨.inl (by kernel_rfl), ?_⟩
      exact .done (by kernel_rfl) ⟨(.cons rfl (.cons rfl (.cons rfl .nil))), _, (.cons (.tail (.tail .head)) (.cons .head (.cons (.tail .head) (.cons .head (.cons .head (.cons .head .nil))))))⟩
    · refine .seq ?_
      refine .region ?_
      refine .rd (.move rfl) ?_
      refine .rd (.nilCheck rfl) ?_
      refine .rd (.fieldAddr fd71_2 rfl) ?_
      refine .rd (.ld na3 rfl (.tail .head) rfl) ?_
      refine .rd (.sub rfl rfl (by show _ ≤ r.tries - 1; omega) (by show r.tries - 1 ≤ _; omega)) ?_
      refine .rd (.nilCheck rfl) ?_
      refine .rd (.fieldAddr fd71_2 rfl) ?_
      refine .ef0 (.store ts3 rfl rfl (.tail .head) rfl (Nat.le_of_ble_eq_true rfl)) ?_
      rintro _ _ rfl
      refine .nil ?_
      refine .cast (X' := blk rb (Req.cells (askR s now r) q) 71) (rfl) ?_
      refine .seq ?_
      refine .draws [3, 7, 11, 15] [blk pb (PS.cells (askS s) x none 0 0) 60, blk rb (Req.cells (askR s now r) q) 71] (by kernel_rfl) ?_
      refine .rp 0 rfl (by kernel_rfl) (by kernel_rfl) (by kernel_rfl) (Reads.pure (.move rfl)) ?_
      refine .rp 1 rfl (by kernel_rfl) (by kernel_rfl) (by kernel_rfl) (Reads.pure (.nilCheck rfl)) ?_
      refine .rp 2 rfl (by kernel_rfl) (by kernel_rfl) (by kernel_rfl) (Reads.pure (.fieldAddr fd60_0 rfl)) ?_
      refine .rd 3 rfl rfl (by kernel_rfl) (by kernel_rfl) (by kernel_rfl) (.ld na3 rfl .head rfl) (.cons (.tail .head) (.cons .head .nil)) ?_
      refine .rp 4 rfl (by kernel_rfl) (by kernel_rfl) (by kernel_rfl) (Reads.pure (.move rfl)) ?_
      refine .rp 5 rfl (by kernel_rfl) (by kernel_rfl) (by kernel_rfl) (Reads.pure (.nilCheck rfl)) ?_
      refine .rp 6 rfl (by kernel_rfl) (by kernel_rfl) (by kernel_rfl) (Reads.pure (.fieldAddr fd71_1 rfl)) ?_
      refine .rd 7 rfl rfl (by kernel_rfl) (by kernel_rfl) (by kernel_rfl) (.ld na3 rfl (.tail .head) rfl) (.cons (.tail .head) (.cons .head .nil)) ?_
      refine .rp 8 rfl (by kernel_rfl) (by kernel_rfl) (by kernel_rfl) (Reads.pure (.move rfl)) ?_
      refine .rp 9 rfl (by kernel_rfl) (by kernel_rfl) (by kernel_rfl) (Reads.pure (.nilCheck rfl)) ?_
      refine .rp 10 rfl (by kernel_rfl) (by kernel_rfl) (by kernel_rfl) (Reads.pure (.fieldAddr fd71_0 rfl)) ?_
      refine .rd 11 rfl rfl (by kernel_rfl) (by kernel_rfl) (by kernel_rfl) (.ld na3 rfl (.tail .head) rfl) (.cons (.tail .head) (.cons .head .nil)) ?_
      refine .rp 12 rfl (by kernel_rfl) (by kernel_rfl) (by kernel_rfl) (Reads.pure (.move rfl)) ?_
      refine .rp 13 rfl (by kernel_rfl) (by kernel_rfl) (by kernel_rfl) (Reads.pure (.nilCheck rfl)) ?_
      refine .rp 14 rfl (by kernel_rfl) (by kernel_rfl) (by kernel_rfl) (Reads.pure (.fieldAddr fd60_4 rfl)) ?_
      refine .rd 15 rfl rfl (by kernel_rfl) (by kernel_rfl) (by kernel_rfl) (.ld na3 rfl .head rfl) (.cons (.tail .head) (.cons .head .nil)) ?_
      refine .rp 16 rfl (by kernel_rfl) (by kernel_rfl) (by kernel_rfl) (Reads.pure (.build rfl (bld32_0_1_2_3_11_9 _ _ _ _ _ _))) ?_
      refine .ef 17 (by kernel_rfl) rfl (.alloc ti32 rfl (ones.of rfl)) ?_
      rintro _ _ ⟨b6, rfl, rfl⟩
      refine ⟨.inr ⟨_, (.cons (.tail (.tail .head)) (.cons (.tail .head) .nil))⟩, ?_⟩
      refine .ef0 18 (by kernel_rfl) rfl (.storeAll (vs := OutX.cells (⟨⟨s.aim (partOf r), nextN s.number, s.pid, 0, 0, none⟩, 0, none, 0⟩ : OutX)) ts32 rfl rfl rfl .head rfl (ones.of rfl)) ?_
      rintro _ _ rfl
      refine ⟨.inl (by kernel_rfl), ?_⟩
      refine .done (by kernel_rfl) ?_
      refine .seq ?_
      refine .seq ?_
      refine .region ?_
      refine .rd (.move rfl) ?_
      refine .rd (.nilCheck rfl) ?_
      refine .rd (.fieldAddr fd71_4 rfl) ?_
      refine .rd (.ld na62 rfl (.tail .head) rfl) ?_
      refine .rd (.assign rfl) ?_
      refine .nil ?_
      refine .seq ?_
      refine .region ?_
      refine .rd (.move rfl) ?_
      refine .rd (.neNilP Try.underlying62 rfl rfl) ?_
      refine .nil ?_
      refine .joinEx (σ := OutX) (φ := fun z => z.o = askO s now r (r.of.map (callAt s))) (E' := fun z => [(0, .pointer (some ⟨pb, 0, none⟩)), (1, .int .i64 now), (2, .pointer (some ⟨rb, 0, none⟩)), (6, .pointer (some ⟨b6, 0, none⟩))]) (Γ' := fun z => [blk pb (PS.cells (askS s) x none 0 0) 60, blk rb (Req.cells (askR s now r) q) 71, bag CB cl, IM x.ab s.aims, know (KN s x cl), blk b6 z.cells 32, know z.at_, R]) (fun sj hj => ?_) (fun fin => ?_)
      · have hz := hj
        refine .nilArr 32 21 none ?_
        refine .draws [4, 5] [blk pb (PS.cells (askS s) x none 0 0) 60, blk b6 sj.cells 32] (by kernel_rfl) ?_
        refine .rp 0 rfl (by kernel_rfl) (by kernel_rfl) (by kernel_rfl) (Reads.pure (.move rfl)) ?_
        refine .rp 1 rfl (by kernel_rfl) (by kernel_rfl) (by kernel_rfl) (Reads.pure (.move rfl)) ?_
        refine .rp 2 rfl (by kernel_rfl) (by kernel_rfl) (by kernel_rfl) (Reads.pure (.nilCheck rfl)) ?_
        refine .rp 3 rfl (by kernel_rfl) (by kernel_rfl) (by kernel_rfl) (Reads.pure (.fieldAddr fd60_14 rfl)) ?_
        refine .rd 4 rfl rfl (by kernel_rfl) (by kernel_rfl) (by kernel_rfl) (.ld na36 rfl .head rfl) (.cons (.tail .head) (.cons (.tail (.tail (.tail (.tail (.tail .head))))) .nil)) ?_
        refine .rd 5 rfl rfl (by kernel_rfl) (by kernel_rfl) (by kernel_rfl) (.ldN ia32 ts32 rfl (.tail .head) rfl) (.cons (.tail .head) (.cons (.tail (.tail (.tail (.tail (.tail .head))))) .nil)) ?_
        refine .ef 6 (by kernel_rfl) rfl (.buildOne (cs := sj.cells) Try.underlying36 ti32 (by decide) rfl rfl rfl sj.cells_ones) ?_
        rintro _ _ ⟨bz, rfl, rfl⟩
        refine ⟨.inr ⟨_, (.cons (.tail (.tail .head)) (.cons (.tail (.tail (.tail (.tail (.tail (.tail .head)))))) .nil))⟩, ?_⟩
        refine .ef 7 (by kernel_rfl) rfl (.append rfl rfl Try.underlying36 ti32 rfl (ones.of rfl) (by decide) (by decide) rfl rfl (.tail .head) (n := 0) (m := 1) (cs := []) rfl (.srcBlk (ys := sj.cells) .head Try.underlying36 rfl (by decide)) (by decide)) ?_
        rintro _ _ ⟨ra, rc, rfl, rn, rfl⟩
        refine ⟨.inl (by kernel_rfl), ?_⟩
        refine .rp 8 rfl (by kernel_rfl) (by kernel_rfl) (by kernel_rfl) (Reads.pure (.nilCheck rfl)) ?_
        refine .rp 9 rfl (by kernel_rfl) (by kernel_rfl) (by kernel_rfl) (Reads.pure (.fieldAddr fd60_14 rfl)) ?_
        refine .ef0 10 (by kernel_rfl) rfl (.store ts36 rfl rfl (.tail (.tail .head)) rfl (Nat.le_of_ble_eq_true rfl)) ?_
        rintro _ _ rfl
        refine ⟨.inl (by kernel_rfl), ?_⟩
        refine .done (by kernel_rfl) ?_
        refine .perm (.cons (.tail .head) (.cons .head (.cons .head (.cons .head (.cons .head (.cons .head (.cons .head (.cons .head (.cons .head (.cons .head .nil)))))))))) ?_
        refine .cast (X' := arr 32 21 ra rc sj.cells) (by rw [List.nil_append]) ?_
        refine .perm (.cons (.tail .head) (.cons .head (.cons .head (.cons .head (.cons .head (.cons .head (.cons .head (.cons .head (.cons .head (.cons .head .nil)))))))))) ?_
        refine .cast (X' := blk pb (PS.cells (askS s) x ra 1 rc) 60) (rfl) ?_
        refine .endP Try.func26 .nil (.cons .head (.cons (.tail (.tail .head)) (.cons (.tail (.tail .head)) (.cons (.tail (.tail .head)) (.cons (.tail (.tail .head)) (.cons .head (.cons (.tail (.tail .head)) (.cons (.tail (.tail .head)) .nil)))))))) ?_
        exact ⟨[_, _, _, _, _, _, _], ⟨sj, ra, rc, hz, rfl⟩, rfl⟩
      · refine .cond rfl (fun h7 => ?_) (fun h7 => ?_)
        · obtain ⟨i, y, hri, hy, hqa⟩ : ∃ i y, r.of = some i ∧ cl[i]? = some y ∧ q = some y.a := by
            cases hro : r.of with
            | none => rw [hro] at hof; simp only [ofAt] at hof; rw [hof] at h7; simp at h7
            | some i => rw [hro] at hof; obtain ⟨y, h1, h2⟩ := hof; exact ⟨i, y, rfl, h1, h2⟩
          have hym := List.mem_of_getElem? hy
          have hcy := hW.at_ hy
          refine .alter (t := 7) (v' := .pointer (some ⟨y.a, 0, none⟩)) rfl (by rw [hqa]; rfl) ?_
          refine .draws [3, 7, 11, 15, 19, 23, 27, 31] [blk pb (PS.cells (askS s) x none 0 0) 60, blk rb (Req.cells (askR s now r) q) 71, bag CB cl] (by kernel_rfl) ?_
          refine .rp 0 rfl (by kernel_rfl) (by kernel_rfl) (by kernel_rfl) (Reads.pure (.move rfl)) ?_
          refine .rp 1 rfl (by kernel_rfl) (by kernel_rfl) (by kernel_rfl) (Reads.pure (.nilCheck rfl)) ?_
          refine .rp 2 rfl (by kernel_rfl) (by kernel_rfl) (by kernel_rfl) (Reads.pure (.fieldAddr fd60_0 rfl)) ?_
          refine .rd 3 rfl rfl (by kernel_rfl) (by kernel_rfl) (by kernel_rfl) (.ld na3 rfl .head rfl) (.cons (.tail (.tail .head)) (.cons (.tail .head) (.cons (.tail .head) .nil))) ?_
          refine .rp 4 rfl (by kernel_rfl) (by kernel_rfl) (by kernel_rfl) (Reads.pure (.move rfl)) ?_
          refine .rp 5 rfl (by kernel_rfl) (by kernel_rfl) (by kernel_rfl) (Reads.pure (.nilCheck rfl)) ?_
          refine .rp 6 rfl (by kernel_rfl) (by kernel_rfl) (by kernel_rfl) (Reads.pure (.fieldAddr fd71_1 rfl)) ?_
          refine .rd 7 rfl rfl (by kernel_rfl) (by kernel_rfl) (by kernel_rfl) (.ld na3 rfl (.tail .head) rfl) (.cons (.tail (.tail .head)) (.cons (.tail .head) (.cons (.tail .head) .nil))) ?_
          refine .rp 8 rfl (by kernel_rfl) (by kernel_rfl) (by kernel_rfl) (Reads.pure (.move rfl)) ?_
          refine .rp 9 rfl (by kernel_rfl) (by kernel_rfl) (by kernel_rfl) (Reads.pure (.nilCheck rfl)) ?_
          refine .rp 10 rfl (by kernel_rfl) (by kernel_rfl) (by kernel_rfl) (Reads.pure (.fieldAddr fd71_0 rfl)) ?_
          refine .rd 11 rfl rfl (by kernel_rfl) (by kernel_rfl) (by kernel_rfl) (.ld na3 rfl (.tail .head) rfl) (.cons (.tail (.tail .head)) (.cons (.tail .head) (.cons (.tail .head) .nil))) ?_
          refine .rp 12 rfl (by kernel_rfl) (by kernel_rfl) (by kernel_rfl) (Reads.pure (.move rfl)) ?_
          refine .rp 13 rfl (by kernel_rfl) (by kernel_rfl) (by kernel_rfl) (Reads.pure (.nilCheck rfl)) ?_
          refine .rp 14 rfl (by kernel_rfl) (by kernel_rfl) (by kernel_rfl) (Reads.pure (.fieldAddr fd65_1 rfl)) ?_
          refine .rd 15 rfl rfl (by kernel_rfl) (by kernel_rfl) (by kernel_rfl) (.load na3 rfl (Knows.one (i := 1) (Knows.callx (.tail (.tail .head)) hym) rfl)) (.cons (.tail (.tail .head)) (.cons (.tail .head) (.cons (.tail .head) .nil))) ?_
          refine .rp 16 rfl (by kernel_rfl) (by kernel_rfl) (by kernel_rfl) (Reads.pure (.move rfl)) ?_
          refine .rp 17 rfl (by kernel_rfl) (by kernel_rfl) (by kernel_rfl) (Reads.pure (.nilCheck rfl)) ?_
          refine .rp 18 rfl (by kernel_rfl) (by kernel_rfl) (by kernel_rfl) (Reads.pure (.fieldAddr fd65_3 rfl)) ?_
          refine .rd 19 rfl rfl (by kernel_rfl) (by kernel_rfl) (by kernel_rfl) (.load na3 rfl (Knows.one (i := 3) (Knows.callx (.tail (.tail .head)) hym) rfl)) (.cons (.tail (.tail .head)) (.cons (.tail .head) (.cons (.tail .head) .nil))) ?_
          refine .rp 20 rfl (by kernel_rfl) (by kernel_rfl) (by kernel_rfl) (Reads.pure (.move rfl)) ?_
          refine .rp 21 rfl (by kernel_rfl) (by kernel_rfl) (by kernel_rfl) (Reads.pure (.nilCheck rfl)) ?_
          refine .rp 22 rfl (by kernel_rfl) (by kernel_rfl) (by kernel_rfl) (Reads.pure (.fieldAddr fd65_4 rfl)) ?_
          refine .rd 23 rfl rfl (by kernel_rfl) (by kernel_rfl) (by kernel_rfl) (.load na3 rfl (Knows.one (i := 4) (Knows.callx (.tail (.tail .head)) hym) rfl)) (.cons (.tail (.tail .head)) (.cons (.tail .head) (.cons (.tail .head) .nil))) ?_
          refine .rp 24 rfl (by kernel_rfl) (by kernel_rfl) (by kernel_rfl) (Reads.pure (.move rfl)) ?_
          refine .rp 25 rfl (by kernel_rfl) (by kernel_rfl) (by kernel_rfl) (Reads.pure (.nilCheck rfl)) ?_
          refine .rp 26 rfl (by kernel_rfl) (by kernel_rfl) (by kernel_rfl) (Reads.pure (.fieldAddr fd65_5 rfl)) ?_
          refine .rd 27 rfl rfl (by kernel_rfl) (by kernel_rfl) (by kernel_rfl) (.load na3 rfl (Knows.one (i := 5) (Knows.callx (.tail (.tail .head)) hym) rfl)) (.cons (.tail (.tail .head)) (.cons (.tail .head) (.cons (.tail .head) .nil))) ?_
          refine .rp 28 rfl (by kernel_rfl) (by kernel_rfl) (by kernel_rfl) (Reads.pure (.move rfl)) ?_
          refine .rp 29 rfl (by kernel_rfl) (by kernel_rfl) (by kernel_rfl) (Reads.pure (.nilCheck rfl)) ?_
          refine .rp 30 rfl (by kernel_rfl) (by kernel_rfl) (by kernel_rfl) (Reads.pure (.fieldAddr fd65_2 rfl)) ?_
          refine .rd 31 rfl rfl (by kernel_rfl) (by kernel_rfl) (by kernel_rfl) (.load na33 rfl (Knows.one (i := 2) (Knows.callx (.tail (.tail .head)) hym) rfl)) (.cons (.tail (.tail .head)) (.cons (.tail .head) (.cons (.tail .head) .nil))) ?_
          refine .rp 32 rfl (by kernel_rfl) (by kernel_rfl) (by kernel_rfl) (Reads.pure (.build rfl (bld52_2_3_4_5 _ _ _ _ _ _))) ?_
          refine .ef 33 (by kernel_rfl) rfl (.buildOne (cs := [.int .i64 0, .int .i64 0, .int .i64 y.c.pid, .int .i64 y.c.epoch, .int .i64 y.c.seq, .slice y.ra 1 y.rc]) Try.underlying29 ti52 (by decide) rfl rfl rfl (ones.of rfl)) ?_
          rintro _ _ ⟨bs, rfl, rfl⟩
          refine ⟨.inr ⟨_, (.cons (.tail (.tail (.tail .head))) (.cons (.tail (.tail .head)) (.cons (.tail (.tail .head)) .nil)))⟩, ?_⟩
          refine .rp 34 rfl (by kernel_rfl) (by kernel_rfl) (by kernel_rfl) (Reads.pure (.build rfl (bld32_0_1_2_3_4_18 _ _ _ _ _ _ _ _))) ?_
          refine .ef0 35 (by kernel_rfl) rfl (.storeAll (vs := OutX.cells (⟨⟨s.aim (partOf r), nextN s.number, y.c.pid, y.c.epoch, y.c.seq, some y.c.text⟩, bs, y.ra, y.rc⟩ : OutX)) ts32 rfl rfl rfl (.tail .head) rfl (ones.of rfl)) ?_
          rintro _ _ rfl
          refine ⟨.inl (by kernel_rfl), ?_⟩
          refine .done (by kernel_rfl) ?_
          refine .dup (.tail (.tail (.tail (.tail (.tail (.tail .head)))))) ?_
          refine .settle (.tail (.tail (.tail .head))) (Settles.blk) ?_
          refine .knowAnd (OutX.at_ (⟨⟨s.aim (partOf r), nextN s.number, y.c.pid, y.c.epoch, y.c.seq, some y.c.text⟩, bs, y.ra, y.rc⟩ : OutX)) (.cons .head (.cons (.tail .head) .nil)) (fun w h1 h2 => ⟨rowBlk h1, h2.2 y hym⟩) ?_
          exact fin ((⟨⟨s.aim (partOf r), nextN s.number, y.c.pid, y.c.epoch, y.c.seq, some y.c.text⟩, bs, y.ra, y.rc⟩ : OutX)) (by show _ = askO s now r (r.of.map (callAt s)); rw [hri]; show _ = askO s now r (some (callAt s i)); rw [hcy.2.1]; rfl) (.cons rfl (.cons rfl (.cons rfl (.cons rfl .nil)))) (.cons (.tail (.tail (.tail (.tail .head)))) (.cons (.tail (.tail (.tail .head))) (.cons (.tail (.tail (.tail .head))) (.cons (.tail (.tail (.tail .head))) (.cons (.tail .head) (.cons (.tail .head) (.cons .head (.cons .head .nil))))))))
        · have hqn : q = none := by cases q with | none => rfl | some a => simp at h7
          have hrn : r.of = none := by have := ofAt_none hof; rw [hqn] at this; cases h : r.of with | none => rfl | some i => rw [h] at this; cases this
          refine .skip ?_
          refine .knowT (OutX.at_ (⟨⟨s.aim (partOf r), nextN s.number, s.pid, 0, 0, none⟩, 0, none, 0⟩ : OutX)) (fun w => trivial) ?_
          exact fin ((⟨⟨s.aim (partOf r), nextN s.number, s.pid, 0, 0, none⟩, 0, none, 0⟩ : OutX)) (by show _ = askO s now r (r.of.map (callAt s)); rw [hrn]; rfl) (.cons rfl (.cons rfl (.cons rfl (.cons rfl .nil)))) (.cons (.tail (.tail (.tail .head))) (.cons (.tail (.tail .head)) (.cons (.tail (.tail .head)) (.cons (.tail (.tail .head)) (.cons (.tail (.tail .head)) (.cons (.tail .head) (.cons .head (.cons .head .nil))))))))
  · refine .condP rfl (fun h1 => ?_) (fun h1 => ?_)
    · refine .region ?_
      refine .rd (.move rfl) ?_
      refine .rd (.nilCheck rfl) ?_
      refine .rd (.fieldAddr fd60_11 rfl) ?_
      refine .ef0 (.store ts3 rfl rfl .head rfl (Nat.le_of_ble_eq_true rfl)) ?_
      rintro _ _ rfl
      refine .nil ?_
      refine .cast (X' := blk pb (PS.cells (askS s) x none 0 0) 60) (by unfold askS; rw [nextN_hi h1]; rfl) ?_
      exact fin (.cons rfl (.cons rfl (.cons rfl .nil))) (.cons .head (.cons .head (.cons .head (.cons .head (.cons .head (.cons .head .nil))))))
    · refine .skip ?_
      refine .cast (X' := blk pb (PS.cells (askS s) x none 0 0) 60) (by unfold askS; rw [nextN_lo h1]; rfl) ?_
      exact fin (.cons rfl (.cons rfl (.cons rfl .nil))) (.cons .head (.cons .head (.cons .head (.cons .head (.cons .head (.cons .head .nil))))))

set_option maxHeartbeats 1000000 in
set_option maxRecDepth 20000 in
theorem begin_ok (pb : Nat) (now : Int) (s : PS) (x : PX) (cl : List CallX) (of q : Option Nat) (hB : PB s) (hW : PW s cl) (hof : ofAt cl of q) (hnow : 0 ≤ now ∧ now ≤ 1000000000000) (hun : s.under = none) : Cn Try.prog 36 [.pointer (some ⟨pb, 0, none⟩), .int .i64 now, .pointer (q.map fun a => (⟨a, 0, none⟩ : Addr))] (fun _ => True) [blk pb (PS.cells s x none 0 0) 60, bag CB cl, IM x.ab s.aims, know (KN s x cl), arr 69 1 x.ua x.uc []] fun v G => ∃ (rb : Nat) (ua : Option Addr) (uc : Nat) (z : OutX) (oa : Option Addr) (oc : Nat), z.o = askO s now (beginR s of) (of.map (callAt s)) ∧ G = [blk pb (PS.cells (beginS s now of) { x with ua := ua, uc := uc } oa 1 oc) 60, blk rb (Req.cells (askR s now (beginR s of)) q) 71, bag CB cl, IM x.ab s.aims, know (KN s x cl), arr 69 1 ua uc [.pointer (some ⟨rb, 0, none⟩)], arr 32 21 oa oc z.cells, know z.at_] := by
  refine .enter Try.func36 rfl (by kernel_rfl) rfl fun R k => ?_
  refine .seq ?_
  refine .region ?_
  refine .rd (.move rfl) ?_
  refine .rd (.move rfl) ?_
  refine .rd (.nilCheck rfl) ?_
  refine .rd (.fieldAddr fd60_2 rfl) ?_
  refine .rd (.ld na3 rfl .head rfl) ?_
  refine .rd (.build rfl (bld71_4_2 _ _)) ?_
  refine .ef (.box (l := Req.cells (beginR s of) q) rfl rfl (ones.of rfl)) ?_
  rintro _ _ ⟨rb, rfl, rfl⟩
  refine .rd (.assign rfl) ?_
  refine .nil ?_
  refine .seq ?_
  refine .region ?_
  refine .rd (.move rfl) ?_
  refine .rd (.move rfl) ?_
  refine .rd (.move rfl) ?_
  refine .fn rfl rfl (.cons (.tail .head) (.cons .head (.cons .head (.cons .head (.cons .head .nil))))) (fun _ _ _ => trivial) (ask_ok pb rb now s x cl (beginR s of) q hB hW hof hnow hB.tries) (fun v G1 hq => ?_)
  obtain ⟨z, oa, oc, hz, rfl⟩ := hq
  simp only [List.cons_append, List.nil_append]
  refine .nil ?_
  refine .region ?_
  refine .rd (.move rfl) ?_
  refine .rd (.move rfl) ?_
  refine .rd (.nilCheck rfl) ?_
  refine .rd (.fieldAddr fd60_10 rfl) ?_
  refine .rd (.ld na58 rfl .head (show (PS.cells (askS s) x oa 1 oc)[10]? = some (.slice x.ua 0 x.uc) by show some (Value.slice x.ua (unders s.under) x.uc) = _; rw [hun]; rfl)) ?_
  refine .rd (.move rfl) ?_
  refine .ef (.buildOne (cs := [.pointer (some ⟨rb, 0, none⟩)]) Try.underlying58 ti69 (by decide) rfl rfl rfl (ones.of rfl)) ?_
  rintro _ _ ⟨bu, rfl, rfl⟩
  refine .ef (.append rfl rfl Try.underlying58 ti69 rfl (ones.of rfl) (by decide) (by decide) rfl rfl (.tail (.tail (.tail (.tail (.tail (.tail (.tail (.tail .head)))))))) (n := 0) (m := 1) (cs := []) rfl (.srcBlk (ys := [.pointer (some ⟨rb, 0, none⟩)]) .head Try.underlying58 rfl (by decide)) (by decide)) ?_
  rintro _ _ ⟨ua, uc, rfl, un, rfl⟩
  refine .rd (.nilCheck rfl) ?_
  refine .rd (.fieldAddr fd60_10 rfl) ?_
  refine .ef0 (.store ts58 rfl rfl (.tail (.tail .head)) rfl (Nat.le_of_ble_eq_true rfl)) ?_
  rintro _ _ rfl
  refine .nil ?_
  refine .perm (.cons (.tail .head) (.cons .head (.cons .head (.cons .head (.cons .head (.cons .head (.cons .head (.cons .head (.cons .head (.cons .head .nil)))))))))) ?_
  refine .cast (X' := arr 69 1 ua uc [.pointer (some ⟨rb, 0, none⟩)]) (by rw [List.nil_append]) ?_
  refine .perm (.cons (.tail .head) (.cons .head (.cons .head (.cons .head (.cons .head (.cons .head (.cons .head (.cons .head (.cons .head (.cons .head .nil)))))))))) ?_
  refine .cast (X' := blk pb (PS.cells (beginS s now of) { x with ua := ua, uc := uc } oa 1 oc) 60) (rfl) ?_
  refine .perm (.cons (.tail (.tail (.tail (.tail (.tail .head))))) (.cons .head (.cons .head (.cons .head (.cons .head (.cons .head (.cons .head (.cons .head (.cons .head (.cons .head .nil)))))))))) ?_
  refine .cast (X' := IM x.ab s.aims) (rfl) ?_
  refine .endP Try.func36 .nil (.cons (.tail .head) (.cons (.tail (.tail (.tail .head))) (.cons (.tail (.tail (.tail .head))) (.cons .head (.cons (.tail (.tail .head)) (.cons .head (.cons (.tail .head) (.cons (.tail .head) (.cons (.tail .head) .nil))))))))) ?_
  exact ⟨[_, _, _, _, _, _, _, _], ⟨rb, ua, uc, z, oa, oc, hz, rfl⟩, rfl⟩

end Go.Proofs.Ytlcglmimndkleaa


namespace Go.Proofs.Ytlcglmimndkleaa
open Go Go.Sp

set_option linter.unusedVariables false

namespace prod5
theorem kl3 : KL Try.prog 3 (fun n : Int => Value.int .i64 n) := .int Try.underlying3
theorem fd60_7 : FD Try.prog 60 7 7 := .of Try.underlying60 (by kernel_rfl)
theorem na57 : NotAgg Try.prog 57 := ⟨_, Try.underlying57, trivial⟩
theorem fd60_6 : FD Try.prog 60 6 6 := .of Try.underlying60 (by kernel_rfl)
theorem na4 : NotAgg Try.prog 4 := ⟨_, Try.underlying4, trivial⟩
theorem fd60_10 : FD Try.prog 60 10 10 := .of Try.underlying60 (by kernel_rfl)
theorem na58 : NotAgg Try.prog 58 := ⟨_, Try.underlying58, trivial⟩
theorem fd60_12 : FD Try.prog 60 12 12 := .of Try.underlying60 (by kernel_rfl)
theorem na3 : NotAgg Try.prog 3 := ⟨_, Try.underlying3, trivial⟩
theorem ts62 : TS Try.prog 62 1 := .of (by kernel_rfl)
theorem na62 : NotAgg Try.prog 62 := ⟨_, Try.underlying62, trivial⟩
theorem ti62 : TI Try.prog 62 1 8 (.pointer none) := .of (by kernel_rfl)
theorem fd65_6 : FD Try.prog 65 6 6 := .of Try.underlying65 (by kernel_rfl)
theorem fd60_8 : FD Try.prog 60 8 8 := .of Try.underlying60 (by kernel_rfl)
theorem na56 : NotAgg Try.prog 56 := ⟨_, Try.underlying56, trivial⟩
theorem fd65_1 : FD Try.prog 65 1 1 := .of Try.underlying65 (by kernel_rfl)
theorem ti3 : TI Try.prog 3 1 8 (.int .i64 0) := .of (by kernel_rfl)
theorem fd65_2 : FD Try.prog 65 2 2 := .of Try.underlying65 (by kernel_rfl)
theorem na33 : NotAgg Try.prog 33 := ⟨_, Try.underlying33, trivial⟩
theorem ts4 : TS Try.prog 4 1 := .of (by kernel_rfl)
theorem fd60_4 : FD Try.prog 60 4 4 := .of Try.underlying60 (by kernel_rfl)
theorem fd60_5 : FD Try.prog 60 5 5 := .of Try.underlying60 (by kernel_rfl)
theorem fd65_3 : FD Try.prog 65 3 3 := .of Try.underlying65 (by kernel_rfl)
theorem ts3 : TS Try.prog 3 1 := .of (by kernel_rfl)
theorem fd65_4 : FD Try.prog 65 4 4 := .of Try.underlying65 (by kernel_rfl)
theorem fd65_5 : FD Try.prog 65 5 5 := .of Try.underlying65 (by kernel_rfl)
end prod5
open prod5

theorem reqR_open {cl : List CallX} {r : Req} {rb : Nat} {h : Hp} (H : reqR cl (some r) rb h) : ∃ q, ofAt cl r.of q ∧ sat [blk rb (r.cells q) 71] h := by
  obtain ⟨q, h1, h2⟩ := H; exact ⟨q, h1, ⟨h, fun _ => none, fun _ => .inr (.inl rfl), .refl _, fun _ _ e => by simp at e, h2, trivial⟩⟩
theorem reqR_close {cl : List CallX} {r : Req} {q : Option Nat} {rb : Nat} {h : Hp} (hof : ofAt cl r.of q) (H : sat [blk rb (r.cells q) 71] h) : reqR cl (some r) rb h := by obtain ⟨h1, _, _, l, _, H', _⟩ := H; exact ⟨q, hof, blk_mono l H'⟩
theorem mget_mem : ∀ {l : List (Int × Int)} {x v : Int}, mget l x = some v → (x, v) ∈ l
  | [], _, _, h => by cases h
  | p :: l, x, v, h => by
    rw [mget_cons] at h
    split at h
    · rename_i e; cases h; rw [e]; exact .head _
    · exact .tail _ (mget_mem h)
theorem pump1_busy {s : PS} {now : Int} {r : Req} (h : s.under = some r) : pump1 s now = (s, none) := by unfold pump1; rw [h]
theorem firstOpen_none {s : PS} (h : ∀ j < s.calls.length, (callAt s j).over = true) : firstOpen s = none := List.findIdx?_eq_none_iff.2 fun c hc => by
  obtain ⟨i, hi, rfl⟩ := List.mem_iff_getElem.1 hc
  have := h i hi
  unfold callAt at this; rw [List.getD_eq_getElem?_getD, List.getElem?_eq_getElem hi] at this
  simpa using this
theorem firstOpen_some {s : PS} {k : Nat} (hk : k < s.calls.length) (h : ∀ j < k, (callAt s j).over = true) (h2 : (callAt s k).over = false) : firstOpen s = some k := by
  have ge : ∀ j (hj : j < s.calls.length), callAt s j = s.calls[j] := fun j hj => by unfold callAt; rw [List.getD_eq_getElem?_getD, List.getElem?_eq_getElem hj]; rfl
  unfold firstOpen
  rw [List.findIdx?_eq_some_iff_getElem]
  refine ⟨hk, by rw [← ge k hk, h2]; rfl, fun j hj => ?_⟩
  have := h j hj; rw [ge j (by omega)] at this; simp [this]
theorem pump1_all {s : PS} {now : Int} (h : firstOpen s = none) : pump1 s now = (s, none) := by unfold pump1; rw [h]; cases s.under <;> rfl
theorem pump1_stale {s : PS} {now : Int} {k : Nat} (hu : s.under = none) (h : firstOpen s = some k) (hf : s.fresh = false) : pump1 s now = (s, none) := by unfold pump1; rw [hu, h]; simp [hf]
theorem pump1_full {s : PS} {now : Int} {k : Nat} (hu : s.under = none) (h : firstOpen s = some k) (hf : s.fresh = true) (hn : 1000000 < nextOf s) : pump1 s now = ({ s with fresh := false }, none) := by unfold pump1; rw [hu, h]; simp [hf, hn]
theorem pump1_go {s : PS} {now : Int} {k : Nat} (hu : s.under = none) (h : firstOpen s = some k) (hf : s.fresh = true) (hn : ¬ 1000000 < nextOf s) : pump1 s now = (beginS (stampS s k) now (some k), some (askO (stampS s k) now (beginR s (some k)) (some (stamped s k)))) := by unfold pump1; rw [hu, h]; simp [hf, hn]
theorem nextOf_bound {s : PS} (h : PB s) : 0 ≤ nextOf s ∧ nextOf s ≤ 2000000 := by
  unfold nextOf
  cases e : mget s.next 2 with
  | none => exact ⟨by decide, by decide⟩
  | some v => exact h.next _ (mget_mem e)
theorem PB.fresh {s : PS} (h : PB s) : PB { s with fresh := false } := { h with stale := fun _ _ _ => rfl }
theorem callAt_set {s : PS} {k : Nat} {c : Call} (hk : k < s.calls.length) : callAt { s with calls := s.calls.set k c } k = c := by
  unfold callAt; rw [List.getD_eq_getElem?_getD, List.getElem?_set, if_pos rfl, if_pos hk]; rfl
theorem PB.stamp {s : PS} (h : PB s) (hu : s.under = none) (k : Nat) (hn : nextOf s ≤ 1000000) : PB (stampS s k) := { h with
  many := by show (s.calls.set k _).length ≤ _; rw [List.length_set]; exact h.many
  rof := fun r i hr => by rw [show (stampS s k).under = none from hu] at hr; cases hr
  seqs := fun c hc => by
    rcases List.mem_or_eq_of_mem_set hc with h2 | h2
    · exact h.seqs c h2
    · rw [h2]; exact ⟨(nextOf_bound h).1, hn⟩ }
theorem pump1_keep {s t : PS} {now : Int} {o : Option Out} (h : pump1 s now = (t, o)) : t.brokers = s.brokers ∧ t.aims = s.aims ∧ t.calls.length = s.calls.length := by
  unfold pump1 at h
  split at h
  · split at h
    · cases h; exact ⟨rfl, rfl, rfl⟩
    · split at h
      · cases h; exact ⟨rfl, rfl, rfl⟩
      · cases h; exact ⟨rfl, rfl, List.length_set⟩
  · cases h; exact ⟨rfl, rfl, rfl⟩

set_option maxHeartbeats 2000000 in
set_option maxRecDepth 20000 in
theorem pump_ok (pb rb : Nat) (now : Int) (s : PS) (x : PX) (cl : List CallX) (zs0 : List OutX) (oa0 : Option Addr) (oc0 : Nat) (hB : PB s) (hW : PW s cl) (hnow : 0 ≤ now ∧ now ≤ 1000000000000) (hout : s.under = none → zs0 = [] ∧ oa0 = none ∧ oc0 = 0) : Cn Try.prog 18 [.pointer (some ⟨pb, 0, none⟩), .int .i64 now] (fun _ => True) [blk pb (PS.cells s (x) oa0 zs0.length oc0) 60, reqR cl s.under rb, bag CB cl, IM x.ab s.aims, IM x.nb s.next, arr 62 1 x.ca x.cc (cl.flatMap cptr), arr 69 1 x.ua x.uc (ubs s.under rb), arr 32 21 oa0 oc0 (zs0.flatMap OutX.cells), know (fun w => ∀ z ∈ zs0, z.at_ w), know (KN s x cl)] fun v G => ∃ (t : PS) (cl' : List CallX) (ua : Option Addr) (uc rb : Nat) (zs : List OutX) (oa : Option Addr) (oc : Nat), SameX cl cl' ∧ PW t cl' ∧ t = (pump s now).1 ∧ zs.map (·.o) = zs0.map (·.o) ++ (pump s now).2.toList ∧ G = [blk pb (PS.cells t ({ x with ua := ua, uc := uc }) oa zs.length oc) 60, reqR cl' t.under rb, bag CB cl', IM x.ab s.aims, IM x.nb s.next, arr 62 1 x.ca x.cc (cl.flatMap cptr), arr 69 1 ua uc (ubs t.under rb), arr 32 21 oa oc (zs.flatMap OutX.cells), know (fun w => ∀ z ∈ zs, z.at_ w), know (KN s x cl)] := by
  refine .enter Try.func18 rfl (by kernel_rfl) rfl fun R k => ?_
  have hmany := hB.many
  refine .seq ?_
  refine .seq ?_
  refine .region ?_
  refine .rd (.move rfl) ?_
  refine .rd (.nilCheck rfl) ?_
  refine .rd (.fieldAddr fd60_7 rfl) ?_
  refine .rd (.ld na57 rfl .head rfl) ?_
  refine .rd (.lenL rfl rfl Try.underlying57 rfl) ?_
  refine .rd (.move rfl) ?_
  refine .nil ?_
  refine .joinEx (σ := PS × List CallX × Option Addr × Nat × Nat × List OutX × Option Addr × Nat) (φ := fun ⟨t, cl', ua, uc, rb, zs, oa, oc⟩ => (SameX cl cl' ∧ PW t cl' ∧ ((∃ z, pump1 s now = (t, some z.o) ∧ zs = [z] ∧ t.fresh = true ∧ s.under = none) ∨ (pump1 s now = (t, none) ∧ t.under = s.under ∧ PB t ∧ zs = zs0 ∧ oa = oa0 ∧ oc = oc0)) ∧ t.brokers = s.brokers ∧ t.aims = s.aims ∧ t.calls.length = s.calls.length)) (E' := fun ⟨t, cl', ua, uc, rb, zs, oa, oc⟩ => [(0, .pointer (some ⟨pb, 0, none⟩)), (1, .int .i64 now)]) (Γ' := fun ⟨t, cl', ua, uc, rb, zs, oa, oc⟩ => [blk pb (PS.cells t ({ x with ua := ua, uc := uc }) oa zs.length oc) 60, reqR cl' t.under rb, bag CB cl', IM x.ab s.aims, IM x.nb s.next, arr 62 1 x.ca x.cc (cl.flatMap cptr), arr 69 1 ua uc (ubs t.under rb), arr 32 21 oa oc (zs.flatMap OutX.cells), know (fun w => ∀ z ∈ zs, z.at_ w), know (KN s x cl), R]) (fun sj hj => ?_) (fun fin => ?_)
  · obtain ⟨t, cl', ua, uc, rb, zs, oa, oc⟩ := sj
    dsimp only at hj ⊢
    obtain ⟨hsx, hPW, hD, hbr, hai, hcn⟩ := hj
    refine .seq ?_
    refine .region ?_
    refine RunO.join 20 102 (decide (t.fresh = false ∧ t.under.isNone = true ∧ 0 < t.open_)) ?_ ?_
    · refine .rd (.move rfl) ?_
      refine .rd (.nilCheck rfl) ?_
      refine .rd (.fieldAddr fd60_6 rfl) ?_
      refine .rd (.ld na4 rfl .head rfl) ?_
      refine .rd (.not rfl) ?_
      refine .rd (.move rfl) ?_
      refine .split (t := 88) rfl (fun g10_5 => ?_) (fun g10_5 => ?_)
      · refine .on (t := 88) rfl rfl ?_
        refine .rd (.move rfl) ?_
        refine .on (t := 88) rfl rfl ?_
        refine .rd (.nilCheck rfl) ?_
        refine .on (t := 88) rfl rfl ?_
        refine .rd (.fieldAddr fd60_10 rfl) ?_
        refine .on (t := 88) rfl rfl ?_
        refine .rd (.ld na58 rfl .head rfl) ?_
        refine .on (t := 88) rfl rfl ?_
        refine .rd (.lenL rfl rfl Try.underlying58 rfl) ?_
        refine .on (t := 88) rfl rfl ?_
        refine .rd (.eqI rfl rfl) ?_
        refine .alter (t := 94) (v' := .bool t.under.isNone) rfl (by show Value.bool (decide (((unders t.under : Nat) : Int) = 0)) = _; unfold unders; cases t.under <;> rfl) ?_
        refine .rd (.pickT rfl rfl) ?_
        refine .rd (.move rfl) ?_
        refine .split (t := 96) rfl (fun g10_13 => ?_) (fun g10_13 => ?_)
        · refine .on (t := 96) rfl rfl ?_
          refine .rd (.move rfl) ?_
          refine .on (t := 96) rfl rfl ?_
          refine .rd (.nilCheck rfl) ?_
          refine .on (t := 96) rfl rfl ?_
          refine .rd (.fieldAddr fd60_12 rfl) ?_
          refine .on (t := 96) rfl rfl ?_
          refine .rd (.ld na3 rfl .head rfl) ?_
          refine .on (t := 96) rfl rfl ?_
          refine .rd (.gt rfl rfl) ?_
          refine .rd (.pickT rfl rfl) ?_
          refine .nil ⟨rfl, ?_, by repeat (first | exact Le.refl _ | refine Le.skip rfl ?_)⟩
          exact congrArg (fun x => some (Value.bool x)) (Eq.symm (by simp [g10_5, g10_13]))
        · refine .off (t := 96) rfl rfl rfl ?_
          refine .off (t := 96) rfl rfl rfl ?_
          refine .off (t := 96) rfl rfl rfl ?_
          refine .off (t := 96) rfl rfl rfl ?_
          refine .off (t := 96) rfl rfl rfl ?_
          refine .rd (.pickF rfl rfl) ?_
          refine .nil ⟨rfl, ?_, by repeat (first | exact Le.refl _ | refine Le.skip rfl ?_)⟩
          exact congrArg (fun x => some (Value.bool x)) (Eq.symm (by simp [g10_13]))
      · refine .off (t := 88) rfl rfl rfl ?_
        refine .off (t := 88) rfl rfl rfl ?_
        refine .off (t := 88) rfl rfl rfl ?_
        refine .off (t := 88) rfl rfl rfl ?_
        refine .off (t := 88) rfl rfl rfl ?_
        refine .off (t := 88) rfl rfl rfl ?_
        refine .rd (.pickF rfl rfl) ?_
        refine .rd (.move rfl) ?_
        refine .off (t := 96) rfl rfl rfl ?_
        refine .off (t := 96) rfl rfl rfl ?_
        refine .off (t := 96) rfl rfl rfl ?_
        refine .off (t := 96) rfl rfl rfl ?_
        refine .off (t := 96) rfl rfl rfl ?_
        refine .rd (.pickF rfl rfl) ?_
        refine .nil ⟨rfl, ?_, by repeat (first | exact Le.refl _ | refine Le.skip rfl ?_)⟩
        exact congrArg (fun x => some (Value.bool x)) (Eq.symm (by simp [g10_5]))
    refine .nil ?_
    refine .condP rfl (fun h10 => ?_) (fun h10 => ?_)
    · obtain ⟨hf, hun, hop⟩ := h10
      have hun : t.under = none := Option.isNone_iff_eq_none.1 hun
      obtain ⟨hp1, hus, hBt, rfl, rfl, rfl⟩ : pump1 s now = (t, none) ∧ t.under = s.under ∧ PB t ∧ zs = zs0 ∧ oa = oa0 ∧ oc = oc0 := by rcases hD with ⟨z, h1, h2, h3, h4⟩ | h; rw [hf] at h3; cases h3; exact h
      obtain ⟨rfl, rfl, rfl⟩ := hout (hus ▸ hun)
      have hp2 : pump s now = (beginS t now none, some (askO t now (beginR t none) none)) := by unfold pump; rw [hp1]; show pump2 t now = _; unfold pump2; rw [if_pos ⟨hf, by rw [hun]; rfl, hop⟩]
      refine .perm (.cons (.tail (.tail (.tail (.tail (.tail (.tail .head)))))) (.cons .head (.cons .head (.cons .head (.cons .head (.cons .head (.cons .head (.cons .head (.cons .head (.cons .head (.cons .head .nil))))))))))) ?_
      refine .cast (X' := arr 69 1 ua uc []) (by first | (rw [hun]; done) | (rw [hun]; rfl)) ?_
      refine .perm (.cons (.tail .head) (.cons .head (.cons .head (.cons .head (.cons .head (.cons .head (.cons .head (.cons .head (.cons .head (.cons .head (.cons .head .nil))))))))))) ?_
      refine .cast (X' := blk pb (PS.cells t ({ x with ua := ua, uc := uc }) none 0 0) 60) (rfl) ?_
      refine .perm (.cons (.tail (.tail (.tail (.tail .head)))) (.cons .head (.cons .head (.cons .head (.cons .head (.cons .head (.cons .head (.cons .head (.cons .head (.cons .head (.cons .head .nil))))))))))) ?_
      refine .cast (X' := IM x.ab t.aims) (by rw [hai]) ?_
      refine .dup (.tail (.tail (.tail (.tail (.tail (.tail (.tail (.tail (.tail .head))))))))) ?_
      refine .knowMono (KN t ({ x with ua := ua, uc := uc }) cl') (.tail .head) (fun w h => (⟨hbr ▸ (SameX.kn hsx h : KN s x _ w).1, (SameX.kn hsx h : KN s x _ w).2⟩)) ?_
      refine .region ?_
      refine .rd (.move rfl) ?_
      refine .rd (.move rfl) ?_
      refine .fn rfl rfl (.cons (.tail (.tail (.tail .head))) (.cons (.tail (.tail (.tail (.tail (.tail .head))))) (.cons (.tail (.tail .head)) (.cons .head (.cons (.tail .head) .nil))))) (fun _ _ _ => trivial) (begin_ok pb now t ({ x with ua := ua, uc := uc }) cl' none none hBt hPW rfl hnow hun) (fun v G1 hq => ?_)
      obtain ⟨rb2, ua2, uc2, z, oa2, oc2, hz, rfl⟩ := hq
      simp only [List.cons_append, List.nil_append]
      refine .nil ?_
      refine .close (X := reqR cl' (beginS t now none).under rb2) (.cons (.tail .head) .nil) (fun _ H => reqR_close (q := none) (r := askR t now (beginR t none)) rfl H) ?_
      refine .perm (.cons (.tail (.tail (.tail (.tail (.tail (.tail .head)))))) (.cons .head (.cons .head (.cons .head (.cons .head (.cons .head (.cons .head (.cons .head (.cons .head (.cons .head (.cons .head (.cons .head (.cons .head (.cons .head (.cons .head .nil))))))))))))))) ?_
      refine .cast (X' := arr 32 21 oa2 oc2 ([z].flatMap OutX.cells)) (by simp) ?_
      refine .perm (.cons (.tail (.tail (.tail (.tail .head)))) (.cons .head (.cons .head (.cons .head (.cons .head (.cons .head (.cons .head (.cons .head (.cons .head (.cons .head (.cons .head (.cons .head (.cons .head (.cons .head (.cons .head .nil))))))))))))))) ?_
      refine .cast (X' := IM x.ab s.aims) (by rw [hai]) ?_
      refine .knowMono (fun w => ∀ z' ∈ [z], z'.at_ w) (.tail (.tail (.tail (.tail (.tail (.tail (.tail .head))))))) (fun w h z' hz' => by rcases List.mem_singleton.1 hz' with rfl; exact h) ?_
      refine .perm (.cons (.tail (.tail (.tail (.tail .head)))) (.cons .head (.cons .head (.cons .head (.cons .head (.cons .head (.cons .head (.cons .head (.cons .head (.cons .head (.cons .head (.cons .head (.cons .head (.cons .head (.cons .head .nil))))))))))))))) ?_
      refine .cast (X' := blk pb (PS.cells (beginS t now none) { x with ua := ua2, uc := uc2 } oa2 [z].length oc2) 60) (rfl) ?_
      refine .endP Try.func18 .nil (.cons .head (.cons (.tail (.tail (.tail .head))) (.cons (.tail (.tail (.tail .head))) (.cons (.tail .head) (.cons (.tail (.tail (.tail (.tail (.tail (.tail .head)))))) (.cons (.tail (.tail (.tail (.tail (.tail (.tail .head)))))) (.cons (.tail (.tail (.tail .head))) (.cons (.tail .head) (.cons .head (.cons (.tail .head) (.cons (.tail (.tail (.tail (.tail .head)))) .nil))))))))))) ?_
      exact ⟨[_, _, _, _, _, _, _, _, _, _], ⟨(beginS t now none), cl', ua2, uc2, rb2, [z], oa2, oc2, hsx, { hPW with }, by rw [hp2], by rw [hp2]; simp [hz], rfl⟩, rfl⟩
    · refine .skip ?_
      have hpe : pump s now = (t, (pump1 s now).2) ∧ zs.map (·.o) = zs0.map (·.o) ++ (pump1 s now).2.toList := by
        rcases hD with ⟨z, h1, h2, h3, h4⟩ | ⟨h1, h2, h3, h4, _⟩
        · refine ⟨by unfold pump; rw [h1], ?_⟩
          rw [h1, h2, (hout h4).1]; rfl
        · refine ⟨by unfold pump; rw [h1]; show pump2 t now = _; unfold pump2; rw [if_neg h10], ?_⟩
          rw [h1, h4]; simp
      refine .endP Try.func18 .nil (.cons .head (.cons .head (.cons .head (.cons .head (.cons .head (.cons .head (.cons .head (.cons .head (.cons .head (.cons .head (.cons .head .nil))))))))))) ?_
      exact ⟨[_, _, _, _, _, _, _, _, _, _], ⟨t, cl', ua, uc, rb, zs, oa, oc, hsx, hPW, by rw [hpe.1], by rw [hpe.1]; exact hpe.2, rfl⟩, rfl⟩
  · refine .block ?_
    refine .loop (σ := Nat × PS × List CallX × Option Addr × Nat × Nat × List OutX × Option Addr × Nat) (fun ⟨k, t, cl', ua, uc, rb, zs, oa, oc⟩ => k ≤ s.calls.length ∧ SameX cl cl' ∧ PW t cl' ∧ ((t = s ∧ zs = zs0 ∧ oa = oa0 ∧ oc = oc0 ∧ (s.under = none → ∀ j < k, (callAt s j).over = true)) ∨ (s.under = none ∧ t.fresh = true ∧ (∃ r j, t.under = some r ∧ r.of = some j) ∧ ∃ z, zs = [z] ∧ pump1 s now = (t, some z.o)))) (fun ⟨k, t, cl', ua, uc, rb, zs, oa, oc⟩ => s.calls.length - k) (fun ⟨k, t, cl', ua, uc, rb, zs, oa, oc⟩ => [(0, .pointer (some ⟨pb, 0, none⟩)), (1, .int .i64 now), (9, .slice x.ca s.calls.length x.cc), (10, .int .i64 s.calls.length), (11, .int .i64 (k : Nat))]) (fun ⟨k, t, cl', ua, uc, rb, zs, oa, oc⟩ => [blk pb (PS.cells t ({ x with ua := ua, uc := uc }) oa zs.length oc) 60, reqR cl' t.under rb, bag CB cl', IM x.ab s.aims, IM x.nb s.next, arr 62 1 x.ca x.cc (cl.flatMap cptr), arr 69 1 ua uc (ubs t.under rb), arr 32 21 oa oc (zs.flatMap OutX.cells), know (fun w => ∀ z ∈ zs, z.at_ w), know (KN s x cl), R]) (0, s, cl, x.ua, x.uc, rb, zs0, oa0, oc0) ⟨Nat.zero_le _, .refl cl, hW, .inl ⟨rfl, rfl, rfl, rfl, fun _ j hj => absurd hj (Nat.not_lt_zero j)⟩⟩ (.cons rfl (.cons rfl (.cons rfl (.cons rfl (.cons rfl .nil))))) (.cons .head (.cons .head (.cons .head (.cons .head (.cons .head (.cons .head (.cons .head (.cons .head (.cons .head (.cons .head (.cons .head .nil))))))))))) (fun s' hI ih => ?_)
    obtain ⟨k, t, cl', ua, uc, rb, zs, oa, oc⟩ := s'
    dsimp only at hI ih ⊢
    obtain ⟨hk, hsx, hPW, hI⟩ := hI
    have hcl := hsx.addrs
    have hlen : cl'.length = s.calls.length := by have := congrArg List.length hcl; simp only [List.length_map] at this; rw [this]; exact hW.len
    refine .seq ?_
    refine .region ?_
    refine .rd (.lt rfl rfl) ?_
    refine .nil ?_
    refine .seq ?_
    refine .condP rfl (fun h1 => ?_) (fun h1 => ?_)
    · refine .skip ?_
      refine .seq ?_
      refine .block ?_
      refine .seq ?_
      obtain ⟨y, hy⟩ : ∃ y, cl'[k]? = some y := ⟨_, List.getElem?_eq_getElem (by omega)⟩
      have hym := List.mem_of_getElem? hy
      have hca := (hPW.at_ hy).2.1
      obtain ⟨y0, hy0⟩ : ∃ y0, cl[k]? = some y0 := ⟨_, List.getElem?_eq_getElem (by rw [hW.len]; omega)⟩
      have hya : y0.a = y.a := by
        have e1 : (cl'.map (·.a))[k]? = some y.a := by rw [List.getElem?_map, hy]; rfl
        rw [hcl, List.getElem?_map, hy0] at e1; simpa using e1
      refine .tell (φ := ∃ b o, x.ca = some ⟨b, o, none⟩) ((Knows.arr (.tail (.tail (.tail (.tail (.tail .head)))))).mono fun _ h => RowAt.addr h (by rw [flat_length cptr_len, hW.len]; omega)) (fun hh => ?_)
      obtain ⟨b9, o9, hab⟩ := hh
      refine .region ?_
      refine .rd (.indexAddr (b := b9) (o := o9) Try.underlying57 ts62 (by show some (Value.slice x.ca _ _) = _; rw [hab]) rfl (by omega) (by omega)) ?_
      refine .rd (.load na62 rfl (Knows.one (i := 0) (Knows.elem (f := cptr) cptr_len (by decide) ((Knows.arr (.tail (.tail (.tail (.tail (.tail .head)))))).mono fun _ h => hab ▸ h) hy0) rfl)) ?_
      refine .alter (t := 14) (v' := .pointer (some ⟨y.a, 0, none⟩)) rfl (by rw [hya]) ?_
      refine .ef (.alloc ti62 rfl (ones.of rfl)) ?_
      rintro _ _ ⟨b5, rfl, rfl⟩
      refine .ef0 (.store ts62 rfl rfl .head rfl (Nat.le_of_ble_eq_true rfl)) ?_
      rintro _ _ rfl
      refine .nil ?_
      refine .cast (X' := blk b5 [.pointer (some ⟨y.a, 0, none⟩)] 62) (rfl) ?_
      refine .seq ?_
      refine .seq ?_
      refine .region ?_
      refine .rd (.load na62 rfl (Knows.one (i := 0) (Knows.blk .head) rfl)) ?_
      refine .rd (.nilCheck rfl) ?_
      refine .rd (.fieldAddr fd65_6 rfl) ?_
      refine .rd (.load na4 rfl (Knows.one (i := 6) (Knows.callx (.tail (.tail (.tail .head))) hym) rfl)) ?_
      refine .rd (.move rfl) ?_
      refine .split (t := 19) rfl (fun g4 => ?_) (fun g4 => ?_)
      · refine .off (t := 19) rfl rfl rfl ?_
        refine .off (t := 19) rfl rfl rfl ?_
        refine .off (t := 19) rfl rfl rfl ?_
        refine .off (t := 19) rfl rfl rfl ?_
        refine .off (t := 19) rfl rfl rfl ?_
        refine .off (t := 19) rfl rfl rfl ?_
        refine .rd (.pickT rfl rfl) ?_
        refine .nil ?_
        refine .condT rfl ?_
        refine .exit rfl ?_
        refine .region ?_
        refine .rd (.add rfl rfl (by omega) (by omega)) ?_
        refine .rd (.move rfl) ?_
        refine .nil ?_
        exact (ih (k + 1, t, cl', ua, uc, rb, zs, oa, oc) ⟨by show k + 1 ≤ _; omega, hsx, hPW, (match hI with   | .inl h => .inl ⟨h.1, h.2.1, h.2.2.1, h.2.2.2.1, fun hn j hj => by rcases Nat.lt_or_eq_of_le (Nat.le_of_lt_succ hj) with h2 | h2; exact h.2.2.2.2 hn j h2; rw [h2, ← h.1, hca]; exact g4⟩   | .inr h => .inr h)⟩ (by show _ - (k + 1) < _ - k; omega)).to (.cons rfl (.cons rfl (.cons rfl (.cons rfl (.cons rfl .nil))))) (.cons (.tail .head) (.cons (.tail .head) (.cons (.tail .head) (.cons (.tail .head) (.cons (.tail .head) (.cons (.tail .head) (.cons (.tail .head) (.cons (.tail .head) (.cons (.tail .head) (.cons (.tail .head) (.cons (.tail .head) .nil)))))))))))
      · refine .on (t := 19) rfl rfl ?_
        refine .rd (.move rfl) ?_
        rcases hu : t.under with _ | ru
        · refine .perm (.cons (.tail (.tail (.tail (.tail (.tail (.tail (.tail .head))))))) (.cons .head (.cons .head (.cons .head (.cons .head (.cons .head (.cons .head (.cons .head (.cons .head (.cons .head (.cons .head (.cons .head .nil)))))))))))) ?_
          refine .cast (X' := arr 69 1 ua uc []) (by first | rfl | (rw [hu]; rfl)) ?_
          obtain ⟨rfl, rfl, rfl, rfl, hov⟩ : (t = s ∧ zs = zs0 ∧ oa = oa0 ∧ oc = oc0 ∧ (s.under = none → ∀ j < k, (callAt s j).over = true)) := by rcases hI with h | h; exact h; obtain ⟨r, j, hr, _⟩ := h.2.2.1; rw [hu] at hr; cases hr
          obtain ⟨rfl, rfl, rfl⟩ := hout hu
          refine .on (t := 19) rfl rfl ?_
          refine .rd (.nilCheck rfl) ?_
          refine .on (t := 19) rfl rfl ?_
          refine .rd (.fieldAddr fd60_10 rfl) ?_
          refine .on (t := 19) rfl rfl ?_
          refine .rd (.ld na58 rfl (.tail (.tail .head)) (show (PS.cells t ({ x with ua := ua, uc := uc }) none 0 0)[10]? = some (.slice ua 0 uc) by show some (Value.slice ua (unders t.under) uc) = _; rw [hu]; rfl)) ?_
          refine .on (t := 19) rfl rfl ?_
          refine .rd (.makeFunc (cs := [.pointer (some ⟨b5, 0, none⟩)]) rfl rfl) ?_
          refine .on (t := 19) rfl rfl ?_
          refine .fn rfl rfl .nil (fun _ _ _ => trivial) (containsf0_ok ua uc 35 #[.pointer (some ⟨b5, 0, none⟩)]) (fun v G1 hq => ?_)
          obtain ⟨rfl, rfl⟩ := hq
          simp only [List.nil_append]
          refine .rd (.pickF rfl rfl) ?_
          refine .nil ?_
          refine .condF rfl ?_
          refine .skip ?_
          refine .seq ?_
          refine .seq ?_
          refine .region ?_
          refine .rd (.move rfl) ?_
          refine .rd (.nilCheck rfl) ?_
          refine .rd (.fieldAddr fd60_6 rfl) ?_
          refine .rd (.ld na4 rfl (.tail (.tail .head)) rfl) ?_
          refine .rd (.not rfl) ?_
          refine .nil ?_
          refine .cond rfl (fun h4 => ?_) (fun h4 => ?_)
          · have hfr : t.fresh = false := by simpa using h4
            refine .cast (X' := arr 69 1 ua uc (ubs t.under rb)) (by rw [hu]; rfl) ?_
            refine .perm (.cons (.tail (.tail (.tail .head))) (.cons .head (.cons .head (.cons .head (.cons .head (.cons .head (.cons .head (.cons .head (.cons .head (.cons .head (.cons .head (.cons .head .nil)))))))))))) ?_
            refine .cast (X' := reqR cl' t.under rb) (by rw [hu]) ?_
            refine .exit rfl ?_
            exact fin (t, cl', ua, uc, rb, [], none, 0) ⟨hsx, hPW, .inr ⟨pump1_stale hu (firstOpen_some (by omega) (hov hu) (by rw [hca]; exact g4)) hfr, rfl, hB, rfl, rfl, rfl⟩, rfl, rfl, rfl⟩ (.cons rfl (.cons rfl .nil)) (.cons (.tail (.tail (.tail .head))) (.cons .head (.cons (.tail (.tail .head)) (.cons (.tail (.tail .head)) (.cons (.tail (.tail .head)) (.cons (.tail (.tail .head)) (.cons .head (.cons (.tail .head) (.cons (.tail .head) (.cons (.tail .head) (.cons (.tail .head) .nil)))))))))))
          · have hfr : t.fresh = true := by simpa using h4
            have hfo := firstOpen_some (s := t) (k := k) (by omega) (hov hu) (by rw [hca]; exact g4)
            obtain ⟨hn1, hn2⟩ := nextOf_bound hB
            refine .skip ?_
            refine .seq ?_
            refine .seq ?_
            refine .draws [3, 4, 7, 8, 9, 12] [blk pb (PS.cells t ({ x with ua := ua, uc := uc }) none 0 0) 60, bag CB cl', blk b5 [.pointer (some ⟨y.a, 0, none⟩)] 62, IM x.nb t.next] (by kernel_rfl) ?_
            refine .rp 0 rfl (by kernel_rfl) (by kernel_rfl) (by kernel_rfl) (Reads.pure (.move rfl)) ?_
            refine .rp 1 rfl (by kernel_rfl) (by kernel_rfl) (by kernel_rfl) (Reads.pure (.nilCheck rfl)) ?_
            refine .rp 2 rfl (by kernel_rfl) (by kernel_rfl) (by kernel_rfl) (Reads.pure (.fieldAddr fd60_8 rfl)) ?_
            refine .rd 3 rfl rfl (by kernel_rfl) (by kernel_rfl) (by kernel_rfl) (.ld na56 rfl .head rfl) (.cons (.tail (.tail .head)) (.cons (.tail (.tail (.tail .head))) (.cons (.tail .head) (.cons (.tail (.tail (.tail .head))) .nil)))) ?_
            refine .rd 4 rfl rfl (by kernel_rfl) (by kernel_rfl) (by kernel_rfl) (.load na62 rfl (Knows.one (i := 0) (Knows.blk (.tail (.tail .head))) rfl)) (.cons (.tail (.tail .head)) (.cons (.tail (.tail (.tail .head))) (.cons (.tail .head) (.cons (.tail (.tail (.tail .head))) .nil)))) ?_
            refine .rp 5 rfl (by kernel_rfl) (by kernel_rfl) (by kernel_rfl) (Reads.pure (.nilCheck rfl)) ?_
            refine .rp 6 rfl (by kernel_rfl) (by kernel_rfl) (by kernel_rfl) (Reads.pure (.fieldAddr fd65_1 rfl)) ?_
            refine .rd 7 rfl rfl (by kernel_rfl) (by kernel_rfl) (by kernel_rfl) (.load na3 rfl (Knows.one (i := 1) (Knows.callx (.tail .head) hym) rfl)) (.cons (.tail (.tail .head)) (.cons (.tail (.tail (.tail .head))) (.cons (.tail .head) (.cons (.tail (.tail (.tail .head))) .nil)))) ?_
            refine .rd 8 rfl rfl (by kernel_rfl) (by kernel_rfl) (by kernel_rfl) (.lookup (q := 2) kl3 Try.underlying56 (fun w => ti3.zero w) rfl rfl (.tail (.tail (.tail .head)))) (.cons (.tail (.tail .head)) (.cons (.tail (.tail (.tail .head))) (.cons (.tail .head) (.cons (.tail (.tail (.tail .head))) .nil)))) ?_
            refine .alter (t := 40) (v' := .int .i64 (nextOf t)) rfl (by unfold nextOf; cases mget t.next 2 <;> rfl) ?_
            refine .rd 9 rfl rfl (by kernel_rfl) (by kernel_rfl) (by kernel_rfl) (.load na62 rfl (Knows.one (i := 0) (Knows.blk (.tail (.tail .head))) rfl)) (.cons (.tail (.tail .head)) (.cons (.tail (.tail (.tail .head))) (.cons (.tail .head) (.cons (.tail (.tail (.tail .head))) .nil)))) ?_
            refine .rp 10 rfl (by kernel_rfl) (by kernel_rfl) (by kernel_rfl) (Reads.pure (.nilCheck rfl)) ?_
            refine .rp 11 rfl (by kernel_rfl) (by kernel_rfl) (by kernel_rfl) (Reads.pure (.fieldAddr fd65_2 rfl)) ?_
            refine .rd 12 rfl rfl (by kernel_rfl) (by kernel_rfl) (by kernel_rfl) (.load na33 rfl (Knows.one (i := 2) (Knows.callx (.tail .head) hym) rfl)) (.cons (.tail (.tail .head)) (.cons (.tail (.tail (.tail .head))) (.cons (.tail .head) (.cons (.tail (.tail (.tail .head))) .nil)))) ?_
            refine .rp 13 rfl (by kernel_rfl) (by kernel_rfl) (by kernel_rfl) (Reads.pure (.lenL rfl rfl Try.underlying33 rfl)) ?_
            refine .rp 14 rfl (by kernel_rfl) (by kernel_rfl) (by kernel_rfl) (Reads.pure (.add rfl rfl (by omega) (by omega))) ?_
            refine .rp 15 rfl (by kernel_rfl) (by kernel_rfl) (by kernel_rfl) (Reads.pure (.sub rfl rfl (by omega) (by omega))) ?_
            refine .rp 16 rfl (by kernel_rfl) (by kernel_rfl) (by kernel_rfl) (Reads.pure (.gt rfl rfl)) ?_
            refine .done (by kernel_rfl) ?_
            refine .condP rfl (fun h5 => ?_) (fun h5 => ?_)
            · replace h5 : 1000000 < nextOf t := by omega
              refine .seq ?_
              refine .region ?_
              refine .rd (.move rfl) ?_
              refine .rd (.nilCheck rfl) ?_
              refine .rd (.fieldAddr fd60_6 rfl) ?_
              refine .ef0 (.store ts4 rfl rfl (.tail (.tail .head)) rfl (Nat.le_of_ble_eq_true rfl)) ?_
              rintro _ _ rfl
              refine .nil ?_
              refine .cast (X' := blk pb (PS.cells { t with fresh := false } ({ x with ua := ua, uc := uc }) none 0 0) 60) (rfl) ?_
              refine .perm (.cons (.tail .head) (.cons .head (.cons .head (.cons .head (.cons .head (.cons .head (.cons .head (.cons .head (.cons .head (.cons .head (.cons .head (.cons .head .nil)))))))))))) ?_
              refine .cast (X' := arr 69 1 ua uc (ubs ({ t with fresh := false } : PS).under rb)) (by show _ = arr 69 1 ua uc (ubs t.under rb); rw [hu]; rfl) ?_
              refine .perm (.cons (.tail (.tail (.tail .head))) (.cons .head (.cons .head (.cons .head (.cons .head (.cons .head (.cons .head (.cons .head (.cons .head (.cons .head (.cons .head (.cons .head .nil)))))))))))) ?_
              refine .cast (X' := reqR cl' ({ t with fresh := false } : PS).under rb) (by show _ = reqR cl' t.under rb; rw [hu]) ?_
              refine .exit rfl ?_
              exact fin ({ t with fresh := false }, cl', ua, uc, rb, [], none, 0) ⟨hsx, { hPW with }, .inr ⟨pump1_full hu hfo hfr h5, rfl, hB.fresh, rfl, rfl, rfl⟩, rfl, rfl, rfl⟩ (.cons rfl (.cons rfl .nil)) (.cons (.tail (.tail .head)) (.cons .head (.cons (.tail (.tail .head)) (.cons (.tail (.tail .head)) (.cons (.tail (.tail .head)) (.cons (.tail (.tail .head)) (.cons .head (.cons (.tail .head) (.cons (.tail .head) (.cons (.tail .head) (.cons (.tail .head) .nil)))))))))))
            · replace h5 : ¬ 1000000 < nextOf t := by omega
              refine .skip ?_
              refine .seq ?_
              refine .takeBag (x := y) (m := cl'.eraseIdx k) (.tail (.tail (.tail (.tail .head)))) (perm_out hy) ?_
              refine .drawsTo [0, 1, 2, 6, 10, 14, 15] [blk pb (PS.cells t ({ x with ua := ua, uc := uc }) none 0 0) 60, blk b5 [.pointer (some ⟨y.a, 0, none⟩)] 62, IM x.nb t.next] [(0, .pointer (some ⟨pb, 0, none⟩)), (1, .int .i64 now), (9, .slice x.ca t.calls.length x.cc), (10, .int .i64 t.calls.length), (11, .int .i64 (k : Nat)), (5, .pointer (some ⟨b5, 0, none⟩))] [CB { y with c := { y.c with pid := t.pid, epoch := t.epoch, seq := nextOf t } }, bag CB (cl'.eraseIdx k), blk pb (PS.cells t ({ x with ua := ua, uc := uc }) none 0 0) 60, blk b5 [.pointer (some ⟨y.a, 0, none⟩)] 62, IM x.ab t.aims, IM x.nb t.next, arr 62 1 x.ca x.cc (cl.flatMap cptr), arr 69 1 ua uc [], arr 32 21 none 0 [], know (fun w => ∀ z ∈ ([] : List OutX), z.at_ w), know (KN t x cl), R] (by kernel_rfl) ?_ ?_
              · refine .rd 0 rfl rfl (by kernel_rfl) (by kernel_rfl) (by kernel_rfl) (.load na62 rfl (Knows.one (i := 0) (Knows.blk (.tail .head)) rfl)) (.cons (.tail (.tail (.tail (.tail .head)))) (.cons (.tail (.tail (.tail .head))) (.cons (.tail (.tail (.tail (.tail (.tail .head))))) .nil))) ?_
                refine .rd 1 rfl rfl (by kernel_rfl) (by kernel_rfl) (by kernel_rfl) (.load na62 rfl (Knows.one (i := 0) (Knows.blk (.tail .head)) rfl)) (.cons (.tail (.tail (.tail (.tail .head)))) (.cons (.tail (.tail (.tail .head))) (.cons (.tail (.tail (.tail (.tail (.tail .head))))) .nil))) ?_
                refine .rd 2 rfl rfl (by kernel_rfl) (by kernel_rfl) (by kernel_rfl) (.load na62 rfl (Knows.one (i := 0) (Knows.blk (.tail .head)) rfl)) (.cons (.tail (.tail (.tail (.tail .head)))) (.cons (.tail (.tail (.tail .head))) (.cons (.tail (.tail (.tail (.tail (.tail .head))))) .nil))) ?_
                refine .rp 3 rfl (by kernel_rfl) (by kernel_rfl) (by kernel_rfl) (Reads.pure (.move rfl)) ?_
                refine .rp 4 rfl (by kernel_rfl) (by kernel_rfl) (by kernel_rfl) (Reads.pure (.nilCheck rfl)) ?_
                refine .rp 5 rfl (by kernel_rfl) (by kernel_rfl) (by kernel_rfl) (Reads.pure (.fieldAddr fd60_4 rfl)) ?_
                refine .rd 6 rfl rfl (by kernel_rfl) (by kernel_rfl) (by kernel_rfl) (.ld na3 rfl .head rfl) (.cons (.tail (.tail (.tail (.tail .head)))) (.cons (.tail (.tail (.tail .head))) (.cons (.tail (.tail (.tail (.tail (.tail .head))))) .nil))) ?_
                refine .rp 7 rfl (by kernel_rfl) (by kernel_rfl) (by kernel_rfl) (Reads.pure (.move rfl)) ?_
                refine .rp 8 rfl (by kernel_rfl) (by kernel_rfl) (by kernel_rfl) (Reads.pure (.nilCheck rfl)) ?_
                refine .rp 9 rfl (by kernel_rfl) (by kernel_rfl) (by kernel_rfl) (Reads.pure (.fieldAddr fd60_5 rfl)) ?_
                refine .rd 10 rfl rfl (by kernel_rfl) (by kernel_rfl) (by kernel_rfl) (.ld na3 rfl .head rfl) (.cons (.tail (.tail (.tail (.tail .head)))) (.cons (.tail (.tail (.tail .head))) (.cons (.tail (.tail (.tail (.tail (.tail .head))))) .nil))) ?_
                refine .rp 11 rfl (by kernel_rfl) (by kernel_rfl) (by kernel_rfl) (Reads.pure (.move rfl)) ?_
                refine .rp 12 rfl (by kernel_rfl) (by kernel_rfl) (by kernel_rfl) (Reads.pure (.nilCheck rfl)) ?_
                refine .rp 13 rfl (by kernel_rfl) (by kernel_rfl) (by kernel_rfl) (Reads.pure (.fieldAddr fd60_8 rfl)) ?_
                refine .rd 14 rfl rfl (by kernel_rfl) (by kernel_rfl) (by kernel_rfl) (.ld na56 rfl .head rfl) (.cons (.tail (.tail (.tail (.tail .head)))) (.cons (.tail (.tail (.tail .head))) (.cons (.tail (.tail (.tail (.tail (.tail .head))))) .nil))) ?_
                refine .rd 15 rfl rfl (by kernel_rfl) (by kernel_rfl) (by kernel_rfl) (.load na62 rfl (Knows.one (i := 0) (Knows.blk (.tail .head)) rfl)) (.cons (.tail (.tail (.tail (.tail .head)))) (.cons (.tail (.tail (.tail .head))) (.cons (.tail (.tail (.tail (.tail (.tail .head))))) .nil))) ?_
                refine .rp 16 rfl (by kernel_rfl) (by kernel_rfl) (by kernel_rfl) (Reads.pure (.nilCheck rfl)) ?_
                refine .rp 17 rfl (by kernel_rfl) (by kernel_rfl) (by kernel_rfl) (Reads.pure (.fieldAddr fd65_1 rfl)) ?_
                refine .rs 18 (by kernel_rfl) rfl (.load na3 rfl (Knows.one (i := 1) (Knows.blk0 .head) rfl)) (.inr (.cons (.tail (.tail (.tail (.tail .head)))) (.cons (.tail (.tail (.tail .head))) (.cons (.tail (.tail (.tail (.tail (.tail .head))))) .nil)))) ?_
                refine .rs 19 (by kernel_rfl) rfl (.lookup (q := 2) kl3 Try.underlying56 (fun w => ti3.zero w) rfl rfl (.tail (.tail (.tail (.tail (.tail (.tail (.tail .head)))))))) (.inr (.cons (.tail (.tail (.tail (.tail .head)))) (.cons (.tail (.tail (.tail .head))) (.cons (.tail (.tail (.tail (.tail (.tail .head))))) .nil)))) ?_
                refine .alter (t := 71) (v' := .int .i64 (nextOf t)) rfl (by unfold nextOf; cases mget t.next 2 <;> rfl) ?_
                refine .rp 20 rfl (by kernel_rfl) (by kernel_rfl) (by kernel_rfl) (Reads.pure (.nilCheck rfl)) ?_
                refine .rp 21 rfl (by kernel_rfl) (by kernel_rfl) (by kernel_rfl) (Reads.pure (.fieldAddr fd65_3 rfl)) ?_
                refine .ef0 22 (by kernel_rfl) rfl (.store0 ts3 rfl rfl .head rfl (Nat.le_of_ble_eq_true rfl)) ?_
                rintro _ _ rfl
                refine ⟨.inr ⟨_, (.cons (.tail (.tail (.tail (.tail .head)))) (.cons (.tail (.tail (.tail .head))) (.cons (.tail (.tail (.tail (.tail (.tail .head))))) .nil)))⟩, ?_⟩
                refine .rp 23 rfl (by kernel_rfl) (by kernel_rfl) (by kernel_rfl) (Reads.pure (.nilCheck rfl)) ?_
                refine .rp 24 rfl (by kernel_rfl) (by kernel_rfl) (by kernel_rfl) (Reads.pure (.fieldAddr fd65_4 rfl)) ?_
                refine .ef0 25 (by kernel_rfl) rfl (.store0 ts3 rfl rfl .head rfl (Nat.le_of_ble_eq_true rfl)) ?_
                rintro _ _ rfl
                refine ⟨.inr ⟨_, (.cons (.tail (.tail (.tail (.tail .head)))) (.cons (.tail (.tail (.tail .head))) (.cons (.tail (.tail (.tail (.tail (.tail .head))))) .nil)))⟩, ?_⟩
                refine .rp 26 rfl (by kernel_rfl) (by kernel_rfl) (by kernel_rfl) (Reads.pure (.nilCheck rfl)) ?_
                refine .rp 27 rfl (by kernel_rfl) (by kernel_rfl) (by kernel_rfl) (Reads.pure (.fieldAddr fd65_5 rfl)) ?_
                refine .ef0 28 (by kernel_rfl) rfl (.store0 ts3 rfl rfl .head rfl (Nat.le_of_ble_eq_true rfl)) ?_
                rintro _ _ rfl
                refine ⟨.inl (by kernel_rfl), ?_⟩
                exact .done (by kernel_rfl) ⟨(.cons rfl (.cons rfl (.cons rfl (.cons rfl (.cons rfl (.cons rfl .nil)))))), _, (.cons .head (.cons .head (.cons (.tail (.tail .head)) (.cons (.tail .head) (.cons (.tail (.tail .head)) (.cons (.tail (.tail .head)) (.cons (.tail (.tail .head)) (.cons .head (.cons (.tail .head) (.cons (.tail .head) (.cons (.tail .head) (.cons (.tail .head) .nil))))))))))))⟩
              · refine .cast (X' := CB ({ y with c := stamped t k } : CallX)) (by unfold stamped; rw [hca]) ?_
                refine .close (X := bag CB (cl'.set k ({ y with c := stamped t k } : CallX))) (B := [CB ({ y with c := stamped t k } : CallX), bag CB (cl'.eraseIdx k)]) (.cons .head (.cons .head .nil)) (fun _ H => bag.put (perm_in hy) H) ?_
                have hsx2 : SameX cl (cl'.set k ({ y with c := stamped t k } : CallX)) := hsx.set (z := ({ y with c := stamped t k } : CallX)) hy (by unfold CallX.tag stamped; rw [hca])
                have hPW2 : PW (stampS t k) (cl'.set k ({ y with c := stamped t k } : CallX)) := hPW.set (z := ({ y with c := stamped t k } : CallX)) hy rfl _ rfl
                have hof2 : ofAt (cl'.set k ({ y with c := stamped t k } : CallX)) (some k) (some y.a) := ⟨({ y with c := stamped t k } : CallX), by rw [List.getElem?_set, if_pos rfl, if_pos (by omega)], rfl⟩
                refine .perm (.cons (.tail .head) (.cons .head (.cons .head (.cons .head (.cons .head (.cons .head (.cons .head (.cons .head (.cons .head (.cons .head (.cons .head .nil))))))))))) ?_
                refine .cast (X' := blk pb (PS.cells (stampS t k) ({ x with ua := ua, uc := uc }) none 0 0) 60) (by unfold stampS PS.cells; simp only [List.length_set]) ?_
                refine .dup (.tail (.tail (.tail (.tail (.tail (.tail (.tail (.tail (.tail .head))))))))) ?_
                refine .knowMono (KN (stampS t k) ({ x with ua := ua, uc := uc }) (cl'.set k ({ y with c := stamped t k } : CallX))) (.tail .head) (fun w h => (SameX.kn hsx2 h : KN t x _ w)) ?_
                refine .region ?_
                refine .rd (.move rfl) ?_
                refine .rd (.move rfl) ?_
                refine .rd (.load na62 rfl (Knows.one (i := 0) (Knows.blk (.tail (.tail (.tail (.tail .head))))) rfl)) ?_
                refine .fn rfl rfl (.cons (.tail (.tail .head)) (.cons (.tail (.tail .head)) (.cons (.tail (.tail (.tail .head))) (.cons .head (.cons (.tail (.tail (.tail (.tail .head)))) .nil))))) (fun _ _ _ => trivial) (begin_ok pb now (stampS t k) ({ x with ua := ua, uc := uc }) (cl'.set k ({ y with c := stamped t k } : CallX)) (some k) (some y.a) (hB.stamp hu k (by omega)) hPW2 hof2 hnow hu) (fun v G1 hq => ?_)
                obtain ⟨rb2, ua2, uc2, z, oa2, oc2, hz, rfl⟩ := hq
                simp only [List.cons_append, List.nil_append]
                refine .nil ?_
                have hz2 : z.o = askO (stampS t k) now (beginR t (some k)) (some (stamped t k)) := by rw [hz]; show askO _ _ _ (some (callAt (stampS t k) k)) = _; rw [show callAt (stampS t k) k = stamped t k from callAt_set (by omega)]; rfl
                have hp1 := pump1_go (now := now) hu hfo hfr h5
                rw [← hz2] at hp1
                refine .close (X := reqR (cl'.set k ({ y with c := stamped t k } : CallX)) (beginS (stampS t k) now (some k)).under rb2) (.cons (.tail .head) .nil) (fun _ H => reqR_close (q := some y.a) (r := askR (stampS t k) now (beginR (stampS t k) (some k))) hof2 H) ?_
                refine .perm (.cons (.tail (.tail (.tail (.tail (.tail (.tail .head)))))) (.cons .head (.cons .head (.cons .head (.cons .head (.cons .head (.cons .head (.cons .head (.cons .head (.cons .head (.cons .head (.cons .head (.cons .head (.cons .head (.cons .head .nil))))))))))))))) ?_
                refine .cast (X' := arr 32 21 oa2 oc2 ([z].flatMap OutX.cells)) (by simp) ?_
                refine .knowMono (fun w => ∀ z' ∈ [z], z'.at_ w) (.tail (.tail (.tail (.tail (.tail (.tail (.tail .head))))))) (fun w h z' hz' => by rcases List.mem_singleton.1 hz' with rfl; exact h) ?_
                refine .perm (.cons (.tail (.tail (.tail .head))) (.cons .head (.cons .head (.cons .head (.cons .head (.cons .head (.cons .head (.cons .head (.cons .head (.cons .head (.cons .head (.cons .head (.cons .head (.cons .head (.cons .head .nil))))))))))))))) ?_
                refine .cast (X' := blk pb (PS.cells (beginS (stampS t k) now (some k)) { x with ua := ua2, uc := uc2 } oa2 [z].length oc2) 60) (rfl) ?_
                refine .inBlock ?_
                refine .region ?_
                refine .rd (.add rfl rfl (by omega) (by omega)) ?_
                refine .rd (.move rfl) ?_
                refine .nil ?_
                exact (ih (k + 1, (beginS (stampS t k) now (some k)), cl'.set k ({ y with c := stamped t k } : CallX), ua2, uc2, rb2, [z], oa2, oc2) ⟨by show k + 1 ≤ _; omega, hsx2, { hPW2 with }, .inr ⟨hu, hfr, ⟨_, k, rfl, rfl⟩, z, rfl, hp1⟩⟩ (by show _ - (k + 1) < _ - k; omega)).to (.cons rfl (.cons rfl (.cons rfl (.cons rfl (.cons rfl .nil))))) (.cons .head (.cons (.tail (.tail .head)) (.cons (.tail (.tail .head)) (.cons (.tail (.tail .head)) (.cons (.tail (.tail (.tail (.tail (.tail (.tail .head)))))) (.cons (.tail (.tail (.tail (.tail (.tail (.tail .head)))))) (.cons (.tail (.tail (.tail .head))) (.cons (.tail .head) (.cons .head (.cons (.tail .head) (.cons (.tail (.tail (.tail (.tail .head)))) .nil)))))))))))
        · refine .perm (.cons (.tail (.tail (.tail (.tail (.tail (.tail (.tail .head))))))) (.cons .head (.cons .head (.cons .head (.cons .head (.cons .head (.cons .head (.cons .head (.cons .head (.cons .head (.cons .head (.cons .head .nil)))))))))))) ?_
          refine .cast (X' := arr 69 1 ua uc [.pointer (some ⟨rb, 0, none⟩)]) (by first | rfl | (rw [hu]; rfl)) ?_
          refine .open_ (σ := Option Nat) (φ := fun q => ofAt cl' ru.of q) (B := fun q => [blk rb (ru.cells q) 71]) (.tail (.tail (.tail .head))) (fun _ h => reqR_open (by first | exact h | (rw [hu] at h; exact h))) (fun q hof => ?_)
          simp only [List.cons_append, List.nil_append]
          refine .on (t := 19) rfl rfl ?_
          refine .rd (.nilCheck rfl) ?_
          refine .on (t := 19) rfl rfl ?_
          refine .rd (.fieldAddr fd60_10 rfl) ?_
          refine .on (t := 19) rfl rfl ?_
          refine .rd (.ld na58 rfl (.tail (.tail (.tail .head))) (show (PS.cells t ({ x with ua := ua, uc := uc }) oa zs.length oc)[10]? = some (.slice ua 1 uc) by show some (Value.slice ua (unders t.under) uc) = _; rw [hu]; rfl)) ?_
          refine .on (t := 19) rfl rfl ?_
          refine .rd (.makeFunc (cs := [.pointer (some ⟨b5, 0, none⟩)]) rfl rfl) ?_
          refine .on (t := 19) rfl rfl ?_
          refine .fn rfl rfl (.cons (.tail (.tail .head)) .nil) (fun A w h => ⟨(Knows.arr (.tail .head)) A w h, ⟨(Knows.one (i := 4) (Knows.blk .head) rfl) A w h, (Knows.part (.tail (.tail (.tail .head))) hof) A w h⟩, (Knows.one (i := 1) (Knows.callx (.tail (.tail (.tail .head))) hym) rfl) A w h⟩) (containsf1_ok ua uc 35 #[.pointer (some ⟨b5, 0, none⟩)] rb (blk b5 [.pointer (some ⟨y.a, 0, none⟩)] 62) (fun b X => b = !q.isNone ∧ X = blk b5 [.pointer (some ⟨y.a, 0, none⟩)] 62) _ (waits_ok rb b5 y.a q)) (fun v G1 hq => ?_)
          obtain ⟨_, _, rfl, ⟨rfl, rfl⟩, rfl⟩ := hq
          simp only [List.cons_append, List.nil_append]
          refine .close (X := reqR cl' t.under rb) (.cons (.tail .head) .nil) (fun _ H => by first | exact reqR_close hof H | (rw [hu]; exact reqR_close hof H)) ?_
          refine .perm (.cons (.tail (.tail .head)) (.cons .head (.cons .head (.cons .head (.cons .head (.cons .head (.cons .head (.cons .head (.cons .head (.cons .head (.cons .head (.cons .head .nil)))))))))))) ?_
          refine .cast (X' := arr 69 1 ua uc (ubs t.under rb)) (by first | rfl | (rw [hu]; rfl)) ?_
          refine .rd (.pickF rfl rfl) ?_
          refine .nil ?_
          refine .cond rfl (fun h3 => ?_) (fun h3 => ?_)
          · refine .exit rfl ?_
            refine .region ?_
            refine .rd (.add rfl rfl (by omega) (by omega)) ?_
            refine .rd (.move rfl) ?_
            refine .nil ?_
            exact (ih (k + 1, t, cl', ua, uc, rb, zs, oa, oc) ⟨by show k + 1 ≤ _; omega, hsx, hPW, (match hI with   | .inl h => .inl ⟨h.1, h.2.1, h.2.2.1, h.2.2.2.1, fun hn j hj => by rw [h.1] at hu; rw [hu] at hn; cases hn⟩   | .inr h => .inr h)⟩ (by show _ - (k + 1) < _ - k; omega)).to (.cons rfl (.cons rfl (.cons rfl (.cons rfl (.cons rfl .nil))))) (.cons (.tail (.tail (.tail .head))) (.cons (.tail .head) (.cons (.tail (.tail .head)) (.cons (.tail (.tail .head)) (.cons (.tail (.tail .head)) (.cons (.tail (.tail .head)) (.cons .head (.cons (.tail .head) (.cons (.tail .head) (.cons (.tail .head) (.cons (.tail .head) .nil)))))))))))
          · have hqn : q = none := by cases q with | none => rfl | some a => simp at h3
            have hrn : ru.of = none := by have := ofAt_none hof; rw [hqn] at this; cases h : ru.of with | none => rfl | some i => rw [h] at this; cases this
            obtain ⟨rfl, rfl, rfl, rfl, hov⟩ : (t = s ∧ zs = zs0 ∧ oa = oa0 ∧ oc = oc0 ∧ (s.under = none → ∀ j < k, (callAt s j).over = true)) := by rcases hI with h | h; exact h; obtain ⟨r, j, hr, hj⟩ := h.2.2.1; rw [hu] at hr; cases hr; rw [hrn] at hj; cases hj
            have hst := hB.stale ru hu hrn
            refine .skip ?_
            refine .seq ?_
            refine .seq ?_
            refine .region ?_
            refine .rd (.move rfl) ?_
            refine .rd (.nilCheck rfl) ?_
            refine .rd (.fieldAddr fd60_6 rfl) ?_
            refine .rd (.ld na4 rfl (.tail (.tail (.tail .head))) rfl) ?_
            refine .alter (t := 30) (v' := .bool false) rfl (by show Value.bool t.fresh = _; rw [hst]) ?_
            refine .rd (.not rfl) ?_
            refine .nil ?_
            refine .condT rfl ?_
            have hfr : t.fresh = false := hst
            refine .exit rfl ?_
            exact fin (t, cl', ua, uc, rb, zs, oa, oc) ⟨hsx, hPW, .inr ⟨pump1_busy hu, rfl, hB, rfl, rfl, rfl⟩, rfl, rfl, rfl⟩ (.cons rfl (.cons rfl .nil)) (.cons (.tail (.tail (.tail .head))) (.cons (.tail .head) (.cons (.tail (.tail .head)) (.cons (.tail (.tail .head)) (.cons (.tail (.tail .head)) (.cons (.tail (.tail .head)) (.cons .head (.cons (.tail .head) (.cons (.tail .head) (.cons (.tail .head) (.cons (.tail .head) .nil)))))))))))
    · refine .exit rfl ?_
      exact fin (t, cl', ua, uc, rb, zs, oa, oc) (by obtain rfl : k = s.calls.length := (by omega); exact (match hI with | .inl h => by obtain ⟨rfl, rfl, rfl, rfl, hov⟩ := h; exact ⟨hsx, hPW, .inr ⟨(by cases hu : t.under with | none => exact pump1_all (firstOpen_none (hov hu)) | some r => exact pump1_busy hu), rfl, hB, rfl, rfl, rfl⟩, rfl, rfl, rfl⟩ | .inr h => by obtain ⟨h1, h2, h3, z, h4, h5⟩ := h; have h6 := pump1_keep h5; exact ⟨hsx, hPW, .inl ⟨z, h5, h4, h2, h1⟩, h6.1, h6.2.1, h6.2.2⟩)) (.cons rfl (.cons rfl .nil)) (.cons .head (.cons .head (.cons .head (.cons .head (.cons .head (.cons .head (.cons .head (.cons .head (.cons .head (.cons .head (.cons .head .nil)))))))))))

end Go.Proofs.Ytlcglmimndkleaa


/- Chapter 18: what moves, a producer as one resource, in plain Lean and in memory. -/
namespace Go.Proofs.Ytlcglmimndkleaa
open Go Go.Sp

theorem moved_eq (s : PS) (r : Req) : ∃ a, moved s r = { s with aims := a } := by unfold moved; split; exact ⟨_, rfl⟩; exact ⟨s.aims, rfl⟩
theorem moved_cells (s : PS) (r : Req) (x : PX) (oa : Option Addr) (on oc : Nat) : PS.cells (moved s r) x oa on oc = PS.cells s x oa on oc := by obtain ⟨a, e⟩ := moved_eq s r; rw [e]; rfl
theorem moved_kn (s : PS) (r : Req) (x : PX) (cl : List CallX) : KN (moved s r) x cl = KN s x cl := by obtain ⟨a, e⟩ := moved_eq s r; rw [e]; rfl
theorem PB.aims {s : PS} (h : PB s) (a : List (Int × Int)) : PB { s with aims := a } := { h with }
theorem PB.moved {s : PS} (h : PB s) (r : Req) : PB (moved s r) := by obtain ⟨a, e⟩ := moved_eq s r; rw [e]; exact h.aims a
theorem PW.moved {s : PS} {cl : List CallX} (h : PW s cl) (r : Req) : PW (moved s r) cl := by obtain ⟨a, e⟩ := moved_eq s r; rw [e]; exact { h with }
theorem moved_callAt (s : PS) (r : Req) : callAt (Go.Proofs.Ytlcglmimndkleaa.moved s r) = callAt s := by obtain ⟨a, e⟩ := moved_eq s r; rw [e]; rfl
theorem endsGo_keep (of : Option Nat) (err : Int) (s : PS) : ∀ k, ∃ f c o e, endsGo of err k s = { s with fresh := f, calls := c, open_ := o, ended := e }
  | 0 => ⟨_, _, _, _, rfl⟩
  | k + 1 => by
    obtain ⟨f, c, o, e, h⟩ := endsGo_keep of err s k
    rw [endsGo]; split
    · rw [h]; exact ⟨_, _, _, _, rfl⟩
    · exact ⟨f, c, o, e, h⟩
theorem endsS_keep (s : PS) (of : Option Nat) (err : Int) : ∃ f c o e, endsS s of err = { s with fresh := f, calls := c, open_ := o, ended := e } := endsGo_keep of err s _
/-- All of a producer but the row of its requests, before anything was said. -/
def EL (s : PS) (x : PX) : SProp := arr 47 12 x.ea x.ec (s.ended.flatMap Seen.cells)
def RowC (x : PX) (cl : List CallX) : SProp := arr 62 1 x.ca x.cc (cl.flatMap cptr)
def UL (s : PS) (x : PX) (rb : Nat) : SProp := arr 69 1 x.ua x.uc (ubs s.under rb)
def PL (pb : Nat) (s : PS) (x : PX) (rb : Nat) (cl : List CallX) (oa : Option Addr) (on oc : Nat) : List SProp :=
  [blk pb (PS.cells s x oa on oc) 60, reqR cl s.under rb, bag CB cl, IM x.ab s.aims, IM x.nb s.next, RowC x cl, UL s x rb, EL s x, know (KN s x cl)]
/-- A producer that has nothing to say. -/
def PR (pb : Nat) (s : PS) : SProp := fun h => ∃ y : PX × Nat × List CallX, PW s y.2.2 ∧ sat (PL pb s y.1 y.2.1 y.2.2 none 0 0) h
/-- What was said. -/
def Said (oa : Option Addr) (oc : Nat) (zs : List OutX) : SProp := arr 32 21 oa oc (zs.flatMap OutX.cells)
def SaidK (zs : List OutX) : World → Prop := fun w => ∀ z ∈ zs, z.at_ w
def Ans.cells (m : Ans) : List Value :=
  [.int .i64 m.kind, .int .i64 m.fr, .int .i64 m.to, .int .i64 m.id, .int .i64 0, .int .i64 0, .int .i64 m.offset, .int .i64 m.last, .int .i64 0, .int .i64 0, .int .i64 0, .int .i64 0, .int .i64 0, .int .i64 0, .int .i64 0, .int .i64 m.err,
   .string (str []), .string (str []), .slice none 0 0, .slice none 0 0, .slice none 0 0]
theorem Ans.cells_ones (m : Ans) : ones m.cells := .of rfl
theorem pump2_keep {s t : PS} {now : Int} {o : Option Out} (h : pump2 s now = (t, o)) : t.brokers = s.brokers ∧ t.aims = s.aims ∧ t.next = s.next ∧ t.ended = s.ended := by
  unfold pump2 at h; split at h <;> cases h <;> exact ⟨rfl, rfl, rfl, rfl⟩
theorem pump1_keep' {s t : PS} {now : Int} {o : Option Out} (h : pump1 s now = (t, o)) : t.brokers = s.brokers ∧ t.aims = s.aims ∧ t.next = s.next ∧ t.ended = s.ended := by
  unfold pump1 at h
  split at h
  · split at h
    · cases h; exact ⟨rfl, rfl, rfl, rfl⟩
    · split at h <;> cases h <;> exact ⟨rfl, rfl, rfl, rfl⟩
  · cases h; exact ⟨rfl, rfl, rfl, rfl⟩
theorem pump_keep (s : PS) (now : Int) : (pump s now).1.brokers = s.brokers ∧ (pump s now).1.aims = s.aims ∧ (pump s now).1.next = s.next ∧ (pump s now).1.ended = s.ended := by
  unfold pump
  split
  · rename_i t o e; exact pump1_keep' e
  · rename_i t e
    have h1 := pump1_keep' e
    have h2 := pump2_keep (s := t) (now := now) (t := (pump2 t now).1) (o := (pump2 t now).2) rfl
    exact ⟨h2.1.trans h1.1, h2.2.1.trans h1.2.1, h2.2.2.1.trans h1.2.2.1, h2.2.2.2.trans h1.2.2.2⟩
theorem pump_busy {s : PS} {now : Int} {r : Req} (h : s.under = some r) : pump s now = (s, none) := by
  unfold pump pump1; rw [h]; show pump2 s now = _; unfold pump2; rw [if_neg]; rw [h]; rintro ⟨_, h2, _⟩; cases h2
end Go.Proofs.Ytlcglmimndkleaa

namespace Go.Proofs.Ytlcglmimndkleaa
open Go Go.Sp

set_option linter.unusedVariables false

namespace prod8
theorem fd71_4 : FD Try.prog 71 4 4 := .of Try.underlying71 (by kernel_rfl)
theorem na62 : NotAgg Try.prog 62 := ⟨_, Try.underlying62, trivial⟩
theorem fd71_0 : FD Try.prog 71 0 0 := .of Try.underlying71 (by kernel_rfl)
theorem na3 : NotAgg Try.prog 3 := ⟨_, Try.underlying3, trivial⟩
theorem fd32_3 : FD Try.prog 32 3 3 := .of Try.underlying32 (by kernel_rfl)
theorem fd71_1 : FD Try.prog 71 1 1 := .of Try.underlying71 (by kernel_rfl)
theorem fd32_1 : FD Try.prog 32 1 1 := .of Try.underlying32 (by kernel_rfl)
theorem fd32_2 : FD Try.prog 32 2 2 := .of Try.underlying32 (by kernel_rfl)
theorem na24 : NotAgg Try.prog 24 := ⟨_, Try.underlying24, trivial⟩
theorem fd60_0 : FD Try.prog 60 0 0 := .of Try.underlying60 (by kernel_rfl)
theorem fd32_0 : FD Try.prog 32 0 0 := .of Try.underlying32 (by kernel_rfl)
theorem kl3 : KL Try.prog 3 (fun n : Int => Value.int .i64 n) := .int Try.underlying3
theorem fd60_10 : FD Try.prog 60 10 10 := .of Try.underlying60 (by kernel_rfl)
theorem na58 : NotAgg Try.prog 58 := ⟨_, Try.underlying58, trivial⟩
theorem ts69 : TS Try.prog 69 1 := .of (by kernel_rfl)
theorem na69 : NotAgg Try.prog 69 := ⟨_, Try.underlying69, trivial⟩
theorem fd32_15 : FD Try.prog 32 15 15 := .of Try.underlying32 (by kernel_rfl)
theorem fd60_9 : FD Try.prog 60 9 9 := .of Try.underlying60 (by kernel_rfl)
theorem na56 : NotAgg Try.prog 56 := ⟨_, Try.underlying56, trivial⟩
theorem fd60_1 : FD Try.prog 60 1 1 := .of Try.underlying60 (by kernel_rfl)
theorem ti3 : TI Try.prog 3 1 8 (.int .i64 0) := .of (by kernel_rfl)
theorem fd71_3 : FD Try.prog 71 3 3 := .of Try.underlying71 (by kernel_rfl)
theorem ts3 : TS Try.prog 3 1 := .of (by kernel_rfl)
theorem fd60_3 : FD Try.prog 60 3 3 := .of Try.underlying60 (by kernel_rfl)
theorem na28 : NotAgg Try.prog 28 := ⟨_, Try.underlying28, trivial⟩
theorem fd32_7 : FD Try.prog 32 7 7 := .of Try.underlying32 (by kernel_rfl)
theorem ts58 : TS Try.prog 58 1 := .of (by kernel_rfl)
theorem fd60_8 : FD Try.prog 60 8 8 := .of Try.underlying60 (by kernel_rfl)
theorem fd65_1 : FD Try.prog 65 1 1 := .of Try.underlying65 (by kernel_rfl)
theorem fd65_5 : FD Try.prog 65 5 5 := .of Try.underlying65 (by kernel_rfl)
theorem fd65_2 : FD Try.prog 65 2 2 := .of Try.underlying65 (by kernel_rfl)
theorem na33 : NotAgg Try.prog 33 := ⟨_, Try.underlying33, trivial⟩
theorem fd32_6 : FD Try.prog 32 6 6 := .of Try.underlying32 (by kernel_rfl)
theorem fd60_4 : FD Try.prog 60 4 4 := .of Try.underlying60 (by kernel_rfl)
theorem fd60_6 : FD Try.prog 60 6 6 := .of Try.underlying60 (by kernel_rfl)
theorem ts4 : TS Try.prog 4 1 := .of (by kernel_rfl)
theorem fd60_5 : FD Try.prog 60 5 5 := .of Try.underlying60 (by kernel_rfl)
end prod8
open prod8

def isA (q : Option Nat) : Int := if q.isNone then 16 else 18
theorem fitsA_eq {cl : List CallX} {r : Req} {q : Option Nat} (h : ofAt cl r.of q) (m : Ans) : fitsA r m = (decide (r.n = m.id) && decide (r.to = m.fr) && decide (m.to = 101) && decide (m.kind = isA q)) := by unfold fitsA isA; rw [ofAt_none h]
theorem step_none {s : PS} {now : Int} {m : Ans} (h : s.under = none) : step s now m = (s, none) := by unfold step; rw [h]
theorem step_not {s : PS} {now : Int} {m : Ans} {r : Req} (h : s.under = some r) (hf : fitsA r m = false) : step s now m = (s, none) := by unfold step; rw [h]; exact if_pos hf
theorem step_led {s : PS} {now : Int} {m : Ans} {r : Req} (h : s.under = some r) (hf : fitsA r m = true) (he : m.err = 15) : step s now m = (led s now r m.last, none) := by unfold step; rw [h]; simp [hf, he]
theorem step_wait {s : PS} {now : Int} {m : Ans} {r : Req} (h : s.under = some r) (hf : fitsA r m = true) (he : ¬ m.err = 15) (hw : waits m.err = true) : step s now m = (s, none) := by unfold step; rw [h]; simp [hf, he, hw]
theorem step_end {s : PS} {now : Int} {m : Ans} {r : Req} (h : s.under = some r) (hf : fitsA r m = true) (he : ¬ m.err = 15) (hw : waits m.err = false) : step s now m = pump (ended { s with under := none } r m) now := by unfold step; rw [h]; simp [hf, he, hw]
theorem PB.idle {s : PS} (h : PB s) : PB { s with under := none } := { h with stale := fun _ hr => (by cases hr), rtries := fun _ hr => (by cases hr), rof := fun _ _ hr => (by cases hr) }
theorem ended_keep (s : PS) (r : Req) (m : Ans) : (ended s r m).brokers = s.brokers ∧ (ended s r m).aims = s.aims ∧ (ended s r m).under = s.under := by
  unfold ended
  split
  · obtain ⟨f, c, o, e, h⟩ := endsS_keep s r.of m.err; rw [h]; exact ⟨rfl, rfl, rfl⟩
  · split <;> exact ⟨rfl, rfl, rfl⟩
theorem mset_mset {κ ν : Type} [DecidableEq κ] (T : List (κ × ν)) (q : κ) (v w : ν) : mset (mset T q v) q w = mset T q w := by
  unfold mset
  by_cases h : T.any (fun p => decide (q = p.1)) = true
  · rw [if_pos h, if_pos h]
    have h2 : (T.map fun p => if q = p.1 then (p.1, v) else p).any (fun p => decide (q = p.1)) = true := by
      rw [List.any_eq_true] at h ⊢
      obtain ⟨p, hp, he⟩ := h
      refine ⟨(p.1, v), List.mem_map.2 ⟨p, hp, ?_⟩, he⟩
      rw [if_pos (by simpa using he)]
    rw [if_pos h2, List.map_map]
    refine List.map_congr_left fun p _ => ?_
    show (if q = (if q = p.1 then (p.1, v) else p).1 then ((if q = p.1 then (p.1, v) else p).1, w) else (if q = p.1 then (p.1, v) else p)) = if q = p.1 then (p.1, w) else p
    by_cases hq : q = p.1
    · simp [hq]
    · simp [hq]
  · rw [if_neg h, if_neg h]
    have h2 : (T ++ [(q, v)]).any (fun p => decide (q = p.1)) = true := by rw [List.any_append]; simp
    rw [if_pos h2, List.map_append]
    have h3 : T.map (fun p => if q = p.1 then (p.1, w) else p) = T := by
      rw [List.map_congr_left (g := id)]
      · simp
      · intro p hp
        have : q ≠ p.1 := fun e => h (List.any_eq_true.2 ⟨p, hp, by simp [e]⟩)
        simp [this]
    rw [h3]; simp
theorem ended_err {s : PS} {r : Req} {m : Ans} (h : m.err ≠ 0) : ended s r m = endsS s r.of m.err := if_pos h
theorem ended_call {s : PS} {r : Req} {m : Ans} {i : Nat} (h : m.err = 0) (hi : r.of = some i) : ended s r m = endS { s with next := mset s.next 2 ((callAt s i).seq + 1) } i 0 m.offset := by unfold ended; rw [if_neg (by simpa using h), hi]
theorem ended_id {s : PS} {r : Req} {m : Ans} (h : m.err = 0) (hi : r.of = none) : ended s r m = { s with pid := if s.pid = 0 then m.offset else s.pid, epoch := if s.pid = 0 then 0 else m.offset, next := [], fresh := true } := by unfold ended; rw [if_neg (by simpa using h), hi]

set_option maxHeartbeats 1000000 in
set_option maxRecDepth 20000 in
theorem step1_ok (pb rb b3 b5 : Nat) (s : PS) (x : PX) (r : Req) (q : Option Nat) (m : Ans) : Cn Try.prog 28 [.pointer (some ⟨rb, 0, none⟩), .pointer (some ⟨b5, 0, none⟩), .pointer (some ⟨b3, 0, none⟩)] (fun w => CellsAt rb 0 (r.cells q) w ∧ CellsAt b5 0 m.cells w ∧ CellsAt b3 0 [.pointer (some ⟨pb, 0, none⟩)] w ∧ CellsAt pb 0 (PS.cells s x none 0 0) w) [know (fun _ => True)] fun v G => ∃ b X, v = .bool b ∧ (b = (decide (r.n = m.id) && decide (r.to = m.fr) && decide (m.to = 101) && decide (m.kind = isA q)) ∧ X = know (fun _ => True)) ∧ G = [X] := by
  refine .enter Try.func28 rfl (by kernel_rfl) rfl fun R k => ?_
  refine .seq ?_
  refine .region ?_
  refine .rd (.assign rfl) ?_
  refine .nil ?_
  refine .seq ?_
  refine .region ?_
  refine .rd (.assign rfl) ?_
  refine .nil ?_
  refine .seq ?_
  refine .seq ?_
  refine .region ?_
  refine .rd (.move rfl) ?_
  refine .rd (.nilCheck rfl) ?_
  refine .rd (.fieldAddr fd71_4 rfl) ?_
  refine .rd (.load na62 rfl (Knows.one (i := 4) (Knows.pick (.tail .head) (k.mono fun _ h => h.1)) rfl)) ?_
  refine .rd (.eqNilP Try.underlying62 rfl rfl) ?_
  refine .nil ?_
  refine .joinAt (E' := [(0, .pointer (some ⟨rb, 0, none⟩)), (1, .pointer (some ⟨b5, 0, none⟩)), (2, .pointer (some ⟨b3, 0, none⟩)), (5, .int .i64 (isA q))]) (Γ' := [know (fun _ => True), R]) ?_ (fun fin => ?_)
  · refine .seq ?_
    refine .drawsJoin [3, 5, 11, 13, 18, 19, 22, 27] [R] 4 ((decide (r.n = m.id) && decide (r.to = m.fr) && decide (m.to = 101) && decide (m.kind = isA q))) (by kernel_rfl) ?_ ?_
    · refine .rp 0 rfl (by kernel_rfl) (by kernel_rfl) (by kernel_rfl) (Reads.pure (.move rfl)) ?_
      refine .rp 1 rfl (by kernel_rfl) (by kernel_rfl) (by kernel_rfl) (Reads.pure (.nilCheck rfl)) ?_
      refine .rp 2 rfl (by kernel_rfl) (by kernel_rfl) (by kernel_rfl) (Reads.pure (.fieldAddr fd71_0 rfl)) ?_
      refine .rd 3 rfl rfl (by kernel_rfl) (by kernel_rfl) (by kernel_rfl) (.load na3 rfl (Knows.one (i := 0) (Knows.pick .head (k.mono fun _ h => h.1)) rfl)) (.cons (.tail .head) .nil) ?_
      refine .rp 4 rfl (by kernel_rfl) (by kernel_rfl) (by kernel_rfl) (Reads.pure (.fieldAddr fd32_3 rfl)) ?_
      refine .rd 5 rfl rfl (by kernel_rfl) (by kernel_rfl) (by kernel_rfl) (.load na3 rfl (Knows.one (i := 3) (Knows.pick .head (k.mono fun _ h => h.2.1)) rfl)) (.cons (.tail .head) .nil) ?_
      refine .rp 6 rfl (by kernel_rfl) (by kernel_rfl) (by kernel_rfl) (Reads.pure (.eqI rfl rfl)) ?_
      refine .rp 7 rfl (by kernel_rfl) (by kernel_rfl) (by kernel_rfl) (Reads.pure (.move rfl)) ?_
      refine .split (t := 18) rfl (fun g4a => ?_) (fun g4a => ?_)
      · replace g4a := of_decide_eq_true g4a
        refine .rpG 8 (t := 18) rfl rfl rfl (by kernel_rfl) (by kernel_rfl) (by kernel_rfl) (Reads.pure (.move rfl)) ?_
        refine .rpG 9 (t := 18) rfl rfl rfl (by kernel_rfl) (by kernel_rfl) (by kernel_rfl) (Reads.pure (.nilCheck rfl)) ?_
        refine .rpG 10 (t := 18) rfl rfl rfl (by kernel_rfl) (by kernel_rfl) (by kernel_rfl) (Reads.pure (.fieldAddr fd71_1 rfl)) ?_
        refine .rdG 11 (t := 18) rfl rfl rfl rfl (by kernel_rfl) (by kernel_rfl) (by kernel_rfl) (.load na3 rfl (Knows.one (i := 1) (Knows.pick .head (k.mono fun _ h => h.1)) rfl)) (.cons (.tail .head) .nil) ?_
        refine .rpG 12 (t := 18) rfl rfl rfl (by kernel_rfl) (by kernel_rfl) (by kernel_rfl) (Reads.pure (.fieldAddr fd32_1 rfl)) ?_
        refine .rdG 13 (t := 18) rfl rfl rfl rfl (by kernel_rfl) (by kernel_rfl) (by kernel_rfl) (.load na3 rfl (Knows.one (i := 1) (Knows.pick .head (k.mono fun _ h => h.2.1)) rfl)) (.cons (.tail .head) .nil) ?_
        refine .rpG 14 (t := 18) rfl rfl rfl (by kernel_rfl) (by kernel_rfl) (by kernel_rfl) (Reads.pure (.eqI rfl rfl)) ?_
        refine .rp 15 rfl (by kernel_rfl) (by kernel_rfl) (by kernel_rfl) (Reads.pure (.pickT rfl rfl)) ?_
        refine .rp 16 rfl (by kernel_rfl) (by kernel_rfl) (by kernel_rfl) (Reads.pure (.move rfl)) ?_
        refine .split (t := 27) rfl (fun g4b => ?_) (fun g4b => ?_)
        · replace g4b := of_decide_eq_true g4b
          refine .rpG 17 (t := 27) rfl rfl rfl (by kernel_rfl) (by kernel_rfl) (by kernel_rfl) (Reads.pure (.fieldAddr fd32_2 rfl)) ?_
          refine .rdG 18 (t := 27) rfl rfl rfl rfl (by kernel_rfl) (by kernel_rfl) (by kernel_rfl) (.load na3 rfl (Knows.one (i := 2) (Knows.pick .head (k.mono fun _ h => h.2.1)) rfl)) (.cons (.tail .head) .nil) ?_
          refine .rdG 19 (t := 27) rfl rfl rfl rfl (by kernel_rfl) (by kernel_rfl) (by kernel_rfl) (.load na24 rfl (Knows.one (i := 0) (Knows.pick .head (k.mono fun _ h => h.2.2.1)) rfl)) (.cons (.tail .head) .nil) ?_
          refine .rpG 20 (t := 27) rfl rfl rfl (by kernel_rfl) (by kernel_rfl) (by kernel_rfl) (Reads.pure (.nilCheck rfl)) ?_
          refine .rpG 21 (t := 27) rfl rfl rfl (by kernel_rfl) (by kernel_rfl) (by kernel_rfl) (Reads.pure (.fieldAddr fd60_0 rfl)) ?_
          refine .rdG 22 (t := 27) rfl rfl rfl rfl (by kernel_rfl) (by kernel_rfl) (by kernel_rfl) (.load na3 rfl (Knows.one (i := 0) (Knows.pick .head (k.mono fun _ h => h.2.2.2)) rfl)) (.cons (.tail .head) .nil) ?_
          refine .rpG 23 (t := 27) rfl rfl rfl (by kernel_rfl) (by kernel_rfl) (by kernel_rfl) (Reads.pure (.eqI rfl rfl)) ?_
          refine .rp 24 rfl (by kernel_rfl) (by kernel_rfl) (by kernel_rfl) (Reads.pure (.pickT rfl rfl)) ?_
          refine .rp 25 rfl (by kernel_rfl) (by kernel_rfl) (by kernel_rfl) (Reads.pure (.move rfl)) ?_
          refine .split (t := 36) rfl (fun g4c => ?_) (fun g4c => ?_)
          · replace g4c := of_decide_eq_true g4c
            refine .rpG 26 (t := 36) rfl rfl rfl (by kernel_rfl) (by kernel_rfl) (by kernel_rfl) (Reads.pure (.fieldAddr fd32_0 rfl)) ?_
            refine .rdG 27 (t := 36) rfl rfl rfl rfl (by kernel_rfl) (by kernel_rfl) (by kernel_rfl) (.load na3 rfl (Knows.one (i := 0) (Knows.pick .head (k.mono fun _ h => h.2.1)) rfl)) (.cons (.tail .head) .nil) ?_
            refine .rpG 28 (t := 36) rfl rfl rfl (by kernel_rfl) (by kernel_rfl) (by kernel_rfl) (Reads.pure (.move rfl)) ?_
            refine .rpG 29 (t := 36) rfl rfl rfl (by kernel_rfl) (by kernel_rfl) (by kernel_rfl) (Reads.pure (.eqI rfl rfl)) ?_
            refine .rp 30 rfl (by kernel_rfl) (by kernel_rfl) (by kernel_rfl) (Reads.pure (.pickT rfl rfl)) ?_
            refine .rp 31 rfl (by kernel_rfl) (by kernel_rfl) (by kernel_rfl) (Reads.pure (.assign rfl)) ?_
            refine .done (by kernel_rfl) ⟨rfl, ?_, by repeat (first | exact Le.refl _ | refine Le.skip rfl ?_)⟩
            exact congrArg (fun x => some (Value.bool x)) (Eq.symm (show (decide (r.n = m.id) && decide (r.to = m.fr) && decide (m.to = 101) && decide (m.kind = isA q)) = _ by simp [g4a, g4b, g4c]))
          · replace g4c := of_decide_eq_false g4c
            refine .off 26 (t := 36) rfl rfl rfl rfl (by kernel_rfl) (by kernel_rfl) (by kernel_rfl) ?_
            refine .off 27 (t := 36) rfl rfl rfl rfl (by kernel_rfl) (by kernel_rfl) (by kernel_rfl) ?_
            refine .off 28 (t := 36) rfl rfl rfl rfl (by kernel_rfl) (by kernel_rfl) (by kernel_rfl) ?_
            refine .off 29 (t := 36) rfl rfl rfl rfl (by kernel_rfl) (by kernel_rfl) (by kernel_rfl) ?_
            refine .rp 30 rfl (by kernel_rfl) (by kernel_rfl) (by kernel_rfl) (Reads.pure (.pickF rfl rfl)) ?_
            refine .rp 31 rfl (by kernel_rfl) (by kernel_rfl) (by kernel_rfl) (Reads.pure (.assign rfl)) ?_
            refine .done (by kernel_rfl) ⟨rfl, ?_, by repeat (first | exact Le.refl _ | refine Le.skip rfl ?_)⟩
            exact congrArg (fun x => some (Value.bool x)) (Eq.symm (show (decide (r.n = m.id) && decide (r.to = m.fr) && decide (m.to = 101) && decide (m.kind = isA q)) = _ by simp [g4a, g4b, g4c]))
        · replace g4b := of_decide_eq_false g4b
          refine .off 17 (t := 27) rfl rfl rfl rfl (by kernel_rfl) (by kernel_rfl) (by kernel_rfl) ?_
          refine .off 18 (t := 27) rfl rfl rfl rfl (by kernel_rfl) (by kernel_rfl) (by kernel_rfl) ?_
          refine .off 19 (t := 27) rfl rfl rfl rfl (by kernel_rfl) (by kernel_rfl) (by kernel_rfl) ?_
          refine .off 20 (t := 27) rfl rfl rfl rfl (by kernel_rfl) (by kernel_rfl) (by kernel_rfl) ?_
          refine .off 21 (t := 27) rfl rfl rfl rfl (by kernel_rfl) (by kernel_rfl) (by kernel_rfl) ?_
          refine .off 22 (t := 27) rfl rfl rfl rfl (by kernel_rfl) (by kernel_rfl) (by kernel_rfl) ?_
          refine .off 23 (t := 27) rfl rfl rfl rfl (by kernel_rfl) (by kernel_rfl) (by kernel_rfl) ?_
          refine .rp 24 rfl (by kernel_rfl) (by kernel_rfl) (by kernel_rfl) (Reads.pure (.pickF rfl rfl)) ?_
          refine .rp 25 rfl (by kernel_rfl) (by kernel_rfl) (by kernel_rfl) (Reads.pure (.move rfl)) ?_
          refine .off 26 (t := 36) rfl rfl rfl rfl (by kernel_rfl) (by kernel_rfl) (by kernel_rfl) ?_
          refine .off 27 (t := 36) rfl rfl rfl rfl (by kernel_rfl) (by kernel_rfl) (by kernel_rfl) ?_
          refine .off 28 (t := 36) rfl rfl rfl rfl (by kernel_rfl) (by kernel_rfl) (by kernel_rfl) ?_
          refine .off 29 (t := 36) rfl rfl rfl rfl (by kernel_rfl) (by kernel_rfl) (by kernel_rfl) ?_
          refine .rp 30 rfl (by kernel_rfl) (by kernel_rfl) (by kernel_rfl) (Reads.pure (.pickF rfl rfl)) ?_
          refine .rp 31 rfl (by kernel_rfl) (by kernel_rfl) (by kernel_rfl) (Reads.pure (.assign rfl)) ?_
          refine .done (by kernel_rfl) ⟨rfl, ?_, by repeat (first | exact Le.refl _ | refine Le.skip rfl ?_)⟩
          exact congrArg (fun x => some (Value.bool x)) (Eq.symm (show (decide (r.n = m.id) && decide (r.to = m.fr) && decide (m.to = 101) && decide (m.kind = isA q)) = _ by simp [g4a, g4b]))
      · replace g4a := of_decide_eq_false g4a
        refine .off 8 (t := 18) rfl rfl rfl rfl (by kernel_rfl) (by kernel_rfl) (by kernel_rfl) ?_
        refine .off 9 (t := 18) rfl rfl rfl rfl (by kernel_rfl) (by kernel_rfl) (by kernel_rfl) ?_
        refine .off 10 (t := 18) rfl rfl rfl rfl (by kernel_rfl) (by kernel_rfl) (by kernel_rfl) ?_
        refine .off 11 (t := 18) rfl rfl rfl rfl (by kernel_rfl) (by kernel_rfl) (by kernel_rfl) ?_
        refine .off 12 (t := 18) rfl rfl rfl rfl (by kernel_rfl) (by kernel_rfl) (by kernel_rfl) ?_
        refine .off 13 (t := 18) rfl rfl rfl rfl (by kernel_rfl) (by kernel_rfl) (by kernel_rfl) ?_
        refine .off 14 (t := 18) rfl rfl rfl rfl (by kernel_rfl) (by kernel_rfl) (by kernel_rfl) ?_
        refine .rp 15 rfl (by kernel_rfl) (by kernel_rfl) (by kernel_rfl) (Reads.pure (.pickF rfl rfl)) ?_
        refine .rp 16 rfl (by kernel_rfl) (by kernel_rfl) (by kernel_rfl) (Reads.pure (.move rfl)) ?_
        refine .off 17 (t := 27) rfl rfl rfl rfl (by kernel_rfl) (by kernel_rfl) (by kernel_rfl) ?_
        refine .off 18 (t := 27) rfl rfl rfl rfl (by kernel_rfl) (by kernel_rfl) (by kernel_rfl) ?_
        refine .off 19 (t := 27) rfl rfl rfl rfl (by kernel_rfl) (by kernel_rfl) (by kernel_rfl) ?_
        refine .off 20 (t := 27) rfl rfl rfl rfl (by kernel_rfl) (by kernel_rfl) (by kernel_rfl) ?_
        refine .off 21 (t := 27) rfl rfl rfl rfl (by kernel_rfl) (by kernel_rfl) (by kernel_rfl) ?_
        refine .off 22 (t := 27) rfl rfl rfl rfl (by kernel_rfl) (by kernel_rfl) (by kernel_rfl) ?_
        refine .off 23 (t := 27) rfl rfl rfl rfl (by kernel_rfl) (by kernel_rfl) (by kernel_rfl) ?_
        refine .rp 24 rfl (by kernel_rfl) (by kernel_rfl) (by kernel_rfl) (Reads.pure (.pickF rfl rfl)) ?_
        refine .rp 25 rfl (by kernel_rfl) (by kernel_rfl) (by kernel_rfl) (Reads.pure (.move rfl)) ?_
        refine .off 26 (t := 36) rfl rfl rfl rfl (by kernel_rfl) (by kernel_rfl) (by kernel_rfl) ?_
        refine .off 27 (t := 36) rfl rfl rfl rfl (by kernel_rfl) (by kernel_rfl) (by kernel_rfl) ?_
        refine .off 28 (t := 36) rfl rfl rfl rfl (by kernel_rfl) (by kernel_rfl) (by kernel_rfl) ?_
        refine .off 29 (t := 36) rfl rfl rfl rfl (by kernel_rfl) (by kernel_rfl) (by kernel_rfl) ?_
        refine .rp 30 rfl (by kernel_rfl) (by kernel_rfl) (by kernel_rfl) (Reads.pure (.pickF rfl rfl)) ?_
        refine .rp 31 rfl (by kernel_rfl) (by kernel_rfl) (by kernel_rfl) (Reads.pure (.assign rfl)) ?_
        refine .done (by kernel_rfl) ⟨rfl, ?_, by repeat (first | exact Le.refl _ | refine Le.skip rfl ?_)⟩
        exact congrArg (fun x => some (Value.bool x)) (Eq.symm (show (decide (r.n = m.id) && decide (r.to = m.fr) && decide (m.to = 101) && decide (m.kind = isA q)) = _ by simp [g4a]))
    refine .retP Try.func28 (.cons (.tmp rfl) .nil) (.cons .head (.cons .head .nil)) ?_
    exact ⟨[_], ⟨_, _, rfl, ⟨rfl, rfl⟩, rfl⟩, rfl⟩
  · refine .cond rfl (fun h2 => ?_) (fun h2 => ?_)
    · refine .region ?_
      refine .rd (.assign rfl) ?_
      refine .nil ?_
      refine .alter (t := 5) (v' := .int .i64 (isA q)) rfl (by cases q with | none => rfl | some a => simp at h2) ?_
      exact fin (.cons rfl (.cons rfl (.cons rfl (.cons rfl .nil)))) (.cons .head (.cons .head .nil))
    · refine .skip ?_
      refine .alter (t := 5) (v' := .int .i64 (isA q)) rfl (by cases q with | none => simp at h2 | some a => rfl) ?_
      exact fin (.cons rfl (.cons rfl (.cons rfl (.cons rfl .nil)))) (.cons .head (.cons .head .nil))

set_option maxHeartbeats 4000000 in
set_option maxRecDepth 20000 in
theorem step_ok (pb : Nat) (now : Int) (s : PS) (m : Ans) (hB : PB s) (hB2 : ∀ r, s.under = some r → PB (ended { s with under := none } r m)) (hnow : 0 ≤ now ∧ now ≤ 1000000000000) : Cn Try.prog 10 [.pointer (some ⟨pb, 0, none⟩), .int .i64 now, .agg m.cells.toArray] (fun _ => True) [PR pb s] fun v G => ∃ oa oc zs, v = .slice oa zs.length oc ∧ zs.map (·.o) = (step s now m).2.toList ∧ G = [PR pb (step s now m).1, Said oa oc zs, know (SaidK zs)] := by
  refine .enter Try.func10 rfl (by kernel_rfl) rfl fun R k => ?_
  refine .open_ (σ := PX × Nat × List CallX) (φ := fun y => PW s y.2.2) (B := fun y => PL pb s y.1 y.2.1 y.2.2 none 0 0) .head (fun _ h => h) (fun y hW => ?_)
  obtain ⟨x, rb, cl⟩ := y
  dsimp only at hW ⊢
  unfold PL
  simp only [List.cons_append, List.nil_append]
  obtain ⟨hwt1, hwt2⟩ := hB.wait
  refine .seq ?_
  refine .region ?_
  refine .ef (.box (l := [.pointer (some ⟨pb, 0, none⟩)]) rfl rfl (ones.of rfl)) ?_
  rintro _ _ ⟨b3, rfl, rfl⟩
  refine .ef (.box (l := m.cells) rfl rfl m.cells_ones) ?_
  rintro _ _ ⟨b5, rfl, rfl⟩
  refine .rd (.assign rfl) ?_
  refine .nil ?_
  refine .seq ?_
  refine .region ?_
  refine .rd (.ld na24 rfl (.tail .head) rfl) ?_
  refine .rd (.nilCheck rfl) ?_
  refine .rd (.fieldAddr fd60_10 rfl) ?_
  rcases hu : s.under with _ | r
  · refine .perm (.cons (.tail (.tail (.tail .head))) (.cons .head (.cons .head (.cons .head (.cons .head (.cons .head (.cons .head (.cons .head (.cons .head (.cons .head (.cons .head (.cons .head .nil)))))))))))) ?_
    refine .cast (X' := reqR cl s.under rb) (by rw [hu]) ?_
    refine .rd (.ld na58 rfl (.tail (.tail (.tail .head))) (show (PS.cells s x none 0 0)[10]? = some (.slice x.ua 0 x.uc) by show some (Value.slice x.ua (unders s.under) x.uc) = _; rw [hu]; rfl)) ?_
    refine .rd (.makeFunc (cs := [.pointer (some ⟨b5, 0, none⟩), .pointer (some ⟨b3, 0, none⟩)]) rfl rfl) ?_
    refine .fn rfl rfl .nil (fun _ _ _ => trivial) (index0_ok x.ua x.uc 28 #[.pointer (some ⟨b5, 0, none⟩), .pointer (some ⟨b3, 0, none⟩)]) (fun v G1 hq => ?_)
    obtain ⟨rfl, rfl⟩ := hq
    simp only [List.nil_append]
    refine .rd (.assign rfl) ?_
    refine .nil ?_
    refine .seq ?_
    refine .seq ?_
    refine .region ?_
    refine .rd (.move rfl) ?_
    refine .rd (.lt rfl rfl) ?_
    refine .nil ?_
    refine .condP rfl (fun h2 => ?_) (fun h2 => ?_)
    · refine .seq ?_
      refine .region ?_
      refine .rd (.assign rfl) ?_
      refine .nil ?_
      refine .nilArr 32 21 none ?_
      refine .cast (X' := Said none 0 []) (rfl) ?_
      refine .knowT (SaidK []) (fun w z hz => by cases hz) ?_
      refine .close (X := PR pb s) (.cons (.tail (.tail (.tail (.tail (.tail .head))))) (.cons (.tail (.tail .head)) (.cons (.tail (.tail (.tail (.tail .head)))) (.cons (.tail (.tail (.tail (.tail .head)))) (.cons (.tail (.tail (.tail (.tail .head)))) (.cons (.tail (.tail (.tail (.tail .head)))) (.cons (.tail (.tail (.tail (.tail .head)))) (.cons (.tail (.tail (.tail (.tail .head)))) (.cons (.tail (.tail (.tail (.tail .head)))) .nil))))))))) (fun _ H => ⟨(x, rb, cl), hW, H⟩) ?_
      rw [step_none hu]
      refine .retP Try.func10 (.cons (.tmp rfl) .nil) (.cons .head (.cons (.tail .head) (.cons .head (.cons (.tail (.tail .head)) .nil)))) ?_
      exact ⟨[_, _, _], ⟨none, 0, [], rfl, rfl, rfl⟩, rfl⟩
    · exact absurd h2 (by decide)
  · refine .perm (.cons (.tail (.tail (.tail (.tail (.tail (.tail (.tail (.tail .head)))))))) (.cons .head (.cons .head (.cons .head (.cons .head (.cons .head (.cons .head (.cons .head (.cons .head (.cons .head (.cons .head (.cons .head .nil)))))))))))) ?_
    refine .cast (X' := arr 69 1 x.ua x.uc [.pointer (some ⟨rb, 0, none⟩)]) (by unfold UL; rw [hu]; rfl) ?_
    refine .open_ (σ := Option Nat) (φ := fun q => ofAt cl r.of q) (B := fun q => [blk rb (r.cells q) 71]) (.tail (.tail (.tail (.tail .head)))) (fun _ h => reqR_open (by first | exact h | (rw [hu] at h; exact h))) (fun q hof => ?_)
    simp only [List.cons_append, List.nil_append]
    refine .knowT (fun _ => True) (fun _ => trivial) ?_
    refine .rd (.ld na58 rfl (.tail (.tail (.tail (.tail (.tail .head))))) (show (PS.cells s x none 0 0)[10]? = some (.slice x.ua 1 x.uc) by show some (Value.slice x.ua (unders s.under) x.uc) = _; rw [hu]; rfl)) ?_
    refine .rd (.makeFunc (cs := [.pointer (some ⟨b5, 0, none⟩), .pointer (some ⟨b3, 0, none⟩)]) rfl rfl) ?_
    refine .fn rfl rfl (.cons .head .nil) (fun A w h => ⟨(Knows.arr (.tail .head)) A w h, (Knows.blk .head) A w h, (Knows.blk (.tail (.tail .head))) A w h, (Knows.blk (.tail (.tail (.tail .head)))) A w h, (Knows.blk (.tail (.tail (.tail (.tail .head))))) A w h⟩) (index1_ok x.ua x.uc 28 #[.pointer (some ⟨b5, 0, none⟩), .pointer (some ⟨b3, 0, none⟩)] rb (know (fun _ => True)) (fun b X => b = (decide (r.n = m.id) && decide (r.to = m.fr) && decide (m.to = 101) && decide (m.kind = isA q)) ∧ X = know (fun _ => True)) _ (step1_ok pb rb b3 b5 s x r q m)) (fun v G1 hq => ?_)
    obtain ⟨b, X, rfl, ⟨hb, rfl⟩, rfl⟩ := hq
    simp only [List.cons_append, List.nil_append]
    rw [← fitsA_eq hof m] at hb
    refine .rd (.assign rfl) ?_
    refine .nil ?_
    refine .seq ?_
    refine .seq ?_
    refine .region ?_
    refine .rd (.move rfl) ?_
    refine .rd (.lt rfl rfl) ?_
    refine .nil ?_
    refine .condP rfl (fun h2 => ?_) (fun h2 => ?_)
    · obtain rfl : b = false := by cases b with | false => rfl | true => exact absurd h2 (by decide)
      refine .seq ?_
      refine .region ?_
      refine .rd (.assign rfl) ?_
      refine .nil ?_
      refine .close (X := reqR cl (some (r)) rb) (.cons (.tail .head) .nil) (fun _ H => reqR_close hof H) ?_
      refine .cast (X' := reqR cl s.under rb) (by first | rfl | rw [hu]) ?_
      refine .perm (.cons (.tail (.tail .head)) (.cons .head (.cons .head (.cons .head (.cons .head (.cons .head (.cons .head (.cons .head (.cons .head (.cons .head (.cons .head (.cons .head (.cons .head .nil))))))))))))) ?_
      refine .cast (X' := UL s x rb) (by unfold UL; rw [hu]; rfl) ?_
      refine .nilArr 32 21 none ?_
      refine .cast (X' := Said none 0 []) (rfl) ?_
      refine .knowT (SaidK []) (fun w z hz => by cases hz) ?_
      refine .close (X := PR pb s) (.cons (.tail (.tail (.tail (.tail (.tail (.tail (.tail .head))))))) (.cons (.tail (.tail (.tail .head))) (.cons (.tail (.tail (.tail (.tail (.tail (.tail .head)))))) (.cons (.tail (.tail (.tail (.tail (.tail (.tail .head)))))) (.cons (.tail (.tail (.tail (.tail (.tail (.tail .head)))))) (.cons (.tail (.tail (.tail (.tail (.tail (.tail .head)))))) (.cons (.tail (.tail .head)) (.cons (.tail (.tail (.tail (.tail (.tail .head))))) (.cons (.tail (.tail (.tail (.tail (.tail .head))))) .nil))))))))) (fun _ H => ⟨(x, rb, cl), hW, H⟩) ?_
      rw [step_not hu hb.symm]
      refine .retP Try.func10 (.cons (.tmp rfl) .nil) (.cons .head (.cons (.tail .head) (.cons .head (.cons (.tail (.tail (.tail .head))) .nil)))) ?_
      exact ⟨[_, _, _], ⟨none, 0, [], rfl, rfl, rfl⟩, rfl⟩
    · obtain rfl : b = true := by cases b with | true => rfl | false => exact absurd (by decide) h2
      refine .alter (t := 7) (v' := .int .i64 0) rfl rfl ?_
      refine .skip ?_
      refine .seq ?_
      refine .tell (φ := ∃ b o, x.ua = some ⟨b, o, none⟩) ((Knows.arr (.tail (.tail .head))).mono fun _ h => RowAt.addr h (by show 0 < 1; decide)) (fun hh => ?_)
      obtain ⟨b9, o9, hab⟩ := hh
      refine .region ?_
      refine .rd (.ld na24 rfl (.tail (.tail (.tail (.tail .head)))) rfl) ?_
      refine .rd (.nilCheck rfl) ?_
      refine .rd (.fieldAddr fd60_10 rfl) ?_
      refine .rd (.ld na58 rfl (.tail (.tail (.tail (.tail (.tail .head))))) (show (PS.cells s x none 0 0)[10]? = some (.slice x.ua 1 x.uc) by show some (Value.slice x.ua (unders s.under) x.uc) = _; rw [hu]; rfl)) ?_
      refine .rd (.move rfl) ?_
      refine .rd (.indexAddr (b := b9) (o := o9) Try.underlying58 ts69 (by show some (Value.slice x.ua _ _) = _; rw [hab]) rfl (by decide) (by decide)) ?_
      refine .rd (.load na69 rfl (Knows.one (i := 0) ((Knows.arr (.tail (.tail .head))).mono fun _ h => rowCells (hab ▸ h)) rfl)) ?_
      refine .rd (.assign rfl) ?_
      refine .nil ?_
      refine .seq ?_
      refine .seq ?_
      refine .region ?_
      refine .rd (.fieldAddr fd32_15 rfl) ?_
      refine .rd (.ld na3 rfl (.tail (.tail (.tail .head))) rfl) ?_
      refine .nil ?_
      refine .block ?_
      refine .seq ?_
      refine .region ?_
      refine .rd (.eqI rfl rfl) ?_
      refine .rd (.assign rfl) ?_
      refine .nil ?_
      refine .condP rfl (fun h6 => ?_) (fun h6 => ?_)
      · refine .seq ?_
        refine .drawsTo [0, 3, 7, 11, 14, 17] [blk b3 [.pointer (some ⟨pb, 0, none⟩)] 24, blk pb (PS.cells s x none 0 0) 60, blk b5 m.cells 32, blk rb (Req.cells r q) 71] [(1, .int .i64 now), (3, .pointer (some ⟨b3, 0, none⟩)), (5, .pointer (some ⟨b5, 0, none⟩)), (7, .int .i64 0), (8, .pointer (some ⟨rb, 0, none⟩))] [blk b3 [.pointer (some ⟨pb, 0, none⟩)] 24, blk b5 m.cells 32, blk pb (PS.cells s x none 0 0) 60, blk rb (Req.cells { r with deadline := now + s.wait } q) 71, bag CB cl, IM x.ab (mset (mset s.aims (partOf r) ((mget s.aims (partOf r)).getD 0)) (partOf r) (behind s.brokers r.to)), IM x.nb s.next, RowC x cl, arr 69 1 x.ua x.uc [.pointer (some ⟨rb, 0, none⟩)], EL s x, know (KN s x cl), R] (by kernel_rfl) ?_ ?_
        · refine .rd 0 rfl rfl (by kernel_rfl) (by kernel_rfl) (by kernel_rfl) (.ld na24 rfl .head rfl) (.cons (.tail (.tail (.tail (.tail .head)))) (.cons (.tail (.tail (.tail (.tail .head)))) (.cons (.tail (.tail (.tail .head))) (.cons (.tail .head) .nil)))) ?_
          refine .rp 1 rfl (by kernel_rfl) (by kernel_rfl) (by kernel_rfl) (Reads.pure (.nilCheck rfl)) ?_
          refine .rp 2 rfl (by kernel_rfl) (by kernel_rfl) (by kernel_rfl) (Reads.pure (.fieldAddr fd60_9 rfl)) ?_
          refine .rd 3 rfl rfl (by kernel_rfl) (by kernel_rfl) (by kernel_rfl) (.ld na56 rfl (.tail .head) rfl) (.cons (.tail (.tail (.tail (.tail .head)))) (.cons (.tail (.tail (.tail (.tail .head)))) (.cons (.tail (.tail (.tail .head))) (.cons (.tail .head) .nil)))) ?_
          refine .rp 4 rfl (by kernel_rfl) (by kernel_rfl) (by kernel_rfl) (Reads.pure (.move rfl)) ?_
          refine .rp 6 rfl (by kernel_rfl) (by kernel_rfl) (by kernel_rfl) (Reads.pure (.move rfl)) ?_
          refine .rd 7 rfl rfl (by kernel_rfl) (by kernel_rfl) (by kernel_rfl) (.ld na24 rfl .head rfl) (.cons (.tail (.tail (.tail (.tail .head)))) (.cons (.tail (.tail (.tail (.tail .head)))) (.cons (.tail (.tail (.tail .head))) (.cons (.tail .head) .nil)))) ?_
          refine .rp 8 rfl (by kernel_rfl) (by kernel_rfl) (by kernel_rfl) (Reads.pure (.move rfl)) ?_
          refine .rp 9 rfl (by kernel_rfl) (by kernel_rfl) (by kernel_rfl) (Reads.pure (.nilCheck rfl)) ?_
          refine .rp 10 rfl (by kernel_rfl) (by kernel_rfl) (by kernel_rfl) (Reads.pure (.fieldAddr fd71_1 rfl)) ?_
          refine .rd 11 rfl rfl (by kernel_rfl) (by kernel_rfl) (by kernel_rfl) (.ld na3 rfl (.tail (.tail (.tail .head))) rfl) (.cons (.tail (.tail (.tail (.tail .head)))) (.cons (.tail (.tail (.tail (.tail .head)))) (.cons (.tail (.tail (.tail .head))) (.cons (.tail .head) .nil)))) ?_
          refine .rp 13 rfl (by kernel_rfl) (by kernel_rfl) (by kernel_rfl) (Reads.pure (.move rfl)) ?_
          refine .rd 14 rfl rfl (by kernel_rfl) (by kernel_rfl) (by kernel_rfl) (.ld na24 rfl .head rfl) (.cons (.tail (.tail (.tail (.tail .head)))) (.cons (.tail (.tail (.tail (.tail .head)))) (.cons (.tail (.tail (.tail .head))) (.cons (.tail .head) .nil)))) ?_
          refine .rp 15 rfl (by kernel_rfl) (by kernel_rfl) (by kernel_rfl) (Reads.pure (.nilCheck rfl)) ?_
          refine .rp 16 rfl (by kernel_rfl) (by kernel_rfl) (by kernel_rfl) (Reads.pure (.fieldAddr fd60_1 rfl)) ?_
          refine .rd 17 rfl rfl (by kernel_rfl) (by kernel_rfl) (by kernel_rfl) (.ld na3 rfl (.tail .head) rfl) (.cons (.tail (.tail (.tail (.tail .head)))) (.cons (.tail (.tail (.tail (.tail .head)))) (.cons (.tail (.tail (.tail .head))) (.cons (.tail .head) .nil)))) ?_
          refine .rp 18 rfl (by kernel_rfl) (by kernel_rfl) (by kernel_rfl) (Reads.pure (.add rfl rfl (by show _ ≤ now + s.wait; omega) (by show now + s.wait ≤ _; omega))) ?_
          refine .ef 5 (by kernel_rfl) rfl (.fn rfl rfl .nil (fun A w h => ⟨(Knows.one (i := 4) (Knows.blk (.tail .head)) rfl) A w h, (Knows.part (.tail (.tail (.tail (.tail (.tail (.tail .head)))))) hof) A w h⟩) (part_ok rb q)) ?_
          rintro v _ ⟨G1, hq, rfl⟩
          obtain ⟨rfl, rfl⟩ := hq
          simp only [List.nil_append]
          refine ⟨.inr ⟨_, (.cons (.tail (.tail (.tail (.tail .head)))) (.cons (.tail (.tail (.tail (.tail .head)))) (.cons (.tail (.tail (.tail .head))) (.cons (.tail .head) .nil))))⟩, ?_⟩
          refine .alter (t := 34) (v' := .int .i64 (partOf r)) rfl (by rw [partOf_q hof]) ?_
          refine .ef 12 (by kernel_rfl) rfl (.fn rfl rfl .nil (fun A w h => ⟨(Knows.blk (.tail (.tail (.tail (.tail (.tail .head)))))) A w h, ((Knows.know (.tail (.tail (.tail (.tail (.tail (.tail (.tail (.tail (.tail (.tail (.tail .head)))))))))))) A w h).1⟩) (behind_ok pb s x none 0 0 r.to hB.bne hB.bn)) ?_
          rintro v _ ⟨G1, hq, rfl⟩
          obtain ⟨rfl, rfl⟩ := hq
          simp only [List.nil_append]
          refine ⟨.inr ⟨_, (.cons (.tail (.tail (.tail (.tail .head)))) (.cons (.tail (.tail (.tail (.tail .head)))) (.cons (.tail (.tail (.tail .head))) (.cons (.tail .head) .nil))))⟩, ?_⟩
          refine .ef 19 (by kernel_rfl) rfl (.mapEntry (q := partOf r) (z0 := 0) (venc := Value.int .i64) kl3 Try.underlying56 (fun w => ti3.zero w) rfl rfl rfl (.tail (.tail (.tail (.tail (.tail (.tail (.tail .head)))))))) ?_
          rintro _ _ ⟨st, rfl, rfl⟩
          refine ⟨.inl (by kernel_rfl), ?_⟩
          refine .rp 20 rfl (by kernel_rfl) (by kernel_rfl) (by kernel_rfl) (Reads.pure (.extract rfl rfl)) ?_
          refine .ef0 21 (by kernel_rfl) rfl (.entryStore (s := st) (u := behind s.brokers r.to) rfl rfl rfl .head) ?_
          rintro _ _ rfl
          refine ⟨.inl (by kernel_rfl), ?_⟩
          refine .rp 22 rfl (by kernel_rfl) (by kernel_rfl) (by kernel_rfl) (Reads.pure (.nilCheck rfl)) ?_
          refine .rp 23 rfl (by kernel_rfl) (by kernel_rfl) (by kernel_rfl) (Reads.pure (.fieldAddr fd71_3 rfl)) ?_
          refine .ef0 24 (by kernel_rfl) rfl (.store ts3 rfl rfl (.tail (.tail .head)) rfl (Nat.le_of_ble_eq_true rfl)) ?_
          rintro _ _ rfl
          refine ⟨.inl (by kernel_rfl), ?_⟩
          exact .done (by kernel_rfl) ⟨(.cons rfl (.cons rfl (.cons rfl (.cons rfl (.cons rfl .nil))))), _, (.cons (.tail (.tail (.tail (.tail (.tail .head))))) (.cons (.tail (.tail (.tail (.tail .head)))) (.cons (.tail (.tail (.tail (.tail .head)))) (.cons .head (.cons (.tail (.tail (.tail .head))) (.cons .head (.cons (.tail (.tail .head)) (.cons (.tail (.tail .head)) (.cons (.tail .head) (.cons (.tail .head) (.cons (.tail .head) (.cons (.tail .head) .nil))))))))))))⟩
        · refine .perm (.cons (.tail (.tail (.tail (.tail (.tail .head))))) (.cons .head (.cons .head (.cons .head (.cons .head (.cons .head (.cons .head (.cons .head (.cons .head (.cons .head (.cons .head (.cons .head .nil)))))))))))) ?_
          refine .cast (X' := IM x.ab (mset s.aims (partOf r) (behind s.brokers r.to))) (by rw [mset_mset]) ?_
          refine .seq ?_
          refine .seq ?_
          refine .draws [0, 3, 5] [blk b3 [.pointer (some ⟨pb, 0, none⟩)] 24, blk pb (PS.cells s x none 0 0) 60, blk b5 m.cells 32] (by kernel_rfl) ?_
          refine .rd 0 rfl rfl (by kernel_rfl) (by kernel_rfl) (by kernel_rfl) (.ld na24 rfl .head rfl) (.cons (.tail .head) (.cons (.tail (.tail .head)) (.cons (.tail .head) .nil))) ?_
          refine .rp 1 rfl (by kernel_rfl) (by kernel_rfl) (by kernel_rfl) (Reads.pure (.nilCheck rfl)) ?_
          refine .rp 2 rfl (by kernel_rfl) (by kernel_rfl) (by kernel_rfl) (Reads.pure (.fieldAddr fd60_3 rfl)) ?_
          refine .rd 3 rfl rfl (by kernel_rfl) (by kernel_rfl) (by kernel_rfl) (.ld na28 rfl (.tail .head) rfl) (.cons (.tail .head) (.cons (.tail (.tail .head)) (.cons (.tail .head) .nil))) ?_
          refine .rp 4 rfl (by kernel_rfl) (by kernel_rfl) (by kernel_rfl) (Reads.pure (.fieldAddr fd32_7 rfl)) ?_
          refine .rd 5 rfl rfl (by kernel_rfl) (by kernel_rfl) (by kernel_rfl) (.ld na3 rfl (.tail (.tail .head)) rfl) (.cons (.tail .head) (.cons (.tail (.tail .head)) (.cons (.tail .head) .nil))) ?_
          refine .ef 6 (by kernel_rfl) rfl (.fn rfl rfl .nil (((Knows.know (.tail (.tail (.tail (.tail (.tail (.tail (.tail (.tail (.tail (.tail .head))))))))))).mono fun _ h => h.1)) (contains_ok x.ba x.bc s.brokers m.last (by have := hB.bn; omega))) ?_
          rintro v _ ⟨G1, hq, rfl⟩
          obtain ⟨rfl, rfl⟩ := hq
          simp only [List.nil_append]
          refine ⟨.inl (by kernel_rfl), ?_⟩
          refine .done (by kernel_rfl) ?_
          refine .cond rfl (fun h8 => ?_) (fun h8 => ?_)
          · replace h8 : 0 ≤ idxOf s.brokers m.last := by simpa using h8
            refine .drawsTo [0, 3, 8] [blk b3 [.pointer (some ⟨pb, 0, none⟩)] 24, blk pb (PS.cells s x none 0 0) 60, blk b5 m.cells 32] [(1, .int .i64 now), (3, .pointer (some ⟨b3, 0, none⟩)), (5, .pointer (some ⟨b5, 0, none⟩)), (7, .int .i64 0), (8, .pointer (some ⟨rb, 0, none⟩))] [blk b3 [.pointer (some ⟨pb, 0, none⟩)] 24, blk b5 m.cells 32, blk pb (PS.cells s x none 0 0) 60, blk rb (Req.cells { r with deadline := now + 1 } q) 71, bag CB cl, IM x.ab (mset (mset (mset s.aims (partOf r) (behind s.brokers r.to)) (partOf r) ((mget (mset s.aims (partOf r) (behind s.brokers r.to)) (partOf r)).getD 0)) (partOf r) m.last), IM x.nb s.next, RowC x cl, arr 69 1 x.ua x.uc [.pointer (some ⟨rb, 0, none⟩)], EL s x, know (KN s x cl), R] (by kernel_rfl) ?_ ?_
            · refine .rd 0 rfl rfl (by kernel_rfl) (by kernel_rfl) (by kernel_rfl) (.ld na24 rfl .head rfl) (.cons (.tail .head) (.cons (.tail (.tail .head)) (.cons (.tail .head) .nil))) ?_
              refine .rp 1 rfl (by kernel_rfl) (by kernel_rfl) (by kernel_rfl) (Reads.pure (.nilCheck rfl)) ?_
              refine .rp 2 rfl (by kernel_rfl) (by kernel_rfl) (by kernel_rfl) (Reads.pure (.fieldAddr fd60_9 rfl)) ?_
              refine .rd 3 rfl rfl (by kernel_rfl) (by kernel_rfl) (by kernel_rfl) (.ld na56 rfl (.tail .head) rfl) (.cons (.tail .head) (.cons (.tail (.tail .head)) (.cons (.tail .head) .nil))) ?_
              refine .rp 4 rfl (by kernel_rfl) (by kernel_rfl) (by kernel_rfl) (Reads.pure (.move rfl)) ?_
              refine .rp 6 rfl (by kernel_rfl) (by kernel_rfl) (by kernel_rfl) (Reads.pure (.move rfl)) ?_
              refine .rp 7 rfl (by kernel_rfl) (by kernel_rfl) (by kernel_rfl) (Reads.pure (.fieldAddr fd32_7 rfl)) ?_
              refine .rd 8 rfl rfl (by kernel_rfl) (by kernel_rfl) (by kernel_rfl) (.ld na3 rfl (.tail (.tail .head)) rfl) (.cons (.tail .head) (.cons (.tail (.tail .head)) (.cons (.tail .head) .nil))) ?_
              refine .rp 9 rfl (by kernel_rfl) (by kernel_rfl) (by kernel_rfl) (Reads.pure (.move rfl)) ?_
              refine .rp 10 rfl (by kernel_rfl) (by kernel_rfl) (by kernel_rfl) (Reads.pure (.add rfl rfl (by show _ ≤ now + 1; omega) (by show now + 1 ≤ _; omega))) ?_
              refine .ef 5 (by kernel_rfl) rfl (.fn rfl rfl .nil (fun A w h => ⟨(Knows.one (i := 4) (Knows.blk (.tail (.tail (.tail (.tail .head))))) rfl) A w h, (Knows.part (.tail (.tail (.tail (.tail (.tail .head))))) hof) A w h⟩) (part_ok rb q)) ?_
              rintro v _ ⟨G1, hq, rfl⟩
              obtain ⟨rfl, rfl⟩ := hq
              simp only [List.nil_append]
              refine ⟨.inr ⟨_, (.cons (.tail .head) (.cons (.tail (.tail .head)) (.cons (.tail .head) .nil)))⟩, ?_⟩
              refine .alter (t := 64) (v' := .int .i64 (partOf r)) rfl (by rw [partOf_q hof]) ?_
              refine .ef 11 (by kernel_rfl) rfl (.mapEntry (q := partOf r) (z0 := 0) (venc := Value.int .i64) kl3 Try.underlying56 (fun w => ti3.zero w) rfl rfl rfl .head) ?_
              rintro _ _ ⟨st, rfl, rfl⟩
              refine ⟨.inr ⟨_, (.cons (.tail .head) (.cons (.tail (.tail .head)) (.cons (.tail .head) .nil)))⟩, ?_⟩
              refine .rp 12 rfl (by kernel_rfl) (by kernel_rfl) (by kernel_rfl) (Reads.pure (.extract rfl rfl)) ?_
              refine .ef0 13 (by kernel_rfl) rfl (.entryStore (s := st) (u := m.last) rfl rfl rfl .head) ?_
              rintro _ _ rfl
              refine ⟨.inl (by kernel_rfl), ?_⟩
              refine .rp 14 rfl (by kernel_rfl) (by kernel_rfl) (by kernel_rfl) (Reads.pure (.nilCheck rfl)) ?_
              refine .rp 15 rfl (by kernel_rfl) (by kernel_rfl) (by kernel_rfl) (Reads.pure (.fieldAddr fd71_3 rfl)) ?_
              refine .ef0 16 (by kernel_rfl) rfl (.store ts3 rfl rfl (.tail (.tail (.tail (.tail .head)))) rfl (Nat.le_of_ble_eq_true rfl)) ?_
              rintro _ _ rfl
              refine ⟨.inl (by kernel_rfl), ?_⟩
              exact .done (by kernel_rfl) ⟨(.cons rfl (.cons rfl (.cons rfl (.cons rfl (.cons rfl .nil))))), _, (.cons (.tail (.tail .head)) (.cons (.tail (.tail .head)) (.cons (.tail (.tail .head)) (.cons .head (.cons (.tail .head) (.cons .head (.cons .head (.cons .head (.cons .head (.cons .head (.cons .head (.cons .head .nil))))))))))))⟩
            · refine .perm (.cons (.tail (.tail (.tail (.tail (.tail .head))))) (.cons .head (.cons .head (.cons .head (.cons .head (.cons .head (.cons .head (.cons .head (.cons .head (.cons .head (.cons .head (.cons .head .nil)))))))))))) ?_
              refine .cast (X' := IM x.ab (mset (mset s.aims (partOf r) (behind s.brokers r.to)) (partOf r) m.last)) (by rw [mset_mset]) ?_
              refine .seq ?_
              refine .region ?_
              refine .rd (.assign rfl) ?_
              refine .nil ?_
              have hled : led s now r m.last = ({ s with aims := (mset (mset s.aims (partOf r) (behind s.brokers r.to)) (partOf r) m.last), under := some { r with deadline := now + 1 } } : PS) := if_pos (idx_in.1 h8)
              refine .close (X := reqR cl (some ({ r with deadline := now + 1 })) rb) (.cons (.tail (.tail (.tail (.tail .head)))) .nil) (fun _ H => reqR_close hof H) ?_
              refine .perm (.cons (.tail (.tail (.tail (.tail (.tail (.tail (.tail (.tail .head)))))))) (.cons .head (.cons .head (.cons .head (.cons .head (.cons .head (.cons .head (.cons .head (.cons .head (.cons .head (.cons .head (.cons .head .nil)))))))))))) ?_
              refine .cast (X' := UL ({ s with aims := (mset (mset s.aims (partOf r) (behind s.brokers r.to)) (partOf r) m.last), under := some { r with deadline := now + 1 } } : PS) x rb) (rfl) ?_
              refine .perm (.cons (.tail (.tail (.tail (.tail (.tail .head))))) (.cons .head (.cons .head (.cons .head (.cons .head (.cons .head (.cons .head (.cons .head (.cons .head (.cons .head (.cons .head (.cons .head .nil)))))))))))) ?_
              refine .cast (X' := blk pb (PS.cells ({ s with aims := (mset (mset s.aims (partOf r) (behind s.brokers r.to)) (partOf r) m.last), under := some { r with deadline := now + 1 } } : PS) x none 0 0) 60) (by unfold PS.cells; rw [hu]; rfl) ?_
              refine .perm (.cons (.tail (.tail (.tail (.tail (.tail (.tail (.tail (.tail (.tail (.tail .head)))))))))) (.cons .head (.cons .head (.cons .head (.cons .head (.cons .head (.cons .head (.cons .head (.cons .head (.cons .head (.cons .head (.cons .head .nil)))))))))))) ?_
              refine .cast (X' := know (KN ({ s with aims := (mset (mset s.aims (partOf r) (behind s.brokers r.to)) (partOf r) m.last), under := some { r with deadline := now + 1 } } : PS) x cl)) (rfl) ?_
              refine .perm (.cons (.tail (.tail (.tail (.tail (.tail (.tail (.tail (.tail (.tail (.tail .head)))))))))) (.cons .head (.cons .head (.cons .head (.cons .head (.cons .head (.cons .head (.cons .head (.cons .head (.cons .head (.cons .head (.cons .head .nil)))))))))))) ?_
              refine .cast (X' := EL ({ s with aims := (mset (mset s.aims (partOf r) (behind s.brokers r.to)) (partOf r) m.last), under := some { r with deadline := now + 1 } } : PS) x) (rfl) ?_
              refine .perm (.cons (.tail (.tail (.tail (.tail (.tail .head))))) (.cons .head (.cons .head (.cons .head (.cons .head (.cons .head (.cons .head (.cons .head (.cons .head (.cons .head (.cons .head (.cons .head .nil)))))))))))) ?_
              refine .cast (X' := IM x.ab (PS.aims ({ s with aims := (mset (mset s.aims (partOf r) (behind s.brokers r.to)) (partOf r) m.last), under := some { r with deadline := now + 1 } } : PS))) (rfl) ?_
              refine .nilArr 32 21 none ?_
              refine .cast (X' := Said none 0 []) (rfl) ?_
              refine .knowT (SaidK []) (fun w z hz => by cases hz) ?_
              refine .close (X := PR pb ({ s with aims := (mset (mset s.aims (partOf r) (behind s.brokers r.to)) (partOf r) m.last), under := some { r with deadline := now + 1 } } : PS)) (.cons (.tail (.tail (.tail (.tail (.tail .head))))) (.cons (.tail (.tail (.tail (.tail (.tail (.tail .head)))))) (.cons (.tail (.tail (.tail (.tail (.tail (.tail (.tail (.tail .head)))))))) (.cons (.tail (.tail .head)) (.cons (.tail (.tail (.tail (.tail (.tail (.tail (.tail .head))))))) (.cons (.tail (.tail (.tail (.tail (.tail (.tail (.tail .head))))))) (.cons (.tail (.tail (.tail (.tail .head)))) (.cons (.tail (.tail .head)) (.cons (.tail (.tail .head)) .nil))))))))) (fun _ H => ⟨(x, rb, cl), { hW with }, H⟩) ?_
              rw [step_led hu hb.symm h6, hled]
              refine .retP Try.func10 (.cons (.tmp rfl) .nil) (.cons .head (.cons (.tail .head) (.cons .head (.cons (.tail (.tail .head)) .nil)))) ?_
              exact ⟨[_, _, _], ⟨none, 0, [], rfl, rfl, rfl⟩, rfl⟩
          · replace h8 : ¬ 0 ≤ idxOf s.brokers m.last := by simpa using h8
            refine .skip ?_
            refine .seq ?_
            refine .region ?_
            refine .rd (.assign rfl) ?_
            refine .nil ?_
            have hled : led s now r m.last = ({ s with aims := (mset s.aims (partOf r) (behind s.brokers r.to)), under := some { r with deadline := now + s.wait } } : PS) := if_neg fun hm => h8 (idx_in.2 hm)
            refine .close (X := reqR cl (some ({ r with deadline := now + s.wait })) rb) (.cons (.tail (.tail (.tail (.tail .head)))) .nil) (fun _ H => reqR_close hof H) ?_
            refine .perm (.cons (.tail (.tail (.tail (.tail (.tail (.tail (.tail (.tail .head)))))))) (.cons .head (.cons .head (.cons .head (.cons .head (.cons .head (.cons .head (.cons .head (.cons .head (.cons .head (.cons .head (.cons .head .nil)))))))))))) ?_
            refine .cast (X' := UL ({ s with aims := (mset s.aims (partOf r) (behind s.brokers r.to)), under := some { r with deadline := now + s.wait } } : PS) x rb) (rfl) ?_
            refine .perm (.cons (.tail (.tail (.tail (.tail (.tail .head))))) (.cons .head (.cons .head (.cons .head (.cons .head (.cons .head (.cons .head (.cons .head (.cons .head (.cons .head (.cons .head (.cons .head .nil)))))))))))) ?_
            refine .cast (X' := blk pb (PS.cells ({ s with aims := (mset s.aims (partOf r) (behind s.brokers r.to)), under := some { r with deadline := now + s.wait } } : PS) x none 0 0) 60) (by unfold PS.cells; rw [hu]; rfl) ?_
            refine .perm (.cons (.tail (.tail (.tail (.tail (.tail (.tail (.tail (.tail (.tail (.tail .head)))))))))) (.cons .head (.cons .head (.cons .head (.cons .head (.cons .head (.cons .head (.cons .head (.cons .head (.cons .head (.cons .head (.cons .head .nil)))))))))))) ?_
            refine .cast (X' := know (KN ({ s with aims := (mset s.aims (partOf r) (behind s.brokers r.to)), under := some { r with deadline := now + s.wait } } : PS) x cl)) (rfl) ?_
            refine .perm (.cons (.tail (.tail (.tail (.tail (.tail (.tail (.tail (.tail (.tail (.tail .head)))))))))) (.cons .head (.cons .head (.cons .head (.cons .head (.cons .head (.cons .head (.cons .head (.cons .head (.cons .head (.cons .head (.cons .head .nil)))))))))))) ?_
            refine .cast (X' := EL ({ s with aims := (mset s.aims (partOf r) (behind s.brokers r.to)), under := some { r with deadline := now + s.wait } } : PS) x) (rfl) ?_
            refine .perm (.cons (.tail (.tail (.tail (.tail (.tail .head))))) (.cons .head (.cons .head (.cons .head (.cons .head (.cons .head (.cons .head (.cons .head (.cons .head (.cons .head (.cons .head (.cons .head .nil)))))))))))) ?_
            refine .cast (X' := IM x.ab (PS.aims ({ s with aims := (mset s.aims (partOf r) (behind s.brokers r.to)), under := some { r with deadline := now + s.wait } } : PS))) (rfl) ?_
            refine .nilArr 32 21 none ?_
            refine .cast (X' := Said none 0 []) (rfl) ?_
            refine .knowT (SaidK []) (fun w z hz => by cases hz) ?_
            refine .close (X := PR pb ({ s with aims := (mset s.aims (partOf r) (behind s.brokers r.to)), under := some { r with deadline := now + s.wait } } : PS)) (.cons (.tail (.tail (.tail (.tail (.tail .head))))) (.cons (.tail (.tail (.tail (.tail (.tail (.tail .head)))))) (.cons (.tail (.tail (.tail (.tail (.tail (.tail (.tail (.tail .head)))))))) (.cons (.tail (.tail .head)) (.cons (.tail (.tail (.tail (.tail (.tail (.tail (.tail .head))))))) (.cons (.tail (.tail (.tail (.tail (.tail (.tail (.tail .head))))))) (.cons (.tail (.tail (.tail (.tail .head)))) (.cons (.tail (.tail .head)) (.cons (.tail (.tail .head)) .nil))))))))) (fun _ H => ⟨(x, rb, cl), { hW with }, H⟩) ?_
            rw [step_led hu hb.symm h6, hled]
            refine .retP Try.func10 (.cons (.tmp rfl) .nil) (.cons .head (.cons (.tail .head) (.cons .head (.cons (.tail (.tail .head)) .nil)))) ?_
            exact ⟨[_, _, _], ⟨none, 0, [], rfl, rfl, rfl⟩, rfl⟩
      · refine .seq ?_
        refine .seq ?_
        refine .region ?_
        refine .rd (.eqI rfl rfl) ?_
        refine .rd (.assign rfl) ?_
        refine .nil ?_
        refine .joinAt (E' := [(1, .int .i64 now), (3, .pointer (some ⟨b3, 0, none⟩)), (5, .pointer (some ⟨b5, 0, none⟩)), (7, .int .i64 0), (8, .pointer (some ⟨rb, 0, none⟩)), (74, .bool (waits m.err))]) (Γ' := [blk b3 [.pointer (some ⟨pb, 0, none⟩)] 24, blk b5 m.cells 32, blk pb (PS.cells s x none 0 0) 60, blk rb (Req.cells r q) 71, bag CB cl, IM x.ab s.aims, IM x.nb s.next, RowC x cl, arr 69 1 x.ua x.uc [.pointer (some ⟨rb, 0, none⟩)], EL s x, know (KN s x cl), R]) ?_ (fun fin => ?_)
        · refine .cond rfl (fun h100 => ?_) (fun h100 => ?_)
          · refine .seq ?_
            refine .region ?_
            refine .rd (.assign rfl) ?_
            refine .nil ?_
            refine .close (X := reqR cl (some (r)) rb) (.cons (.tail (.tail (.tail .head))) .nil) (fun _ H => reqR_close hof H) ?_
            refine .cast (X' := reqR cl s.under rb) (by first | rfl | rw [hu]) ?_
            refine .perm (.cons (.tail (.tail (.tail (.tail (.tail (.tail (.tail (.tail .head)))))))) (.cons .head (.cons .head (.cons .head (.cons .head (.cons .head (.cons .head (.cons .head (.cons .head (.cons .head (.cons .head (.cons .head .nil)))))))))))) ?_
            refine .cast (X' := UL s x rb) (by unfold UL; rw [hu]; rfl) ?_
            refine .nilArr 32 21 none ?_
            refine .cast (X' := Said none 0 []) (rfl) ?_
            refine .knowT (SaidK []) (fun w z hz => by cases hz) ?_
            refine .close (X := PR pb s) (.cons (.tail (.tail (.tail (.tail (.tail (.tail .head)))))) (.cons (.tail (.tail (.tail .head))) (.cons (.tail (.tail (.tail (.tail (.tail .head))))) (.cons (.tail (.tail (.tail (.tail (.tail .head))))) (.cons (.tail (.tail (.tail (.tail (.tail .head))))) (.cons (.tail (.tail (.tail (.tail (.tail .head))))) (.cons (.tail (.tail .head)) (.cons (.tail (.tail (.tail (.tail .head)))) (.cons (.tail (.tail (.tail (.tail .head)))) .nil))))))))) (fun _ H => ⟨(x, rb, cl), hW, H⟩) ?_
            rw [step_wait hu hb.symm h6 h100]
            refine .retP Try.func10 (.cons (.tmp rfl) .nil) (.cons .head (.cons (.tail .head) (.cons .head (.cons (.tail (.tail .head)) .nil)))) ?_
            exact ⟨[_, _, _], ⟨none, 0, [], rfl, rfl, rfl⟩, rfl⟩
          · have hwt : waits m.err = false := by simpa using h100
            refine .skip ?_
            refine .inBlock ?_
            refine .seq ?_
            refine .draws [0, 1] [blk b3 [.pointer (some ⟨pb, 0, none⟩)] 24] (by kernel_rfl) ?_
            refine .rd 0 rfl rfl (by kernel_rfl) (by kernel_rfl) (by kernel_rfl) (.ld na24 rfl .head rfl) (.cons .head .nil) ?_
            refine .rd 1 rfl rfl (by kernel_rfl) (by kernel_rfl) (by kernel_rfl) (.ld na24 rfl .head rfl) (.cons .head .nil) ?_
            refine .rp 2 rfl (by kernel_rfl) (by kernel_rfl) (by kernel_rfl) (Reads.pure (.nilCheck rfl)) ?_
            refine .rp 3 rfl (by kernel_rfl) (by kernel_rfl) (by kernel_rfl) (Reads.pure (.fieldAddr fd60_10 rfl)) ?_
            refine .rp 5 rfl (by kernel_rfl) (by kernel_rfl) (by kernel_rfl) (Reads.pure (.move rfl)) ?_
            refine .rp 6 rfl (by kernel_rfl) (by kernel_rfl) (by kernel_rfl) (Reads.pure (.move rfl)) ?_
            refine .rp 7 rfl (by kernel_rfl) (by kernel_rfl) (by kernel_rfl) (Reads.pure (.add rfl rfl (by omega) (by omega))) ?_
            refine .rs 4 (by kernel_rfl) rfl (.ld na58 rfl (.tail (.tail .head)) (show (PS.cells s x none 0 0)[10]? = some (.slice x.ua 1 x.uc) by show some (Value.slice x.ua (unders s.under) x.uc) = _; rw [hu]; rfl)) (.inr (.cons .head .nil)) ?_
            refine .ef 8 (by kernel_rfl) rfl (.fn rfl rfl (.cons (.tail (.tail (.tail (.tail (.tail (.tail (.tail (.tail .head)))))))) .nil) (fun _ _ _ => trivial) (delete_ok x.ua x.uc rb)) ?_
            rintro v _ ⟨G1, hq, rfl⟩
            obtain ⟨rfl, rfl⟩ := hq
            simp only [List.cons_append, List.nil_append]
            refine ⟨.inr ⟨_, (.cons (.tail .head) .nil)⟩, ?_⟩
            refine .rp 9 rfl (by kernel_rfl) (by kernel_rfl) (by kernel_rfl) (Reads.pure (.nilCheck rfl)) ?_
            refine .rp 10 rfl (by kernel_rfl) (by kernel_rfl) (by kernel_rfl) (Reads.pure (.fieldAddr fd60_10 rfl)) ?_
            refine .ef0 11 (by kernel_rfl) rfl (.store ts58 rfl rfl (.tail (.tail (.tail .head))) rfl (Nat.le_of_ble_eq_true rfl)) ?_
            rintro _ _ rfl
            refine ⟨.inl (by kernel_rfl), ?_⟩
            refine .done (by kernel_rfl) ?_
            refine .cast (X' := blk pb (PS.cells { s with under := none } x none 0 0) 60) (rfl) ?_
            refine .seq ?_
            refine .seq ?_
            refine .region ?_
            refine .rd (.move rfl) ?_
            refine .rd (.nilCheck rfl) ?_
            refine .rd (.fieldAddr fd71_4 rfl) ?_
            refine .rd (.ld na62 rfl (.tail (.tail (.tail (.tail .head)))) rfl) ?_
            refine .rd (.assign rfl) ?_
            refine .nil ?_
            refine .joinEx (σ := List CallX × Option Addr × Nat) (φ := fun ⟨cl', ea, ec⟩ => SameX cl cl' ∧ PW (ended { s with under := none } r m) cl') (E' := fun ⟨cl', ea, ec⟩ => [(1, .int .i64 now), (3, .pointer (some ⟨b3, 0, none⟩)), (5, .pointer (some ⟨b5, 0, none⟩))]) (Γ' := fun ⟨cl', ea, ec⟩ => [blk b3 [.pointer (some ⟨pb, 0, none⟩)] 24, blk b5 m.cells 32, blk pb (PS.cells (ended { s with under := none } r m) ({ x with ea := ea, ec := ec }) none 0 0) 60, bag CB cl', IM x.ab s.aims, IM x.nb (PS.next (ended { s with under := none } r m)), RowC x cl', arr 69 1 x.ua x.uc [], EL (ended { s with under := none } r m) ({ x with ea := ea, ec := ec }), know (KN s x cl'), R]) (fun sj hj => ?_) (fun fin => ?_)
            · obtain ⟨cl', ea, ec⟩ := sj
              dsimp only at hj ⊢
              obtain ⟨hsx, hPW⟩ := hj
              have hke := ended_keep ({ s with under := none } : PS) r m
              refine .seq ?_
              refine .close (X := reqR cl' (PS.under (ended { s with under := none } r m)) rb) (B := []) .nil (fun _ _ => by rw [hke.2.2]; trivial) ?_
              refine .perm (.cons (.tail (.tail (.tail (.tail (.tail (.tail (.tail (.tail .head)))))))) (.cons .head (.cons .head (.cons .head (.cons .head (.cons .head (.cons .head (.cons .head (.cons .head (.cons .head (.cons .head (.cons .head .nil)))))))))))) ?_
              refine .cast (X' := arr 69 1 x.ua x.uc (ubs (PS.under (ended { s with under := none } r m)) rb)) (by rw [hke.2.2]; rfl) ?_
              refine .perm (.cons (.tail (.tail (.tail (.tail (.tail (.tail .head)))))) (.cons .head (.cons .head (.cons .head (.cons .head (.cons .head (.cons .head (.cons .head (.cons .head (.cons .head (.cons .head (.cons .head .nil)))))))))))) ?_
              refine .cast (X' := IM x.ab (PS.aims (ended { s with under := none } r m))) (by rw [hke.2.1]) ?_
              refine .perm (.cons (.tail (.tail (.tail (.tail (.tail (.tail (.tail (.tail (.tail (.tail .head)))))))))) (.cons .head (.cons .head (.cons .head (.cons .head (.cons .head (.cons .head (.cons .head (.cons .head (.cons .head (.cons .head (.cons .head .nil)))))))))))) ?_
              refine .cast (X' := know (KN (ended { s with under := none } r m) ({ x with ea := ea, ec := ec }) cl')) (by unfold KN; rw [hke.1]) ?_
              refine .nilArr 32 21 none ?_
              refine .cast (X' := Said none 0 []) (rfl) ?_
              refine .knowT (SaidK []) (fun w z hz => by cases hz) ?_
              refine .perm (.cons (.tail (.tail (.tail (.tail (.tail (.tail (.tail (.tail .head)))))))) (.cons .head (.cons .head (.cons .head (.cons .head (.cons .head (.cons .head (.cons .head (.cons .head (.cons .head (.cons .head (.cons .head (.cons .head (.cons .head .nil)))))))))))))) ?_
              refine .cast (X' := blk pb (PS.cells (ended { s with under := none } r m) ({ x with ea := ea, ec := ec }) none ([] : List OutX).length 0) 60) (rfl) ?_
              refine .region ?_
              refine .rd (.ld na24 rfl (.tail (.tail (.tail (.tail (.tail (.tail (.tail .head))))))) rfl) ?_
              refine .rd (.move rfl) ?_
              refine .fn rfl rfl (.cons .head (.cons (.tail (.tail (.tail (.tail (.tail .head))))) (.cons (.tail (.tail (.tail (.tail (.tail (.tail (.tail .head))))))) (.cons (.tail (.tail (.tail .head))) (.cons (.tail (.tail (.tail (.tail (.tail (.tail .head)))))) (.cons (.tail (.tail (.tail (.tail (.tail (.tail .head)))))) (.cons (.tail (.tail (.tail .head))) (.cons (.tail .head) (.cons .head (.cons .head .nil)))))))))) (fun _ _ _ => trivial) (pump_ok pb rb now (ended { s with under := none } r m) ({ x with ea := ea, ec := ec }) cl' [] none 0 (hB2 r hu) hPW hnow (fun _ => ⟨rfl, rfl, rfl⟩)) (fun v G1 hq => ?_)
              obtain ⟨t2, cl2, ua2, uc2, rb2, zs2, oa2, oc2, hsx2, hPW2, ht2, hzs2, rfl⟩ := hq
              simp only [List.cons_append, List.nil_append]
              refine .nil ?_
              refine .seq ?_
              refine .region ?_
              refine .rd (.ld na24 rfl (.tail (.tail (.tail (.tail (.tail (.tail (.tail (.tail (.tail (.tail .head)))))))))) rfl) ?_
              refine .fn rfl rfl (.cons .head .nil) (fun _ _ _ => trivial) (said_ok pb t2 ({ x with ea := ea, ec := ec, ua := ua2, uc := uc2 }) oa2 zs2.length oc2) (fun v G1 hq => ?_)
              obtain ⟨rfl, rfl⟩ := hq
              simp only [List.cons_append, List.nil_append]
              refine .rd (.assign rfl) ?_
              refine .nil ?_
              have hpk := pump_keep (ended { s with under := none } r m) now
              rw [← ht2] at hpk
              refine .perm (.cons (.tail (.tail (.tail .head))) (.cons .head (.cons .head (.cons .head (.cons .head (.cons .head (.cons .head (.cons .head (.cons .head (.cons .head (.cons .head (.cons .head (.cons .head (.cons .head .nil)))))))))))))) ?_
              refine .cast (X' := IM x.ab t2.aims) (by rw [hpk.2.1, (ended_keep _ r m).2.1]) ?_
              refine .perm (.cons (.tail (.tail (.tail (.tail .head)))) (.cons .head (.cons .head (.cons .head (.cons .head (.cons .head (.cons .head (.cons .head (.cons .head (.cons .head (.cons .head (.cons .head (.cons .head (.cons .head .nil)))))))))))))) ?_
              refine .cast (X' := IM x.nb t2.next) (by rw [hpk.2.2.1]) ?_
              refine .perm (.cons (.tail (.tail (.tail (.tail (.tail (.tail (.tail (.tail (.tail (.tail (.tail (.tail .head)))))))))))) (.cons .head (.cons .head (.cons .head (.cons .head (.cons .head (.cons .head (.cons .head (.cons .head (.cons .head (.cons .head (.cons .head (.cons .head (.cons .head .nil)))))))))))))) ?_
              refine .cast (X' := EL t2 ({ x with ea := ea, ec := ec, ua := ua2, uc := uc2 })) (by unfold EL; rw [hpk.2.2.2]) ?_
              refine .perm (.cons (.tail (.tail (.tail (.tail (.tail (.tail .head)))))) (.cons .head (.cons .head (.cons .head (.cons .head (.cons .head (.cons .head (.cons .head (.cons .head (.cons .head (.cons .head (.cons .head (.cons .head (.cons .head .nil)))))))))))))) ?_
              refine .cast (X' := RowC ({ x with ea := ea, ec := ec, ua := ua2, uc := uc2 }) cl2) (by unfold RowC; rw [hsx2.ptrs]) ?_
              refine .knowMono (KN t2 ({ x with ea := ea, ec := ec, ua := ua2, uc := uc2 }) cl2) (.tail (.tail (.tail (.tail (.tail (.tail (.tail (.tail (.tail (.tail .head)))))))))) (fun w h => ⟨hpk.1 ▸ (SameX.kn hsx2 h).1, (SameX.kn hsx2 h).2⟩) ?_
              obtain ⟨X, hX⟩ : ∃ X : PX, X = { x with ea := ea, ec := ec, ua := ua2, uc := uc2 } := ⟨_, rfl⟩
              refine .close (X := PR pb t2) (.cons (.tail (.tail (.tail (.tail (.tail .head))))) (.cons (.tail (.tail (.tail (.tail (.tail .head))))) (.cons (.tail (.tail (.tail (.tail (.tail .head))))) (.cons (.tail (.tail (.tail (.tail .head)))) (.cons (.tail (.tail (.tail .head))) (.cons (.tail .head) (.cons (.tail (.tail .head)) (.cons (.tail .head) (.cons .head .nil))))))))) (fun _ H => ⟨(X, rb2, cl2), hPW2, by rw [hX]; exact H⟩) ?_
              rw [step_end hu hb.symm h6 hwt]
              refine .retP Try.func10 (.cons (.tmp rfl) .nil) (.cons .head (.cons .head (.cons .head (.cons (.tail (.tail .head)) .nil)))) ?_
              exact ⟨[_, _, _], ⟨oa2, oc2, zs2, rfl, by simpa using hzs2, by rw [← ht2]; rfl⟩, rfl⟩
            · refine .block ?_
              refine .seq ?_
              refine .region ?_
              refine .rd (.fieldAddr fd32_15 rfl) ?_
              refine .rd (.ld na3 rfl (.tail (.tail (.tail .head))) rfl) ?_
              refine .rd (.neI rfl rfl) ?_
              refine .rd (.assign rfl) ?_
              refine .nil ?_
              refine .condN rfl (fun h24 => ?_) (fun h24 => ?_)
              · refine .region ?_
                refine .rd (.ld na24 rfl (.tail (.tail .head)) rfl) ?_
                refine .rd (.move rfl) ?_
                refine .rd (.fieldAddr fd32_15 rfl) ?_
                refine .rd (.ld na3 rfl (.tail (.tail (.tail .head))) rfl) ?_
                refine .fn rfl rfl (.cons .head (.cons (.tail (.tail (.tail .head))) (.cons (.tail (.tail (.tail .head))) (.cons (.tail (.tail (.tail (.tail (.tail .head))))) (.cons (.tail (.tail (.tail (.tail (.tail .head))))) (.cons (.tail (.tail (.tail (.tail (.tail .head))))) .nil)))))) (fun _ _ _ => trivial) (ends_ok pb rb { s with under := none } x none 0 0 cl r q m.err hB.idle { hW with } hof) (fun v G1 hq => ?_)
                obtain ⟨cl', ea, ec, hsx, hPW, rfl⟩ := hq
                simp only [List.cons_append, List.nil_append]
                refine .nil ?_
                refine .inBlock ?_
                have hen : (ended { s with under := none } r m) = endsS { s with under := none } r.of m.err := ended_err h24
                refine .perm (.cons (.tail (.tail (.tail .head))) (.cons .head (.cons .head (.cons .head (.cons .head (.cons .head (.cons .head (.cons .head (.cons .head (.cons .head (.cons .head (.cons .head .nil)))))))))))) ?_
                refine .cast (X' := RowC x cl') (by unfold RowC; rw [hsx.ptrs]) ?_
                refine .perm (.cons (.tail (.tail (.tail (.tail (.tail (.tail (.tail (.tail (.tail (.tail .head)))))))))) (.cons .head (.cons .head (.cons .head (.cons .head (.cons .head (.cons .head (.cons .head (.cons .head (.cons .head (.cons .head (.cons .head .nil)))))))))))) ?_
                refine .cast (X' := IM x.nb (PS.next (ended { s with under := none } r m))) (by obtain ⟨f, c, o, e, h⟩ := endsS_keep { s with under := none } r.of m.err; rw [hen, h]) ?_
                refine .perm (.cons (.tail (.tail (.tail (.tail (.tail (.tail .head)))))) (.cons .head (.cons .head (.cons .head (.cons .head (.cons .head (.cons .head (.cons .head (.cons .head (.cons .head (.cons .head (.cons .head .nil)))))))))))) ?_
                refine .cast (X' := know (KN s x cl')) (rfl) ?_
                refine .perm (.cons (.tail (.tail (.tail .head))) (.cons .head (.cons .head (.cons .head (.cons .head (.cons .head (.cons .head (.cons .head (.cons .head (.cons .head (.cons .head (.cons .head .nil)))))))))))) ?_
                refine .cast (X' := blk pb (PS.cells (ended { s with under := none } r m) ({ x with ea := ea, ec := ec }) none 0 0) 60) (by rw [hen]) ?_
                refine .perm (.cons (.tail (.tail (.tail (.tail (.tail (.tail .head)))))) (.cons .head (.cons .head (.cons .head (.cons .head (.cons .head (.cons .head (.cons .head (.cons .head (.cons .head (.cons .head (.cons .head .nil)))))))))))) ?_
                refine .cast (X' := EL (ended { s with under := none } r m) ({ x with ea := ea, ec := ec })) (by rw [hen]; rfl) ?_
                exact fin (cl', ea, ec) ⟨hsx, hen ▸ hPW⟩ (.cons rfl (.cons rfl (.cons rfl .nil))) (.cons (.tail (.tail (.tail (.tail (.tail (.tail (.tail (.tail .head)))))))) (.cons (.tail (.tail (.tail (.tail (.tail (.tail (.tail (.tail .head)))))))) (.cons (.tail .head) (.cons (.tail (.tail (.tail (.tail (.tail .head))))) (.cons (.tail (.tail (.tail (.tail (.tail (.tail .head)))))) (.cons (.tail (.tail .head)) (.cons (.tail (.tail .head)) (.cons (.tail (.tail (.tail .head))) (.cons .head (.cons .head (.cons (.tail .head) .nil)))))))))))
              · refine .seq ?_
                refine .region ?_
                refine .rd (.move rfl) ?_
                refine .rd (.neNilP Try.underlying62 rfl rfl) ?_
                refine .rd (.assign rfl) ?_
                refine .nil ?_
                refine .cond rfl (fun h26 => ?_) (fun h26 => ?_)
                · obtain ⟨i, y, hri, hy, hqa⟩ : ∃ i y, r.of = some i ∧ cl[i]? = some y ∧ q = some y.a := by
                    cases hro : r.of with
                    | none => rw [hro] at hof; simp only [ofAt] at hof; rw [hof] at h26; simp at h26
                    | some i => rw [hro] at hof; obtain ⟨y, h1, h2⟩ := hof; exact ⟨i, y, rfl, h1, h2⟩
                  have hym := List.mem_of_getElem? hy
                  have hcy := hW.at_ hy
                  have hsq := hB.seqs y.c (List.mem_of_getElem? hcy.1)
                  have he0 : m.err = 0 := by simpa using h24
                  refine .alter (t := 9) (v' := .pointer (some ⟨y.a, 0, none⟩)) rfl (by rw [hqa]; rfl) ?_
                  refine .seq ?_
                  refine .draws [0, 3, 7, 11, 15] [blk b3 [.pointer (some ⟨pb, 0, none⟩)] 24, blk pb (PS.cells { s with under := none } x none 0 0) 60, bag CB cl] (by kernel_rfl) ?_
                  refine .rd 0 rfl rfl (by kernel_rfl) (by kernel_rfl) (by kernel_rfl) (.ld na24 rfl .head rfl) (.cons (.tail (.tail .head)) (.cons .head (.cons (.tail (.tail (.tail .head))) .nil))) ?_
                  refine .rp 1 rfl (by kernel_rfl) (by kernel_rfl) (by kernel_rfl) (Reads.pure (.nilCheck rfl)) ?_
                  refine .rp 2 rfl (by kernel_rfl) (by kernel_rfl) (by kernel_rfl) (Reads.pure (.fieldAddr fd60_8 rfl)) ?_
                  refine .rd 3 rfl rfl (by kernel_rfl) (by kernel_rfl) (by kernel_rfl) (.ld na56 rfl (.tail .head) rfl) (.cons (.tail (.tail .head)) (.cons .head (.cons (.tail (.tail (.tail .head))) .nil))) ?_
                  refine .rp 4 rfl (by kernel_rfl) (by kernel_rfl) (by kernel_rfl) (Reads.pure (.move rfl)) ?_
                  refine .rp 5 rfl (by kernel_rfl) (by kernel_rfl) (by kernel_rfl) (Reads.pure (.nilCheck rfl)) ?_
                  refine .rp 6 rfl (by kernel_rfl) (by kernel_rfl) (by kernel_rfl) (Reads.pure (.fieldAddr fd65_1 rfl)) ?_
                  refine .rd 7 rfl rfl (by kernel_rfl) (by kernel_rfl) (by kernel_rfl) (.load na3 rfl (Knows.one (i := 1) (Knows.callx (.tail (.tail .head)) hym) rfl)) (.cons (.tail (.tail .head)) (.cons .head (.cons (.tail (.tail (.tail .head))) .nil))) ?_
                  refine .rp 8 rfl (by kernel_rfl) (by kernel_rfl) (by kernel_rfl) (Reads.pure (.move rfl)) ?_
                  refine .rp 9 rfl (by kernel_rfl) (by kernel_rfl) (by kernel_rfl) (Reads.pure (.nilCheck rfl)) ?_
                  refine .rp 10 rfl (by kernel_rfl) (by kernel_rfl) (by kernel_rfl) (Reads.pure (.fieldAddr fd65_5 rfl)) ?_
                  refine .rd 11 rfl rfl (by kernel_rfl) (by kernel_rfl) (by kernel_rfl) (.load na3 rfl (Knows.one (i := 5) (Knows.callx (.tail (.tail .head)) hym) rfl)) (.cons (.tail (.tail .head)) (.cons .head (.cons (.tail (.tail (.tail .head))) .nil))) ?_
                  refine .rp 12 rfl (by kernel_rfl) (by kernel_rfl) (by kernel_rfl) (Reads.pure (.move rfl)) ?_
                  refine .rp 13 rfl (by kernel_rfl) (by kernel_rfl) (by kernel_rfl) (Reads.pure (.nilCheck rfl)) ?_
                  refine .rp 14 rfl (by kernel_rfl) (by kernel_rfl) (by kernel_rfl) (Reads.pure (.fieldAddr fd65_2 rfl)) ?_
                  refine .rd 15 rfl rfl (by kernel_rfl) (by kernel_rfl) (by kernel_rfl) (.load na33 rfl (Knows.one (i := 2) (Knows.callx (.tail (.tail .head)) hym) rfl)) (.cons (.tail (.tail .head)) (.cons .head (.cons (.tail (.tail (.tail .head))) .nil))) ?_
                  refine .rp 16 rfl (by kernel_rfl) (by kernel_rfl) (by kernel_rfl) (Reads.pure (.lenL rfl rfl Try.underlying33 rfl)) ?_
                  refine .rp 17 rfl (by kernel_rfl) (by kernel_rfl) (by kernel_rfl) (Reads.pure (.add rfl rfl (by show _ ≤ y.c.seq + ((1 : Nat) : Int); omega) (by show y.c.seq + ((1 : Nat) : Int) ≤ _; omega))) ?_
                  refine .ef0 18 (by kernel_rfl) rfl (.mapUpdate (venc := Value.int .i64) (q := 2) (u := y.c.seq + 1) kl3 Try.underlying56 rfl rfl rfl (.tail (.tail (.tail (.tail (.tail (.tail (.tail .head)))))))) ?_
                  rintro _ _ rfl
                  refine ⟨.inl (by kernel_rfl), ?_⟩
                  refine .done (by kernel_rfl) ?_
                  refine .perm (.cons (.tail .head) (.cons .head (.cons .head (.cons .head (.cons .head (.cons .head (.cons .head (.cons .head (.cons .head (.cons .head (.cons .head (.cons .head .nil)))))))))))) ?_
                  refine .cast (X' := blk pb (PS.cells ({ s with under := none, next := mset s.next 2 (y.c.seq + 1) } : PS) x none 0 0) 60) (rfl) ?_
                  refine .takeBag (x := y) (m := cl.eraseIdx i) (.tail (.tail (.tail (.tail (.tail (.tail .head)))))) (perm_out hy) ?_
                  refine .perm (.cons (.tail (.tail (.tail (.tail (.tail (.tail (.tail (.tail (.tail (.tail .head)))))))))) (.cons .head (.cons .head (.cons .head (.cons .head (.cons .head (.cons .head (.cons .head (.cons .head (.cons .head (.cons .head (.cons .head (.cons .head .nil))))))))))))) ?_
                  refine .cast (X' := EL ({ s with under := none, next := mset s.next 2 (y.c.seq + 1) } : PS) x) (rfl) ?_
                  refine .region ?_
                  refine .rd (.ld na24 rfl (.tail (.tail (.tail (.tail (.tail (.tail .head)))))) rfl) ?_
                  refine .rd (.move rfl) ?_
                  refine .rd (.fieldAddr fd32_6 rfl) ?_
                  refine .rd (.ld na3 rfl (.tail (.tail (.tail (.tail (.tail (.tail (.tail .head))))))) rfl) ?_
                  refine .fn rfl rfl (.cons (.tail (.tail (.tail .head))) (.cons (.tail .head) (.cons .head (.cons (.tail (.tail (.tail (.tail (.tail (.tail (.tail (.tail .head)))))))) .nil)))) (fun _ _ _ => trivial) (end_ok pb ({ s with under := none, next := mset s.next 2 (y.c.seq + 1) } : PS) s x x none 0 0 cl i y 0 m.offset { hW with } hy (by have := hB.open_; show _ ≤ s.open_ ∧ s.open_ ≤ _; omega) (by have := hB.ends; show s.ended.length ≤ _; omega)) (fun v G1 hq => ?_)
                  obtain ⟨ea, ec, rfl⟩ := hq
                  simp only [List.cons_append, List.nil_append]
                  refine .nil ?_
                  refine .inBlock ?_
                  have hen : (ended { s with under := none } r m) = endS ({ s with under := none, next := mset s.next 2 (y.c.seq + 1) } : PS) i 0 m.offset := by rw [ended_call he0 hri, show callAt ({ s with under := none } : PS) i = callAt s i from rfl, hcy.2.1]
                  refine .close (X := bag CB (cl.set i y.over)) (B := [CB y.over, bag CB (cl.eraseIdx i)]) (.cons (.tail .head) (.cons (.tail (.tail (.tail .head))) .nil)) (fun _ H => bag.put (perm_in hy) H) ?_
                  have hsx : SameX cl (cl.set i y.over) := SameX.set (z := y.over) (.refl cl) hy rfl
                  have hPW : PW (ended { s with under := none } r m) (cl.set i y.over) := by rw [hen]; exact hW.set (z := y.over) hy rfl _ (by show s.calls.set i { callAt s i with over := true } = _; rw [hcy.2.1]; rfl)
                  refine .knowMono (KN s x (cl.set i y.over)) (.tail (.tail (.tail .head))) (fun w h => SameX.kn hsx h) ?_
                  refine .perm (.cons (.tail (.tail (.tail (.tail (.tail (.tail (.tail (.tail (.tail (.tail .head)))))))))) (.cons .head (.cons .head (.cons .head (.cons .head (.cons .head (.cons .head (.cons .head (.cons .head (.cons .head (.cons .head (.cons .head .nil)))))))))))) ?_
                  refine .cast (X' := RowC x (cl.set i y.over)) (by unfold RowC; rw [hsx.ptrs]) ?_
                  refine .perm (.cons (.tail (.tail (.tail (.tail (.tail .head))))) (.cons .head (.cons .head (.cons .head (.cons .head (.cons .head (.cons .head (.cons .head (.cons .head (.cons .head (.cons .head (.cons .head .nil)))))))))))) ?_
                  refine .cast (X' := IM x.nb (PS.next (ended { s with under := none } r m))) (by rw [hen]; rfl) ?_
                  refine .perm (.cons (.tail (.tail (.tail (.tail .head)))) (.cons .head (.cons .head (.cons .head (.cons .head (.cons .head (.cons .head (.cons .head (.cons .head (.cons .head (.cons .head (.cons .head .nil)))))))))))) ?_
                  refine .cast (X' := blk pb (PS.cells (ended { s with under := none } r m) ({ x with ea := ea, ec := ec }) none 0 0) 60) (by rw [hen]) ?_
                  refine .perm (.cons (.tail (.tail (.tail (.tail (.tail .head))))) (.cons .head (.cons .head (.cons .head (.cons .head (.cons .head (.cons .head (.cons .head (.cons .head (.cons .head (.cons .head (.cons .head .nil)))))))))))) ?_
                  refine .cast (X' := EL (ended { s with under := none } r m) ({ x with ea := ea, ec := ec })) (by rw [hen]; rfl) ?_
                  exact fin ((cl.set i y.over), ea, ec) ⟨hsx, hPW⟩ (.cons rfl (.cons rfl (.cons rfl .nil))) (.cons (.tail (.tail (.tail (.tail (.tail (.tail (.tail .head))))))) (.cons (.tail (.tail (.tail (.tail (.tail (.tail (.tail .head))))))) (.cons (.tail .head) (.cons (.tail (.tail (.tail (.tail .head)))) (.cons (.tail (.tail (.tail (.tail (.tail (.tail .head)))))) (.cons (.tail .head) (.cons (.tail .head) (.cons (.tail (.tail .head)) (.cons .head (.cons .head (.cons (.tail .head) .nil)))))))))))
                · have hqn : q = none := by cases q with | none => rfl | some a => simp at h26
                  have hrn : r.of = none := by have := ofAt_none hof; rw [hqn] at this; cases h : r.of with | none => rfl | some i => rw [h] at this; cases this
                  have he0 : m.err = 0 := by simpa using h24
                  refine .seq ?_
                  refine .seq ?_
                  refine .region ?_
                  refine .rd (.ld na24 rfl (.tail (.tail .head)) rfl) ?_
                  refine .rd (.nilCheck rfl) ?_
                  refine .rd (.fieldAddr fd60_4 rfl) ?_
                  refine .rd (.ld na3 rfl .head rfl) ?_
                  refine .rd (.eqI rfl rfl) ?_
                  refine .nil ?_
                  refine .joinAt (E' := [(1, .int .i64 now), (3, .pointer (some ⟨b3, 0, none⟩)), (5, .pointer (some ⟨b5, 0, none⟩))]) (Γ' := [blk b3 [.pointer (some ⟨pb, 0, none⟩)] 24, blk b5 m.cells 32, blk pb (PS.cells ({ s with under := none, pid := if s.pid = 0 then m.offset else s.pid, epoch := if s.pid = 0 then 0 else m.offset } : PS) x none 0 0) 60, bag CB cl, IM x.ab s.aims, IM x.nb s.next, RowC x cl, arr 69 1 x.ua x.uc [], EL s x, know (KN s x cl), R]) ?_ (fun fin => ?_)
                  · refine .seq ?_
                    refine .region ?_
                    refine .rd (.ld na24 rfl .head rfl) ?_
                    refine .rd (.nilCheck rfl) ?_
                    refine .rd (.fieldAddr fd60_8 rfl) ?_
                    refine .rd (.ld na56 rfl (.tail (.tail .head)) rfl) ?_
                    refine .ef0 (.mapClear rfl rfl Try.underlying56 rfl (.tail (.tail (.tail (.tail (.tail .head)))))) ?_
                    rintro _ _ rfl
                    refine .nil ?_
                    refine .region ?_
                    refine .rd (.ld na24 rfl (.tail .head) rfl) ?_
                    refine .rd (.nilCheck rfl) ?_
                    refine .rd (.fieldAddr fd60_6 rfl) ?_
                    refine .ef0 (.store ts4 rfl rfl (.tail (.tail (.tail .head))) rfl (Nat.le_of_ble_eq_true rfl)) ?_
                    rintro _ _ rfl
                    refine .nil ?_
                    refine .cast (X' := blk pb (PS.cells ({ s with under := none, pid := if s.pid = 0 then m.offset else s.pid, epoch := if s.pid = 0 then 0 else m.offset, next := [], fresh := true } : PS) x none 0 0) 60) (rfl) ?_
                    refine .inBlock ?_
                    have hen : (ended { s with under := none } r m) = ({ s with under := none, pid := if s.pid = 0 then m.offset else s.pid, epoch := if s.pid = 0 then 0 else m.offset, next := [], fresh := true } : PS) := ended_id he0 hrn
                    refine .perm (.cons (.tail .head) (.cons .head (.cons .head (.cons .head (.cons .head (.cons .head (.cons .head (.cons .head (.cons .head (.cons .head (.cons .head .nil))))))))))) ?_
                    refine .cast (X' := IM x.nb (PS.next (ended { s with under := none } r m))) (by rw [hen]; rfl) ?_
                    refine .perm (.cons (.tail .head) (.cons .head (.cons .head (.cons .head (.cons .head (.cons .head (.cons .head (.cons .head (.cons .head (.cons .head (.cons .head .nil))))))))))) ?_
                    refine .cast (X' := blk pb (PS.cells (ended { s with under := none } r m) x none 0 0) 60) (by rw [hen]) ?_
                    refine .perm (.cons (.tail (.tail (.tail (.tail (.tail (.tail (.tail (.tail .head)))))))) (.cons .head (.cons .head (.cons .head (.cons .head (.cons .head (.cons .head (.cons .head (.cons .head (.cons .head (.cons .head .nil))))))))))) ?_
                    refine .cast (X' := EL (ended { s with under := none } r m) x) (by rw [hen]; rfl) ?_
                    exact fin (cl, x.ea, x.ec) ⟨.refl cl, hen ▸ { hW with }⟩ (.cons rfl (.cons rfl (.cons rfl .nil))) (.cons (.tail (.tail (.tail .head))) (.cons (.tail (.tail (.tail .head))) (.cons (.tail .head) (.cons (.tail (.tail .head)) (.cons (.tail (.tail .head)) (.cons (.tail .head) (.cons (.tail .head) (.cons (.tail .head) (.cons .head (.cons .head (.cons .head .nil)))))))))))
                  · refine .condP rfl (fun h19 => ?_) (fun h19 => ?_)
                    · refine .drawsTo [0, 3] [blk b3 [.pointer (some ⟨pb, 0, none⟩)] 24, blk b5 m.cells 32] [(1, .int .i64 now), (3, .pointer (some ⟨b3, 0, none⟩)), (5, .pointer (some ⟨b5, 0, none⟩))] [blk b3 [.pointer (some ⟨pb, 0, none⟩)] 24, blk b5 m.cells 32, blk pb (PS.cells ({ s with under := none, pid := m.offset, epoch := 0 } : PS) x none 0 0) 60, bag CB cl, IM x.ab s.aims, IM x.nb s.next, RowC x cl, arr 69 1 x.ua x.uc [], EL s x, know (KN s x cl), R] (by kernel_rfl) ?_ ?_
                      · refine .rd 0 rfl rfl (by kernel_rfl) (by kernel_rfl) (by kernel_rfl) (.ld na24 rfl .head rfl) (.cons (.tail (.tail .head)) (.cons (.tail (.tail .head)) .nil)) ?_
                        refine .rp 2 rfl (by kernel_rfl) (by kernel_rfl) (by kernel_rfl) (Reads.pure (.fieldAddr fd32_6 rfl)) ?_
                        refine .rd 3 rfl rfl (by kernel_rfl) (by kernel_rfl) (by kernel_rfl) (.ld na3 rfl (.tail .head) rfl) (.cons (.tail (.tail .head)) (.cons (.tail (.tail .head)) .nil)) ?_
                        refine .rp 4 rfl (by kernel_rfl) (by kernel_rfl) (by kernel_rfl) (Reads.pure (.nilCheck rfl)) ?_
                        refine .rp 5 rfl (by kernel_rfl) (by kernel_rfl) (by kernel_rfl) (Reads.pure (.fieldAddr fd60_4 rfl)) ?_
                        refine .all (rs := [1, 6]) (by kernel_rfl) (by simp) (fun i hi => ?_)
                        simp only [List.mem_cons, List.not_mem_nil, or_false] at hi
                        rcases hi with rfl | rfl
                        · refine .rd rfl (.ld na24 rfl (.tail (.tail .head)) rfl) (.cons (.tail (.tail .head)) (.cons (.tail (.tail .head)) .nil)) ?_
                          refine .ef0 6 (by kernel_rfl) rfl (.store ts3 rfl rfl .head rfl (Nat.le_of_ble_eq_true rfl)) ?_
                          rintro _ _ rfl
                          refine ⟨.inl (by kernel_rfl), ?_⟩
                          refine .rp 7 rfl (by kernel_rfl) (by kernel_rfl) (by kernel_rfl) (Reads.pure (.nilCheck rfl)) ?_
                          refine .rp 8 rfl (by kernel_rfl) (by kernel_rfl) (by kernel_rfl) (Reads.pure (.fieldAddr fd60_5 rfl)) ?_
                          refine .ef0 9 (by kernel_rfl) rfl (.store ts3 rfl rfl .head rfl (Nat.le_of_ble_eq_true rfl)) ?_
                          rintro _ _ rfl
                          refine ⟨.inl (by kernel_rfl), ?_⟩
                          exact .done (by kernel_rfl) ⟨(.cons rfl (.cons rfl (.cons rfl .nil))), _, (.cons (.tail (.tail .head)) (.cons (.tail (.tail .head)) (.cons .head (.cons (.tail (.tail .head)) (.cons (.tail (.tail .head)) (.cons (.tail (.tail .head)) (.cons (.tail (.tail .head)) (.cons .head (.cons (.tail .head) (.cons (.tail .head) (.cons (.tail .head) .nil)))))))))))⟩
                        · refine .ef0 rfl (.store ts3 rfl rfl .head rfl (Nat.le_of_ble_eq_true rfl)) ?_
                          rintro _ _ rfl
                          refine ⟨.inl (by kernel_rfl), ?_⟩
                          refine .rs 1 (by kernel_rfl) rfl (.ld na24 rfl (.tail (.tail .head)) rfl) (.inr (.cons (.tail (.tail .head)) (.cons (.tail (.tail .head)) .nil))) ?_
                          refine .rp 7 rfl (by kernel_rfl) (by kernel_rfl) (by kernel_rfl) (Reads.pure (.nilCheck rfl)) ?_
                          refine .rp 8 rfl (by kernel_rfl) (by kernel_rfl) (by kernel_rfl) (Reads.pure (.fieldAddr fd60_5 rfl)) ?_
                          refine .ef0 9 (by kernel_rfl) rfl (.store ts3 rfl rfl .head rfl (Nat.le_of_ble_eq_true rfl)) ?_
                          rintro _ _ rfl
                          refine ⟨.inl (by kernel_rfl), ?_⟩
                          exact .done (by kernel_rfl) ⟨(.cons rfl (.cons rfl (.cons rfl .nil))), _, (.cons (.tail (.tail .head)) (.cons (.tail (.tail .head)) (.cons .head (.cons (.tail (.tail .head)) (.cons (.tail (.tail .head)) (.cons (.tail (.tail .head)) (.cons (.tail (.tail .head)) (.cons .head (.cons (.tail .head) (.cons (.tail .head) (.cons (.tail .head) .nil)))))))))))⟩
                      · refine .perm (.cons (.tail (.tail .head)) (.cons .head (.cons .head (.cons .head (.cons .head (.cons .head (.cons .head (.cons .head (.cons .head (.cons .head (.cons .head .nil))))))))))) ?_
                        refine .cast (X' := blk pb (PS.cells ({ s with under := none, pid := if s.pid = 0 then m.offset else s.pid, epoch := if s.pid = 0 then 0 else m.offset } : PS) x none 0 0) 60) (by first | (simp only [if_pos h19]; done) | (simp only [if_pos h19]; rfl)) ?_
                        exact fin (.cons rfl (.cons rfl (.cons rfl .nil))) (.cons (.tail .head) (.cons (.tail .head) (.cons .head (.cons .head (.cons .head (.cons .head (.cons .head (.cons .head (.cons .head (.cons .head (.cons .head .nil)))))))))))
                    · refine .region ?_
                      refine .rd (.ld na24 rfl (.tail (.tail .head)) rfl) ?_
                      refine .rd (.fieldAddr fd32_6 rfl) ?_
                      refine .rd (.ld na3 rfl (.tail (.tail (.tail .head))) rfl) ?_
                      refine .rd (.nilCheck rfl) ?_
                      refine .rd (.fieldAddr fd60_5 rfl) ?_
                      refine .ef0 (.store ts3 rfl rfl .head rfl (Nat.le_of_ble_eq_true rfl)) ?_
                      rintro _ _ rfl
                      refine .nil ?_
                      refine .cast (X' := blk pb (PS.cells ({ s with under := none, pid := if s.pid = 0 then m.offset else s.pid, epoch := if s.pid = 0 then 0 else m.offset } : PS) x none 0 0) 60) (by first | (simp only [if_neg h19]; done) | (simp only [if_neg h19]; rfl)) ?_
                      exact fin (.cons rfl (.cons rfl (.cons rfl .nil))) (.cons (.tail (.tail .head)) (.cons (.tail (.tail .head)) (.cons .head (.cons (.tail (.tail .head)) (.cons (.tail (.tail .head)) (.cons (.tail (.tail .head)) (.cons (.tail (.tail .head)) (.cons .head (.cons (.tail .head) (.cons (.tail .head) (.cons (.tail .head) .nil)))))))))))
        · refine .condP rfl (fun h11 => ?_) (fun h11 => ?_)
          · refine .skip ?_
            refine .alter (t := 74) (v' := .bool (waits m.err)) rfl (congrArg Value.bool (by unfold waits; simp [h11])) ?_
            exact fin (.cons rfl (.cons rfl (.cons rfl (.cons rfl (.cons rfl (.cons rfl .nil)))))) (.cons (.tail (.tail (.tail (.tail .head)))) (.cons (.tail (.tail (.tail .head))) (.cons (.tail (.tail (.tail .head))) (.cons (.tail .head) (.cons (.tail (.tail .head)) (.cons (.tail (.tail .head)) (.cons (.tail (.tail .head)) (.cons (.tail (.tail .head)) (.cons (.tail .head) (.cons (.tail .head) (.cons (.tail .head) (.cons (.tail .head) .nil))))))))))))
          · refine .seq ?_
            refine .region ?_
            refine .rd (.eqI rfl rfl) ?_
            refine .rd (.assign rfl) ?_
            refine .nil ?_
            refine .condP rfl (fun h12 => ?_) (fun h12 => ?_)
            · refine .skip ?_
              refine .alter (t := 74) (v' := .bool (waits m.err)) rfl (congrArg Value.bool (by unfold waits; simp [h12])) ?_
              exact fin (.cons rfl (.cons rfl (.cons rfl (.cons rfl (.cons rfl (.cons rfl .nil)))))) (.cons (.tail (.tail (.tail (.tail .head)))) (.cons (.tail (.tail (.tail .head))) (.cons (.tail (.tail (.tail .head))) (.cons (.tail .head) (.cons (.tail (.tail .head)) (.cons (.tail (.tail .head)) (.cons (.tail (.tail .head)) (.cons (.tail (.tail .head)) (.cons (.tail .head) (.cons (.tail .head) (.cons (.tail .head) (.cons (.tail .head) .nil))))))))))))
            · refine .seq ?_
              refine .region ?_
              refine .rd (.eqI rfl rfl) ?_
              refine .rd (.assign rfl) ?_
              refine .nil ?_
              refine .condP rfl (fun h13 => ?_) (fun h13 => ?_)
              · refine .skip ?_
                refine .alter (t := 74) (v' := .bool (waits m.err)) rfl (congrArg Value.bool (by unfold waits; simp [h13])) ?_
                exact fin (.cons rfl (.cons rfl (.cons rfl (.cons rfl (.cons rfl (.cons rfl .nil)))))) (.cons (.tail (.tail (.tail (.tail .head)))) (.cons (.tail (.tail (.tail .head))) (.cons (.tail (.tail (.tail .head))) (.cons (.tail .head) (.cons (.tail (.tail .head)) (.cons (.tail (.tail .head)) (.cons (.tail (.tail .head)) (.cons (.tail (.tail .head)) (.cons (.tail .head) (.cons (.tail .head) (.cons (.tail .head) (.cons (.tail .head) .nil))))))))))))
              · refine .seq ?_
                refine .region ?_
                refine .rd (.eqI rfl rfl) ?_
                refine .rd (.assign rfl) ?_
                refine .nil ?_
                refine .condP rfl (fun h14 => ?_) (fun h14 => ?_)
                · refine .skip ?_
                  refine .alter (t := 74) (v' := .bool (waits m.err)) rfl (congrArg Value.bool (by unfold waits; simp [h14])) ?_
                  exact fin (.cons rfl (.cons rfl (.cons rfl (.cons rfl (.cons rfl (.cons rfl .nil)))))) (.cons (.tail (.tail (.tail (.tail .head)))) (.cons (.tail (.tail (.tail .head))) (.cons (.tail (.tail (.tail .head))) (.cons (.tail .head) (.cons (.tail (.tail .head)) (.cons (.tail (.tail .head)) (.cons (.tail (.tail .head)) (.cons (.tail (.tail .head)) (.cons (.tail .head) (.cons (.tail .head) (.cons (.tail .head) (.cons (.tail .head) .nil))))))))))))
                · refine .region ?_
                  refine .rd (.eqI rfl rfl) ?_
                  refine .rd (.assign rfl) ?_
                  refine .nil ?_
                  refine .alter (t := 74) (v' := .bool (waits m.err)) rfl (congrArg Value.bool (by unfold waits; simp [h11, h12, h13, h14])) ?_
                  exact fin (.cons rfl (.cons rfl (.cons rfl (.cons rfl (.cons rfl (.cons rfl .nil)))))) (.cons (.tail (.tail (.tail (.tail .head)))) (.cons (.tail (.tail (.tail .head))) (.cons (.tail (.tail (.tail .head))) (.cons (.tail .head) (.cons (.tail (.tail .head)) (.cons (.tail (.tail .head)) (.cons (.tail (.tail .head)) (.cons (.tail (.tail .head)) (.cons (.tail .head) (.cons (.tail .head) (.cons (.tail .head) (.cons (.tail .head) .nil))))))))))))

end Go.Proofs.Ytlcglmimndkleaa

