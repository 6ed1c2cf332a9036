/- Steps through functions of the program, under conditions that each theorem states (part mod0 of a claim). -/
import Derived.Test.YtahpokcigdjilaaProg
import Derived.Test.YtahpokcigdjilaaL10
import Derived.Test.YtahpokcigdjilaaDefs22
namespace Go.Proofs.Ytahpokcigdjilaa
open Go Go.Sp

set_option linter.unusedVariables false

namespace mod0
theorem ts3 : TS Try.prog 3 1 := .of (by kernel_rfl)
theorem na3 : NotAgg Try.prog 3 := ⟨_, Try.underlying3, trivial⟩
theorem ts80 : TS Try.prog 80 1 := .of (by kernel_rfl)
theorem na80 : NotAgg Try.prog 80 := ⟨_, Try.underlying80, trivial⟩
end mod0
open mod0

/-- The place of the first that is so; -1: none is. -/
def place {α : Type} (f : α → Bool) : List α → Int
  | [] => -1
  | x :: l => if f x then 0 else (if place f l = -1 then -1 else place f l + 1)
theorem place_ge {α : Type} (f : α → Bool) : ∀ l : List α, -1 ≤ place f l
  | [] => by simp [place]
  | x :: l => by have := place_ge f l; unfold place; split <;> (try split) <;> omega
theorem place_any {α : Type} (f : α → Bool) : ∀ l : List α, decide (0 ≤ place f l) = l.any f
  | [] => by simp [place]
  | x :: l => by
    have h1 := place_ge f l
    have h2 := place_any f l
    unfold place
    rw [List.any_cons]
    cases hx : f x with
    | true => simp
    | false =>
      rw [← h2]
      by_cases hp : place f l = -1
      · simp [hp]
      · simp only [Bool.false_eq_true, if_false, hp, Bool.false_or]
        exact decide_eq_decide.2 (by omega)
theorem place_here {α : Type} {f : α → Bool} : ∀ {l : List α} {i : Nat} {x : α}, l[i]? = some x → f x = true → (∀ y ∈ l.take i, f y = false) → place f l = i
  | [], _, _, h, _, _ => by simp at h
  | y :: l, 0, x, h, hx, _ => by simp at h; subst h; simp [place, hx]
  | y :: l, i + 1, x, h, hx, ha => by
    have hy : f y = false := ha y (by simp)
    have := place_here (l := l) (i := i) (x := x) (by simpa using h) hx (fun z hz => ha z (by simp [hz]))
    unfold place
    rw [hy, this]
    simp
theorem place_none {α : Type} {f : α → Bool} : ∀ {l : List α}, (∀ y ∈ l, f y = false) → place f l = -1
  | [], _ => rfl
  | y :: l, h => by
    unfold place
    rw [h y (by simp), place_none fun z hz => h z (by simp [hz])]
    simp
theorem all_take {α : Type} {p : α → Prop} {l : List α} {j : Nat} {x : α} (h : l[j]? = some x) (hx : p x) (hj : ∀ y ∈ l.take j, p y) : ∀ y ∈ l.take (j + 1), p y := by
  rw [List.take_add_one, h]
  intro y hy
  rcases List.mem_append.1 hy with hy | hy
  · exact hj y hy
  · simp at hy; exact hy ▸ hx
theorem any_mem (l : List Int) (x : Int) : l.any (fun y => decide (x = y)) = decide (x ∈ l) := by
  rw [Bool.eq_iff_iff, List.any_eq_true]; simp
theorem place_mem (l : List Int) (z : Int) : decide (0 ≤ place (fun y => decide (z = y)) l) = decide (z ∈ l) := by rw [place_any, any_mem]

set_option maxRecDepth 20000 in
theorem Index_ok (a : Option Addr) (c : Nat) (l : List Int) (z : Int) (hl : l.length ≤ 17592186044416) : Cn Try.prog 30 [.slice a l.length c, .int .i64 z] (fun w => RowAt a (l.flatMap icell) w) [] fun v G => v = .int .i64 (place (fun y => decide (z = y)) l) ∧ G = [] := by
  refine .enter Try.func30 rfl (by kernel_rfl) rfl fun R k => ?_
  refine .seq ?_
  refine .region ?_   -- R0 slices.go:96
  refine .rd (.assign rfl) ?_
  refine .nil ?_
  refine .seq ?_
  refine .seq ?_
  refine .region ?_   -- R1 slices.go:97
  refine .rd (.move rfl) ?_
  refine .rd (.lenL rfl rfl Try.underlying40 rfl) ?_
  refine .rd (.move rfl) ?_
  refine .nil ?_
  refine .block ?_
  refine .loop (σ := Nat) (fun i => i ≤ l.length ∧ ∀ y ∈ l.take i, (fun y => decide (z = y)) y = false) (fun i => l.length - i) (fun i => [(0, .slice a l.length c), (1, .int .i64 z), (7, .int .i64 l.length), (8, .int .i64 (i : Nat))]) (fun i => [R]) 0 ⟨Nat.zero_le _, by simp⟩ (.cons rfl (.cons rfl (.cons rfl (.cons rfl .nil)))) (.cons .head .nil) (fun i hI ih => ?_)
  refine .seq ?_
  refine .region ?_   -- R2 slices.go:97
  refine .rd (.lt rfl rfl) ?_
  refine .nil ?_
  refine .seq ?_
  refine .condP rfl (fun h2 => ?_) (fun h2 => ?_)
  · refine .skip ?_
    refine .seq ?_
    refine .block ?_
    refine .seq ?_
    refine .region ?_   -- R3 slices.go:97
    refine .rd (.move rfl) ?_
    refine .rd (.assign rfl) ?_
    refine .nil ?_
    refine .seq ?_
    have hil := hI.1
    obtain ⟨x, hx⟩ : ∃ x, l[i]? = some x := ⟨_, List.getElem?_eq_getElem (show i < l.length by omega)⟩
    refine .tell (φ := ∃ b o, a = some ⟨b, o, none⟩) (Knows.pick .head (k.mono fun _ h => RowAt.addr h (by rw [flat_length icell_len]; omega))) (fun hh => ?_)
    obtain ⟨bb, oo, rfl⟩ := hh
    refine .region ?_   -- R4 slices.go:98
    refine .rd (.move rfl) ?_
    refine .rd (.move rfl) ?_
    refine .rd (.move rfl) ?_
    refine .rd (.indexAddr Try.underlying40 ts3 rfl rfl (by omega) (by omega)) ?_
    refine .rd (.load na3 rfl (Knows.elem (f := icell) icell_len (by decide) (Knows.pick .head (k.mono fun _ h => h)) hx)) ?_
    refine .rd (.eqI rfl rfl) ?_
    refine .nil ?_
    refine .condP rfl (fun h4 => ?_) (fun h4 => ?_)
    · refine .seq ?_
      refine .region ?_   -- R5 slices.go:99
      refine .rd (.move rfl) ?_
      refine .rd (.assign rfl) ?_
      refine .nil ?_
      rw [place_here hx (by simpa using h4) (fun y hy => hI.2 y hy)]
      refine .retP Try.func30 (.cons (.tmp rfl) .nil) (.cons .head .nil) ?_
      exact ⟨[], ⟨rfl, rfl⟩, rfl⟩
    · refine .skip ?_
      refine .inBlock ?_
      refine .region ?_   -- R6 slices.go:97
      refine .rd (.add rfl rfl (by omega) (by omega)) ?_
      refine .rd (.move rfl) ?_
      refine .nil ?_
      exact (ih (i + 1) ⟨by omega, all_take (p := fun y => (fun y => decide (z = y)) y = false) hx (by simpa using h4) hI.2⟩ (by omega)).to (.cons rfl (.cons rfl (.cons rfl (.cons rfl .nil)))) (.cons .head .nil)
  · refine .exit rfl ?_
    refine .seq ?_
    refine .region ?_   -- R7 slices.go:102
    refine .rd (.assign rfl) ?_
    refine .nil ?_
    have hii : i = l.length := by have := hI.1; omega
    rw [place_none (l := l) (f := (fun y => decide (z = y))) (fun y hy => hI.2 y (by rw [hii, List.take_length]; exact hy))]
    refine .retP Try.func30 (.cons (.tmp rfl) .nil) (.cons .head .nil) ?_
    exact ⟨[], ⟨rfl, rfl⟩, rfl⟩

set_option maxRecDepth 20000 in
theorem Contains_ok (a : Option Addr) (c : Nat) (l : List Int) (z : Int) (hl : l.length ≤ 17592186044416) : Cn Try.prog 16 [.slice a l.length c, .int .i64 z] (fun w => RowAt a (l.flatMap icell) w) [] fun v G => v = .bool (decide (z ∈ l)) ∧ G = [] := by
  refine .enter Try.func16 rfl (by kernel_rfl) rfl fun R k => ?_
  refine .seq ?_
  refine .region ?_   -- R0 slices.go:117
  refine .rd (.assign rfl) ?_
  refine .nil ?_
  refine .seq ?_
  refine .region ?_   -- R1 slices.go:118
  refine .rd (.move rfl) ?_
  refine .rd (.move rfl) ?_
  refine .fn rfl rfl .nil (Knows.pick .head k) (Index_ok a c l z hl) (fun v G1 hq => ?_)
  obtain ⟨rfl, rfl⟩ := hq
  simp only [List.nil_append]
  refine .rd (.ge rfl rfl) ?_
  refine .rd (.assign rfl) ?_
  refine .nil ?_
  refine .retP Try.func16 (.cons (.tmp rfl) .nil) (.cons .head .nil) ?_
  exact ⟨[], ⟨by simp only [resVal]; rw [← place_mem], rfl⟩, rfl⟩

set_option maxRecDepth 20000 in
theorem IndexFunc_ok (a : Option Addr) (c : Nat) (l : List Nat) (f : FuncId) (cap : Array Value) (pred : Nat → Bool) (φ : World → Prop) (hf : ∀ b ∈ l, Cn Try.prog f (ptrV b :: cap.toList) φ [] fun v G => v = .bool (pred b) ∧ G = []) (hl : l.length ≤ 17592186044416) : Cn Try.prog 48 [.slice a l.length c, .func (.func f) #[] cap] (fun w => RowAt a (l.flatMap pcell) w ∧ φ w) [] fun v G => v = .int .i64 (place pred l) ∧ G = [] := by
  refine .enter Try.func48 rfl (by kernel_rfl) rfl fun R k => ?_
  refine .seq ?_
  refine .region ?_   -- R0 slices.go:107
  refine .rd (.assign rfl) ?_
  refine .nil ?_
  refine .seq ?_
  refine .seq ?_
  refine .region ?_   -- R1 slices.go:108
  refine .rd (.move rfl) ?_
  refine .rd (.lenL rfl rfl Try.underlying83 rfl) ?_
  refine .rd (.move rfl) ?_
  refine .nil ?_
  refine .block ?_
  refine .loop (σ := Nat) (fun i => i ≤ l.length ∧ ∀ y ∈ l.take i, pred y = false) (fun i => l.length - i) (fun i => [(0, .slice a l.length c), (1, .func (.func f) #[] cap), (7, .int .i64 l.length), (8, .int .i64 (i : Nat))]) (fun i => [R]) 0 ⟨Nat.zero_le _, by simp⟩ (.cons rfl (.cons rfl (.cons rfl (.cons rfl .nil)))) (.cons .head .nil) (fun i hI ih => ?_)
  refine .seq ?_
  refine .region ?_   -- R2 slices.go:108
  refine .rd (.lt rfl rfl) ?_
  refine .nil ?_
  refine .seq ?_
  refine .condP rfl (fun h2 => ?_) (fun h2 => ?_)
  · refine .skip ?_
    refine .seq ?_
    refine .block ?_
    refine .seq ?_
    refine .region ?_   -- R3 slices.go:108
    refine .rd (.move rfl) ?_
    refine .rd (.assign rfl) ?_
    refine .nil ?_
    refine .seq ?_
    have hil := hI.1
    obtain ⟨x, hx⟩ : ∃ x, l[i]? = some x := ⟨_, List.getElem?_eq_getElem (show i < l.length by omega)⟩
    refine .tell (φ := ∃ b o, a = some ⟨b, o, none⟩) (Knows.pick .head (k.mono fun _ h => RowAt.addr h.1 (by rw [flat_length pcell_len]; omega))) (fun hh => ?_)
    obtain ⟨bb, oo, rfl⟩ := hh
    refine .region ?_   -- R4 slices.go:109
    refine .rd (.move rfl) ?_
    refine .rd (.move rfl) ?_
    refine .rd (.move rfl) ?_
    refine .rd (.indexAddr Try.underlying83 ts80 rfl rfl (by omega) (by omega)) ?_
    refine .rd (.load na80 rfl (Knows.elem (f := pcell) pcell_len (by decide) (Knows.pick .head (k.mono fun _ h => h.1)) hx)) ?_
    refine .fnC rfl rfl .nil (Knows.pick .head (k.mono fun _ h => h.2)) (hf x (List.mem_of_getElem? hx)) (fun v G1 hq => ?_)
    obtain ⟨rfl, rfl⟩ := hq
    simp only [List.nil_append]
    refine .nil ?_
    refine .cond rfl (fun h4 => ?_) (fun h4 => ?_)
    · refine .seq ?_
      refine .region ?_   -- R5 slices.go:110
      refine .rd (.move rfl) ?_
      refine .rd (.assign rfl) ?_
      refine .nil ?_
      rw [place_here hx (by first | exact h4 | simpa using h4) (fun y hy => hI.2 y hy)]
      refine .retP Try.func48 (.cons (.tmp rfl) .nil) (.cons .head .nil) ?_
      exact ⟨[], ⟨rfl, rfl⟩, rfl⟩
    · refine .skip ?_
      refine .inBlock ?_
      refine .region ?_   -- R6 slices.go:108
      refine .rd (.add rfl rfl (by omega) (by omega)) ?_
      refine .rd (.move rfl) ?_
      refine .nil ?_
      exact (ih (i + 1) ⟨by omega, all_take (p := fun y => pred y = false) hx (by simpa using h4) hI.2⟩ (by omega)).to (.cons rfl (.cons rfl (.cons rfl (.cons rfl .nil)))) (.cons .head .nil)
  · refine .exit rfl ?_
    refine .seq ?_
    refine .region ?_   -- R7 slices.go:113
    refine .rd (.assign rfl) ?_
    refine .nil ?_
    have hii : i = l.length := by have := hI.1; omega
    rw [place_none (l := l) (f := pred) (fun y hy => hI.2 y (by rw [hii, List.take_length]; exact hy))]
    refine .retP Try.func48 (.cons (.tmp rfl) .nil) (.cons .head .nil) ?_
    exact ⟨[], ⟨rfl, rfl⟩, rfl⟩

set_option maxRecDepth 20000 in
theorem ContainsFunc_ok (a : Option Addr) (c : Nat) (l : List Nat) (f : FuncId) (cap : Array Value) (pred : Nat → Bool) (φ : World → Prop) (hf : ∀ b ∈ l, Cn Try.prog f (ptrV b :: cap.toList) φ [] fun v G => v = .bool (pred b) ∧ G = []) (hl : l.length ≤ 17592186044416) : Cn Try.prog 36 [.slice a l.length c, .func (.func f) #[] cap] (fun w => RowAt a (l.flatMap pcell) w ∧ φ w) [] fun v G => v = .bool (l.any pred) ∧ G = [] := by
  refine .enter Try.func36 rfl (by kernel_rfl) rfl fun R k => ?_
  refine .seq ?_
  refine .region ?_   -- R0 slices.go:124
  refine .rd (.assign rfl) ?_
  refine .nil ?_
  refine .seq ?_
  refine .region ?_   -- R1 slices.go:125
  refine .rd (.move rfl) ?_
  refine .rd (.move rfl) ?_
  refine .fn rfl rfl .nil (Knows.pick .head k) (IndexFunc_ok a c l f cap pred φ hf hl) (fun v G1 hq => ?_)
  obtain ⟨rfl, rfl⟩ := hq
  simp only [List.nil_append]
  refine .rd (.ge rfl rfl) ?_
  refine .rd (.assign rfl) ?_
  refine .nil ?_
  refine .retP Try.func36 (.cons (.tmp rfl) .nil) (.cons .head .nil) ?_
  exact ⟨[], ⟨by simp only [resVal]; rw [← place_any], rfl⟩, rfl⟩

end Go.Proofs.Ytahpokcigdjilaa

