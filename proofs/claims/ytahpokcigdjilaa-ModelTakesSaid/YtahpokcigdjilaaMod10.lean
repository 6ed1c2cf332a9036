/- Steps through functions of the program, under conditions that each theorem states (part mod10 of a claim). -/
import Derived.Test.YtahpokcigdjilaaProg
import Derived.Test.YtahpokcigdjilaaDefs22e
namespace Go.Proofs.Ytahpokcigdjilaa
open Go Go.Sp

set_option linter.unusedVariables false

namespace mod10
theorem ts3 : TS Try.prog 3 1 := .of (by kernel_rfl)
theorem na3 : NotAgg Try.prog 3 := ⟨_, Try.underlying3, trivial⟩
theorem na40 : NotAgg Try.prog 40 := ⟨_, Try.underlying40, trivial⟩
theorem fd64_5 : FD Try.prog 64 5 5 := .of Try.underlying64 (by kernel_rfl)
theorem fd64_6 : FD Try.prog 64 6 6 := .of Try.underlying64 (by kernel_rfl)
theorem ti3 : TI Try.prog 3 1 8 (.int .i64 0) := .of (by kernel_rfl)
end mod10
open mod10



set_option maxRecDepth 20000 in
theorem IndexFuncI_ok (a : Option Addr) (c : Nat) (l : List Int) (f : FuncId) (cap : Array Value) (pred : Int → Bool) (φ : World → Prop) (hf : ∀ b ∈ l, Cn Try.prog f (.int .i64 b :: cap.toList) φ [] fun v G => v = .bool (pred b) ∧ G = []) (hl : l.length ≤ 17592186044416) : Cn Try.prog 45 [.slice a l.length c, .func (.func f) #[] cap] (fun w => RowAt a (l.flatMap icell) w ∧ φ w) [] fun v G => v = .int .i64 (place pred l) ∧ G = [] := by
  refine .enter Try.func45 rfl (by kernel_rfl) rfl fun R k => ?_
  refine .seq ?_
  refine .region ?_   -- R0 slices.go:107
  refine .rd (.assign rfl) ?_
  refine .nil ?_
  refine .seq ?_
  refine .seq ?_
  refine .region ?_   -- R1 slices.go:108
  refine .rd (.move rfl) ?_
  refine .rd (.lenL rfl rfl Try.underlying40 rfl) ?_
  refine .rd (.move rfl) ?_
  refine .nil ?_
  refine .block ?_
  refine .loop (σ := Nat) (fun i => i ≤ l.length ∧ ∀ y ∈ l.take i, pred y = false) (fun i => l.length - i) (fun i => [(0, .slice a l.length c), (1, .func (.func f) #[] cap), (7, .int .i64 l.length), (8, .int .i64 (i : Nat))]) (fun i => [R]) 0 ⟨Nat.zero_le _, by simp⟩ (.cons rfl (.cons rfl (.cons rfl (.cons rfl .nil)))) (.cons .head .nil) (fun i hI ih => ?_)
  refine .seq ?_
  refine .region ?_   -- R2 slices.go:108
  refine .rd (.lt rfl rfl) ?_
  refine .nil ?_
  refine .seq ?_
  refine .condP rfl (fun h2 => ?_) (fun h2 => ?_)
  · refine .skip ?_
    refine .seq ?_
    refine .block ?_
    refine .seq ?_
    refine .region ?_   -- R3 slices.go:108
    refine .rd (.move rfl) ?_
    refine .rd (.assign rfl) ?_
    refine .nil ?_
    refine .seq ?_
    have hil := hI.1
    obtain ⟨x, hx⟩ : ∃ x, l[i]? = some x := ⟨_, List.getElem?_eq_getElem (show i < l.length by omega)⟩
    refine .tell (φ := ∃ b o, a = some ⟨b, o, none⟩) (Knows.pick .head (k.mono fun _ h => RowAt.addr h.1 (by rw [flat_length icell_len]; omega))) (fun hh => ?_)
    obtain ⟨bb, oo, rfl⟩ := hh
    refine .region ?_   -- R4 slices.go:109
    refine .rd (.move rfl) ?_
    refine .rd (.move rfl) ?_
    refine .rd (.move rfl) ?_
    refine .rd (.indexAddr Try.underlying40 ts3 rfl rfl (by omega) (by omega)) ?_
    refine .rd (.load na3 rfl (Knows.elem (f := icell) icell_len (by decide) (Knows.pick .head (k.mono fun _ h => h.1)) hx)) ?_
    refine .fnC rfl rfl .nil (Knows.pick .head (k.mono fun _ h => h.2)) (hf x (List.mem_of_getElem? hx)) (fun v G1 hq => ?_)
    obtain ⟨rfl, rfl⟩ := hq
    simp only [List.nil_append]
    refine .nil ?_
    refine .cond rfl (fun h4 => ?_) (fun h4 => ?_)
    · refine .seq ?_
      refine .region ?_   -- R5 slices.go:110
      refine .rd (.move rfl) ?_
      refine .rd (.assign rfl) ?_
      refine .nil ?_
      rw [place_here hx h4 (fun y hy => hI.2 y hy)]
      refine .retP Try.func45 (.cons (.tmp rfl) .nil) (.cons .head .nil) ?_
      exact ⟨[], ⟨rfl, rfl⟩, rfl⟩
    · refine .skip ?_
      refine .inBlock ?_
      refine .region ?_   -- R6 slices.go:108
      refine .rd (.add rfl rfl (by omega) (by omega)) ?_
      refine .rd (.move rfl) ?_
      refine .nil ?_
      exact (ih (i + 1) ⟨by omega, all_take (p := fun y => pred y = false) hx (by simpa using h4) hI.2⟩ (by omega)).to (.cons rfl (.cons rfl (.cons rfl (.cons rfl .nil)))) (.cons .head .nil)
  · refine .exit rfl ?_
    refine .seq ?_
    refine .region ?_   -- R7 slices.go:113
    refine .rd (.assign rfl) ?_
    refine .nil ?_
    have hii : i = l.length := by have := hI.1; omega
    rw [place_none (l := l) (f := pred) (fun y hy => hI.2 y (by rw [hii, List.take_length]; exact hy))]
    refine .retP Try.func45 (.cons (.tmp rfl) .nil) (.cons .head .nil) ?_
    exact ⟨[], ⟨rfl, rfl⟩, rfl⟩

set_option maxRecDepth 20000 in
theorem ContainsFuncI_ok (a : Option Addr) (c : Nat) (l : List Int) (f : FuncId) (cap : Array Value) (pred : Int → Bool) (φ : World → Prop) (hf : ∀ b ∈ l, Cn Try.prog f (.int .i64 b :: cap.toList) φ [] fun v G => v = .bool (pred b) ∧ G = []) (hl : l.length ≤ 17592186044416) : Cn Try.prog 46 [.slice a l.length c, .func (.func f) #[] cap] (fun w => RowAt a (l.flatMap icell) w ∧ φ w) [] fun v G => v = .bool (l.any pred) ∧ G = [] := by
  refine .enter Try.func46 rfl (by kernel_rfl) rfl fun R k => ?_
  refine .seq ?_
  refine .region ?_   -- R0 slices.go:124
  refine .rd (.assign rfl) ?_
  refine .nil ?_
  refine .seq ?_
  refine .region ?_   -- R1 slices.go:125
  refine .rd (.move rfl) ?_
  refine .rd (.move rfl) ?_
  refine .fn rfl rfl .nil (Knows.pick .head k) (IndexFuncI_ok a c l f cap pred φ hf hl) (fun v G1 hq => ?_)
  obtain ⟨rfl, rfl⟩ := hq
  simp only [List.nil_append]
  refine .rd (.ge rfl rfl) ?_
  refine .rd (.assign rfl) ?_
  refine .nil ?_
  refine .retP Try.func46 (.cons (.tmp rfl) .nil) (.cons .head .nil) ?_
  exact ⟨[], ⟨by simp only [resVal]; rw [← place_any], rfl⟩, rfl⟩

set_option maxRecDepth 20000 in
theorem isin_ok (x : Int) (mb : Nat) (a : Option Addr) (c : Nat) (m : List Int) (hm : m.length ≤ 17592186044416) : Cn Try.prog 47 [.int .i64 x, ptrV mb] (fun w => CellsAt mb 0 [.slice a m.length c] w ∧ RowAt a (m.flatMap icell) w) [] fun v G => v = .bool (!decide (x ∈ m)) ∧ G = [] := by
  refine .enter Try.func47 rfl (by kernel_rfl) rfl fun R k => ?_
  refine .seq ?_
  refine .region ?_   -- R0 model.go:210
  refine .rd (.assign rfl) ?_
  refine .nil ?_
  refine .seq ?_
  refine .region ?_   -- R1 model.go:210
  refine .rd (.load na40 rfl (Knows.pick .head (k.mono fun _ h => h.1))) ?_
  refine .rd (.move rfl) ?_
  refine .fn rfl rfl .nil (Knows.pick .head (k.mono fun _ h => h.2)) (Contains_ok a c m x hm) (fun v G1 hq => ?_)
  obtain ⟨rfl, rfl⟩ := hq
  simp only [List.nil_append]
  refine .rd (.not rfl) ?_
  refine .rd (.assign rfl) ?_
  refine .nil ?_
  refine .retP Try.func47 (.cons (.tmp rfl) .nil) (.cons .head .nil) ?_
  exact ⟨[], ⟨rfl, rfl⟩, rfl⟩

set_option maxRecDepth 20000 in
theorem within_ok (a : Option Addr) (c : Nat) (l : List Int) (a2 : Option Addr) (c2 : Nat) (m : List Int) (hl : l.length ≤ 17592186044416) (hm : m.length ≤ 17592186044416) : Cn Try.prog 34 [.slice a l.length c, .slice a2 m.length c2] (fun w => RowAt a (l.flatMap icell) w ∧ RowAt a2 (m.flatMap icell) w) [] fun v G => v = .bool (withinP l m) ∧ G = [] := by
  refine .enter Try.func34 rfl (by kernel_rfl) rfl fun R k => ?_
  refine .seq ?_
  refine .region ?_   -- R0 model.go:209
  refine .ef (.box (l := [.slice a2 m.length c2]) rfl rfl (ones.of rfl)) ?_
  rintro _ _ ⟨b3, rfl, rfl⟩
  refine .rd (.assign rfl) ?_
  refine .nil ?_
  refine .seq ?_
  refine .region ?_   -- R1 model.go:210
  refine .rd (.move rfl) ?_
  refine .rd (.makeFunc rfl rfl) ?_
  refine .fn rfl rfl .nil (fun A w h => ⟨((Knows.pick (.tail .head) k) A w h).1, (Knows.blk .head) A w h, ((Knows.pick (.tail .head) k) A w h).2⟩) (ContainsFuncI_ok a c l 47 #[ptrV b3] (fun x => !decide (x ∈ m)) (fun w => CellsAt b3 0 [.slice a2 m.length c2] w ∧ RowAt a2 (m.flatMap icell) w) (fun x _ => isin_ok x b3 a2 c2 m hm) hl) (fun v G1 hq => ?_)
  obtain ⟨rfl, rfl⟩ := hq
  simp only [List.nil_append]
  refine .rd (.not rfl) ?_
  refine .rd (.assign rfl) ?_
  refine .nil ?_
  refine .retP Try.func34 (.cons (.tmp rfl) .nil) (.cons (.tail .head) .nil) ?_
  exact ⟨[], ⟨rfl, rfl⟩, rfl⟩

set_option maxRecDepth 20000 in
theorem still_ok (x : Int) (p q : Pt) (qb pb : Nat) (hp : p.ok) (hq_ : q.ok) : Cn Try.prog 33 [.int .i64 x, ptrV qb, ptrV pb] (fun w => CellsAt qb 0 q.cells w ∧ q.at_ w ∧ CellsAt pb 0 p.cells w ∧ p.at_ w) [] fun v G => v = .bool (stillP p q x) ∧ G = [] := by
  refine .enter Try.func33 rfl (by kernel_rfl) rfl fun R k => ?_
  refine .seq ?_
  refine .region ?_   -- R0 model.go:224
  refine .rd (.assign rfl) ?_
  refine .nil ?_
  refine .seq ?_
  refine .region ?_   -- R1 model.go:225
  refine .rd (.fieldAddr fd64_5 rfl) ?_
  refine .rd (.load na40 rfl (Knows.pick .head (k.mono fun _ h => CellsAt.one (h.1) (i := 5) rfl))) ?_
  refine .rd (.move rfl) ?_
  refine .fn rfl rfl .nil (Knows.pick .head (k.mono fun _ h => h.2.1.2.1)) (Contains_ok q.replicas.1 q.replicas.2.1 q.replicas.2.2 x hq_.replicas) (fun v G1 hq => ?_)
  obtain ⟨rfl, rfl⟩ := hq
  simp only [List.nil_append]
  refine .rd (.move rfl) ?_
  refine .split (t := 9) rfl (fun g1_4 => ?_) (fun g1_4 => ?_)
  · refine .off (t := 9) rfl rfl rfl ?_
    refine .off (t := 9) rfl rfl rfl ?_
    refine .off (t := 9) rfl rfl rfl ?_
    refine .off (t := 9) rfl rfl rfl ?_
    refine .rd (.pickT rfl rfl) ?_
    refine .rd (.assign rfl) ?_
    refine .nil ?_
    have hv : stillP p q x = true := by unfold stillP; rw [g1_4]; rfl
    rw [hv]
    refine .retP Try.func33 (.cons (.tmp rfl) .nil) (.cons .head .nil) ?_
    exact ⟨[], ⟨rfl, rfl⟩, rfl⟩
  · refine .on (t := 9) rfl rfl ?_
    refine .rd (.fieldAddr fd64_6 rfl) ?_
    refine .on (t := 9) rfl rfl ?_
    refine .rd (.load na40 rfl (Knows.pick .head (k.mono fun _ h => CellsAt.one (h.2.2.1) (i := 6) rfl))) ?_
    refine .on (t := 9) rfl rfl ?_
    refine .rd (.move rfl) ?_
    refine .on (t := 9) rfl rfl ?_
    refine .fn rfl rfl .nil (Knows.pick .head (k.mono fun _ h => h.2.2.2.2.2)) (Contains_ok p.adding.1 p.adding.2.1 p.adding.2.2 x hp.adding) (fun v G1 hq => ?_)
    obtain ⟨rfl, rfl⟩ := hq
    simp only [List.nil_append]
    refine .rd (.pickF rfl rfl) ?_
    refine .rd (.assign rfl) ?_
    refine .nil ?_
    have hv : stillP p q x = decide (x ∈ p.adding.2.2) := by unfold stillP; rw [g1_4]; rfl
    rw [hv]
    refine .retP Try.func33 (.cons (.tmp rfl) .nil) (.cons .head .nil) ?_
    exact ⟨[], ⟨rfl, rfl⟩, rfl⟩

set_option maxRecDepth 20000 in
theorem CloneI_ok (a : Option Addr) (c : Nat) (l : List Int) (hl : l.length ≤ 17592186044416) (hnil : a = none → l = []) : Cn Try.prog 32 [.slice a l.length c] (RowAt a (l.flatMap icell)) [] fun v G => ∃ a' c', v = .slice a' l.length c' ∧ G = [arr 3 1 a' c' (l.flatMap icell)] := by
  refine .enter Try.func32 rfl (by kernel_rfl) rfl fun R k => ?_
  refine .seq ?_
  refine .region ?_   -- R0 slices.go:355
  refine .rd (.assign rfl) ?_
  refine .nil ?_
  refine .seq ?_
  refine .seq ?_
  refine .region ?_   -- R1 slices.go:357
  refine .rd (.move rfl) ?_
  refine .rd (.eqNilL Try.underlying40 rfl rfl) ?_
  refine .nil ?_
  refine .cond rfl (fun h1 => ?_) (fun h1 => ?_)
  · refine .seq ?_
    refine .region ?_   -- R2 slices.go:358
    refine .rd (.assign rfl) ?_
    refine .nil ?_
    have hl0 : l = [] := hnil (by cases a with | none => rfl | some _ => cases h1)
    subst hl0
    refine .nilArr 3 1 none ?_
    refine .retP Try.func32 (.cons (.tmp rfl) .nil) (.cons .head (.cons .head .nil)) ?_
    exact ⟨[_], ⟨none, 0, rfl, rfl⟩, rfl⟩
  · refine .skip ?_
    refine .seq ?_
    refine .region ?_   -- R3 slices.go:362
    refine .ef (.buildNone Try.underlying40 ti3) ?_
    rintro _ _ ⟨eb, rfl, rfl⟩
    refine .rd (.move rfl) ?_
    refine .nilArr 3 1 (some ⟨eb, 0, none⟩) ?_
    refine .ef (.append rfl rfl Try.underlying40 ti3 rfl (ones.of rfl) (by decide) (by decide) rfl rfl .head (n := 0) (m := l.length) rfl (.srcRow (Knows.pick (.tail (.tail .head)) k) Try.underlying40 (by rw [flat_length icell_len]) (by decide)) (by omega)) ?_
    rintro _ _ ⟨ra, rc, rfl, rn, rfl⟩
    refine .rd (.assign rfl) ?_
    refine .nil ?_
    refine .retP Try.func32 (.cons (.tmp rfl) .nil) (.cons .head (.cons (.tail .head) .nil)) ?_
    exact ⟨[_], ⟨ra, rc, by simp only [resVal]; rw [Nat.zero_add], rfl⟩, rfl⟩

end Go.Proofs.Ytahpokcigdjilaa

