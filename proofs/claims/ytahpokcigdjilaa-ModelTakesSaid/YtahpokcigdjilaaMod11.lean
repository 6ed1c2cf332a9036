/- Steps through functions of the program, under conditions that each theorem states (part mod11 of a claim). -/
import Derived.Test.YtahpokcigdjilaaProg
import Derived.Test.YtahpokcigdjilaaMod10
namespace Go.Proofs.Ytahpokcigdjilaa
open Go Go.Sp

set_option linter.unusedVariables false

namespace mod11
theorem ts3 : TS Try.prog 3 1 := .of (by kernel_rfl)
theorem na3 : NotAgg Try.prog 3 := ⟨_, Try.underlying3, trivial⟩
theorem ti3 : TI Try.prog 3 1 8 (.int .i64 0) := .of (by kernel_rfl)
theorem fd64_1 : FD Try.prog 64 1 1 := .of Try.underlying64 (by kernel_rfl)
theorem fd64_0 : FD Try.prog 64 0 0 := .of Try.underlying64 (by kernel_rfl)
theorem fd64_8 : FD Try.prog 64 8 8 := .of Try.underlying64 (by kernel_rfl)
theorem fd64_3 : FD Try.prog 64 3 3 := .of Try.underlying64 (by kernel_rfl)
theorem fd64_2 : FD Try.prog 64 2 2 := .of Try.underlying64 (by kernel_rfl)
theorem fd64_4 : FD Try.prog 64 4 4 := .of Try.underlying64 (by kernel_rfl)
theorem na40 : NotAgg Try.prog 40 := ⟨_, Try.underlying40, trivial⟩
theorem fd64_5 : FD Try.prog 64 5 5 := .of Try.underlying64 (by kernel_rfl)
end mod11
open mod11

theorem Knows.arrCapI {Γ Γ' : List SProp} {a c} {l : List Int} (p : Pick (arr 3 1 a c (l.flatMap icell)) Γ Γ') : Knows Γ fun _ => l.length ≤ c := fun A w h => by
  have := (h.map fun _ => p.sat).arr_len.1
  rw [flat_length icell_len] at this; omega
theorem slice_ex {a : Option Addr} {n c m : Nat} (h : n = m) : ∃ a' c', Value.slice a n c = .slice a' m c' := ⟨a, c, by rw [h]⟩
theorem icell_set (l : List Int) (i : Nat) (x : Int) : (l.flatMap icell).set i (.int .i64 x) = (l.set i x).flatMap icell := by
  induction l generalizing i with
  | nil => rfl
  | cons y l ih => cases i with
    | zero => rfl
    | succ i => simp only [List.flatMap_cons, icell, List.singleton_append, List.set_cons_succ]; exact congrArg _ (ih i)
theorem row_nil {a : Option Addr} {l : List Int} {w : World} (h : RowAt a (l.flatMap icell) w) (hn : a = none) : l = [] := by
  rcases h with h | ⟨b, o, e, _⟩
  · cases l with
    | nil => rfl
    | cons x l => cases h
  · rw [hn] at e; cases e

set_option maxRecDepth 20000 in
theorem DeleteI_ok (a : Option Addr) (c : Nat) (l : List Int) (f : FuncId) (cap : Array Value) (pred : Int → Bool) (φ : World → Prop) (hf : ∀ b ∈ l, Cn Try.prog f (.int .i64 b :: cap.toList) φ [] fun v G => v = .bool (pred b) ∧ G = []) (hl : l.length ≤ 17592186044416) : Cn Try.prog 31 [.slice a l.length c, .func (.func f) #[] cap] φ [arr 3 1 a c (l.flatMap icell)] fun v G => (∃ a' c', v = .slice a' (l.filter fun x => !pred x).length c') ∧ G = [] := by
  refine .enter Try.func31 rfl (by kernel_rfl) rfl fun R k => ?_
  refine .seq ?_
  refine .region ?_   -- R0 slices.go:241
  refine .rd (.assign rfl) ?_
  refine .nil ?_
  refine .seq ?_
  refine .region ?_   -- R1 slices.go:242
  refine .rd (.move rfl) ?_
  refine .rd (.move rfl) ?_
  refine .fn rfl rfl .nil (fun A w h => ⟨(Knows.arr .head) A w h, (Knows.pick (.tail .head) k) A w h⟩) (IndexFuncI_ok a c l f cap pred φ hf hl) (fun v G1 hq => ?_)
  obtain ⟨rfl, rfl⟩ := hq
  simp only [List.nil_append]
  refine .rd (.assign rfl) ?_
  refine .nil ?_
  refine .seq ?_
  refine .seq ?_
  refine .region ?_   -- R2 slices.go:243
  refine .rd (.move rfl) ?_
  refine .rd (.eqI rfl rfl) ?_
  refine .nil ?_
  refine .condP rfl (fun hz2 => ?_) (fun hz2 => ?_)
  · have hfe : l.filter (fun x => !pred x) = l := List.filter_eq_self.2 fun q hq => by simp [place_neg hz2 q hq]
    refine .seq ?_
    refine .region ?_   -- R3 slices.go:244
    refine .rd (.move rfl) ?_
    refine .rd (.assign rfl) ?_
    refine .nil ?_
    refine .retP Try.func31 (.cons (.tmp rfl) .nil) (.cons (.tail .head) .nil) ?_
    refine ⟨[], ⟨⟨a, c, ?_⟩, rfl⟩, rfl⟩
    rw [hfe]; rfl
  · obtain ⟨i0, p0, hp0, hh0, hn0, hz⟩ := place_pos hz2
    have hi0 : i0 < l.length := (List.getElem?_eq_some_iff.1 hp0).1
    rw [hz]
    have hfl : (l.flatMap icell).length = l.length * 1 := flat_length icell_len l
    refine .tell ((Knows.arrCapI .head)) (fun hcap => ?_)
    refine .tell (φ := ∃ b o, a = some ⟨b, o, none⟩) ((Knows.arr .head).mono fun _ h => h.addr (by omega)) (fun hh => ?_)
    obtain ⟨bb, oo, rfl⟩ := hh
    refine .skip ?_
    refine .seq ?_
    refine .seq ?_
    refine .region ?_   -- R4 slices.go:247
    refine .rd (.move rfl) ?_
    refine .rd (.add rfl rfl (by omega) (by omega)) ?_
    refine .rd (.assign rfl) ?_
    refine .nil ?_
    refine .block ?_
    refine .loop (σ := Nat × Nat × List Int) (fun ⟨i, j, l'⟩ => i < j ∧ j ≤ l.length ∧ l'.length = l.length ∧ i = ((l.take j).filter (fun q => !pred q)).length ∧ l'.drop j = l.drop j) (fun ⟨i, j, l'⟩ => l.length - j) (fun ⟨i, j, l'⟩ => [(0, .slice (some ⟨bb, oo, none⟩) l.length c), (1, .func (.func f) #[] cap), (5, .int .i64 (i : Nat)), (6, .int .i64 (j : Nat))]) (fun ⟨i, j, l'⟩ => [arr 3 1 (some ⟨bb, oo, none⟩) c (l'.flatMap icell), R]) (i0, i0 + 1, l) ⟨Nat.lt_succ_self _, hi0, rfl, filter_start hp0 hh0 hn0, rfl⟩ (.cons rfl (.cons rfl (.cons rfl (.cons rfl .nil)))) (.cons .head (.cons .head .nil)) (fun s hI ih => ?_)
    obtain ⟨i, j, l'⟩ := s
    dsimp only at hI ih ⊢
    obtain ⟨hij, hjl, hll, htk, hdr⟩ := hI
    refine .seq ?_
    refine .seq ?_
    refine .region ?_   -- R5 slices.go:247
    refine .rd (.move rfl) ?_
    refine .rd (.move rfl) ?_
    refine .rd (.lenL rfl rfl Try.underlying40 rfl) ?_
    refine .rd (.lt rfl rfl) ?_
    refine .nil ?_
    refine .condP rfl (fun hc5 => ?_) (fun hc5 => ?_)
    · refine .skip ?_
      refine .seq ?_
      refine .block ?_
      refine .seq ?_
      have hj : j < l.length := by omega
      obtain ⟨p, hp⟩ : ∃ p, l[j]? = some p := ⟨_, List.getElem?_eq_getElem hj⟩
      have hp' : l'[j]? = some p := by
        have := congrArg (fun k : List Int => k[0]?) hdr
        simpa [List.getElem?_drop, hp] using this
      refine .region ?_   -- R7 slices.go:248
      refine .rd (.move rfl) ?_
      refine .rd (.move rfl) ?_
      refine .rd (.indexAddr Try.underlying40 ts3 rfl rfl (by omega) (by omega)) ?_
      refine .rd (.load na3 rfl (Knows.elem (f := icell) icell_len (by decide) (Knows.arr .head) hp')) ?_
      refine .rd (.assign rfl) ?_
      refine .nil ?_
      refine .seq ?_
      refine .region ?_   -- R8 slices.go:248
      refine .rd (.move rfl) ?_
      refine .rd (.move rfl) ?_
      refine .fnC rfl rfl .nil (Knows.pick (.tail .head) k) (hf p (List.mem_of_getElem? hp)) (fun v G1 hq => ?_)
      obtain ⟨rfl, rfl⟩ := hq
      simp only [List.nil_append]
      refine .rd (.not rfl) ?_
      refine .nil ?_
      refine .cond rfl (fun c8_ => ?_) (fun c8_ => ?_)
      · refine .seq ?_
        refine .region ?_   -- R9 slices.go:249
        refine .rd (.move rfl) ?_
        refine .rd (.move rfl) ?_
        refine .rd (.move rfl) ?_
        refine .rd (.indexAddr Try.underlying40 ts3 rfl rfl (by omega) (by omega)) ?_
        refine .ef0 (.storeArr (o := oo) (k := i * 1) ts3 rfl rfl .head (by rw [flat_length icell_len]; omega)) ?_
        rintro _ _ rfl
        rw [show i * 1 = i from Nat.mul_one i, icell_set]
        refine .nil ?_
        refine .region ?_   -- R10 slices.go:250
        refine .rd (.move rfl) ?_
        refine .rd (.add rfl rfl (by omega) (by omega)) ?_
        refine .rd (.assign rfl) ?_
        refine .nil ?_
        refine .inBlock ?_
        refine .region ?_   -- R6 slices.go:247
        refine .rd (.move rfl) ?_
        refine .rd (.add rfl rfl (by omega) (by omega)) ?_
        refine .rd (.assign rfl) ?_
        refine .nil ?_
        refine (ih (i + 1, j + 1, l'.set i p) ⟨?_, ?_, ?_, ?_, ?_⟩ (by show l.length - (j + 1) < _; omega)).to (.cons rfl (.cons rfl (.cons rfl (.cons rfl .nil)))) (.cons .head (.cons .head .nil))
        · show i + 1 < j + 1; omega
        · show j + 1 ≤ _; omega
        · show (l'.set i p).length = _; simp [hll]
        · show i + 1 = ((l.take (j + 1)).filter _).length
          rw [List.take_add_one, hp, List.filter_append, List.length_append, ← htk]
          simp at c8_
          simp [c8_]
        · show (l'.set i p).drop (j + 1) = _
          rw [List.drop_set_of_lt (by omega), ← List.drop_drop, ← List.drop_drop, hdr]
      · refine .skip ?_
        refine .inBlock ?_
        refine .region ?_   -- R6 slices.go:247
        refine .rd (.move rfl) ?_
        refine .rd (.add rfl rfl (by omega) (by omega)) ?_
        refine .rd (.assign rfl) ?_
        refine .nil ?_
        refine (ih (i, j + 1, l') ⟨?_, ?_, hll, ?_, ?_⟩ (by show l.length - (j + 1) < _; omega)).to (.cons rfl (.cons rfl (.cons rfl (.cons rfl .nil)))) (.cons .head (.cons .head .nil))
        · show i < j + 1; omega
        · show j + 1 ≤ _; omega
        · show i = ((l.take (j + 1)).filter _).length
          rw [List.take_add_one, hp, List.filter_append, List.length_append, ← htk]
          simp at c8_
          simp [c8_]
        · show l'.drop (j + 1) = _
          rw [← List.drop_drop, ← List.drop_drop, hdr]
    · refine .exit rfl ?_
      refine .seq ?_
      obtain rfl : j = l.length := by omega
      refine .open_ .head (fun h H => sat.arr_open (.inl (by omega)) H) (fun x hx => ?_)
      obtain ⟨pre, post⟩ := x
      obtain ⟨hpo, hlen⟩ := hx
      dsimp only at hlen hpo
      have hfl2 : (l'.flatMap icell).length = l'.length * 1 := flat_length icell_len l'
      simp only [List.cons_append, List.nil_append]
      refine .region ?_   -- R11 slices.go:253
      refine .rd (.move rfl) ?_
      refine .rd (.move rfl) ?_
      refine .rd (.slice (l := i) (h := l.length) (m := c) Try.underlying40 ts3 rfl rfl ⟨rfl, rfl⟩ ⟨_, rfl⟩ (by omega) (by omega) (by omega)) ?_
      refine .ef0 (.clear (b := bb) (o := oo + i) (n := l.length - i) (cap := c - i) rfl rfl Try.underlying40 ti3 rfl (ones.of rfl) (by show some _ = some _; rw [if_neg (by omega)]; simp [Addr_add]) .head (by simp only [List.length_append]; omega)) ?_
      rintro _ _ rfl
      refine .nil ?_
      refine .seq ?_
      refine .region ?_   -- R12 slices.go:254
      refine .rd (.move rfl) ?_
      refine .rd (.move rfl) ?_
      refine .rd (.slice (l := 0) (h := i) (m := c) Try.underlying40 ts3 rfl rfl ⟨_, rfl⟩ rfl (by omega) (by omega) (by omega)) ?_
      refine .rd (.assign rfl) ?_
      refine .nil ?_
      rw [List.take_of_length_le (Nat.le_refl _)] at htk
      refine .retP Try.func31 (.cons (.tmp rfl) .nil) (.cons (.tail .head) .nil) ?_
      exact ⟨[], ⟨slice_ex htk, rfl⟩, rfl⟩

set_option maxHeartbeats 1000000 in
set_option maxRecDepth 20000 in
theorem follows_ok (p q : Pt) (hp : p.ok) (hq_ : q.ok) : Cn Try.prog 17 [.agg p.cells.toArray, .agg q.cells.toArray] (fun w => p.at_ w ∧ q.at_ w) [] fun v G => v = .bool (followsP p q) ∧ G = [] := by
  refine .enter Try.func17 rfl (by kernel_rfl) rfl fun R k => ?_
  refine .seq ?_
  refine .region ?_   -- R0 model.go:214
  refine .ef (.box (l := p.cells) rfl rfl (ones.of rfl)) ?_
  rintro _ _ ⟨b2, rfl, rfl⟩
  refine .ef (.box (l := q.cells) rfl rfl (ones.of rfl)) ?_
  rintro _ _ ⟨b3, rfl, rfl⟩
  refine .rd (.assign rfl) ?_
  refine .nil ?_
  refine .seq ?_
  refine .region ?_   -- R1 model.go:215
  refine .rd (.fieldAddr fd64_1 rfl) ?_
  refine .rd (.ld na3 rfl .head rfl) ?_
  refine .rd (.fieldAddr fd64_1 rfl) ?_
  refine .rd (.ld na3 rfl (.tail .head) rfl) ?_
  refine .rd (.neI rfl rfl) ?_
  refine .alter (t := 11) (v' := .bool (turned p q)) rfl (rfl) ?_
  refine .rd (.assign rfl) ?_
  refine .nil ?_
  refine .seq ?_
  refine .block ?_
  refine .seq ?_
  refine .region ?_   -- R2 model.go:217
  refine RunO.join 21 12 (otherP p q) ?_ ?_
  · refine .rd (.fieldAddr fd64_0 rfl) ?_
    refine .rd (.ld na3 rfl .head rfl) ?_
    refine .rd (.fieldAddr fd64_0 rfl) ?_
    refine .rd (.ld na3 rfl (.tail .head) rfl) ?_
    refine .rd (.neI rfl rfl) ?_
    refine .rd (.move rfl) ?_
    refine .split (t := 18) rfl (fun g2_5 => ?_) (fun g2_5 => ?_)
    · simp at g2_5
      refine .off (t := 18) rfl rfl rfl ?_
      refine .off (t := 18) rfl rfl rfl ?_
      refine .off (t := 18) rfl rfl rfl ?_
      refine .off (t := 18) rfl rfl rfl ?_
      refine .off (t := 18) rfl rfl rfl ?_
      refine .rd (.pickT rfl rfl) ?_
      refine .rd (.move rfl) ?_
      refine .off (t := 25) rfl rfl rfl ?_
      refine .off (t := 25) rfl rfl rfl ?_
      refine .off (t := 25) rfl rfl rfl ?_
      refine .off (t := 25) rfl rfl rfl ?_
      refine .off (t := 25) rfl rfl rfl ?_
      refine .off (t := 25) rfl rfl rfl ?_
      refine .rd (.pickT rfl rfl) ?_
      refine .rd (.assign rfl) ?_
      refine .nil ⟨rfl, ?_, by repeat (first | exact Le.refl _ | refine Le.skip rfl ?_)⟩
      exact congrArg (fun x => some (Value.bool x)) (Eq.symm (show otherP p q = _ by unfold otherP; simp [g2_5]))
    · simp at g2_5
      refine .on (t := 18) rfl rfl ?_
      refine .rd (.fieldAddr fd64_8 rfl) ?_
      refine .on (t := 18) rfl rfl ?_
      refine .rd (.ld na3 rfl .head rfl) ?_
      refine .on (t := 18) rfl rfl ?_
      refine .rd (.fieldAddr fd64_8 rfl) ?_
      refine .on (t := 18) rfl rfl ?_
      refine .rd (.ld na3 rfl (.tail .head) rfl) ?_
      refine .on (t := 18) rfl rfl ?_
      refine .rd (.neI rfl rfl) ?_
      refine .rd (.pickF rfl rfl) ?_
      refine .rd (.move rfl) ?_
      refine .split (t := 25) rfl (fun g2_12 => ?_) (fun g2_12 => ?_)
      · simp at g2_12
        refine .off (t := 25) rfl rfl rfl ?_
        refine .off (t := 25) rfl rfl rfl ?_
        refine .off (t := 25) rfl rfl rfl ?_
        refine .off (t := 25) rfl rfl rfl ?_
        refine .off (t := 25) rfl rfl rfl ?_
        refine .off (t := 25) rfl rfl rfl ?_
        refine .rd (.pickT rfl rfl) ?_
        refine .rd (.assign rfl) ?_
        refine .nil ⟨rfl, ?_, by repeat (first | exact Le.refl _ | refine Le.skip rfl ?_)⟩
        exact congrArg (fun x => some (Value.bool x)) (Eq.symm (show otherP p q = _ by unfold otherP; simp [g2_5, g2_12]))
      · simp at g2_12
        refine .on (t := 25) rfl rfl ?_
        refine .rd (.fieldAddr fd64_3 rfl) ?_
        refine .on (t := 25) rfl rfl ?_
        refine .rd (.ld na3 rfl .head rfl) ?_
        refine .on (t := 25) rfl rfl ?_
        refine .rd (.fieldAddr fd64_3 rfl) ?_
        refine .on (t := 25) rfl rfl ?_
        refine .rd (.ld na3 rfl (.tail .head) rfl) ?_
        refine .on (t := 25) rfl rfl ?_
        refine .rd (.addW rfl rfl) ?_
        refine .on (t := 25) rfl rfl ?_
        refine .rd (.neI rfl rfl) ?_
        refine .rd (.pickF rfl rfl) ?_
        refine .rd (.assign rfl) ?_
        refine .nil ⟨rfl, ?_, by repeat (first | exact Le.refl _ | refine Le.skip rfl ?_)⟩
        exact congrArg (fun x => some (Value.bool x)) (Eq.symm (show otherP p q = _ by unfold otherP; simp [g2_5, g2_12]))
  refine .nil ?_
  refine .cond rfl (fun hc2 => ?_) (fun hc2 => ?_)
  · refine .seq ?_
    refine .region ?_   -- R3 model.go:218
    refine .rd (.assign rfl) ?_
    refine .nil ?_
    have hv : followsP p q = false := by unfold followsP; rw [hc2]; rfl
    rw [hv]
    refine .retP Try.func17 (.cons (.tmp rfl) .nil) (.cons (.tail (.tail .head)) .nil) ?_
    exact ⟨[], ⟨rfl, rfl⟩, rfl⟩
  · refine .seq ?_
    refine .region ?_   -- R4 model.go:219
    refine RunO.join 21 33 (epochP p q) ?_ ?_
    · refine .rd (.move rfl) ?_
      refine .rd (.move rfl) ?_
      refine .split (t := 35) rfl (fun g4_1 => ?_) (fun g4_1 => ?_)
      · refine .on (t := 35) rfl rfl ?_
        refine .rd (.fieldAddr fd64_2 rfl) ?_
        refine .on (t := 35) rfl rfl ?_
        refine .rd (.ld na3 rfl .head rfl) ?_
        refine .on (t := 35) rfl rfl ?_
        refine .rd (.fieldAddr fd64_2 rfl) ?_
        refine .on (t := 35) rfl rfl ?_
        refine .rd (.ld na3 rfl (.tail .head) rfl) ?_
        refine .on (t := 35) rfl rfl ?_
        refine .rd (.addW rfl rfl) ?_
        refine .on (t := 35) rfl rfl ?_
        refine .rd (.neI rfl rfl) ?_
        refine .rd (.pickT rfl rfl) ?_
        refine .rd (.move rfl) ?_
        refine .split (t := 43) rfl (fun g4_9 => ?_) (fun g4_9 => ?_)
        · simp at g4_9
          refine .off (t := 43) rfl rfl rfl ?_
          refine .off (t := 43) rfl rfl rfl ?_
          refine .offU (t := 43) rfl rfl rfl rfl ?_
          refine .offX (t := 46) rfl rfl rfl ?_
          refine .offX (t := 46) rfl rfl rfl ?_
          refine .offX (t := 46) rfl rfl rfl ?_
          refine .offX (t := 46) rfl rfl rfl ?_
          refine .offX (t := 46) rfl rfl rfl ?_
          refine .off (t := 43) rfl rfl rfl ?_
          refine .rd (.pickT rfl rfl) ?_
          refine .rd (.assign rfl) ?_
          refine .nil ⟨rfl, ?_, by repeat (first | exact Le.refl _ | refine Le.skip rfl ?_)⟩
          exact congrArg (fun x => some (Value.bool x)) (Eq.symm (show epochP p q = _ by unfold epochP; simp [g4_1, g4_9]))
        · simp at g4_9
          refine .on (t := 43) rfl rfl ?_
          refine .rd (.move rfl) ?_
          refine .on (t := 43) rfl rfl ?_
          refine .rd (.not rfl) ?_
          refine .on (t := 43) rfl rfl ?_
          refine .rd (.move rfl) ?_
          refine .split (t := 46) rfl (fun g4_12 => ?_) (fun g4_12 => ?_)
          · refine .on (t := 46) rfl rfl ?_
            refine .rd (.fieldAddr fd64_2 rfl) ?_
            refine .on (t := 46) rfl rfl ?_
            refine .rd (.ld na3 rfl .head rfl) ?_
            refine .on (t := 46) rfl rfl ?_
            refine .rd (.fieldAddr fd64_2 rfl) ?_
            refine .on (t := 46) rfl rfl ?_
            refine .rd (.ld na3 rfl (.tail .head) rfl) ?_
            refine .on (t := 46) rfl rfl ?_
            refine .rd (.neI rfl rfl) ?_
            refine .on (t := 43) rfl rfl ?_
            refine .rd (.pickT rfl rfl) ?_
            refine .rd (.pickF rfl rfl) ?_
            refine .rd (.assign rfl) ?_
            refine .nil ⟨rfl, ?_, by repeat (first | exact Le.refl _ | refine Le.skip rfl ?_)⟩
            exact congrArg (fun x => some (Value.bool x)) (Eq.symm (show epochP p q = _ by unfold epochP; exfalso; rw [g4_1] at g4_12; cases g4_12))
          · refine .off (t := 46) rfl rfl rfl ?_
            refine .off (t := 46) rfl rfl rfl ?_
            refine .off (t := 46) rfl rfl rfl ?_
            refine .off (t := 46) rfl rfl rfl ?_
            refine .off (t := 46) rfl rfl rfl ?_
            refine .on (t := 43) rfl rfl ?_
            refine .rd (.pickF rfl rfl) ?_
            refine .rd (.pickF rfl rfl) ?_
            refine .rd (.assign rfl) ?_
            refine .nil ⟨rfl, ?_, by repeat (first | exact Le.refl _ | refine Le.skip rfl ?_)⟩
            exact congrArg (fun x => some (Value.bool x)) (Eq.symm (show epochP p q = _ by unfold epochP; simp [g4_1, g4_9]))
      · refine .off (t := 35) rfl rfl rfl ?_
        refine .off (t := 35) rfl rfl rfl ?_
        refine .off (t := 35) rfl rfl rfl ?_
        refine .off (t := 35) rfl rfl rfl ?_
        refine .off (t := 35) rfl rfl rfl ?_
        refine .off (t := 35) rfl rfl rfl ?_
        refine .rd (.pickF rfl rfl) ?_
        refine .rd (.move rfl) ?_
        refine .on (t := 43) rfl rfl ?_
        refine .rd (.move rfl) ?_
        refine .on (t := 43) rfl rfl ?_
        refine .rd (.not rfl) ?_
        refine .on (t := 43) rfl rfl ?_
        refine .rd (.move rfl) ?_
        refine .split (t := 46) rfl (fun g4_12 => ?_) (fun g4_12 => ?_)
        · refine .on (t := 46) rfl rfl ?_
          refine .rd (.fieldAddr fd64_2 rfl) ?_
          refine .on (t := 46) rfl rfl ?_
          refine .rd (.ld na3 rfl .head rfl) ?_
          refine .on (t := 46) rfl rfl ?_
          refine .rd (.fieldAddr fd64_2 rfl) ?_
          refine .on (t := 46) rfl rfl ?_
          refine .rd (.ld na3 rfl (.tail .head) rfl) ?_
          refine .on (t := 46) rfl rfl ?_
          refine .rd (.neI rfl rfl) ?_
          refine .on (t := 43) rfl rfl ?_
          refine .rd (.pickT rfl rfl) ?_
          refine .rd (.pickF rfl rfl) ?_
          refine .rd (.assign rfl) ?_
          refine .nil ⟨rfl, ?_, by repeat (first | exact Le.refl _ | refine Le.skip rfl ?_)⟩
          exact congrArg (fun x => some (Value.bool x)) (Eq.symm (show epochP p q = _ by unfold epochP; simp [g4_1]))
        · refine .off (t := 46) rfl rfl rfl ?_
          refine .off (t := 46) rfl rfl rfl ?_
          refine .off (t := 46) rfl rfl rfl ?_
          refine .off (t := 46) rfl rfl rfl ?_
          refine .off (t := 46) rfl rfl rfl ?_
          refine .on (t := 43) rfl rfl ?_
          refine .rd (.pickF rfl rfl) ?_
          refine .rd (.pickF rfl rfl) ?_
          refine .rd (.assign rfl) ?_
          refine .nil ⟨rfl, ?_, by repeat (first | exact Le.refl _ | refine Le.skip rfl ?_)⟩
          exact congrArg (fun x => some (Value.bool x)) (Eq.symm (show epochP p q = _ by unfold epochP; exfalso; rw [g4_1] at g4_12; cases g4_12))
    refine .nil ?_
    refine .cond rfl (fun hc4 => ?_) (fun hc4 => ?_)
    · refine .seq ?_
      refine .region ?_   -- R5 model.go:220
      refine .rd (.assign rfl) ?_
      refine .nil ?_
      have hv : followsP p q = false := by unfold followsP; rw [hc2, hc4]; rfl
      rw [hv]
      refine .retP Try.func17 (.cons (.tmp rfl) .nil) (.cons (.tail (.tail .head)) .nil) ?_
      exact ⟨[], ⟨rfl, rfl⟩, rfl⟩
    · refine .seq ?_
      refine .region ?_   -- R6 model.go:221
      refine RunO.join 15 54 (newP p q) ?_ ?_
      · refine .rd (.move rfl) ?_
        refine .rd (.move rfl) ?_
        refine .split (t := 56) rfl (fun g6_1 => ?_) (fun g6_1 => ?_)
        · refine .on (t := 56) rfl rfl ?_
          refine .rd (.fieldAddr fd64_1 rfl) ?_
          refine .on (t := 56) rfl rfl ?_
          refine .rd (.ld na3 rfl .head rfl) ?_
          refine .on (t := 56) rfl rfl ?_
          refine .rd (.neI rfl rfl) ?_
          refine .rd (.pickT rfl rfl) ?_
          refine .rd (.move rfl) ?_
          refine .split (t := 61) rfl (fun g6_6 => ?_) (fun g6_6 => ?_)
          · simp at g6_6
            refine .on (t := 61) rfl rfl ?_
            refine .rd (.fieldAddr fd64_4 rfl) ?_
            refine .on (t := 61) rfl rfl ?_
            refine .rd (.ld na40 rfl (.tail .head) rfl) ?_
            refine .on (t := 61) rfl rfl ?_
            refine .rd (.fieldAddr fd64_1 rfl) ?_
            refine .on (t := 61) rfl rfl ?_
            refine .rd (.ld na3 rfl .head rfl) ?_
            refine .on (t := 61) rfl rfl ?_
            refine .fn rfl rfl .nil (Knows.pick (.tail (.tail .head)) (k.mono fun _ h => h.1.1)) (Contains_ok p.isr.1 p.isr.2.1 p.isr.2.2 q.leader hp.isr) (fun v G1 hq => ?_)
            obtain ⟨rfl, rfl⟩ := hq
            simp only [List.nil_append]
            refine .on (t := 61) rfl rfl ?_
            refine .rd (.not rfl) ?_
            refine .rd (.pickT rfl rfl) ?_
            refine .rd (.assign rfl) ?_
            refine .nil ⟨rfl, ?_, by repeat (first | exact Le.refl _ | refine Le.skip rfl ?_)⟩
            exact congrArg (fun x => some (Value.bool x)) (Eq.symm (show newP p q = _ by unfold newP; simp [g6_1, g6_6]))
          · simp at g6_6
            refine .off (t := 61) rfl rfl rfl ?_
            refine .off (t := 61) rfl rfl rfl ?_
            refine .off (t := 61) rfl rfl rfl ?_
            refine .off (t := 61) rfl rfl rfl ?_
            refine .off (t := 61) rfl rfl rfl ?_
            refine .off (t := 61) rfl rfl rfl ?_
            refine .rd (.pickF rfl rfl) ?_
            refine .rd (.assign rfl) ?_
            refine .nil ⟨rfl, ?_, by repeat (first | exact Le.refl _ | refine Le.skip rfl ?_)⟩
            exact congrArg (fun x => some (Value.bool x)) (Eq.symm (show newP p q = _ by unfold newP; simp [g6_1, g6_6]))
        · refine .off (t := 56) rfl rfl rfl ?_
          refine .off (t := 56) rfl rfl rfl ?_
          refine .off (t := 56) rfl rfl rfl ?_
          refine .rd (.pickF rfl rfl) ?_
          refine .rd (.move rfl) ?_
          refine .off (t := 61) rfl rfl rfl ?_
          refine .off (t := 61) rfl rfl rfl ?_
          refine .off (t := 61) rfl rfl rfl ?_
          refine .off (t := 61) rfl rfl rfl ?_
          refine .off (t := 61) rfl rfl rfl ?_
          refine .off (t := 61) rfl rfl rfl ?_
          refine .rd (.pickF rfl rfl) ?_
          refine .rd (.assign rfl) ?_
          refine .nil ⟨rfl, ?_, by repeat (first | exact Le.refl _ | refine Le.skip rfl ?_)⟩
          exact congrArg (fun x => some (Value.bool x)) (Eq.symm (show newP p q = _ by unfold newP; simp [g6_1]))
      refine .nil ?_
      refine .cond rfl (fun hc6 => ?_) (fun hc6 => ?_)
      · refine .seq ?_
        refine .region ?_   -- R7 model.go:222
        refine .rd (.assign rfl) ?_
        refine .nil ?_
        have hv : followsP p q = false := by unfold followsP; rw [hc2, hc4, hc6]; rfl
        rw [hv]
        refine .retP Try.func17 (.cons (.tmp rfl) .nil) (.cons (.tail (.tail .head)) .nil) ?_
        exact ⟨[], ⟨rfl, rfl⟩, rfl⟩
      · refine .skip ?_
        refine .inBlock ?_
        refine .seq ?_
        refine .tell (φ := p.replicas.1 = none → p.replicas.2.2 = []) (Knows.pick (.tail (.tail .head)) (k.mono fun _ h hn => row_nil h.1.2.1 hn)) (fun hnil => ?_)
        refine .region ?_   -- R8 model.go:224
        refine .rd (.fieldAddr fd64_5 rfl) ?_
        refine .rd (.ld na40 rfl (.tail .head) rfl) ?_
        refine .fn rfl rfl .nil (Knows.pick (.tail (.tail .head)) (k.mono fun _ h => h.1.2.1)) (CloneI_ok p.replicas.1 p.replicas.2.1 p.replicas.2.2 hp.replicas hnil) (fun v G1 hq => ?_)
        obtain ⟨ra, rc, rfl, rfl⟩ := hq
        simp only [List.cons_append, List.nil_append]
        refine .rd (.makeFunc rfl rfl) ?_
        refine .fn rfl rfl (.cons .head .nil) (fun A w h => ⟨(Knows.blk .head) A w h, ((Knows.pick (.tail (.tail .head)) k) A w h).2, (Knows.blk (.tail .head)) A w h, ((Knows.pick (.tail (.tail .head)) k) A w h).1⟩) (DeleteI_ok ra rc p.replicas.2.2 33 #[ptrV b3, ptrV b2] (stillP p q) (fun w => CellsAt b3 0 q.cells w ∧ q.at_ w ∧ CellsAt b2 0 p.cells w ∧ p.at_ w) (fun x _ => still_ok x p q b3 b2 hp hq_) hp.replicas) (fun v G1 hq => ?_)
        obtain ⟨⟨ga, gc, rfl⟩, rfl⟩ := hq
        simp only [List.nil_append]
        refine .rd (.assign rfl) ?_
        refine .nil ?_
        refine .seq ?_
        refine .region ?_   -- R9 model.go:227
        refine .rd (.move rfl) ?_
        refine .rd (.lenL rfl rfl Try.underlying40 rfl) ?_
        refine .rd (.eqI rfl rfl) ?_
        refine .rd (.move rfl) ?_
        refine .split (t := 77) rfl (fun g9_3 => ?_) (fun g9_3 => ?_)
        · replace g9_3 := of_decide_eq_true g9_3
          refine .off (t := 77) rfl rfl rfl ?_
          refine .off (t := 77) rfl rfl rfl ?_
          refine .off (t := 77) rfl rfl rfl ?_
          refine .off (t := 77) rfl rfl rfl ?_
          refine .off (t := 77) rfl rfl rfl ?_
          refine .rd (.pickT rfl rfl) ?_
          refine .rd (.assign rfl) ?_
          refine .nil ?_
          have hv : followsP p q = true := by unfold followsP; rw [hc2, hc4, hc6, decide_eq_true g9_3]; rfl
          rw [hv]
          refine .retP Try.func17 (.cons (.tmp rfl) .nil) (.cons (.tail (.tail .head)) .nil) ?_
          exact ⟨[], ⟨rfl, rfl⟩, rfl⟩
        · replace g9_3 := of_decide_eq_false g9_3
          refine .on (t := 77) rfl rfl ?_
          refine .rd (.fieldAddr fd64_5 rfl) ?_
          refine .on (t := 77) rfl rfl ?_
          refine .rd (.ld na40 rfl .head rfl) ?_
          refine .on (t := 77) rfl rfl ?_
          refine .rd (.fieldAddr fd64_4 rfl) ?_
          refine .on (t := 77) rfl rfl ?_
          refine .rd (.ld na40 rfl (.tail .head) rfl) ?_
          refine .on (t := 77) rfl rfl ?_
          refine .fn rfl rfl .nil (Knows.pick (.tail (.tail .head)) (k.mono fun _ h => ⟨h.2.2.1, h.1.1⟩)) (within_ok q.replicas.1 q.replicas.2.1 q.replicas.2.2 p.isr.1 p.isr.2.1 p.isr.2.2 hq_.replicas hp.isr) (fun v G1 hq => ?_)
          obtain ⟨rfl, rfl⟩ := hq
          simp only [List.nil_append]
          refine .rd (.pickF rfl rfl) ?_
          refine .rd (.assign rfl) ?_
          refine .nil ?_
          have hv : followsP p q = withinP q.replicas.2.2 p.isr.2.2 := by unfold followsP; rw [hc2, hc4, hc6, decide_eq_false g9_3]; rfl
          rw [hv]
          refine .retP Try.func17 (.cons (.tmp rfl) .nil) (.cons (.tail (.tail .head)) .nil) ?_
          exact ⟨[], ⟨rfl, rfl⟩, rfl⟩

end Go.Proofs.Ytahpokcigdjilaa

