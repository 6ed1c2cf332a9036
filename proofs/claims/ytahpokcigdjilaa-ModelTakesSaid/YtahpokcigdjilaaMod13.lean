/- Steps through functions of the program, under conditions that each theorem states (part mod13 of a claim). -/
import Derived.Test.YtahpokcigdjilaaProg
import Derived.Test.YtahpokcigdjilaaMod12
namespace Go.Proofs.Ytahpokcigdjilaa
open Go Go.Sp

set_option linter.unusedVariables false

namespace mod13
theorem ts36 : TS Try.prog 36 12 := .of (by kernel_rfl)
theorem ts64 : TS Try.prog 64 9 := .of (by kernel_rfl)
end mod13
open mod13

theorem RowAt.take {α : Type} {f : α → List Value} {a : Option Addr} {l : List α} {w : World} (h : RowAt a (l.flatMap f) w) (n : Nat) : RowAt a ((l.take n).flatMap f) w := by
  have e : l.flatMap f = (l.take n).flatMap f ++ (l.drop n).flatMap f := by rw [← List.flatMap_append, List.take_append_drop]
  rcases h with h | ⟨b, o, e2, h⟩
  · rw [e] at h
    exact .inl (List.append_eq_nil_iff.1 h).1
  · refine .inr ⟨b, o, e2, fun i v hv => h.1 i v ?_, fun v hv => h.2 v ?_⟩
    · rw [e, List.getElem?_append_left (List.getElem?_eq_some_iff.1 hv).1]; exact hv
    · rw [e]; exact List.mem_append_left _ hv
theorem ite_addr {a : Option Addr} {c s : Nat} : (if c = 0 then a else a.map (·.add (0 * s))) = a := by
  split
  · rfl
  · cases a with
    | none => rfl
    | some x => rw [Nat.zero_mul]; rfl

set_option maxHeartbeats 1000000 in
set_option maxRecDepth 20000 in
theorem ModelBegins_ok (l : List Sn) (a : Option Addr) (c : Nat) (s : List Pt) (sa : Option Addr) (sc : Nat) (cut : Int) (hs : ∀ q ∈ s, q.ok) (hcut : i64 cut) (hl : l.length ≤ 140737488351232) (hsl : s.length ≤ 140737488351232) (hlc : l.length ≤ c) (hsc : s.length ≤ sc) : Cn Try.prog 7 [.slice a l.length c, .slice sa s.length sc, .int .i64 cut] (fun w => RowAt a (l.flatMap Sn.cells) w ∧ RowAt sa (s.flatMap Pt.cells) w ∧ ∀ q ∈ s, q.at_ w) [] fun v G => v = .bool true ∧ G = [] := by
  refine .enter Try.func7 rfl (by kernel_rfl) rfl fun R k => ?_
  refine .seq ?_
  refine .region ?_   -- R0 law.go:60
  refine .rd (.assign rfl) ?_
  refine .nil ?_
  refine .seq ?_
  refine .region ?_   -- R1 law.go:61
  refine .fn rfl rfl .nil (fun _ _ _ => trivial) (shown_ok) (fun v G1 hq => ?_)
  obtain ⟨rfl, rfl⟩ := hq
  simp only [List.nil_append]
  refine .rd (.assign rfl) ?_
  refine .nil ?_
  refine .seq ?_
  refine .seq ?_
  refine .region ?_   -- R2 law.go:62
  refine .rd (.move rfl) ?_
  refine .rd (.lenL rfl rfl Try.underlying22 rfl) ?_
  refine .rd (.gt rfl rfl) ?_
  refine .rd (.move rfl) ?_
  refine .split (t := 20) rfl (fun g2_3 => ?_) (fun g2_3 => ?_)
  · replace g2_3 := of_decide_eq_true g2_3
    refine .off (t := 20) rfl rfl rfl ?_
    refine .off (t := 20) rfl rfl rfl ?_
    refine .off (t := 20) rfl rfl rfl ?_
    refine .rd (.pickT rfl rfl) ?_
    refine .nil ?_
    refine .condT rfl ?_
    refine .seq ?_
    refine .region ?_   -- R3 law.go:63
    refine .rd (.move rfl) ?_
    refine .rd (.assign rfl) ?_
    refine .nil ?_
    refine .retP Try.func7 (.cons (.tmp rfl) .nil) (.cons .head .nil) ?_
    exact ⟨[], ⟨rfl, rfl⟩, rfl⟩
  · replace g2_3 := of_decide_eq_false g2_3
    refine .on (t := 20) rfl rfl ?_
    refine .rd (.move rfl) ?_
    refine .on (t := 20) rfl rfl ?_
    refine .rd (.lenL rfl rfl Try.underlying42 rfl) ?_
    refine .on (t := 20) rfl rfl ?_
    refine .rd (.gt rfl rfl) ?_
    refine .rd (.pickF rfl rfl) ?_
    refine .nil ?_
    refine .condP rfl (fun h2 => ?_) (fun h2 => ?_)
    · refine .seq ?_
      refine .region ?_   -- R3 law.go:63
      refine .rd (.move rfl) ?_
      refine .rd (.assign rfl) ?_
      refine .nil ?_
      refine .retP Try.func7 (.cons (.tmp rfl) .nil) (.cons .head .nil) ?_
      exact ⟨[], ⟨rfl, rfl⟩, rfl⟩
    · obtain ⟨n, hn⟩ : ∃ n : Nat, pickN cut ((l.length : Int) + 1) = n := ⟨(pickN cut ((l.length : Int) + 1)).toNat, by have := pickN_nn (c := cut) (n := (l.length : Int) + 1) (by omega); omega⟩
      have nl : n ≤ l.length := by have := pickN_lt (c := cut) (n := (l.length : Int) + 1) (by omega); omega
      have nt : (l.take n).length = n := by rw [List.length_take]; omega
      obtain ⟨m, hm⟩ : ∃ m : Nat, pickN cut ((s.length : Int) + 1) = m := ⟨(pickN cut ((s.length : Int) + 1)).toNat, by have := pickN_nn (c := cut) (n := (s.length : Int) + 1) (by omega); omega⟩
      have ml : m ≤ s.length := by have := pickN_lt (c := cut) (n := (s.length : Int) + 1) (by omega); omega
      have mt : (s.take m).length = m := by rw [List.length_take]; omega
      refine .skip ?_
      refine .seq ?_
      refine .region ?_   -- R4 law.go:65
      refine .rd (.move rfl) ?_
      refine .fn rfl rfl .nil (Knows.pick .head (k.mono fun _ h => h.1)) (Check_ok l a c (by omega)) (fun v G1 hq => ?_)
      obtain ⟨rfl, rfl⟩ := hq
      simp only [List.nil_append]
      refine .rd (.move rfl) ?_
      refine .rd (.extract rfl rfl) ?_
      refine .rd (.extract rfl rfl) ?_
      refine .rd (.assign rfl) ?_
      refine .rd (.assign rfl) ?_
      refine .nil ?_
      refine .seq ?_
      refine .region ?_   -- R5 law.go:66
      refine .rd (.move rfl) ?_
      refine .rd (.move rfl) ?_
      refine .rd (.lenL rfl rfl Try.underlying22 rfl) ?_
      refine .rd (.add rfl rfl (by omega) (by omega)) ?_
      refine .fn rfl rfl .nil (fun _ _ _ => trivial) (pick_ok cut ((l.length : Int) + 1) hcut (by omega)) (fun v G1 hq => ?_)
      obtain ⟨rfl, rfl⟩ := hq
      simp only [List.nil_append]
      refine .alter (t := 35) (v' := .int .i64 (n : Nat)) rfl (by rw [hn]) ?_
      refine .rd (.assign rfl) ?_
      refine .nil ?_
      refine .seq ?_
      refine .region ?_   -- R6 law.go:67
      refine .rd (.move rfl) ?_
      refine .rd (.move rfl) ?_
      refine .rd (.slice (l := 0) (h := n) (m := c) Try.underlying22 ts36 rfl rfl ⟨_, rfl⟩ rfl (by omega) (by omega) (by omega)) ?_
      refine .alter (t := 39) (v' := .slice a (l.take n).length c) rfl (by rw [nt, ite_addr]; rfl) ?_
      refine .fn rfl rfl .nil (Knows.pick .head (k.mono fun _ h => RowAt.take h.1 n)) (Check_ok (l.take n) a c (by omega)) (fun v G1 hq => ?_)
      obtain ⟨rfl, rfl⟩ := hq
      simp only [List.nil_append]
      refine .rd (.move rfl) ?_
      refine .rd (.extract rfl rfl) ?_
      refine .rd (.extract rfl rfl) ?_
      refine .rd (.assign rfl) ?_
      refine .rd (.assign rfl) ?_
      refine .nil ?_
      have hb := check_begins l n
      generalize check (l.take n) = x2 at hb ⊢
      generalize check l = x1 at hb ⊢
      obtain ⟨i1, w1⟩ := x1
      obtain ⟨i2, w2⟩ := x2
      dsimp only at hb
      refine .seq ?_
      refine .seq ?_
      refine .region ?_   -- R7 law.go:68
      refine RunO.join 34 76 (false) ?_ ?_
      · refine .rd (.move rfl) ?_
        refine .rd (.ge rfl rfl) ?_
        refine .rd (.move rfl) ?_
        refine .split (t := 45) rfl (fun g7_2 => ?_) (fun g7_2 => ?_)
        · replace g7_2 := of_decide_eq_true g7_2
          refine .on (t := 45) rfl rfl ?_
          refine .rd (.move rfl) ?_
          refine .on (t := 45) rfl rfl ?_
          refine .rd (.move rfl) ?_
          refine .on (t := 45) rfl rfl ?_
          refine .rd (.lt rfl rfl) ?_
          refine .rd (.pickT rfl rfl) ?_
          refine .rd (.move rfl) ?_
          refine .split (t := 50) rfl (fun g7_7 => ?_) (fun g7_7 => ?_)
          · replace g7_7 := of_decide_eq_true g7_7
            refine .on (t := 50) rfl rfl ?_
            refine .rd (.move rfl) ?_
            refine .on (t := 50) rfl rfl ?_
            refine .rd (.move rfl) ?_
            refine .on (t := 50) rfl rfl ?_
            refine .rd (.neI rfl rfl) ?_
            refine .on (t := 50) rfl rfl ?_
            refine .rd (.move rfl) ?_
            refine .split (t := 54) rfl (fun g7_11 => ?_) (fun g7_11 => ?_)
            · simp at g7_11
              refine .off (t := 54) rfl rfl rfl ?_
              refine .off (t := 54) rfl rfl rfl ?_
              refine .off (t := 54) rfl rfl rfl ?_
              refine .on (t := 50) rfl rfl ?_
              refine .rd (.pickT rfl rfl) ?_
              refine .rd (.pickT rfl rfl) ?_
              refine .rd (.move rfl) ?_
              refine .off (t := 60) rfl rfl rfl ?_
              refine .off (t := 60) rfl rfl rfl ?_
              refine .offU (t := 60) rfl rfl rfl rfl ?_
              refine .offX (t := 63) rfl rfl rfl ?_
              refine .offX (t := 63) rfl rfl rfl ?_
              refine .offX (t := 63) rfl rfl rfl ?_
              refine .off (t := 60) rfl rfl rfl ?_
              refine .offU (t := 60) rfl rfl rfl rfl ?_
              refine .offX (t := 68) rfl rfl rfl ?_
              refine .offX (t := 68) rfl rfl rfl ?_
              refine .offX (t := 68) rfl rfl rfl ?_
              refine .offX (t := 71) rfl rfl rfl ?_
              refine .offX (t := 71) rfl rfl rfl ?_
              refine .offX (t := 68) rfl rfl rfl ?_
              refine .off (t := 60) rfl rfl rfl ?_
              refine .rd (.pickT rfl rfl) ?_
              refine .nil ⟨rfl, ?_, by repeat (first | exact Le.refl _ | refine Le.skip rfl ?_)⟩
              exact congrArg (fun x => some (Value.bool x)) (by rcases hb with ⟨hb1, hb2, hb3⟩ | ⟨hb1, hb3⟩ <;> (injection hb3 with hb4 hb5; subst hb4 hb5; first | (exfalso; omega) | simp at *))
            · simp at g7_11
              refine .on (t := 54) rfl rfl ?_
              refine .rd (.move rfl) ?_
              refine .on (t := 54) rfl rfl ?_
              refine .rd (.move rfl) ?_
              refine .on (t := 54) rfl rfl ?_
              refine .rd (.neT rfl rfl) ?_
              refine .on (t := 50) rfl rfl ?_
              refine .rd (.pickF rfl rfl) ?_
              refine .rd (.pickT rfl rfl) ?_
              refine .rd (.move rfl) ?_
              refine .split (t := 60) rfl (fun g7_17 => ?_) (fun g7_17 => ?_)
              · simp at g7_17
                refine .off (t := 60) rfl rfl rfl ?_
                refine .off (t := 60) rfl rfl rfl ?_
                refine .offU (t := 60) rfl rfl rfl rfl ?_
                refine .offX (t := 63) rfl rfl rfl ?_
                refine .offX (t := 63) rfl rfl rfl ?_
                refine .offX (t := 63) rfl rfl rfl ?_
                refine .off (t := 60) rfl rfl rfl ?_
                refine .offU (t := 60) rfl rfl rfl rfl ?_
                refine .offX (t := 68) rfl rfl rfl ?_
                refine .offX (t := 68) rfl rfl rfl ?_
                refine .offX (t := 68) rfl rfl rfl ?_
                refine .offX (t := 71) rfl rfl rfl ?_
                refine .offX (t := 71) rfl rfl rfl ?_
                refine .offX (t := 68) rfl rfl rfl ?_
                refine .off (t := 60) rfl rfl rfl ?_
                refine .rd (.pickT rfl rfl) ?_
                refine .nil ⟨rfl, ?_, by repeat (first | exact Le.refl _ | refine Le.skip rfl ?_)⟩
                exact congrArg (fun x => some (Value.bool x)) (by rcases hb with ⟨hb1, hb2, hb3⟩ | ⟨hb1, hb3⟩ <;> (injection hb3 with hb4 hb5; subst hb4 hb5; first | (exfalso; omega) | simp at *))
              · simp at g7_17
                refine .on (t := 60) rfl rfl ?_
                refine .rd (.move rfl) ?_
                refine .on (t := 60) rfl rfl ?_
                refine .rd (.lt rfl rfl) ?_
                refine .on (t := 60) rfl rfl ?_
                refine .rd (.move rfl) ?_
                refine .split (t := 63) rfl (fun g7_20 => ?_) (fun g7_20 => ?_)
                · replace g7_20 := of_decide_eq_true g7_20
                  refine .off (t := 63) rfl rfl rfl ?_
                  refine .off (t := 63) rfl rfl rfl ?_
                  refine .off (t := 63) rfl rfl rfl ?_
                  refine .on (t := 60) rfl rfl ?_
                  refine .rd (.pickT rfl rfl) ?_
                  refine .on (t := 60) rfl rfl ?_
                  refine .rd (.move rfl) ?_
                  refine .on (t := 68) rfl rfl ?_
                  refine .rd (.move rfl) ?_
                  refine .on (t := 68) rfl rfl ?_
                  refine .rd (.neI rfl rfl) ?_
                  refine .on (t := 68) rfl rfl ?_
                  refine .rd (.move rfl) ?_
                  refine .split (t := 71) rfl (fun g7_28 => ?_) (fun g7_28 => ?_)
                  · simp at g7_28
                    refine .off (t := 71) rfl rfl rfl ?_
                    refine .off (t := 71) rfl rfl rfl ?_
                    refine .on (t := 68) rfl rfl ?_
                    refine .rd (.pickT rfl rfl) ?_
                    refine .on (t := 60) rfl rfl ?_
                    refine .rd (.pickT rfl rfl) ?_
                    refine .rd (.pickF rfl rfl) ?_
                    refine .nil ⟨rfl, ?_, by repeat (first | exact Le.refl _ | refine Le.skip rfl ?_)⟩
                    exact congrArg (fun x => some (Value.bool x)) (by rcases hb with ⟨hb1, hb2, hb3⟩ | ⟨hb1, hb3⟩ <;> (injection hb3 with hb4 hb5; subst hb4 hb5; first | (exfalso; omega) | simp at *))
                  · simp at g7_28
                    refine .on (t := 71) rfl rfl ?_
                    refine .rd (.move rfl) ?_
                    refine .on (t := 71) rfl rfl ?_
                    refine .rd (.neT (m := []) rfl rfl) ?_
                    refine .on (t := 68) rfl rfl ?_
                    refine .rd (.pickF rfl rfl) ?_
                    refine .on (t := 60) rfl rfl ?_
                    refine .rd (.pickT rfl rfl) ?_
                    refine .rd (.pickF rfl rfl) ?_
                    refine .nil ⟨rfl, ?_, by repeat (first | exact Le.refl _ | refine Le.skip rfl ?_)⟩
                    exact congrArg (fun x => some (Value.bool x)) (by rcases hb with ⟨hb1, hb2, hb3⟩ | ⟨hb1, hb3⟩ <;> (injection hb3 with hb4 hb5; subst hb4 hb5; first | (exfalso; omega) | simp at *))
                · replace g7_20 := of_decide_eq_false g7_20
                  refine .on (t := 63) rfl rfl ?_
                  refine .rd (.move rfl) ?_
                  refine .on (t := 63) rfl rfl ?_
                  refine .rd (.move rfl) ?_
                  refine .on (t := 63) rfl rfl ?_
                  refine .rd (.ge rfl rfl) ?_
                  refine .on (t := 60) rfl rfl ?_
                  refine .rd (.pickF rfl rfl) ?_
                  refine .on (t := 60) rfl rfl ?_
                  refine .rd (.move rfl) ?_
                  refine .split (t := 68) rfl (fun g7_25 => ?_) (fun g7_25 => ?_)
                  · replace g7_25 := of_decide_eq_true g7_25
                    refine .on (t := 68) rfl rfl ?_
                    refine .rd (.move rfl) ?_
                    refine .on (t := 68) rfl rfl ?_
                    refine .rd (.neI rfl rfl) ?_
                    refine .on (t := 68) rfl rfl ?_
                    refine .rd (.move rfl) ?_
                    refine .split (t := 71) rfl (fun g7_28 => ?_) (fun g7_28 => ?_)
                    · simp at g7_28
                      refine .off (t := 71) rfl rfl rfl ?_
                      refine .off (t := 71) rfl rfl rfl ?_
                      refine .on (t := 68) rfl rfl ?_
                      refine .rd (.pickT rfl rfl) ?_
                      refine .on (t := 60) rfl rfl ?_
                      refine .rd (.pickT rfl rfl) ?_
                      refine .rd (.pickF rfl rfl) ?_
                      refine .nil ⟨rfl, ?_, by repeat (first | exact Le.refl _ | refine Le.skip rfl ?_)⟩
                      exact congrArg (fun x => some (Value.bool x)) (by rcases hb with ⟨hb1, hb2, hb3⟩ | ⟨hb1, hb3⟩ <;> (injection hb3 with hb4 hb5; subst hb4 hb5; first | (exfalso; omega) | simp at *))
                    · simp at g7_28
                      refine .on (t := 71) rfl rfl ?_
                      refine .rd (.move rfl) ?_
                      refine .on (t := 71) rfl rfl ?_
                      refine .rd (.neT (m := []) rfl rfl) ?_
                      refine .on (t := 68) rfl rfl ?_
                      refine .rd (.pickF rfl rfl) ?_
                      refine .on (t := 60) rfl rfl ?_
                      refine .rd (.pickT rfl rfl) ?_
                      refine .rd (.pickF rfl rfl) ?_
                      refine .nil ⟨rfl, ?_, by repeat (first | exact Le.refl _ | refine Le.skip rfl ?_)⟩
                      exact congrArg (fun x => some (Value.bool x)) (by rcases hb with ⟨hb1, hb2, hb3⟩ | ⟨hb1, hb3⟩ <;> (injection hb3 with hb4 hb5; subst hb4 hb5; first | (exfalso; omega) | simp at *))
                  · replace g7_25 := of_decide_eq_false g7_25
                    refine .off (t := 68) rfl rfl rfl ?_
                    refine .off (t := 68) rfl rfl rfl ?_
                    refine .offU (t := 68) rfl rfl rfl rfl ?_
                    refine .offX (t := 71) rfl rfl rfl ?_
                    refine .offX (t := 71) rfl rfl rfl ?_
                    refine .off (t := 68) rfl rfl rfl ?_
                    refine .on (t := 60) rfl rfl ?_
                    refine .rd (.pickF rfl rfl) ?_
                    refine .rd (.pickF rfl rfl) ?_
                    refine .nil ⟨rfl, ?_, by repeat (first | exact Le.refl _ | refine Le.skip rfl ?_)⟩
                    exact congrArg (fun x => some (Value.bool x)) (by rcases hb with ⟨hb1, hb2, hb3⟩ | ⟨hb1, hb3⟩ <;> (injection hb3 with hb4 hb5; subst hb4 hb5; first | (exfalso; omega) | simp at *))
          · replace g7_7 := of_decide_eq_false g7_7
            refine .off (t := 50) rfl rfl rfl ?_
            refine .off (t := 50) rfl rfl rfl ?_
            refine .off (t := 50) rfl rfl rfl ?_
            refine .offU (t := 50) rfl rfl rfl rfl ?_
            refine .offX (t := 54) rfl rfl rfl ?_
            refine .offX (t := 54) rfl rfl rfl ?_
            refine .offX (t := 54) rfl rfl rfl ?_
            refine .off (t := 50) rfl rfl rfl ?_
            refine .rd (.pickF rfl rfl) ?_
            refine .rd (.move rfl) ?_
            refine .on (t := 60) rfl rfl ?_
            refine .rd (.move rfl) ?_
            refine .on (t := 60) rfl rfl ?_
            refine .rd (.lt rfl rfl) ?_
            refine .on (t := 60) rfl rfl ?_
            refine .rd (.move rfl) ?_
            refine .split (t := 63) rfl (fun g7_20 => ?_) (fun g7_20 => ?_)
            · replace g7_20 := of_decide_eq_true g7_20
              refine .off (t := 63) rfl rfl rfl ?_
              refine .off (t := 63) rfl rfl rfl ?_
              refine .off (t := 63) rfl rfl rfl ?_
              refine .on (t := 60) rfl rfl ?_
              refine .rd (.pickT rfl rfl) ?_
              refine .on (t := 60) rfl rfl ?_
              refine .rd (.move rfl) ?_
              refine .on (t := 68) rfl rfl ?_
              refine .rd (.move rfl) ?_
              refine .on (t := 68) rfl rfl ?_
              refine .rd (.neI rfl rfl) ?_
              refine .on (t := 68) rfl rfl ?_
              refine .rd (.move rfl) ?_
              refine .split (t := 71) rfl (fun g7_28 => ?_) (fun g7_28 => ?_)
              · simp at g7_28
                refine .off (t := 71) rfl rfl rfl ?_
                refine .off (t := 71) rfl rfl rfl ?_
                refine .on (t := 68) rfl rfl ?_
                refine .rd (.pickT rfl rfl) ?_
                refine .on (t := 60) rfl rfl ?_
                refine .rd (.pickT rfl rfl) ?_
                refine .rd (.pickF rfl rfl) ?_
                refine .nil ⟨rfl, ?_, by repeat (first | exact Le.refl _ | refine Le.skip rfl ?_)⟩
                exact congrArg (fun x => some (Value.bool x)) (by rcases hb with ⟨hb1, hb2, hb3⟩ | ⟨hb1, hb3⟩ <;> (injection hb3 with hb4 hb5; subst hb4 hb5; first | (exfalso; omega) | simp at *))
              · simp at g7_28
                refine .on (t := 71) rfl rfl ?_
                refine .rd (.move rfl) ?_
                refine .on (t := 71) rfl rfl ?_
                refine .rd (.neT (m := []) rfl rfl) ?_
                refine .on (t := 68) rfl rfl ?_
                refine .rd (.pickF rfl rfl) ?_
                refine .on (t := 60) rfl rfl ?_
                refine .rd (.pickT rfl rfl) ?_
                refine .rd (.pickF rfl rfl) ?_
                refine .nil ⟨rfl, ?_, by repeat (first | exact Le.refl _ | refine Le.skip rfl ?_)⟩
                exact congrArg (fun x => some (Value.bool x)) (by rcases hb with ⟨hb1, hb2, hb3⟩ | ⟨hb1, hb3⟩ <;> (injection hb3 with hb4 hb5; subst hb4 hb5; first | (exfalso; omega) | simp at *))
            · replace g7_20 := of_decide_eq_false g7_20
              refine .on (t := 63) rfl rfl ?_
              refine .rd (.move rfl) ?_
              refine .on (t := 63) rfl rfl ?_
              refine .rd (.move rfl) ?_
              refine .on (t := 63) rfl rfl ?_
              refine .rd (.ge rfl rfl) ?_
              refine .on (t := 60) rfl rfl ?_
              refine .rd (.pickF rfl rfl) ?_
              refine .on (t := 60) rfl rfl ?_
              refine .rd (.move rfl) ?_
              refine .split (t := 68) rfl (fun g7_25 => ?_) (fun g7_25 => ?_)
              · replace g7_25 := of_decide_eq_true g7_25
                refine .on (t := 68) rfl rfl ?_
                refine .rd (.move rfl) ?_
                refine .on (t := 68) rfl rfl ?_
                refine .rd (.neI rfl rfl) ?_
                refine .on (t := 68) rfl rfl ?_
                refine .rd (.move rfl) ?_
                refine .split (t := 71) rfl (fun g7_28 => ?_) (fun g7_28 => ?_)
                · simp at g7_28
                  refine .off (t := 71) rfl rfl rfl ?_
                  refine .off (t := 71) rfl rfl rfl ?_
                  refine .on (t := 68) rfl rfl ?_
                  refine .rd (.pickT rfl rfl) ?_
                  refine .on (t := 60) rfl rfl ?_
                  refine .rd (.pickT rfl rfl) ?_
                  refine .rd (.pickF rfl rfl) ?_
                  refine .nil ⟨rfl, ?_, by repeat (first | exact Le.refl _ | refine Le.skip rfl ?_)⟩
                  exact congrArg (fun x => some (Value.bool x)) (by rcases hb with ⟨hb1, hb2, hb3⟩ | ⟨hb1, hb3⟩ <;> (injection hb3 with hb4 hb5; subst hb4 hb5; first | (exfalso; omega) | simp at *))
                · simp at g7_28
                  refine .on (t := 71) rfl rfl ?_
                  refine .rd (.move rfl) ?_
                  refine .on (t := 71) rfl rfl ?_
                  refine .rd (.neT (m := []) rfl rfl) ?_
                  refine .on (t := 68) rfl rfl ?_
                  refine .rd (.pickF rfl rfl) ?_
                  refine .on (t := 60) rfl rfl ?_
                  refine .rd (.pickT rfl rfl) ?_
                  refine .rd (.pickF rfl rfl) ?_
                  refine .nil ⟨rfl, ?_, by repeat (first | exact Le.refl _ | refine Le.skip rfl ?_)⟩
                  exact congrArg (fun x => some (Value.bool x)) (by rcases hb with ⟨hb1, hb2, hb3⟩ | ⟨hb1, hb3⟩ <;> (injection hb3 with hb4 hb5; subst hb4 hb5; first | (exfalso; omega) | simp at *))
              · replace g7_25 := of_decide_eq_false g7_25
                refine .off (t := 68) rfl rfl rfl ?_
                refine .off (t := 68) rfl rfl rfl ?_
                refine .offU (t := 68) rfl rfl rfl rfl ?_
                refine .offX (t := 71) rfl rfl rfl ?_
                refine .offX (t := 71) rfl rfl rfl ?_
                refine .off (t := 68) rfl rfl rfl ?_
                refine .on (t := 60) rfl rfl ?_
                refine .rd (.pickF rfl rfl) ?_
                refine .rd (.pickF rfl rfl) ?_
                refine .nil ⟨rfl, ?_, by repeat (first | exact Le.refl _ | refine Le.skip rfl ?_)⟩
                exact congrArg (fun x => some (Value.bool x)) (by rcases hb with ⟨hb1, hb2, hb3⟩ | ⟨hb1, hb3⟩ <;> (injection hb3 with hb4 hb5; subst hb4 hb5; first | (exfalso; omega) | simp at *))
        · replace g7_2 := of_decide_eq_false g7_2
          refine .off (t := 45) rfl rfl rfl ?_
          refine .off (t := 45) rfl rfl rfl ?_
          refine .off (t := 45) rfl rfl rfl ?_
          refine .rd (.pickF rfl rfl) ?_
          refine .rd (.move rfl) ?_
          refine .off (t := 50) rfl rfl rfl ?_
          refine .off (t := 50) rfl rfl rfl ?_
          refine .off (t := 50) rfl rfl rfl ?_
          refine .offU (t := 50) rfl rfl rfl rfl ?_
          refine .offX (t := 54) rfl rfl rfl ?_
          refine .offX (t := 54) rfl rfl rfl ?_
          refine .offX (t := 54) rfl rfl rfl ?_
          refine .off (t := 50) rfl rfl rfl ?_
          refine .rd (.pickF rfl rfl) ?_
          refine .rd (.move rfl) ?_
          refine .on (t := 60) rfl rfl ?_
          refine .rd (.move rfl) ?_
          refine .on (t := 60) rfl rfl ?_
          refine .rd (.lt rfl rfl) ?_
          refine .on (t := 60) rfl rfl ?_
          refine .rd (.move rfl) ?_
          refine .split (t := 63) rfl (fun g7_20 => ?_) (fun g7_20 => ?_)
          · replace g7_20 := of_decide_eq_true g7_20
            refine .off (t := 63) rfl rfl rfl ?_
            refine .off (t := 63) rfl rfl rfl ?_
            refine .off (t := 63) rfl rfl rfl ?_
            refine .on (t := 60) rfl rfl ?_
            refine .rd (.pickT rfl rfl) ?_
            refine .on (t := 60) rfl rfl ?_
            refine .rd (.move rfl) ?_
            refine .on (t := 68) rfl rfl ?_
            refine .rd (.move rfl) ?_
            refine .on (t := 68) rfl rfl ?_
            refine .rd (.neI rfl rfl) ?_
            refine .on (t := 68) rfl rfl ?_
            refine .rd (.move rfl) ?_
            refine .split (t := 71) rfl (fun g7_28 => ?_) (fun g7_28 => ?_)
            · simp at g7_28
              refine .off (t := 71) rfl rfl rfl ?_
              refine .off (t := 71) rfl rfl rfl ?_
              refine .on (t := 68) rfl rfl ?_
              refine .rd (.pickT rfl rfl) ?_
              refine .on (t := 60) rfl rfl ?_
              refine .rd (.pickT rfl rfl) ?_
              refine .rd (.pickF rfl rfl) ?_
              refine .nil ⟨rfl, ?_, by repeat (first | exact Le.refl _ | refine Le.skip rfl ?_)⟩
              exact congrArg (fun x => some (Value.bool x)) (by rcases hb with ⟨hb1, hb2, hb3⟩ | ⟨hb1, hb3⟩ <;> (injection hb3 with hb4 hb5; subst hb4 hb5; first | (exfalso; omega) | simp at *))
            · simp at g7_28
              refine .on (t := 71) rfl rfl ?_
              refine .rd (.move rfl) ?_
              refine .on (t := 71) rfl rfl ?_
              refine .rd (.neT (m := []) rfl rfl) ?_
              refine .on (t := 68) rfl rfl ?_
              refine .rd (.pickF rfl rfl) ?_
              refine .on (t := 60) rfl rfl ?_
              refine .rd (.pickT rfl rfl) ?_
              refine .rd (.pickF rfl rfl) ?_
              refine .nil ⟨rfl, ?_, by repeat (first | exact Le.refl _ | refine Le.skip rfl ?_)⟩
              exact congrArg (fun x => some (Value.bool x)) (by rcases hb with ⟨hb1, hb2, hb3⟩ | ⟨hb1, hb3⟩ <;> (injection hb3 with hb4 hb5; subst hb4 hb5; first | (exfalso; omega) | simp at *))
          · replace g7_20 := of_decide_eq_false g7_20
            refine .on (t := 63) rfl rfl ?_
            refine .rd (.move rfl) ?_
            refine .on (t := 63) rfl rfl ?_
            refine .rd (.move rfl) ?_
            refine .on (t := 63) rfl rfl ?_
            refine .rd (.ge rfl rfl) ?_
            refine .on (t := 60) rfl rfl ?_
            refine .rd (.pickF rfl rfl) ?_
            refine .on (t := 60) rfl rfl ?_
            refine .rd (.move rfl) ?_
            refine .split (t := 68) rfl (fun g7_25 => ?_) (fun g7_25 => ?_)
            · replace g7_25 := of_decide_eq_true g7_25
              refine .on (t := 68) rfl rfl ?_
              refine .rd (.move rfl) ?_
              refine .on (t := 68) rfl rfl ?_
              refine .rd (.neI rfl rfl) ?_
              refine .on (t := 68) rfl rfl ?_
              refine .rd (.move rfl) ?_
              refine .split (t := 71) rfl (fun g7_28 => ?_) (fun g7_28 => ?_)
              · simp at g7_28
                refine .off (t := 71) rfl rfl rfl ?_
                refine .off (t := 71) rfl rfl rfl ?_
                refine .on (t := 68) rfl rfl ?_
                refine .rd (.pickT rfl rfl) ?_
                refine .on (t := 60) rfl rfl ?_
                refine .rd (.pickT rfl rfl) ?_
                refine .rd (.pickF rfl rfl) ?_
                refine .nil ⟨rfl, ?_, by repeat (first | exact Le.refl _ | refine Le.skip rfl ?_)⟩
                exact congrArg (fun x => some (Value.bool x)) (by rcases hb with ⟨hb1, hb2, hb3⟩ | ⟨hb1, hb3⟩ <;> (injection hb3 with hb4 hb5; subst hb4 hb5; first | (exfalso; omega) | simp at *))
              · simp at g7_28
                refine .on (t := 71) rfl rfl ?_
                refine .rd (.move rfl) ?_
                refine .on (t := 71) rfl rfl ?_
                refine .rd (.neT (m := []) rfl rfl) ?_
                refine .on (t := 68) rfl rfl ?_
                refine .rd (.pickF rfl rfl) ?_
                refine .on (t := 60) rfl rfl ?_
                refine .rd (.pickT rfl rfl) ?_
                refine .rd (.pickF rfl rfl) ?_
                refine .nil ⟨rfl, ?_, by repeat (first | exact Le.refl _ | refine Le.skip rfl ?_)⟩
                exact congrArg (fun x => some (Value.bool x)) (by rcases hb with ⟨hb1, hb2, hb3⟩ | ⟨hb1, hb3⟩ <;> (injection hb3 with hb4 hb5; subst hb4 hb5; first | (exfalso; omega) | simp at *))
            · replace g7_25 := of_decide_eq_false g7_25
              refine .off (t := 68) rfl rfl rfl ?_
              refine .off (t := 68) rfl rfl rfl ?_
              refine .offU (t := 68) rfl rfl rfl rfl ?_
              refine .offX (t := 71) rfl rfl rfl ?_
              refine .offX (t := 71) rfl rfl rfl ?_
              refine .off (t := 68) rfl rfl rfl ?_
              refine .on (t := 60) rfl rfl ?_
              refine .rd (.pickF rfl rfl) ?_
              refine .rd (.pickF rfl rfl) ?_
              refine .nil ⟨rfl, ?_, by repeat (first | exact Le.refl _ | refine Le.skip rfl ?_)⟩
              exact congrArg (fun x => some (Value.bool x)) (by rcases hb with ⟨hb1, hb2, hb3⟩ | ⟨hb1, hb3⟩ <;> (injection hb3 with hb4 hb5; subst hb4 hb5; first | (exfalso; omega) | simp at *))
      refine .nil ?_
      refine .condF rfl ?_
      refine .skip ?_
      refine .seq ?_
      refine .region ?_   -- R9 law.go:71
      refine .rd (.move rfl) ?_
      refine .fn rfl rfl .nil (Knows.pick .head (k.mono fun _ h => h.2)) (Metadata_ok s sa sc hs (by omega)) (fun v G1 hq => ?_)
      obtain ⟨rfl, rfl⟩ := hq
      simp only [List.nil_append]
      refine .rd (.assign rfl) ?_
      refine .nil ?_
      refine .seq ?_
      refine .region ?_   -- R10 law.go:72
      refine .rd (.move rfl) ?_
      refine .rd (.move rfl) ?_
      refine .rd (.lenL rfl rfl Try.underlying42 rfl) ?_
      refine .rd (.add rfl rfl (by omega) (by omega)) ?_
      refine .fn rfl rfl .nil (fun _ _ _ => trivial) (pick_ok cut ((s.length : Int) + 1) hcut (by omega)) (fun v G1 hq => ?_)
      obtain ⟨rfl, rfl⟩ := hq
      simp only [List.nil_append]
      refine .alter (t := 83) (v' := .int .i64 (m : Nat)) rfl (by rw [hm]) ?_
      refine .rd (.assign rfl) ?_
      refine .nil ?_
      refine .seq ?_
      refine .region ?_   -- R11 law.go:73
      refine .rd (.move rfl) ?_
      refine .rd (.move rfl) ?_
      refine .rd (.slice (l := 0) (h := m) (m := sc) Try.underlying42 ts64 rfl rfl ⟨_, rfl⟩ rfl (by omega) (by omega) (by omega)) ?_
      refine .alter (t := 86) (v' := .slice sa (s.take m).length sc) rfl (by rw [mt, ite_addr]; rfl) ?_
      refine .fn rfl rfl .nil (Knows.pick .head (k.mono fun _ h => ⟨RowAt.take h.2.1 m, fun q hq => h.2.2 q (List.mem_of_mem_take hq)⟩)) (Metadata_ok (s.take m) sa sc (fun q h => hs q (List.mem_of_mem_take h)) (by omega)) (fun v G1 hq => ?_)
      obtain ⟨rfl, rfl⟩ := hq
      simp only [List.nil_append]
      refine .rd (.assign rfl) ?_
      refine .nil ?_
      have hb2 := meta_begins s m (by omega)
      refine .seq ?_
      refine .seq ?_
      refine .region ?_   -- R12 law.go:74
      refine .rd (.move rfl) ?_
      refine .rd (.ge rfl rfl) ?_
      refine .rd (.move rfl) ?_
      refine .split (t := 90) rfl (fun g12 => ?_) (fun g12 => ?_)
      · replace g12 := of_decide_eq_true g12
        refine .on (t := 90) rfl rfl ?_
        refine .rd (.move rfl) ?_
        refine .on (t := 90) rfl rfl ?_
        refine .rd (.move rfl) ?_
        refine .on (t := 90) rfl rfl ?_
        refine .rd (.lt rfl rfl) ?_
        refine .rd (.pickT rfl rfl) ?_
        refine .nil ?_
        refine .condP rfl (fun h12 => ?_) (fun h12 => ?_)
        · refine .seq ?_
          refine .region ?_   -- R13 law.go:75
          refine .rd (.move rfl) ?_
          refine .rd (.move rfl) ?_
          refine .on (t := 96) rfl rfl ?_
          refine .rd (.move rfl) ?_
          refine .on (t := 96) rfl rfl ?_
          refine .rd (.move rfl) ?_
          refine .on (t := 96) rfl rfl ?_
          refine .rd (.eqI rfl rfl) ?_
          refine .alter (t := 99) (v' := .bool true) rfl (congrArg Value.bool (decide_eq_true (by omega))) ?_
          refine .rd (.pickT rfl rfl) ?_
          refine .rd (.assign rfl) ?_
          refine .nil ?_
          refine .retP Try.func7 (.cons (.tmp rfl) .nil) (.cons .head .nil) ?_
          exact ⟨[], ⟨rfl, rfl⟩, rfl⟩
        · refine .skip ?_
          refine .seq ?_
          refine .region ?_   -- R14 law.go:77
          refine .rd (.move rfl) ?_
          refine .rd (.move rfl) ?_
          refine .on (t := 102) rfl rfl ?_
          refine .rd (.move rfl) ?_
          refine .on (t := 102) rfl rfl ?_
          refine .rd (.eqI rfl rfl) ?_
          refine .alter (t := 104) (v' := .bool true) rfl (congrArg Value.bool (decide_eq_true (by omega))) ?_
          refine .rd (.pickT rfl rfl) ?_
          refine .rd (.assign rfl) ?_
          refine .nil ?_
          refine .retP Try.func7 (.cons (.tmp rfl) .nil) (.cons .head .nil) ?_
          exact ⟨[], ⟨rfl, rfl⟩, rfl⟩
      · replace g12 := of_decide_eq_false g12
        refine .off (t := 90) rfl rfl rfl ?_
        refine .off (t := 90) rfl rfl rfl ?_
        refine .off (t := 90) rfl rfl rfl ?_
        refine .rd (.pickF rfl rfl) ?_
        refine .nil ?_
        refine .condF rfl ?_
        refine .skip ?_
        refine .seq ?_
        refine .region ?_   -- R14 law.go:77
        refine .rd (.move rfl) ?_
        refine .rd (.move rfl) ?_
        refine .on (t := 102) rfl rfl ?_
        refine .rd (.move rfl) ?_
        refine .on (t := 102) rfl rfl ?_
        refine .rd (.eqI rfl rfl) ?_
        refine .alter (t := 104) (v' := .bool true) rfl (congrArg Value.bool (decide_eq_true (by omega))) ?_
        refine .rd (.pickT rfl rfl) ?_
        refine .rd (.assign rfl) ?_
        refine .nil ?_
        refine .retP Try.func7 (.cons (.tmp rfl) .nil) (.cons .head .nil) ?_
        exact ⟨[], ⟨rfl, rfl⟩, rfl⟩

end Go.Proofs.Ytahpokcigdjilaa

