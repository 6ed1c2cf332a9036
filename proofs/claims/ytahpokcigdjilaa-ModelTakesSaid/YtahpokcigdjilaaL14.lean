/- A separation logic over the given machine. Part 14: operations whose guard was itself not let. -/
import Derived.Test.YtahpokcigdjilaaL13
namespace Go.Sp
open Go

/-- What was known is known still. -/
theorem Le.skip {A B : Env} {d : Nat} {v : Value} (h : lk A d = none) (l : Le A B) : Le A ((d, v) :: B) := fun t u e => by
  have hd : t ≠ d := fun e' => by subst e'; rw [h] at e; cases e
  show (bif Nat.beq t d then some v else lk B t) = some u
  rw [Bool.eq_false_iff.2 fun h => hd (Nat.eq_of_beq_eq_true h)]; exact l t u e

section
variable {P : Program} {N : Nat} {ops : Array Oper} {rest : List Oper} {E : Env} {Γ : List SProp} {K : Env → List SProp → Prop} {ty : TypeId} {pos : String} {after : Array Edge}

theorem wpL_off {dst op} {g : Nat} {b : Bool} {Q : Exit → Act → World → Prop} {a : Act} {w : World} (hy : yielded ops a.tmps g ≠ some b) (h : wpL P ops Q rest (a.put dst undef) w) :
    wpL P ops Q (⟨dst, op, ty, pos, after, some (g, b)⟩ :: rest) a w := by
  have hw : Region.wanted ⟨dst, op, ty, pos, after, some (g, b)⟩ (yielded ops a.tmps) = false := by
    simp only [Region.wanted]
    exact beq_eq_false_iff_ne.2 hy
  simp only [wpL, hw, Bool.false_eq_true, if_false]
  exact h

/-- Not let; its slot is known to hold nothing. -/
theorem RunO.offU {d op} {g : Nat} {b c : Bool} {t : Nat} (hg : gslot ops g = some t) (he : lk E t = some (.bool c)) (hne : (c == b) = false) (hd : Nat.blt d N = true)
    (next : RunO P N ops rest ((d, undef) :: E) Γ K) : RunO P N ops (⟨some d, op, ty, pos, after, some (g, b)⟩ :: rest) E Γ K := by
  intro A F w a Z hf hs hz
  have hy := yielded_of hg hf he
  exact wpL_off (by rw [hy]; intro e; cases e; simp at hne) (next A F w _ Z (hf.put hd undef) hs hz)

/-- Not let, because its guard's slot holds nothing. -/
theorem RunO.offX {d op} {g : Nat} {b : Bool} {t : Nat} (hg : gslot ops g = some t) (he : lk E t = some undef) (hd : Nat.blt d N = true)
    (next : RunO P N ops rest ((d, undef) :: E) Γ K) : RunO P N ops (⟨some d, op, ty, pos, after, some (g, b)⟩ :: rest) E Γ K := by
  intro A F w a Z hf hs hz
  have hy : yielded ops a.tmps g ≠ some b := by
    unfold gslot at hg
    simp [yielded, hg, hf.look t _ he, undef]
  exact wpL_off hy (next A F w _ Z (hf.put hd undef) hs hz)
theorem RunO.offX0 {op} {g : Nat} {b : Bool} {t : Nat} (hg : gslot ops g = some t) (he : lk E t = some undef)
    (next : RunO P N ops rest E Γ K) : RunO P N ops (⟨none, op, ty, pos, after, some (g, b)⟩ :: rest) E Γ K := by
  intro A F w a Z hf hs hz
  have hy : yielded ops a.tmps g ≠ some b := by
    unfold gslot at hg
    simp [yielded, hg, hf.look t _ he, undef]
  exact wpL_off hy (next A F w _ Z hf.put_none hs hz)
end
end Go.Sp
