/- A separation logic over the given machine. Part 11: stores into rows of one's own. -/
import Derived.Test.YtahpokcigdjilaaL9
namespace Go.Sp
open Go

section
variable {P : Program} {N : Nat} {E : Env} {Γ Γ' : List SProp} {dst : Option Tmp} {ty : TypeId} {pos : String} {after : Array Edge} {guard : Option (Nat × Bool)}

/-- An element (one cell) of a row of one's own. -/
theorem Eff.storeArr {t x y v} {b o k s cap : Nat} {cs : List Value} {e : TypeId} (hs : TS P t 1) (hx : ev E x = some (.pointer (some ⟨b, o + k, none⟩))) (hy : ev E y = some v) (p : Pick (arr e s (some ⟨b, o, none⟩) cap cs) Γ Γ')
    (hk : k < cs.length) (hv : v.oneCell' = true := by rfl) :
    Eff P N E Γ ⟨dst, .store t x y, ty, pos, after, guard⟩ fun _ Γ'' => Γ'' = arr e s (some ⟨b, o, none⟩) cap (cs.set k v) :: Γ' := by
  intro A F w a nx Z hf hsat hn
  have h1 : Sat A w (arr e s (some ⟨b, o, none⟩) cap cs :: (Γ' ++ F)) := hsat.map fun _ => (p.app F).sat
  obtain ⟨⟨pre, post⟩, ⟨rfl, h3⟩, h4⟩ := Sat.open_ (fun h => sat.arr_open (.inr (by omega))) h1
  dsimp only at h3
  have h5 : Sat A w ((blk b (pre ++ (cs ++ post)) e :: Γ') ++ F) := h4
  refine Eff.store hs hx hy .head hv (by simp; omega) A F w a nx Z hf h5 ?_
  rintro u _ w' rfl h6
  refine hn u _ w' rfl ?_
  rw [set_mid hk] at h6
  have h7 : Sat A w' ([blk b (pre ++ (cs.set k v ++ post)) e] ++ (Γ' ++ F)) := h6
  exact Sat.close (fun h s => sat.arr_close (by simpa using h3) s) h7

/-- An element (more cells) of a row of one's own. -/
theorem Eff.storeArrN {t x y v} {b o k s cap : Nat} {cs vs : List Value} {e : TypeId} (hs : TS P t vs.length) (hx : ev E x = some (.pointer (some ⟨b, o + k, none⟩))) (hy : ev E y = some v) (hc : v.cells.toList = vs) (p : Pick (arr e s (some ⟨b, o, none⟩) cap cs) Γ Γ')
    (hk : k + vs.length ≤ cs.length) (h0 : 0 < cs.length) (hv : ones vs) :
    Eff P N E Γ ⟨dst, .store t x y, ty, pos, after, guard⟩ fun _ Γ'' => Γ'' = arr e s (some ⟨b, o, none⟩) cap (splice cs k vs) :: Γ' := by
  intro A F w a nx Z hf hsat hn
  have h1 : Sat A w (arr e s (some ⟨b, o, none⟩) cap cs :: (Γ' ++ F)) := hsat.map fun _ => (p.app F).sat
  obtain ⟨⟨pre, post⟩, ⟨rfl, h3⟩, h4⟩ := Sat.open_ (fun h => sat.arr_open (.inr h0)) h1
  dsimp only at h3
  have h5 : Sat A w ((blk b (pre ++ (cs ++ post)) e :: Γ') ++ F) := h4
  refine Eff.storeN hs hx hy hc .head (by simp only [List.length_append]; omega) hv A F w a nx Z hf h5 ?_
  rintro u _ w' rfl h6
  refine hn u _ w' rfl ?_
  rw [splice_mid hk] at h6
  have h7 : Sat A w' ([blk b (pre ++ (splice cs k vs ++ post)) e] ++ (Γ' ++ F)) := h6
  exact Sat.close (fun h s => sat.arr_close (by rw [length_splice _ _ _ hk]; exact h3) s) h7

end
end Go.Sp
