/- A separation logic over the given machine. Part 18: where ways come together again. -/
import Derived.Test.YtahpokcigdjilaaL17
namespace Go.Sp
open Go

section
variable {P : Program} {N : Nat} {ops : Array Oper} {E : Env} {Γ ΓS : List SProp} {K : Env → List SProp → Prop} {fuel : Nat} {listed : Array Bool} {L : List Nat}
theorem RunD.mono {K1 : Env → List SProp → Prop} (h : RunD P N ops L ΓS fuel listed E Γ K1) (hk : ∀ E' Γ', K1 E' Γ' → K E' Γ') : RunD P N ops L ΓS fuel listed E Γ K :=
  fun A F w a Z hZ hf hs hz => h A F w a Z hZ hf hs fun E' Γ' w' a' k => hz E' Γ' w' a' (hk E' Γ' k)

/-- A piece of code whose ways all come to the same rest. -/
theorem Run.joinAt {C : Cx} {k : List Item} {c : Code} {Q : Value → List SProp → Prop} {E' : Env} {Γ' : List SProp} (tail : Run C k E' Γ' Q)
    (next : (∀ {E1 : Env} {Γ1 Δ : List SProp}, Le E' E1 → Picks Γ' Γ1 Δ → Run C k E1 Γ1 Q) → Run C (.code c :: k) E Γ Q) : Run C (.code c :: k) E Γ Q :=
  next fun l p => tail.to l p

/-- A region that draws and comes to one truth value in one slot. -/
theorem Run.drawsJoin {C : Cx} {k id} {Q : Value → List SProp → Prop} (L : List Nat) (ΓS : List SProp) (t : Nat) (b : Bool) (hm : C.P.follows .mixedOrders = true)
    (h : RunD C.P C.fn.ntmps ops L ΓS ops.size (Array.replicate ops.size false) E Γ fun E' Γ' => Γ' = Γ ∧ lk E' t = some (.bool b) ∧ Le E E')
    (n : Run C k ((t, .bool b) :: E) Γ Q) : Run C (.code (.region id ops true) :: k) E Γ Q :=
  Run.draws L ΓS hm (h.mono fun E' Γ' ⟨e, hl, le⟩ => by subst e; exact n.weak (Le.cons hl le))
end
/-- m[k], of a map of which one entry is held. -/
theorem Reads.lookupE {P : Program} {N : Nat} {E : Env} {Γ Γ' : List SProp} {dst : Option Tmp} {ty : TypeId} {pos : String} {after : Array Edge} {guard : Option (Nat × Bool)} {κ ν : Type} [DecidableEq κ] {enc : κ → Value} {venc : ν → Value}
    {t k e x ix b z} {l : List (κ × ν)} {q q' : κ} {s : Nat} (K : KL P k enc) (hu : P.underlying t = some (.map k e)) (hz : ∀ w, (zeroValue e).run P w = .ok z w) (hx : ev E x = some (.map (some b))) (hi : ev E ix = some (enc q)) (p : Pick (mpe enc venc b l q' s) Γ Γ') :
    Reads P N E Γ ⟨dst, .lookup t x ix false, ty, pos, after, guard⟩ (((mget l q).map venc).getD z) := fun A w a hf hs => by
  have h1 : Sat A w (mp enc venc b l :: Γ') := Sat.map (Γ := mpe enc venc b l q' s :: Γ') (fun h hh => by
    obtain ⟨h1, h2, ok, l1, l2, ⟨es, clock, e0, e1, e2, e3, e4, _⟩, r⟩ := hh
    exact ⟨h1, h2, ok, l1, l2, ⟨es, clock, e0, e1, e2, e3, e4⟩, r⟩) (hs.map fun _ => p.sat)
  exact Reads.lookup (N := N) K hu hz hx hi .head A w a hf h1
end Go.Sp
