/- Part 2 of a claim's texts: rules for the machine's steps, and steps through functions of the program, under the conditions that each theorem states. -/
import Derived.Test.YtankogdnhgmkhaaDoorProg
import Derived.KernelRfl
import Derived.WalkKit
import Derived.ProofKit
import Derived.OpenShut
import Derived.ShutString
import Derived.ChangeOld
import Derived.Below
import Derived.SizedLaws
import Derived.Carry
import Derived.Test.YtankogdnhgmkhaaDoorPart0
import Derived.Test.YtankogdnhgmkhaaDoorPart1
set_option linter.unusedVariables false
namespace Go.Proofs.YtankogdnhgmkhaaDoor
open Go Go.Sp

set_option linter.unusedVariables false

namespace con12
theorem fd65_5 : FD Tryd.prog 65 5 36 := .of Tryd.underlying65 (by kernel_rfl)
theorem na3 : NotAgg Tryd.prog 3 := ⟨_, Tryd.underlying3, trivial⟩
theorem fd35_3 : FD Tryd.prog 35 3 3 := .of Tryd.underlying35 (by kernel_rfl)
theorem fd65_6 : FD Tryd.prog 65 6 37 := .of Tryd.underlying65 (by kernel_rfl)
theorem fd35_1 : FD Tryd.prog 35 1 1 := .of Tryd.underlying35 (by kernel_rfl)
theorem fd35_2 : FD Tryd.prog 35 2 2 := .of Tryd.underlying35 (by kernel_rfl)
theorem na24 : NotAgg Tryd.prog 24 := ⟨_, Tryd.underlying24, trivial⟩
theorem fd60_0 : FD Tryd.prog 60 0 0 := .of Tryd.underlying60 (by kernel_rfl)
theorem fd35_0 : FD Tryd.prog 35 0 0 := .of Tryd.underlying35 (by kernel_rfl)
theorem fd65_2 : FD Tryd.prog 65 2 13 := .of Tryd.underlying65 (by kernel_rfl)
theorem ia35 : IsAgg Tryd.prog 35 := ⟨_, Tryd.underlying35, trivial⟩
theorem ts35 : TS Tryd.prog 35 21 := .of (by kernel_rfl)
end con12
open con12



set_option maxHeartbeats 1000000 in
set_option maxRecDepth 20000 in
theorem step1_ok (pb b3 b5 : Nat) (s : CS19) (x : PX19) (cl : List CallX) (m : An19) (a : Option Addr) (c : Nat) (y : CallX) (hy : y ∈ cl) (hmk : (1 ≤ y.c.m.kind ∧ y.c.m.kind ≤ 28) ∧ y.c.m.kind % 2 = 1) : Cn Tryd.prog 28 [.pointer (some ⟨y.a, 0, none⟩), .pointer (some ⟨b5, 0, none⟩), .pointer (some ⟨b3, 0, none⟩)] (fun w => (∀ y ∈ cl, CellsAt y.a 0 y.c.cells w) ∧ CellsAt b5 0 (m.cells a c) w ∧ CellsAt b3 0 [.pointer (some ⟨pb, 0, none⟩)] w ∧ CellsAt pb 0 (CS19.cells s x none 0 0) w) [know (fun _ => True)] fun v G => v = .bool (fits19 s m y.c) ∧ G = [know (fun _ => True)] := by
  refine .enter Tryd.func28 rfl (by kernel_rfl) rfl fun R k => ?_
  refine .seq ?_
  refine .region ?_
  refine .rd (.assign rfl) ?_
  refine .nil ?_
  refine .seq ?_
  refine .drawsTo [3, 5, 11, 13, 18, 19, 22, 27, 31] [R] [(4, .bool (fits19 s m y.c))] [know (fun _ => True), R] (by kernel_rfl) ?_ ?_
  · refine .rp 0 rfl (by kernel_rfl) (by kernel_rfl) (by kernel_rfl) (Reads.pure (.move rfl)) ?_
    refine .rp 1 rfl (by kernel_rfl) (by kernel_rfl) (by kernel_rfl) (Reads.pure (.nilCheck rfl)) ?_
    refine .rp 2 rfl (by kernel_rfl) (by kernel_rfl) (by kernel_rfl) (Reads.pure (.fieldAddr fd65_5 rfl)) ?_
    refine .rd 3 rfl rfl (by kernel_rfl) (by kernel_rfl) (by kernel_rfl) (.load na3 rfl (Knows.one (i := 36) (Knows.pick .head (k.mono fun _ h => h.1 y hy)) rfl)) (.cons (.tail .head) .nil) ?_
    refine .rp 4 rfl (by kernel_rfl) (by kernel_rfl) (by kernel_rfl) (Reads.pure (.fieldAddr fd35_3 rfl)) ?_
    refine .rd 5 rfl rfl (by kernel_rfl) (by kernel_rfl) (by kernel_rfl) (.load na3 rfl (Knows.one (i := 3) (Knows.pick .head (k.mono fun _ h => h.2.1)) rfl)) (.cons (.tail .head) .nil) ?_
    refine .rp 6 rfl (by kernel_rfl) (by kernel_rfl) (by kernel_rfl) (Reads.pure (.eqI rfl rfl)) ?_
    refine .rp 7 rfl (by kernel_rfl) (by kernel_rfl) (by kernel_rfl) (Reads.pure (.move rfl)) ?_
    refine .split (t := 12) rfl (fun g1a => ?_) (fun g1a => ?_)
    · replace g1a := of_decide_eq_true g1a
      refine .rpG 8 (t := 12) rfl rfl rfl (by kernel_rfl) (by kernel_rfl) (by kernel_rfl) (Reads.pure (.move rfl)) ?_
      refine .rpG 9 (t := 12) rfl rfl rfl (by kernel_rfl) (by kernel_rfl) (by kernel_rfl) (Reads.pure (.nilCheck rfl)) ?_
      refine .rpG 10 (t := 12) rfl rfl rfl (by kernel_rfl) (by kernel_rfl) (by kernel_rfl) (Reads.pure (.fieldAddr fd65_6 rfl)) ?_
      refine .rdG 11 (t := 12) rfl rfl rfl rfl (by kernel_rfl) (by kernel_rfl) (by kernel_rfl) (.load na3 rfl (Knows.one (i := 37) (Knows.pick .head (k.mono fun _ h => h.1 y hy)) rfl)) (.cons (.tail .head) .nil) ?_
      refine .rpG 12 (t := 12) rfl rfl rfl (by kernel_rfl) (by kernel_rfl) (by kernel_rfl) (Reads.pure (.fieldAddr fd35_1 rfl)) ?_
      refine .rdG 13 (t := 12) rfl rfl rfl rfl (by kernel_rfl) (by kernel_rfl) (by kernel_rfl) (.load na3 rfl (Knows.one (i := 1) (Knows.pick .head (k.mono fun _ h => h.2.1)) rfl)) (.cons (.tail .head) .nil) ?_
      refine .rpG 14 (t := 12) rfl rfl rfl (by kernel_rfl) (by kernel_rfl) (by kernel_rfl) (Reads.pure (.eqI rfl rfl)) ?_
      refine .rp 15 rfl (by kernel_rfl) (by kernel_rfl) (by kernel_rfl) (Reads.pure (.pickT rfl rfl)) ?_
      refine .rp 16 rfl (by kernel_rfl) (by kernel_rfl) (by kernel_rfl) (Reads.pure (.move rfl)) ?_
      refine .split (t := 21) rfl (fun g1b => ?_) (fun g1b => ?_)
      · replace g1b := of_decide_eq_true g1b
        refine .rpG 17 (t := 21) rfl rfl rfl (by kernel_rfl) (by kernel_rfl) (by kernel_rfl) (Reads.pure (.fieldAddr fd35_2 rfl)) ?_
        refine .rdG 18 (t := 21) rfl rfl rfl rfl (by kernel_rfl) (by kernel_rfl) (by kernel_rfl) (.load na3 rfl (Knows.one (i := 2) (Knows.pick .head (k.mono fun _ h => h.2.1)) rfl)) (.cons (.tail .head) .nil) ?_
        refine .rdG 19 (t := 21) rfl rfl rfl rfl (by kernel_rfl) (by kernel_rfl) (by kernel_rfl) (.load na24 rfl (Knows.one (i := 0) (Knows.pick .head (k.mono fun _ h => h.2.2.1)) rfl)) (.cons (.tail .head) .nil) ?_
        refine .rpG 20 (t := 21) rfl rfl rfl (by kernel_rfl) (by kernel_rfl) (by kernel_rfl) (Reads.pure (.nilCheck rfl)) ?_
        refine .rpG 21 (t := 21) rfl rfl rfl (by kernel_rfl) (by kernel_rfl) (by kernel_rfl) (Reads.pure (.fieldAddr fd60_0 rfl)) ?_
        refine .rdG 22 (t := 21) rfl rfl rfl rfl (by kernel_rfl) (by kernel_rfl) (by kernel_rfl) (.load na3 rfl (Knows.one (i := 0) (Knows.pick .head (k.mono fun _ h => h.2.2.2)) rfl)) (.cons (.tail .head) .nil) ?_
        refine .rpG 23 (t := 21) rfl rfl rfl (by kernel_rfl) (by kernel_rfl) (by kernel_rfl) (Reads.pure (.eqI rfl rfl)) ?_
        refine .rp 24 rfl (by kernel_rfl) (by kernel_rfl) (by kernel_rfl) (Reads.pure (.pickT rfl rfl)) ?_
        refine .rp 25 rfl (by kernel_rfl) (by kernel_rfl) (by kernel_rfl) (Reads.pure (.move rfl)) ?_
        refine .split (t := 30) rfl (fun g1c => ?_) (fun g1c => ?_)
        · replace g1c := of_decide_eq_true g1c
          refine .rpG 26 (t := 30) rfl rfl rfl (by kernel_rfl) (by kernel_rfl) (by kernel_rfl) (Reads.pure (.fieldAddr fd35_0 rfl)) ?_
          refine .rdG 27 (t := 30) rfl rfl rfl rfl (by kernel_rfl) (by kernel_rfl) (by kernel_rfl) (.load na3 rfl (Knows.one (i := 0) (Knows.pick .head (k.mono fun _ h => h.2.1)) rfl)) (.cons (.tail .head) .nil) ?_
          refine .rpG 28 (t := 30) rfl rfl rfl (by kernel_rfl) (by kernel_rfl) (by kernel_rfl) (Reads.pure (.move rfl)) ?_
          refine .rpG 29 (t := 30) rfl rfl rfl (by kernel_rfl) (by kernel_rfl) (by kernel_rfl) (Reads.pure (.nilCheck rfl)) ?_
          refine .rpG 30 (t := 30) rfl rfl rfl (by kernel_rfl) (by kernel_rfl) (by kernel_rfl) (Reads.pure (.fieldAddr fd65_2 rfl)) ?_
          refine .rdG 31 (t := 30) rfl rfl rfl rfl (by kernel_rfl) (by kernel_rfl) (by kernel_rfl) (.loadN ia35 ts35 rfl rfl (Knows.sub (Knows.pick .head (k.mono fun _ h => h.1 y hy)) (i := 13) (ds := y.c.m.cells) rfl)) (.cons (.tail .head) .nil) ?_
          refine .efG 32 (t := 30) (by kernel_rfl) rfl rfl rfl (.fn rfl rfl .nil (fun _ _ _ => trivial) (answer_ok y.c.m hmk.1 hmk.2)) ?_
          rintro v _ ⟨G1, hq, rfl⟩
          obtain ⟨rfl, rfl⟩ := hq
          simp only [List.nil_append]
          refine ⟨.inr ⟨_, (.cons (.tail .head) .nil)⟩, ?_⟩
          refine .rpG 33 (t := 30) rfl rfl rfl (by kernel_rfl) (by kernel_rfl) (by kernel_rfl) (Reads.pure (.field1 (ft := 3) (off := 0) Tryd.underlying35 rfl na3 rfl rfl)) ?_
          refine .rpG 34 (t := 30) rfl rfl rfl (by kernel_rfl) (by kernel_rfl) (by kernel_rfl) (Reads.pure (.eqI rfl rfl)) ?_
          refine .rp 35 rfl (by kernel_rfl) (by kernel_rfl) (by kernel_rfl) (Reads.pure (.pickT rfl rfl)) ?_
          refine .rp 36 rfl (by kernel_rfl) (by kernel_rfl) (by kernel_rfl) (Reads.pure (.assign rfl)) ?_
          refine .alter (t := 4) (v' := .bool (fits19 s m y.c)) rfl (congrArg Value.bool (Eq.symm (show fits19 s m y.c = _ by unfold fits19; simp [g1a, g1b, g1c]))) ?_
          exact .done (by kernel_rfl) ⟨(.cons rfl .nil), _, (.cons .head (.cons .head .nil))⟩
        · replace g1c := of_decide_eq_false g1c
          refine .off 26 (t := 30) rfl rfl rfl rfl (by kernel_rfl) (by kernel_rfl) (by kernel_rfl) ?_
          refine .off 27 (t := 30) rfl rfl rfl rfl (by kernel_rfl) (by kernel_rfl) (by kernel_rfl) ?_
          refine .off 28 (t := 30) rfl rfl rfl rfl (by kernel_rfl) (by kernel_rfl) (by kernel_rfl) ?_
          refine .off 29 (t := 30) rfl rfl rfl rfl (by kernel_rfl) (by kernel_rfl) (by kernel_rfl) ?_
          refine .off 30 (t := 30) rfl rfl rfl rfl (by kernel_rfl) (by kernel_rfl) (by kernel_rfl) ?_
          refine .off 31 (t := 30) rfl rfl rfl rfl (by kernel_rfl) (by kernel_rfl) (by kernel_rfl) ?_
          refine .off 32 (t := 30) rfl rfl rfl rfl (by kernel_rfl) (by kernel_rfl) (by kernel_rfl) ?_
          refine .off 33 (t := 30) rfl rfl rfl rfl (by kernel_rfl) (by kernel_rfl) (by kernel_rfl) ?_
          refine .off 34 (t := 30) rfl rfl rfl rfl (by kernel_rfl) (by kernel_rfl) (by kernel_rfl) ?_
          refine .rp 35 rfl (by kernel_rfl) (by kernel_rfl) (by kernel_rfl) (Reads.pure (.pickF rfl rfl)) ?_
          refine .rp 36 rfl (by kernel_rfl) (by kernel_rfl) (by kernel_rfl) (Reads.pure (.assign rfl)) ?_
          refine .alter (t := 4) (v' := .bool (fits19 s m y.c)) rfl (congrArg Value.bool (Eq.symm (show fits19 s m y.c = _ by unfold fits19; simp [g1a, g1b, g1c]))) ?_
          exact .done (by kernel_rfl) ⟨(.cons rfl .nil), _, (.cons .head (.cons .head .nil))⟩
      · replace g1b := of_decide_eq_false g1b
        refine .off 17 (t := 21) rfl rfl rfl rfl (by kernel_rfl) (by kernel_rfl) (by kernel_rfl) ?_
        refine .off 18 (t := 21) rfl rfl rfl rfl (by kernel_rfl) (by kernel_rfl) (by kernel_rfl) ?_
        refine .off 19 (t := 21) rfl rfl rfl rfl (by kernel_rfl) (by kernel_rfl) (by kernel_rfl) ?_
        refine .off 20 (t := 21) rfl rfl rfl rfl (by kernel_rfl) (by kernel_rfl) (by kernel_rfl) ?_
        refine .off 21 (t := 21) rfl rfl rfl rfl (by kernel_rfl) (by kernel_rfl) (by kernel_rfl) ?_
        refine .off 22 (t := 21) rfl rfl rfl rfl (by kernel_rfl) (by kernel_rfl) (by kernel_rfl) ?_
        refine .off 23 (t := 21) rfl rfl rfl rfl (by kernel_rfl) (by kernel_rfl) (by kernel_rfl) ?_
        refine .rp 24 rfl (by kernel_rfl) (by kernel_rfl) (by kernel_rfl) (Reads.pure (.pickF rfl rfl)) ?_
        refine .rp 25 rfl (by kernel_rfl) (by kernel_rfl) (by kernel_rfl) (Reads.pure (.move rfl)) ?_
        refine .off 26 (t := 30) rfl rfl rfl rfl (by kernel_rfl) (by kernel_rfl) (by kernel_rfl) ?_
        refine .off 27 (t := 30) rfl rfl rfl rfl (by kernel_rfl) (by kernel_rfl) (by kernel_rfl) ?_
        refine .off 28 (t := 30) rfl rfl rfl rfl (by kernel_rfl) (by kernel_rfl) (by kernel_rfl) ?_
        refine .off 29 (t := 30) rfl rfl rfl rfl (by kernel_rfl) (by kernel_rfl) (by kernel_rfl) ?_
        refine .off 30 (t := 30) rfl rfl rfl rfl (by kernel_rfl) (by kernel_rfl) (by kernel_rfl) ?_
        refine .off 31 (t := 30) rfl rfl rfl rfl (by kernel_rfl) (by kernel_rfl) (by kernel_rfl) ?_
        refine .off 32 (t := 30) rfl rfl rfl rfl (by kernel_rfl) (by kernel_rfl) (by kernel_rfl) ?_
        refine .off 33 (t := 30) rfl rfl rfl rfl (by kernel_rfl) (by kernel_rfl) (by kernel_rfl) ?_
        refine .off 34 (t := 30) rfl rfl rfl rfl (by kernel_rfl) (by kernel_rfl) (by kernel_rfl) ?_
        refine .rp 35 rfl (by kernel_rfl) (by kernel_rfl) (by kernel_rfl) (Reads.pure (.pickF rfl rfl)) ?_
        refine .rp 36 rfl (by kernel_rfl) (by kernel_rfl) (by kernel_rfl) (Reads.pure (.assign rfl)) ?_
        refine .alter (t := 4) (v' := .bool (fits19 s m y.c)) rfl (congrArg Value.bool (Eq.symm (show fits19 s m y.c = _ by unfold fits19; simp [g1a, g1b]))) ?_
        exact .done (by kernel_rfl) ⟨(.cons rfl .nil), _, (.cons .head (.cons .head .nil))⟩
    · replace g1a := of_decide_eq_false g1a
      refine .off 8 (t := 12) rfl rfl rfl rfl (by kernel_rfl) (by kernel_rfl) (by kernel_rfl) ?_
      refine .off 9 (t := 12) rfl rfl rfl rfl (by kernel_rfl) (by kernel_rfl) (by kernel_rfl) ?_
      refine .off 10 (t := 12) rfl rfl rfl rfl (by kernel_rfl) (by kernel_rfl) (by kernel_rfl) ?_
      refine .off 11 (t := 12) rfl rfl rfl rfl (by kernel_rfl) (by kernel_rfl) (by kernel_rfl) ?_
      refine .off 12 (t := 12) rfl rfl rfl rfl (by kernel_rfl) (by kernel_rfl) (by kernel_rfl) ?_
      refine .off 13 (t := 12) rfl rfl rfl rfl (by kernel_rfl) (by kernel_rfl) (by kernel_rfl) ?_
      refine .off 14 (t := 12) rfl rfl rfl rfl (by kernel_rfl) (by kernel_rfl) (by kernel_rfl) ?_
      refine .rp 15 rfl (by kernel_rfl) (by kernel_rfl) (by kernel_rfl) (Reads.pure (.pickF rfl rfl)) ?_
      refine .rp 16 rfl (by kernel_rfl) (by kernel_rfl) (by kernel_rfl) (Reads.pure (.move rfl)) ?_
      refine .off 17 (t := 21) rfl rfl rfl rfl (by kernel_rfl) (by kernel_rfl) (by kernel_rfl) ?_
      refine .off 18 (t := 21) rfl rfl rfl rfl (by kernel_rfl) (by kernel_rfl) (by kernel_rfl) ?_
      refine .off 19 (t := 21) rfl rfl rfl rfl (by kernel_rfl) (by kernel_rfl) (by kernel_rfl) ?_
      refine .off 20 (t := 21) rfl rfl rfl rfl (by kernel_rfl) (by kernel_rfl) (by kernel_rfl) ?_
      refine .off 21 (t := 21) rfl rfl rfl rfl (by kernel_rfl) (by kernel_rfl) (by kernel_rfl) ?_
      refine .off 22 (t := 21) rfl rfl rfl rfl (by kernel_rfl) (by kernel_rfl) (by kernel_rfl) ?_
      refine .off 23 (t := 21) rfl rfl rfl rfl (by kernel_rfl) (by kernel_rfl) (by kernel_rfl) ?_
      refine .rp 24 rfl (by kernel_rfl) (by kernel_rfl) (by kernel_rfl) (Reads.pure (.pickF rfl rfl)) ?_
      refine .rp 25 rfl (by kernel_rfl) (by kernel_rfl) (by kernel_rfl) (Reads.pure (.move rfl)) ?_
      refine .off 26 (t := 30) rfl rfl rfl rfl (by kernel_rfl) (by kernel_rfl) (by kernel_rfl) ?_
      refine .off 27 (t := 30) rfl rfl rfl rfl (by kernel_rfl) (by kernel_rfl) (by kernel_rfl) ?_
      refine .off 28 (t := 30) rfl rfl rfl rfl (by kernel_rfl) (by kernel_rfl) (by kernel_rfl) ?_
      refine .off 29 (t := 30) rfl rfl rfl rfl (by kernel_rfl) (by kernel_rfl) (by kernel_rfl) ?_
      refine .off 30 (t := 30) rfl rfl rfl rfl (by kernel_rfl) (by kernel_rfl) (by kernel_rfl) ?_
      refine .off 31 (t := 30) rfl rfl rfl rfl (by kernel_rfl) (by kernel_rfl) (by kernel_rfl) ?_
      refine .off 32 (t := 30) rfl rfl rfl rfl (by kernel_rfl) (by kernel_rfl) (by kernel_rfl) ?_
      refine .off 33 (t := 30) rfl rfl rfl rfl (by kernel_rfl) (by kernel_rfl) (by kernel_rfl) ?_
      refine .off 34 (t := 30) rfl rfl rfl rfl (by kernel_rfl) (by kernel_rfl) (by kernel_rfl) ?_
      refine .rp 35 rfl (by kernel_rfl) (by kernel_rfl) (by kernel_rfl) (Reads.pure (.pickF rfl rfl)) ?_
      refine .rp 36 rfl (by kernel_rfl) (by kernel_rfl) (by kernel_rfl) (Reads.pure (.assign rfl)) ?_
      refine .alter (t := 4) (v' := .bool (fits19 s m y.c)) rfl (congrArg Value.bool (Eq.symm (show fits19 s m y.c = _ by unfold fits19; simp [g1a]))) ?_
      exact .done (by kernel_rfl) ⟨(.cons rfl .nil), _, (.cons .head (.cons .head .nil))⟩
  · refine .retP Tryd.func28 (.cons (.tmp rfl) .nil) (.cons .head (.cons .head .nil)) ?_
    exact ⟨[_], ⟨rfl, rfl⟩, rfl⟩

end Go.Proofs.YtankogdnhgmkhaaDoor


/- A separation logic over the given machine. Part 22: more on regions that draw. -/
namespace Go.Sp
open Go
section
variable {P : Program} {N : Nat} {ops : Array Oper} {E : Env} {Γ ΓS : List SProp} {K : Env → List SProp → Prop} {fuel : Nat} {listed : Array Bool} {L : List Nat}
theorem RunD.cast {X X' : SProp} (h : X = X') (n : RunD P N ops L ΓS fuel listed E (X' :: Γ) K) : RunD P N ops L ΓS fuel listed E (X :: Γ) K := by subst h; exact n
theorem RunD.nilArr (e s : Nat) (a : Option Addr) (n : RunD P N ops L ΓS fuel listed E (arr e s a 0 [] :: Γ) K) : RunD P N ops L ΓS fuel listed E Γ K := fun A F w ac Z hz hf hs k => n A F w ac Z hz hf hs.arr_none k
end
end Go.Sp

/- Chapter 19: whose answer it is, in plain Lean. -/
namespace Go.Proofs.YtankogdnhgmkhaaDoor
open Go Go.Sp

def dFit (s : CS19) (m : An19) (cl : List CallX) (i : Nat) (u : Unit) : Bool × Unit := ((cl[i]?).any fun y => fits19 s m y.c, u)
theorem dFit_at {s : CS19} {m : An19} {cl : List CallX} {i : Nat} {u : Unit} {y : CallX} (h : cl[i]? = some y) : dFit s m cl i u = (fits19 s m y.c, u) := by unfold dFit; rw [h]; rfl
theorem fit_hit {s : CS19} {m : An19} {cl : List CallX} {now : Int} {k : Nat} (hc : cl.map (·.c) = s.open_) (hk : k < cl.length) (hb : bN (dFit s m cl) () k = true) (hj : ∀ j < k, bN (dFit s m cl) () j = false) :
    ∃ y, cl[k]? = some y ∧ step s now m = stepAt s now m k y.c := by
  obtain ⟨y, hy⟩ : ∃ y, cl[k]? = some y := ⟨_, List.getElem?_eq_getElem hk⟩
  refine ⟨y, hy, ?_⟩
  have hy2 : s.open_[k]? = some y.c := by rw [← hc, List.getElem?_map, hy]; rfl
  have hb2 : fits19 s m y.c = true := by unfold bN at hb; rw [dFit_at hy] at hb; exact hb
  have : s.open_.findIdx? (fits19 s m) = some k := by
    rw [List.findIdx?_eq_some_iff_getElem]
    obtain ⟨hi, e⟩ := List.getElem?_eq_some_iff.1 hy2
    refine ⟨hi, by rw [e]; exact hb2, fun j hjk => ?_⟩
    obtain ⟨z, hz⟩ : ∃ z, cl[j]? = some z := ⟨_, List.getElem?_eq_getElem (by omega)⟩
    have h1 := hj j hjk
    unfold bN at h1; rw [dFit_at hz] at h1
    have hz2 : s.open_[j]? = some z.c := by rw [← hc, List.getElem?_map, hz]; rfl
    obtain ⟨_, e2⟩ := List.getElem?_eq_some_iff.1 hz2
    rw [e2]; simpa using h1
  unfold step; rw [this]; dsimp only; rw [hy2]
theorem fit_miss {s : CS19} {m : An19} {cl : List CallX} {now : Int} (hc : cl.map (·.c) = s.open_) (hj : ∀ j < cl.length, bN (dFit s m cl) () j = false) : step s now m = s := by
  have : s.open_.findIdx? (fits19 s m) = none := by
    rw [List.findIdx?_eq_none_iff]
    intro z hz
    rw [← hc] at hz
    obtain ⟨y, hy, rfl⟩ := List.mem_map.1 hz
    obtain ⟨j, hy⟩ := List.mem_iff_getElem?.1 hy
    have h1 := hj j (List.getElem?_eq_some_iff.1 hy).1
    unfold bN at h1; rw [dFit_at hy] at h1
    exact h1
  unfold step; rw [this]
theorem mset_mset {κ ν : Type} [DecidableEq κ] (T : List (κ × ν)) (q : κ) (v w : ν) : mset (mset T q v) q w = mset T q w := by
  unfold mset
  by_cases h : T.any (fun p => decide (q = p.1)) = true
  · rw [if_pos h, if_pos h]
    have h2 : (T.map fun p => if q = p.1 then (p.1, v) else p).any (fun p => decide (q = p.1)) = true := by
      rw [List.any_eq_true] at h ⊢
      obtain ⟨p, hp, he⟩ := h
      refine ⟨(p.1, v), List.mem_map.2 ⟨p, hp, ?_⟩, he⟩
      rw [if_pos (by simpa using he)]
    rw [if_pos h2, List.map_map]
    refine List.map_congr_left fun p _ => ?_
    show (if q = (if q = p.1 then (p.1, v) else p).1 then ((if q = p.1 then (p.1, v) else p).1, w) else (if q = p.1 then (p.1, v) else p)) = if q = p.1 then (p.1, w) else p
    by_cases hq : q = p.1
    · simp [hq]
    · simp [hq]
  · rw [if_neg h, if_neg h]
    have h2 : (T ++ [(q, v)]).any (fun p => decide (q = p.1)) = true := by rw [List.any_append]; simp
    rw [if_pos h2, List.map_append]
    have h3 : T.map (fun p => if q = p.1 then (p.1, w) else p) = T := by
      rw [List.map_congr_left (g := id)]
      · simp
      · intro p hp
        have : q ≠ p.1 := fun e => h (List.any_eq_true.2 ⟨p, hp, by simp [e]⟩)
        simp [this]
    rw [h3]; simp
theorem map_erase {α β : Type} (f : α → β) : ∀ (l : List α) (i : Nat), (l.eraseIdx i).map f = (l.map f).eraseIdx i
  | [], _ => rfl
  | _ :: _, 0 => rfl
  | x :: l, i + 1 => by rw [List.eraseIdx_cons_succ, List.map_cons, List.map_cons, List.eraseIdx_cons_succ, map_erase f l i]
theorem stepAt_led {s : CS19} {now : Int} {m : An19} {i : Nat} {x : Cl19} (h : m.err = 15 ∨ m.err = 22) : stepAt s now m i x = led s now i x m.last := if_pos h
theorem stepAt_wait {s : CS19} {now : Int} {m : An19} {i : Nat} {x : Cl19} (h : ¬ (m.err = 15 ∨ m.err = 22)) (h2 : (m.err = 19 ∧ x.m.kind = 23) ∨ (m.err = 3 ∧ x.s.kind = 7)) : stepAt s now m i x = { s with open_ := s.open_.set i { x with deadline := now + s.wait, refused := true } } := by unfold stepAt; rw [if_neg h, if_pos h2]
theorem stepAt_end {s : CS19} {now : Int} {m : An19} {i : Nat} {x : Cl19} (h : ¬ (m.err = 15 ∨ m.err = 22)) (h2 : ¬ ((m.err = 19 ∧ x.m.kind = 23) ∨ (m.err = 3 ∧ x.s.kind = 7))) : stepAt s now m i x = endS { s with open_ := s.open_.eraseIdx i } x m.err m := by unfold stepAt; rw [if_neg h, if_neg h2]
end Go.Proofs.YtankogdnhgmkhaaDoor

namespace Go.Proofs.YtankogdnhgmkhaaDoor
open Go Go.Sp

set_option linter.unusedVariables false

namespace con13
theorem kl3 : KL Tryd.prog 3 (fun n : Int => Value.int .i64 n) := .int Tryd.underlying3
theorem na24 : NotAgg Tryd.prog 24 := ⟨_, Tryd.underlying24, trivial⟩
theorem fd60_5 : FD Tryd.prog 60 5 5 := .of Tryd.underlying60 (by kernel_rfl)
theorem na58 : NotAgg Tryd.prog 58 := ⟨_, Tryd.underlying58, trivial⟩
theorem ts63 : TS Tryd.prog 63 1 := .of (by kernel_rfl)
theorem na63 : NotAgg Tryd.prog 63 := ⟨_, Tryd.underlying63, trivial⟩
theorem fd35_15 : FD Tryd.prog 35 15 15 := .of Tryd.underlying35 (by kernel_rfl)
theorem na25 : NotAgg Tryd.prog 25 := ⟨_, Tryd.underlying25, trivial⟩
theorem fd60_4 : FD Tryd.prog 60 4 4 := .of Tryd.underlying60 (by kernel_rfl)
theorem na57 : NotAgg Tryd.prog 57 := ⟨_, Tryd.underlying57, trivial⟩
theorem fd65_3 : FD Tryd.prog 65 3 34 := .of Tryd.underlying65 (by kernel_rfl)
theorem na3 : NotAgg Tryd.prog 3 := ⟨_, Tryd.underlying3, trivial⟩
theorem fd65_6 : FD Tryd.prog 65 6 37 := .of Tryd.underlying65 (by kernel_rfl)
theorem fd60_1 : FD Tryd.prog 60 1 1 := .of Tryd.underlying60 (by kernel_rfl)
theorem ti3 : TI Tryd.prog 3 1 8 (.int .i64 0) := .of (by kernel_rfl)
theorem fd65_8 : FD Tryd.prog 65 8 39 := .of Tryd.underlying65 (by kernel_rfl)
theorem ts3 : TS Tryd.prog 3 1 := .of (by kernel_rfl)
theorem fd65_4 : FD Tryd.prog 65 4 35 := .of Tryd.underlying65 (by kernel_rfl)
theorem ts4 : TS Tryd.prog 4 1 := .of (by kernel_rfl)
theorem fd60_3 : FD Tryd.prog 60 3 3 := .of Tryd.underlying60 (by kernel_rfl)
theorem na28 : NotAgg Tryd.prog 28 := ⟨_, Tryd.underlying28, trivial⟩
theorem fd35_7 : FD Tryd.prog 35 7 7 := .of Tryd.underlying35 (by kernel_rfl)
theorem fd65_2 : FD Tryd.prog 65 2 13 := .of Tryd.underlying65 (by kernel_rfl)
theorem fd35_0 : FD Tryd.prog 35 0 0 := .of Tryd.underlying35 (by kernel_rfl)
theorem ts58 : TS Tryd.prog 58 1 := .of (by kernel_rfl)
theorem ia35 : IsAgg Tryd.prog 35 := ⟨_, Tryd.underlying35, trivial⟩
theorem ts35 : TS Tryd.prog 35 21 := .of (by kernel_rfl)
theorem fd65_1 : FD Tryd.prog 65 1 1 := .of Tryd.underlying65 (by kernel_rfl)
theorem fd31_2 : FD Tryd.prog 31 2 2 := .of Tryd.underlying31 (by kernel_rfl)
end con13
open con13



set_option maxHeartbeats 4000000 in
set_option maxRecDepth 20000 in
theorem step_ok (pb : Nat) (now : Int) (s : CS19) (m : An19) (a : Option Addr) (c : Nat) (hB : PB s) (hpo : ∀ c ∈ s.open_, PO c) (he : s.ended.length ≤ 1000000) (hok : m.ok) (hnow : 0 ≤ now ∧ now ≤ 1000000000000) : Cn Tryd.prog 11 [.pointer (some ⟨pb, 0, none⟩), .int .i64 now, .agg (m.cells a c).toArray] (m.at_ a) [PR pb s] fun v G => v = .slice none 0 0 ∧ G = [PR pb (step s now m)] := by
  refine .enter Tryd.func11 rfl (by kernel_rfl) rfl fun R k => ?_
  refine .open_ (σ := PX19 × List CallX) (φ := fun y => y.2.map (·.c) = s.open_ ∧ y.1.un = s.open_.length) (B := fun y => PL pb s y.1 y.2 none 0 0) .head (fun _ h => h) (fun y hW => ?_)
  obtain ⟨x, cl⟩ := y
  dsimp only at hW ⊢
  unfold PL
  simp only [List.cons_append, List.nil_append]
  obtain ⟨hWc, hWn⟩ := hW
  have k' := k
  have hcl : cl.length = s.open_.length := by rw [← hWc, List.length_map]
  have hop := hB.opn
  obtain ⟨hwt1, hwt2⟩ := hB.wait
  refine .perm (.cons (.tail (.tail (.tail .head))) (.cons .head (.cons .head (.cons .head (.cons .head (.cons .head (.cons .head .nil))))))) ?_
  refine .cast (X' := arr 63 1 x.ua x.uc ((cl.map (·.a)).flatMap pcell)) (rfl) ?_
  refine .seq ?_
  refine .region ?_
  refine .ef (.box (l := [.pointer (some ⟨pb, 0, none⟩)]) rfl rfl (ones.of rfl)) ?_
  rintro _ _ ⟨b3, rfl, rfl⟩
  refine .ef (.box (l := m.cells a c) rfl rfl (m.cells_ones a c)) ?_
  rintro _ _ ⟨b5, rfl, rfl⟩
  refine .rd (.assign rfl) ?_
  refine .nil ?_
  refine .seq ?_
  refine .knowT (fun _ => True) (fun _ => trivial) ?_
  have hf : ∀ (i p : Nat), (cl.map (·.a))[i]? = some p → Cn Tryd.prog 28 (.pointer (some ⟨p, 0, none⟩) :: (#[.pointer (some ⟨b5, 0, none⟩), .pointer (some ⟨b3, 0, none⟩)] : Array Value).toList) (fun w => (∀ y ∈ cl, CellsAt y.a 0 y.c.cells w) ∧ CellsAt b5 0 (m.cells a c) w ∧ CellsAt b3 0 [.pointer (some ⟨pb, 0, none⟩)] w ∧ CellsAt pb 0 (CS19.cells s x none 0 0) w) [(fun _ => know (fun _ => True)) (stN (dFit s m cl) () i)] fun v G => v = .bool (bN (dFit s m cl) () i) ∧ G = [(fun _ => know (fun _ => True)) (stN (dFit s m cl) () (i + 1))] := fun i p hp => by
    obtain ⟨y, hy, rfl⟩ : ∃ y, cl[i]? = some y ∧ y.a = p := by
      rw [List.getElem?_map] at hp; cases e : cl[i]? with
      | none => rw [e] at hp; cases hp
      | some y => rw [e] at hp; exact ⟨y, rfl, by simpa using hp⟩
    have hym := List.mem_of_getElem? hy
    have hp2 := hpo y.c (by rw [← hWc]; exact List.mem_map.2 ⟨y, hym, rfl⟩)
    rw [show bN (dFit s m cl) () i = fits19 s m y.c by unfold bN; rw [dFit_at hy]]
    exact step1_ok pb b3 b5 s x cl m a c y hym ⟨⟨hp2.2.2.1, hp2.2.2.2.1⟩, hp2.2.2.2.2⟩
  refine .region ?_
  refine .rd (.ld na24 rfl (.tail (.tail .head)) rfl) ?_
  refine .rd (.nilCheck rfl) ?_
  refine .rd (.fieldAddr fd60_5 rfl) ?_
  refine .rd (.ld na58 rfl (.tail (.tail (.tail (.tail .head)))) (show (CS19.cells s x none 0 0)[5]? = some (.slice x.ua (cl.map (·.a)).length x.uc) by rw [List.length_map, hcl, ← hWn]; rfl)) ?_
  refine .rd (.makeFunc (cs := [.pointer (some ⟨b5, 0, none⟩), .pointer (some ⟨b3, 0, none⟩)]) rfl rfl) ?_
  refine .fn rfl rfl (.cons .head .nil) (fun A w h => ⟨(Knows.arr (.tail (.tail .head))) A w h, (fun y hy => (Knows.bag (.tail (.tail (.tail (.tail .head)))) hy (Knows.blk (l := y.c.cells) (e := 65) .head)) A w h), (Knows.blk .head) A w h, (Knows.blk (.tail .head)) A w h, (Knows.blk (.tail (.tail (.tail .head)))) A w h⟩) (indexf_ok (cl.map (·.a)) (fun _ => know (fun _ => True)) (dFit s m cl) () _ 28 #[.pointer (some ⟨b5, 0, none⟩), .pointer (some ⟨b3, 0, none⟩)] hf x.ua x.uc (by rw [List.length_map]; omega)) (fun v G1 hq => ?_)
  rw [List.length_map] at hq
  rcases hq with ⟨k0, hk0, hbk, hbj, rfl, rfl⟩ | ⟨hbj, rfl, rfl⟩
  · simp only [List.cons_append, List.nil_append]
    obtain ⟨y, hy, hst⟩ := fit_hit (now := now) hWc hk0 hbk hbj
    have hym := List.mem_of_getElem? hy
    have hp : (cl.map (·.a))[k0]? = some y.a := by rw [List.getElem?_map, hy]; rfl
    have hsy : s.open_[k0]? = some y.c := by rw [← hWc, List.getElem?_map, hy]; rfl
    obtain ⟨htr, hof, hmk⟩ := hpo y.c (List.mem_of_getElem? hsy)
    refine .rd (.assign rfl) ?_
    refine .nil ?_
    refine .seq ?_
    refine .seq ?_
    refine .region ?_
    refine .rd (.move rfl) ?_
    refine .rd (.lt rfl rfl) ?_
    refine .nil ?_
    refine .condP rfl (fun h2 => ?_) (fun h2 => ?_)
    · exact absurd h2 (by omega)
    · refine .skip ?_
      refine .seq ?_
      refine .tell (φ := ∃ b o, x.ua = some ⟨b, o, none⟩) ((Knows.arr (.tail (.tail (.tail .head)))).mono fun _ h => RowAt.addr h (by rw [flat1, List.length_map]; omega)) (fun hh => ?_)
      obtain ⟨b9, o9, hab⟩ := hh
      refine .region ?_
      refine .rd (.ld na24 rfl (.tail (.tail .head)) rfl) ?_
      refine .rd (.nilCheck rfl) ?_
      refine .rd (.fieldAddr fd60_5 rfl) ?_
      refine .rd (.ld na58 rfl (.tail (.tail (.tail (.tail .head)))) (show (CS19.cells s x none 0 0)[5]? = some (.slice x.ua (cl.map (·.a)).length x.uc) by rw [List.length_map, hcl, ← hWn]; rfl)) ?_
      refine .rd (.move rfl) ?_
      refine .rd (.indexAddr (b := b9) (o := o9) Tryd.underlying58 ts63 (by show some (Value.slice x.ua _ _) = _; rw [hab]) rfl (by omega) (by rw [List.length_map]; omega)) ?_
      refine .rd (.load na63 rfl (Knows.one (i := 0) (Knows.elem (f := pcell) pcell_len (by decide) ((Knows.arr (.tail (.tail (.tail .head)))).mono fun _ h => hab ▸ h) hp) rfl)) ?_
      refine .rd (.assign rfl) ?_
      refine .nil ?_
      refine .takeBag (x := y) (m := cl.eraseIdx k0) (.tail (.tail (.tail (.tail (.tail .head))))) (perm_out hy) ?_
      refine .cast (X' := blk y.a (Cl19.cells y.c) 65) (rfl) ?_
      refine .seq ?_
      refine .block ?_
      refine .seq ?_
      refine .region ?_
      refine RunO.join 9 41 (decide (m.err = 15 ∨ m.err = 22)) ?_ ?_
      · refine .rd (.fieldAddr fd35_15 rfl) ?_
        refine .rd (.ld na25 rfl (.tail (.tail (.tail .head))) rfl) ?_
        refine .rd (.eqI rfl rfl) ?_
        refine .rd (.move rfl) ?_
        refine .split (t := 45) rfl (fun g7 => ?_) (fun g7 => ?_)
        · replace g7 := of_decide_eq_true g7
          refine .off (t := 45) rfl rfl rfl ?_
          refine .off (t := 45) rfl rfl rfl ?_
          refine .off (t := 45) rfl rfl rfl ?_
          refine .rd (.pickT rfl rfl) ?_
          refine .rd (.assign rfl) ?_
          refine .nil ⟨rfl, ?_, by repeat (first | exact Le.refl _ | refine Le.skip rfl ?_)⟩
          exact congrArg (fun x => some (Value.bool x)) (Eq.symm (show decide (m.err = 15 ∨ m.err = 22) = _ by simp [g7]))
        · replace g7 := of_decide_eq_false g7
          refine .on (t := 45) rfl rfl ?_
          refine .rd (.fieldAddr fd35_15 rfl) ?_
          refine .on (t := 45) rfl rfl ?_
          refine .rd (.ld na25 rfl (.tail (.tail (.tail .head))) rfl) ?_
          refine .on (t := 45) rfl rfl ?_
          refine .rd (.eqI rfl rfl) ?_
          refine .rd (.pickF rfl rfl) ?_
          refine .rd (.assign rfl) ?_
          refine .nil ⟨rfl, ?_, by repeat (first | exact Le.refl _ | refine Le.skip rfl ?_)⟩
          exact congrArg (fun x => some (Value.bool x)) (Eq.symm (show decide (m.err = 15 ∨ m.err = 22) = _ by simp [g7]))
      refine .nil ?_
      refine .condP rfl (fun h7 => ?_) (fun h7 => ?_)
      · refine .seq ?_
        refine .drawsTo [0, 3, 7, 10, 14, 17, 20] [blk b3 [.pointer (some ⟨pb, 0, none⟩)] 24, blk pb (CS19.cells s x none 0 0) 60, blk b5 (m.cells a c) 35, blk y.a (Cl19.cells y.c) 65] [(1, .int .i64 now), (3, .pointer (some ⟨b3, 0, none⟩)), (5, .pointer (some ⟨b5, 0, none⟩)), (7, .int .i64 (k0 : Nat)), (8, .pointer (some ⟨y.a, 0, none⟩))] [blk b3 [.pointer (some ⟨pb, 0, none⟩)] 24, blk b5 (m.cells a c) 35, blk pb (CS19.cells s x none 0 0) 60, blk y.a (Cl19.cells ({ y.c with deadline := now + s.wait, refused := true })) 65, bag CB (cl.eraseIdx k0), IM x.ab (mset (mset s.aims y.c.aim ((mget s.aims y.c.aim).getD 0)) y.c.aim (behind s.brokers y.c.to)), arr 63 1 x.ua x.uc ((cl.map (·.a)).flatMap pcell), EL s x, know (KN s x), R] (by kernel_rfl) ?_ ?_
        · refine .rd 0 rfl rfl (by kernel_rfl) (by kernel_rfl) (by kernel_rfl) (.ld na24 rfl .head rfl) (.cons (.tail (.tail (.tail (.tail .head)))) (.cons (.tail (.tail (.tail (.tail (.tail .head))))) (.cons (.tail (.tail (.tail .head))) (.cons .head .nil)))) ?_
          refine .rp 1 rfl (by kernel_rfl) (by kernel_rfl) (by kernel_rfl) (Reads.pure (.nilCheck rfl)) ?_
          refine .rp 2 rfl (by kernel_rfl) (by kernel_rfl) (by kernel_rfl) (Reads.pure (.fieldAddr fd60_4 rfl)) ?_
          refine .rd 3 rfl rfl (by kernel_rfl) (by kernel_rfl) (by kernel_rfl) (.ld na57 rfl (.tail .head) rfl) (.cons (.tail (.tail (.tail (.tail .head)))) (.cons (.tail (.tail (.tail (.tail (.tail .head))))) (.cons (.tail (.tail (.tail .head))) (.cons .head .nil)))) ?_
          refine .rp 4 rfl (by kernel_rfl) (by kernel_rfl) (by kernel_rfl) (Reads.pure (.move rfl)) ?_
          refine .rp 5 rfl (by kernel_rfl) (by kernel_rfl) (by kernel_rfl) (Reads.pure (.nilCheck rfl)) ?_
          refine .rp 6 rfl (by kernel_rfl) (by kernel_rfl) (by kernel_rfl) (Reads.pure (.fieldAddr fd65_3 rfl)) ?_
          refine .rd 7 rfl rfl (by kernel_rfl) (by kernel_rfl) (by kernel_rfl) (.ld na3 rfl (.tail (.tail (.tail .head))) rfl) (.cons (.tail (.tail (.tail (.tail .head)))) (.cons (.tail (.tail (.tail (.tail (.tail .head))))) (.cons (.tail (.tail (.tail .head))) (.cons .head .nil)))) ?_
          refine .rp 8 rfl (by kernel_rfl) (by kernel_rfl) (by kernel_rfl) (Reads.pure (.move rfl)) ?_
          refine .rp 9 rfl (by kernel_rfl) (by kernel_rfl) (by kernel_rfl) (Reads.pure (.move rfl)) ?_
          refine .rd 10 rfl rfl (by kernel_rfl) (by kernel_rfl) (by kernel_rfl) (.ld na24 rfl .head rfl) (.cons (.tail (.tail (.tail (.tail .head)))) (.cons (.tail (.tail (.tail (.tail (.tail .head))))) (.cons (.tail (.tail (.tail .head))) (.cons .head .nil)))) ?_
          refine .rp 11 rfl (by kernel_rfl) (by kernel_rfl) (by kernel_rfl) (Reads.pure (.move rfl)) ?_
          refine .rp 12 rfl (by kernel_rfl) (by kernel_rfl) (by kernel_rfl) (Reads.pure (.nilCheck rfl)) ?_
          refine .rp 13 rfl (by kernel_rfl) (by kernel_rfl) (by kernel_rfl) (Reads.pure (.fieldAddr fd65_6 rfl)) ?_
          refine .rd 14 rfl rfl (by kernel_rfl) (by kernel_rfl) (by kernel_rfl) (.ld na3 rfl (.tail (.tail (.tail .head))) rfl) (.cons (.tail (.tail (.tail (.tail .head)))) (.cons (.tail (.tail (.tail (.tail (.tail .head))))) (.cons (.tail (.tail (.tail .head))) (.cons .head .nil)))) ?_
          refine .rp 16 rfl (by kernel_rfl) (by kernel_rfl) (by kernel_rfl) (Reads.pure (.move rfl)) ?_
          refine .rd 17 rfl rfl (by kernel_rfl) (by kernel_rfl) (by kernel_rfl) (.ld na24 rfl .head rfl) (.cons (.tail (.tail (.tail (.tail .head)))) (.cons (.tail (.tail (.tail (.tail (.tail .head))))) (.cons (.tail (.tail (.tail .head))) (.cons .head .nil)))) ?_
          refine .rp 18 rfl (by kernel_rfl) (by kernel_rfl) (by kernel_rfl) (Reads.pure (.nilCheck rfl)) ?_
          refine .rp 19 rfl (by kernel_rfl) (by kernel_rfl) (by kernel_rfl) (Reads.pure (.fieldAddr fd60_1 rfl)) ?_
          refine .rd 20 rfl rfl (by kernel_rfl) (by kernel_rfl) (by kernel_rfl) (.ld na3 rfl (.tail .head) rfl) (.cons (.tail (.tail (.tail (.tail .head)))) (.cons (.tail (.tail (.tail (.tail (.tail .head))))) (.cons (.tail (.tail (.tail .head))) (.cons .head .nil)))) ?_
          refine .rp 21 rfl (by kernel_rfl) (by kernel_rfl) (by kernel_rfl) (Reads.pure (.add rfl rfl (by show _ ≤ now + s.wait; omega) (by show now + s.wait ≤ _; omega))) ?_
          refine .ef 15 (by kernel_rfl) rfl (.fn rfl rfl .nil (fun A w h => ⟨(Knows.blk (.tail (.tail (.tail (.tail (.tail (.tail .head))))))) A w h, (Knows.know (.tail (.tail (.tail (.tail (.tail (.tail (.tail (.tail (.tail .head)))))))))) A w h⟩) (behind_ok pb s x none 0 0 y.c.to hB.bne hB.bn)) ?_
          rintro v _ ⟨G1, hq, rfl⟩
          obtain ⟨rfl, rfl⟩ := hq
          simp only [List.nil_append]
          refine ⟨.inr ⟨_, (.cons (.tail (.tail (.tail (.tail .head)))) (.cons (.tail (.tail (.tail (.tail (.tail .head))))) (.cons (.tail (.tail (.tail .head))) (.cons .head .nil))))⟩, ?_⟩
          refine .ef 22 (by kernel_rfl) rfl (.mapEntry (q := y.c.aim) (z0 := 0) (venc := Value.int .i64) kl3 Tryd.underlying57 (fun w => ti3.zero w) rfl rfl rfl (.tail (.tail (.tail (.tail (.tail (.tail (.tail .head)))))))) ?_
          rintro _ _ ⟨st, rfl, rfl⟩
          refine ⟨.inl (by kernel_rfl), ?_⟩
          refine .rp 23 rfl (by kernel_rfl) (by kernel_rfl) (by kernel_rfl) (Reads.pure (.extract rfl rfl)) ?_
          refine .ef0 24 (by kernel_rfl) rfl (.entryStore (s := st) (u := behind s.brokers y.c.to) rfl rfl rfl .head) ?_
          rintro _ _ rfl
          refine ⟨.inl (by kernel_rfl), ?_⟩
          refine .rp 25 rfl (by kernel_rfl) (by kernel_rfl) (by kernel_rfl) (Reads.pure (.nilCheck rfl)) ?_
          refine .rp 26 rfl (by kernel_rfl) (by kernel_rfl) (by kernel_rfl) (Reads.pure (.fieldAddr fd65_8 rfl)) ?_
          refine .ef0 27 (by kernel_rfl) rfl (.store ts3 rfl rfl (.tail .head) rfl (Nat.le_of_ble_eq_true rfl)) ?_
          rintro _ _ rfl
          refine ⟨.inl (by kernel_rfl), ?_⟩
          refine .rp 28 rfl (by kernel_rfl) (by kernel_rfl) (by kernel_rfl) (Reads.pure (.nilCheck rfl)) ?_
          refine .rp 29 rfl (by kernel_rfl) (by kernel_rfl) (by kernel_rfl) (Reads.pure (.fieldAddr fd65_4 rfl)) ?_
          refine .ef0 30 (by kernel_rfl) rfl (.store ts4 rfl rfl .head rfl (Nat.le_of_ble_eq_true rfl)) ?_
          rintro _ _ rfl
          refine ⟨.inl (by kernel_rfl), ?_⟩
          exact .done (by kernel_rfl) ⟨(.cons rfl (.cons rfl (.cons rfl (.cons rfl (.cons rfl .nil))))), _, (.cons (.tail (.tail (.tail (.tail (.tail .head))))) (.cons (.tail (.tail (.tail (.tail .head)))) (.cons (.tail (.tail (.tail (.tail (.tail .head))))) (.cons .head (.cons (.tail .head) (.cons .head (.cons (.tail .head) (.cons (.tail .head) (.cons (.tail .head) (.cons (.tail .head) .nil))))))))))⟩
        · refine .perm (.cons (.tail (.tail (.tail (.tail (.tail .head))))) (.cons .head (.cons .head (.cons .head (.cons .head (.cons .head (.cons .head (.cons .head (.cons .head (.cons .head .nil)))))))))) ?_
          refine .cast (X' := IM x.ab (mset s.aims y.c.aim (behind s.brokers y.c.to))) (by rw [mset_mset]) ?_
          refine .seq ?_
          refine .draws [0, 3, 5] [blk b3 [.pointer (some ⟨pb, 0, none⟩)] 24, blk pb (CS19.cells s x none 0 0) 60, blk b5 (m.cells a c) 35] (by kernel_rfl) ?_
          refine .rd 0 rfl rfl (by kernel_rfl) (by kernel_rfl) (by kernel_rfl) (.ld na24 rfl .head rfl) (.cons (.tail .head) (.cons (.tail (.tail .head)) (.cons (.tail .head) .nil))) ?_
          refine .rp 1 rfl (by kernel_rfl) (by kernel_rfl) (by kernel_rfl) (Reads.pure (.nilCheck rfl)) ?_
          refine .rp 2 rfl (by kernel_rfl) (by kernel_rfl) (by kernel_rfl) (Reads.pure (.fieldAddr fd60_3 rfl)) ?_
          refine .rd 3 rfl rfl (by kernel_rfl) (by kernel_rfl) (by kernel_rfl) (.ld na28 rfl (.tail .head) rfl) (.cons (.tail .head) (.cons (.tail (.tail .head)) (.cons (.tail .head) .nil))) ?_
          refine .rp 4 rfl (by kernel_rfl) (by kernel_rfl) (by kernel_rfl) (Reads.pure (.fieldAddr fd35_7 rfl)) ?_
          refine .rd 5 rfl rfl (by kernel_rfl) (by kernel_rfl) (by kernel_rfl) (.ld na3 rfl (.tail (.tail .head)) rfl) (.cons (.tail .head) (.cons (.tail (.tail .head)) (.cons (.tail .head) .nil))) ?_
          refine .ef 6 (by kernel_rfl) rfl (.fn rfl rfl .nil (((Knows.know (.tail (.tail (.tail (.tail (.tail (.tail (.tail (.tail .head))))))))).mono fun _ h => h)) (contains_ok x.ba x.bc s.brokers m.last (by have := hB.bn; omega))) ?_
          rintro v _ ⟨G1, hq, rfl⟩
          obtain ⟨rfl, rfl⟩ := hq
          simp only [List.nil_append]
          refine ⟨.inl (by kernel_rfl), ?_⟩
          refine .done (by kernel_rfl) ?_
          refine .condP rfl (fun h9 => ?_) (fun h9 => ?_)
          · refine .drawsTo [0, 3, 7, 10] [blk b3 [.pointer (some ⟨pb, 0, none⟩)] 24, blk pb (CS19.cells s x none 0 0) 60, blk b5 (m.cells a c) 35, blk y.a (Cl19.cells ({ y.c with deadline := now + s.wait, refused := true })) 65] [(1, .int .i64 now), (3, .pointer (some ⟨b3, 0, none⟩)), (5, .pointer (some ⟨b5, 0, none⟩)), (7, .int .i64 (k0 : Nat)), (8, .pointer (some ⟨y.a, 0, none⟩))] [blk b3 [.pointer (some ⟨pb, 0, none⟩)] 24, blk b5 (m.cells a c) 35, blk pb (CS19.cells s x none 0 0) 60, blk y.a (Cl19.cells ({ y.c with deadline := now + 1, refused := true })) 65, bag CB (cl.eraseIdx k0), IM x.ab (mset (mset (mset s.aims y.c.aim (behind s.brokers y.c.to)) y.c.aim ((mget (mset s.aims y.c.aim (behind s.brokers y.c.to)) y.c.aim).getD 0)) y.c.aim m.last), arr 63 1 x.ua x.uc ((cl.map (·.a)).flatMap pcell), EL s x, know (KN s x), R] (by kernel_rfl) ?_ ?_
            · refine .rd 0 rfl rfl (by kernel_rfl) (by kernel_rfl) (by kernel_rfl) (.ld na24 rfl .head rfl) (.cons (.tail .head) (.cons (.tail (.tail .head)) (.cons (.tail .head) (.cons (.tail .head) .nil)))) ?_
              refine .rp 1 rfl (by kernel_rfl) (by kernel_rfl) (by kernel_rfl) (Reads.pure (.nilCheck rfl)) ?_
              refine .rp 2 rfl (by kernel_rfl) (by kernel_rfl) (by kernel_rfl) (Reads.pure (.fieldAddr fd60_4 rfl)) ?_
              refine .rd 3 rfl rfl (by kernel_rfl) (by kernel_rfl) (by kernel_rfl) (.ld na57 rfl (.tail .head) rfl) (.cons (.tail .head) (.cons (.tail (.tail .head)) (.cons (.tail .head) (.cons (.tail .head) .nil)))) ?_
              refine .rp 4 rfl (by kernel_rfl) (by kernel_rfl) (by kernel_rfl) (Reads.pure (.move rfl)) ?_
              refine .rp 5 rfl (by kernel_rfl) (by kernel_rfl) (by kernel_rfl) (Reads.pure (.nilCheck rfl)) ?_
              refine .rp 6 rfl (by kernel_rfl) (by kernel_rfl) (by kernel_rfl) (Reads.pure (.fieldAddr fd65_3 rfl)) ?_
              refine .rd 7 rfl rfl (by kernel_rfl) (by kernel_rfl) (by kernel_rfl) (.ld na3 rfl (.tail (.tail (.tail .head))) rfl) (.cons (.tail .head) (.cons (.tail (.tail .head)) (.cons (.tail .head) (.cons (.tail .head) .nil)))) ?_
              refine .rp 8 rfl (by kernel_rfl) (by kernel_rfl) (by kernel_rfl) (Reads.pure (.move rfl)) ?_
              refine .rp 9 rfl (by kernel_rfl) (by kernel_rfl) (by kernel_rfl) (Reads.pure (.fieldAddr fd35_7 rfl)) ?_
              refine .rd 10 rfl rfl (by kernel_rfl) (by kernel_rfl) (by kernel_rfl) (.ld na3 rfl (.tail (.tail .head)) rfl) (.cons (.tail .head) (.cons (.tail (.tail .head)) (.cons (.tail .head) (.cons (.tail .head) .nil)))) ?_
              refine .rp 11 rfl (by kernel_rfl) (by kernel_rfl) (by kernel_rfl) (Reads.pure (.move rfl)) ?_
              refine .rp 12 rfl (by kernel_rfl) (by kernel_rfl) (by kernel_rfl) (Reads.pure (.add rfl rfl (by show _ ≤ now + 1; omega) (by show now + 1 ≤ _; omega))) ?_
              refine .ef 13 (by kernel_rfl) rfl (.mapEntry (q := y.c.aim) (z0 := 0) (venc := Value.int .i64) kl3 Tryd.underlying57 (fun w => ti3.zero w) rfl rfl rfl .head) ?_
              rintro _ _ ⟨st, rfl, rfl⟩
              refine ⟨.inr ⟨_, (.cons (.tail .head) (.cons (.tail (.tail .head)) (.cons (.tail .head) (.cons (.tail .head) .nil))))⟩, ?_⟩
              refine .rp 14 rfl (by kernel_rfl) (by kernel_rfl) (by kernel_rfl) (Reads.pure (.extract rfl rfl)) ?_
              refine .ef0 15 (by kernel_rfl) rfl (.entryStore (s := st) (u := m.last) rfl rfl rfl .head) ?_
              rintro _ _ rfl
              refine ⟨.inl (by kernel_rfl), ?_⟩
              refine .rp 16 rfl (by kernel_rfl) (by kernel_rfl) (by kernel_rfl) (Reads.pure (.nilCheck rfl)) ?_
              refine .rp 17 rfl (by kernel_rfl) (by kernel_rfl) (by kernel_rfl) (Reads.pure (.fieldAddr fd65_8 rfl)) ?_
              refine .ef0 18 (by kernel_rfl) rfl (.store ts3 rfl rfl (.tail (.tail (.tail (.tail .head)))) rfl (Nat.le_of_ble_eq_true rfl)) ?_
              rintro _ _ rfl
              refine ⟨.inl (by kernel_rfl), ?_⟩
              exact .done (by kernel_rfl) ⟨(.cons rfl (.cons rfl (.cons rfl (.cons rfl (.cons rfl .nil))))), _, (.cons (.tail (.tail .head)) (.cons (.tail (.tail .head)) (.cons (.tail (.tail .head)) (.cons .head (.cons (.tail .head) (.cons .head (.cons .head (.cons .head (.cons .head (.cons .head .nil))))))))))⟩
            · refine .perm (.cons (.tail (.tail (.tail (.tail (.tail .head))))) (.cons .head (.cons .head (.cons .head (.cons .head (.cons .head (.cons .head (.cons .head (.cons .head (.cons .head .nil)))))))))) ?_
              refine .cast (X' := IM x.ab (mset (mset s.aims y.c.aim (behind s.brokers y.c.to)) y.c.aim m.last)) (by rw [mset_mset]) ?_
              refine .inBlock ?_
              refine .seq ?_
              refine .region ?_
              refine .rd (.assign rfl) ?_
              refine .nil ?_
              have hled : led s now k0 y.c m.last = ({ s with aims := (mset (mset s.aims y.c.aim (behind s.brokers y.c.to)) y.c.aim m.last), open_ := s.open_.set k0 { y.c with deadline := now + 1, refused := true } } : CS19) := if_pos h9
              refine .perm (.cons (.tail (.tail (.tail (.tail .head)))) (.cons .head (.cons .head (.cons .head (.cons .head (.cons .head (.cons .head (.cons .head (.cons .head (.cons .head .nil)))))))))) ?_
              refine .cast (X' := CB ⟨y.a, ({ y.c with deadline := now + 1, refused := true } : Cl19)⟩) (rfl) ?_
              refine .close (X := bag CB (cl.set k0 ⟨y.a, ({ y.c with deadline := now + 1, refused := true } : Cl19)⟩)) (B := [CB ⟨y.a, ({ y.c with deadline := now + 1, refused := true } : Cl19)⟩, bag CB (cl.eraseIdx k0)]) (.cons .head (.cons (.tail (.tail (.tail (.tail .head)))) .nil)) (fun _ H => bag.put (perm_in hy) H) ?_
              refine .perm (.cons (.tail (.tail (.tail (.tail (.tail .head))))) (.cons .head (.cons .head (.cons .head (.cons .head (.cons .head (.cons .head (.cons .head (.cons .head .nil))))))))) ?_
              refine .cast (X' := arr 63 1 x.ua x.uc (ptrs (cl.set k0 ⟨y.a, ({ y.c with deadline := now + 1, refused := true } : Cl19)⟩))) (by unfold ptrs; rw [map_set_a hy]) ?_
              refine .perm (.cons (.tail (.tail (.tail (.tail (.tail .head))))) (.cons .head (.cons .head (.cons .head (.cons .head (.cons .head (.cons .head (.cons .head (.cons .head .nil))))))))) ?_
              refine .cast (X' := blk pb (CS19.cells ({ s with aims := (mset (mset s.aims y.c.aim (behind s.brokers y.c.to)) y.c.aim m.last), open_ := s.open_.set k0 { y.c with deadline := now + 1, refused := true } } : CS19) x none 0 0) 60) (rfl) ?_
              refine .perm (.cons (.tail (.tail (.tail .head))) (.cons .head (.cons .head (.cons .head (.cons .head (.cons .head (.cons .head (.cons .head (.cons .head .nil))))))))) ?_
              refine .cast (X' := IM x.ab (CS19.aims ({ s with aims := (mset (mset s.aims y.c.aim (behind s.brokers y.c.to)) y.c.aim m.last), open_ := s.open_.set k0 { y.c with deadline := now + 1, refused := true } } : CS19))) (rfl) ?_
              refine .perm (.cons (.tail (.tail (.tail (.tail (.tail (.tail .head)))))) (.cons .head (.cons .head (.cons .head (.cons .head (.cons .head (.cons .head (.cons .head (.cons .head .nil))))))))) ?_
              refine .cast (X' := EL ({ s with aims := (mset (mset s.aims y.c.aim (behind s.brokers y.c.to)) y.c.aim m.last), open_ := s.open_.set k0 { y.c with deadline := now + 1, refused := true } } : CS19) x) (rfl) ?_
              refine .perm (.cons (.tail (.tail (.tail (.tail (.tail (.tail (.tail .head))))))) (.cons .head (.cons .head (.cons .head (.cons .head (.cons .head (.cons .head (.cons .head (.cons .head .nil))))))))) ?_
              refine .cast (X' := know (KN ({ s with aims := (mset (mset s.aims y.c.aim (behind s.brokers y.c.to)) y.c.aim m.last), open_ := s.open_.set k0 { y.c with deadline := now + 1, refused := true } } : CS19) x)) (rfl) ?_
              rw [hst, stepAt_led h7, hled]
              refine .close (X := PR pb ({ s with aims := (mset (mset s.aims y.c.aim (behind s.brokers y.c.to)) y.c.aim m.last), open_ := s.open_.set k0 { y.c with deadline := now + 1, refused := true } } : CS19)) (.cons (.tail (.tail (.tail .head))) (.cons (.tail (.tail (.tail (.tail .head)))) (.cons (.tail (.tail .head)) (.cons (.tail (.tail .head)) (.cons (.tail .head) (.cons .head .nil)))))) (fun _ H => ⟨(x, cl.set k0 ⟨y.a, ({ y.c with deadline := now + 1, refused := true } : Cl19)⟩), ⟨by rw [List.map_set, hWc], by show x.un = (s.open_.set k0 _).length; rw [List.length_set]; exact hWn⟩, H⟩) ?_
              refine .retP Tryd.func11 (.cons (.tmp rfl) .nil) (.cons .head (.cons (.tail (.tail .head)) .nil)) ?_
              exact ⟨[_], ⟨rfl, rfl⟩, rfl⟩
          · refine .skip ?_
            refine .inBlock ?_
            refine .seq ?_
            refine .region ?_
            refine .rd (.assign rfl) ?_
            refine .nil ?_
            have hled : led s now k0 y.c m.last = ({ s with aims := (mset s.aims y.c.aim (behind s.brokers y.c.to)), open_ := s.open_.set k0 { y.c with deadline := now + s.wait, refused := true } } : CS19) := if_neg h9
            refine .perm (.cons (.tail (.tail (.tail (.tail .head)))) (.cons .head (.cons .head (.cons .head (.cons .head (.cons .head (.cons .head (.cons .head (.cons .head (.cons .head .nil)))))))))) ?_
            refine .cast (X' := CB ⟨y.a, ({ y.c with deadline := now + s.wait, refused := true } : Cl19)⟩) (rfl) ?_
            refine .close (X := bag CB (cl.set k0 ⟨y.a, ({ y.c with deadline := now + s.wait, refused := true } : Cl19)⟩)) (B := [CB ⟨y.a, ({ y.c with deadline := now + s.wait, refused := true } : Cl19)⟩, bag CB (cl.eraseIdx k0)]) (.cons .head (.cons (.tail (.tail (.tail (.tail .head)))) .nil)) (fun _ H => bag.put (perm_in hy) H) ?_
            refine .perm (.cons (.tail (.tail (.tail (.tail (.tail .head))))) (.cons .head (.cons .head (.cons .head (.cons .head (.cons .head (.cons .head (.cons .head (.cons .head .nil))))))))) ?_
            refine .cast (X' := arr 63 1 x.ua x.uc (ptrs (cl.set k0 ⟨y.a, ({ y.c with deadline := now + s.wait, refused := true } : Cl19)⟩))) (by unfold ptrs; rw [map_set_a hy]) ?_
            refine .perm (.cons (.tail (.tail (.tail (.tail (.tail .head))))) (.cons .head (.cons .head (.cons .head (.cons .head (.cons .head (.cons .head (.cons .head (.cons .head .nil))))))))) ?_
            refine .cast (X' := blk pb (CS19.cells ({ s with aims := (mset s.aims y.c.aim (behind s.brokers y.c.to)), open_ := s.open_.set k0 { y.c with deadline := now + s.wait, refused := true } } : CS19) x none 0 0) 60) (rfl) ?_
            refine .perm (.cons (.tail (.tail (.tail .head))) (.cons .head (.cons .head (.cons .head (.cons .head (.cons .head (.cons .head (.cons .head (.cons .head .nil))))))))) ?_
            refine .cast (X' := IM x.ab (CS19.aims ({ s with aims := (mset s.aims y.c.aim (behind s.brokers y.c.to)), open_ := s.open_.set k0 { y.c with deadline := now + s.wait, refused := true } } : CS19))) (rfl) ?_
            refine .perm (.cons (.tail (.tail (.tail (.tail (.tail (.tail .head)))))) (.cons .head (.cons .head (.cons .head (.cons .head (.cons .head (.cons .head (.cons .head (.cons .head .nil))))))))) ?_
            refine .cast (X' := EL ({ s with aims := (mset s.aims y.c.aim (behind s.brokers y.c.to)), open_ := s.open_.set k0 { y.c with deadline := now + s.wait, refused := true } } : CS19) x) (rfl) ?_
            refine .perm (.cons (.tail (.tail (.tail (.tail (.tail (.tail (.tail .head))))))) (.cons .head (.cons .head (.cons .head (.cons .head (.cons .head (.cons .head (.cons .head (.cons .head .nil))))))))) ?_
            refine .cast (X' := know (KN ({ s with aims := (mset s.aims y.c.aim (behind s.brokers y.c.to)), open_ := s.open_.set k0 { y.c with deadline := now + s.wait, refused := true } } : CS19) x)) (rfl) ?_
            rw [hst, stepAt_led h7, hled]
            refine .close (X := PR pb ({ s with aims := (mset s.aims y.c.aim (behind s.brokers y.c.to)), open_ := s.open_.set k0 { y.c with deadline := now + s.wait, refused := true } } : CS19)) (.cons (.tail (.tail (.tail .head))) (.cons (.tail (.tail (.tail (.tail .head)))) (.cons (.tail (.tail .head)) (.cons (.tail (.tail .head)) (.cons (.tail .head) (.cons .head .nil)))))) (fun _ H => ⟨(x, cl.set k0 ⟨y.a, ({ y.c with deadline := now + s.wait, refused := true } : Cl19)⟩), ⟨by rw [List.map_set, hWc], by show x.un = (s.open_.set k0 _).length; rw [List.length_set]; exact hWn⟩, H⟩) ?_
            refine .retP Tryd.func11 (.cons (.tmp rfl) .nil) (.cons .head (.cons (.tail (.tail .head)) .nil)) ?_
            exact ⟨[_], ⟨rfl, rfl⟩, rfl⟩
      · refine .seq ?_
        refine .seq ?_
        refine .region ?_
        refine RunO.join 12 102 (decide (m.err = 19 ∧ y.c.m.kind = 23)) ?_ ?_
        · refine .rd (.fieldAddr fd35_15 rfl) ?_
          refine .rd (.ld na25 rfl (.tail (.tail (.tail .head))) rfl) ?_
          refine .rd (.eqI rfl rfl) ?_
          refine .rd (.move rfl) ?_
          refine .split (t := 106) rfl (fun g11 => ?_) (fun g11 => ?_)
          · replace g11 := of_decide_eq_true g11
            refine .on (t := 106) rfl rfl ?_
            refine .rd (.move rfl) ?_
            refine .on (t := 106) rfl rfl ?_
            refine .rd (.nilCheck rfl) ?_
            refine .on (t := 106) rfl rfl ?_
            refine .rd (.fieldAddr fd65_2 rfl) ?_
            refine .on (t := 106) rfl rfl ?_
            refine .rd (.fieldAddr fd35_0 rfl) ?_
            refine .on (t := 106) rfl rfl ?_
            refine .rd (.ld na3 rfl .head rfl) ?_
            refine .on (t := 106) rfl rfl ?_
            refine .rd (.eqI rfl rfl) ?_
            refine .rd (.pickT rfl rfl) ?_
            refine .rd (.assign rfl) ?_
            refine .nil ⟨rfl, ?_, by repeat (first | exact Le.refl _ | refine Le.skip rfl ?_)⟩
            exact congrArg (fun x => some (Value.bool x)) (Eq.symm (show decide (m.err = 19 ∧ y.c.m.kind = 23) = _ by simp [g11]))
          · replace g11 := of_decide_eq_false g11
            refine .off (t := 106) rfl rfl rfl ?_
            refine .off (t := 106) rfl rfl rfl ?_
            refine .off (t := 106) rfl rfl rfl ?_
            refine .off (t := 106) rfl rfl rfl ?_
            refine .off (t := 106) rfl rfl rfl ?_
            refine .off (t := 106) rfl rfl rfl ?_
            refine .rd (.pickF rfl rfl) ?_
            refine .rd (.assign rfl) ?_
            refine .nil ⟨rfl, ?_, by repeat (first | exact Le.refl _ | refine Le.skip rfl ?_)⟩
            exact congrArg (fun x => some (Value.bool x)) (Eq.symm (show decide (m.err = 19 ∧ y.c.m.kind = 23) = _ by simp [g11]))
        refine .nil ?_
        refine .joinAt (E' := [(1, .int .i64 now), (3, .pointer (some ⟨b3, 0, none⟩)), (5, .pointer (some ⟨b5, 0, none⟩)), (7, .int .i64 (k0 : Nat)), (8, .pointer (some ⟨y.a, 0, none⟩)), (102, .bool (decide ((m.err = 19 ∧ y.c.m.kind = 23) ∨ (m.err = 3 ∧ y.c.s.kind = 7))))]) (Γ' := [blk b3 [.pointer (some ⟨pb, 0, none⟩)] 24, blk b5 (m.cells a c) 35, blk pb (CS19.cells s x none 0 0) 60, blk y.a (Cl19.cells (y.c)) 65, bag CB (cl.eraseIdx k0), IM x.ab s.aims, arr 63 1 x.ua x.uc ((cl.map (·.a)).flatMap pcell), EL s x, know (KN s x), R]) ?_ (fun fin => ?_)
        · refine .condP rfl (fun h100 => ?_) (fun h100 => ?_)
          · refine .region ?_
            refine .rd (.move rfl) ?_
            refine .rd (.move rfl) ?_
            refine .rd (.move rfl) ?_
            refine .rd (.ld na24 rfl .head rfl) ?_
            refine .rd (.nilCheck rfl) ?_
            refine .rd (.fieldAddr fd60_1 rfl) ?_
            refine .rd (.ld na3 rfl (.tail (.tail .head)) rfl) ?_
            refine .rd (.add rfl rfl (by show _ ≤ now + s.wait; omega) (by show now + s.wait ≤ _; omega)) ?_
            refine .rd (.nilCheck rfl) ?_
            refine .rd (.fieldAddr fd65_8 rfl) ?_
            refine .ef0 (.store ts3 rfl rfl (.tail (.tail (.tail .head))) rfl (Nat.le_of_ble_eq_true rfl)) ?_
            rintro _ _ rfl
            refine .rd (.nilCheck rfl) ?_
            refine .rd (.fieldAddr fd65_4 rfl) ?_
            refine .ef0 (.store ts4 rfl rfl .head rfl (Nat.le_of_ble_eq_true rfl)) ?_
            rintro _ _ rfl
            refine .nil ?_
            refine .inBlock ?_
            refine .seq ?_
            refine .region ?_
            refine .rd (.assign rfl) ?_
            refine .nil ?_
            refine .cast (X' := CB ⟨y.a, ({ y.c with deadline := now + s.wait, refused := true } : Cl19)⟩) (rfl) ?_
            refine .close (X := bag CB (cl.set k0 ⟨y.a, ({ y.c with deadline := now + s.wait, refused := true } : Cl19)⟩)) (B := [CB ⟨y.a, ({ y.c with deadline := now + s.wait, refused := true } : Cl19)⟩, bag CB (cl.eraseIdx k0)]) (.cons .head (.cons (.tail (.tail (.tail .head))) .nil)) (fun _ H => bag.put (perm_in hy) H) ?_
            refine .perm (.cons (.tail (.tail (.tail (.tail (.tail .head))))) (.cons .head (.cons .head (.cons .head (.cons .head (.cons .head (.cons .head (.cons .head (.cons .head .nil))))))))) ?_
            refine .cast (X' := arr 63 1 x.ua x.uc (ptrs (cl.set k0 ⟨y.a, ({ y.c with deadline := now + s.wait, refused := true } : Cl19)⟩))) (by unfold ptrs; rw [map_set_a hy]) ?_
            refine .perm (.cons (.tail (.tail (.tail (.tail .head)))) (.cons .head (.cons .head (.cons .head (.cons .head (.cons .head (.cons .head (.cons .head (.cons .head .nil))))))))) ?_
            refine .cast (X' := blk pb (CS19.cells ({ s with open_ := s.open_.set k0 { y.c with deadline := now + s.wait, refused := true } } : CS19) x none 0 0) 60) (rfl) ?_
            refine .perm (.cons (.tail (.tail (.tail (.tail (.tail .head))))) (.cons .head (.cons .head (.cons .head (.cons .head (.cons .head (.cons .head (.cons .head (.cons .head .nil))))))))) ?_
            refine .cast (X' := IM x.ab (CS19.aims ({ s with open_ := s.open_.set k0 { y.c with deadline := now + s.wait, refused := true } } : CS19))) (rfl) ?_
            refine .perm (.cons (.tail (.tail (.tail (.tail (.tail (.tail .head)))))) (.cons .head (.cons .head (.cons .head (.cons .head (.cons .head (.cons .head (.cons .head (.cons .head .nil))))))))) ?_
            refine .cast (X' := EL ({ s with open_ := s.open_.set k0 { y.c with deadline := now + s.wait, refused := true } } : CS19) x) (rfl) ?_
            refine .perm (.cons (.tail (.tail (.tail (.tail (.tail (.tail (.tail .head))))))) (.cons .head (.cons .head (.cons .head (.cons .head (.cons .head (.cons .head (.cons .head (.cons .head .nil))))))))) ?_
            refine .cast (X' := know (KN ({ s with open_ := s.open_.set k0 { y.c with deadline := now + s.wait, refused := true } } : CS19) x)) (rfl) ?_
            rw [hst, stepAt_wait h7 h100]
            refine .close (X := PR pb ({ s with open_ := s.open_.set k0 { y.c with deadline := now + s.wait, refused := true } } : CS19)) (.cons (.tail (.tail (.tail .head))) (.cons (.tail (.tail (.tail (.tail .head)))) (.cons (.tail (.tail .head)) (.cons (.tail (.tail .head)) (.cons (.tail .head) (.cons .head .nil)))))) (fun _ H => ⟨(x, cl.set k0 ⟨y.a, ({ y.c with deadline := now + s.wait, refused := true } : Cl19)⟩), ⟨by rw [List.map_set, hWc], by show x.un = (s.open_.set k0 _).length; rw [List.length_set]; exact hWn⟩, H⟩) ?_
            refine .retP Tryd.func11 (.cons (.tmp rfl) .nil) (.cons .head (.cons (.tail (.tail .head)) .nil)) ?_
            exact ⟨[_], ⟨rfl, rfl⟩, rfl⟩
          · refine .seq ?_
            refine .draws [0, 1] [blk b3 [.pointer (some ⟨pb, 0, none⟩)] 24] (by kernel_rfl) ?_
            refine .rd 0 rfl rfl (by kernel_rfl) (by kernel_rfl) (by kernel_rfl) (.ld na24 rfl .head rfl) (.cons .head .nil) ?_
            refine .rd 1 rfl rfl (by kernel_rfl) (by kernel_rfl) (by kernel_rfl) (.ld na24 rfl .head rfl) (.cons .head .nil) ?_
            refine .rp 2 rfl (by kernel_rfl) (by kernel_rfl) (by kernel_rfl) (Reads.pure (.nilCheck rfl)) ?_
            refine .rp 3 rfl (by kernel_rfl) (by kernel_rfl) (by kernel_rfl) (Reads.pure (.fieldAddr fd60_5 rfl)) ?_
            refine .rp 5 rfl (by kernel_rfl) (by kernel_rfl) (by kernel_rfl) (Reads.pure (.move rfl)) ?_
            refine .rp 6 rfl (by kernel_rfl) (by kernel_rfl) (by kernel_rfl) (Reads.pure (.move rfl)) ?_
            refine .rp 7 rfl (by kernel_rfl) (by kernel_rfl) (by kernel_rfl) (Reads.pure (.add rfl rfl (by omega) (by omega))) ?_
            refine .rs 4 (by kernel_rfl) rfl (.ld na58 rfl (.tail (.tail .head)) (show (CS19.cells s x none 0 0)[5]? = some (.slice x.ua (cl.map (·.a)).length x.uc) by rw [List.length_map, hcl, ← hWn]; rfl)) (.inr (.cons .head .nil)) ?_
            refine .ef 8 (by kernel_rfl) rfl (.fn rfl rfl (.cons (.tail (.tail (.tail (.tail (.tail (.tail .head)))))) .nil) (fun _ _ _ => trivial) (delete_ok x.ua x.uc (cl.map (·.a)) k0 (by rw [List.length_map]; omega) (by rw [List.length_map]; omega))) ?_
            rintro v _ ⟨G1, hq, rfl⟩
            obtain ⟨rfl, rfl⟩ := hq
            simp only [List.cons_append, List.nil_append]
            refine ⟨.inr ⟨_, (.cons (.tail .head) .nil)⟩, ?_⟩
            refine .rp 9 rfl (by kernel_rfl) (by kernel_rfl) (by kernel_rfl) (Reads.pure (.nilCheck rfl)) ?_
            refine .rp 10 rfl (by kernel_rfl) (by kernel_rfl) (by kernel_rfl) (Reads.pure (.fieldAddr fd60_5 rfl)) ?_
            refine .ef0 11 (by kernel_rfl) rfl (.store ts58 rfl rfl (.tail (.tail (.tail .head))) rfl (Nat.le_of_ble_eq_true rfl)) ?_
            rintro _ _ rfl
            refine ⟨.inl (by kernel_rfl), ?_⟩
            refine .done (by kernel_rfl) ?_
            refine .cast (X' := blk pb (CS19.cells ({ s with open_ := s.open_.eraseIdx k0 } : CS19) ({ x with un := cl.length - 1 } : PX19) none 0 0) 60) (by rw [List.length_map]; rfl) ?_
            refine .perm (.cons (.tail (.tail (.tail (.tail (.tail (.tail (.tail .head))))))) (.cons .head (.cons .head (.cons .head (.cons .head (.cons .head (.cons .head (.cons .head (.cons .head (.cons .head .nil)))))))))) ?_
            refine .cast (X' := EL ({ s with open_ := s.open_.eraseIdx k0 } : CS19) ({ x with un := cl.length - 1 } : PX19)) (rfl) ?_
            refine .region ?_
            refine .rd (.ld na24 rfl (.tail (.tail (.tail .head))) rfl) ?_
            refine .rd (.move rfl) ?_
            refine .rd (.fieldAddr fd35_15 rfl) ?_
            refine .rd (.ld na25 rfl (.tail (.tail (.tail (.tail .head)))) rfl) ?_
            refine .rd (.ldN ia35 ts35 rfl (.tail (.tail (.tail (.tail .head)))) rfl) ?_
            refine .fn rfl rfl (.cons (.tail .head) (.cons (.tail (.tail (.tail (.tail .head)))) (.cons .head .nil))) (Knows.pick (.tail (.tail (.tail (.tail (.tail (.tail .head)))))) k') (end_ok pb y.a ({ s with open_ := s.open_.eraseIdx k0 } : CS19) ({ x with un := cl.length - 1 } : PX19) none 0 0 y.c m.err m a c hok ⟨hof.1, by omega⟩ (by show s.ended.length ≤ _; omega)) (fun v G1 hq => ?_)
            obtain ⟨ea, ec, rfl⟩ := hq
            simp only [List.cons_append, List.nil_append]
            refine .nil ?_
            refine .inBlock ?_
            refine .seq ?_
            refine .region ?_
            refine .rd (.assign rfl) ?_
            refine .nil ?_
            refine .perm (.cons (.tail (.tail (.tail .head))) (.cons .head (.cons .head (.cons .head (.cons .head (.cons .head (.cons .head (.cons .head (.cons .head (.cons .head .nil)))))))))) ?_
            refine .cast (X' := arr 63 1 x.ua x.uc (ptrs (cl.eraseIdx k0))) (by unfold ptrs; rw [map_erase]) ?_
            refine .perm (.cons (.tail (.tail (.tail (.tail (.tail (.tail .head)))))) (.cons .head (.cons .head (.cons .head (.cons .head (.cons .head (.cons .head (.cons .head (.cons .head (.cons .head .nil)))))))))) ?_
            refine .cast (X' := bag CB (cl.eraseIdx k0)) (rfl) ?_
            refine .perm (.cons (.tail (.tail (.tail (.tail (.tail (.tail (.tail .head))))))) (.cons .head (.cons .head (.cons .head (.cons .head (.cons .head (.cons .head (.cons .head (.cons .head (.cons .head .nil)))))))))) ?_
            refine .cast (X' := IM x.ab (CS19.aims (endS ({ s with open_ := s.open_.eraseIdx k0 } : CS19) y.c m.err m))) (rfl) ?_
            refine .perm (.cons (.tail (.tail (.tail (.tail (.tail (.tail (.tail (.tail .head)))))))) (.cons .head (.cons .head (.cons .head (.cons .head (.cons .head (.cons .head (.cons .head (.cons .head (.cons .head .nil)))))))))) ?_
            refine .cast (X' := know (KN (endS ({ s with open_ := s.open_.eraseIdx k0 } : CS19) y.c m.err m) ({ x with un := cl.length - 1, ea := ea, ec := ec } : PX19))) (rfl) ?_
            rw [hst, stepAt_end h7 h100]
            refine .close (X := PR pb (endS ({ s with open_ := s.open_.eraseIdx k0 } : CS19) y.c m.err m)) (.cons (.tail (.tail (.tail (.tail .head)))) (.cons (.tail (.tail .head)) (.cons (.tail .head) (.cons (.tail .head) (.cons (.tail (.tail .head)) (.cons .head .nil)))))) (fun _ H => ⟨(({ x with un := cl.length - 1, ea := ea, ec := ec } : PX19), cl.eraseIdx k0), ⟨by rw [map_erase, hWc]; rfl, by show cl.length - 1 = (s.open_.eraseIdx k0).length; rw [List.length_eraseIdx_of_lt (by omega), hcl]⟩, H⟩) ?_
            refine .retP Tryd.func11 (.cons (.tmp rfl) .nil) (.cons .head (.cons (.tail (.tail (.tail .head))) .nil)) ?_
            exact ⟨[_], ⟨rfl, rfl⟩, rfl⟩
        · refine .condP rfl (fun h11 => ?_) (fun h11 => ?_)
          · refine .skip ?_
            refine .alter (t := 102) (v' := .bool (decide ((m.err = 19 ∧ y.c.m.kind = 23) ∨ (m.err = 3 ∧ y.c.s.kind = 7)))) rfl (congrArg Value.bool (Eq.symm (show decide ((m.err = 19 ∧ y.c.m.kind = 23) ∨ (m.err = 3 ∧ y.c.s.kind = 7)) = _ by simp [h11]))) ?_
            exact fin (.cons rfl (.cons rfl (.cons rfl (.cons rfl (.cons rfl (.cons rfl .nil)))))) (.cons (.tail (.tail (.tail (.tail .head)))) (.cons (.tail (.tail (.tail .head))) (.cons (.tail (.tail (.tail (.tail .head)))) (.cons .head (.cons .head (.cons (.tail (.tail .head)) (.cons (.tail .head) (.cons (.tail .head) (.cons (.tail .head) (.cons (.tail .head) .nil))))))))))
          · refine .region ?_
            refine .rd (.fieldAddr fd35_15 rfl) ?_
            refine .rd (.ld na25 rfl (.tail (.tail (.tail .head))) rfl) ?_
            refine .rd (.eqI rfl rfl) ?_
            refine .rd (.move rfl) ?_
            refine .split (t := 117) rfl (fun g12 => ?_) (fun g12 => ?_)
            · replace g12 := of_decide_eq_true g12
              refine .on (t := 117) rfl rfl ?_
              refine .rd (.move rfl) ?_
              refine .on (t := 117) rfl rfl ?_
              refine .rd (.nilCheck rfl) ?_
              refine .on (t := 117) rfl rfl ?_
              refine .rd (.fieldAddr fd65_1 rfl) ?_
              refine .on (t := 117) rfl rfl ?_
              refine .rd (.fieldAddr fd31_2 rfl) ?_
              refine .on (t := 117) rfl rfl ?_
              refine .rd (.ld na3 rfl .head rfl) ?_
              refine .on (t := 117) rfl rfl ?_
              refine .rd (.eqI rfl rfl) ?_
              refine .rd (.pickT rfl rfl) ?_
              refine .rd (.assign rfl) ?_
              refine .nil ?_
              refine .alter (t := 102) (v' := .bool (decide ((m.err = 19 ∧ y.c.m.kind = 23) ∨ (m.err = 3 ∧ y.c.s.kind = 7)))) rfl (congrArg Value.bool (Eq.symm (show decide ((m.err = 19 ∧ y.c.m.kind = 23) ∨ (m.err = 3 ∧ y.c.s.kind = 7)) = _ by simp [g12]))) ?_
              exact fin (.cons rfl (.cons rfl (.cons rfl (.cons rfl (.cons rfl (.cons rfl .nil)))))) (.cons (.tail (.tail (.tail (.tail .head)))) (.cons (.tail (.tail (.tail .head))) (.cons (.tail (.tail (.tail (.tail .head)))) (.cons .head (.cons .head (.cons (.tail (.tail .head)) (.cons (.tail .head) (.cons (.tail .head) (.cons (.tail .head) (.cons (.tail .head) .nil))))))))))
            · replace g12 := of_decide_eq_false g12
              refine .off (t := 117) rfl rfl rfl ?_
              refine .off (t := 117) rfl rfl rfl ?_
              refine .off (t := 117) rfl rfl rfl ?_
              refine .off (t := 117) rfl rfl rfl ?_
              refine .off (t := 117) rfl rfl rfl ?_
              refine .off (t := 117) rfl rfl rfl ?_
              refine .rd (.pickF rfl rfl) ?_
              refine .rd (.assign rfl) ?_
              refine .nil ?_
              refine .alter (t := 102) (v' := .bool (decide ((m.err = 19 ∧ y.c.m.kind = 23) ∨ (m.err = 3 ∧ y.c.s.kind = 7)))) rfl (congrArg Value.bool (Eq.symm (show decide ((m.err = 19 ∧ y.c.m.kind = 23) ∨ (m.err = 3 ∧ y.c.s.kind = 7)) = _ by simp [h11, g12]))) ?_
              exact fin (.cons rfl (.cons rfl (.cons rfl (.cons rfl (.cons rfl (.cons rfl .nil)))))) (.cons (.tail (.tail (.tail (.tail .head)))) (.cons (.tail (.tail (.tail .head))) (.cons (.tail (.tail (.tail (.tail .head)))) (.cons .head (.cons .head (.cons (.tail (.tail .head)) (.cons (.tail .head) (.cons (.tail .head) (.cons (.tail .head) (.cons (.tail .head) .nil))))))))))
  · simp only [List.cons_append, List.nil_append]
    refine .rd (.assign rfl) ?_
    refine .nil ?_
    refine .seq ?_
    refine .seq ?_
    refine .region ?_
    refine .rd (.move rfl) ?_
    refine .rd (.lt rfl rfl) ?_
    refine .nil ?_
    refine .condP rfl (fun h2 => ?_) (fun h2 => ?_)
    · refine .seq ?_
      refine .region ?_
      refine .rd (.assign rfl) ?_
      refine .nil ?_
      refine .perm (.cons (.tail (.tail (.tail .head))) (.cons .head (.cons .head (.cons .head (.cons .head (.cons .head (.cons .head (.cons .head (.cons .head (.cons .head .nil)))))))))) ?_
      refine .cast (X' := arr 63 1 x.ua x.uc (ptrs cl)) (rfl) ?_
      rw [fit_miss (now := now) hWc hbj]
      refine .close (X := PR pb s) (.cons (.tail (.tail (.tail (.tail .head)))) (.cons (.tail (.tail (.tail (.tail .head)))) (.cons (.tail (.tail (.tail (.tail .head)))) (.cons .head (.cons (.tail (.tail (.tail .head))) (.cons (.tail (.tail (.tail .head))) .nil)))))) (fun _ H => ⟨(x, cl), ⟨hWc, hWn⟩, H⟩) ?_
      refine .retP Tryd.func11 (.cons (.tmp rfl) .nil) (.cons .head (.cons (.tail (.tail (.tail .head))) .nil)) ?_
      exact ⟨[_], ⟨rfl, rfl⟩, rfl⟩
    · exact absurd h2 (by decide)

end Go.Proofs.YtankogdnhgmkhaaDoor


namespace Go.Proofs.YtankogdnhgmkhaaDoor
open Go Go.Sp

set_option linter.unusedVariables false

namespace con14
theorem ts3 : TS Tryd.prog 3 1 := .of (by kernel_rfl)
theorem na3 : NotAgg Tryd.prog 3 := ⟨_, Tryd.underlying3, trivial⟩
theorem bld60_0_1_2_3_4 (x0 : Int) (x1 : Int) (x2 : Int) (x3a : Option Addr) (x3n : Nat) (x3c : Nat) (x4 : Option Nat) (w : World) : (Instr.build 60 (([0, 1, 2, 3, 4] : List Nat).zip [.int .i64 x0, .int .i64 x1, .int .i64 x2, .slice x3a x3n x3c, .map x4]).toArray).run Tryd.prog w = .ok (.agg #[.int .i64 x0, .int .i64 x1, .int .i64 x2, .slice x3a x3n x3c, .map x4, .slice none 0 0, .int .i64 0, .int .i64 0, .slice none 0 0, .slice none 0 0]) w := by kernel_rfl
end con14
open con14

def lastOf (l : List Int) (i : Nat) : Int := if i = 0 then 0 else l.getD (i - 1) 0
def Rise (l : List Int) : Prop := l.length ≤ 100 ∧ 0 < l.length ∧ ∀ i, i < l.length → lastOf l i < l.getD i 0 ∧ l.getD i 0 ≤ 7 ∧ 0 < l.getD i 0
theorem lastOf_next {l : List Int} {i : Nat} {y : Int} (h : l[i]? = some y) : lastOf l (i + 1) = y := by
  unfold lastOf; rw [if_neg (by omega), Nat.add_sub_cancel, List.getD_eq_getElem?_getD, h]; rfl
theorem getD_at {l : List Int} {i : Nat} {y : Int} (h : l[i]? = some y) : l.getD i 0 = y := by rw [List.getD_eq_getElem?_getD, h]; rfl

set_option maxRecDepth 20000 in
theorem New_ok (id : Int) (a : Option Addr) (c : Nat) (l : List Int) (wait tries : Int) (hr : Rise l) (hid : 101 ≤ id ∧ id ≤ 999) (hw : 1 ≤ wait ∧ wait ≤ 1000000000) (ht : 1 ≤ tries ∧ tries ≤ 1000) : Cn Tryd.prog 7 [.int .i64 id, .slice a l.length c, .int .i64 wait, .int .i64 tries] (RowAt a (l.flatMap icell)) [] fun v G => ∃ pb, v = .tuple #[.pointer (some ⟨pb, 0, none⟩), .int .i64 0] ∧ G = [PR pb (new19 id wait tries l)] := by
  refine .enter Tryd.func7 rfl (by kernel_rfl) rfl fun R k => ?_
  refine .seq ?_
  refine .region ?_
  refine .rd (.assign rfl) ?_
  refine .rd (.assign rfl) ?_
  refine .nil ?_
  refine .seq ?_
  refine .region ?_
  refine .rd (.assign rfl) ?_
  refine .nil ?_
  refine .seq ?_
  refine .seq ?_
  refine .region ?_
  refine .rd (.move rfl) ?_
  refine .rd (.lenL rfl rfl Tryd.underlying28 rfl) ?_
  refine .rd (.move rfl) ?_
  refine .nil ?_
  refine .block ?_
  refine .loop (σ := Nat) (fun i => i ≤ l.length) (fun i => l.length - i) (fun i => [(0, .int .i64 id), (1, .slice a l.length c), (2, .int .i64 wait), (3, .int .i64 tries), (10, .int .i64 (lastOf l i)), (13, .slice a l.length c), (14, .int .i64 l.length), (15, .int .i64 (i : Nat))]) (fun i => [R]) 0 (Nat.zero_le _) (.cons rfl (.cons rfl (.cons rfl (.cons rfl (.cons rfl (.cons rfl (.cons rfl (.cons rfl .nil)))))))) (.cons .head .nil) (fun i hI ih => ?_)
  have hi := hI
  have hll := hr.1
  refine .seq ?_
  refine .region ?_
  refine .rd (.lt rfl rfl) ?_
  refine .nil ?_
  refine .seq ?_
  refine .condP rfl (fun h3 => ?_) (fun h3 => ?_)
  · refine .skip ?_
    refine .seq ?_
    refine .block ?_
    refine .seq ?_
    obtain ⟨y, hy⟩ : ∃ y, l[i]? = some y := ⟨_, List.getElem?_eq_getElem (by omega)⟩
    have hrl := hr.2.2 i (by omega)
    rw [getD_at hy] at hrl
    refine .tell (φ := ∃ b o, a = some ⟨b, o, none⟩) (Knows.pick .head (k.mono fun _ h => RowAt.addr h (by rw [flat_length icell_len]; omega))) (fun hh => ?_)
    obtain ⟨b, o, rfl⟩ := hh
    refine .region ?_
    refine .rd (.indexAddr Tryd.underlying28 ts3 rfl rfl (by omega) (by omega)) ?_
    refine .rd (.load na3 rfl (Knows.one (i := 0) (Knows.elem (f := icell) icell_len (by decide) (Knows.pick .head k) hy) rfl)) ?_
    refine .rd (.assign rfl) ?_
    refine .nil ?_
    refine .seq ?_
    refine .seq ?_
    refine .region ?_
    refine .rd (.move rfl) ?_
    refine .rd (.move rfl) ?_
    refine .rd (.le rfl rfl) ?_
    refine .alter (t := 21) (v' := .bool false) rfl (congrArg Value.bool (decide_eq_false (by omega))) ?_
    refine .rd (.move rfl) ?_
    refine .on (t := 22) rfl rfl ?_
    refine .rd (.move rfl) ?_
    refine .on (t := 22) rfl rfl ?_
    refine .rd (.gt rfl rfl) ?_
    refine .alter (t := 24) (v' := .bool false) rfl (congrArg Value.bool (decide_eq_false (by omega))) ?_
    refine .rd (.pickF rfl rfl) ?_
    refine .nil ?_
    refine .condF rfl ?_
    refine .skip ?_
    refine .region ?_
    refine .rd (.move rfl) ?_
    refine .rd (.assign rfl) ?_
    refine .nil ?_
    refine .inBlock ?_
    refine .region ?_
    refine .rd (.add rfl rfl (by omega) (by omega)) ?_
    refine .rd (.move rfl) ?_
    refine .nil ?_
    exact (ih (i + 1) (by omega) (by omega)).to (.cons rfl (.cons rfl (.cons rfl (.cons rfl (.cons (by rw [lastOf_next hy]; rfl) (.cons rfl (.cons rfl (.cons rfl .nil)))))))) (.cons .head .nil)
  · obtain rfl : i = l.length := by omega
    have hlast : 0 < lastOf l l.length := by
      have := (hr.2.2 (l.length - 1) (by have := hr.2.1; omega)).2.2
      unfold lastOf; rw [if_neg (by have := hr.2.1; omega)]; exact this
    refine .exit rfl ?_
    refine .seq ?_
    refine .seq ?_
    refine .region ?_
    refine .rd (.move rfl) ?_
    refine .rd (.eqI rfl rfl) ?_
    refine .alter (t := 29) (v' := .bool false) rfl (congrArg Value.bool (decide_eq_false (by omega))) ?_
    refine .rd (.move rfl) ?_
    refine .on (t := 30) rfl rfl ?_
    refine .rd (.move rfl) ?_
    refine .on (t := 30) rfl rfl ?_
    refine .rd (.lt rfl rfl) ?_
    refine .alter (t := 32) (v' := .bool false) rfl (congrArg Value.bool (decide_eq_false (by omega))) ?_
    refine .rd (.pickF rfl rfl) ?_
    refine .rd (.move rfl) ?_
    refine .on (t := 34) rfl rfl ?_
    refine .rd (.move rfl) ?_
    refine .on (t := 34) rfl rfl ?_
    refine .rd (.gt rfl rfl) ?_
    refine .alter (t := 36) (v' := .bool false) rfl (congrArg Value.bool (decide_eq_false (by omega))) ?_
    refine .rd (.pickF rfl rfl) ?_
    refine .rd (.move rfl) ?_
    refine .on (t := 38) rfl rfl ?_
    refine .rd (.move rfl) ?_
    refine .on (t := 38) rfl rfl ?_
    refine .rd (.lt rfl rfl) ?_
    refine .alter (t := 40) (v' := .bool false) rfl (congrArg Value.bool (decide_eq_false (by omega))) ?_
    refine .rd (.pickF rfl rfl) ?_
    refine .rd (.move rfl) ?_
    refine .on (t := 42) rfl rfl ?_
    refine .rd (.move rfl) ?_
    refine .on (t := 42) rfl rfl ?_
    refine .rd (.gt rfl rfl) ?_
    refine .alter (t := 44) (v' := .bool false) rfl (congrArg Value.bool (decide_eq_false (by omega))) ?_
    refine .rd (.pickF rfl rfl) ?_
    refine .rd (.move rfl) ?_
    refine .on (t := 46) rfl rfl ?_
    refine .rd (.move rfl) ?_
    refine .on (t := 46) rfl rfl ?_
    refine .rd (.lt rfl rfl) ?_
    refine .alter (t := 48) (v' := .bool false) rfl (congrArg Value.bool (decide_eq_false (by omega))) ?_
    refine .rd (.pickF rfl rfl) ?_
    refine .rd (.move rfl) ?_
    refine .on (t := 50) rfl rfl ?_
    refine .rd (.move rfl) ?_
    refine .on (t := 50) rfl rfl ?_
    refine .rd (.gt rfl rfl) ?_
    refine .alter (t := 52) (v' := .bool false) rfl (congrArg Value.bool (decide_eq_false (by omega))) ?_
    refine .rd (.pickF rfl rfl) ?_
    refine .nil ?_
    refine .condF rfl ?_
    refine .skip ?_
    refine .seq ?_
    refine .region ?_
    refine .rd (.move rfl) ?_
    refine .rd (.move rfl) ?_
    refine .rd (.move rfl) ?_
    refine .rd (.move rfl) ?_
    refine .fn rfl rfl .nil (Knows.pick .head k) (cloneI_ok a c l (by have := hr.1; omega)) (fun v G1 hq => ?_)
    obtain ⟨a', c', rfl, rfl⟩ := hq
    simp only [List.cons_append, List.nil_append]
    refine .ef (.makeMap (enc := Value.int .i64) (venc := Value.int .i64)) ?_
    rintro _ _ ⟨ab, rfl, rfl⟩
    refine .rd (.build rfl (bld60_0_1_2_3_4 _ _ _ _ _ _ _)) ?_
    refine .ef (.box (l := CS19.cells (new19 id wait tries l) (⟨a', c', ab, none, 0, 0, none, 0⟩ : PX19) none 0 0) rfl rfl (ones.of rfl)) ?_
    rintro _ _ ⟨pb, rfl, rfl⟩
    refine .rd (.assign rfl) ?_
    refine .rd (.assign rfl) ?_
    refine .nil ?_
    refine .settle (.tail (.tail .head)) (Settles.arr.mono fun w h => (show KN (new19 id wait tries l) (⟨a', c', ab, none, 0, 0, none, 0⟩ : PX19) w from h)) ?_
    refine .nilArr 31 12 none ?_
    refine .cast (X' := EL (new19 id wait tries l) (⟨a', c', ab, none, 0, 0, none, 0⟩ : PX19)) (rfl) ?_
    refine .nilArr 63 1 none ?_
    refine .cast (X' := arr 63 1 none 0 (ptrs [])) (rfl) ?_
    refine .perm (.cons (.tail (.tail (.tail (.tail .head)))) (.cons .head (.cons .head (.cons .head (.cons .head (.cons .head .nil)))))) ?_
    refine .cast (X' := IM ab (CS19.aims (new19 id wait tries l))) (rfl) ?_
    refine .close (X := bag CB []) (B := []) .nil (fun _ _ => trivial) ?_
    refine .close (X := PR pb (new19 id wait tries l)) (.cons (.tail (.tail (.tail (.tail (.tail .head))))) (.cons .head (.cons .head (.cons .head (.cons .head (.cons .head .nil)))))) (fun _ H => ⟨((⟨a', c', ab, none, 0, 0, none, 0⟩ : PX19), []), ⟨rfl, rfl⟩, H⟩) ?_
    refine .retP Tryd.func7 (.cons (.tmp rfl) (.cons (.tmp rfl) .nil)) (.cons .head (.cons .head .nil)) ?_
    exact ⟨[_], ⟨pb, rfl, rfl⟩, rfl⟩

set_option maxRecDepth 20000 in
theorem number_ok (n most : Int) : Cn Tryd.prog 16 [.int .i64 n, .int .i64 most] (fun _ => True) [] fun v G => v = .bool (number19 n most) ∧ G = [] := by
  refine .enter Tryd.func16 rfl (by kernel_rfl) rfl fun R k => ?_
  refine .seq ?_
  refine .region ?_
  refine .rd (.assign rfl) ?_
  refine .nil ?_
  refine .seq ?_
  refine .region ?_
  refine RunO.join 7 11 (number19 n most) ?_ ?_
  · refine .rd (.move rfl) ?_
    refine .rd (.ge rfl rfl) ?_
    refine .rd (.move rfl) ?_
    refine .split (t := 7) rfl (fun g1 => ?_) (fun g1 => ?_)
    · replace g1 := of_decide_eq_true g1
      refine .on (t := 7) rfl rfl ?_
      refine .rd (.move rfl) ?_
      refine .on (t := 7) rfl rfl ?_
      refine .rd (.move rfl) ?_
      refine .on (t := 7) rfl rfl ?_
      refine .rd (.le rfl rfl) ?_
      refine .rd (.pickT rfl rfl) ?_
      refine .nil ⟨rfl, ?_, by repeat (first | exact Le.refl _ | refine Le.skip rfl ?_)⟩
      exact congrArg (fun x => some (Value.bool x)) (Eq.symm (show number19 n most = _ by unfold number19; simp [g1]))
    · replace g1 := of_decide_eq_false g1
      refine .off (t := 7) rfl rfl rfl ?_
      refine .off (t := 7) rfl rfl rfl ?_
      refine .off (t := 7) rfl rfl rfl ?_
      refine .rd (.pickF rfl rfl) ?_
      refine .nil ⟨rfl, ?_, by repeat (first | exact Le.refl _ | refine Le.skip rfl ?_)⟩
      exact congrArg (fun x => some (Value.bool x)) (Eq.symm (show number19 n most = _ by unfold number19; simp [g1]))
  refine .rd (.assign rfl) ?_
  refine .nil ?_
  refine .retP Tryd.func16 (.cons (.tmp rfl) .nil) (.cons .head .nil) ?_
  exact ⟨[], ⟨rfl, rfl⟩, rfl⟩

end Go.Proofs.YtankogdnhgmkhaaDoor


namespace Go.Proofs.YtankogdnhgmkhaaDoor
open Go Go.Sp

set_option linter.unusedVariables false

namespace con15
theorem fd31_2 : FD Tryd.prog 31 2 2 := .of Tryd.underlying31 (by kernel_rfl)
theorem na3 : NotAgg Tryd.prog 3 := ⟨_, Tryd.underlying3, trivial⟩
theorem fd31_8 : FD Tryd.prog 31 8 8 := .of Tryd.underlying31 (by kernel_rfl)
theorem na9 : NotAgg Tryd.prog 9 := ⟨_, Tryd.underlying9, trivial⟩
theorem fd31_3 : FD Tryd.prog 31 3 3 := .of Tryd.underlying31 (by kernel_rfl)
theorem fd31_4 : FD Tryd.prog 31 4 4 := .of Tryd.underlying31 (by kernel_rfl)
theorem fd31_5 : FD Tryd.prog 31 5 5 := .of Tryd.underlying31 (by kernel_rfl)
theorem fd31_7 : FD Tryd.prog 31 7 7 := .of Tryd.underlying31 (by kernel_rfl)
theorem fd60_5 : FD Tryd.prog 60 5 5 := .of Tryd.underlying60 (by kernel_rfl)
theorem na58 : NotAgg Tryd.prog 58 := ⟨_, Tryd.underlying58, trivial⟩
theorem fd60_6 : FD Tryd.prog 60 6 6 := .of Tryd.underlying60 (by kernel_rfl)
theorem ts3 : TS Tryd.prog 3 1 := .of (by kernel_rfl)
theorem bld31_2_3_4_5_7_8 (x0 : Int) (x1 : Int) (x2 : Int) (x3 : Int) (x4 : Int) (x5 : ByteArray) (w : World) : (Instr.build 31 (([2, 3, 4, 5, 7, 8] : List Nat).zip [.int .i64 x0, .int .i64 x1, .int .i64 x2, .int .i64 x3, .int .i64 x4, .string x5]).toArray).run Tryd.prog w = .ok (.agg #[.int .i64 0, .int .i64 0, .int .i64 x0, .int .i64 x1, .int .i64 x2, .int .i64 x3, .int .i64 0, .int .i64 x4, .string x5, .string ⟨#[]⟩, .int .i64 0, .bool false]) w := by kernel_rfl
theorem fd60_2 : FD Tryd.prog 60 2 2 := .of Tryd.underlying60 (by kernel_rfl)
theorem bld65_0_1_7 (x0 : Int) (x1_0 : Int) (x1_1 : Int) (x1_2 : Int) (x1_3 : Int) (x1_4 : Int) (x1_5 : Int) (x1_6 : Int) (x1_7 : Int) (x1_8 : ByteArray) (x1_9 : ByteArray) (x1_10 : Int) (x1_11 : Bool) (x2 : Int) (w : World) : (Instr.build 65 (([0, 1, 7] : List Nat).zip [.int .i64 x0, .agg #[.int .i64 x1_0, .int .i64 x1_1, .int .i64 x1_2, .int .i64 x1_3, .int .i64 x1_4, .int .i64 x1_5, .int .i64 x1_6, .int .i64 x1_7, .string x1_8, .string x1_9, .int .i64 x1_10, .bool x1_11], .int .i64 x2]).toArray).run Tryd.prog w = .ok (.agg #[.int .i64 x0, .int .i64 x1_0, .int .i64 x1_1, .int .i64 x1_2, .int .i64 x1_3, .int .i64 x1_4, .int .i64 x1_5, .int .i64 x1_6, .int .i64 x1_7, .string x1_8, .string x1_9, .int .i64 x1_10, .bool x1_11, .int .i64 0, .int .i64 0, .int .i64 0, .int .i64 0, .int .i64 0, .int .i64 0, .int .i64 0, .int .i64 0, .int .i64 0, .int .i64 0, .int .i64 0, .int .i64 0, .int .i64 0, .int .i64 0, .int .i64 0, .int .i64 0, .string ⟨#[]⟩, .string ⟨#[]⟩, .slice none 0 0, .slice none 0 0, .slice none 0 0, .int .i64 0, .bool false, .int .i64 0, .int .i64 0, .int .i64 x2, .int .i64 0]) w := by kernel_rfl
theorem ia31 : IsAgg Tryd.prog 31 := ⟨_, Tryd.underlying31, trivial⟩
theorem ts31 : TS Tryd.prog 31 12 := .of (by kernel_rfl)
theorem fd65_2 : FD Tryd.prog 65 2 13 := .of Tryd.underlying65 (by kernel_rfl)
theorem ts35 : TS Tryd.prog 35 21 := .of (by kernel_rfl)
theorem fd65_3 : FD Tryd.prog 65 3 34 := .of Tryd.underlying65 (by kernel_rfl)
theorem ti63 : TI Tryd.prog 63 1 8 (.pointer none) := .of (by kernel_rfl)
theorem ts58 : TS Tryd.prog 58 1 := .of (by kernel_rfl)
theorem fd65_0 : FD Tryd.prog 65 0 0 := .of Tryd.underlying65 (by kernel_rfl)
theorem ti3 : TI Tryd.prog 3 1 8 (.int .i64 0) := .of (by kernel_rfl)
theorem fd35_20 : FD Tryd.prog 35 20 20 := .of Tryd.underlying35 (by kernel_rfl)
theorem ts28 : TS Tryd.prog 28 1 := .of (by kernel_rfl)
theorem fd31_9 : FD Tryd.prog 31 9 9 := .of Tryd.underlying31 (by kernel_rfl)
end con15
open con15

theorem asks4 {q : Sn19} (h : q.kind = 4) (z : Sl19) : asksM q z = ⟨23, 0, 0, 0, 0, q.offset, q.part, 3, q.pid, q.seq, q.name, z⟩ := by unfold asksM; simp [h]
theorem ptrs_snoc (cl : List CallX) (y : CallX) : ptrs (cl ++ [y]) = ptrs cl ++ pcell y.a := by simp [ptrs]
theorem ptrs_len (cl : List CallX) : (ptrs cl).length = cl.length := by unfold ptrs; rw [flat_length pcell_len, List.length_map, Nat.mul_one]

set_option maxHeartbeats 4000000 in
set_option maxRecDepth 20000 in
theorem call_ok (pb : Nat) (now : Int) (s : CS19) (q : Sn19) (φ : World → Prop) (hB : PB s) (hcn : s.calls < 1000000) (hnow : 0 ≤ now ∧ now ≤ 1000000000000) (hL : q.kind = 8 → Cn Tryd.prog 17 [.string (str q.text)] φ [] fun v G => ∃ a n c b, v = .tuple #[.slice a n c, .bool b] ∧ G = []) : Cn Tryd.prog 9 [.pointer (some ⟨pb, 0, none⟩), .int .i64 now, .agg q.cells.toArray] φ [PR pb s] fun v G =>
  ((may19 q = true → q.kind = 8) ∧ v = .tuple #[.int .i64 0, .slice none 0 0, .int .i64 1] ∧ G = [PR pb s]) ∨ (20 ≤ s.open_.length ∧ v = .tuple #[.int .i64 0, .slice none 0 0, .int .i64 3] ∧ G = [PR pb s]) ∨
  (∃ z oa oc, may19 q = true ∧ s.open_.length < 20 ∧ (q.kind = 4 → z.2.1 = 1) ∧ v = .tuple #[.int .i64 (s.calls + 1), .slice oa 1 oc, .int .i64 0] ∧ G = [PR pb (callS s now q z), Said oa oc [(askC s now (newC s q z)).m]]) := by
  refine .enter Tryd.func9 rfl (by kernel_rfl) rfl fun R k => ?_
  refine .open_ (σ := PX19 × List CallX) (φ := fun y => y.2.map (·.c) = s.open_ ∧ y.1.un = s.open_.length) (B := fun y => PL pb s y.1 y.2 none 0 0) .head (fun _ h => h) (fun y hW => ?_)
  obtain ⟨x, cl⟩ := y
  dsimp only at hW ⊢
  unfold PL
  simp only [List.cons_append, List.nil_append]
  obtain ⟨hWc, hWn⟩ := hW
  have hcl : cl.length = s.open_.length := by rw [← hWc, List.length_map]
  have hop := hB.opn
  obtain ⟨hc1, hc2⟩ := hB.calls
  refine .seq ?_
  refine .region ?_
  refine .ef (.box (l := q.cells) rfl rfl q.cells_ones) ?_
  rintro _ _ ⟨b5, rfl, rfl⟩
  refine .rd (.assign rfl) ?_
  refine .rd (.assign rfl) ?_
  refine .rd (.assign rfl) ?_
  refine .nil ?_
  refine .seq ?_
  refine .region ?_
  refine .rd (.assign rfl) ?_
  refine .nil ?_
  refine .seq ?_
  refine .seq ?_
  refine .region ?_
  refine RunO.join 42 55 (!may19 q) ?_ ?_
  · refine .rd (.fieldAddr fd31_2 rfl) ?_
    refine .rd (.ld na3 rfl .head rfl) ?_
    refine .rd (.lt rfl rfl) ?_
    refine .rd (.move rfl) ?_
    refine .split (t := 17) rfl (fun g2_3 => ?_) (fun g2_3 => ?_)
    · replace g2_3 := of_decide_eq_true g2_3
      refine .off (t := 17) rfl rfl rfl ?_
      refine .off (t := 17) rfl rfl rfl ?_
      refine .off (t := 17) rfl rfl rfl ?_
      refine .rd (.pickT rfl rfl) ?_
      refine .rd (.move rfl) ?_
      refine .off (t := 22) rfl rfl rfl ?_
      refine .off (t := 22) rfl rfl rfl ?_
      refine .off (t := 22) rfl rfl rfl ?_
      refine .off (t := 22) rfl rfl rfl ?_
      refine .rd (.pickT rfl rfl) ?_
      refine .rd (.move rfl) ?_
      refine .off (t := 28) rfl rfl rfl ?_
      refine .off (t := 28) rfl rfl rfl ?_
      refine .off (t := 28) rfl rfl rfl ?_
      refine .off (t := 28) rfl rfl rfl ?_
      refine .off (t := 28) rfl rfl rfl ?_
      refine .rd (.pickT rfl rfl) ?_
      refine .rd (.move rfl) ?_
      refine .off (t := 35) rfl rfl rfl ?_
      refine .off (t := 35) rfl rfl rfl ?_
      refine .off (t := 35) rfl rfl rfl ?_
      refine .off (t := 35) rfl rfl rfl ?_
      refine .off (t := 35) rfl rfl rfl ?_
      refine .rd (.pickT rfl rfl) ?_
      refine .rd (.move rfl) ?_
      refine .off (t := 42) rfl rfl rfl ?_
      refine .off (t := 42) rfl rfl rfl ?_
      refine .off (t := 42) rfl rfl rfl ?_
      refine .off (t := 42) rfl rfl rfl ?_
      refine .off (t := 42) rfl rfl rfl ?_
      refine .rd (.pickT rfl rfl) ?_
      refine .rd (.move rfl) ?_
      refine .off (t := 49) rfl rfl rfl ?_
      refine .off (t := 49) rfl rfl rfl ?_
      refine .off (t := 49) rfl rfl rfl ?_
      refine .off (t := 49) rfl rfl rfl ?_
      refine .off (t := 49) rfl rfl rfl ?_
      refine .rd (.pickT rfl rfl) ?_
      refine .nil ⟨rfl, ?_, by repeat (first | exact Le.refl _ | refine Le.skip rfl ?_)⟩
      exact congrArg (fun x => some (Value.bool x)) (Eq.symm (show (!may19 q) = _ by (unfold may19; rw [show (decide (1 ≤ q.kind)) = false from decide_eq_false (by omega)]; try rfl)))
    · replace g2_3 := of_decide_eq_false g2_3
      refine .on (t := 17) rfl rfl ?_
      refine .rd (.fieldAddr fd31_2 rfl) ?_
      refine .on (t := 17) rfl rfl ?_
      refine .rd (.ld na3 rfl .head rfl) ?_
      refine .on (t := 17) rfl rfl ?_
      refine .rd (.gt rfl rfl) ?_
      refine .rd (.pickF rfl rfl) ?_
      refine .rd (.move rfl) ?_
      refine .split (t := 22) rfl (fun g2_8 => ?_) (fun g2_8 => ?_)
      · replace g2_8 := of_decide_eq_true g2_8
        refine .off (t := 22) rfl rfl rfl ?_
        refine .off (t := 22) rfl rfl rfl ?_
        refine .off (t := 22) rfl rfl rfl ?_
        refine .off (t := 22) rfl rfl rfl ?_
        refine .rd (.pickT rfl rfl) ?_
        refine .rd (.move rfl) ?_
        refine .off (t := 28) rfl rfl rfl ?_
        refine .off (t := 28) rfl rfl rfl ?_
        refine .off (t := 28) rfl rfl rfl ?_
        refine .off (t := 28) rfl rfl rfl ?_
        refine .off (t := 28) rfl rfl rfl ?_
        refine .rd (.pickT rfl rfl) ?_
        refine .rd (.move rfl) ?_
        refine .off (t := 35) rfl rfl rfl ?_
        refine .off (t := 35) rfl rfl rfl ?_
        refine .off (t := 35) rfl rfl rfl ?_
        refine .off (t := 35) rfl rfl rfl ?_
        refine .off (t := 35) rfl rfl rfl ?_
        refine .rd (.pickT rfl rfl) ?_
        refine .rd (.move rfl) ?_
        refine .off (t := 42) rfl rfl rfl ?_
        refine .off (t := 42) rfl rfl rfl ?_
        refine .off (t := 42) rfl rfl rfl ?_
        refine .off (t := 42) rfl rfl rfl ?_
        refine .off (t := 42) rfl rfl rfl ?_
        refine .rd (.pickT rfl rfl) ?_
        refine .rd (.move rfl) ?_
        refine .off (t := 49) rfl rfl rfl ?_
        refine .off (t := 49) rfl rfl rfl ?_
        refine .off (t := 49) rfl rfl rfl ?_
        refine .off (t := 49) rfl rfl rfl ?_
        refine .off (t := 49) rfl rfl rfl ?_
        refine .rd (.pickT rfl rfl) ?_
        refine .nil ⟨rfl, ?_, by repeat (first | exact Le.refl _ | refine Le.skip rfl ?_)⟩
        exact congrArg (fun x => some (Value.bool x)) (Eq.symm (show (!may19 q) = _ by (unfold may19; rw [show (decide (1 ≤ q.kind)) = true from decide_eq_true (by omega), show (decide (q.kind ≤ 9)) = false from decide_eq_false (by omega)]; try rfl)))
      · replace g2_8 := of_decide_eq_false g2_8
        refine .on (t := 22) rfl rfl ?_
        refine .rd (.fieldAddr fd31_8 rfl) ?_
        refine .on (t := 22) rfl rfl ?_
        refine .rd (.ld na9 rfl .head rfl) ?_
        refine .on (t := 22) rfl rfl ?_
        refine .rd (.lenT rfl rfl Tryd.underlying9 rfl) ?_
        refine .on (t := 22) rfl rfl ?_
        refine .rd (.gt rfl rfl) ?_
        refine .rd (.pickF rfl rfl) ?_
        refine .rd (.move rfl) ?_
        refine .split (t := 28) rfl (fun g2_14 => ?_) (fun g2_14 => ?_)
        · replace g2_14 := of_decide_eq_true g2_14
          refine .off (t := 28) rfl rfl rfl ?_
          refine .off (t := 28) rfl rfl rfl ?_
          refine .off (t := 28) rfl rfl rfl ?_
          refine .off (t := 28) rfl rfl rfl ?_
          refine .off (t := 28) rfl rfl rfl ?_
          refine .rd (.pickT rfl rfl) ?_
          refine .rd (.move rfl) ?_
          refine .off (t := 35) rfl rfl rfl ?_
          refine .off (t := 35) rfl rfl rfl ?_
          refine .off (t := 35) rfl rfl rfl ?_
          refine .off (t := 35) rfl rfl rfl ?_
          refine .off (t := 35) rfl rfl rfl ?_
          refine .rd (.pickT rfl rfl) ?_
          refine .rd (.move rfl) ?_
          refine .off (t := 42) rfl rfl rfl ?_
          refine .off (t := 42) rfl rfl rfl ?_
          refine .off (t := 42) rfl rfl rfl ?_
          refine .off (t := 42) rfl rfl rfl ?_
          refine .off (t := 42) rfl rfl rfl ?_
          refine .rd (.pickT rfl rfl) ?_
          refine .rd (.move rfl) ?_
          refine .off (t := 49) rfl rfl rfl ?_
          refine .off (t := 49) rfl rfl rfl ?_
          refine .off (t := 49) rfl rfl rfl ?_
          refine .off (t := 49) rfl rfl rfl ?_
          refine .off (t := 49) rfl rfl rfl ?_
          refine .rd (.pickT rfl rfl) ?_
          refine .nil ⟨rfl, ?_, by repeat (first | exact Le.refl _ | refine Le.skip rfl ?_)⟩
          exact congrArg (fun x => some (Value.bool x)) (Eq.symm (show (!may19 q) = _ by (unfold may19; rw [show (decide (1 ≤ q.kind)) = true from decide_eq_true (by omega), show (decide (q.kind ≤ 9)) = true from decide_eq_true (by omega), show (decide (q.name.length ≤ 32)) = false from decide_eq_false (by omega)]; try rfl)))
        · replace g2_14 := of_decide_eq_false g2_14
          refine .on (t := 28) rfl rfl ?_
          refine .rd (.move rfl) ?_
          refine .on (t := 28) rfl rfl ?_
          refine .rd (.fieldAddr fd31_3 rfl) ?_
          refine .on (t := 28) rfl rfl ?_
          refine .rd (.ld na3 rfl .head rfl) ?_
          refine .on (t := 28) rfl rfl ?_
          refine .fn rfl rfl .nil (fun _ _ _ => trivial) (number_ok q.part 16) (fun v G1 hq => ?_)
          obtain ⟨rfl, rfl⟩ := hq
          simp only [List.nil_append]
          refine .on (t := 28) rfl rfl ?_
          refine .rd (.not rfl) ?_
          refine .rd (.pickF rfl rfl) ?_
          refine .rd (.move rfl) ?_
          refine .split (t := 35) rfl (fun g2_21 => ?_) (fun g2_21 => ?_)
          · refine .off (t := 35) rfl rfl rfl ?_
            refine .off (t := 35) rfl rfl rfl ?_
            refine .off (t := 35) rfl rfl rfl ?_
            refine .off (t := 35) rfl rfl rfl ?_
            refine .off (t := 35) rfl rfl rfl ?_
            refine .rd (.pickT rfl rfl) ?_
            refine .rd (.move rfl) ?_
            refine .off (t := 42) rfl rfl rfl ?_
            refine .off (t := 42) rfl rfl rfl ?_
            refine .off (t := 42) rfl rfl rfl ?_
            refine .off (t := 42) rfl rfl rfl ?_
            refine .off (t := 42) rfl rfl rfl ?_
            refine .rd (.pickT rfl rfl) ?_
            refine .rd (.move rfl) ?_
            refine .off (t := 49) rfl rfl rfl ?_
            refine .off (t := 49) rfl rfl rfl ?_
            refine .off (t := 49) rfl rfl rfl ?_
            refine .off (t := 49) rfl rfl rfl ?_
            refine .off (t := 49) rfl rfl rfl ?_
            refine .rd (.pickT rfl rfl) ?_
            refine .nil ⟨rfl, ?_, by repeat (first | exact Le.refl _ | refine Le.skip rfl ?_)⟩
            exact congrArg (fun x => some (Value.bool x)) (Eq.symm (show (!may19 q) = _ by (unfold may19; rw [show (decide (1 ≤ q.kind)) = true from decide_eq_true (by omega), show (decide (q.kind ≤ 9)) = true from decide_eq_true (by omega), show (decide (q.name.length ≤ 32)) = true from decide_eq_true (by omega), show (number19 q.part 16) = false from by simpa using g2_21]; try rfl)))
          · refine .on (t := 35) rfl rfl ?_
            refine .rd (.move rfl) ?_
            refine .on (t := 35) rfl rfl ?_
            refine .rd (.fieldAddr fd31_4 rfl) ?_
            refine .on (t := 35) rfl rfl ?_
            refine .rd (.ld na3 rfl .head rfl) ?_
            refine .on (t := 35) rfl rfl ?_
            refine .fn rfl rfl .nil (fun _ _ _ => trivial) (number_ok q.offset 1000000000) (fun v G1 hq => ?_)
            obtain ⟨rfl, rfl⟩ := hq
            simp only [List.nil_append]
            refine .on (t := 35) rfl rfl ?_
            refine .rd (.not rfl) ?_
            refine .rd (.pickF rfl rfl) ?_
            refine .rd (.move rfl) ?_
            refine .split (t := 42) rfl (fun g2_28 => ?_) (fun g2_28 => ?_)
            · refine .off (t := 42) rfl rfl rfl ?_
              refine .off (t := 42) rfl rfl rfl ?_
              refine .off (t := 42) rfl rfl rfl ?_
              refine .off (t := 42) rfl rfl rfl ?_
              refine .off (t := 42) rfl rfl rfl ?_
              refine .rd (.pickT rfl rfl) ?_
              refine .rd (.move rfl) ?_
              refine .off (t := 49) rfl rfl rfl ?_
              refine .off (t := 49) rfl rfl rfl ?_
              refine .off (t := 49) rfl rfl rfl ?_
              refine .off (t := 49) rfl rfl rfl ?_
              refine .off (t := 49) rfl rfl rfl ?_
              refine .rd (.pickT rfl rfl) ?_
              refine .nil ⟨rfl, ?_, by repeat (first | exact Le.refl _ | refine Le.skip rfl ?_)⟩
              exact congrArg (fun x => some (Value.bool x)) (Eq.symm (show (!may19 q) = _ by (unfold may19; rw [show (decide (1 ≤ q.kind)) = true from decide_eq_true (by omega), show (decide (q.kind ≤ 9)) = true from decide_eq_true (by omega), show (decide (q.name.length ≤ 32)) = true from decide_eq_true (by omega), show (number19 q.part 16) = true from by simpa using g2_21, show (number19 q.offset 1000000000) = false from by simpa using g2_28]; try rfl)))
            · refine .on (t := 42) rfl rfl ?_
              refine .rd (.move rfl) ?_
              refine .on (t := 42) rfl rfl ?_
              refine .rd (.fieldAddr fd31_5 rfl) ?_
              refine .on (t := 42) rfl rfl ?_
              refine .rd (.ld na3 rfl .head rfl) ?_
              refine .on (t := 42) rfl rfl ?_
              refine .fn rfl rfl .nil (fun _ _ _ => trivial) (number_ok q.pid 1000000000) (fun v G1 hq => ?_)
              obtain ⟨rfl, rfl⟩ := hq
              simp only [List.nil_append]
              refine .on (t := 42) rfl rfl ?_
              refine .rd (.not rfl) ?_
              refine .rd (.pickF rfl rfl) ?_
              refine .rd (.move rfl) ?_
              refine .split (t := 49) rfl (fun g2_35 => ?_) (fun g2_35 => ?_)
              · refine .off (t := 49) rfl rfl rfl ?_
                refine .off (t := 49) rfl rfl rfl ?_
                refine .off (t := 49) rfl rfl rfl ?_
                refine .off (t := 49) rfl rfl rfl ?_
                refine .off (t := 49) rfl rfl rfl ?_
                refine .rd (.pickT rfl rfl) ?_
                refine .nil ⟨rfl, ?_, by repeat (first | exact Le.refl _ | refine Le.skip rfl ?_)⟩
                exact congrArg (fun x => some (Value.bool x)) (Eq.symm (show (!may19 q) = _ by (unfold may19; rw [show (decide (1 ≤ q.kind)) = true from decide_eq_true (by omega), show (decide (q.kind ≤ 9)) = true from decide_eq_true (by omega), show (decide (q.name.length ≤ 32)) = true from decide_eq_true (by omega), show (number19 q.part 16) = true from by simpa using g2_21, show (number19 q.offset 1000000000) = true from by simpa using g2_28, show (number19 q.pid 1000000000) = false from by simpa using g2_35]; try rfl)))
              · refine .on (t := 49) rfl rfl ?_
                refine .rd (.move rfl) ?_
                refine .on (t := 49) rfl rfl ?_
                refine .rd (.fieldAddr fd31_7 rfl) ?_
                refine .on (t := 49) rfl rfl ?_
                refine .rd (.ld na3 rfl .head rfl) ?_
                refine .on (t := 49) rfl rfl ?_
                refine .fn rfl rfl .nil (fun _ _ _ => trivial) (number_ok q.seq 1000000000) (fun v G1 hq => ?_)
                obtain ⟨rfl, rfl⟩ := hq
                simp only [List.nil_append]
                refine .on (t := 49) rfl rfl ?_
                refine .rd (.not rfl) ?_
                refine .rd (.pickF rfl rfl) ?_
                refine .nil ⟨rfl, ?_, by repeat (first | exact Le.refl _ | refine Le.skip rfl ?_)⟩
                exact congrArg (fun x => some (Value.bool x)) (Eq.symm (show (!may19 q) = _ by (unfold may19; rw [show (decide (1 ≤ q.kind)) = true from decide_eq_true (by omega), show (decide (q.kind ≤ 9)) = true from decide_eq_true (by omega), show (decide (q.name.length ≤ 32)) = true from decide_eq_true (by omega), show (number19 q.part 16) = true from by simpa using g2_21, show (number19 q.offset 1000000000) = true from by simpa using g2_28, show (number19 q.pid 1000000000) = true from by simpa using g2_35]; try rfl)))
  refine .nil ?_
  refine .cond rfl (fun h2 => ?_) (fun h2 => ?_)
  · refine .seq ?_
    refine .region ?_
    refine .rd (.assign rfl) ?_
    refine .rd (.assign rfl) ?_
    refine .rd (.assign rfl) ?_
    refine .nil ?_
    refine .close (X := PR pb s) (.cons (.tail .head) (.cons (.tail .head) (.cons (.tail .head) (.cons (.tail .head) (.cons (.tail .head) (.cons (.tail .head) .nil)))))) (fun _ H => ⟨(x, cl), ⟨hWc, hWn⟩, H⟩) ?_
    refine .retP Tryd.func9 (.cons (.tmp rfl) (.cons (.tmp rfl) (.cons (.tmp rfl) .nil))) (.cons .head (.cons (.tail .head) .nil)) ?_
    exact ⟨[_], .inl ⟨fun h => (by rw [h] at h2; cases h2), rfl, rfl⟩, rfl⟩
  · have hmay : may19 q = true := by simpa using h2
    have hm' := hmay
    simp only [may19, number19, Bool.and_eq_true, decide_eq_true_eq] at hm'
    refine .skip ?_
    refine .seq ?_
    refine .region ?_
    refine .rd (.assign rfl) ?_
    refine .nil ?_
    refine .seq ?_
    refine .seq ?_
    refine .region ?_
    refine .rd (.fieldAddr fd31_2 rfl) ?_
    refine .rd (.ld na3 rfl .head rfl) ?_
    refine .rd (.eqI rfl rfl) ?_
    refine .nil ?_
    refine .joinEx (σ := Sl19) (φ := fun z0 => True) (E' := fun z0 => [(0, .pointer (some ⟨pb, 0, none⟩)), (1, .int .i64 now), (5, .pointer (some ⟨b5, 0, none⟩)), (10, .slice z0.1 z0.2.1 z0.2.2)]) (Γ' := fun z0 => [blk b5 q.cells 31, blk pb (CS19.cells s x none 0 0) 60, bag CB cl, IM x.ab s.aims, arr 63 1 x.ua x.uc (ptrs cl), EL s x, know (KN s x), R]) (fun sj hj => ?_) (fun fin => ?_)
    · obtain ⟨z0, rfl⟩ : ∃ z0 : Sl19, z0 = sj := ⟨sj, rfl⟩
      refine .seq ?_
      refine .seq ?_
      refine .region ?_
      refine .rd (.move rfl) ?_
      refine .rd (.nilCheck rfl) ?_
      refine .rd (.fieldAddr fd60_5 rfl) ?_
      refine .rd (.ld na58 rfl (.tail .head) (show (CS19.cells ({ s with calls := s.calls + 1 } : CS19) x none 0 0)[5]? = some (.slice x.ua cl.length x.uc) by rw [hcl, ← hWn]; rfl)) ?_
      refine .rd (.lenL rfl rfl Tryd.underlying58 rfl) ?_
      refine .rd (.ge rfl rfl) ?_
      refine .nil ?_
      refine .condP rfl (fun h10 => ?_) (fun h10 => ?_)
      · refine .seq ?_
        refine .region ?_
        refine .rd (.assign rfl) ?_
        refine .rd (.assign rfl) ?_
        refine .rd (.assign rfl) ?_
        refine .nil ?_
        refine .close (X := PR pb s) (.cons (.tail .head) (.cons (.tail .head) (.cons (.tail .head) (.cons (.tail .head) (.cons (.tail .head) (.cons (.tail .head) .nil)))))) (fun _ H => ⟨(x, cl), ⟨hWc, hWn⟩, H⟩) ?_
        refine .retP Tryd.func9 (.cons (.tmp rfl) (.cons (.tmp rfl) (.cons (.tmp rfl) .nil))) (.cons .head (.cons (.tail .head) .nil)) ?_
        exact ⟨[_], .inr (.inl ⟨by omega, rfl, rfl⟩), rfl⟩
      · refine .skip ?_
        refine .seq ?_
        refine .region ?_
        refine .rd (.move rfl) ?_
        refine .rd (.nilCheck rfl) ?_
        refine .rd (.fieldAddr fd60_6 rfl) ?_
        refine .rd (.ld na3 rfl (.tail .head) rfl) ?_
        refine .rd (.add rfl rfl (by show _ ≤ s.calls + 1; omega) (by show s.calls + 1 ≤ _; omega)) ?_
        refine .rd (.nilCheck rfl) ?_
        refine .rd (.fieldAddr fd60_6 rfl) ?_
        refine .ef0 (.store ts3 rfl rfl (.tail .head) rfl (Nat.le_of_ble_eq_true rfl)) ?_
        rintro _ _ rfl
        refine .nil ?_
        refine .cast (X' := blk pb (CS19.cells ({ s with calls := s.calls + 1 } : CS19) x none 0 0) 60) (rfl) ?_
        refine .seq ?_
        refine .draws [3, 5, 7, 9, 11, 13, 15, 20] [blk pb (CS19.cells ({ s with calls := s.calls + 1 } : CS19) x none 0 0) 60, blk b5 q.cells 31] (by kernel_rfl) ?_
        refine .rp 0 rfl (by kernel_rfl) (by kernel_rfl) (by kernel_rfl) (Reads.pure (.move rfl)) ?_
        refine .rp 1 rfl (by kernel_rfl) (by kernel_rfl) (by kernel_rfl) (Reads.pure (.nilCheck rfl)) ?_
        refine .rp 2 rfl (by kernel_rfl) (by kernel_rfl) (by kernel_rfl) (Reads.pure (.fieldAddr fd60_6 rfl)) ?_
        refine .rd 3 rfl rfl (by kernel_rfl) (by kernel_rfl) (by kernel_rfl) (.ld na3 rfl .head rfl) (.cons .head (.cons .head .nil)) ?_
        refine .rp 4 rfl (by kernel_rfl) (by kernel_rfl) (by kernel_rfl) (Reads.pure (.fieldAddr fd31_2 rfl)) ?_
        refine .rd 5 rfl rfl (by kernel_rfl) (by kernel_rfl) (by kernel_rfl) (.ld na3 rfl (.tail .head) rfl) (.cons .head (.cons .head .nil)) ?_
        refine .rp 6 rfl (by kernel_rfl) (by kernel_rfl) (by kernel_rfl) (Reads.pure (.fieldAddr fd31_3 rfl)) ?_
        refine .rd 7 rfl rfl (by kernel_rfl) (by kernel_rfl) (by kernel_rfl) (.ld na3 rfl (.tail .head) rfl) (.cons .head (.cons .head .nil)) ?_
        refine .rp 8 rfl (by kernel_rfl) (by kernel_rfl) (by kernel_rfl) (Reads.pure (.fieldAddr fd31_4 rfl)) ?_
        refine .rd 9 rfl rfl (by kernel_rfl) (by kernel_rfl) (by kernel_rfl) (.ld na3 rfl (.tail .head) rfl) (.cons .head (.cons .head .nil)) ?_
        refine .rp 10 rfl (by kernel_rfl) (by kernel_rfl) (by kernel_rfl) (Reads.pure (.fieldAddr fd31_5 rfl)) ?_
        refine .rd 11 rfl rfl (by kernel_rfl) (by kernel_rfl) (by kernel_rfl) (.ld na3 rfl (.tail .head) rfl) (.cons .head (.cons .head .nil)) ?_
        refine .rp 12 rfl (by kernel_rfl) (by kernel_rfl) (by kernel_rfl) (Reads.pure (.fieldAddr fd31_7 rfl)) ?_
        refine .rd 13 rfl rfl (by kernel_rfl) (by kernel_rfl) (by kernel_rfl) (.ld na3 rfl (.tail .head) rfl) (.cons .head (.cons .head .nil)) ?_
        refine .rp 14 rfl (by kernel_rfl) (by kernel_rfl) (by kernel_rfl) (Reads.pure (.fieldAddr fd31_8 rfl)) ?_
        refine .rd 15 rfl rfl (by kernel_rfl) (by kernel_rfl) (by kernel_rfl) (.ld na9 rfl (.tail .head) rfl) (.cons .head (.cons .head .nil)) ?_
        refine .rp 16 rfl (by kernel_rfl) (by kernel_rfl) (by kernel_rfl) (Reads.pure (.build rfl (bld31_2_3_4_5_7_8 _ _ _ _ _ _))) ?_
        refine .rp 17 rfl (by kernel_rfl) (by kernel_rfl) (by kernel_rfl) (Reads.pure (.move rfl)) ?_
        refine .rp 18 rfl (by kernel_rfl) (by kernel_rfl) (by kernel_rfl) (Reads.pure (.nilCheck rfl)) ?_
        refine .rp 19 rfl (by kernel_rfl) (by kernel_rfl) (by kernel_rfl) (Reads.pure (.fieldAddr fd60_2 rfl)) ?_
        refine .rd 20 rfl rfl (by kernel_rfl) (by kernel_rfl) (by kernel_rfl) (.ld na3 rfl .head rfl) (.cons .head (.cons .head .nil)) ?_
        refine .rp 21 rfl (by kernel_rfl) (by kernel_rfl) (by kernel_rfl) (Reads.pure (.build rfl (bld65_0_1_7 _ _ _ _ _ _ _ _ _ _ _ _ _ _))) ?_
        refine .ef 22 (by kernel_rfl) rfl (.box (l := Cl19.cells (⟨s.calls + 1, plain19 q, ⟨0, 0, 0, 0, 0, 0, 0, 0, 0, 0, [], (none, 0, 0)⟩, 0, false, 0, 0, s.tries, 0⟩ : Cl19)) rfl rfl (ones.of rfl)) ?_
        rintro _ _ ⟨xb, rfl, rfl⟩
        refine ⟨.inl (by kernel_rfl), ?_⟩
        refine .rp 23 rfl (by kernel_rfl) (by kernel_rfl) (by kernel_rfl) (Reads.pure (.assign rfl)) ?_
        refine .done (by kernel_rfl) ?_
        refine .seq ?_
        refine .region ?_
        refine .rd (.move rfl) ?_
        refine .rd (.move rfl) ?_
        refine .rd (.ldN ia31 ts31 rfl (.tail (.tail .head)) rfl) ?_
        refine .rd (.move rfl) ?_
        refine .fn rfl rfl .nil (fun _ _ _ => trivial) (asks_ok q z0.1 z0.2.1 z0.2.2 hmay) (fun v G1 hq => ?_)
        obtain ⟨z1, rfl, rfl⟩ := hq
        simp only [List.nil_append]
        refine .rd (.move rfl) ?_
        refine .rd (.extract rfl rfl) ?_
        refine .rd (.extract rfl rfl) ?_
        refine .rd (.nilCheck rfl) ?_
        refine .rd (.fieldAddr fd65_2 rfl) ?_
        refine .ef0 (.storeN (vs := (asksM q z1).cells) ts35 rfl rfl rfl .head (by show 0 + 13 + 21 ≤ 40; decide) (Mg19.cells_ones _)) ?_
        rintro _ _ rfl
        refine .rd (.nilCheck rfl) ?_
        refine .rd (.fieldAddr fd65_3 rfl) ?_
        refine .ef0 (.store ts3 rfl rfl .head rfl (Nat.le_of_ble_eq_true rfl)) ?_
        rintro _ _ rfl
        refine .nil ?_
        refine .cast (X' := blk xb (Cl19.cells (⟨s.calls + 1, plain19 q, asksM q z1, aimOf q, false, 0, 0, s.tries, 0⟩ : Cl19)) 65) (rfl) ?_
        refine .seq ?_
        refine .seq ?_
        refine .region ?_
        refine .rd (.fieldAddr fd31_2 rfl) ?_
        refine .rd (.ld na3 rfl (.tail (.tail .head)) rfl) ?_
        refine .rd (.eqI rfl rfl) ?_
        refine .nil ?_
        refine .joinEx (σ := Sl19) (φ := fun z => q.kind = 4 → z.2.1 = 1) (E' := fun z => [(0, .pointer (some ⟨pb, 0, none⟩)), (1, .int .i64 now), (5, .pointer (some ⟨b5, 0, none⟩)), (13, .pointer (some ⟨xb, 0, none⟩))]) (Γ' := fun z => [blk b5 q.cells 31, blk pb (CS19.cells ({ s with calls := s.calls + 1 } : CS19) x none 0 0) 60, blk xb (Cl19.cells (⟨s.calls + 1, plain19 q, asksM q z, aimOf q, false, 0, 0, s.tries, 0⟩ : Cl19)) 65, bag CB cl, IM x.ab s.aims, arr 63 1 x.ua x.uc (ptrs cl), EL s x, know (KN s x), R]) (fun sj hj => ?_) (fun fin => ?_)
        · obtain ⟨z, rfl⟩ : ∃ z : Sl19, z = sj := ⟨sj, rfl⟩
          refine .seq ?_
          refine .region ?_
          refine .rd (.move rfl) ?_
          refine .rd (.move rfl) ?_
          refine .rd (.nilCheck rfl) ?_
          refine .rd (.fieldAddr fd60_5 rfl) ?_
          refine .rd (.ld na58 rfl (.tail .head) (show (CS19.cells ({ s with calls := s.calls + 1 } : CS19) x none 0 0)[5]? = some (.slice x.ua cl.length x.uc) by rw [hcl, ← hWn]; rfl)) ?_
          refine .rd (.move rfl) ?_
          refine .ef (.buildOne (cs := pcell xb) Tryd.underlying58 ti63 (by decide) rfl rfl rfl (ones.of rfl)) ?_
          rintro _ _ ⟨bs, rfl, rfl⟩
          refine .ef (.append rfl rfl Tryd.underlying58 ti63 rfl (ones.of rfl) (by decide) (by decide) rfl rfl (.tail (.tail (.tail (.tail (.tail (.tail .head)))))) (n := cl.length) (m := 1) (by rw [ptrs_len, Nat.mul_one]) (.srcBlk (ys := pcell xb) .head Tryd.underlying58 rfl (by decide)) (by omega)) ?_
          rintro _ _ ⟨ua, uc, rfl, un, rfl⟩
          refine .rd (.nilCheck rfl) ?_
          refine .rd (.fieldAddr fd60_5 rfl) ?_
          refine .ef0 (.store ts58 rfl rfl (.tail (.tail (.tail .head))) rfl (Nat.le_of_ble_eq_true rfl)) ?_
          rintro _ _ rfl
          refine .nil ?_
          refine .cast (X' := blk pb (CS19.cells ({ s with calls := s.calls + 1 } : CS19) ({ x with ua := ua, un := cl.length + 1, uc := uc } : PX19) none 0 0) 60) (rfl) ?_
          refine .perm (.cons (.tail (.tail (.tail (.tail (.tail (.tail (.tail (.tail .head)))))))) (.cons .head (.cons .head (.cons .head (.cons .head (.cons .head (.cons .head (.cons .head (.cons .head (.cons .head .nil)))))))))) ?_
          refine .cast (X' := know (KN ({ s with calls := s.calls + 1 } : CS19) ({ x with ua := ua, un := cl.length + 1, uc := uc } : PX19))) (rfl) ?_
          refine .nilArr 35 21 none ?_
          refine .cast (X' := Said none 0 []) (rfl) ?_
          refine .seq ?_
          refine .region ?_
          refine .rd (.move rfl) ?_
          refine .rd (.move rfl) ?_
          refine .rd (.move rfl) ?_
          refine .fn rfl rfl (.cons (.tail (.tail .head)) (.cons (.tail (.tail (.tail (.tail (.tail .head))))) (.cons (.tail (.tail (.tail (.tail (.tail (.tail .head)))))) (.cons .head (.cons .head .nil))))) (fun _ _ _ => trivial) (ask_ok pb xb now ({ s with calls := s.calls + 1 } : CS19) ({ x with ua := ua, un := cl.length + 1, uc := uc } : PX19) none 0 [] (⟨s.calls + 1, plain19 q, asksM q z, aimOf q, false, 0, 0, s.tries, 0⟩ : Cl19) ⟨hB.id, hB.wait, hB.tries, hB.bne, hB.bn, hB.number, ⟨by show 0 ≤ s.calls + 1; omega, by show s.calls + 1 ≤ _; omega⟩, hB.opn⟩ hnow hB.tries (by decide)) (fun v G1 hq => ?_)
          obtain ⟨oa, oc, rfl⟩ := hq
          simp only [List.cons_append, List.nil_append]
          refine .nil ?_
          refine .cast (X' := blk pb (CS19.cells (callS s now q z) ({ x with ua := ua, un := cl.length + 1, uc := uc } : PX19) oa 1 oc) 60) (rfl) ?_
          refine .perm (.cons (.tail .head) (.cons .head (.cons .head (.cons .head (.cons .head (.cons .head (.cons .head (.cons .head (.cons .head (.cons .head (.cons .head .nil))))))))))) ?_
          refine .cast (X' := CB ⟨xb, (askC s now (newC s q z))⟩) (rfl) ?_
          refine .seq ?_
          refine .draws [3] [CB ⟨xb, (askC s now (newC s q z))⟩] (by kernel_rfl) ?_
          refine .rp 0 rfl (by kernel_rfl) (by kernel_rfl) (by kernel_rfl) (Reads.pure (.move rfl)) ?_
          refine .rp 1 rfl (by kernel_rfl) (by kernel_rfl) (by kernel_rfl) (Reads.pure (.nilCheck rfl)) ?_
          refine .rp 2 rfl (by kernel_rfl) (by kernel_rfl) (by kernel_rfl) (Reads.pure (.fieldAddr fd65_0 rfl)) ?_
          refine .rd 3 rfl rfl (by kernel_rfl) (by kernel_rfl) (by kernel_rfl) (.ld na3 rfl (show Pick (blk xb (Cl19.cells (askC s now (newC s q z))) 65) _ _ from .head) rfl) (.cons .head .nil) ?_
          refine .rp 4 rfl (by kernel_rfl) (by kernel_rfl) (by kernel_rfl) (Reads.pure (.move rfl)) ?_
          refine .ef 5 (by kernel_rfl) rfl (.fn rfl rfl (.cons (.tail .head) .nil) (fun _ _ _ => trivial) (said_ok pb (callS s now q z) ({ x with ua := ua, un := cl.length + 1, uc := uc } : PX19) oa 1 oc)) ?_
          rintro v _ ⟨G1, hq, rfl⟩
          obtain ⟨rfl, rfl⟩ := hq
          simp only [List.cons_append, List.nil_append]
          refine ⟨.inr ⟨_, (.cons (.tail .head) .nil)⟩, ?_⟩
          refine .rp 6 rfl (by kernel_rfl) (by kernel_rfl) (by kernel_rfl) (Reads.pure (.assign rfl)) ?_
          refine .rp 7 rfl (by kernel_rfl) (by kernel_rfl) (by kernel_rfl) (Reads.pure (.assign rfl)) ?_
          refine .rp 8 rfl (by kernel_rfl) (by kernel_rfl) (by kernel_rfl) (Reads.pure (.assign rfl)) ?_
          refine .done (by kernel_rfl) ?_
          refine .perm (.cons (.tail (.tail (.tail (.tail (.tail .head))))) (.cons .head (.cons .head (.cons .head (.cons .head (.cons .head (.cons .head (.cons .head (.cons .head (.cons .head (.cons .head .nil))))))))))) ?_
          refine .cast (X' := arr 63 1 ua uc (ptrs (cl ++ [⟨xb, (askC s now (newC s q z))⟩]))) (by rw [ptrs_snoc]) ?_
          refine .close (X := bag CB (cl ++ [⟨xb, (askC s now (newC s q z))⟩])) (B := [CB ⟨xb, (askC s now (newC s q z))⟩, bag CB cl]) (.cons (.tail (.tail .head)) (.cons (.tail (.tail (.tail (.tail (.tail (.tail (.tail .head))))))) .nil)) (fun _ H => bag.put (List.perm_append_singleton _ _).symm H) ?_
          refine .perm (.cons (.tail (.tail (.tail .head))) (.cons .head (.cons .head (.cons .head (.cons .head (.cons .head (.cons .head (.cons .head (.cons .head (.cons .head .nil)))))))))) ?_
          refine .cast (X' := IM x.ab (CS19.aims (callS s now q z))) (rfl) ?_
          refine .perm (.cons (.tail (.tail (.tail (.tail (.tail (.tail (.tail (.tail .head)))))))) (.cons .head (.cons .head (.cons .head (.cons .head (.cons .head (.cons .head (.cons .head (.cons .head (.cons .head .nil)))))))))) ?_
          refine .cast (X' := EL (callS s now q z) ({ x with ua := ua, un := cl.length + 1, uc := uc } : PX19)) (rfl) ?_
          refine .perm (.cons (.tail (.tail (.tail (.tail (.tail (.tail .head)))))) (.cons .head (.cons .head (.cons .head (.cons .head (.cons .head (.cons .head (.cons .head (.cons .head (.cons .head .nil)))))))))) ?_
          refine .cast (X' := know (KN (callS s now q z) ({ x with ua := ua, un := cl.length + 1, uc := uc } : PX19))) (rfl) ?_
          refine .perm (.cons (.tail (.tail (.tail (.tail (.tail (.tail .head)))))) (.cons .head (.cons .head (.cons .head (.cons .head (.cons .head (.cons .head (.cons .head (.cons .head (.cons .head .nil)))))))))) ?_
          refine .cast (X' := Said oa oc [((askC s now (newC s q z))).m]) (rfl) ?_
          refine .close (X := PR pb (callS s now q z)) (.cons (.tail (.tail (.tail (.tail (.tail (.tail .head)))))) (.cons (.tail (.tail (.tail (.tail .head)))) (.cons (.tail (.tail (.tail .head))) (.cons (.tail (.tail (.tail .head))) (.cons (.tail (.tail .head)) (.cons (.tail .head) .nil)))))) (fun _ H => ⟨(({ x with ua := ua, un := cl.length + 1, uc := uc } : PX19), cl ++ [(⟨xb, (askC s now (newC s q z))⟩ : CallX)]), ⟨by rw [List.map_append, hWc]; rfl, by show cl.length + 1 = (s.open_ ++ [_]).length; rw [List.length_append, hcl]; rfl⟩, H⟩) ?_
          refine .retP Tryd.func9 (.cons (.tmp rfl) (.cons (.tmp rfl) (.cons (.tmp rfl) .nil))) (.cons .head (.cons .head (.cons (.tail (.tail .head)) .nil))) ?_
          exact ⟨[_, _], .inr (.inr ⟨z, oa, oc, hmay, by omega, hj, rfl, rfl⟩), rfl⟩
        · refine .condP rfl (fun h15 => ?_) (fun h15 => ?_)
          · refine .region ?_
            refine .rd (.move rfl) ?_
            refine .rd (.move rfl) ?_
            refine .rd (.nilCheck rfl) ?_
            refine .rd (.fieldAddr fd65_0 rfl) ?_
            refine .rd (.ld na3 rfl .head rfl) ?_
            refine .ef (.buildOne (cs := [.int .i64 (s.calls + 1)]) Tryd.underlying28 ti3 (by decide) rfl rfl rfl (ones.of rfl)) ?_
            rintro _ _ ⟨bi, rfl, rfl⟩
            refine .rd (.nilCheck rfl) ?_
            refine .rd (.fieldAddr fd65_2 rfl) ?_
            refine .rd (.fieldAddr fd35_20 rfl) ?_
            refine .ef0 (.store ts28 rfl rfl (.tail .head) rfl (Nat.le_of_ble_eq_true rfl)) ?_
            rintro _ _ rfl
            refine .nil ?_
            refine .cast (X' := blk xb (Cl19.cells (⟨s.calls + 1, plain19 q, asksM q (some ⟨bi, 0, none⟩, 1, 1), aimOf q, false, 0, 0, s.tries, 0⟩ : Cl19)) 65) (by rw [asks4 h15 z1, asks4 h15 (some ⟨bi, 0, none⟩, 1, 1)]; rfl) ?_
            exact fin ((some ⟨bi, 0, none⟩, 1, 1)) (fun _ => rfl) (.cons rfl (.cons rfl (.cons rfl (.cons rfl .nil)))) (.cons (.tail (.tail (.tail .head))) (.cons (.tail (.tail .head)) (.cons .head (.cons (.tail .head) (.cons (.tail .head) (.cons (.tail .head) (.cons (.tail .head) (.cons (.tail .head) (.cons (.tail .head) .nil)))))))))
          · refine .skip ?_
            exact fin (z1) (fun h => absurd h h15) (.cons rfl (.cons rfl (.cons rfl (.cons rfl .nil)))) (.cons (.tail (.tail .head)) (.cons (.tail .head) (.cons .head (.cons .head (.cons .head (.cons .head (.cons .head (.cons .head (.cons .head .nil)))))))))
    · refine .condP rfl (fun h5 => ?_) (fun h5 => ?_)
      · refine .seq ?_
        refine .region ?_
        refine .rd (.fieldAddr fd31_9 rfl) ?_
        refine .rd (.ld na9 rfl .head rfl) ?_
        refine .fn rfl rfl .nil (Knows.pick (.tail (.tail (.tail (.tail (.tail (.tail (.tail .head))))))) k) (hL h5) (fun v G1 hq => ?_)
        obtain ⟨la, ln, lc, lb, rfl, rfl⟩ := hq
        simp only [List.nil_append]
        refine .rd (.move rfl) ?_
        refine .rd (.extract rfl rfl) ?_
        refine .rd (.extract rfl rfl) ?_
        refine .rd (.assign rfl) ?_
        refine .rd (.assign rfl) ?_
        refine .nil ?_
        refine .seq ?_
        refine .seq ?_
        refine .region ?_
        refine .rd (.move rfl) ?_
        refine .rd (.not rfl) ?_
        refine .nil ?_
        refine .cond rfl (fun h7 => ?_) (fun h7 => ?_)
        · refine .seq ?_
          refine .region ?_
          refine .rd (.assign rfl) ?_
          refine .rd (.assign rfl) ?_
          refine .rd (.assign rfl) ?_
          refine .nil ?_
          refine .close (X := PR pb s) (.cons (.tail .head) (.cons (.tail .head) (.cons (.tail .head) (.cons (.tail .head) (.cons (.tail .head) (.cons (.tail .head) .nil)))))) (fun _ H => ⟨(x, cl), ⟨hWc, hWn⟩, H⟩) ?_
          refine .retP Tryd.func9 (.cons (.tmp rfl) (.cons (.tmp rfl) (.cons (.tmp rfl) .nil))) (.cons .head (.cons (.tail .head) .nil)) ?_
          exact ⟨[_], .inl ⟨fun _ => h5, rfl, rfl⟩, rfl⟩
        · refine .skip ?_
          refine .region ?_
          refine .rd (.move rfl) ?_
          refine .rd (.assign rfl) ?_
          refine .nil ?_
          exact fin (la, ln, lc) trivial (.cons rfl (.cons rfl (.cons rfl (.cons rfl .nil)))) (.cons .head (.cons .head (.cons .head (.cons .head (.cons .head (.cons .head (.cons .head (.cons .head .nil))))))))
      · refine .skip ?_
        exact fin (none, 0, 0) trivial (.cons rfl (.cons rfl (.cons rfl (.cons rfl .nil)))) (.cons .head (.cons .head (.cons .head (.cons .head (.cons .head (.cons .head (.cons .head (.cons .head .nil))))))))

end Go.Proofs.YtankogdnhgmkhaaDoor


namespace Go.Proofs.YtankogdnhgmkhaaDoor
open Go Go.Sp

set_option linter.unusedVariables false

namespace con11
theorem na24 : NotAgg Tryd.prog 24 := ⟨_, Tryd.underlying24, trivial⟩
theorem fd60_5 : FD Tryd.prog 60 5 5 := .of Tryd.underlying60 (by kernel_rfl)
theorem na58 : NotAgg Tryd.prog 58 := ⟨_, Tryd.underlying58, trivial⟩
theorem ts58 : TS Tryd.prog 58 1 := .of (by kernel_rfl)
end con11
open con11

theorem sat.left {Γ Δ : List SProp} {h : Hp} (s : sat (Γ ++ Δ) h) : sat Γ h := let ⟨_, _, _, l, _, t, _⟩ := s.split; t.mono l
theorem bag.left {α : Type} {f : α → SProp} {l r : List α} {h : Hp} (s : bag f (l ++ r) h) : bag f l h := by
  unfold bag at *; rw [List.map_append] at s; exact Go.Proofs.YtankogdnhgmkhaaDoor.sat.left s
theorem bag_kept {now : Int} {st0 : TS19} {h : Hp} (hn : (stN (dTick now) st0 st0.2.1.length).2.1.length = st0.2.1.length) (H : sat [bag CB (stN (dTick now) st0 st0.2.1.length).2.1] h) : bag CB (keptC now st0 st0.2.1.length st0.2.1.length) h := by
  obtain ⟨r, hr⟩ := kept_sub now st0 st0.2.1.length st0.2.1.length
  rw [List.take_of_length_le (by omega)] at hr
  obtain ⟨h1, _, _, l, _, H', _⟩ := H
  exact bag.left (bag.perm hr (Sp.sat.mono l H'))

set_option maxHeartbeats 2000000 in
set_option maxRecDepth 20000 in
theorem tick_ok (pb : Nat) (now : Int) (s : CS19) (hB : PB s) (hpo : ∀ c ∈ s.open_, PO c) (he : s.ended.length ≤ 1000000) (hnow : 0 ≤ now ∧ now ≤ 1000000000000) : Cn Tryd.prog 10 [.pointer (some ⟨pb, 0, none⟩), .int .i64 now] (fun _ => True) [PR pb s] fun v G => ∃ oa oc, v = .slice oa (tick s now).2.length oc ∧ G = [PR pb (tick s now).1, Said oa oc (tick s now).2] := by
  refine .enter Tryd.func10 rfl (by kernel_rfl) rfl fun R k => ?_
  refine .open_ (σ := PX19 × List CallX) (φ := fun y => y.2.map (·.c) = s.open_ ∧ y.1.un = s.open_.length) (B := fun y => PL pb s y.1 y.2 none 0 0) .head (fun _ h => h) (fun y hW => ?_)
  obtain ⟨x, cl⟩ := y
  dsimp only at hW ⊢
  unfold PL
  simp only [List.cons_append, List.nil_append]
  obtain ⟨hWc, hWn⟩ := hW
  have hcl : cl.length = s.open_.length := by rw [← hWc, List.length_map]
  have hop := hB.opn
  have hinv : TInv s cl 0 (s, cl, []) := ⟨rfl, hB, fun y hy => hpo y.c (by rw [← hWc]; exact List.mem_map.2 ⟨y, hy, rfl⟩), Nat.le_refl _, Nat.le_refl _⟩
  have hN := hinv.run now cl.length
  have hNl : (stN (dTick now) (s, cl, []) cl.length).2.1.length = cl.length := by have := congrArg List.length hN.addrs; simpa using this
  obtain ⟨hr1, hr2, hr3⟩ := run_tick now (s, cl, []) cl.length rfl cl.length 0 (by omega)
  rw [List.drop_zero, hWc] at hr1 hr2 hr3
  simp only [stN, keptC, List.nil_append, List.map_nil] at hr1 hr2 hr3
  have hka := kept_map now (s, cl, []) s hinv cl.length rfl cl.length (Nat.le_refl _)
  have hkl : (keptC now (s, cl, []) cl.length cl.length).length = (tickL now s s.open_).2.1.length := by rw [← hr3, List.length_map]
  refine .seq ?_
  refine .region ?_
  refine .ef (.box (l := [.pointer (some ⟨pb, 0, none⟩)]) rfl rfl (ones.of rfl)) ?_
  rintro _ _ ⟨b2, rfl, rfl⟩
  refine .ef (.box (l := [.int .i64 now]) rfl rfl (ones.of rfl)) ?_
  rintro _ _ ⟨b3, rfl, rfl⟩
  refine .rd (.assign rfl) ?_
  refine .nil ?_
  refine .seq ?_
  refine .nilArr 35 21 none ?_
  have hf : ∀ (i p : Nat), (cl.map (·.a))[i]? = some p → Cn Tryd.prog 22 (.pointer (some ⟨p, 0, none⟩) :: (#[.pointer (some ⟨b3, 0, none⟩), .pointer (some ⟨b2, 0, none⟩)] : Array Value).toList) (fun w => CellsAt b3 0 [.int .i64 now] w ∧ CellsAt b2 0 [.pointer (some ⟨pb, 0, none⟩)] w) [TX pb x (stN (dTick now) (s, cl, []) i)] fun v G => v = .bool (bN (dTick now) (s, cl, []) i) ∧ G = [TX pb x (stN (dTick now) (s, cl, []) (i + 1))] := fun i p hp => by
    have hi := (List.getElem?_eq_some_iff.1 hp).1
    rw [List.length_map] at hi
    have hI := hinv.run now i
    obtain ⟨y, hy, rfl⟩ := hI.at_ hp
    have hm := hI.many
    have hm2 := hI.ends
    exact tick1_ok pb b3 b2 now x i _ y hy hI.pb (hI.po y (List.mem_of_getElem? hy)) (by omega) (by omega) hnow
  refine .perm (.cons (.tail (.tail (.tail (.tail (.tail (.tail .head)))))) (.cons .head (.cons .head (.cons .head (.cons .head (.cons .head (.cons .head (.cons .head (.cons .head (.cons .head .nil)))))))))) ?_
  refine .cast (X' := arr 63 1 x.ua x.uc ((cl.map (·.a)).flatMap pcell)) (rfl) ?_
  refine .draws [0, 1] [blk b2 [.pointer (some ⟨pb, 0, none⟩)] 24] (by kernel_rfl) ?_
  refine .rd 0 rfl rfl (by kernel_rfl) (by kernel_rfl) (by kernel_rfl) (.ld na24 rfl .head rfl) (.cons (.tail (.tail (.tail .head))) .nil) ?_
  refine .rd 1 rfl rfl (by kernel_rfl) (by kernel_rfl) (by kernel_rfl) (.ld na24 rfl .head rfl) (.cons (.tail (.tail (.tail .head))) .nil) ?_
  refine .rp 2 rfl (by kernel_rfl) (by kernel_rfl) (by kernel_rfl) (Reads.pure (.nilCheck rfl)) ?_
  refine .rp 3 rfl (by kernel_rfl) (by kernel_rfl) (by kernel_rfl) (Reads.pure (.fieldAddr fd60_5 rfl)) ?_
  refine .rp 5 rfl (by kernel_rfl) (by kernel_rfl) (by kernel_rfl) (Reads.pure (.makeFunc (cs := [.pointer (some ⟨b3, 0, none⟩), .pointer (some ⟨b2, 0, none⟩)]) rfl rfl)) ?_
  refine .rs 4 (by kernel_rfl) rfl (.ld na58 rfl (.tail (.tail (.tail (.tail .head)))) (show (CS19.cells s x none 0 0)[5]? = some (.slice x.ua (cl.map (·.a)).length x.uc) by rw [List.length_map, hcl, ← hWn]; rfl)) (.inr (.cons (.tail (.tail (.tail .head))) .nil)) ?_
  refine .close (X := TX pb x (s, cl, [])) (.cons (.tail (.tail (.tail (.tail .head)))) (.cons (.tail (.tail (.tail (.tail .head)))) (.cons (.tail (.tail (.tail (.tail .head)))) (.cons (.tail (.tail (.tail (.tail .head)))) (.cons (.tail .head) (.cons (.tail (.tail (.tail .head))) .nil)))))) (fun _ H => ⟨((x.ea, x.ec), (none, 0)), H⟩) ?_
  refine .ef 6 (by kernel_rfl) rfl (.fn rfl rfl (.cons (.tail .head) (.cons .head .nil)) (fun A w h => ⟨(Knows.blk .head) A w h, (Knows.blk (.tail .head)) A w h⟩) (deletef_ok (cl.map (·.a)) (TX pb x) (dTick now) (s, cl, []) _ 22 #[.pointer (some ⟨b3, 0, none⟩), .pointer (some ⟨b2, 0, none⟩)] hf x.ua x.uc (by rw [List.length_map]; omega))) ?_
  rintro v _ ⟨G1, hq, rfl⟩
  obtain ⟨rfl, rfl⟩ := hq
  simp only [List.cons_append, List.nil_append]
  refine ⟨.inr ⟨_, (.cons (.tail (.tail (.tail .head))) .nil)⟩, ?_⟩
  refine .rp 7 rfl (by kernel_rfl) (by kernel_rfl) (by kernel_rfl) (Reads.pure (.nilCheck rfl)) ?_
  refine .rp 8 rfl (by kernel_rfl) (by kernel_rfl) (by kernel_rfl) (Reads.pure (.fieldAddr fd60_5 rfl)) ?_
  refine .perm (.cons (.tail .head) (.cons .head (.cons .head (.cons .head (.cons .head .nil))))) ?_
  refine .cast (X' := TX pb x (stN (dTick now) (s, cl, []) cl.length)) (by rw [List.length_map]) ?_
  refine .open_ (σ := (Option Addr × Nat) × (Option Addr × Nat)) (φ := fun _ => True) (B := fun z => TL pb x (stN (dTick now) (s, cl, []) cl.length) z.1.1 z.1.2 z.2.1 z.2.2) .head (fun _ h => let ⟨z, hz⟩ := h; ⟨z, trivial, hz⟩) (fun z _ => ?_)
  obtain ⟨⟨ea, ec⟩, ⟨oa, oc⟩⟩ := z
  dsimp only
  unfold TL
  simp only [List.cons_append, List.nil_append]
  refine .ef0 9 (by kernel_rfl) rfl (.store ts58 rfl rfl .head rfl (Nat.le_of_ble_eq_true rfl)) ?_
  rintro _ _ rfl
  refine ⟨.inl (by kernel_rfl), ?_⟩
  refine .done (by kernel_rfl) ?_
  have het : (tick s now).1 = { (stN (dTick now) (s, cl, []) cl.length).1 with open_ := (tickL now s s.open_).2.1 } := by unfold tick; rw [hr1]
  have hez : (tick s now).2 = (stN (dTick now) (s, cl, []) cl.length).2.2 := hr2.symm
  have hkk : (kept (dTick now) (s, cl, []) (cl.map (·.a)) (cl.map (·.a)).length).length = (tickL now s s.open_).2.1.length := by rw [List.length_map, ← hka, List.length_map, hkl]
  refine .cast (X' := blk pb (CS19.cells (tick s now).1 ({ x with ea := ea, ec := ec, un := (tickL now s s.open_).2.1.length } : PX19) oa (tick s now).2.length oc) 60) (by rw [het, hez]; show blk pb ((CS19.cells _ _ _ _ _).set 5 _) 60 = _; rw [hkk]; rfl) ?_
  refine .seq ?_
  refine .region ?_
  refine .rd (.ld na24 rfl (.tail (.tail (.tail (.tail (.tail (.tail (.tail (.tail .head)))))))) rfl) ?_
  refine .fn rfl rfl (.cons .head .nil) (fun _ _ _ => trivial) (said_ok pb (tick s now).1 ({ x with ea := ea, ec := ec, un := (tickL now s s.open_).2.1.length } : PX19) oa (tick s now).2.length oc) (fun v G1 hq => ?_)
  obtain ⟨rfl, rfl⟩ := hq
  simp only [List.cons_append, List.nil_append]
  refine .rd (.assign rfl) ?_
  refine .nil ?_
  refine .perm (.cons (.tail (.tail .head)) (.cons .head (.cons .head (.cons .head (.cons .head (.cons .head (.cons .head (.cons .head (.cons .head (.cons .head .nil)))))))))) ?_
  refine .cast (X' := IM x.ab (CS19.aims (tick s now).1)) (by rw [het]) ?_
  refine .perm (.cons (.tail (.tail (.tail .head))) (.cons .head (.cons .head (.cons .head (.cons .head (.cons .head (.cons .head (.cons .head (.cons .head (.cons .head .nil)))))))))) ?_
  refine .cast (X' := EL (tick s now).1 ({ x with ea := ea, ec := ec, un := (tickL now s s.open_).2.1.length } : PX19)) (by rw [het]; rfl) ?_
  refine .perm (.cons (.tail (.tail (.tail (.tail (.tail .head))))) (.cons .head (.cons .head (.cons .head (.cons .head (.cons .head (.cons .head (.cons .head (.cons .head (.cons .head .nil)))))))))) ?_
  refine .cast (X' := know (KN (tick s now).1 ({ x with ea := ea, ec := ec, un := (tickL now s s.open_).2.1.length } : PX19))) (by rw [het]; rfl) ?_
  refine .perm (.cons (.tail (.tail (.tail (.tail (.tail .head))))) (.cons .head (.cons .head (.cons .head (.cons .head (.cons .head (.cons .head (.cons .head (.cons .head (.cons .head .nil)))))))))) ?_
  refine .cast (X' := Said oa oc (tick s now).2) (by rw [hez]) ?_
  refine .perm (.cons (.tail (.tail (.tail (.tail (.tail (.tail .head)))))) (.cons .head (.cons .head (.cons .head (.cons .head (.cons .head (.cons .head (.cons .head (.cons .head (.cons .head .nil)))))))))) ?_
  refine .cast (X' := arr 63 1 x.ua x.uc (ptrs (keptC now (s, cl, []) cl.length cl.length))) (by unfold ptrs; rw [hka, List.length_map]) ?_
  refine .close (X := bag CB (keptC now (s, cl, []) cl.length cl.length)) (.cons (.tail (.tail (.tail (.tail (.tail (.tail .head)))))) .nil) (fun _ H => bag_kept (st0 := (s, cl, [])) hNl H) ?_
  refine .close (X := PR pb (tick s now).1) (.cons (.tail (.tail (.tail (.tail (.tail (.tail .head)))))) (.cons .head (.cons (.tail (.tail (.tail (.tail .head)))) (.cons .head (.cons (.tail (.tail .head)) (.cons (.tail .head) .nil)))))) (fun _ H => ⟨(({ x with ea := ea, ec := ec, un := (tickL now s s.open_).2.1.length } : PX19), keptC now (s, cl, []) cl.length cl.length), ⟨hr3, rfl⟩, H⟩) ?_
  refine .retP Tryd.func10 (.cons (.tmp rfl) .nil) (.cons .head (.cons .head (.cons (.tail (.tail .head)) .nil))) ?_
  exact ⟨[_, _], ⟨oa, oc, rfl, rfl⟩, rfl⟩

end Go.Proofs.YtankogdnhgmkhaaDoor


/- Chapter 19: what stays true of a consumer, in plain Lean. -/
namespace Go.Proofs.YtankogdnhgmkhaaDoor
open Go Go.Sp

structure PI (s : CS19) : Prop where
  pb : PB s
  po : ∀ c ∈ s.open_, PO c
theorem may_of {q : Sn19} (h : may19 q = true) : (1 ≤ q.kind ∧ q.kind ≤ 9) ∧ (0 ≤ q.offset ∧ q.offset ≤ 1000000000) ∧ (0 ≤ q.part ∧ q.part ≤ 16) := by
  simp only [may19, number19, Bool.and_eq_true, decide_eq_true_eq] at h
  omega
theorem asksM_kind (q : Sn19) (z : Sl19) : (asksM q z).kind = 19 ∨ (asksM q z).kind = 25 ∨ (asksM q z).kind = 15 ∨ (asksM q z).kind = 23 := by
  unfold asksM
  split
  · exact .inl rfl
  · split
    · exact .inr (.inl rfl)
    · split
      · exact .inr (.inr (.inl rfl))
      · split
        · exact .inr (.inr (.inl rfl))
        · exact .inr (.inr (.inr rfl))
theorem PI.call {s : CS19} (h : PI s) {q : Sn19} (hm : may19 q = true) (ho : s.open_.length < 20) (hc : s.calls < 1000000) (now : Int) (z : Sl19) : PI (callS s now q z) where
  pb := { h.pb with
    number := next19_ok h.pb.number
    calls := by have := h.pb.calls; show 0 ≤ s.calls + 1 ∧ s.calls + 1 ≤ 1000000; omega
    opn := by show (s.open_ ++ [_]).length ≤ 20; rw [List.length_append]; show s.open_.length + 1 ≤ 20; omega }
  po := fun c hc => by
    rcases List.mem_append.1 hc with hc | hc
    · exact h.po c hc
    · rw [List.mem_singleton.1 hc]
      have h2 := h.pb.tries
      refine ⟨by show 0 ≤ s.tries - 1 ∧ s.tries - 1 ≤ 1000; omega, (may_of hm).2.1, ?_⟩
      show 1 ≤ (asksM q z).kind ∧ (asksM q z).kind ≤ 28 ∧ (asksM q z).kind % 2 = 1
      rcases asksM_kind q z with e | e | e | e <;> rw [e] <;> decide
theorem tickL_pi (now : Int) : ∀ (l : List Cl19) (s : CS19), PB s → (∀ c ∈ l, PO c) → PB (tickL now s l).1 ∧ (∀ c ∈ (tickL now s l).2.1, PO c) ∧ (tickL now s l).2.1.length ≤ l.length ∧ (tickL now s l).1.ended.length ≤ s.ended.length + l.length ∧ (tickL now s l).1.calls = s.calls ∧ (tickL now s l).1.wait = s.wait ∧ (tickL now s l).1.tries = s.tries ∧ (tickL now s l).1.id = s.id
  | [], s, h, _ => ⟨h, fun _ hc => (by cases hc), Nat.le_refl _, Nat.le_refl _, rfl, rfl, rfl, rfl⟩
  | x :: l, s, h, hp => by
    have hx := hp x (.head _)
    obtain ⟨h1, h2, h3, h4, h5, h6, h7, h8⟩ := tickL_pi now l (due s now x).1 (h.due now x) fun c hc => hp c (.tail _ hc)
    obtain ⟨k1, k2, k3, k4, k5, k6, k7⟩ := due_keep s now x
    rw [tickL]
    dsimp only
    refine ⟨h1, ?_, ?_, by rw [List.length_cons]; omega, h5.trans k7, h6.trans k5, h7.trans k6, h8.trans k4⟩
    · intro c hc
      split at hc
      · exact h2 c hc
      · rcases List.mem_cons.1 hc with rfl | hc
        · exact due_po hx
        · exact h2 c hc
    · split
      · rw [List.length_cons]; omega
      · rw [List.length_cons, List.length_cons]; omega
theorem PI.tick {s : CS19} (h : PI s) (now : Int) : PI (tick s now).1 := by
  obtain ⟨h1, h2, h3, _⟩ := tickL_pi now s.open_ s h.pb h.po
  exact ⟨{ h1 with opn := Nat.le_trans h3 h.pb.opn }, h2⟩
theorem tick_keep {s : CS19} (h : PI s) (now : Int) : (tick s now).1.ended.length ≤ s.ended.length + 20 ∧ (tick s now).1.calls = s.calls ∧ (tick s now).1.open_.length ≤ s.open_.length := by
  obtain ⟨_, _, h3, h4, h5, _⟩ := tickL_pi now s.open_ s h.pb h.po
  refine ⟨?_, h5, h3⟩
  show (tickL now s s.open_).1.ended.length ≤ _
  have := h.pb.opn; omega
theorem PI.set {s : CS19} (h : PI s) {i : Nat} {x : Cl19} {y : Cl19} (hx : s.open_[i]? = some x) (h1 : y.tries = x.tries) (h2 : y.s = x.s) (h3 : y.m = x.m) (a : List (Int × Int)) : PI { s with aims := a, open_ := s.open_.set i y } where
  pb := { h.pb with opn := by show (s.open_.set i y).length ≤ 20; rw [List.length_set]; exact h.pb.opn }
  po := fun c hc => by
    rcases List.mem_or_eq_of_mem_set hc with hc | hc
    · exact h.po c hc
    · rw [hc]; unfold PO; rw [h1, h2, h3]; exact h.po x (List.mem_of_getElem? hx)
theorem PI.stepAt {s : CS19} (h : PI s) {i : Nat} {x : Cl19} (hx : s.open_[i]? = some x) (now : Int) (m : An19) : PI (stepAt s now m i x) ∧ (stepAt s now m i x).calls = s.calls ∧ (stepAt s now m i x).ended.length ≤ s.ended.length + 1 ∧ (stepAt s now m i x).open_.length ≤ s.open_.length := by
  unfold Go.Proofs.YtankogdnhgmkhaaDoor.stepAt
  split
  · unfold led
    split
    · exact ⟨h.set hx (y := { x with deadline := now + 1, refused := true }) rfl rfl rfl _, rfl, Nat.le_succ _, by show (List.set _ _ _).length ≤ _; rw [List.length_set]; exact Nat.le_refl _⟩
    · exact ⟨h.set hx (y := { x with deadline := now + s.wait, refused := true }) rfl rfl rfl _, rfl, Nat.le_succ _, by show (List.set _ _ _).length ≤ _; rw [List.length_set]; exact Nat.le_refl _⟩
  · split
    · exact ⟨h.set hx (y := { x with deadline := now + s.wait, refused := true }) rfl rfl rfl s.aims, rfl, Nat.le_succ _, by show (List.set _ _ _).length ≤ _; rw [List.length_set]; exact Nat.le_refl _⟩
    · refine ⟨⟨{ h.pb with opn := ?_ }, fun c hc => h.po c (List.mem_of_mem_eraseIdx hc)⟩, rfl, ?_, ?_⟩
      · show (s.open_.eraseIdx i).length ≤ 20
        have := List.length_eraseIdx_le s.open_ i; have := h.pb.opn; omega
      · show (s.ended ++ [_]).length ≤ _; rw [List.length_append]; exact Nat.le_refl _
      · exact List.length_eraseIdx_le s.open_ i
theorem PI.step {s : CS19} (h : PI s) (now : Int) (m : An19) : PI (step s now m) ∧ (step s now m).calls = s.calls ∧ (step s now m).ended.length ≤ s.ended.length + 1 ∧ (step s now m).open_.length ≤ s.open_.length := by
  unfold Go.Proofs.YtankogdnhgmkhaaDoor.step
  split
  · exact ⟨h, rfl, Nat.le_succ _, Nat.le_refl _⟩
  · split
    · exact ⟨h, rfl, Nat.le_succ _, Nat.le_refl _⟩
    · rename_i x hx; exact h.stepAt hx now m
theorem PI.done {s : CS19} (h : PI s) : PI (done19 s) := ⟨{ h.pb with }, h.po⟩
theorem PI.new {id wait tries : Int} {l : List Int} (hid : 0 ≤ id ∧ id ≤ 1000) (hw : 1 ≤ wait ∧ wait ≤ 1000000000) (ht : 1 ≤ tries ∧ tries ≤ 1000) (hl : l ≠ []) (hn : l.length ≤ 100) : PI (new19 id wait tries l) where
  pb := ⟨hid, hw, ht, hl, hn, ⟨by show (0 : Int) ≤ 0; omega, by show (0 : Int) ≤ 1000000000; omega⟩, ⟨by show (0 : Int) ≤ 0; omega, by show (0 : Int) ≤ 1000000; omega⟩, Nat.zero_le _⟩
  po := fun _ hc => by cases hc

/-! ### What the run shows -/
def q0 : CS19 := new19 102 10 3 [1, 2]
def rq (part offset : Int) : Sn19 := ⟨0, 0, 1, part, offset, 0, 0, 0, [], [], 0, false⟩
def cq (offset : Int) : Sn19 := ⟨0, 0, 4, 2, offset, 1, 0, 1, [103], [], 0, false⟩
def q1 (z : Sl19) : CS19 := callS q0 0 (rq 2 5) z
def m1 : An19 := ⟨20, 1, 102, 1, 2, 15, []⟩
def q2 (z : Sl19) : CS19 := step (q1 z) 2 m1
def q3 (z : Sl19) : CS19 := (tick (q2 z) 3).1
def m2 (a : Option Addr) (c : Nat) : An19 := ⟨20, 2, 102, 2, 0, 0, [⟨4, a, c, [[97], [98]]⟩]⟩
def q4 (z : Sl19) (a : Option Addr) (c : Nat) : CS19 := step (q3 z) 4 (m2 a c)
def q6 (z : Sl19) (a : Option Addr) (c : Nat) (y : Sl19) : CS19 := callS (done19 (q4 z a c)) 4 (cq 9) y
def q7 (z : Sl19) (a : Option Addr) (c : Nat) (y : Sl19) : CS19 := (tick (q6 z a c y) 14).1
theorem q1_out (z : Sl19) : (askC q0 0 (newC q0 (rq 2 5) z)).m = ⟨19, 102, 1, 1, 2, 5, 0, 0, 0, 0, [], (none, 0, 0)⟩ := by rfl
theorem q3_out (z : Sl19) : (tick (q2 z) 3).2 = [⟨19, 102, 2, 2, 2, 5, 0, 0, 0, 0, [], (none, 0, 0)⟩] := by rfl
theorem q4_end (z a c) : (q4 z a c).ended = [⟨102, 1, 1, 2, 5, 0, 0, 0, [], [98], 0, true⟩] := by rfl
theorem q4_open (z a c) : (q4 z a c).open_ = [] := by rfl
theorem q4_calls (z a c) : (q4 z a c).calls = 1 := by rfl
theorem q6_out (z a c y) : (askC (done19 (q4 z a c)) 4 (newC (done19 (q4 z a c)) (cq 9) y)).m = ⟨23, 102, 2, 3, 0, 9, 2, 3, 1, 1, [103], y⟩ ∨ (askC (done19 (q4 z a c)) 4 (newC (done19 (q4 z a c)) (cq 9) y)).m = ⟨23, 102, 1, 3, 0, 9, 2, 3, 1, 1, [103], y⟩ := by first | exact .inl rfl | exact .inr rfl
theorem q7_out (z a c y) : (tick (q6 z a c y) 14).2 = [] := by rfl
theorem q7_end (z a c y) : (q7 z a c y).ended = [⟨102, 2, 4, 2, 9, 1, 0, 1, [103], [], 21, true⟩] := by rfl
theorem q7_open (z a c y) : (q7 z a c y).open_ = [] := by rfl
theorem q0_pi : PI q0 := .new (by decide) (by decide) (by decide) (by decide) (by decide)
theorem q1_pi (z) : PI (q1 z) := q0_pi.call (by decide) (by decide) (by decide) 0 z
theorem q2_pi (z) : PI (q2 z) := ((q1_pi z).step 2 m1).1
theorem q3_pi (z) : PI (q3 z) := (q2_pi z).tick 3
theorem q4_pi (z a c) : PI (q4 z a c) := ((q3_pi z).step 4 _).1
theorem q6_pi (z a c y) : PI (q6 z a c y) := (q4_pi z a c).done.call (by decide) (by show (q4 z a c).open_.length < 20; rw [q4_open]; decide) (by show (q4 z a c).calls < 1000000; rw [q4_calls]; decide) 4 y
theorem q7_pi (z a c y) : PI (q7 z a c y) := (q6_pi z a c y).tick 14
end Go.Proofs.YtankogdnhgmkhaaDoor

namespace Go.Proofs.YtankogdnhgmkhaaDoor
open Go Go.Sp

set_option linter.unusedVariables false

namespace con16
theorem ti3 : TI Tryd.prog 3 1 8 (.int .i64 0) := .of (by kernel_rfl)
theorem bld31_2_3_4 (x0 : Int) (x1 : Int) (x2 : Int) (w : World) : (Instr.build 31 (([2, 3, 4] : List Nat).zip [.int .i64 x0, .int .i64 x1, .int .i64 x2]).toArray).run Tryd.prog w = .ok (.agg #[.int .i64 0, .int .i64 0, .int .i64 x0, .int .i64 x1, .int .i64 x2, .int .i64 0, .int .i64 0, .int .i64 0, .string ⟨#[]⟩, .string ⟨#[]⟩, .int .i64 0, .bool false]) w := by kernel_rfl
theorem bld35_0_1_2_3_15_7 (x0 : Int) (x1 : Int) (x2 : Int) (x3 : Int) (x4 : Int) (x5 : Int) (w : World) : (Instr.build 35 (([0, 1, 2, 3, 15, 7] : List Nat).zip [.int .i64 x0, .int .i64 x1, .int .i64 x2, .int .i64 x3, .int .i64 x4, .int .i64 x5]).toArray).run Tryd.prog w = .ok (.agg #[.int .i64 x0, .int .i64 x1, .int .i64 x2, .int .i64 x3, .int .i64 0, .int .i64 0, .int .i64 0, .int .i64 x5, .int .i64 0, .int .i64 0, .int .i64 0, .int .i64 0, .int .i64 0, .int .i64 0, .int .i64 0, .int .i64 x4, .string ⟨#[]⟩, .string ⟨#[]⟩, .slice none 0 0, .slice none 0 0, .slice none 0 0]) w := by kernel_rfl
theorem bld54_1 (x0 : ByteArray) (w : World) : (Instr.build 54 (([1] : List Nat).zip [.string x0]).toArray).run Tryd.prog w = .ok (.agg #[.string ⟨#[]⟩, .string x0, .int .i64 0]) w := by kernel_rfl
theorem ti54 : TI Tryd.prog 54 3 40 (.agg #[.string ⟨#[]⟩, .string ⟨#[]⟩, .int .i64 0]) := .of (by kernel_rfl)
theorem bld52_0_5 (x0 : Int) (x1a : Option Addr) (x1n : Nat) (x1c : Nat) (w : World) : (Instr.build 52 (([0, 5] : List Nat).zip [.int .i64 x0, .slice x1a x1n x1c]).toArray).run Tryd.prog w = .ok (.agg #[.int .i64 x0, .int .i64 0, .int .i64 0, .int .i64 0, .int .i64 0, .slice x1a x1n x1c]) w := by kernel_rfl
theorem ti52 : TI Tryd.prog 52 6 64 (.agg #[.int .i64 0, .int .i64 0, .int .i64 0, .int .i64 0, .int .i64 0, .slice none 0 0]) := .of (by kernel_rfl)
theorem bld35_0_1_2_3_18 (x0 : Int) (x1 : Int) (x2 : Int) (x3 : Int) (x4a : Option Addr) (x4n : Nat) (x4c : Nat) (w : World) : (Instr.build 35 (([0, 1, 2, 3, 18] : List Nat).zip [.int .i64 x0, .int .i64 x1, .int .i64 x2, .int .i64 x3, .slice x4a x4n x4c]).toArray).run Tryd.prog w = .ok (.agg #[.int .i64 x0, .int .i64 x1, .int .i64 x2, .int .i64 x3, .int .i64 0, .int .i64 0, .int .i64 0, .int .i64 0, .int .i64 0, .int .i64 0, .int .i64 0, .int .i64 0, .int .i64 0, .int .i64 0, .int .i64 0, .int .i64 0, .string ⟨#[]⟩, .string ⟨#[]⟩, .slice x4a x4n x4c, .slice none 0 0, .slice none 0 0]) w := by kernel_rfl
theorem bld31_2_8_3_5_7_4 (x0 : Int) (x1 : ByteArray) (x2 : Int) (x3 : Int) (x4 : Int) (x5 : Int) (w : World) : (Instr.build 31 (([2, 8, 3, 5, 7, 4] : List Nat).zip [.int .i64 x0, .string x1, .int .i64 x2, .int .i64 x3, .int .i64 x4, .int .i64 x5]).toArray).run Tryd.prog w = .ok (.agg #[.int .i64 0, .int .i64 0, .int .i64 x0, .int .i64 x2, .int .i64 x5, .int .i64 x3, .int .i64 0, .int .i64 x4, .string x1, .string ⟨#[]⟩, .int .i64 0, .bool false]) w := by kernel_rfl
theorem ts35 : TS Tryd.prog 35 21 := .of (by kernel_rfl)
theorem fd35_0 : FD Tryd.prog 35 0 0 := .of Tryd.underlying35 (by kernel_rfl)
theorem na3 : NotAgg Tryd.prog 3 := ⟨_, Tryd.underlying3, trivial⟩
theorem fd35_2 : FD Tryd.prog 35 2 2 := .of Tryd.underlying35 (by kernel_rfl)
theorem fd35_3 : FD Tryd.prog 35 3 3 := .of Tryd.underlying35 (by kernel_rfl)
theorem ts31 : TS Tryd.prog 31 12 := .of (by kernel_rfl)
theorem fd31_9 : FD Tryd.prog 31 9 9 := .of Tryd.underlying31 (by kernel_rfl)
theorem na9 : NotAgg Tryd.prog 9 := ⟨_, Tryd.underlying9, trivial⟩
theorem fd31_4 : FD Tryd.prog 31 4 4 := .of Tryd.underlying31 (by kernel_rfl)
theorem fd31_10 : FD Tryd.prog 31 10 10 := .of Tryd.underlying31 (by kernel_rfl)
theorem na25 : NotAgg Tryd.prog 25 := ⟨_, Tryd.underlying25, trivial⟩
theorem fd35_11 : FD Tryd.prog 35 11 11 := .of Tryd.underlying35 (by kernel_rfl)
end con16
open con16

theorem call_go (pb : Nat) (now : Int) (s : CS19) (q : Sn19) (hB : PB s) (hcn : s.calls < 1000000) (hnow : 0 ≤ now ∧ now ≤ 1000000000000) (hm : may19 q = true) (hk : q.kind ≠ 8) (ho : s.open_.length < 20) : Cn Tryd.prog 9 [.pointer (some ⟨pb, 0, none⟩), .int .i64 now, .agg q.cells.toArray] (fun _ => True) [PR pb s] fun v G => ∃ z oa oc, (q.kind = 4 → z.2.1 = 1) ∧ v = .tuple #[.int .i64 (s.calls + 1), .slice oa 1 oc, .int .i64 0] ∧ G = [PR pb (callS s now q z), Said oa oc [(askC s now (newC s q z)).m]] :=
  (call_ok pb now s q _ hB hcn hnow (fun h => absurd h hk)).mono fun v G h => by
    rcases h with ⟨h, _⟩ | ⟨h, _⟩ | ⟨z, oa, oc, _, _, h⟩
    · exact absurd (h hm) hk
    · omega
    · exact ⟨z, oa, oc, h⟩
theorem rise12 : Rise [1, 2] := ⟨by decide, by decide, fun i hi => by
  have : i = 0 ∨ i = 1 := by simp at hi; omega
  rcases this with rfl | rfl <;> decide⟩
theorem rise123 : Rise [1, 2, 3] := ⟨by decide, by decide, fun i hi => by
  have : i = 0 ∨ i = 1 ∨ i = 2 := by simp at hi; omega
  rcases this with rfl | rfl | rfl <;> decide⟩
theorem rise1 : Rise [1] := ⟨by decide, by decide, fun i hi => by
  have : i = 0 := by simp at hi; omega
  rcases this with rfl <;> decide⟩
theorem ok_nil {m : An19} (h : m.batches = []) : m.ok := ⟨by rw [h]; decide, fun b hb => by (rw [h] at hb; cases hb), fun b hb => by (rw [h] at hb; cases hb)⟩
theorem at_nil {m : An19} (h : m.batches = []) (w : World) : m.at_ none w := ⟨by rw [h]; exact .inl rfl, fun b hb => by (rw [h] at hb; cases hb)⟩
theorem m2_ok (a c) : (m2 a c).ok := ⟨by show 1 ≤ 1000; decide, fun b hb => by rcases List.mem_singleton.1 hb with rfl; exact ⟨by show (0 : Int) ≤ 4; decide, by show (4 : Int) ≤ 1000000000; decide⟩, fun b hb => by rcases List.mem_singleton.1 hb with rfl; show 2 ≤ 1000000; decide⟩

set_option maxHeartbeats 4000000 in
set_option maxRecDepth 20000 in
theorem shown_ok : Cn Tryd.prog 6 [] (fun _ => True) [] fun v G => v = .bool true ∧ G = [] := by
  refine .enter Tryd.func6 rfl (by kernel_rfl) rfl fun R k => ?_
  refine .seq ?_
  refine .region ?_
  refine .rd (.assign rfl) ?_
  refine .nil ?_
  refine .seq ?_
  refine .region ?_
  refine .ef (.buildSlice (vs := [.int .i64 1, .int .i64 2]) (cs := [.int .i64 1, .int .i64 2]) Tryd.underlying28 ti3 rfl (by decide) (by first | rfl | kernel_rfl) (ones.of rfl)) ?_
  rintro _ _ ⟨bl, rfl, rfl⟩
  refine .fn rfl rfl .nil (((Knows.blk .head).mono fun _ h => rowBlk h)) (New_ok 102 (some ⟨bl, 0, none⟩) _ [1, 2] 10 3 rise12 (by decide) (by decide) (by decide)) (fun v G1 hq => ?_)
  obtain ⟨pb, rfl, rfl⟩ := hq
  simp only [List.cons_append, List.nil_append]
  refine .rd (.move rfl) ?_
  refine .rd (.extract rfl rfl) ?_
  refine .rd (.extract rfl rfl) ?_
  refine .rd (.assign rfl) ?_
  refine .rd (.assign rfl) ?_
  refine .nil ?_
  refine .cast (X' := PR pb q0) (rfl) ?_
  refine .seq ?_
  refine .seq ?_
  refine .region ?_
  refine .rd (.move rfl) ?_
  refine .rd (.eqNilP Tryd.underlying24 rfl rfl) ?_
  refine .rd (.move rfl) ?_
  refine .on (t := 20) rfl rfl ?_
  refine .rd (.move rfl) ?_
  refine .on (t := 20) rfl rfl ?_
  refine .rd (.neI rfl rfl) ?_
  refine .alter (t := 22) (v' := .bool false) rfl (congrArg Value.bool (by first | rfl | decide)) ?_
  refine .rd (.pickF rfl rfl) ?_
  refine .nil ?_
  refine .condF rfl ?_
  refine .skip ?_
  refine .seq ?_
  refine .region ?_
  refine .rd (.move rfl) ?_
  refine .rd (.build rfl (bld31_2_3_4 _ _ _)) ?_
  refine .fn rfl rfl (.cons .head .nil) (fun _ _ _ => trivial) (call_go pb 0 q0 (rq 2 5) q0_pi.pb (by decide) (by decide) (by decide) (by decide) (by decide)) (fun v G1 hq => ?_)
  obtain ⟨y1, oa1, oc1, hy1, rfl, rfl⟩ := hq
  simp only [List.cons_append, List.nil_append]
  refine .rd (.move rfl) ?_
  refine .rd (.extract rfl rfl) ?_
  refine .rd (.extract rfl rfl) ?_
  refine .rd (.extract rfl rfl) ?_
  refine .rd (.assign rfl) ?_
  refine .rd (.assign rfl) ?_
  refine .rd (.assign rfl) ?_
  refine .nil ?_
  refine .cast (X' := PR pb (q1 y1)) (rfl) ?_
  refine .seq ?_
  refine .region ?_
  refine .rd (.move rfl) ?_
  refine .rd (.build rfl (bld35_0_1_2_3_15_7 _ _ _ _ _ _)) ?_
  refine .fn rfl rfl (.cons .head .nil) (fun _ w _ => at_nil rfl w) (step_ok pb 2 (q1 y1) m1 none 0 (q1_pi y1).pb (q1_pi y1).po (Nat.zero_le _) (ok_nil rfl) (by decide)) (fun v G1 hq => ?_)
  obtain ⟨rfl, rfl⟩ := hq
  simp only [List.cons_append, List.nil_append]
  refine .rd (.assign rfl) ?_
  refine .nil ?_
  refine .cast (X' := PR pb (q2 y1)) (rfl) ?_
  refine .seq ?_
  refine .region ?_
  refine .rd (.move rfl) ?_
  refine .fn rfl rfl (.cons .head .nil) (fun _ _ _ => trivial) (tick_ok pb 3 (q2 y1) (q2_pi y1).pb (q2_pi y1).po (Nat.zero_le _) (by decide)) (fun v G1 hq => ?_)
  obtain ⟨oa3, oc3, rfl, rfl⟩ := hq
  simp only [List.cons_append, List.nil_append]
  refine .rd (.assign rfl) ?_
  refine .nil ?_
  refine .cast (X' := PR pb (q3 y1)) (rfl) ?_
  refine .seq ?_
  refine .region ?_
  refine .rd (.move rfl) ?_
  refine .rd (.build rfl (bld54_1 _)) ?_
  refine .rd (.build rfl (bld54_1 _)) ?_
  refine .ef (.buildSlice (vs := [.agg (recC [97]).toArray, .agg (recC [98]).toArray]) (cs := recC [97] ++ recC [98]) Tryd.underlying50 ti54 rfl (by decide) (by first | rfl | kernel_rfl) (ones.of rfl)) ?_
  rintro _ _ ⟨br, rfl, rfl⟩
  refine .rd (.build rfl (bld52_0_5 _ _ _ _)) ?_
  refine .ef (.buildOne (cs := Bt19.cells ⟨4, (some ⟨br, 0, none⟩), 2, [[97], [98]]⟩) Tryd.underlying32 ti52 (by decide) rfl rfl rfl (ones.of rfl)) ?_
  rintro _ _ ⟨bb, rfl, rfl⟩
  refine .rd (.build rfl (bld35_0_1_2_3_18 _ _ _ _ _ _ _)) ?_
  refine .fn rfl rfl (.cons (.tail (.tail .head)) .nil) (fun A w h => ⟨by unfold m2; simpa using rowBlk ((Knows.blk .head) A w h), fun b hb => by rcases List.mem_singleton.1 hb with rfl; simpa using rowBlk ((Knows.blk (.tail .head)) A w h)⟩) (step_ok pb 4 (q3 y1) (m2 (some ⟨br, 0, none⟩) 2) (some ⟨bb, 0, none⟩) 1 (q3_pi y1).pb (q3_pi y1).po (Nat.zero_le _) (m2_ok _ _) (by decide)) (fun v G1 hq => ?_)
  obtain ⟨rfl, rfl⟩ := hq
  simp only [List.cons_append, List.nil_append]
  refine .nil ?_
  refine .cast (X' := PR pb (q4 y1 (some ⟨br, 0, none⟩) 2)) (rfl) ?_
  refine .seq ?_
  refine .region ?_
  refine .rd (.move rfl) ?_
  refine .fn rfl rfl (.cons .head .nil) (fun _ _ _ => trivial) (done_ok pb (q4 y1 (some ⟨br, 0, none⟩) 2)) (fun v G1 hq => ?_)
  obtain ⟨ea1, ec1, rfl, rfl⟩ := hq
  simp only [List.cons_append, List.nil_append]
  refine .rd (.assign rfl) ?_
  refine .nil ?_
  refine .seq ?_
  refine .region ?_
  refine .rd (.move rfl) ?_
  refine .rd (.build rfl (bld31_2_8_3_5_7_4 _ _ _ _ _ _)) ?_
  refine .fn rfl rfl (.cons .head .nil) (fun _ _ _ => trivial) (call_go pb 4 (done19 (q4 y1 (some ⟨br, 0, none⟩) 2)) (cq 9) (q4_pi y1 (some ⟨br, 0, none⟩) 2).done.pb (by show (q4 y1 (some ⟨br, 0, none⟩) 2).calls < 1000000; rw [q4_calls]; decide) (by decide) (by decide) (by decide) (by show (q4 y1 (some ⟨br, 0, none⟩) 2).open_.length < 20; rw [q4_open]; decide)) (fun v G1 hq => ?_)
  obtain ⟨y2, oa2, oc2, hy2, rfl, rfl⟩ := hq
  simp only [List.cons_append, List.nil_append]
  refine .rd (.move rfl) ?_
  refine .rd (.extract rfl rfl) ?_
  refine .rd (.extract rfl rfl) ?_
  refine .rd (.extract rfl rfl) ?_
  refine .rd (.assign rfl) ?_
  refine .rd (.assign rfl) ?_
  refine .rd (.assign rfl) ?_
  refine .nil ?_
  refine .cast (X' := PR pb (q6 y1 (some ⟨br, 0, none⟩) 2 y2)) (rfl) ?_
  obtain ⟨to2, hz2⟩ : ∃ to2 : Int, (askC (done19 (q4 y1 (some ⟨br, 0, none⟩) 2)) 4 (newC (done19 (q4 y1 (some ⟨br, 0, none⟩) 2)) (cq 9) y2)).m = ⟨23, 102, to2, 3, 0, 9, 2, 3, 1, 1, [103], y2⟩ := by rcases q6_out y1 (some ⟨br, 0, none⟩) 2 y2 with h | h <;> exact ⟨_, h⟩
  refine .perm (.cons (.tail .head) (.cons .head (.cons .head (.cons .head (.cons .head (.cons .head (.cons .head (.cons .head (.cons .head .nil))))))))) ?_
  refine .cast (X' := Said oa2 oc2 ([⟨23, 102, to2, 3, 0, 9, 2, 3, 1, 1, [103], y2⟩] : List Mg19)) (by rw [hz2]) ?_
  refine .seq ?_
  refine .region ?_
  refine .rd (.move rfl) ?_
  refine .fn rfl rfl (.cons (.tail .head) .nil) (fun _ _ _ => trivial) (tick_ok pb 14 (q6 y1 (some ⟨br, 0, none⟩) 2 y2) (q6_pi y1 (some ⟨br, 0, none⟩) 2 y2).pb (q6_pi y1 (some ⟨br, 0, none⟩) 2 y2).po (Nat.zero_le _) (by decide)) (fun v G1 hq => ?_)
  obtain ⟨oa4, oc4, rfl, rfl⟩ := hq
  simp only [List.cons_append, List.nil_append]
  refine .rd (.assign rfl) ?_
  refine .nil ?_
  refine .cast (X' := PR pb (q7 y1 (some ⟨br, 0, none⟩) 2 y2)) (rfl) ?_
  refine .seq ?_
  refine .region ?_
  refine .rd (.move rfl) ?_
  refine .fn rfl rfl (.cons .head .nil) (fun _ _ _ => trivial) (done_ok pb (q7 y1 (some ⟨br, 0, none⟩) 2 y2)) (fun v G1 hq => ?_)
  obtain ⟨ea2, ec2, rfl, rfl⟩ := hq
  simp only [List.cons_append, List.nil_append]
  refine .rd (.assign rfl) ?_
  refine .nil ?_
  refine .seq ?_
  refine .perm (.cons (.tail (.tail (.tail (.tail (.tail (.tail (.tail (.tail .head)))))))) (.cons .head (.cons .head (.cons .head (.cons .head (.cons .head (.cons .head (.cons .head (.cons .head (.cons .head (.cons .head .nil))))))))))) ?_
  refine .cast (X' := Said oa1 oc1 ([⟨19, 102, 1, 1, 2, 5, 0, 0, 0, 0, [], (none, 0, 0)⟩] : List Mg19)) (by rw [q1_out]) ?_
  refine .perm (.cons (.tail (.tail (.tail (.tail (.tail .head))))) (.cons .head (.cons .head (.cons .head (.cons .head (.cons .head (.cons .head (.cons .head (.cons .head (.cons .head (.cons .head .nil))))))))))) ?_
  refine .cast (X' := arr 31 12 ea1 ec1 (([⟨102, 1, 1, 2, 5, 0, 0, 0, [], [98], 0, true⟩] : List Sn19).flatMap Sn19.cells)) (by rw [q4_end]) ?_
  refine .perm (.cons (.tail (.tail (.tail .head))) (.cons .head (.cons .head (.cons .head (.cons .head (.cons .head (.cons .head (.cons .head (.cons .head (.cons .head (.cons .head .nil))))))))))) ?_
  refine .cast (X' := arr 31 12 ea2 ec2 (([⟨102, 2, 4, 2, 9, 1, 0, 1, [103], [], 21, true⟩] : List Sn19).flatMap Sn19.cells)) (by rw [q7_end]) ?_
  refine .perm (.cons (.tail (.tail (.tail (.tail (.tail (.tail (.tail (.tail .head)))))))) (.cons .head (.cons .head (.cons .head (.cons .head (.cons .head (.cons .head (.cons .head (.cons .head (.cons .head (.cons .head .nil))))))))))) ?_
  refine .cast (X' := Said oa3 oc3 ([⟨19, 102, 2, 2, 2, 5, 0, 0, 0, 0, [], (none, 0, 0)⟩] : List Mg19)) (by rw [q3_out]) ?_
  refine .tell (φ := ∃ b o, oa1 = some ⟨b, o, none⟩) ((Knows.arr (cs := ([⟨19, 102, 1, 1, 2, 5, 0, 0, 0, 0, [], (none, 0, 0)⟩] : List Mg19).flatMap Mg19.cells) (.tail (.tail (.tail .head)))).mono fun _ h => RowAt.addr h (by rw [flat_length Mg19.cells_len]; exact Nat.lt_of_sub_eq_succ rfl)) (fun hh => ?_)
  obtain ⟨dz1, ez1, hdz1⟩ := hh
  refine .tell (φ := ∃ b o, oa2 = some ⟨b, o, none⟩) ((Knows.arr (cs := ([⟨23, 102, to2, 3, 0, 9, 2, 3, 1, 1, [103], y2⟩] : List Mg19).flatMap Mg19.cells) (.tail (.tail (.tail (.tail (.tail (.tail .head))))))).mono fun _ h => RowAt.addr h (by rw [flat_length Mg19.cells_len]; exact Nat.lt_of_sub_eq_succ rfl)) (fun hh => ?_)
  obtain ⟨dz2, ez2, hdz2⟩ := hh
  refine .tell (φ := ∃ b o, oa3 = some ⟨b, o, none⟩) ((Knows.arr (cs := ([⟨19, 102, 2, 2, 2, 5, 0, 0, 0, 0, [], (none, 0, 0)⟩] : List Mg19).flatMap Mg19.cells) .head).mono fun _ h => RowAt.addr h (by rw [flat_length Mg19.cells_len]; exact Nat.lt_of_sub_eq_succ rfl)) (fun hh => ?_)
  obtain ⟨dz3, ez3, hdz3⟩ := hh
  refine .tell (φ := ∃ b o, ea1 = some ⟨b, o, none⟩) ((Knows.arr (cs := ([⟨102, 1, 1, 2, 5, 0, 0, 0, [], [98], 0, true⟩] : List Sn19).flatMap Sn19.cells) (.tail (.tail .head))).mono fun _ h => RowAt.addr h (by rw [flat_length Sn19.cells_len]; exact Nat.lt_of_sub_eq_succ rfl)) (fun hh => ?_)
  obtain ⟨de1, ee1, hde1⟩ := hh
  refine .tell (φ := ∃ b o, ea2 = some ⟨b, o, none⟩) ((Knows.arr (cs := ([⟨102, 2, 4, 2, 9, 1, 0, 1, [103], [], 21, true⟩] : List Sn19).flatMap Sn19.cells) (.tail .head)).mono fun _ h => RowAt.addr h (by rw [flat_length Sn19.cells_len]; exact Nat.lt_of_sub_eq_succ rfl)) (fun hh => ?_)
  obtain ⟨de2, ee2, hde2⟩ := hh
  refine .region ?_
  refine .rd (.move rfl) ?_
  refine .rd (.eqI rfl rfl) ?_
  refine .alter (t := 58) (v' := .bool true) rfl (congrArg Value.bool (by first | rfl | decide)) ?_
  refine .rd (.move rfl) ?_
  refine .on (t := 59) rfl rfl ?_
  refine .rd (.move rfl) ?_
  refine .on (t := 59) rfl rfl ?_
  refine .rd (.eqI rfl rfl) ?_
  refine .alter (t := 61) (v' := .bool true) rfl (congrArg Value.bool (by first | rfl | decide)) ?_
  refine .rd (.pickT rfl rfl) ?_
  refine .rd (.move rfl) ?_
  refine .on (t := 63) rfl rfl ?_
  refine .rd (.move rfl) ?_
  refine .on (t := 63) rfl rfl ?_
  refine .rd (.lenL rfl rfl Tryd.underlying29 rfl) ?_
  refine .on (t := 63) rfl rfl ?_
  refine .rd (.eqI rfl rfl) ?_
  refine .alter (t := 66) (v' := .bool true) rfl (congrArg Value.bool (by first | rfl | decide)) ?_
  refine .rd (.pickT rfl rfl) ?_
  refine .rd (.move rfl) ?_
  refine .on (t := 68) rfl rfl ?_
  refine .rd (.move rfl) ?_
  refine .on (t := 68) rfl rfl ?_
  refine .rd (.indexAddr (b := dz1) (o := ez1) Tryd.underlying29 ts35 (by show some (Value.slice oa1 _ _) = _; rw [hdz1]) rfl (by decide) (by decide)) ?_
  refine .on (t := 68) rfl rfl ?_
  refine .rd (.fieldAddr fd35_0 rfl) ?_
  refine .on (t := 68) rfl rfl ?_
  refine .rd (.load na3 rfl (Knows.one (i := 0) (Knows.elem (f := Mg19.cells) Mg19.cells_len (by decide) ((Knows.arr (cs := ([⟨19, 102, 1, 1, 2, 5, 0, 0, 0, 0, [], (none, 0, 0)⟩] : List Mg19).flatMap Mg19.cells) (.tail (.tail (.tail .head)))).mono fun _ h => hdz1 ▸ h) (i := 0) rfl) rfl)) ?_
  refine .on (t := 68) rfl rfl ?_
  refine .rd (.eqI rfl rfl) ?_
  refine .alter (t := 73) (v' := .bool true) rfl (congrArg Value.bool (by first | rfl | decide)) ?_
  refine .rd (.pickT rfl rfl) ?_
  refine .rd (.move rfl) ?_
  refine .on (t := 75) rfl rfl ?_
  refine .rd (.move rfl) ?_
  refine .on (t := 75) rfl rfl ?_
  refine .rd (.indexAddr (b := dz1) (o := ez1) Tryd.underlying29 ts35 (by show some (Value.slice oa1 _ _) = _; rw [hdz1]) rfl (by decide) (by decide)) ?_
  refine .on (t := 75) rfl rfl ?_
  refine .rd (.fieldAddr fd35_2 rfl) ?_
  refine .on (t := 75) rfl rfl ?_
  refine .rd (.load na3 rfl (Knows.one (i := 2) (Knows.elem (f := Mg19.cells) Mg19.cells_len (by decide) ((Knows.arr (cs := ([⟨19, 102, 1, 1, 2, 5, 0, 0, 0, 0, [], (none, 0, 0)⟩] : List Mg19).flatMap Mg19.cells) (.tail (.tail (.tail .head)))).mono fun _ h => hdz1 ▸ h) (i := 0) rfl) rfl)) ?_
  refine .on (t := 75) rfl rfl ?_
  refine .rd (.eqI rfl rfl) ?_
  refine .alter (t := 80) (v' := .bool true) rfl (congrArg Value.bool (by first | rfl | decide)) ?_
  refine .rd (.pickT rfl rfl) ?_
  refine .rd (.move rfl) ?_
  refine .on (t := 82) rfl rfl ?_
  refine .rd (.move rfl) ?_
  refine .on (t := 82) rfl rfl ?_
  refine .rd (.lenL rfl rfl Tryd.underlying29 rfl) ?_
  refine .on (t := 82) rfl rfl ?_
  refine .rd (.eqI rfl rfl) ?_
  refine .alter (t := 85) (v' := .bool true) rfl (congrArg Value.bool (by first | rfl | decide)) ?_
  refine .rd (.pickT rfl rfl) ?_
  refine .rd (.move rfl) ?_
  refine .on (t := 87) rfl rfl ?_
  refine .rd (.move rfl) ?_
  refine .on (t := 87) rfl rfl ?_
  refine .rd (.lenL rfl rfl Tryd.underlying29 rfl) ?_
  refine .on (t := 87) rfl rfl ?_
  refine .rd (.eqI rfl rfl) ?_
  refine .alter (t := 90) (v' := .bool true) rfl (congrArg Value.bool (by rw [q3_out]; rfl)) ?_
  refine .rd (.pickT rfl rfl) ?_
  refine .rd (.move rfl) ?_
  refine .on (t := 92) rfl rfl ?_
  refine .rd (.move rfl) ?_
  refine .on (t := 92) rfl rfl ?_
  refine .rd (.indexAddr (b := dz3) (o := ez3) Tryd.underlying29 ts35 (by show some (Value.slice oa3 _ _) = _; rw [hdz3]) rfl (by decide) (by rw [q3_out]; decide)) ?_
  refine .on (t := 92) rfl rfl ?_
  refine .rd (.fieldAddr fd35_2 rfl) ?_
  refine .on (t := 92) rfl rfl ?_
  refine .rd (.load na3 rfl (Knows.one (i := 2) (Knows.elem (f := Mg19.cells) Mg19.cells_len (by decide) ((Knows.arr (cs := ([⟨19, 102, 2, 2, 2, 5, 0, 0, 0, 0, [], (none, 0, 0)⟩] : List Mg19).flatMap Mg19.cells) .head).mono fun _ h => hdz3 ▸ h) (i := 0) rfl) rfl)) ?_
  refine .on (t := 92) rfl rfl ?_
  refine .rd (.eqI rfl rfl) ?_
  refine .alter (t := 97) (v' := .bool true) rfl (congrArg Value.bool (by first | rfl | decide)) ?_
  refine .rd (.pickT rfl rfl) ?_
  refine .rd (.move rfl) ?_
  refine .on (t := 99) rfl rfl ?_
  refine .rd (.move rfl) ?_
  refine .on (t := 99) rfl rfl ?_
  refine .rd (.indexAddr (b := dz3) (o := ez3) Tryd.underlying29 ts35 (by show some (Value.slice oa3 _ _) = _; rw [hdz3]) rfl (by decide) (by rw [q3_out]; decide)) ?_
  refine .on (t := 99) rfl rfl ?_
  refine .rd (.fieldAddr fd35_3 rfl) ?_
  refine .on (t := 99) rfl rfl ?_
  refine .rd (.load na3 rfl (Knows.one (i := 3) (Knows.elem (f := Mg19.cells) Mg19.cells_len (by decide) ((Knows.arr (cs := ([⟨19, 102, 2, 2, 2, 5, 0, 0, 0, 0, [], (none, 0, 0)⟩] : List Mg19).flatMap Mg19.cells) .head).mono fun _ h => hdz3 ▸ h) (i := 0) rfl) rfl)) ?_
  refine .on (t := 99) rfl rfl ?_
  refine .rd (.eqI rfl rfl) ?_
  refine .alter (t := 104) (v' := .bool true) rfl (congrArg Value.bool (by first | rfl | decide)) ?_
  refine .rd (.pickT rfl rfl) ?_
  refine .rd (.move rfl) ?_
  refine .on (t := 106) rfl rfl ?_
  refine .rd (.move rfl) ?_
  refine .on (t := 106) rfl rfl ?_
  refine .rd (.lenL rfl rfl Tryd.underlying45 rfl) ?_
  refine .on (t := 106) rfl rfl ?_
  refine .rd (.eqI rfl rfl) ?_
  refine .alter (t := 109) (v' := .bool true) rfl (congrArg Value.bool (by rw [q4_end]; rfl)) ?_
  refine .rd (.pickT rfl rfl) ?_
  refine .rd (.move rfl) ?_
  refine .on (t := 111) rfl rfl ?_
  refine .rd (.move rfl) ?_
  refine .on (t := 111) rfl rfl ?_
  refine .rd (.indexAddr (b := de1) (o := ee1) Tryd.underlying45 ts31 (by show some (Value.slice ea1 _ _) = _; rw [hde1]) rfl (by decide) (by rw [q4_end]; decide)) ?_
  refine .on (t := 111) rfl rfl ?_
  refine .rd (.fieldAddr fd31_9 rfl) ?_
  refine .on (t := 111) rfl rfl ?_
  refine .rd (.load na9 rfl (Knows.one (i := 9) (Knows.elem (f := Sn19.cells) Sn19.cells_len (by decide) ((Knows.arr (cs := ([⟨102, 1, 1, 2, 5, 0, 0, 0, [], [98], 0, true⟩] : List Sn19).flatMap Sn19.cells) (.tail (.tail .head))).mono fun _ h => hde1 ▸ h) (i := 0) rfl) rfl)) ?_
  refine .on (t := 111) rfl rfl ?_
  refine .rd (.eqT (m := [98]) rfl rfl) ?_
  refine .alter (t := 116) (v' := .bool true) rfl (congrArg Value.bool (by decide)) ?_
  refine .rd (.pickT rfl rfl) ?_
  refine .rd (.move rfl) ?_
  refine .on (t := 118) rfl rfl ?_
  refine .rd (.move rfl) ?_
  refine .on (t := 118) rfl rfl ?_
  refine .rd (.indexAddr (b := de1) (o := ee1) Tryd.underlying45 ts31 (by show some (Value.slice ea1 _ _) = _; rw [hde1]) rfl (by decide) (by rw [q4_end]; decide)) ?_
  refine .on (t := 118) rfl rfl ?_
  refine .rd (.fieldAddr fd31_4 rfl) ?_
  refine .on (t := 118) rfl rfl ?_
  refine .rd (.load na3 rfl (Knows.one (i := 4) (Knows.elem (f := Sn19.cells) Sn19.cells_len (by decide) ((Knows.arr (cs := ([⟨102, 1, 1, 2, 5, 0, 0, 0, [], [98], 0, true⟩] : List Sn19).flatMap Sn19.cells) (.tail (.tail .head))).mono fun _ h => hde1 ▸ h) (i := 0) rfl) rfl)) ?_
  refine .on (t := 118) rfl rfl ?_
  refine .rd (.eqI rfl rfl) ?_
  refine .alter (t := 123) (v' := .bool true) rfl (congrArg Value.bool (by first | rfl | decide)) ?_
  refine .rd (.pickT rfl rfl) ?_
  refine .rd (.move rfl) ?_
  refine .on (t := 125) rfl rfl ?_
  refine .rd (.move rfl) ?_
  refine .on (t := 125) rfl rfl ?_
  refine .rd (.indexAddr (b := de1) (o := ee1) Tryd.underlying45 ts31 (by show some (Value.slice ea1 _ _) = _; rw [hde1]) rfl (by decide) (by rw [q4_end]; decide)) ?_
  refine .on (t := 125) rfl rfl ?_
  refine .rd (.fieldAddr fd31_10 rfl) ?_
  refine .on (t := 125) rfl rfl ?_
  refine .rd (.load na25 rfl (Knows.one (i := 10) (Knows.elem (f := Sn19.cells) Sn19.cells_len (by decide) ((Knows.arr (cs := ([⟨102, 1, 1, 2, 5, 0, 0, 0, [], [98], 0, true⟩] : List Sn19).flatMap Sn19.cells) (.tail (.tail .head))).mono fun _ h => hde1 ▸ h) (i := 0) rfl) rfl)) ?_
  refine .on (t := 125) rfl rfl ?_
  refine .rd (.eqI rfl rfl) ?_
  refine .alter (t := 130) (v' := .bool true) rfl (congrArg Value.bool (by first | rfl | decide)) ?_
  refine .rd (.pickT rfl rfl) ?_
  refine .rd (.move rfl) ?_
  refine .on (t := 132) rfl rfl ?_
  refine .rd (.move rfl) ?_
  refine .on (t := 132) rfl rfl ?_
  refine .rd (.eqI rfl rfl) ?_
  refine .alter (t := 134) (v' := .bool true) rfl (congrArg Value.bool (by first | rfl | decide)) ?_
  refine .rd (.pickT rfl rfl) ?_
  refine .rd (.move rfl) ?_
  refine .on (t := 136) rfl rfl ?_
  refine .rd (.move rfl) ?_
  refine .on (t := 136) rfl rfl ?_
  refine .rd (.lenL rfl rfl Tryd.underlying29 rfl) ?_
  refine .on (t := 136) rfl rfl ?_
  refine .rd (.eqI rfl rfl) ?_
  refine .alter (t := 139) (v' := .bool true) rfl (congrArg Value.bool (by first | rfl | decide)) ?_
  refine .rd (.pickT rfl rfl) ?_
  refine .rd (.move rfl) ?_
  refine .on (t := 141) rfl rfl ?_
  refine .rd (.move rfl) ?_
  refine .on (t := 141) rfl rfl ?_
  refine .rd (.eqI rfl rfl) ?_
  refine .alter (t := 143) (v' := .bool true) rfl (congrArg Value.bool (by first | rfl | decide)) ?_
  refine .rd (.pickT rfl rfl) ?_
  refine .rd (.move rfl) ?_
  refine .on (t := 145) rfl rfl ?_
  refine .rd (.move rfl) ?_
  refine .on (t := 145) rfl rfl ?_
  refine .rd (.indexAddr (b := dz2) (o := ez2) Tryd.underlying29 ts35 (by show some (Value.slice oa2 _ _) = _; rw [hdz2]) rfl (by decide) (by decide)) ?_
  refine .on (t := 145) rfl rfl ?_
  refine .rd (.fieldAddr fd35_11 rfl) ?_
  refine .on (t := 145) rfl rfl ?_
  refine .rd (.load na3 rfl (Knows.one (i := 11) (Knows.elem (f := Mg19.cells) Mg19.cells_len (by decide) ((Knows.arr (cs := ([⟨23, 102, to2, 3, 0, 9, 2, 3, 1, 1, [103], y2⟩] : List Mg19).flatMap Mg19.cells) (.tail (.tail (.tail (.tail (.tail (.tail .head))))))).mono fun _ h => hdz2 ▸ h) (i := 0) rfl) rfl)) ?_
  refine .on (t := 145) rfl rfl ?_
  refine .rd (.eqI rfl rfl) ?_
  refine .alter (t := 150) (v' := .bool true) rfl (congrArg Value.bool (by first | rfl | decide)) ?_
  refine .rd (.pickT rfl rfl) ?_
  refine .rd (.move rfl) ?_
  refine .on (t := 152) rfl rfl ?_
  refine .rd (.move rfl) ?_
  refine .on (t := 152) rfl rfl ?_
  refine .rd (.lenL rfl rfl Tryd.underlying29 rfl) ?_
  refine .on (t := 152) rfl rfl ?_
  refine .rd (.eqI rfl rfl) ?_
  refine .alter (t := 155) (v' := .bool true) rfl (congrArg Value.bool (by rw [q7_out]; rfl)) ?_
  refine .rd (.pickT rfl rfl) ?_
  refine .rd (.move rfl) ?_
  refine .on (t := 157) rfl rfl ?_
  refine .rd (.move rfl) ?_
  refine .on (t := 157) rfl rfl ?_
  refine .rd (.lenL rfl rfl Tryd.underlying45 rfl) ?_
  refine .on (t := 157) rfl rfl ?_
  refine .rd (.eqI rfl rfl) ?_
  refine .alter (t := 160) (v' := .bool true) rfl (congrArg Value.bool (by rw [q7_end]; rfl)) ?_
  refine .rd (.pickT rfl rfl) ?_
  refine .rd (.move rfl) ?_
  refine .on (t := 162) rfl rfl ?_
  refine .rd (.move rfl) ?_
  refine .on (t := 162) rfl rfl ?_
  refine .rd (.indexAddr (b := de2) (o := ee2) Tryd.underlying45 ts31 (by show some (Value.slice ea2 _ _) = _; rw [hde2]) rfl (by decide) (by rw [q7_end]; decide)) ?_
  refine .on (t := 162) rfl rfl ?_
  refine .rd (.fieldAddr fd31_10 rfl) ?_
  refine .on (t := 162) rfl rfl ?_
  refine .rd (.load na25 rfl (Knows.one (i := 10) (Knows.elem (f := Sn19.cells) Sn19.cells_len (by decide) ((Knows.arr (cs := ([⟨102, 2, 4, 2, 9, 1, 0, 1, [103], [], 21, true⟩] : List Sn19).flatMap Sn19.cells) (.tail .head)).mono fun _ h => hde2 ▸ h) (i := 0) rfl) rfl)) ?_
  refine .on (t := 162) rfl rfl ?_
  refine .rd (.eqI rfl rfl) ?_
  refine .alter (t := 167) (v' := .bool true) rfl (congrArg Value.bool (by first | rfl | decide)) ?_
  refine .rd (.pickT rfl rfl) ?_
  refine .rd (.move rfl) ?_
  refine .on (t := 169) rfl rfl ?_
  refine .rd (.move rfl) ?_
  refine .on (t := 169) rfl rfl ?_
  refine .fn rfl rfl (.cons (.tail (.tail (.tail (.tail .head)))) .nil) (fun _ _ _ => trivial) (open_ok pb (done19 (q7 y1 (some ⟨br, 0, none⟩) 2 y2))) (fun v G1 hq => ?_)
  obtain ⟨rfl, rfl⟩ := hq
  simp only [List.cons_append, List.nil_append]
  refine .on (t := 169) rfl rfl ?_
  refine .rd (.eqI rfl rfl) ?_
  refine .alter (t := 172) (v' := .bool true) rfl (congrArg Value.bool (by show decide ((((q7 y1 (some ⟨br, 0, none⟩) 2 y2).open_.length : Nat) : Int) = 0) = true; rw [q7_open]; rfl)) ?_
  refine .rd (.pickT rfl rfl) ?_
  refine .rd (.assign rfl) ?_
  refine .nil ?_
  refine .retP Tryd.func6 (.cons (.tmp rfl) .nil) (.cons (.tail (.tail (.tail (.tail (.tail (.tail (.tail (.tail (.tail (.tail .head)))))))))) .nil) ?_
  exact ⟨[], ⟨rfl, rfl⟩, rfl⟩

end Go.Proofs.YtankogdnhgmkhaaDoor


/- Chapter 19: a read that is answered, in plain Lean. -/
namespace Go.Proofs.YtankogdnhgmkhaaDoor
open Go Go.Sp

def scell (t : List UInt8) : List Value := [.string (str t)]
theorem scell_len (t : List UInt8) : (scell t).length = 1 := rfl
theorem RowAt.prefix {a : Option Addr} {l m : List Value} {w : World} (h : RowAt a (l ++ m) w) : RowAt a l w := by
  by_cases hl : l = []
  · exact .inl hl
  · rcases h with h | ⟨b, o, e, h1, h2⟩
    · exact absurd (List.append_eq_nil_iff.1 h).1 hl
    · exact .inr ⟨b, o, e, fun i v hv => h1 i v (by rw [List.getElem?_append_left (List.getElem?_eq_some_iff.1 hv).1]; exact hv), h2.left⟩
theorem RowAt.take_flat {α : Type} {f : α → List Value} {a : Option Addr} {l : List α} {w : World} (n : Nat) (h : RowAt a (l.flatMap f) w) : RowAt a ((l.take n).flatMap f) w := by
  rw [← List.take_append_drop n l, List.flatMap_append] at h; exact Go.Proofs.YtankogdnhgmkhaaDoor.RowAt.prefix h
def fs1 (off : Int) (z : Sl19) : CS19 := callS (new19 101 10 3 [1]) 0 (rq 3 off) z
def fx (off : Int) (z : Sl19) : Cl19 := askC (new19 101 10 3 [1]) 0 (newC (new19 101 10 3 [1]) (rq 3 off) z)
def fm (err base : Int) (ra : Option Addr) (rc : Nat) (vs : List (List UInt8)) : An19 := ⟨20, 1, 101, 1, 0, err, [⟨base, ra, rc, vs⟩]⟩
theorem fx_m (off z) : (fx off z).m = ⟨19, 101, 1, 1, 3, off, 0, 0, 0, 0, [], (none, 0, 0)⟩ := by rfl
theorem fx_open (off z) : (fs1 off z).open_ = [fx off z] := by rfl
theorem fx_s (off z) : (fx off z).s = ⟨0, 0, 1, 3, off, 0, 0, 0, [], [], 0, false⟩ := by rfl
theorem may_rq {off : Int} (h : 0 ≤ off ∧ off ≤ 1000000000) : may19 (rq 3 off) = true := by
  unfold may19 number19 rq
  simp [h]
theorem fs0_pi : PI (new19 101 10 3 [1]) := .new (by decide) (by decide) (by decide) (by decide) (by decide)
theorem fs1_pi {off : Int} (h : 0 ≤ off ∧ off ≤ 1000000000) (z) : PI (fs1 off z) := fs0_pi.call (may_rq h) (by decide) (by decide) 0 z
theorem finds_step {err base off : Int} {ra : Option Addr} {rc : Nat} {vs : List (List UInt8)} {z : Sl19} (h1 : err ≠ 15) (h2 : err ≠ 22) :
    step (fs1 off z) 1 (fm err base ra rc vs) = endS { fs1 off z with open_ := [] } (fx off z) err (fm err base ra rc vs) := by
  have hf : fits19 (fs1 off z) (fm err base ra rc vs) (fx off z) = true := by rfl
  have : (fs1 off z).open_.findIdx? (fits19 (fs1 off z) (fm err base ra rc vs)) = some 0 := by rw [fx_open, List.findIdx?_cons, hf]; rfl
  unfold step
  rw [this]
  dsimp only
  rw [show (fs1 off z).open_[0]? = some (fx off z) by rw [fx_open]; rfl]
  dsimp only
  rw [stepAt_end]
  · rw [show (fs1 off z).open_.eraseIdx 0 = [] by rw [fx_open]; rfl]; rfl
  · rintro (h | h)
    · exact h1 h
    · exact h2 h
  · rw [fx_m, fx_s]
    rintro (⟨_, h⟩ | ⟨_, h⟩)
    · exact absurd (show (19 : Int) = 23 from h) (by decide)
    · exact absurd (show (1 : Int) = 7 from h) (by decide)
/-- What is told. -/
def fe (err base off : Int) (ra : Option Addr) (rc : Nat) (vs : List (List UInt8)) (z : Sl19) : Sn19 := ended19 { fs1 off z with open_ := [] } (fx off z) err (fm err base ra rc vs)
theorem finds_ended {err base off : Int} {ra rc vs z} (h1 : err ≠ 15) (h2 : err ≠ 22) : (step (fs1 off z) 1 (fm err base ra rc vs)).ended = [fe err base off ra rc vs z] := by rw [finds_step h1 h2]; rfl
theorem finds_open {err base off : Int} {ra rc vs z} (h1 : err ≠ 15) (h2 : err ≠ 22) : (step (fs1 off z) 1 (fm err base ra rc vs)).open_ = [] := by rw [finds_step h1 h2]; rfl
theorem fe_err {err base off : Int} {ra rc vs z} (h : err ≠ 0) : fe err base off ra rc vs z = ⟨101, 1, 1, 3, off, 0, 0, 0, [], [], err, true⟩ := by
  unfold fe ended19; rw [if_neg h]; unfold endSn; rw [fx_s]; rfl
theorem fe_some {base off : Int} {ra rc vs z} {t : List UInt8} (h : 0 ≤ off - base ∧ off - base < (vs.length : Int)) (ht : vs[(off - base).toNat]? = some t) : fe 0 base off ra rc vs z = ⟨101, 1, 1, 3, off, 0, 0, 0, [], t, 0, true⟩ := by
  have : toldAt off [⟨base, ra, rc, vs⟩] = some t := by
    unfold toldAt; rw [if_pos h]
    show some (vs.getD _ _) = _
    rw [List.getD_eq_getElem?_getD, ht]; rfl
  unfold fe ended19; rw [if_pos rfl]; unfold told19 endSn; rw [fx_s]; dsimp only; rw [if_pos rfl]
  show (match toldAt off [⟨base, ra, rc, vs⟩] with | some t => _ | none => _) = _
  rw [this]; rfl
theorem fe_none {base off : Int} {ra rc vs z} (h : ¬ (0 ≤ off - base ∧ off - base < (vs.length : Int))) : fe 0 base off ra rc vs z = ⟨101, 1, 1, 3, off, 0, 0, 0, [], [], 8, true⟩ := by
  have : toldAt off [⟨base, ra, rc, vs⟩] = none := by
    unfold toldAt; rw [if_neg h]; rfl
  unfold fe ended19; rw [if_pos rfl]; unfold told19 endSn; rw [fx_s]; dsimp only; rw [if_pos rfl]
  show (match toldAt off [⟨base, ra, rc, vs⟩] with | some t => _ | none => _) = _
  rw [this]; rfl
theorem fe_keep {err base off : Int} {ra rc vs z} : (fe err base off ra rc vs z).offset = off ∧ (fe err base off ra rc vs z).part = 3 := by
  by_cases h : err = 0
  · subst h
    by_cases h2 : 0 ≤ off - base ∧ off - base < (vs.length : Int)
    · obtain ⟨t, ht⟩ : ∃ t, vs[(off - base).toNat]? = some t := ⟨_, List.getElem?_eq_getElem (by omega)⟩
      rw [fe_some h2 ht]; exact ⟨rfl, rfl⟩
    · rw [fe_none h2]; exact ⟨rfl, rfl⟩
  · rw [fe_err h]; exact ⟨rfl, rfl⟩
theorem fm_ok {err base : Int} {ra rc vs} (h : 0 ≤ base ∧ base ≤ 1000000000) (hv : vs.length ≤ 1000000) : (fm err base ra rc vs).ok :=
  ⟨by show 1 ≤ 1000; decide, fun b hb => by rcases List.mem_singleton.1 hb with rfl; exact h, fun b hb => by rcases List.mem_singleton.1 hb with rfl; exact hv⟩
end Go.Proofs.YtankogdnhgmkhaaDoor

/- A separation logic over the given machine. Part 10: what a statement's arguments are, and a law's row out of its contract. -/
namespace Go.Sp
open Go Go.ChangeShapes Go.WideShapes Go.ChangeAt Go.RowKit

section
variable {H : Type} {enc : TypeId × Value → H} {P : Program} {W : World} {spare : Nat → Bool} {held : Bool}

/-- Every string, slice and map of a reading fits into memory. -/
def Fits (P : Program) (t : TypeId) (d : DataW H) : Prop := ∀ n ∈ d.weights P t, n ≤ 140737488351232

/-- What a reading of type t tells: its cells are those of one of α. -/
def Rd {α : Type} (enc : TypeId × Value → H) (P : Program) (W : World) (spare : Nat → Bool) (held : Bool) (t : TypeId) (cells : α → List Value) (good : α → Prop) : Prop :=
  ∀ (n : Nat) (cs : List Value) (x : DataW H × List MemPlace), DataW.trod enc P W 0 spare held n t cs = some x → Fits P t x.1 → ∃ a, cs = cells a ∧ good a

theorem Rd.int {t} {k : IntKind} (ht : P.underlying t = some (.int k)) : Rd enc P W spare held t (fun n : Int => [.int k n]) (fun n => (Lit.int k n).wf = true) := fun n cs x h _ => by
  obtain ⟨m, rfl, _, hw⟩ := DataW.trod_int ht h
  exact ⟨m, rfl, hw⟩
theorem Rd.bool {t} (ht : P.underlying t = some .bool) : Rd enc P W spare held t (fun b : Bool => [.bool b]) (fun _ => True) := fun n cs x h _ => by
  obtain ⟨m, rfl, _⟩ := DataW.trod_bool ht h
  exact ⟨m, rfl, trivial⟩
theorem Rd.string {t} (ht : P.underlying t = some .string) : Rd enc P W spare held t (fun s : ByteArray => [.string s]) (fun s => s.size ≤ 140737488351232) := fun n cs x h hf => by
  obtain ⟨s, rfl, rfl, _⟩ := DataW.trod_string ht h
  refine ⟨s, rfl, ?_⟩
  have := hf s.data.toList.length (by simp [DataW.weights])
  simpa using this

theorem weightsAll_mem {e : TypeId} {l : List (DataW H)} {d : DataW H} (hd : d ∈ l) {n : Nat} (hn : n ∈ d.weights P e) : n ∈ DataW.weightsAll P e l := by
  induction l with
  | nil => cases hd
  | cons y l ih =>
    rw [DataW.weightsAll, List.mem_append]
    rcases List.mem_cons.1 hd with rfl | h
    · exact .inl hn
    · exact .inr (ih h)
theorem weightsEach_mem {n : Nat} {t : TypeId} {d : DataW H} (hn : n ∈ d.weights P t) : ∀ {ts : List TypeId} {l : List (DataW H)} {i : Nat}, ts[i]? = some t → l[i]? = some d → n ∈ DataW.weightsEach P ts l
  | [], _, _, h, _ => by simp at h
  | _ :: _, [], _, _, h => by simp at h
  | u :: ts, y :: l, 0, h, k => by
    simp at h k; subst h k
    rw [DataW.weightsEach.eq_def]; simp only [List.mem_append]; exact .inl hn
  | u :: ts, y :: l, i + 1, h, k => by
    rw [DataW.weightsEach.eq_def]; simp only [List.mem_append]
    exact .inr (weightsEach_mem hn (ts := ts) (l := l) (i := i) (by simpa using h) (by simpa using k))

/-- One field of a struct. -/
theorem Rd.field {α : Type} {t ft : TypeId} {cells : α → List Value} {good : α → Prop} {fs : Array Field} {n : Nat} {cs : List Value} {x : DataW H × List MemPlace} (ht : P.underlying t = some (.struct fs))
    (h : DataW.trod enc P W 0 spare held n t cs = some x) (hf : Fits P t x.1) (i off sz : Nat) (hi : (fs[i]?).map (fun d => (d.type, d.offset)) = some (ft, off)) (hc : P.cellsOf ft = sz) (r : Rd enc P W spare held ft cells good) :
    ∃ a, (cs.drop off).take sz = cells a ∧ good a := by
  obtain ⟨xs, m, rfl, rfl, hl, hx, hall⟩ := DataW.trod_struct ht h
  cases hfi : fs[i]? with
  | none => simp [hfi] at hi
  | some f =>
    simp [hfi] at hi
    obtain ⟨rfl, rfl⟩ := hi
    have h1 := hall i f hfi
    rw [hc] at h1
    have hlt : i < xs.length := by rw [hx]; exact (Array.getElem?_eq_some_iff.1 hfi).1
    have h2 : xs[i]? = some xs[i] := List.getElem?_eq_getElem hlt
    rw [h2] at h1
    refine r m _ _ h1 fun w hw => hf w ?_
    rw [DataW.weights.eq_def]
    simp only [ht]
    exact weightsEach_mem hw (i := i) (by simp [hfi]) (by simp [h2])

theorem Rd.structLen {t : TypeId} {fs : Array Field} {n : Nat} {cs : List Value} {x : DataW H × List MemPlace} (ht : P.underlying t = some (.struct fs)) (h : DataW.trod enc P W 0 spare held n t cs = some x) : cs.length = P.cellsOf t := by
  obtain ⟨xs, m, rfl, rfl, hl, hx, hall⟩ := DataW.trod_struct ht h
  exact hl

theorem cons_of_len {l : List Value} {n : Nat} (h : l.length = n + 1) : ∃ a t, l = a :: t ∧ t.length = n := by
  cases l with
  | nil => simp at h
  | cons a t => exact ⟨a, t, rfl, by simpa using h⟩

/-- A slice. -/
theorem Rd.slice {α : Type} {t e : TypeId} {s by_ : Nat} {cells : α → List Value} {good : α → Prop} (ht : P.underlying t = some (.slice e)) (hs : P.cellsOf e = s) (hs0 : 0 < s) (hby : P.bytesOf e = by_) (hlen : ∀ a, (cells a).length = s) (hone : ∀ a, ones (cells a))
    (r : Rd enc P W spare held e cells good) :
    Rd enc P W spare held t (fun y : Option Addr × Nat × List α => [.slice y.1 y.2.2.length y.2.1]) (fun y => RowAt y.1 (y.2.2.flatMap cells) W ∧ (∀ a ∈ y.2.2, good a) ∧ y.2.2.length * by_ ≤ 140737488351232 ∧ (y.1 = none → y.2.2 = []) ∧ y.2.2.length ≤ y.2.1) := by
  intro n cs x h hf
  rcases DataW.trod_slice ht h with ⟨rfl, _⟩ | ⟨a, len, cap, elems, rest, m, rfl, rfl, rfl, _, hlc, hcm, hel, heach, _, _⟩
  · exact ⟨(none, 0, []), rfl, .inl rfl, fun _ h => (by cases h), by show 0 * by_ ≤ _; omega, fun _ => rfl, Nat.le_refl _⟩
  · have hw : DataW.weights P t (.slice (elems.map (·.1)) (rest.map (·.1))) = (elems.length + rest.length) * by_ :: (DataW.weightsAll P e (elems.map (·.1)) ++ DataW.weightsAll P e (rest.map (·.1))) := by
      rw [DataW.weights.eq_def]; simp only [ht, hby, List.length_map]
    have hb : len * by_ ≤ 140737488351232 := by
      have h1 := hf _ (by rw [hw]; exact List.mem_cons_self)
      have h2 : len * by_ ≤ (elems.length + rest.length) * by_ := Nat.mul_le_mul_right _ (by omega)
      omega
    have each : ∀ i : Fin len, ∃ y : α, W.cells? 0 (a.add (i * s)) s = some (cells y) ∧ good y := fun i => by
      have h1 := heach i i.2
      rw [hs] at h1
      have hi : (i : Nat) < elems.length := by omega
      rw [List.getElem?_eq_getElem hi, Option.bind_eq_some_iff] at h1
      obtain ⟨cs', hc, hd⟩ := h1
      obtain ⟨y, rfl, hy⟩ := r _ _ _ hd fun w hw' => hf w (by
        rw [hw]
        exact List.mem_cons_of_mem _ (List.mem_append_left _ (weightsAll_mem (List.mem_map_of_mem (List.getElem_mem hi)) hw')))
      exact ⟨y, hc, hy⟩
    let f : Fin len → α := fun i => (each i).choose
    have hf1 : ∀ i : Fin len, W.cells? 0 (a.add (i * s)) s = some (cells (f i)) := fun i => (each i).choose_spec.1
    have hf2 : ∀ i : Fin len, good (f i) := fun i => (each i).choose_spec.2
    have hll : (List.ofFn f).length = len := List.length_ofFn
    refine ⟨(some a, cap, List.ofFn f), by show _ = [Value.slice (some a) (List.ofFn f).length cap]; rw [hll], ?_, ?_, by show (List.ofFn f).length * by_ ≤ _; rw [hll]; exact hb, fun h => (by cases h), by show (List.ofFn f).length ≤ cap; rw [hll]; exact hlc⟩
    · by_cases h0 : len = 0
      · left
        have : List.ofFn f = [] := List.eq_nil_of_length_eq_zero (by rw [hll, h0])
        rw [this]; rfl
      · right
        obtain ⟨_, _, hc0⟩ := World.cells?_some (hf1 ⟨0, by omega⟩)
        have hsp : a.spot = none := by
          have := hc0 0 hs0
          simp only [Nat.zero_mul] at this
          have hz : (cells (f ⟨0, by omega⟩))[0]? = some ((cells (f ⟨0, by omega⟩))[0]'(by rw [hlen]; exact hs0)) := List.getElem?_eq_getElem _
          rw [hz] at this
          simp only [Addr.add, if_true, World.cell?] at this
          split at this
          · split at this
            · cases this
            · simpa using ‹¬ a.spot.isSome = true›
          · cases this
        obtain ⟨b, o, sp⟩ := a
        cases hsp
        refine ⟨b, o, rfl, fun i v hv => ?_, ones.flatMap _ fun y _ => hone y⟩
        have hil : i < (List.ofFn f).length * s := by
          have := (List.getElem?_eq_some_iff.1 hv).1
          rwa [flat_length hlen] at this
        have hq : i / s < len := by rw [← hll]; exact Nat.div_lt_of_lt_mul (by rw [Nat.mul_comm]; exact hil)
        have hr : i % s < s := Nat.mod_lt _ hs0
        have hx : (List.ofFn f)[i / s]? = some (f ⟨i / s, hq⟩) := by rw [List.getElem?_ofFn]; simp [hq]
        obtain ⟨_, _, hc⟩ := World.cells?_some (hf1 ⟨i / s, hq⟩)
        have h1 := hc (i % s) hr
        have hv' : (cells (f ⟨i / s, hq⟩))[i % s]? = some v := by
          have hz : (cells (f ⟨i / s, hq⟩))[i % s]? = some ((cells (f ⟨i / s, hq⟩))[i % s]'(by rw [hlen]; exact hr)) := List.getElem?_eq_getElem _
          have h2 := flat_at hlen _ _ _ hx _ _ hz
          rw [show i / s * s + i % s = i by rw [Nat.mul_comm]; exact Nat.div_add_mod i s] at h2
          rw [h2] at hv
          rw [hz]; exact hv
        rw [hv'] at h1
        rw [Addr_add, Addr_add] at h1
        rw [← h1]
        congr 2
        have := Nat.div_add_mod i s
        rw [Nat.mul_comm] at this
        show o + i = o + i / s * s + i % s
        omega
    · intro y hy
      obtain ⟨i, rfl⟩ := List.mem_ofFn.1 hy
      exact hf2 i

end

theorem okWide_agg {P : Program} {w : World} {r : Reach} {b0 : Nat} {t : TypeId} {fs : Array Field} {v : Value} (ht : P.underlying t = some (.struct fs)) (h : Value.okWide P w r b0 t v) : ∃ cs, v = .agg cs := by
  unfold Value.okWide at h
  rw [ht] at h
  obtain ⟨cs, e, _⟩ := h
  exact ⟨cs, e⟩

/-! ### The row -/

theorem Sat.below {W w' : World} {Γ : List SProp} (h : Sat (amb W) w' (Sp.base W :: Γ)) : Below W.heap.size W w' := by
  have hb : ∀ (k : Nat) (o : Obj), W.heap[k]? = some o → w'.heap[k]? = some o := fun k o hk => h.base k o hk
  obtain ⟨ha, _⟩ := h
  refine ⟨congrArg Amb.os ha, congrArg Amb.tape ha, congrArg Amb.output ha, ?_, fun k hk => ?_⟩
  · by_cases h0 : W.heap.size = 0
    · omega
    · have hlt : W.heap.size - 1 < W.heap.size := by omega
      have h1 := hb (W.heap.size - 1) _ (Array.getElem?_eq_getElem hlt)
      have := (Array.getElem?_eq_some_iff.1 h1).1
      omega
  · have h1 : W.heap[k]? = some W.heap[k] := Array.getElem?_eq_getElem hk
    rw [hb k _ h1, h1]

/-- A law that is proved by a contract: from the memory at the start. -/
theorem Cn.law {P f} {args : List Value} {φ : World → Prop} {W : World} (h : Cn P f args φ [] fun v G => v = .bool true ∧ G = []) (hφ : ∀ w : World, (∀ (b : Nat) (o : Obj), W.heap[b]? = some o → w.heap[b]? = some o) → φ w) :
    Calls P f args.toArray W fun e w' => e = .returned (.bool true) ∧ Below W.heap.size W w' := by
  have h1 := (h (base W) fun A w s => hφ w fun b o hb => s.base b o hb).runs (amb W) [] W (by simpa using Sat.start W)
  refine h1.mono ?_
  rintro e w' ⟨v, Γ', rfl, ⟨Γ1, ⟨rfl, rfl⟩, rfl⟩, s⟩
  exact ⟨rfl, s.below⟩

/-- The same, with what the arguments tell known for good. -/
theorem Cn.lawK {P f} {args : List Value} {φ : World → Prop} {W : World} (h : Cn P f args (fun _ => True) [know φ] fun v G => v = .bool true ∧ G = []) (hφ : ∀ w : World, (∀ (b : Nat) (o : Obj), W.heap[b]? = some o → w.heap[b]? = some o) → φ w) :
    Calls P f args.toArray W fun e w' => e = .returned (.bool true) ∧ Below W.heap.size W w' := by
  have hs : Sat (amb W) W (([know φ] ++ [base W]) ++ []) := by
    have h1 : Sat (amb W) W ([base W] ++ [base W]) := (Sat.start W).map fun _ s => sat.base_dup s
    refine Sat.close (fun h s => ?_) h1
    obtain ⟨k, _, _, l, _, s, _⟩ := s
    obtain ⟨j, jl, jr, e⟩ := sat.base_know hφ s
    exact ⟨j, jl.trans l, jr, e⟩
  refine ((h (base W) fun _ _ _ => trivial).runs (amb W) [] W hs).mono ?_
  rintro e w' ⟨v, Γ', rfl, ⟨Γ1, ⟨rfl, rfl⟩, rfl⟩, s⟩
  exact ⟨rfl, s.below⟩

theorem RowAt.later {W w : World} (H : ∀ (b : Nat) (o : Obj), W.heap[b]? = some o → w.heap[b]? = some o) {a cs} (h : RowAt a cs W) : RowAt a cs w := by
  rcases h with h | ⟨b, o, e, h⟩
  · exact .inl h
  · refine .inr ⟨b, o, e, fun i v hv => ?_, h.2⟩
    have h1 := h.1 i v hv
    unfold World.cell? at h1 ⊢
    cases hb : W.heap[b]? with
    | none => simp [hb] at h1
    | some ob => rw [hb] at h1; rw [H b ob hb]; exact h1

end Go.Sp

/- Chapter 19: what may change something is not asked again unless it was refused, in plain Lean; steps of a script. -/
namespace Go.Proofs.YtankogdnhgmkhaaDoor
open Go Go.Sp

structure MX where
  m0 : Int
  m1 : Int
  m2 : Int
  m3 : Int
  m4 : Int
  m5 : Int
  m6 : Int
  m7 : Int
  m8 : Int
  m9 : Int
  m10 : Int
  m11 : Int
  m12 : Int
  m13 : Int
  m14 : Int
  err : Int
  nm : List UInt8
  tx : List UInt8
  b : Sl19
  e : Sl19
  i : Sl19
def MX.cells (m : MX) : List Value := [.int .i64 m.m0, .int .i64 m.m1, .int .i64 m.m2, .int .i64 m.m3, .int .i64 m.m4, .int .i64 m.m5, .int .i64 m.m6, .int .i64 m.m7, .int .i64 m.m8, .int .i64 m.m9, .int .i64 m.m10, .int .i64 m.m11, .int .i64 m.m12, .int .i64 m.m13, .int .i64 m.m14, .int .i64 m.err, .string (str m.nm), .string (str m.tx), .slice m.b.1 m.b.2.1 m.b.2.2, .slice m.e.1 m.e.2.1 m.e.2.2, .slice m.i.1 m.i.2.1 m.i.2.2]
structure OpX where
  kind : Int
  forth : Int
  s : Sn19
  m : MX
  fits : Bool
def OpX.cells (x : OpX) : List Value := [.int .i64 x.kind, .int .i64 x.forth] ++ x.s.cells ++ x.m.cells ++ [.bool x.fits]
theorem OpX.cells_len (x : OpX) : x.cells.length = 36 := rfl
theorem OpX.cells_ones (x : OpX) : ones x.cells := .of rfl
def i64 (n : Int) : Prop := -9223372036854775808 ≤ n ∧ n ≤ 9223372036854775807
structure OpX.good (x : OpX) : Prop where
  kind : i64 x.kind
  forth : i64 x.forth
  off : i64 x.s.offset
  name : x.s.name.length ≤ 140737488351232
  text : x.s.text.length ≤ 140737488351232
/-- A commit's message. -/
def IsCm (m : Mg19) : Prop := m.kind = 23 ∧ m.index = 3 ∧ m.ints.2.1 = 1
structure OI (s : CS19) (r : Bool) : Prop where
  pi : PI s
  one : s.open_.length ≤ 1
  com : ∀ x ∈ s.open_, x.s.kind = 4 ∧ IsCm x.m ∧ (x.refused = true → r = true)
theorem may_cq {off : Int} (h : 0 ≤ off ∧ off ≤ 50) : may19 (cq off) = true := by
  unfold may19 number19 cq
  have : off ≤ 1000000000 := by omega
  simp [h, this]
theorem OI.call {s : CS19} {r : Bool} (h : OI s r) (he : s.open_ = []) {off : Int} (ho : 0 ≤ off ∧ off ≤ 50) (hc : s.calls < 1000000) (now : Int) {z : Sl19} (hz : z.2.1 = 1) :
    OI (callS s now (cq off) z) false ∧ IsCm (askC s now (newC s (cq off) z)).m ∧ (callS s now (cq off) z).ended = s.ended ∧ (callS s now (cq off) z).calls = s.calls + 1 := by
  have hm : IsCm (askC s now (newC s (cq off) z)).m := ⟨rfl, rfl, hz⟩
  refine ⟨⟨h.pi.call (may_cq ho) (by rw [he]; decide) hc now z, by show (s.open_ ++ [_]).length ≤ 1; rw [he]; exact Nat.le_refl _, fun x hx => ?_⟩, hm, rfl, rfl⟩
  have hx : x ∈ s.open_ ++ [askC s now (newC s (cq off) z)] := hx
  rw [he] at hx
  rw [List.mem_singleton.1 hx]
  exact ⟨rfl, hm, fun h => by cases h⟩
theorem OI.tick {s : CS19} {r : Bool} (h : OI s r) (now : Int) : (tick s now).2.length ≤ 1 ∧ ((tick s now).2 ≠ [] → r = true) ∧ (∀ m ∈ (tick s now).2, IsCm m) ∧ OI (tick s now).1 (if (tick s now).2 = [] then r else false) := by
  have hp := h.pi.tick now
  have hc := h.com
  match ho : s.open_, h.one with
  | [], _ =>
    have e : Go.Proofs.YtankogdnhgmkhaaDoor.tick s now = ({ s with open_ := [] }, []) := by unfold Go.Proofs.YtankogdnhgmkhaaDoor.tick; rw [ho]; rfl
    rw [e] at hp ⊢
    exact ⟨Nat.zero_le 1, fun h => absurd rfl h, fun m hm => by (cases hm), ⟨hp, Nat.zero_le 1, fun x hx => by cases hx⟩⟩
  | [x], _ =>
    have hx := hc x (by rw [ho]; exact .head _)
    have e : Go.Proofs.YtankogdnhgmkhaaDoor.tick s now = ({ (due s now x).1 with open_ := if (due s now x).2.2.1 then [] else [(due s now x).2.1] }, (due s now x).2.2.2.toList ++ []) := by unfold Go.Proofs.YtankogdnhgmkhaaDoor.tick; rw [ho]; rfl
    rw [e] at hp ⊢
    dsimp only
    rw [List.append_nil]
    by_cases h1 : now < x.deadline
    · rw [due_no h1] at hp ⊢
      refine ⟨Nat.zero_le 1, fun h => absurd rfl h, fun m hm => by (cases hm), ⟨hp, Nat.le_refl 1, fun y hy => ?_⟩⟩
      rw [List.mem_singleton.1 hy]; exact hx
    · by_cases h2 : x.tries = 0 ∨ (harm x.s.kind = false ∧ x.refused = false)
      · rw [due_end h1 h2] at hp ⊢
        exact ⟨Nat.zero_le 1, fun h => absurd rfl h, fun m hm => by (cases hm), ⟨hp, Nat.zero_le 1, fun y hy => by cases hy⟩⟩
      · rw [due_ask h1 h2] at hp ⊢
        have hr : x.refused = true := by
          cases hh : x.refused with
          | true => rfl
          | false => exact absurd (.inr ⟨by rw [hx.1]; rfl, hh⟩) h2
        refine ⟨Nat.le_refl _, fun _ => hx.2.2 hr, fun m hm => ?_, ⟨hp, Nat.le_refl _, fun y hy => ?_⟩⟩
        · rw [List.mem_singleton.1 hm]; exact hx.2.1
        · rw [List.mem_singleton.1 hy]; exact ⟨hx.1, hx.2.1, fun h => by cases h⟩
  | _ :: _ :: _, h => simp at h
/-- When a step may have refused. -/
def Refuses (s t : CS19) (err : Int) : Bool := decide (t.open_.length = s.open_.length) && decide (0 < s.open_.length) && (decide (err = 15) || decide (err = 22) || decide (err = 19))
theorem OI.weak {s : CS19} {r : Bool} (h : OI s r) (b : Bool) : OI s (r || b) := { h with com := fun x hx => by obtain ⟨h1, h2, h3⟩ := h.com x hx; exact ⟨h1, h2, fun e => by rw [h3 e]; rfl⟩ }
theorem OI.step {s : CS19} {r : Bool} (h : OI s r) (now : Int) (m : An19) : OI (step s now m) (r || Refuses s (step s now m) m.err) := by
  have hp := (h.pi.step now m).1
  have hl := (h.pi.step now m).2.2.2
  have hone := h.one
  cases hf : s.open_.findIdx? (fits19 s m) with
  | none =>
    have e : Go.Proofs.YtankogdnhgmkhaaDoor.step s now m = s := by unfold Go.Proofs.YtankogdnhgmkhaaDoor.step; rw [hf]
    rw [e]; exact h.weak _
  | some i =>
    have hi := (List.findIdx?_eq_some_iff_getElem.1 hf).1
    obtain ⟨x, hx⟩ : ∃ x, s.open_[i]? = some x := ⟨_, List.getElem?_eq_getElem hi⟩
    have e : Go.Proofs.YtankogdnhgmkhaaDoor.step s now m = stepAt s now m i x := by unfold Go.Proofs.YtankogdnhgmkhaaDoor.step; rw [hf]; dsimp only; rw [hx]
    have hcx := h.com x (List.mem_of_getElem? hx)
    rw [e] at hp hl ⊢
    refine ⟨hp, by omega, fun y hy => ?_⟩
    have hset : ∀ (l : List Cl19) (d : Int), (stepAt s now m i x).open_ = s.open_.set i { x with deadline := d, refused := true } → (m.err = 15 ∨ m.err = 22 ∨ m.err = 19) → y ∈ s.open_.set i { x with deadline := d, refused := true } → y.s.kind = 4 ∧ IsCm y.m ∧ (y.refused = true → (r || Refuses s (stepAt s now m i x) m.err) = true) := fun _ d ho herr hy => by
      have hrf : Refuses s (stepAt s now m i x) m.err = true := by
        unfold Refuses
        rw [ho, List.length_set]
        simp
        exact ⟨by omega, by rcases herr with h | h | h <;> simp [h]⟩
      rw [hrf, Bool.or_true]
      rcases List.mem_or_eq_of_mem_set hy with hy | hy
      · obtain ⟨a, b, _⟩ := h.com y hy; exact ⟨a, b, fun _ => rfl⟩
      · rw [hy]; exact ⟨hcx.1, hcx.2.1, fun _ => rfl⟩
    by_cases h1 : m.err = 15 ∨ m.err = 22
    · have e2 := stepAt_led (s := s) (now := now) (i := i) (x := x) h1
      by_cases h3 : 0 ≤ idxOf s.brokers m.last
      · have e3 : (stepAt s now m i x).open_ = s.open_.set i { x with deadline := now + 1, refused := true } := by rw [e2]; unfold led; rw [if_pos h3]
        exact hset [] _ e3 (by omega) (e3 ▸ hy)
      · have e3 : (stepAt s now m i x).open_ = s.open_.set i { x with deadline := now + s.wait, refused := true } := by rw [e2]; unfold led; rw [if_neg h3]
        exact hset [] _ e3 (by omega) (e3 ▸ hy)
    · by_cases h2 : (m.err = 19 ∧ x.m.kind = 23) ∨ (m.err = 3 ∧ x.s.kind = 7)
      · have e3 : (stepAt s now m i x).open_ = s.open_.set i { x with deadline := now + s.wait, refused := true } := by rw [stepAt_wait h1 h2]
        refine hset [] _ e3 ?_ (e3 ▸ hy)
        rcases h2 with h2 | h2
        · exact .inr (.inr h2.1)
        · have := hcx.1; omega
      · have e3 : (stepAt s now m i x).open_ = s.open_.eraseIdx i := by rw [stepAt_end h1 h2]; rfl
        rw [e3] at hy
        obtain ⟨a, b, c⟩ := h.com y (List.mem_of_mem_eraseIdx hy)
        exact ⟨a, b, fun e => by rw [c e]; rfl⟩
end Go.Proofs.YtankogdnhgmkhaaDoor

namespace Go.Proofs.YtankogdnhgmkhaaDoor
open Go Go.Sp

set_option linter.unusedVariables false

namespace con18
theorem ti3 : TI Tryd.prog 3 1 8 (.int .i64 0) := .of (by kernel_rfl)
theorem bld35_  (w : World) : (Instr.build 35 (([] : List Nat).zip []).toArray).run Tryd.prog w = .ok (.agg #[.int .i64 0, .int .i64 0, .int .i64 0, .int .i64 0, .int .i64 0, .int .i64 0, .int .i64 0, .int .i64 0, .int .i64 0, .int .i64 0, .int .i64 0, .int .i64 0, .int .i64 0, .int .i64 0, .int .i64 0, .int .i64 0, .string ⟨#[]⟩, .string ⟨#[]⟩, .slice none 0 0, .slice none 0 0, .slice none 0 0]) w := by kernel_rfl
theorem ti35 : TI Tryd.prog 35 21 232 (.agg #[.int .i64 0, .int .i64 0, .int .i64 0, .int .i64 0, .int .i64 0, .int .i64 0, .int .i64 0, .int .i64 0, .int .i64 0, .int .i64 0, .int .i64 0, .int .i64 0, .int .i64 0, .int .i64 0, .int .i64 0, .int .i64 0, .string ⟨#[]⟩, .string ⟨#[]⟩, .slice none 0 0, .slice none 0 0, .slice none 0 0]) := .of (by kernel_rfl)
theorem ts35 : TS Tryd.prog 35 21 := .of (by kernel_rfl)
theorem ts37 : TS Tryd.prog 37 36 := .of (by kernel_rfl)
theorem ia37 : IsAgg Tryd.prog 37 := ⟨_, Tryd.underlying37, trivial⟩
theorem ti37 : TI Tryd.prog 37 36 368 (.agg #[.int .i64 0, .int .i64 0, .int .i64 0, .int .i64 0, .int .i64 0, .int .i64 0, .int .i64 0, .int .i64 0, .int .i64 0, .int .i64 0, .string ⟨#[]⟩, .string ⟨#[]⟩, .int .i64 0, .bool false, .int .i64 0, .int .i64 0, .int .i64 0, .int .i64 0, .int .i64 0, .int .i64 0, .int .i64 0, .int .i64 0, .int .i64 0, .int .i64 0, .int .i64 0, .int .i64 0, .int .i64 0, .int .i64 0, .int .i64 0, .int .i64 0, .string ⟨#[]⟩, .string ⟨#[]⟩, .slice none 0 0, .slice none 0 0, .slice none 0 0, .bool false]) := .of (by kernel_rfl)
theorem fd37_0 : FD Tryd.prog 37 0 0 := .of Tryd.underlying37 (by kernel_rfl)
theorem na3 : NotAgg Tryd.prog 3 := ⟨_, Tryd.underlying3, trivial⟩
theorem ia35 : IsAgg Tryd.prog 35 := ⟨_, Tryd.underlying35, trivial⟩
theorem fd35_0 : FD Tryd.prog 35 0 0 := .of Tryd.underlying35 (by kernel_rfl)
theorem fd35_11 : FD Tryd.prog 35 11 11 := .of Tryd.underlying35 (by kernel_rfl)
theorem fd35_20 : FD Tryd.prog 35 20 20 := .of Tryd.underlying35 (by kernel_rfl)
theorem na28 : NotAgg Tryd.prog 28 := ⟨_, Tryd.underlying28, trivial⟩
theorem fd37_2 : FD Tryd.prog 37 2 2 := .of Tryd.underlying37 (by kernel_rfl)
theorem fd31_4 : FD Tryd.prog 31 4 4 := .of Tryd.underlying31 (by kernel_rfl)
theorem bld31_2_8_3_5_7_4 (x0 : Int) (x1 : ByteArray) (x2 : Int) (x3 : Int) (x4 : Int) (x5 : Int) (w : World) : (Instr.build 31 (([2, 8, 3, 5, 7, 4] : List Nat).zip [.int .i64 x0, .string x1, .int .i64 x2, .int .i64 x3, .int .i64 x4, .int .i64 x5]).toArray).run Tryd.prog w = .ok (.agg #[.int .i64 0, .int .i64 0, .int .i64 x0, .int .i64 x2, .int .i64 x5, .int .i64 x3, .int .i64 0, .int .i64 x4, .string x1, .string ⟨#[]⟩, .int .i64 0, .bool false]) w := by kernel_rfl
theorem fd37_1 : FD Tryd.prog 37 1 1 := .of Tryd.underlying37 (by kernel_rfl)
theorem fd35_2 : FD Tryd.prog 35 2 2 := .of Tryd.underlying35 (by kernel_rfl)
theorem fd35_3 : FD Tryd.prog 35 3 3 := .of Tryd.underlying35 (by kernel_rfl)
theorem fd37_3 : FD Tryd.prog 37 3 14 := .of Tryd.underlying37 (by kernel_rfl)
theorem fd35_15 : FD Tryd.prog 35 15 15 := .of Tryd.underlying35 (by kernel_rfl)
theorem na25 : NotAgg Tryd.prog 25 := ⟨_, Tryd.underlying25, trivial⟩
theorem fd35_7 : FD Tryd.prog 35 7 7 := .of Tryd.underlying35 (by kernel_rfl)
theorem bld35_0_1_2_3_15_7 (x0 : Int) (x1 : Int) (x2 : Int) (x3 : Int) (x4 : Int) (x5 : Int) (w : World) : (Instr.build 35 (([0, 1, 2, 3, 15, 7] : List Nat).zip [.int .i64 x0, .int .i64 x1, .int .i64 x2, .int .i64 x3, .int .i64 x4, .int .i64 x5]).toArray).run Tryd.prog w = .ok (.agg #[.int .i64 x0, .int .i64 x1, .int .i64 x2, .int .i64 x3, .int .i64 0, .int .i64 0, .int .i64 0, .int .i64 x5, .int .i64 0, .int .i64 0, .int .i64 0, .int .i64 0, .int .i64 0, .int .i64 0, .int .i64 0, .int .i64 x4, .string ⟨#[]⟩, .string ⟨#[]⟩, .slice none 0 0, .slice none 0 0, .slice none 0 0]) w := by kernel_rfl
end con18
open con18

theorem ref_no1 {s t : CS19} {e : Int} (h : ¬ ((t.open_.length : Int) = (s.open_.length : Int))) : Refuses s t e = false := by unfold Refuses; rw [decide_eq_false (show ¬ t.open_.length = s.open_.length by omega)]; rfl
theorem ref_no2 {s t : CS19} {e : Int} (h : ¬ (0 < (s.open_.length : Int))) : Refuses s t e = false := by unfold Refuses; rw [decide_eq_false (show ¬ 0 < s.open_.length by omega), Bool.and_false]; rfl
theorem ref_yes {s t : CS19} {e : Int} (h : (t.open_.length : Int) = (s.open_.length : Int)) (h2 : 0 < (s.open_.length : Int)) : Refuses s t e = (decide (e = 15) || decide (e = 22) || decide (e = 19)) := by unfold Refuses; rw [decide_eq_true (show t.open_.length = s.open_.length by omega), decide_eq_true (show 0 < s.open_.length by omega)]; rfl

set_option maxHeartbeats 4000000 in
set_option maxRecDepth 20000 in
theorem ConsumerOnce_ok (a : Option Addr) (c : Nat) (l : List OpX) (hl : l.length ≤ 140737488351232) (hgood : ∀ x ∈ l, x.good) : Cn Tryd.prog 4 [.slice a l.length c] (RowAt a (l.flatMap OpX.cells)) [] fun v G => v = .bool true ∧ G = [] := by
  refine .enter Tryd.func4 rfl (by kernel_rfl) rfl fun R k => ?_
  have k' := k
  refine .seq ?_
  refine .region ?_
  refine .rd (.assign rfl) ?_
  refine .nil ?_
  refine .seq ?_
  refine .region ?_
  refine .fn rfl rfl .nil (fun _ _ _ => trivial) (shown_ok) (fun v G1 hq => ?_)
  obtain ⟨rfl, rfl⟩ := hq
  simp only [List.nil_append]
  refine .rd (.assign rfl) ?_
  refine .nil ?_
  refine .seq ?_
  refine .region ?_
  refine .ef (.buildSlice (vs := [.int .i64 1, .int .i64 2, .int .i64 3]) (cs := [.int .i64 1, .int .i64 2, .int .i64 3]) Tryd.underlying28 ti3 rfl (by decide) (by first | rfl | kernel_rfl) (ones.of rfl)) ?_
  rintro _ _ ⟨bl, rfl, rfl⟩
  refine .fn rfl rfl .nil (((Knows.blk .head).mono fun _ h => rowBlk h)) (New_ok 101 (some ⟨bl, 0, none⟩) _ [1, 2, 3] 10 5 rise123 (by decide) (by decide) (by decide)) (fun v G1 hq => ?_)
  obtain ⟨pb, rfl, rfl⟩ := hq
  simp only [List.cons_append, List.nil_append]
  refine .rd (.move rfl) ?_
  refine .rd (.extract rfl rfl) ?_
  refine .rd (.extract rfl rfl) ?_
  refine .rd (.assign rfl) ?_
  refine .rd (.assign rfl) ?_
  refine .nil ?_
  refine .seq ?_
  refine .seq ?_
  refine .region ?_
  refine .rd (.move rfl) ?_
  refine .rd (.not rfl) ?_
  refine .rd (.move rfl) ?_
  refine .on (t := 21) rfl rfl ?_
  refine .rd (.move rfl) ?_
  refine .on (t := 21) rfl rfl ?_
  refine .rd (.eqNilP Tryd.underlying24 rfl rfl) ?_
  refine .rd (.pickF rfl rfl) ?_
  refine .rd (.move rfl) ?_
  refine .on (t := 25) rfl rfl ?_
  refine .rd (.move rfl) ?_
  refine .on (t := 25) rfl rfl ?_
  refine .rd (.neI rfl rfl) ?_
  refine .alter (t := 27) (v' := .bool false) rfl (congrArg Value.bool (by first | rfl | decide)) ?_
  refine .rd (.pickF rfl rfl) ?_
  refine .nil ?_
  refine .condF rfl ?_
  refine .skip ?_
  refine .seq ?_
  refine .region ?_
  refine .rd (.assign rfl) ?_
  refine .nil ?_
  refine .seq ?_
  refine .region ?_
  refine .rd (.assign rfl) ?_
  refine .nil ?_
  refine .seq ?_
  refine .region ?_
  refine .rd (.build rfl (bld35_)) ?_
  refine .ef (.alloc ti35 rfl (ones.of rfl)) ?_
  rintro _ _ ⟨b8, rfl, rfl⟩
  refine .ef0 (.storeAll (vs := Mg19.cells (⟨0, 0, 0, 0, 0, 0, 0, 0, 0, 0, [], (none, 0, 0)⟩ : Mg19)) ts35 rfl rfl rfl .head rfl (Mg19.cells_ones _)) ?_
  rintro _ _ rfl
  refine .nil ?_
  refine .seq ?_
  refine .seq ?_
  refine .region ?_
  refine .rd (.assign rfl) ?_
  refine .nil ?_
  refine .block ?_
  refine .loop (σ := Nat × CS19 × Bool × Int × Mg19) (fun ⟨i, s, r, now, u⟩ => i ≤ l.length ∧ i ≤ 150 ∧ OI s r ∧ (0 ≤ now ∧ now ≤ 20 * i) ∧ (0 ≤ s.calls ∧ s.calls ≤ i) ∧ s.ended.length ≤ 20 * i ∧ (0 ≤ u.kind ∧ u.kind ≤ 23)) (fun ⟨i, s, r, now, u⟩ => l.length - i) (fun ⟨i, s, r, now, u⟩ => [(0, .slice a l.length c), (4, .pointer (some ⟨pb, 0, none⟩)), (6, .bool r), (7, .int .i64 now), (8, .pointer (some ⟨b8, 0, none⟩)), (9, .int .i64 (i : Nat))]) (fun ⟨i, s, r, now, u⟩ => [PR pb s, blk b8 (Mg19.cells u) 35, R]) (0, (new19 101 10 5 [1, 2, 3]), true, 0, (⟨0, 0, 0, 0, 0, 0, 0, 0, 0, 0, [], (none, 0, 0)⟩ : Mg19)) ⟨Nat.zero_le _, Nat.zero_le _, ⟨.new (by decide) (by decide) (by decide) (by decide) (by decide), Nat.zero_le _, fun x hx => by cases hx⟩, ⟨by show (0 : Int) ≤ 0; omega, by show (0 : Int) ≤ 0; omega⟩, ⟨by show (0 : Int) ≤ 0; omega, by show (0 : Int) ≤ 0; omega⟩, Nat.zero_le _, ⟨by show (0 : Int) ≤ 0; omega, by show (0 : Int) ≤ 23; omega⟩⟩ (.cons rfl (.cons rfl (.cons rfl (.cons rfl (.cons rfl (.cons rfl .nil)))))) (.cons (.tail .head) (.cons .head (.cons (.tail .head) .nil))) (fun s' hI ih => ?_)
  obtain ⟨i, s, r, now, u⟩ := s'
  dsimp only at hI ih ⊢
  obtain ⟨hil, hi150, hOI, ⟨hn1, hn2⟩, ⟨hc1, hc2⟩, hen, hu⟩ := hI
  have ih0 := ih
  refine .seq ?_
  refine .seq ?_
  refine .region ?_
  refine RunO.join 8 37 (decide (i < l.length ∧ i < 150)) ?_ ?_
  · refine .rd (.move rfl) ?_
    refine .rd (.move rfl) ?_
    refine .rd (.lenL rfl rfl Tryd.underlying22 rfl) ?_
    refine .rd (.lt rfl rfl) ?_
    refine .rd (.move rfl) ?_
    refine .split (t := 34) rfl (fun g9 => ?_) (fun g9 => ?_)
    · replace g9 := of_decide_eq_true g9
      refine .on (t := 34) rfl rfl ?_
      refine .rd (.move rfl) ?_
      refine .on (t := 34) rfl rfl ?_
      refine .rd (.lt rfl rfl) ?_
      refine .rd (.pickT rfl rfl) ?_
      refine .nil ⟨rfl, ?_, by repeat (first | exact Le.refl _ | refine Le.skip rfl ?_)⟩
      exact congrArg (fun x => some (Value.bool x)) (decide_eq_decide.2 (by omega))
    · replace g9 := of_decide_eq_false g9
      refine .off (t := 34) rfl rfl rfl ?_
      refine .off (t := 34) rfl rfl rfl ?_
      refine .rd (.pickF rfl rfl) ?_
      refine .nil ⟨rfl, ?_, by repeat (first | exact Le.refl _ | refine Le.skip rfl ?_)⟩
      exact congrArg (fun x => some (Value.bool x)) ((decide_eq_false (by omega)).symm)
  refine .nil ?_
  refine .condP rfl (fun h9 => ?_) (fun h9 => ?_)
  · refine .skip ?_
    refine .seq ?_
    refine .block ?_
    refine .seq ?_
    obtain ⟨hcl, hc150⟩ := h9
    obtain ⟨x, hx⟩ : ∃ x, l[i]? = some x := ⟨_, List.getElem?_eq_getElem hcl⟩
    have hxg := hgood x (List.mem_of_getElem? hx)
    refine .tell (φ := ∃ b o, a = some ⟨b, o, none⟩) (Knows.pick (.tail (.tail .head)) (k'.mono fun _ h => RowAt.addr h (by rw [flat_length OpX.cells_len]; omega))) (fun hh => ?_)
    obtain ⟨b9, o9, hab⟩ := hh
    refine .region ?_
    refine .rd (.move rfl) ?_
    refine .rd (.move rfl) ?_
    refine .rd (.indexAddr (b := b9) (o := o9) Tryd.underlying22 ts37 (by show some (Value.slice a _ _) = _; rw [hab]) rfl (by omega) (by omega)) ?_
    refine .rd (.loadN ia37 ts37 rfl rfl (Knows.elem (f := OpX.cells) OpX.cells_len (by decide) (Knows.pick (.tail (.tail .head)) (k'.mono fun _ h => hab ▸ h)) hx)) ?_
    refine .ef (.alloc ti37 rfl (ones.of rfl)) ?_
    rintro _ _ ⟨b10, rfl, rfl⟩
    refine .ef0 (.storeAll (vs := x.cells) ts37 rfl rfl rfl .head rfl x.cells_ones) ?_
    rintro _ _ rfl
    refine .nil ?_
    refine .seq ?_
    refine .region ?_
    refine .rd (.assign rfl) ?_
    refine .nil ?_
    refine .seq ?_
    refine .seq ?_
    refine .region ?_
    refine .rd (.fieldAddr fd37_0 rfl) ?_
    refine .rd (.ld na3 rfl .head rfl) ?_
    refine .fn rfl rfl .nil (fun _ _ _ => trivial) (pick_ok x.kind 4 hxg.kind (by decide)) (fun v G1 hq => ?_)
    obtain ⟨rfl, rfl⟩ := hq
    simp only [List.nil_append]
    refine .nil ?_
    refine .joinEx (σ := CS19 × Bool × Int × List Mg19 × Option Addr × Nat) (φ := fun ⟨s2, r2, now2, zs, oa, oc⟩ => OI s2 (if zs = [] then r2 else false) ∧ (zs.length ≤ 1 ∧ (zs ≠ [] → r2 = true) ∧ ∀ m ∈ zs, IsCm m) ∧ (now ≤ now2 ∧ now2 ≤ now + 20) ∧ (s.calls ≤ s2.calls ∧ s2.calls ≤ s.calls + 1) ∧ s2.ended.length ≤ s.ended.length + 20) (E' := fun ⟨s2, r2, now2, zs, oa, oc⟩ => [(0, .slice a l.length c), (4, .pointer (some ⟨pb, 0, none⟩)), (6, .bool r2), (7, .int .i64 now2), (8, .pointer (some ⟨b8, 0, none⟩)), (9, .int .i64 (i : Nat)), (11, .slice oa zs.length oc)]) (Γ' := fun ⟨s2, r2, now2, zs, oa, oc⟩ => [PR pb s2, Said oa oc zs, blk b8 (Mg19.cells u) 35, R]) (fun sj hj => ?_) (fun fin => ?_)
    · obtain ⟨s2, r2, now2, zs, oa, oc⟩ := sj
      dsimp only at hj ⊢
      obtain ⟨hOI2, ⟨hz1, hz2, hz3⟩, ⟨hw1, hw2⟩, ⟨hc3, hc4⟩, he2⟩ := hj
      refine .seq ?_
      refine .seq ?_
      refine .region ?_
      refine RunO.join 12 130 (false) ?_ ?_
      · refine .rd (.move rfl) ?_
        refine .rd (.lenL rfl rfl Tryd.underlying29 rfl) ?_
        refine .rd (.gt rfl rfl) ?_
        refine .alter (t := 121) (v' := .bool false) rfl (congrArg Value.bool (decide_eq_false (by omega))) ?_
        refine .rd (.move rfl) ?_
        refine .on (t := 122) rfl rfl ?_
        refine .rd (.move rfl) ?_
        refine .on (t := 122) rfl rfl ?_
        refine .rd (.lenL rfl rfl Tryd.underlying29 rfl) ?_
        refine .on (t := 122) rfl rfl ?_
        refine .rd (.eqI rfl rfl) ?_
        refine .on (t := 122) rfl rfl ?_
        refine .rd (.move rfl) ?_
        refine .split (t := 126) rfl (fun g25_7 => ?_) (fun g25_7 => ?_)
        · replace g25_7 := of_decide_eq_true g25_7
          refine .on (t := 126) rfl rfl ?_
          refine .rd (.move rfl) ?_
          refine .on (t := 126) rfl rfl ?_
          refine .rd (.not rfl) ?_
          refine .on (t := 122) rfl rfl ?_
          refine .rd (.pickT rfl rfl) ?_
          refine .rd (.pickF rfl rfl) ?_
          refine .nil ⟨rfl, ?_, by repeat (first | exact Le.refl _ | refine Le.skip rfl ?_)⟩
          exact congrArg (fun x => some (Value.bool x)) (by rw [hz2 (by intro e; rw [e] at g25_7; exact absurd g25_7 (by decide))]; rfl)
        · replace g25_7 := of_decide_eq_false g25_7
          refine .off (t := 126) rfl rfl rfl ?_
          refine .off (t := 126) rfl rfl rfl ?_
          refine .on (t := 122) rfl rfl ?_
          refine .rd (.pickF rfl rfl) ?_
          refine .rd (.pickF rfl rfl) ?_
          refine .nil ⟨rfl, ?_, by repeat (first | exact Le.refl _ | refine Le.skip rfl ?_)⟩
          exact congrArg (fun x => some (Value.bool x)) (rfl)
      refine .nil ?_
      refine .condF rfl ?_
      refine .skip ?_
      refine .seq ?_
      refine .region ?_
      refine .rd (.move rfl) ?_
      refine .rd (.lenL rfl rfl Tryd.underlying29 rfl) ?_
      refine .rd (.eqI rfl rfl) ?_
      refine .nil ?_
      refine .condP rfl (fun h27 => ?_) (fun h27 => ?_)
      · obtain ⟨z, rfl⟩ : ∃ z, zs = [z] := by match zs, hz1, h27 with | [z], _, _ => exact ⟨z, rfl⟩ | [], _, h => exact absurd h (by decide) | _ :: _ :: _, h, _ => simp at h
        have hcm := hz3 z (.head _)
        refine .tell (φ := ∃ b o, oa = some ⟨b, o, none⟩) ((Knows.arr (cs := [z].flatMap Mg19.cells) (.tail .head)).mono fun _ h => RowAt.addr h (by rw [flat_length Mg19.cells_len]; show 0 < 1 * 21; decide)) (fun hh => ?_)
        obtain ⟨b7, o7, hob⟩ := hh
        refine .seq ?_
        refine .region ?_
        refine .rd (.assign rfl) ?_
        refine .nil ?_
        refine .seq ?_
        refine .region ?_
        refine .rd (.move rfl) ?_
        refine .rd (.indexAddr (b := b7) (o := o7) Tryd.underlying29 ts35 (by show some (Value.slice oa _ _) = _; rw [hob]) rfl (by decide) (by show (0 : Int) < ((1 : Nat) : Int); decide)) ?_
        refine .rd (.loadN ia35 ts35 rfl rfl (Knows.elem (f := Mg19.cells) Mg19.cells_len (by decide) ((Knows.arr (cs := [z].flatMap Mg19.cells) (.tail .head)).mono fun _ h => hob ▸ h) (i := 0) rfl)) ?_
        refine .ef0 (.storeAll (vs := Mg19.cells z) ts35 rfl rfl rfl (.tail (.tail .head)) rfl (Mg19.cells_ones _)) ?_
        rintro _ _ rfl
        refine .nil ?_
        refine .seq ?_
        refine .region ?_
        refine .rd (.fieldAddr fd35_0 rfl) ?_
        refine .rd (.ld na3 rfl .head rfl) ?_
        refine .rd (.neI rfl rfl) ?_
        refine .alter (t := 139) (v' := .bool false) rfl (congrArg Value.bool (by rw [hcm.1]; rfl)) ?_
        refine .rd (.move rfl) ?_
        refine .on (t := 140) rfl rfl ?_
        refine .rd (.fieldAddr fd35_11 rfl) ?_
        refine .on (t := 140) rfl rfl ?_
        refine .rd (.ld na3 rfl .head rfl) ?_
        refine .on (t := 140) rfl rfl ?_
        refine .rd (.neI rfl rfl) ?_
        refine .alter (t := 143) (v' := .bool false) rfl (congrArg Value.bool (by rw [hcm.2.1]; rfl)) ?_
        refine .rd (.pickF rfl rfl) ?_
        refine .rd (.move rfl) ?_
        refine .on (t := 145) rfl rfl ?_
        refine .rd (.fieldAddr fd35_20 rfl) ?_
        refine .on (t := 145) rfl rfl ?_
        refine .rd (.ld na28 rfl .head rfl) ?_
        refine .on (t := 145) rfl rfl ?_
        refine .rd (.lenL rfl rfl Tryd.underlying28 rfl) ?_
        refine .on (t := 145) rfl rfl ?_
        refine .rd (.neI rfl rfl) ?_
        refine .alter (t := 149) (v' := .bool false) rfl (congrArg Value.bool (by rw [hcm.2.2]; rfl)) ?_
        refine .rd (.pickF rfl rfl) ?_
        refine .nil ?_
        refine .condF rfl ?_
        refine .skip ?_
        refine .inBlock ?_
        refine .region ?_
        refine .rd (.move rfl) ?_
        refine .rd (.add rfl rfl (by omega) (by omega)) ?_
        refine .rd (.assign rfl) ?_
        refine .nil ?_
        exact (ih0 (i + 1, s2, false, now2, z) ⟨by show i + 1 ≤ _; omega, by show i + 1 ≤ _; omega, (by have := hOI2; rw [if_neg (by simp)] at this; exact this), ⟨by show 0 ≤ now2; omega, by show now2 ≤ 20 * ((i + 1 : Nat) : Int); omega⟩, ⟨by show 0 ≤ s2.calls; omega, by show s2.calls ≤ ((i + 1 : Nat) : Int); omega⟩, by show s2.ended.length ≤ 20 * (i + 1); omega, ⟨by rw [hcm.1]; decide, by rw [hcm.1]; decide⟩⟩ (by show l.length - (i + 1) < l.length - i; omega)).to (.cons rfl (.cons rfl (.cons rfl (.cons rfl (.cons rfl (.cons rfl .nil)))))) (.cons (.tail .head) (.cons .head (.cons (.tail .head) .nil)))
      · obtain rfl : zs = [] := by match zs, hz1, h27 with | [], _, _ => rfl | [z], _, h => exact absurd rfl h | _ :: _ :: _, h, _ => simp at h
        refine .skip ?_
        refine .inBlock ?_
        refine .region ?_
        refine .rd (.move rfl) ?_
        refine .rd (.add rfl rfl (by omega) (by omega)) ?_
        refine .rd (.assign rfl) ?_
        refine .nil ?_
        exact (ih0 (i + 1, s2, r2, now2, u) ⟨by show i + 1 ≤ _; omega, by show i + 1 ≤ _; omega, (by have := hOI2; rw [if_pos rfl] at this; exact this), ⟨by show 0 ≤ now2; omega, by show now2 ≤ 20 * ((i + 1 : Nat) : Int); omega⟩, ⟨by show 0 ≤ s2.calls; omega, by show s2.calls ≤ ((i + 1 : Nat) : Int); omega⟩, by show s2.ended.length ≤ 20 * (i + 1); omega, hu⟩ (by show l.length - (i + 1) < l.length - i; omega)).to (.cons rfl (.cons rfl (.cons rfl (.cons rfl (.cons rfl (.cons rfl .nil)))))) (.cons .head (.cons (.tail .head) (.cons (.tail .head) .nil)))
    · refine .block ?_
      refine .seq ?_
      refine .region ?_
      refine .rd (.eqI rfl rfl) ?_
      refine .rd (.assign rfl) ?_
      refine .nil ?_
      refine .condP rfl (fun h18 => ?_) (fun h18 => ?_)
      · refine .seq ?_
        refine .seq ?_
        refine .region ?_
        refine .rd (.move rfl) ?_
        refine .fn rfl rfl (.cons (.tail .head) .nil) (fun _ _ _ => trivial) (open_ok pb s) (fun v G1 hq => ?_)
        obtain ⟨rfl, rfl⟩ := hq
        simp only [List.cons_append, List.nil_append]
        refine .rd (.gt rfl rfl) ?_
        refine .nil ?_
        refine .condP rfl (fun h19 => ?_) (fun h19 => ?_)
        · refine .exit rfl ?_
          refine .region ?_
          refine .rd (.move rfl) ?_
          refine .rd (.add rfl rfl (by omega) (by omega)) ?_
          refine .rd (.assign rfl) ?_
          refine .nil ?_
          exact (ih0 (i + 1, s, r, now, u) ⟨by show i + 1 ≤ _; omega, by show i + 1 ≤ _; omega, hOI, ⟨by show 0 ≤ now; omega, by show now ≤ 20 * ((i + 1 : Nat) : Int); omega⟩, ⟨by show 0 ≤ s.calls; omega, by show s.calls ≤ ((i + 1 : Nat) : Int); omega⟩, by show s.ended.length ≤ 20 * (i + 1); omega, hu⟩ (by show l.length - (i + 1) < l.length - i; omega)).to (.cons rfl (.cons rfl (.cons rfl (.cons rfl (.cons rfl (.cons rfl .nil)))))) (.cons .head (.cons (.tail .head) (.cons (.tail .head) .nil)))
        · have heo : s.open_ = [] := List.eq_nil_of_length_eq_zero (by omega)
          have hq1 := pickN_nn (c := x.s.offset) (n := 50) (by decide)
          have hq2 := pickN_lt (c := x.s.offset) (n := 50) (by decide)
          refine .skip ?_
          refine .seq ?_
          refine .region ?_
          refine .rd (.move rfl) ?_
          refine .rd (.move rfl) ?_
          refine .rd (.fieldAddr fd37_2 rfl) ?_
          refine .rd (.fieldAddr fd31_4 rfl) ?_
          refine .rd (.ld na3 rfl (.tail .head) rfl) ?_
          refine .fn rfl rfl .nil (fun _ _ _ => trivial) (pick_ok x.s.offset 50 hxg.off (by decide)) (fun v G1 hq => ?_)
          obtain ⟨rfl, rfl⟩ := hq
          simp only [List.nil_append]
          refine .rd (.build rfl (bld31_2_8_3_5_7_4 _ _ _ _ _ _)) ?_
          refine .fn rfl rfl (.cons .head .nil) (fun _ _ _ => trivial) (call_go pb now s (cq (pickN x.s.offset 50)) hOI.pi.pb (by omega) (by omega) (may_cq (by omega)) (by show (4 : Int) ≠ 8; decide) (by rw [heo]; decide)) (fun v G1 hq => ?_)
          obtain ⟨y1, oa1, oc1, hy1, rfl, rfl⟩ := hq
          simp only [List.cons_append, List.nil_append]
          refine .rd (.move rfl) ?_
          refine .rd (.extract rfl rfl) ?_
          refine .rd (.extract rfl rfl) ?_
          refine .rd (.extract rfl rfl) ?_
          refine .rd (.assign rfl) ?_
          refine .nil ?_
          refine .region ?_
          refine .rd (.assign rfl) ?_
          refine .nil ?_
          refine .inBlock ?_
          exact fin ((callS s now (cq (pickN x.s.offset 50)) y1), true, now, [(askC s now (newC s (cq (pickN x.s.offset 50)) y1)).m], oa1, oc1) ⟨by rw [if_neg (by simp)]; exact (hOI.call heo (by omega) (by omega) now (hy1 rfl)).1, ⟨Nat.le_refl _, fun _ => rfl, fun m hm => by rw [List.mem_singleton.1 hm]; exact (hOI.call heo (by omega) (by omega) now (hy1 rfl)).2.1⟩, ⟨by omega, by omega⟩, ⟨by show s.calls ≤ s.calls + 1; omega, by show s.calls + 1 ≤ _; omega⟩, by show s.ended.length ≤ _; omega⟩ (.cons rfl (.cons rfl (.cons rfl (.cons rfl (.cons rfl (.cons rfl (.cons rfl .nil))))))) (.cons .head (.cons .head (.cons (.tail .head) (.cons (.tail .head) .nil))))
      · refine .seq ?_
        refine .region ?_
        refine .rd (.eqI rfl rfl) ?_
        refine .rd (.assign rfl) ?_
        refine .nil ?_
        refine .condP rfl (fun h22 => ?_) (fun h22 => ?_)
        · refine .seq ?_
          have hq1 := pickN_nn (c := x.forth) (n := 20) (by decide)
          have hq2 := pickN_lt (c := x.forth) (n := 20) (by decide)
          refine .region ?_
          refine .rd (.move rfl) ?_
          refine .rd (.fieldAddr fd37_1 rfl) ?_
          refine .rd (.ld na3 rfl .head rfl) ?_
          refine .fn rfl rfl .nil (fun _ _ _ => trivial) (pick_ok x.forth 20 hxg.forth (by decide)) (fun v G1 hq => ?_)
          obtain ⟨rfl, rfl⟩ := hq
          simp only [List.nil_append]
          refine .rd (.add rfl rfl (by omega) (by omega)) ?_
          refine .rd (.assign rfl) ?_
          refine .nil ?_
          refine .region ?_
          refine .rd (.move rfl) ?_
          refine .rd (.move rfl) ?_
          refine .fn rfl rfl (.cons (.tail .head) .nil) (fun _ _ _ => trivial) (tick_ok pb (now + pickN x.forth 20) s hOI.pi.pb hOI.pi.po (by omega) (by omega)) (fun v G1 hq => ?_)
          obtain ⟨oa2, oc2, rfl, rfl⟩ := hq
          simp only [List.cons_append, List.nil_append]
          refine .rd (.assign rfl) ?_
          refine .nil ?_
          refine .inBlock ?_
          exact fin ((tick s (now + pickN x.forth 20)).1, r, (now + pickN x.forth 20), (tick s (now + pickN x.forth 20)).2, oa2, oc2) ⟨(hOI.tick (now + pickN x.forth 20)).2.2.2, ⟨(hOI.tick (now + pickN x.forth 20)).1, (hOI.tick (now + pickN x.forth 20)).2.1, (hOI.tick (now + pickN x.forth 20)).2.2.1⟩, ⟨by omega, by omega⟩, ⟨by rw [(tick_keep hOI.pi (now + pickN x.forth 20)).2.1]; omega, by rw [(tick_keep hOI.pi (now + pickN x.forth 20)).2.1]; omega⟩, (tick_keep hOI.pi (now + pickN x.forth 20)).1⟩ (.cons rfl (.cons rfl (.cons rfl (.cons rfl (.cons rfl (.cons rfl (.cons rfl .nil))))))) (.cons .head (.cons .head (.cons (.tail .head) (.cons (.tail .head) .nil))))
        · refine .seq ?_
          refine .region ?_
          refine .rd (.move rfl) ?_
          refine .fn rfl rfl (.cons (.tail .head) .nil) (fun _ _ _ => trivial) (open_ok pb s) (fun v G1 hq => ?_)
          obtain ⟨rfl, rfl⟩ := hq
          simp only [List.cons_append, List.nil_append]
          refine .rd (.assign rfl) ?_
          refine .nil ?_
          refine .seq ?_
          refine .region ?_
          refine .rd (.move rfl) ?_
          refine .rd (.move rfl) ?_
          refine .rd (.fieldAddr fd35_0 rfl) ?_
          refine .rd (.ld na3 rfl (.tail (.tail .head)) rfl) ?_
          refine .rd (.add rfl rfl (by omega) (by omega)) ?_
          refine .rd (.fieldAddr fd35_2 rfl) ?_
          refine .rd (.ld na3 rfl (.tail (.tail .head)) rfl) ?_
          refine .rd (.fieldAddr fd35_3 rfl) ?_
          refine .rd (.ld na3 rfl (.tail (.tail .head)) rfl) ?_
          refine .rd (.fieldAddr fd37_3 rfl) ?_
          refine .rd (.fieldAddr fd35_15 rfl) ?_
          refine .rd (.ld na25 rfl (.tail .head) rfl) ?_
          refine .rd (.fieldAddr fd37_3 rfl) ?_
          refine .rd (.fieldAddr fd35_7 rfl) ?_
          refine .rd (.ld na3 rfl (.tail .head) rfl) ?_
          refine .rd (.build rfl (bld35_0_1_2_3_15_7 _ _ _ _ _ _)) ?_
          refine .fn rfl rfl (.cons .head .nil) (fun _ w _ => at_nil rfl w) (step_ok pb now s (⟨u.kind + 1, u.to, 101, u.id, x.m.m7, x.m.err, []⟩ : An19) none 0 hOI.pi.pb hOI.pi.po (by omega) (ok_nil rfl) (by omega)) (fun v G1 hq => ?_)
          obtain ⟨rfl, rfl⟩ := hq
          simp only [List.cons_append, List.nil_append]
          refine .rd (.assign rfl) ?_
          refine .nil ?_
          refine .seq ?_
          refine .region ?_
          refine RunO.join 26 91 (Refuses s (step s now (⟨u.kind + 1, u.to, 101, u.id, x.m.m7, x.m.err, []⟩ : An19)) x.m.err) ?_ ?_
          · refine .rd (.move rfl) ?_
            refine .fn rfl rfl (.cons .head .nil) (fun _ _ _ => trivial) (open_ok pb (step s now (⟨u.kind + 1, u.to, 101, u.id, x.m.m7, x.m.err, []⟩ : An19))) (fun v G1 hq => ?_)
            obtain ⟨rfl, rfl⟩ := hq
            simp only [List.cons_append, List.nil_append]
            refine .rd (.move rfl) ?_
            refine .rd (.eqI rfl rfl) ?_
            refine .rd (.move rfl) ?_
            refine .split (t := 70) rfl (fun g16_4 => ?_) (fun g16_4 => ?_)
            · replace g16_4 := of_decide_eq_true g16_4
              refine .on (t := 70) rfl rfl ?_
              refine .rd (.move rfl) ?_
              refine .on (t := 70) rfl rfl ?_
              refine .rd (.gt rfl rfl) ?_
              refine .rd (.pickT rfl rfl) ?_
              refine .rd (.move rfl) ?_
              refine .split (t := 74) rfl (fun g16_8 => ?_) (fun g16_8 => ?_)
              · replace g16_8 := of_decide_eq_true g16_8
                refine .on (t := 74) rfl rfl ?_
                refine .rd (.fieldAddr fd37_3 rfl) ?_
                refine .on (t := 74) rfl rfl ?_
                refine .rd (.fieldAddr fd35_15 rfl) ?_
                refine .on (t := 74) rfl rfl ?_
                refine .rd (.ld na25 rfl (.tail .head) rfl) ?_
                refine .on (t := 74) rfl rfl ?_
                refine .rd (.eqI rfl rfl) ?_
                refine .on (t := 74) rfl rfl ?_
                refine .rd (.move rfl) ?_
                refine .split (t := 79) rfl (fun g16_13 => ?_) (fun g16_13 => ?_)
                · replace g16_13 := of_decide_eq_true g16_13
                  refine .off (t := 79) rfl rfl rfl ?_
                  refine .off (t := 79) rfl rfl rfl ?_
                  refine .off (t := 79) rfl rfl rfl ?_
                  refine .off (t := 79) rfl rfl rfl ?_
                  refine .on (t := 74) rfl rfl ?_
                  refine .rd (.pickT rfl rfl) ?_
                  refine .on (t := 74) rfl rfl ?_
                  refine .rd (.move rfl) ?_
                  refine .off (t := 85) rfl rfl rfl ?_
                  refine .off (t := 85) rfl rfl rfl ?_
                  refine .off (t := 85) rfl rfl rfl ?_
                  refine .off (t := 85) rfl rfl rfl ?_
                  refine .on (t := 74) rfl rfl ?_
                  refine .rd (.pickT rfl rfl) ?_
                  refine .rd (.pickT rfl rfl) ?_
                  refine .nil ⟨rfl, ?_, by repeat (first | exact Le.refl _ | refine Le.skip rfl ?_)⟩
                  exact congrArg (fun x => some (Value.bool x)) (Eq.symm ((ref_yes g16_4 g16_8).trans (by simp [g16_13])))
                · replace g16_13 := of_decide_eq_false g16_13
                  refine .on (t := 79) rfl rfl ?_
                  refine .rd (.fieldAddr fd37_3 rfl) ?_
                  refine .on (t := 79) rfl rfl ?_
                  refine .rd (.fieldAddr fd35_15 rfl) ?_
                  refine .on (t := 79) rfl rfl ?_
                  refine .rd (.ld na25 rfl (.tail .head) rfl) ?_
                  refine .on (t := 79) rfl rfl ?_
                  refine .rd (.eqI rfl rfl) ?_
                  refine .on (t := 74) rfl rfl ?_
                  refine .rd (.pickF rfl rfl) ?_
                  refine .on (t := 74) rfl rfl ?_
                  refine .rd (.move rfl) ?_
                  refine .split (t := 85) rfl (fun g16_19 => ?_) (fun g16_19 => ?_)
                  · replace g16_19 := of_decide_eq_true g16_19
                    refine .off (t := 85) rfl rfl rfl ?_
                    refine .off (t := 85) rfl rfl rfl ?_
                    refine .off (t := 85) rfl rfl rfl ?_
                    refine .off (t := 85) rfl rfl rfl ?_
                    refine .on (t := 74) rfl rfl ?_
                    refine .rd (.pickT rfl rfl) ?_
                    refine .rd (.pickT rfl rfl) ?_
                    refine .nil ⟨rfl, ?_, by repeat (first | exact Le.refl _ | refine Le.skip rfl ?_)⟩
                    exact congrArg (fun x => some (Value.bool x)) (Eq.symm ((ref_yes g16_4 g16_8).trans (by simp [g16_19])))
                  · replace g16_19 := of_decide_eq_false g16_19
                    refine .on (t := 85) rfl rfl ?_
                    refine .rd (.fieldAddr fd37_3 rfl) ?_
                    refine .on (t := 85) rfl rfl ?_
                    refine .rd (.fieldAddr fd35_15 rfl) ?_
                    refine .on (t := 85) rfl rfl ?_
                    refine .rd (.ld na25 rfl (.tail .head) rfl) ?_
                    refine .on (t := 85) rfl rfl ?_
                    refine .rd (.eqI rfl rfl) ?_
                    refine .on (t := 74) rfl rfl ?_
                    refine .rd (.pickF rfl rfl) ?_
                    refine .rd (.pickT rfl rfl) ?_
                    refine .nil ⟨rfl, ?_, by repeat (first | exact Le.refl _ | refine Le.skip rfl ?_)⟩
                    exact congrArg (fun x => some (Value.bool x)) (Eq.symm ((ref_yes g16_4 g16_8).trans (by simp [g16_13, g16_19])))
              · replace g16_8 := of_decide_eq_false g16_8
                refine .off (t := 74) rfl rfl rfl ?_
                refine .off (t := 74) rfl rfl rfl ?_
                refine .off (t := 74) rfl rfl rfl ?_
                refine .off (t := 74) rfl rfl rfl ?_
                refine .offU (t := 74) rfl rfl rfl rfl ?_
                refine .offX (t := 79) rfl rfl rfl ?_
                refine .offX (t := 79) rfl rfl rfl ?_
                refine .offX (t := 79) rfl rfl rfl ?_
                refine .offX (t := 79) rfl rfl rfl ?_
                refine .off (t := 74) rfl rfl rfl ?_
                refine .offU (t := 74) rfl rfl rfl rfl ?_
                refine .offX (t := 85) rfl rfl rfl ?_
                refine .offX (t := 85) rfl rfl rfl ?_
                refine .offX (t := 85) rfl rfl rfl ?_
                refine .offX (t := 85) rfl rfl rfl ?_
                refine .off (t := 74) rfl rfl rfl ?_
                refine .rd (.pickF rfl rfl) ?_
                refine .nil ⟨rfl, ?_, by repeat (first | exact Le.refl _ | refine Le.skip rfl ?_)⟩
                exact congrArg (fun x => some (Value.bool x)) ((ref_no2 g16_8).symm)
            · replace g16_4 := of_decide_eq_false g16_4
              refine .off (t := 70) rfl rfl rfl ?_
              refine .off (t := 70) rfl rfl rfl ?_
              refine .rd (.pickF rfl rfl) ?_
              refine .rd (.move rfl) ?_
              refine .off (t := 74) rfl rfl rfl ?_
              refine .off (t := 74) rfl rfl rfl ?_
              refine .off (t := 74) rfl rfl rfl ?_
              refine .off (t := 74) rfl rfl rfl ?_
              refine .offU (t := 74) rfl rfl rfl rfl ?_
              refine .offX (t := 79) rfl rfl rfl ?_
              refine .offX (t := 79) rfl rfl rfl ?_
              refine .offX (t := 79) rfl rfl rfl ?_
              refine .offX (t := 79) rfl rfl rfl ?_
              refine .off (t := 74) rfl rfl rfl ?_
              refine .offU (t := 74) rfl rfl rfl rfl ?_
              refine .offX (t := 85) rfl rfl rfl ?_
              refine .offX (t := 85) rfl rfl rfl ?_
              refine .offX (t := 85) rfl rfl rfl ?_
              refine .offX (t := 85) rfl rfl rfl ?_
              refine .off (t := 74) rfl rfl rfl ?_
              refine .rd (.pickF rfl rfl) ?_
              refine .nil ⟨rfl, ?_, by repeat (first | exact Le.refl _ | refine Le.skip rfl ?_)⟩
              exact congrArg (fun x => some (Value.bool x)) ((ref_no1 g16_4).symm)
          refine .nil ?_
          refine .joinAt (E' := [(0, .slice a l.length c), (4, .pointer (some ⟨pb, 0, none⟩)), (6, .bool (r || Refuses s (step s now (⟨u.kind + 1, u.to, 101, u.id, x.m.m7, x.m.err, []⟩ : An19)) x.m.err)), (7, .int .i64 now), (8, .pointer (some ⟨b8, 0, none⟩)), (9, .int .i64 (i : Nat)), (11, .slice none 0 0)]) (Γ' := [PR pb (step s now (⟨u.kind + 1, u.to, 101, u.id, x.m.m7, x.m.err, []⟩ : An19)), blk b8 (Mg19.cells u) 35, blk b10 x.cells 37, R]) ?_ (fun fin => ?_)
          · refine .nilArr 35 21 none ?_
            refine .cast (X' := Said none 0 []) (rfl) ?_
            refine .inBlock ?_
            exact fin ((step s now (⟨u.kind + 1, u.to, 101, u.id, x.m.m7, x.m.err, []⟩ : An19)), r || Refuses s (step s now (⟨u.kind + 1, u.to, 101, u.id, x.m.m7, x.m.err, []⟩ : An19)) x.m.err, now, [], none, 0) ⟨by rw [if_pos rfl]; exact hOI.step now (⟨u.kind + 1, u.to, 101, u.id, x.m.m7, x.m.err, []⟩ : An19), ⟨Nat.zero_le _, fun h => absurd rfl h, fun m hm => by cases hm⟩, ⟨by omega, by omega⟩, ⟨by rw [(hOI.pi.step now (⟨u.kind + 1, u.to, 101, u.id, x.m.m7, x.m.err, []⟩ : An19)).2.1]; omega, by rw [(hOI.pi.step now (⟨u.kind + 1, u.to, 101, u.id, x.m.m7, x.m.err, []⟩ : An19)).2.1]; omega⟩, by have := (hOI.pi.step now (⟨u.kind + 1, u.to, 101, u.id, x.m.m7, x.m.err, []⟩ : An19)).2.2.1; omega⟩ (.cons rfl (.cons rfl (.cons rfl (.cons rfl (.cons rfl (.cons rfl (.cons rfl .nil))))))) (.cons (.tail .head) (.cons .head (.cons .head (.cons (.tail .head) .nil))))
          · refine .cond rfl (fun h16 => ?_) (fun h16 => ?_)
            · refine .region ?_
              refine .rd (.assign rfl) ?_
              refine .nil ?_
              refine .alter (t := 6) (v' := .bool (r || Refuses s (step s now (⟨u.kind + 1, u.to, 101, u.id, x.m.m7, x.m.err, []⟩ : An19)) x.m.err)) rfl (by rw [h16]; rw [Bool.or_true]) ?_
              exact fin (.cons rfl (.cons rfl (.cons rfl (.cons rfl (.cons rfl (.cons rfl (.cons rfl .nil))))))) (.cons .head (.cons (.tail .head) (.cons .head (.cons .head .nil))))
            · refine .skip ?_
              refine .alter (t := 6) (v' := .bool (r || Refuses s (step s now (⟨u.kind + 1, u.to, 101, u.id, x.m.m7, x.m.err, []⟩ : An19)) x.m.err)) rfl (by rw [h16]; rw [Bool.or_false]) ?_
              exact fin (.cons rfl (.cons rfl (.cons rfl (.cons rfl (.cons rfl (.cons rfl (.cons rfl .nil))))))) (.cons .head (.cons (.tail .head) (.cons .head (.cons .head .nil))))
  · refine .exit rfl ?_
    refine .seq ?_
    refine .region ?_
    refine .rd (.assign rfl) ?_
    refine .nil ?_
    refine .retP Tryd.func4 (.cons (.tmp rfl) .nil) (.cons (.tail (.tail .head)) .nil) ?_
    exact ⟨[], ⟨rfl, rfl⟩, rfl⟩

end Go.Proofs.YtankogdnhgmkhaaDoor


namespace Go.Proofs.YtankogdnhgmkhaaDoor
open Go Go.Sp

set_option linter.unusedVariables false

namespace read19

end read19
open read19



theorem i64_wf {n : Int} (h : (Lit.int .i64 n).wf = true) : i64 n := by simpa [i64, Lit.wf, IntKind.min, IntKind.max, IntKind.signed, IntKind.bits] using h
theorem Rd.num {H : Type} {enc : TypeId × Value → H} {P : Program} {W : World} {spare : Nat → Bool} {held : Bool} {t} (ht : P.underlying t = some (.int .i64)) : Rd enc P W spare held t (fun n : Int => [.int .i64 n]) i64 := fun n cs x h hf => by
  obtain ⟨m, e, hm⟩ := Rd.int ht n cs x h hf
  exact ⟨m, e, i64_wf hm⟩
theorem Rd.text {H : Type} {enc : TypeId × Value → H} {P : Program} {W : World} {spare : Nat → Bool} {held : Bool} {t} (ht : P.underlying t = some .string) : Rd enc P W spare held t (fun s : List UInt8 => [.string (str s)]) (fun s => s.length ≤ 140737488351232) := fun n cs x h hf => by
  obtain ⟨s, e, hs⟩ := Rd.string ht n cs x h hf
  refine ⟨s.data.toList, ?_, ?_⟩
  · show cs = [Value.string (str s.data.toList)]; rw [str_data]; exact e
  · show s.data.toList.length ≤ _; rw [← str_size, str_data]; exact hs
theorem Rd.anyRow {H : Type} {enc : TypeId × Value → H} {P : Program} {W : World} {spare : Nat → Bool} {held : Bool} {t e} (ht : P.underlying t = some (.slice e)) : Rd enc P W spare held t (fun y : Sl19 => [.slice y.1 y.2.1 y.2.2]) (fun _ => True) := fun n cs x h _ => by
  rcases DataW.trod_slice ht h with ⟨rfl, _⟩ | ⟨a, len, cap, elems, rest, m, rfl, rfl, rfl, _⟩
  · exact ⟨(none, 0, 0), rfl, trivial⟩
  · exact ⟨(some a, len, cap), rfl, trivial⟩
theorem scell_ones (t : List UInt8) : ones (scell t) := .of rfl

theorem rdS {H : Type} {enc : TypeId × Value → H} {W : World} {spare : Nat → Bool} {held : Bool} : Rd enc Tryd.prog W spare held 31 Sn19.cells (fun s => i64 s.offset ∧ s.name.length ≤ 140737488351232 ∧ s.text.length ≤ 140737488351232) := by
  intro n cs x h hf
  have hl : cs.length = 12 := (Rd.structLen Tryd.underlying31 h).trans (by kernel_rfl)
  obtain ⟨c0, cs0, rfl, hl0⟩ := cons_of_len hl
  obtain ⟨c1, cs1, rfl, hl1⟩ := cons_of_len hl0
  obtain ⟨c2, cs2, rfl, hl2⟩ := cons_of_len hl1
  obtain ⟨c3, cs3, rfl, hl3⟩ := cons_of_len hl2
  obtain ⟨c4, cs4, rfl, hl4⟩ := cons_of_len hl3
  obtain ⟨c5, cs5, rfl, hl5⟩ := cons_of_len hl4
  obtain ⟨c6, cs6, rfl, hl6⟩ := cons_of_len hl5
  obtain ⟨c7, cs7, rfl, hl7⟩ := cons_of_len hl6
  obtain ⟨c8, cs8, rfl, hl8⟩ := cons_of_len hl7
  obtain ⟨c9, cs9, rfl, hl9⟩ := cons_of_len hl8
  obtain ⟨c10, cs10, rfl, hl10⟩ := cons_of_len hl9
  obtain ⟨c11, cs11, rfl, hl11⟩ := cons_of_len hl10
  obtain rfl : cs11 = [] := List.eq_nil_of_length_eq_zero hl11
  obtain ⟨f0, e0, w0⟩ := Rd.field Tryd.underlying31 h hf 0 0 1 rfl (by kernel_rfl) (Rd.num Tryd.underlying3)
  simp only [List.drop_zero, List.take_succ_cons, List.take_zero, List.cons.injEq, and_true] at e0
  obtain ⟨f1, e1, w1⟩ := Rd.field Tryd.underlying31 h hf 1 1 1 rfl (by kernel_rfl) (Rd.num Tryd.underlying3)
  simp only [List.drop_succ_cons, List.drop_zero, List.take_succ_cons, List.take_zero, List.cons.injEq, and_true] at e1
  obtain ⟨f2, e2, w2⟩ := Rd.field Tryd.underlying31 h hf 2 2 1 rfl (by kernel_rfl) (Rd.num Tryd.underlying3)
  simp only [List.drop_succ_cons, List.drop_zero, List.take_succ_cons, List.take_zero, List.cons.injEq, and_true] at e2
  obtain ⟨f3, e3, w3⟩ := Rd.field Tryd.underlying31 h hf 3 3 1 rfl (by kernel_rfl) (Rd.num Tryd.underlying3)
  simp only [List.drop_succ_cons, List.drop_zero, List.take_succ_cons, List.take_zero, List.cons.injEq, and_true] at e3
  obtain ⟨f4, e4, w4⟩ := Rd.field Tryd.underlying31 h hf 4 4 1 rfl (by kernel_rfl) (Rd.num Tryd.underlying3)
  simp only [List.drop_succ_cons, List.drop_zero, List.take_succ_cons, List.take_zero, List.cons.injEq, and_true] at e4
  obtain ⟨f5, e5, w5⟩ := Rd.field Tryd.underlying31 h hf 5 5 1 rfl (by kernel_rfl) (Rd.num Tryd.underlying3)
  simp only [List.drop_succ_cons, List.drop_zero, List.take_succ_cons, List.take_zero, List.cons.injEq, and_true] at e5
  obtain ⟨f6, e6, w6⟩ := Rd.field Tryd.underlying31 h hf 6 6 1 rfl (by kernel_rfl) (Rd.num Tryd.underlying3)
  simp only [List.drop_succ_cons, List.drop_zero, List.take_succ_cons, List.take_zero, List.cons.injEq, and_true] at e6
  obtain ⟨f7, e7, w7⟩ := Rd.field Tryd.underlying31 h hf 7 7 1 rfl (by kernel_rfl) (Rd.num Tryd.underlying3)
  simp only [List.drop_succ_cons, List.drop_zero, List.take_succ_cons, List.take_zero, List.cons.injEq, and_true] at e7
  obtain ⟨nm, e8, wn⟩ := Rd.field Tryd.underlying31 h hf 8 8 1 rfl (by kernel_rfl) (Rd.text Tryd.underlying9)
  simp only [List.drop_succ_cons, List.drop_zero, List.take_succ_cons, List.take_zero, List.cons.injEq, and_true] at e8
  obtain ⟨tx, e9, wt⟩ := Rd.field Tryd.underlying31 h hf 9 9 1 rfl (by kernel_rfl) (Rd.text Tryd.underlying9)
  simp only [List.drop_succ_cons, List.drop_zero, List.take_succ_cons, List.take_zero, List.cons.injEq, and_true] at e9
  obtain ⟨er, e10, we⟩ := Rd.field Tryd.underlying31 h hf 10 10 1 rfl (by kernel_rfl) (Rd.num Tryd.underlying25)
  simp only [List.drop_succ_cons, List.drop_zero, List.take_succ_cons, List.take_zero, List.cons.injEq, and_true] at e10
  obtain ⟨dn, e11, wd⟩ := Rd.field Tryd.underlying31 h hf 11 11 1 rfl (by kernel_rfl) (Rd.bool Tryd.underlying4)
  simp only [List.drop_succ_cons, List.drop_zero, List.take_succ_cons, List.take_zero, List.cons.injEq, and_true] at e11
  subst e0
  subst e1
  subst e2
  subst e3
  subst e4
  subst e5
  subst e6
  subst e7
  subst e8
  subst e9
  subst e10
  subst e11
  exact ⟨⟨f0, f1, f2, f3, f4, f5, f6, f7, nm, tx, er, dn⟩, rfl, ⟨w4, wn, wt⟩⟩

theorem rdM {H : Type} {enc : TypeId × Value → H} {W : World} {spare : Nat → Bool} {held : Bool} : Rd enc Tryd.prog W spare held 35 MX.cells (fun _ => True) := by
  intro n cs x h hf
  have hl : cs.length = 21 := (Rd.structLen Tryd.underlying35 h).trans (by kernel_rfl)
  obtain ⟨c0, cs0, rfl, hl0⟩ := cons_of_len hl
  obtain ⟨c1, cs1, rfl, hl1⟩ := cons_of_len hl0
  obtain ⟨c2, cs2, rfl, hl2⟩ := cons_of_len hl1
  obtain ⟨c3, cs3, rfl, hl3⟩ := cons_of_len hl2
  obtain ⟨c4, cs4, rfl, hl4⟩ := cons_of_len hl3
  obtain ⟨c5, cs5, rfl, hl5⟩ := cons_of_len hl4
  obtain ⟨c6, cs6, rfl, hl6⟩ := cons_of_len hl5
  obtain ⟨c7, cs7, rfl, hl7⟩ := cons_of_len hl6
  obtain ⟨c8, cs8, rfl, hl8⟩ := cons_of_len hl7
  obtain ⟨c9, cs9, rfl, hl9⟩ := cons_of_len hl8
  obtain ⟨c10, cs10, rfl, hl10⟩ := cons_of_len hl9
  obtain ⟨c11, cs11, rfl, hl11⟩ := cons_of_len hl10
  obtain ⟨c12, cs12, rfl, hl12⟩ := cons_of_len hl11
  obtain ⟨c13, cs13, rfl, hl13⟩ := cons_of_len hl12
  obtain ⟨c14, cs14, rfl, hl14⟩ := cons_of_len hl13
  obtain ⟨c15, cs15, rfl, hl15⟩ := cons_of_len hl14
  obtain ⟨c16, cs16, rfl, hl16⟩ := cons_of_len hl15
  obtain ⟨c17, cs17, rfl, hl17⟩ := cons_of_len hl16
  obtain ⟨c18, cs18, rfl, hl18⟩ := cons_of_len hl17
  obtain ⟨c19, cs19, rfl, hl19⟩ := cons_of_len hl18
  obtain ⟨c20, cs20, rfl, hl20⟩ := cons_of_len hl19
  obtain rfl : cs20 = [] := List.eq_nil_of_length_eq_zero hl20
  obtain ⟨f0, e0, w0⟩ := Rd.field Tryd.underlying35 h hf 0 0 1 rfl (by kernel_rfl) (Rd.num Tryd.underlying3)
  simp only [List.drop_zero, List.take_succ_cons, List.take_zero, List.cons.injEq, and_true] at e0
  obtain ⟨f1, e1, w1⟩ := Rd.field Tryd.underlying35 h hf 1 1 1 rfl (by kernel_rfl) (Rd.num Tryd.underlying3)
  simp only [List.drop_succ_cons, List.drop_zero, List.take_succ_cons, List.take_zero, List.cons.injEq, and_true] at e1
  obtain ⟨f2, e2, w2⟩ := Rd.field Tryd.underlying35 h hf 2 2 1 rfl (by kernel_rfl) (Rd.num Tryd.underlying3)
  simp only [List.drop_succ_cons, List.drop_zero, List.take_succ_cons, List.take_zero, List.cons.injEq, and_true] at e2
  obtain ⟨f3, e3, w3⟩ := Rd.field Tryd.underlying35 h hf 3 3 1 rfl (by kernel_rfl) (Rd.num Tryd.underlying3)
  simp only [List.drop_succ_cons, List.drop_zero, List.take_succ_cons, List.take_zero, List.cons.injEq, and_true] at e3
  obtain ⟨f4, e4, w4⟩ := Rd.field Tryd.underlying35 h hf 4 4 1 rfl (by kernel_rfl) (Rd.num Tryd.underlying3)
  simp only [List.drop_succ_cons, List.drop_zero, List.take_succ_cons, List.take_zero, List.cons.injEq, and_true] at e4
  obtain ⟨f5, e5, w5⟩ := Rd.field Tryd.underlying35 h hf 5 5 1 rfl (by kernel_rfl) (Rd.num Tryd.underlying3)
  simp only [List.drop_succ_cons, List.drop_zero, List.take_succ_cons, List.take_zero, List.cons.injEq, and_true] at e5
  obtain ⟨f6, e6, w6⟩ := Rd.field Tryd.underlying35 h hf 6 6 1 rfl (by kernel_rfl) (Rd.num Tryd.underlying3)
  simp only [List.drop_succ_cons, List.drop_zero, List.take_succ_cons, List.take_zero, List.cons.injEq, and_true] at e6
  obtain ⟨f7, e7, w7⟩ := Rd.field Tryd.underlying35 h hf 7 7 1 rfl (by kernel_rfl) (Rd.num Tryd.underlying3)
  simp only [List.drop_succ_cons, List.drop_zero, List.take_succ_cons, List.take_zero, List.cons.injEq, and_true] at e7
  obtain ⟨f8, e8, w8⟩ := Rd.field Tryd.underlying35 h hf 8 8 1 rfl (by kernel_rfl) (Rd.num Tryd.underlying3)
  simp only [List.drop_succ_cons, List.drop_zero, List.take_succ_cons, List.take_zero, List.cons.injEq, and_true] at e8
  obtain ⟨f9, e9, w9⟩ := Rd.field Tryd.underlying35 h hf 9 9 1 rfl (by kernel_rfl) (Rd.num Tryd.underlying3)
  simp only [List.drop_succ_cons, List.drop_zero, List.take_succ_cons, List.take_zero, List.cons.injEq, and_true] at e9
  obtain ⟨f10, e10, w10⟩ := Rd.field Tryd.underlying35 h hf 10 10 1 rfl (by kernel_rfl) (Rd.num Tryd.underlying3)
  simp only [List.drop_succ_cons, List.drop_zero, List.take_succ_cons, List.take_zero, List.cons.injEq, and_true] at e10
  obtain ⟨f11, e11, w11⟩ := Rd.field Tryd.underlying35 h hf 11 11 1 rfl (by kernel_rfl) (Rd.num Tryd.underlying3)
  simp only [List.drop_succ_cons, List.drop_zero, List.take_succ_cons, List.take_zero, List.cons.injEq, and_true] at e11
  obtain ⟨f12, e12, w12⟩ := Rd.field Tryd.underlying35 h hf 12 12 1 rfl (by kernel_rfl) (Rd.num Tryd.underlying3)
  simp only [List.drop_succ_cons, List.drop_zero, List.take_succ_cons, List.take_zero, List.cons.injEq, and_true] at e12
  obtain ⟨f13, e13, w13⟩ := Rd.field Tryd.underlying35 h hf 13 13 1 rfl (by kernel_rfl) (Rd.num Tryd.underlying3)
  simp only [List.drop_succ_cons, List.drop_zero, List.take_succ_cons, List.take_zero, List.cons.injEq, and_true] at e13
  obtain ⟨f14, e14, w14⟩ := Rd.field Tryd.underlying35 h hf 14 14 1 rfl (by kernel_rfl) (Rd.num Tryd.underlying3)
  simp only [List.drop_succ_cons, List.drop_zero, List.take_succ_cons, List.take_zero, List.cons.injEq, and_true] at e14
  obtain ⟨f15, e15, w15⟩ := Rd.field Tryd.underlying35 h hf 15 15 1 rfl (by kernel_rfl) (Rd.num Tryd.underlying25)
  simp only [List.drop_succ_cons, List.drop_zero, List.take_succ_cons, List.take_zero, List.cons.injEq, and_true] at e15
  obtain ⟨nm, e16, w16⟩ := Rd.field Tryd.underlying35 h hf 16 16 1 rfl (by kernel_rfl) (Rd.text Tryd.underlying9)
  simp only [List.drop_succ_cons, List.drop_zero, List.take_succ_cons, List.take_zero, List.cons.injEq, and_true] at e16
  obtain ⟨tx, e17, w17⟩ := Rd.field Tryd.underlying35 h hf 17 17 1 rfl (by kernel_rfl) (Rd.text Tryd.underlying9)
  simp only [List.drop_succ_cons, List.drop_zero, List.take_succ_cons, List.take_zero, List.cons.injEq, and_true] at e17
  obtain ⟨s0, e18, w18⟩ := Rd.field Tryd.underlying35 h hf 18 18 1 rfl (by kernel_rfl) (Rd.anyRow Tryd.underlying32)
  simp only [List.drop_succ_cons, List.drop_zero, List.take_succ_cons, List.take_zero, List.cons.injEq, and_true] at e18
  obtain ⟨s1, e19, w19⟩ := Rd.field Tryd.underlying35 h hf 19 19 1 rfl (by kernel_rfl) (Rd.anyRow Tryd.underlying33)
  simp only [List.drop_succ_cons, List.drop_zero, List.take_succ_cons, List.take_zero, List.cons.injEq, and_true] at e19
  obtain ⟨s2, e20, w20⟩ := Rd.field Tryd.underlying35 h hf 20 20 1 rfl (by kernel_rfl) (Rd.anyRow Tryd.underlying28)
  simp only [List.drop_succ_cons, List.drop_zero, List.take_succ_cons, List.take_zero, List.cons.injEq, and_true] at e20
  subst e0
  subst e1
  subst e2
  subst e3
  subst e4
  subst e5
  subst e6
  subst e7
  subst e8
  subst e9
  subst e10
  subst e11
  subst e12
  subst e13
  subst e14
  subst e15
  subst e16
  subst e17
  subst e18
  subst e19
  subst e20
  exact ⟨⟨f0, f1, f2, f3, f4, f5, f6, f7, f8, f9, f10, f11, f12, f13, f14, f15, nm, tx, s0, s1, s2⟩, rfl, trivial⟩

theorem rdOp {H : Type} {enc : TypeId × Value → H} {W : World} {spare : Nat → Bool} {held : Bool} : Rd enc Tryd.prog W spare held 37 OpX.cells OpX.good := by
  intro n cs x h hf
  have hl : cs.length = 36 := (Rd.structLen Tryd.underlying37 h).trans (by kernel_rfl)
  obtain ⟨c0, cs0, rfl, hl0⟩ := cons_of_len hl
  obtain ⟨c1, cs1, rfl, hl1⟩ := cons_of_len hl0
  obtain ⟨c2, cs2, rfl, hl2⟩ := cons_of_len hl1
  obtain ⟨c3, cs3, rfl, hl3⟩ := cons_of_len hl2
  obtain ⟨c4, cs4, rfl, hl4⟩ := cons_of_len hl3
  obtain ⟨c5, cs5, rfl, hl5⟩ := cons_of_len hl4
  obtain ⟨c6, cs6, rfl, hl6⟩ := cons_of_len hl5
  obtain ⟨c7, cs7, rfl, hl7⟩ := cons_of_len hl6
  obtain ⟨c8, cs8, rfl, hl8⟩ := cons_of_len hl7
  obtain ⟨c9, cs9, rfl, hl9⟩ := cons_of_len hl8
  obtain ⟨c10, cs10, rfl, hl10⟩ := cons_of_len hl9
  obtain ⟨c11, cs11, rfl, hl11⟩ := cons_of_len hl10
  obtain ⟨c12, cs12, rfl, hl12⟩ := cons_of_len hl11
  obtain ⟨c13, cs13, rfl, hl13⟩ := cons_of_len hl12
  obtain ⟨c14, cs14, rfl, hl14⟩ := cons_of_len hl13
  obtain ⟨c15, cs15, rfl, hl15⟩ := cons_of_len hl14
  obtain ⟨c16, cs16, rfl, hl16⟩ := cons_of_len hl15
  obtain ⟨c17, cs17, rfl, hl17⟩ := cons_of_len hl16
  obtain ⟨c18, cs18, rfl, hl18⟩ := cons_of_len hl17
  obtain ⟨c19, cs19, rfl, hl19⟩ := cons_of_len hl18
  obtain ⟨c20, cs20, rfl, hl20⟩ := cons_of_len hl19
  obtain ⟨c21, cs21, rfl, hl21⟩ := cons_of_len hl20
  obtain ⟨c22, cs22, rfl, hl22⟩ := cons_of_len hl21
  obtain ⟨c23, cs23, rfl, hl23⟩ := cons_of_len hl22
  obtain ⟨c24, cs24, rfl, hl24⟩ := cons_of_len hl23
  obtain ⟨c25, cs25, rfl, hl25⟩ := cons_of_len hl24
  obtain ⟨c26, cs26, rfl, hl26⟩ := cons_of_len hl25
  obtain ⟨c27, cs27, rfl, hl27⟩ := cons_of_len hl26
  obtain ⟨c28, cs28, rfl, hl28⟩ := cons_of_len hl27
  obtain ⟨c29, cs29, rfl, hl29⟩ := cons_of_len hl28
  obtain ⟨c30, cs30, rfl, hl30⟩ := cons_of_len hl29
  obtain ⟨c31, cs31, rfl, hl31⟩ := cons_of_len hl30
  obtain ⟨c32, cs32, rfl, hl32⟩ := cons_of_len hl31
  obtain ⟨c33, cs33, rfl, hl33⟩ := cons_of_len hl32
  obtain ⟨c34, cs34, rfl, hl34⟩ := cons_of_len hl33
  obtain ⟨c35, cs35, rfl, hl35⟩ := cons_of_len hl34
  obtain rfl : cs35 = [] := List.eq_nil_of_length_eq_zero hl35
  obtain ⟨f0, e0, w0⟩ := Rd.field Tryd.underlying37 h hf 0 0 1 rfl (by kernel_rfl) (Rd.num Tryd.underlying3)
  simp only [List.drop_zero, List.take_succ_cons, List.take_zero, List.cons.injEq, and_true] at e0
  obtain ⟨f1, e1, w1⟩ := Rd.field Tryd.underlying37 h hf 1 1 1 rfl (by kernel_rfl) (Rd.num Tryd.underlying3)
  simp only [List.drop_succ_cons, List.drop_zero, List.take_succ_cons, List.take_zero, List.cons.injEq, and_true] at e1
  obtain ⟨s, e2, w2⟩ := Rd.field Tryd.underlying37 h hf 2 2 12 rfl (by kernel_rfl) rdS
  simp only [List.drop_succ_cons, List.drop_zero, List.take_succ_cons, List.take_zero] at e2
  obtain ⟨m, e3, w3⟩ := Rd.field Tryd.underlying37 h hf 3 14 21 rfl (by kernel_rfl) rdM
  simp only [List.drop_succ_cons, List.drop_zero, List.take_succ_cons, List.take_zero] at e3
  obtain ⟨b, e4, w4⟩ := Rd.field Tryd.underlying37 h hf 4 35 1 rfl (by kernel_rfl) (Rd.bool Tryd.underlying4)
  simp only [List.drop_succ_cons, List.drop_zero, List.take_succ_cons, List.take_zero, List.cons.injEq, and_true] at e4
  subst e0
  subst e1
  subst e4
  simp only [Sn19.cells, List.cons.injEq, and_true] at e2
  obtain ⟨rfl, rfl, rfl, rfl, rfl, rfl, rfl, rfl, rfl, rfl, rfl, rfl⟩ := e2
  simp only [MX.cells, List.cons.injEq, and_true] at e3
  obtain ⟨rfl, rfl, rfl, rfl, rfl, rfl, rfl, rfl, rfl, rfl, rfl, rfl, rfl, rfl, rfl, rfl, rfl, rfl, rfl, rfl, rfl⟩ := e3
  exact ⟨⟨f0, f1, s, m, b⟩, rfl, ⟨w0, w1, w2.1, w2.2.1, w2.2.2⟩⟩

end Go.Proofs.YtankogdnhgmkhaaDoor

