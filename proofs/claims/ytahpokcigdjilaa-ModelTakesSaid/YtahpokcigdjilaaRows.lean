/-
  No cell of these rows narrows 'for every input' (looked for: loops, veiled, ifaces, maps, wideKeys, modest, calm, conditions, laid).
  DERIVED. THE GIVEN ROWS OF THIS SEAT. 5 by the template 'for every input the law returns true; each argument reads behind the call as it read before'; 0 by the template 'total and deterministic' (their statements: YtahpokcigdjilaaTotals.lean).
  GIVEN WITH THE SEED: the statements are not yours to turn. If you find one false, say at which input.
  Laid BY PROGRAM, IN A SANDBOX (cutbox-rows.mjs): the forced cells as the released guide's own fill.sh prints them over the translation 3d2eaf23f0587d70… (all of the seat's roots in one cut). By AI agents, Wed Nov 11 2026. No macro, syntax, notation, axiom, sorry.
-/
import Derived.Test.YtahpokcigdjilaaChecked
import GoSem.Claim
import GoSem.ClaimJoined
import GoSem.ClaimMapViews
import Derived.JoinedTies
import Derived.KernelRfl
namespace Go.Proofs.Ytahpokcigdjilaa
/- THE CELL 'sum', in the pinned program and in every row, IS THE sha256 OF THE DUMP (.gsa) THAT YtahpokcigdjilaaProg.lean LOADS. Nothing in Lean hashes anything: it is a label: what it is worth is what the hold of that sum in a sandbox is worth. -/
noncomputable def Try.pinned : Pinned := { name := "ytahpokcigdjilaa", sum := "3d2eaf23f0587d70f745a4418435fc9c0ae87b11bdc3bc8be98cf2009629e984", checked := Try.checked }
namespace Rows
def none {H : Type} : Left H := { results := [], args := [] }

/-- 'logboomlaw22.ModelChecks': WHATEVER THE INPUT: true; the input reads as it did. -/
def modelChecksSpec : ChangeSpec := { name := "modelChecks", fn := fun _ => fun
  | [d] => { results := [.lit (.bool true)], args := [d] }
  | _ => none }
def modelChecksRow : OpenClaim := { program := "ytahpokcigdjilaa", sum := "3d2eaf23f0587d70f745a4418435fc9c0ae87b11bdc3bc8be98cf2009629e984", func := "logboom/logboomlaw22.ModelChecks", spec := "modelChecks", unfollowed := true, recurses := true, plainKeys := false, apart := false }
def ModelChecksSaid : Prop := modelChecksRow.holds Try.pinned (OpenSpec.ofChange modelChecksSpec)

/-- ITS FALSE NEIGHBOUR: 'it returns false'. Refute it at one input. -/
def modelChecksWrong : ChangeSpec := { name := "modelChecks", fn := fun _ => fun
  | [d] => { results := [.lit (.bool false)], args := [d] }
  | _ => none }
def ModelChecksWrongFalsely : Prop := modelChecksRow.holds Try.pinned (OpenSpec.ofChange modelChecksWrong)

/-- 'logboomlaw22.ModelTakes': WHATEVER THE INPUT: true; the input reads as it did. -/
def modelTakesSpec : ChangeSpec := { name := "modelTakes", fn := fun _ => fun
  | [d] => { results := [.lit (.bool true)], args := [d] }
  | _ => none }
def modelTakesRow : OpenClaim := { program := "ytahpokcigdjilaa", sum := "3d2eaf23f0587d70f745a4418435fc9c0ae87b11bdc3bc8be98cf2009629e984", func := "logboom/logboomlaw22.ModelTakes", spec := "modelTakes", unfollowed := true, recurses := true, plainKeys := false, apart := false }
def ModelTakesSaid : Prop := modelTakesRow.holds Try.pinned (OpenSpec.ofChange modelTakesSpec)

/-- ITS FALSE NEIGHBOUR: 'it returns false'. Refute it at one input. -/
def modelTakesWrong : ChangeSpec := { name := "modelTakes", fn := fun _ => fun
  | [d] => { results := [.lit (.bool false)], args := [d] }
  | _ => none }
def ModelTakesWrongFalsely : Prop := modelTakesRow.holds Try.pinned (OpenSpec.ofChange modelTakesWrong)

/-- 'logboomlaw22.ModelTells': WHATEVER THE INPUT: true; the input reads as it did. -/
def modelTellsSpec : ChangeSpec := { name := "modelTells", fn := fun _ => fun
  | [d1, d2, d3, d4] => { results := [.lit (.bool true)], args := [d1, d2, d3, d4] }
  | _ => none }
def modelTellsRow : OpenClaim := { program := "ytahpokcigdjilaa", sum := "3d2eaf23f0587d70f745a4418435fc9c0ae87b11bdc3bc8be98cf2009629e984", func := "logboom/logboomlaw22.ModelTells", spec := "modelTells", unfollowed := true, recurses := true, plainKeys := false, apart := false }
def ModelTellsSaid : Prop := modelTellsRow.holds Try.pinned (OpenSpec.ofChange modelTellsSpec)

/-- ITS FALSE NEIGHBOUR: 'it returns false'. Refute it at one input. -/
def modelTellsWrong : ChangeSpec := { name := "modelTells", fn := fun _ => fun
  | [d1, d2, d3, d4] => { results := [.lit (.bool false)], args := [d1, d2, d3, d4] }
  | _ => none }
def ModelTellsWrongFalsely : Prop := modelTellsRow.holds Try.pinned (OpenSpec.ofChange modelTellsWrong)

/-- 'logboomlaw22.ModelRises': WHATEVER THE INPUT: true; the input reads as it did. -/
def modelRisesSpec : ChangeSpec := { name := "modelRises", fn := fun _ => fun
  | [d1, d2] => { results := [.lit (.bool true)], args := [d1, d2] }
  | _ => none }
def modelRisesRow : OpenClaim := { program := "ytahpokcigdjilaa", sum := "3d2eaf23f0587d70f745a4418435fc9c0ae87b11bdc3bc8be98cf2009629e984", func := "logboom/logboomlaw22.ModelRises", spec := "modelRises", unfollowed := true, recurses := true, plainKeys := false, apart := false }
def ModelRisesSaid : Prop := modelRisesRow.holds Try.pinned (OpenSpec.ofChange modelRisesSpec)

/-- ITS FALSE NEIGHBOUR: 'it returns false'. Refute it at one input. -/
def modelRisesWrong : ChangeSpec := { name := "modelRises", fn := fun _ => fun
  | [d1, d2] => { results := [.lit (.bool false)], args := [d1, d2] }
  | _ => none }
def ModelRisesWrongFalsely : Prop := modelRisesRow.holds Try.pinned (OpenSpec.ofChange modelRisesWrong)

/-- 'logboomlaw22.ModelBegins': WHATEVER THE INPUT: true; the input reads as it did. -/
def modelBeginsSpec : ChangeSpec := { name := "modelBegins", fn := fun _ => fun
  | [d1, d2, d3] => { results := [.lit (.bool true)], args := [d1, d2, d3] }
  | _ => none }
def modelBeginsRow : OpenClaim := { program := "ytahpokcigdjilaa", sum := "3d2eaf23f0587d70f745a4418435fc9c0ae87b11bdc3bc8be98cf2009629e984", func := "logboom/logboomlaw22.ModelBegins", spec := "modelBegins", unfollowed := true, recurses := true, plainKeys := false, apart := false }
def ModelBeginsSaid : Prop := modelBeginsRow.holds Try.pinned (OpenSpec.ofChange modelBeginsSpec)

/-- ITS FALSE NEIGHBOUR: 'it returns false'. Refute it at one input. -/
def modelBeginsWrong : ChangeSpec := { name := "modelBegins", fn := fun _ => fun
  | [d1, d2, d3] => { results := [.lit (.bool false)], args := [d1, d2, d3] }
  | _ => none }
def ModelBeginsWrongFalsely : Prop := modelBeginsRow.holds Try.pinned (OpenSpec.ofChange modelBeginsWrong)

/- THE SECOND FORM. 'bulk': how many values and letters a reading holds, each counted each time it is reached (what is shared counts as often as it is met; a slice's spare places count too). A statement '..UptoSaid' is the law's where the arguments, and the package variables that the reading takes, are together of bulk at most 1048576: NARROWER than '..Said'. Prove '..Said' where nothing that the law and all that it calls make is longer than what came in: it says more and counts as full. Else prove '..UptoSaid'. A law counts once. -/
mutual
def uptoBulk {H : Type} : DataW H → Nat
  | .lit (.string bytes) => bytes.length + 1
  | .lit _ => 1
  | .nil => 1
  | .ptr d => uptoBulk d + 1
  | .slice elems spare => uptoBulkAll elems + uptoBulkAll spare + 1
  | .agg parts => uptoBulkAll parts + 1
  | .iface _ d => uptoBulk d + 1
  | .map entries => uptoBulkEntries entries + 1
  | .held _ => 1
def uptoBulkAll {H : Type} : List (DataW H) → Nat
  | [] => 0
  | d :: r => uptoBulk d + uptoBulkAll r
def uptoBulkEntries {H : Type} : List (Lit × DataW H) → Nat
  | [] => 0
  | x :: r => uptoBulkEntry x + uptoBulkEntries r
def uptoBulkEntry {H : Type} : Lit × DataW H → Nat
  | (.string bytes, d) => bytes.length + uptoBulk d + 1
  | (_, d) => uptoBulk d + 1
 end
def uptoSmall : (H : Type) → List (DataW H) → Bool := fun _ ds => decide (uptoBulkAll ds ≤ 1048576)
def OpenSpec.upto (s : _root_.Go.ChangeSpec) : _root_.Go.OpenSpec := { _root_.Go.OpenSpec.ofChange s with cond := some uptoSmall }

/-- 'logboomlaw22.ModelChecks', WHERE WHAT IT READS IS OF BULK AT MOST 1048576: true; the input reads as it did. -/
def modelChecksUptoRow : OpenClaim := { program := "ytahpokcigdjilaa", sum := "3d2eaf23f0587d70f745a4418435fc9c0ae87b11bdc3bc8be98cf2009629e984", func := "logboom/logboomlaw22.ModelChecks", spec := "modelChecks", unfollowed := true, recurses := true, plainKeys := false, apart := false, narrowed := true }
def ModelChecksUptoSaid : Prop := modelChecksUptoRow.holds Try.pinned (OpenSpec.upto modelChecksSpec)

/-- 'logboomlaw22.ModelTakes', WHERE WHAT IT READS IS OF BULK AT MOST 1048576: true; the input reads as it did. -/
def modelTakesUptoRow : OpenClaim := { program := "ytahpokcigdjilaa", sum := "3d2eaf23f0587d70f745a4418435fc9c0ae87b11bdc3bc8be98cf2009629e984", func := "logboom/logboomlaw22.ModelTakes", spec := "modelTakes", unfollowed := true, recurses := true, plainKeys := false, apart := false, narrowed := true }
def ModelTakesUptoSaid : Prop := modelTakesUptoRow.holds Try.pinned (OpenSpec.upto modelTakesSpec)

/-- 'logboomlaw22.ModelTells', WHERE WHAT IT READS IS OF BULK AT MOST 1048576: true; the input reads as it did. -/
def modelTellsUptoRow : OpenClaim := { program := "ytahpokcigdjilaa", sum := "3d2eaf23f0587d70f745a4418435fc9c0ae87b11bdc3bc8be98cf2009629e984", func := "logboom/logboomlaw22.ModelTells", spec := "modelTells", unfollowed := true, recurses := true, plainKeys := false, apart := false, narrowed := true }
def ModelTellsUptoSaid : Prop := modelTellsUptoRow.holds Try.pinned (OpenSpec.upto modelTellsSpec)

/-- 'logboomlaw22.ModelRises', WHERE WHAT IT READS IS OF BULK AT MOST 1048576: true; the input reads as it did. -/
def modelRisesUptoRow : OpenClaim := { program := "ytahpokcigdjilaa", sum := "3d2eaf23f0587d70f745a4418435fc9c0ae87b11bdc3bc8be98cf2009629e984", func := "logboom/logboomlaw22.ModelRises", spec := "modelRises", unfollowed := true, recurses := true, plainKeys := false, apart := false, narrowed := true }
def ModelRisesUptoSaid : Prop := modelRisesUptoRow.holds Try.pinned (OpenSpec.upto modelRisesSpec)

/-- 'logboomlaw22.ModelBegins', WHERE WHAT IT READS IS OF BULK AT MOST 1048576: true; the input reads as it did. -/
def modelBeginsUptoRow : OpenClaim := { program := "ytahpokcigdjilaa", sum := "3d2eaf23f0587d70f745a4418435fc9c0ae87b11bdc3bc8be98cf2009629e984", func := "logboom/logboomlaw22.ModelBegins", spec := "modelBegins", unfollowed := true, recurses := true, plainKeys := false, apart := false, narrowed := true }
def ModelBeginsUptoSaid : Prop := modelBeginsUptoRow.holds Try.pinned (OpenSpec.upto modelBeginsSpec)

end Rows
end Go.Proofs.Ytahpokcigdjilaa
