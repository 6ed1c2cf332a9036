/-
  No cell of these rows narrows 'for every input' (looked for: loops, veiled, ifaces, maps, wideKeys, modest, calm, conditions, laid).
  DERIVED. THE GIVEN ROWS OF THIS SEAT. 10 by the template 'for every input the law returns true; each argument reads behind the call as it read before'; 0 by the template 'total and deterministic' (their statements: YtllpkagplfmlbaaTotals.lean).
  GIVEN WITH THE SEED: the statements are not yours to turn. If you find one false, say at which input.
  Laid BY PROGRAM, IN A SANDBOX (cutbox-rows.mjs): the forced cells as the released guide's own fill.sh prints them over the translation 7bf7cb462f227672… (all of the seat's roots in one cut). By AI agents, Wed Nov 11 2026. No macro, syntax, notation, axiom, sorry.
-/
import Derived.Test.YtllpkagplfmlbaaChecked
import GoSem.Claim
import GoSem.ClaimJoined
import GoSem.ClaimMapViews
import Derived.JoinedTies
import Derived.KernelRfl
namespace Go.Proofs.Ytllpkagplfmlbaa
/- THE CELL 'sum', in the pinned program and in every row, IS THE sha256 OF THE DUMP (.gsa) THAT YtllpkagplfmlbaaProg.lean LOADS. Nothing in Lean hashes anything: it is a label: what it is worth is what the hold of that sum in a sandbox is worth. -/
noncomputable def Try.pinned : Pinned := { name := "ytllpkagplfmlbaa", sum := "7bf7cb462f2276720773ce3b69b3f1fe7297deae2018bcdfaf53d4751cff6416", checked := Try.checked }
namespace Rows
def none {H : Type} : Left H := { results := [], args := [] }

/-- 'logboomlaw3.WireSums': WHATEVER THE INPUT: true; the input reads as it did. -/
def wireSumsSpec : ChangeSpec := { name := "wireSums", fn := fun _ => fun
  | [d] => { results := [.lit (.bool true)], args := [d] }
  | _ => none }
def wireSumsRow : OpenClaim := { program := "ytllpkagplfmlbaa", sum := "7bf7cb462f2276720773ce3b69b3f1fe7297deae2018bcdfaf53d4751cff6416", func := "logboom/logboomlaw3.WireSums", spec := "wireSums", apart := false }
def WireSumsSaid : Prop := wireSumsRow.holds Try.pinned (OpenSpec.ofChange wireSumsSpec)

/-- ITS FALSE NEIGHBOUR: 'it returns false'. Refute it at one input. -/
def wireSumsWrong : ChangeSpec := { name := "wireSums", fn := fun _ => fun
  | [d] => { results := [.lit (.bool false)], args := [d] }
  | _ => none }
def WireSumsWrongFalsely : Prop := wireSumsRow.holds Try.pinned (OpenSpec.ofChange wireSumsWrong)

/-- 'logboomlaw3.WireTorn': WHATEVER THE INPUT: true; the input reads as it did. -/
def wireTornSpec : ChangeSpec := { name := "wireTorn", fn := fun _ => fun
  | [d1, d2, d3] => { results := [.lit (.bool true)], args := [d1, d2, d3] }
  | _ => none }
def wireTornRow : OpenClaim := { program := "ytllpkagplfmlbaa", sum := "7bf7cb462f2276720773ce3b69b3f1fe7297deae2018bcdfaf53d4751cff6416", func := "logboom/logboomlaw3.WireTorn", spec := "wireTorn", apart := false }
def WireTornSaid : Prop := wireTornRow.holds Try.pinned (OpenSpec.ofChange wireTornSpec)

/-- ITS FALSE NEIGHBOUR: 'it returns false'. Refute it at one input. -/
def wireTornWrong : ChangeSpec := { name := "wireTorn", fn := fun _ => fun
  | [d1, d2, d3] => { results := [.lit (.bool false)], args := [d1, d2, d3] }
  | _ => none }
def WireTornWrongFalsely : Prop := wireTornRow.holds Try.pinned (OpenSpec.ofChange wireTornWrong)

/-- 'logboomlaw3.WireMetas': WHATEVER THE INPUT: true; the input reads as it did. -/
def wireMetasSpec : ChangeSpec := { name := "wireMetas", fn := fun _ => fun
  | [d] => { results := [.lit (.bool true)], args := [d] }
  | _ => none }
def wireMetasRow : OpenClaim := { program := "ytllpkagplfmlbaa", sum := "7bf7cb462f2276720773ce3b69b3f1fe7297deae2018bcdfaf53d4751cff6416", func := "logboom/logboomlaw3.WireMetas", spec := "wireMetas", apart := false }
def WireMetasSaid : Prop := wireMetasRow.holds Try.pinned (OpenSpec.ofChange wireMetasSpec)

/-- ITS FALSE NEIGHBOUR: 'it returns false'. Refute it at one input. -/
def wireMetasWrong : ChangeSpec := { name := "wireMetas", fn := fun _ => fun
  | [d] => { results := [.lit (.bool false)], args := [d] }
  | _ => none }
def WireMetasWrongFalsely : Prop := wireMetasRow.holds Try.pinned (OpenSpec.ofChange wireMetasWrong)

/-- 'logboomlaw3.WireReads': WHATEVER THE INPUT: true; the input reads as it did. -/
def wireReadsSpec : ChangeSpec := { name := "wireReads", fn := fun _ => fun
  | [d] => { results := [.lit (.bool true)], args := [d] }
  | _ => none }
def wireReadsRow : OpenClaim := { program := "ytllpkagplfmlbaa", sum := "7bf7cb462f2276720773ce3b69b3f1fe7297deae2018bcdfaf53d4751cff6416", func := "logboom/logboomlaw3.WireReads", spec := "wireReads", apart := false }
def WireReadsSaid : Prop := wireReadsRow.holds Try.pinned (OpenSpec.ofChange wireReadsSpec)

/-- ITS FALSE NEIGHBOUR: 'it returns false'. Refute it at one input. -/
def wireReadsWrong : ChangeSpec := { name := "wireReads", fn := fun _ => fun
  | [d] => { results := [.lit (.bool false)], args := [d] }
  | _ => none }
def WireReadsWrongFalsely : Prop := wireReadsRow.holds Try.pinned (OpenSpec.ofChange wireReadsWrong)

/-- 'logboomlaw3.WireBack': WHATEVER THE INPUT: true; the input reads as it did. -/
def wireBackSpec : ChangeSpec := { name := "wireBack", fn := fun _ => fun
  | [d1, d2, d3, d4, d5] => { results := [.lit (.bool true)], args := [d1, d2, d3, d4, d5] }
  | _ => none }
def wireBackRow : OpenClaim := { program := "ytllpkagplfmlbaa", sum := "7bf7cb462f2276720773ce3b69b3f1fe7297deae2018bcdfaf53d4751cff6416", func := "logboom/logboomlaw3.WireBack", spec := "wireBack", apart := false }
def WireBackSaid : Prop := wireBackRow.holds Try.pinned (OpenSpec.ofChange wireBackSpec)

/-- ITS FALSE NEIGHBOUR: 'it returns false'. Refute it at one input. -/
def wireBackWrong : ChangeSpec := { name := "wireBack", fn := fun _ => fun
  | [d1, d2, d3, d4, d5] => { results := [.lit (.bool false)], args := [d1, d2, d3, d4, d5] }
  | _ => none }
def WireBackWrongFalsely : Prop := wireBackRow.holds Try.pinned (OpenSpec.ofChange wireBackWrong)

/-- 'logboomlaw4.RpcWrites': WHATEVER THE INPUT: true; the input reads as it did. -/
def rpcWritesSpec : ChangeSpec := { name := "rpcWrites", fn := fun _ => fun
  | [d] => { results := [.lit (.bool true)], args := [d] }
  | _ => none }
def rpcWritesRow : OpenClaim := { program := "ytllpkagplfmlbaa", sum := "7bf7cb462f2276720773ce3b69b3f1fe7297deae2018bcdfaf53d4751cff6416", func := "logboom/logboomlaw4.RpcWrites", spec := "rpcWrites", inPlace := ["internal/abi.NoEscape"], apart := false }
def RpcWritesSaid : Prop := rpcWritesRow.holds Try.pinned (OpenSpec.ofChange rpcWritesSpec)

/-- ITS FALSE NEIGHBOUR: 'it returns false'. Refute it at one input. -/
def rpcWritesWrong : ChangeSpec := { name := "rpcWrites", fn := fun _ => fun
  | [d] => { results := [.lit (.bool false)], args := [d] }
  | _ => none }
def RpcWritesWrongFalsely : Prop := rpcWritesRow.holds Try.pinned (OpenSpec.ofChange rpcWritesWrong)

/-- 'logboomlaw4.RpcReads': WHATEVER THE INPUT: true; the input reads as it did. -/
def rpcReadsSpec : ChangeSpec := { name := "rpcReads", fn := fun _ => fun
  | [d] => { results := [.lit (.bool true)], args := [d] }
  | _ => none }
def rpcReadsRow : OpenClaim := { program := "ytllpkagplfmlbaa", sum := "7bf7cb462f2276720773ce3b69b3f1fe7297deae2018bcdfaf53d4751cff6416", func := "logboom/logboomlaw4.RpcReads", spec := "rpcReads", inPlace := ["internal/abi.NoEscape"], apart := false }
def RpcReadsSaid : Prop := rpcReadsRow.holds Try.pinned (OpenSpec.ofChange rpcReadsSpec)

/-- ITS FALSE NEIGHBOUR: 'it returns false'. Refute it at one input. -/
def rpcReadsWrong : ChangeSpec := { name := "rpcReads", fn := fun _ => fun
  | [d] => { results := [.lit (.bool false)], args := [d] }
  | _ => none }
def RpcReadsWrongFalsely : Prop := rpcReadsRow.holds Try.pinned (OpenSpec.ofChange rpcReadsWrong)

/-- 'logboomlaw4.RpcAnswers': WHATEVER THE INPUT: true; the input reads as it did. -/
def rpcAnswersSpec : ChangeSpec := { name := "rpcAnswers", fn := fun _ => fun
  | [d1, d2] => { results := [.lit (.bool true)], args := [d1, d2] }
  | _ => none }
def rpcAnswersRow : OpenClaim := { program := "ytllpkagplfmlbaa", sum := "7bf7cb462f2276720773ce3b69b3f1fe7297deae2018bcdfaf53d4751cff6416", func := "logboom/logboomlaw4.RpcAnswers", spec := "rpcAnswers", inPlace := ["internal/abi.NoEscape"], apart := false }
def RpcAnswersSaid : Prop := rpcAnswersRow.holds Try.pinned (OpenSpec.ofChange rpcAnswersSpec)

/-- ITS FALSE NEIGHBOUR: 'it returns false'. Refute it at one input. -/
def rpcAnswersWrong : ChangeSpec := { name := "rpcAnswers", fn := fun _ => fun
  | [d1, d2] => { results := [.lit (.bool false)], args := [d1, d2] }
  | _ => none }
def RpcAnswersWrongFalsely : Prop := rpcAnswersRow.holds Try.pinned (OpenSpec.ofChange rpcAnswersWrong)

/-- 'logboomlaw4.RpcBack': WHATEVER THE INPUT: true; the input reads as it did. -/
def rpcBackSpec : ChangeSpec := { name := "rpcBack", fn := fun _ => fun
  | [d1, d2] => { results := [.lit (.bool true)], args := [d1, d2] }
  | _ => none }
def rpcBackRow : OpenClaim := { program := "ytllpkagplfmlbaa", sum := "7bf7cb462f2276720773ce3b69b3f1fe7297deae2018bcdfaf53d4751cff6416", func := "logboom/logboomlaw4.RpcBack", spec := "rpcBack", inPlace := ["internal/abi.NoEscape"], apart := false }
def RpcBackSaid : Prop := rpcBackRow.holds Try.pinned (OpenSpec.ofChange rpcBackSpec)

/-- ITS FALSE NEIGHBOUR: 'it returns false'. Refute it at one input. -/
def rpcBackWrong : ChangeSpec := { name := "rpcBack", fn := fun _ => fun
  | [d1, d2] => { results := [.lit (.bool false)], args := [d1, d2] }
  | _ => none }
def RpcBackWrongFalsely : Prop := rpcBackRow.holds Try.pinned (OpenSpec.ofChange rpcBackWrong)

/-- 'logboomlaw4.RpcTorn': WHATEVER THE INPUT: true; the input reads as it did. -/
def rpcTornSpec : ChangeSpec := { name := "rpcTorn", fn := fun _ => fun
  | [d1, d2, d3, d4] => { results := [.lit (.bool true)], args := [d1, d2, d3, d4] }
  | _ => none }
def rpcTornRow : OpenClaim := { program := "ytllpkagplfmlbaa", sum := "7bf7cb462f2276720773ce3b69b3f1fe7297deae2018bcdfaf53d4751cff6416", func := "logboom/logboomlaw4.RpcTorn", spec := "rpcTorn", inPlace := ["internal/abi.NoEscape"], apart := false }
def RpcTornSaid : Prop := rpcTornRow.holds Try.pinned (OpenSpec.ofChange rpcTornSpec)

/-- ITS FALSE NEIGHBOUR: 'it returns false'. Refute it at one input. -/
def rpcTornWrong : ChangeSpec := { name := "rpcTorn", fn := fun _ => fun
  | [d1, d2, d3, d4] => { results := [.lit (.bool false)], args := [d1, d2, d3, d4] }
  | _ => none }
def RpcTornWrongFalsely : Prop := rpcTornRow.holds Try.pinned (OpenSpec.ofChange rpcTornWrong)

/- THE SECOND FORM. 'bulk': how many values and letters a reading holds, each counted each time it is reached (what is shared counts as often as it is met; a slice's spare places count too). A statement '..UptoSaid' is the law's where the arguments, and the package variables that the reading takes, are together of bulk at most 1048576: NARROWER than '..Said'. Prove '..Said' where nothing that the law and all that it calls make is longer than what came in: it says more and counts as full. Else prove '..UptoSaid'. A law counts once. -/
mutual
def uptoBulk {H : Type} : DataW H → Nat
  | .lit (.string bytes) => bytes.length + 1
  | .lit _ => 1
  | .nil => 1
  | .ptr d => uptoBulk d + 1
  | .slice elems spare => uptoBulkAll elems + uptoBulkAll spare + 1
  | .agg parts => uptoBulkAll parts + 1
  | .iface _ d => uptoBulk d + 1
  | .map entries => uptoBulkEntries entries + 1
  | .held _ => 1
def uptoBulkAll {H : Type} : List (DataW H) → Nat
  | [] => 0
  | d :: r => uptoBulk d + uptoBulkAll r
def uptoBulkEntries {H : Type} : List (Lit × DataW H) → Nat
  | [] => 0
  | x :: r => uptoBulkEntry x + uptoBulkEntries r
def uptoBulkEntry {H : Type} : Lit × DataW H → Nat
  | (.string bytes, d) => bytes.length + uptoBulk d + 1
  | (_, d) => uptoBulk d + 1
 end
def uptoSmall : (H : Type) → List (DataW H) → Bool := fun _ ds => decide (uptoBulkAll ds ≤ 1048576)
def OpenSpec.upto (s : _root_.Go.ChangeSpec) : _root_.Go.OpenSpec := { _root_.Go.OpenSpec.ofChange s with cond := some uptoSmall }

/-- 'logboomlaw3.WireSums', WHERE WHAT IT READS IS OF BULK AT MOST 1048576: true; the input reads as it did. -/
def wireSumsUptoRow : OpenClaim := { program := "ytllpkagplfmlbaa", sum := "7bf7cb462f2276720773ce3b69b3f1fe7297deae2018bcdfaf53d4751cff6416", func := "logboom/logboomlaw3.WireSums", spec := "wireSums", apart := false, narrowed := true }
def WireSumsUptoSaid : Prop := wireSumsUptoRow.holds Try.pinned (OpenSpec.upto wireSumsSpec)

/-- 'logboomlaw3.WireTorn', WHERE WHAT IT READS IS OF BULK AT MOST 1048576: true; the input reads as it did. -/
def wireTornUptoRow : OpenClaim := { program := "ytllpkagplfmlbaa", sum := "7bf7cb462f2276720773ce3b69b3f1fe7297deae2018bcdfaf53d4751cff6416", func := "logboom/logboomlaw3.WireTorn", spec := "wireTorn", apart := false, narrowed := true }
def WireTornUptoSaid : Prop := wireTornUptoRow.holds Try.pinned (OpenSpec.upto wireTornSpec)

/-- 'logboomlaw3.WireMetas', WHERE WHAT IT READS IS OF BULK AT MOST 1048576: true; the input reads as it did. -/
def wireMetasUptoRow : OpenClaim := { program := "ytllpkagplfmlbaa", sum := "7bf7cb462f2276720773ce3b69b3f1fe7297deae2018bcdfaf53d4751cff6416", func := "logboom/logboomlaw3.WireMetas", spec := "wireMetas", apart := false, narrowed := true }
def WireMetasUptoSaid : Prop := wireMetasUptoRow.holds Try.pinned (OpenSpec.upto wireMetasSpec)

/-- 'logboomlaw3.WireReads', WHERE WHAT IT READS IS OF BULK AT MOST 1048576: true; the input reads as it did. -/
def wireReadsUptoRow : OpenClaim := { program := "ytllpkagplfmlbaa", sum := "7bf7cb462f2276720773ce3b69b3f1fe7297deae2018bcdfaf53d4751cff6416", func := "logboom/logboomlaw3.WireReads", spec := "wireReads", apart := false, narrowed := true }
def WireReadsUptoSaid : Prop := wireReadsUptoRow.holds Try.pinned (OpenSpec.upto wireReadsSpec)

/-- 'logboomlaw3.WireBack', WHERE WHAT IT READS IS OF BULK AT MOST 1048576: true; the input reads as it did. -/
def wireBackUptoRow : OpenClaim := { program := "ytllpkagplfmlbaa", sum := "7bf7cb462f2276720773ce3b69b3f1fe7297deae2018bcdfaf53d4751cff6416", func := "logboom/logboomlaw3.WireBack", spec := "wireBack", apart := false, narrowed := true }
def WireBackUptoSaid : Prop := wireBackUptoRow.holds Try.pinned (OpenSpec.upto wireBackSpec)

/-- 'logboomlaw4.RpcWrites', WHERE WHAT IT READS IS OF BULK AT MOST 1048576: true; the input reads as it did. -/
def rpcWritesUptoRow : OpenClaim := { program := "ytllpkagplfmlbaa", sum := "7bf7cb462f2276720773ce3b69b3f1fe7297deae2018bcdfaf53d4751cff6416", func := "logboom/logboomlaw4.RpcWrites", spec := "rpcWrites", inPlace := ["internal/abi.NoEscape"], apart := false, narrowed := true }
def RpcWritesUptoSaid : Prop := rpcWritesUptoRow.holds Try.pinned (OpenSpec.upto rpcWritesSpec)

/-- 'logboomlaw4.RpcReads', WHERE WHAT IT READS IS OF BULK AT MOST 1048576: true; the input reads as it did. -/
def rpcReadsUptoRow : OpenClaim := { program := "ytllpkagplfmlbaa", sum := "7bf7cb462f2276720773ce3b69b3f1fe7297deae2018bcdfaf53d4751cff6416", func := "logboom/logboomlaw4.RpcReads", spec := "rpcReads", inPlace := ["internal/abi.NoEscape"], apart := false, narrowed := true }
def RpcReadsUptoSaid : Prop := rpcReadsUptoRow.holds Try.pinned (OpenSpec.upto rpcReadsSpec)

/-- 'logboomlaw4.RpcAnswers', WHERE WHAT IT READS IS OF BULK AT MOST 1048576: true; the input reads as it did. -/
def rpcAnswersUptoRow : OpenClaim := { program := "ytllpkagplfmlbaa", sum := "7bf7cb462f2276720773ce3b69b3f1fe7297deae2018bcdfaf53d4751cff6416", func := "logboom/logboomlaw4.RpcAnswers", spec := "rpcAnswers", inPlace := ["internal/abi.NoEscape"], apart := false, narrowed := true }
def RpcAnswersUptoSaid : Prop := rpcAnswersUptoRow.holds Try.pinned (OpenSpec.upto rpcAnswersSpec)

/-- 'logboomlaw4.RpcBack', WHERE WHAT IT READS IS OF BULK AT MOST 1048576: true; the input reads as it did. -/
def rpcBackUptoRow : OpenClaim := { program := "ytllpkagplfmlbaa", sum := "7bf7cb462f2276720773ce3b69b3f1fe7297deae2018bcdfaf53d4751cff6416", func := "logboom/logboomlaw4.RpcBack", spec := "rpcBack", inPlace := ["internal/abi.NoEscape"], apart := false, narrowed := true }
def RpcBackUptoSaid : Prop := rpcBackUptoRow.holds Try.pinned (OpenSpec.upto rpcBackSpec)

/-- 'logboomlaw4.RpcTorn', WHERE WHAT IT READS IS OF BULK AT MOST 1048576: true; the input reads as it did. -/
def rpcTornUptoRow : OpenClaim := { program := "ytllpkagplfmlbaa", sum := "7bf7cb462f2276720773ce3b69b3f1fe7297deae2018bcdfaf53d4751cff6416", func := "logboom/logboomlaw4.RpcTorn", spec := "rpcTorn", inPlace := ["internal/abi.NoEscape"], apart := false, narrowed := true }
def RpcTornUptoSaid : Prop := rpcTornUptoRow.holds Try.pinned (OpenSpec.upto rpcTornSpec)

end Rows
end Go.Proofs.Ytllpkagplfmlbaa
