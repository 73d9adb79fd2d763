/-
  No cell of these rows narrows 'for every input' (looked for: loops, veiled, ifaces, maps, wideKeys, modest, calm, conditions, laid).
  DERIVED. THE GIVEN ROWS OF THIS SEAT. 12 by the template 'for every input the law returns true; each argument reads behind the call as it read before'; 0 by the template 'total and deterministic' (their statements: YtmbmebfeoejlnaaTotals.lean).
  GIVEN WITH THE SEED: the statements are not yours to turn. If you find one false, say at which input.
  Laid BY PROGRAM, IN A SANDBOX (cutbox-rows.mjs): the forced cells as the released guide's own fill.sh prints them over the translation 4f105faa21205306… (all of the seat's roots in one cut). By AI agents, Wed Nov 11 2026. No macro, syntax, notation, axiom, sorry.
-/
import Derived.Test.YtmbmebfeoejlnaaChecked
import GoSem.Claim
import GoSem.ClaimJoined
import GoSem.ClaimMapViews
import Derived.JoinedTies
import Derived.KernelRfl
namespace Go.Proofs.Ytmbmebfeoejlnaa
/- THE CELL 'sum', in the pinned program and in every row, IS THE sha256 OF THE DUMP (.gsa) THAT YtmbmebfeoejlnaaProg.lean LOADS. Nothing in Lean hashes anything: it is a label: what it is worth is what the hold of that sum in a sandbox is worth. -/
noncomputable def Try.pinned : Pinned := { name := "ytmbmebfeoejlnaa", sum := "4f105faa212053062220f769e57ffafb873ed7c85a654e35ec2c5e1f35775676", checked := Try.checked }
namespace Rows
def none {H : Type} : Left H := { results := [], args := [] }

/-- 'tillerlaw11.BlockJoins': WHATEVER THE INPUT: true; the input reads as it did. -/
def blockJoinsSpec : ChangeSpec := { name := "blockJoins", fn := fun _ => fun
  | [d1, d2] => { results := [.lit (.bool true)], args := [d1, d2] }
  | _ => none }
def blockJoinsRow : OpenClaim := { program := "ytmbmebfeoejlnaa", sum := "4f105faa212053062220f769e57ffafb873ed7c85a654e35ec2c5e1f35775676", func := "tiller/tillerlaw11.BlockJoins", spec := "blockJoins", unfollowed := true, recurses := true, apart := false }
def BlockJoinsSaid : Prop := blockJoinsRow.holds Try.pinned (OpenSpec.ofChange blockJoinsSpec)

/-- ITS FALSE NEIGHBOUR: 'it returns false'. Refute it at one input. -/
def blockJoinsWrong : ChangeSpec := { name := "blockJoins", fn := fun _ => fun
  | [d1, d2] => { results := [.lit (.bool false)], args := [d1, d2] }
  | _ => none }
def BlockJoinsWrongFalsely : Prop := blockJoinsRow.holds Try.pinned (OpenSpec.ofChange blockJoinsWrong)

/-- 'tillerlaw08.PassFull': WHATEVER THE INPUT: true; the input reads as it did. -/
def passFullSpec : ChangeSpec := { name := "passFull", fn := fun _ => fun
  | [d1, d2, d3] => { results := [.lit (.bool true)], args := [d1, d2, d3] }
  | _ => none }
def passFullRow : OpenClaim := { program := "ytmbmebfeoejlnaa", sum := "4f105faa212053062220f769e57ffafb873ed7c85a654e35ec2c5e1f35775676", func := "tiller/tillerlaw08.PassFull", spec := "passFull", recurses := true, apart := false }
def PassFullSaid : Prop := passFullRow.holds Try.pinned (OpenSpec.ofChange passFullSpec)

/-- ITS FALSE NEIGHBOUR: 'it returns false'. Refute it at one input. -/
def passFullWrong : ChangeSpec := { name := "passFull", fn := fun _ => fun
  | [d1, d2, d3] => { results := [.lit (.bool false)], args := [d1, d2, d3] }
  | _ => none }
def PassFullWrongFalsely : Prop := passFullRow.holds Try.pinned (OpenSpec.ofChange passFullWrong)

/-- 'tillerlaw08.PassBegins': WHATEVER THE INPUT: true; the input reads as it did. -/
def passBeginsSpec : ChangeSpec := { name := "passBegins", fn := fun _ => fun
  | [d1, d2, d3, d4] => { results := [.lit (.bool true)], args := [d1, d2, d3, d4] }
  | _ => none }
def passBeginsRow : OpenClaim := { program := "ytmbmebfeoejlnaa", sum := "4f105faa212053062220f769e57ffafb873ed7c85a654e35ec2c5e1f35775676", func := "tiller/tillerlaw08.PassBegins", spec := "passBegins", recurses := true, apart := false }
def PassBeginsSaid : Prop := passBeginsRow.holds Try.pinned (OpenSpec.ofChange passBeginsSpec)

/-- ITS FALSE NEIGHBOUR: 'it returns false'. Refute it at one input. -/
def passBeginsWrong : ChangeSpec := { name := "passBegins", fn := fun _ => fun
  | [d1, d2, d3, d4] => { results := [.lit (.bool false)], args := [d1, d2, d3, d4] }
  | _ => none }
def PassBeginsWrongFalsely : Prop := passBeginsRow.holds Try.pinned (OpenSpec.ofChange passBeginsWrong)

/-- 'tillerlaw08.PassKeeps': WHATEVER THE INPUT: true; the input reads as it did. -/
def passKeepsSpec : ChangeSpec := { name := "passKeeps", fn := fun _ => fun
  | [d1, d2, d3] => { results := [.lit (.bool true)], args := [d1, d2, d3] }
  | _ => none }
def passKeepsRow : OpenClaim := { program := "ytmbmebfeoejlnaa", sum := "4f105faa212053062220f769e57ffafb873ed7c85a654e35ec2c5e1f35775676", func := "tiller/tillerlaw08.PassKeeps", spec := "passKeeps", recurses := true, apart := false }
def PassKeepsSaid : Prop := passKeepsRow.holds Try.pinned (OpenSpec.ofChange passKeepsSpec)

/-- ITS FALSE NEIGHBOUR: 'it returns false'. Refute it at one input. -/
def passKeepsWrong : ChangeSpec := { name := "passKeeps", fn := fun _ => fun
  | [d1, d2, d3] => { results := [.lit (.bool false)], args := [d1, d2, d3] }
  | _ => none }
def PassKeepsWrongFalsely : Prop := passKeepsRow.holds Try.pinned (OpenSpec.ofChange passKeepsWrong)

/-- 'tillerlaw08.PassNought': WHATEVER THE INPUT: true; the input reads as it did. -/
def passNoughtSpec : ChangeSpec := { name := "passNought", fn := fun _ => fun
  | [d1, d2, d3] => { results := [.lit (.bool true)], args := [d1, d2, d3] }
  | _ => none }
def passNoughtRow : OpenClaim := { program := "ytmbmebfeoejlnaa", sum := "4f105faa212053062220f769e57ffafb873ed7c85a654e35ec2c5e1f35775676", func := "tiller/tillerlaw08.PassNought", spec := "passNought", recurses := true, apart := false }
def PassNoughtSaid : Prop := passNoughtRow.holds Try.pinned (OpenSpec.ofChange passNoughtSpec)

/-- ITS FALSE NEIGHBOUR: 'it returns false'. Refute it at one input. -/
def passNoughtWrong : ChangeSpec := { name := "passNought", fn := fun _ => fun
  | [d1, d2, d3] => { results := [.lit (.bool false)], args := [d1, d2, d3] }
  | _ => none }
def PassNoughtWrongFalsely : Prop := passNoughtRow.holds Try.pinned (OpenSpec.ofChange passNoughtWrong)

/-- 'tillerlaw08.PassOne': WHATEVER THE INPUT: true; the input reads as it did. -/
def passOneSpec : ChangeSpec := { name := "passOne", fn := fun _ => fun
  | [d1, d2, d3] => { results := [.lit (.bool true)], args := [d1, d2, d3] }
  | _ => none }
def passOneRow : OpenClaim := { program := "ytmbmebfeoejlnaa", sum := "4f105faa212053062220f769e57ffafb873ed7c85a654e35ec2c5e1f35775676", func := "tiller/tillerlaw08.PassOne", spec := "passOne", recurses := true, apart := false }
def PassOneSaid : Prop := passOneRow.holds Try.pinned (OpenSpec.ofChange passOneSpec)

/-- ITS FALSE NEIGHBOUR: 'it returns false'. Refute it at one input. -/
def passOneWrong : ChangeSpec := { name := "passOne", fn := fun _ => fun
  | [d1, d2, d3] => { results := [.lit (.bool false)], args := [d1, d2, d3] }
  | _ => none }
def PassOneWrongFalsely : Prop := passOneRow.holds Try.pinned (OpenSpec.ofChange passOneWrong)

/-- 'tillerlaw09.StepKeeps': WHATEVER THE INPUT: true; the input reads as it did. -/
def stepKeepsSpec : ChangeSpec := { name := "stepKeeps", fn := fun _ => fun
  | [d1, d2, d3, d4, d5] => { results := [.lit (.bool true)], args := [d1, d2, d3, d4, d5] }
  | _ => none }
def stepKeepsRow : OpenClaim := { program := "ytmbmebfeoejlnaa", sum := "4f105faa212053062220f769e57ffafb873ed7c85a654e35ec2c5e1f35775676", func := "tiller/tillerlaw09.StepKeeps", spec := "stepKeeps", apart := false }
def StepKeepsSaid : Prop := stepKeepsRow.holds Try.pinned (OpenSpec.ofChange stepKeepsSpec)

/-- ITS FALSE NEIGHBOUR: 'it returns false'. Refute it at one input. -/
def stepKeepsWrong : ChangeSpec := { name := "stepKeeps", fn := fun _ => fun
  | [d1, d2, d3, d4, d5] => { results := [.lit (.bool false)], args := [d1, d2, d3, d4, d5] }
  | _ => none }
def StepKeepsWrongFalsely : Prop := stepKeepsRow.holds Try.pinned (OpenSpec.ofChange stepKeepsWrong)

/-- 'tillerlaw09.StepLong': WHATEVER THE INPUT: true; the input reads as it did. -/
def stepLongSpec : ChangeSpec := { name := "stepLong", fn := fun _ => fun
  | [d1, d2] => { results := [.lit (.bool true)], args := [d1, d2] }
  | _ => none }
def stepLongRow : OpenClaim := { program := "ytmbmebfeoejlnaa", sum := "4f105faa212053062220f769e57ffafb873ed7c85a654e35ec2c5e1f35775676", func := "tiller/tillerlaw09.StepLong", spec := "stepLong", apart := false }
def StepLongSaid : Prop := stepLongRow.holds Try.pinned (OpenSpec.ofChange stepLongSpec)

/-- ITS FALSE NEIGHBOUR: 'it returns false'. Refute it at one input. -/
def stepLongWrong : ChangeSpec := { name := "stepLong", fn := fun _ => fun
  | [d1, d2] => { results := [.lit (.bool false)], args := [d1, d2] }
  | _ => none }
def StepLongWrongFalsely : Prop := stepLongRow.holds Try.pinned (OpenSpec.ofChange stepLongWrong)

/-- 'tillerlaw09.StepRefuses': WHATEVER THE INPUT: true; the input reads as it did. -/
def stepRefusesSpec : ChangeSpec := { name := "stepRefuses", fn := fun _ => fun
  | [d1, d2, d3, d4, d5] => { results := [.lit (.bool true)], args := [d1, d2, d3, d4, d5] }
  | _ => none }
def stepRefusesRow : OpenClaim := { program := "ytmbmebfeoejlnaa", sum := "4f105faa212053062220f769e57ffafb873ed7c85a654e35ec2c5e1f35775676", func := "tiller/tillerlaw09.StepRefuses", spec := "stepRefuses", apart := false }
def StepRefusesSaid : Prop := stepRefusesRow.holds Try.pinned (OpenSpec.ofChange stepRefusesSpec)

/-- ITS FALSE NEIGHBOUR: 'it returns false'. Refute it at one input. -/
def stepRefusesWrong : ChangeSpec := { name := "stepRefuses", fn := fun _ => fun
  | [d1, d2, d3, d4, d5] => { results := [.lit (.bool false)], args := [d1, d2, d3, d4, d5] }
  | _ => none }
def StepRefusesWrongFalsely : Prop := stepRefusesRow.holds Try.pinned (OpenSpec.ofChange stepRefusesWrong)

/-- 'tillerlaw09.StepCuts': WHATEVER THE INPUT: true; the input reads as it did. -/
def stepCutsSpec : ChangeSpec := { name := "stepCuts", fn := fun _ => fun
  | [d1, d2] => { results := [.lit (.bool true)], args := [d1, d2] }
  | _ => none }
def stepCutsRow : OpenClaim := { program := "ytmbmebfeoejlnaa", sum := "4f105faa212053062220f769e57ffafb873ed7c85a654e35ec2c5e1f35775676", func := "tiller/tillerlaw09.StepCuts", spec := "stepCuts", apart := false }
def StepCutsSaid : Prop := stepCutsRow.holds Try.pinned (OpenSpec.ofChange stepCutsSpec)

/-- ITS FALSE NEIGHBOUR: 'it returns false'. Refute it at one input. -/
def stepCutsWrong : ChangeSpec := { name := "stepCuts", fn := fun _ => fun
  | [d1, d2] => { results := [.lit (.bool false)], args := [d1, d2] }
  | _ => none }
def StepCutsWrongFalsely : Prop := stepCutsRow.holds Try.pinned (OpenSpec.ofChange stepCutsWrong)

/-- 'tillerlaw09.StepFull': WHATEVER THE INPUT: true; the input reads as it did. -/
def stepFullSpec : ChangeSpec := { name := "stepFull", fn := fun _ => fun
  | [d1, d2, d3, d4] => { results := [.lit (.bool true)], args := [d1, d2, d3, d4] }
  | _ => none }
def stepFullRow : OpenClaim := { program := "ytmbmebfeoejlnaa", sum := "4f105faa212053062220f769e57ffafb873ed7c85a654e35ec2c5e1f35775676", func := "tiller/tillerlaw09.StepFull", spec := "stepFull", apart := false }
def StepFullSaid : Prop := stepFullRow.holds Try.pinned (OpenSpec.ofChange stepFullSpec)

/-- ITS FALSE NEIGHBOUR: 'it returns false'. Refute it at one input. -/
def stepFullWrong : ChangeSpec := { name := "stepFull", fn := fun _ => fun
  | [d1, d2, d3, d4] => { results := [.lit (.bool false)], args := [d1, d2, d3, d4] }
  | _ => none }
def StepFullWrongFalsely : Prop := stepFullRow.holds Try.pinned (OpenSpec.ofChange stepFullWrong)

/-- 'tillerlaw10.GreedyAsks': WHATEVER THE INPUT: true; the input reads as it did. -/
def greedyAsksSpec : ChangeSpec := { name := "greedyAsks", fn := fun _ => fun
  | [d1, d2, d3, d4, d5] => { results := [.lit (.bool true)], args := [d1, d2, d3, d4, d5] }
  | _ => none }
def greedyAsksRow : OpenClaim := { program := "ytmbmebfeoejlnaa", sum := "4f105faa212053062220f769e57ffafb873ed7c85a654e35ec2c5e1f35775676", func := "tiller/tillerlaw10.GreedyAsks", spec := "greedyAsks", apart := false }
def GreedyAsksSaid : Prop := greedyAsksRow.holds Try.pinned (OpenSpec.ofChange greedyAsksSpec)

/-- ITS FALSE NEIGHBOUR: 'it returns false'. Refute it at one input. -/
def greedyAsksWrong : ChangeSpec := { name := "greedyAsks", fn := fun _ => fun
  | [d1, d2, d3, d4, d5] => { results := [.lit (.bool false)], args := [d1, d2, d3, d4, d5] }
  | _ => none }
def GreedyAsksWrongFalsely : Prop := greedyAsksRow.holds Try.pinned (OpenSpec.ofChange greedyAsksWrong)

/- THE SECOND FORM. 'bulk': how many values and letters a reading holds, each counted each time it is reached (what is shared counts as often as it is met; a slice's spare places count too). A statement '..UptoSaid' is the law's where the arguments, and the package variables that the reading takes, are together of bulk at most 1048576: NARROWER than '..Said'. Prove '..Said' where nothing that the law and all that it calls make is longer than what came in: it says more and counts as full. Else prove '..UptoSaid'. A law counts once. -/
mutual
def uptoBulk {H : Type} : DataW H → Nat
  | .lit (.string bytes) => bytes.length + 1
  | .lit _ => 1
  | .nil => 1
  | .ptr d => uptoBulk d + 1
  | .slice elems spare => uptoBulkAll elems + uptoBulkAll spare + 1
  | .agg parts => uptoBulkAll parts + 1
  | .iface _ d => uptoBulk d + 1
  | .map entries => uptoBulkEntries entries + 1
  | .held _ => 1
def uptoBulkAll {H : Type} : List (DataW H) → Nat
  | [] => 0
  | d :: r => uptoBulk d + uptoBulkAll r
def uptoBulkEntries {H : Type} : List (Lit × DataW H) → Nat
  | [] => 0
  | x :: r => uptoBulkEntry x + uptoBulkEntries r
def uptoBulkEntry {H : Type} : Lit × DataW H → Nat
  | (.string bytes, d) => bytes.length + uptoBulk d + 1
  | (_, d) => uptoBulk d + 1
 end
def uptoSmall : (H : Type) → List (DataW H) → Bool := fun _ ds => decide (uptoBulkAll ds ≤ 1048576)
def OpenSpec.upto (s : _root_.Go.ChangeSpec) : _root_.Go.OpenSpec := { _root_.Go.OpenSpec.ofChange s with cond := some uptoSmall }

/-- 'tillerlaw11.BlockJoins', WHERE WHAT IT READS IS OF BULK AT MOST 1048576: true; the input reads as it did. -/
def blockJoinsUptoRow : OpenClaim := { program := "ytmbmebfeoejlnaa", sum := "4f105faa212053062220f769e57ffafb873ed7c85a654e35ec2c5e1f35775676", func := "tiller/tillerlaw11.BlockJoins", spec := "blockJoins", unfollowed := true, recurses := true, apart := false, narrowed := true }
def BlockJoinsUptoSaid : Prop := blockJoinsUptoRow.holds Try.pinned (OpenSpec.upto blockJoinsSpec)

/-- 'tillerlaw08.PassFull', WHERE WHAT IT READS IS OF BULK AT MOST 1048576: true; the input reads as it did. -/
def passFullUptoRow : OpenClaim := { program := "ytmbmebfeoejlnaa", sum := "4f105faa212053062220f769e57ffafb873ed7c85a654e35ec2c5e1f35775676", func := "tiller/tillerlaw08.PassFull", spec := "passFull", recurses := true, apart := false, narrowed := true }
def PassFullUptoSaid : Prop := passFullUptoRow.holds Try.pinned (OpenSpec.upto passFullSpec)

/-- 'tillerlaw08.PassBegins', WHERE WHAT IT READS IS OF BULK AT MOST 1048576: true; the input reads as it did. -/
def passBeginsUptoRow : OpenClaim := { program := "ytmbmebfeoejlnaa", sum := "4f105faa212053062220f769e57ffafb873ed7c85a654e35ec2c5e1f35775676", func := "tiller/tillerlaw08.PassBegins", spec := "passBegins", recurses := true, apart := false, narrowed := true }
def PassBeginsUptoSaid : Prop := passBeginsUptoRow.holds Try.pinned (OpenSpec.upto passBeginsSpec)

/-- 'tillerlaw08.PassKeeps', WHERE WHAT IT READS IS OF BULK AT MOST 1048576: true; the input reads as it did. -/
def passKeepsUptoRow : OpenClaim := { program := "ytmbmebfeoejlnaa", sum := "4f105faa212053062220f769e57ffafb873ed7c85a654e35ec2c5e1f35775676", func := "tiller/tillerlaw08.PassKeeps", spec := "passKeeps", recurses := true, apart := false, narrowed := true }
def PassKeepsUptoSaid : Prop := passKeepsUptoRow.holds Try.pinned (OpenSpec.upto passKeepsSpec)

/-- 'tillerlaw08.PassNought', WHERE WHAT IT READS IS OF BULK AT MOST 1048576: true; the input reads as it did. -/
def passNoughtUptoRow : OpenClaim := { program := "ytmbmebfeoejlnaa", sum := "4f105faa212053062220f769e57ffafb873ed7c85a654e35ec2c5e1f35775676", func := "tiller/tillerlaw08.PassNought", spec := "passNought", recurses := true, apart := false, narrowed := true }
def PassNoughtUptoSaid : Prop := passNoughtUptoRow.holds Try.pinned (OpenSpec.upto passNoughtSpec)

/-- 'tillerlaw08.PassOne', WHERE WHAT IT READS IS OF BULK AT MOST 1048576: true; the input reads as it did. -/
def passOneUptoRow : OpenClaim := { program := "ytmbmebfeoejlnaa", sum := "4f105faa212053062220f769e57ffafb873ed7c85a654e35ec2c5e1f35775676", func := "tiller/tillerlaw08.PassOne", spec := "passOne", recurses := true, apart := false, narrowed := true }
def PassOneUptoSaid : Prop := passOneUptoRow.holds Try.pinned (OpenSpec.upto passOneSpec)

/-- 'tillerlaw09.StepKeeps', WHERE WHAT IT READS IS OF BULK AT MOST 1048576: true; the input reads as it did. -/
def stepKeepsUptoRow : OpenClaim := { program := "ytmbmebfeoejlnaa", sum := "4f105faa212053062220f769e57ffafb873ed7c85a654e35ec2c5e1f35775676", func := "tiller/tillerlaw09.StepKeeps", spec := "stepKeeps", apart := false, narrowed := true }
def StepKeepsUptoSaid : Prop := stepKeepsUptoRow.holds Try.pinned (OpenSpec.upto stepKeepsSpec)

/-- 'tillerlaw09.StepLong', WHERE WHAT IT READS IS OF BULK AT MOST 1048576: true; the input reads as it did. -/
def stepLongUptoRow : OpenClaim := { program := "ytmbmebfeoejlnaa", sum := "4f105faa212053062220f769e57ffafb873ed7c85a654e35ec2c5e1f35775676", func := "tiller/tillerlaw09.StepLong", spec := "stepLong", apart := false, narrowed := true }
def StepLongUptoSaid : Prop := stepLongUptoRow.holds Try.pinned (OpenSpec.upto stepLongSpec)

/-- 'tillerlaw09.StepRefuses', WHERE WHAT IT READS IS OF BULK AT MOST 1048576: true; the input reads as it did. -/
def stepRefusesUptoRow : OpenClaim := { program := "ytmbmebfeoejlnaa", sum := "4f105faa212053062220f769e57ffafb873ed7c85a654e35ec2c5e1f35775676", func := "tiller/tillerlaw09.StepRefuses", spec := "stepRefuses", apart := false, narrowed := true }
def StepRefusesUptoSaid : Prop := stepRefusesUptoRow.holds Try.pinned (OpenSpec.upto stepRefusesSpec)

/-- 'tillerlaw09.StepCuts', WHERE WHAT IT READS IS OF BULK AT MOST 1048576: true; the input reads as it did. -/
def stepCutsUptoRow : OpenClaim := { program := "ytmbmebfeoejlnaa", sum := "4f105faa212053062220f769e57ffafb873ed7c85a654e35ec2c5e1f35775676", func := "tiller/tillerlaw09.StepCuts", spec := "stepCuts", apart := false, narrowed := true }
def StepCutsUptoSaid : Prop := stepCutsUptoRow.holds Try.pinned (OpenSpec.upto stepCutsSpec)

/-- 'tillerlaw09.StepFull', WHERE WHAT IT READS IS OF BULK AT MOST 1048576: true; the input reads as it did. -/
def stepFullUptoRow : OpenClaim := { program := "ytmbmebfeoejlnaa", sum := "4f105faa212053062220f769e57ffafb873ed7c85a654e35ec2c5e1f35775676", func := "tiller/tillerlaw09.StepFull", spec := "stepFull", apart := false, narrowed := true }
def StepFullUptoSaid : Prop := stepFullUptoRow.holds Try.pinned (OpenSpec.upto stepFullSpec)

/-- 'tillerlaw10.GreedyAsks', WHERE WHAT IT READS IS OF BULK AT MOST 1048576: true; the input reads as it did. -/
def greedyAsksUptoRow : OpenClaim := { program := "ytmbmebfeoejlnaa", sum := "4f105faa212053062220f769e57ffafb873ed7c85a654e35ec2c5e1f35775676", func := "tiller/tillerlaw10.GreedyAsks", spec := "greedyAsks", apart := false, narrowed := true }
def GreedyAsksUptoSaid : Prop := greedyAsksUptoRow.holds Try.pinned (OpenSpec.upto greedyAsksSpec)

end Rows
end Go.Proofs.Ytmbmebfeoejlnaa
