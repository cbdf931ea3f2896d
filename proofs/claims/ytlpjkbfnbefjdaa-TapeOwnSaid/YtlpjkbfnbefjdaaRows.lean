/-
  No cell of these rows narrows 'for every input' (looked for: loops, veiled, ifaces, maps, wideKeys, modest, calm, conditions, laid).
  DERIVED. THE GIVEN ROWS OF THIS SEAT. 4 by the template 'for every input the law returns true; each argument reads behind the call as it read before'; 0 by the template 'total and deterministic' (their statements: YtlpjkbfnbefjdaaTotals.lean).
  GIVEN WITH THE SEED: the statements are not yours to turn. If you find one false, say at which input.
  Laid BY PROGRAM, IN A SANDBOX (cutbox-rows.mjs): the forced cells as the released guide's own fill.sh prints them over the translation fbcd6df9efc8511c… (all of the seat's roots in one cut). By AI agents, Wed Nov 11 2026. No macro, syntax, notation, axiom, sorry.
-/
import Derived.Test.YtlpjkbfnbefjdaaChecked
import GoSem.Claim
import GoSem.ClaimJoined
import GoSem.ClaimMapViews
import Derived.JoinedTies
import Derived.KernelRfl
namespace Go.Proofs.Ytlpjkbfnbefjdaa
/- THE CELL 'sum', in the pinned program and in every row, IS THE sha256 OF THE DUMP (.gsa) THAT YtlpjkbfnbefjdaaProg.lean LOADS. Nothing in Lean hashes anything: it is a label: what it is worth is what the hold of that sum in a sandbox is worth. -/
noncomputable def Try.pinned : Pinned := { name := "ytlpjkbfnbefjdaa", sum := "fbcd6df9efc8511ca022aeb6a9db36efed03a213a16c2089cae330d218d4b52d", checked := Try.checked }
namespace Rows
def none {H : Type} : Left H := { results := [], args := [] }

/-- 'sigillumlaw05.TapeApart': WHATEVER THE INPUT: true; the input reads as it did. -/
def tapeApartSpec : ChangeSpec := { name := "tapeApart", fn := fun _ => fun
  | [d1, d2] => { results := [.lit (.bool true)], args := [d1, d2] }
  | _ => none }
def tapeApartRow : OpenClaim := { program := "ytlpjkbfnbefjdaa", sum := "fbcd6df9efc8511ca022aeb6a9db36efed03a213a16c2089cae330d218d4b52d", func := "sigillum/sigillumlaw05.TapeApart", spec := "tapeApart", inPlace := ["internal/reflectlite.TypeOf"], unfollowed := true, recurses := true, apart := false }
def TapeApartSaid : Prop := tapeApartRow.holds Try.pinned (OpenSpec.ofChange tapeApartSpec)

/-- ITS FALSE NEIGHBOUR: 'it returns false'. Refute it at one input. -/
def tapeApartWrong : ChangeSpec := { name := "tapeApart", fn := fun _ => fun
  | [d1, d2] => { results := [.lit (.bool false)], args := [d1, d2] }
  | _ => none }
def TapeApartWrongFalsely : Prop := tapeApartRow.holds Try.pinned (OpenSpec.ofChange tapeApartWrong)

/-- 'sigillumlaw05.TapeOwn': WHATEVER THE INPUT: true; the input reads as it did. -/
def tapeOwnSpec : ChangeSpec := { name := "tapeOwn", fn := fun _ => fun
  | [d] => { results := [.lit (.bool true)], args := [d] }
  | _ => none }
def tapeOwnRow : OpenClaim := { program := "ytlpjkbfnbefjdaa", sum := "fbcd6df9efc8511ca022aeb6a9db36efed03a213a16c2089cae330d218d4b52d", func := "sigillum/sigillumlaw05.TapeOwn", spec := "tapeOwn", inPlace := ["internal/reflectlite.TypeOf"], unfollowed := true, recurses := true, apart := false }
def TapeOwnSaid : Prop := tapeOwnRow.holds Try.pinned (OpenSpec.ofChange tapeOwnSpec)

/-- ITS FALSE NEIGHBOUR: 'it returns false'. Refute it at one input. -/
def tapeOwnWrong : ChangeSpec := { name := "tapeOwn", fn := fun _ => fun
  | [d] => { results := [.lit (.bool false)], args := [d] }
  | _ => none }
def TapeOwnWrongFalsely : Prop := tapeOwnRow.holds Try.pinned (OpenSpec.ofChange tapeOwnWrong)

/-- 'sigillumlaw05.TapeDraws': WHATEVER THE INPUT: true; the input reads as it did. -/
def tapeDrawsSpec : ChangeSpec := { name := "tapeDraws", fn := fun _ => fun
  | [d1, d2] => { results := [.lit (.bool true)], args := [d1, d2] }
  | _ => none }
def tapeDrawsRow : OpenClaim := { program := "ytlpjkbfnbefjdaa", sum := "fbcd6df9efc8511ca022aeb6a9db36efed03a213a16c2089cae330d218d4b52d", func := "sigillum/sigillumlaw05.TapeDraws", spec := "tapeDraws", inPlace := ["internal/reflectlite.TypeOf"], unfollowed := true, recurses := true, apart := false }
def TapeDrawsSaid : Prop := tapeDrawsRow.holds Try.pinned (OpenSpec.ofChange tapeDrawsSpec)

/-- ITS FALSE NEIGHBOUR: 'it returns false'. Refute it at one input. -/
def tapeDrawsWrong : ChangeSpec := { name := "tapeDraws", fn := fun _ => fun
  | [d1, d2] => { results := [.lit (.bool false)], args := [d1, d2] }
  | _ => none }
def TapeDrawsWrongFalsely : Prop := tapeDrawsRow.holds Try.pinned (OpenSpec.ofChange tapeDrawsWrong)

/-- 'sigillumlaw05.TapeCount': WHATEVER THE INPUT: true; the input reads as it did. -/
def tapeCountSpec : ChangeSpec := { name := "tapeCount", fn := fun _ => fun
  | [d1, d2] => { results := [.lit (.bool true)], args := [d1, d2] }
  | _ => none }
def tapeCountRow : OpenClaim := { program := "ytlpjkbfnbefjdaa", sum := "fbcd6df9efc8511ca022aeb6a9db36efed03a213a16c2089cae330d218d4b52d", func := "sigillum/sigillumlaw05.TapeCount", spec := "tapeCount", inPlace := ["internal/reflectlite.TypeOf"], unfollowed := true, recurses := true, apart := false }
def TapeCountSaid : Prop := tapeCountRow.holds Try.pinned (OpenSpec.ofChange tapeCountSpec)

/-- ITS FALSE NEIGHBOUR: 'it returns false'. Refute it at one input. -/
def tapeCountWrong : ChangeSpec := { name := "tapeCount", fn := fun _ => fun
  | [d1, d2] => { results := [.lit (.bool false)], args := [d1, d2] }
  | _ => none }
def TapeCountWrongFalsely : Prop := tapeCountRow.holds Try.pinned (OpenSpec.ofChange tapeCountWrong)

/- THE SECOND FORM. 'bulk': how many values and letters a reading holds, each counted each time it is reached (what is shared counts as often as it is met; a slice's spare places count too). A statement '..UptoSaid' is the law's where the arguments, and the package variables that the reading takes, are together of bulk at most 1048576: NARROWER than '..Said'. Prove '..Said' where nothing that the law and all that it calls make is longer than what came in: it says more and counts as full. Else prove '..UptoSaid'. A law counts once. -/
mutual
def uptoBulk {H : Type} : DataW H → Nat
  | .lit (.string bytes) => bytes.length + 1
  | .lit _ => 1
  | .nil => 1
  | .ptr d => uptoBulk d + 1
  | .slice elems spare => uptoBulkAll elems + uptoBulkAll spare + 1
  | .agg parts => uptoBulkAll parts + 1
  | .iface _ d => uptoBulk d + 1
  | .map entries => uptoBulkEntries entries + 1
  | .held _ => 1
def uptoBulkAll {H : Type} : List (DataW H) → Nat
  | [] => 0
  | d :: r => uptoBulk d + uptoBulkAll r
def uptoBulkEntries {H : Type} : List (Lit × DataW H) → Nat
  | [] => 0
  | x :: r => uptoBulkEntry x + uptoBulkEntries r
def uptoBulkEntry {H : Type} : Lit × DataW H → Nat
  | (.string bytes, d) => bytes.length + uptoBulk d + 1
  | (_, d) => uptoBulk d + 1
 end
def uptoSmall : (H : Type) → List (DataW H) → Bool := fun _ ds => decide (uptoBulkAll ds ≤ 1048576)
def OpenSpec.upto (s : _root_.Go.ChangeSpec) : _root_.Go.OpenSpec := { _root_.Go.OpenSpec.ofChange s with cond := some uptoSmall }

/-- 'sigillumlaw05.TapeApart', WHERE WHAT IT READS IS OF BULK AT MOST 1048576: true; the input reads as it did. -/
def tapeApartUptoRow : OpenClaim := { program := "ytlpjkbfnbefjdaa", sum := "fbcd6df9efc8511ca022aeb6a9db36efed03a213a16c2089cae330d218d4b52d", func := "sigillum/sigillumlaw05.TapeApart", spec := "tapeApart", inPlace := ["internal/reflectlite.TypeOf"], unfollowed := true, recurses := true, apart := false, narrowed := true }
def TapeApartUptoSaid : Prop := tapeApartUptoRow.holds Try.pinned (OpenSpec.upto tapeApartSpec)

/-- 'sigillumlaw05.TapeOwn', WHERE WHAT IT READS IS OF BULK AT MOST 1048576: true; the input reads as it did. -/
def tapeOwnUptoRow : OpenClaim := { program := "ytlpjkbfnbefjdaa", sum := "fbcd6df9efc8511ca022aeb6a9db36efed03a213a16c2089cae330d218d4b52d", func := "sigillum/sigillumlaw05.TapeOwn", spec := "tapeOwn", inPlace := ["internal/reflectlite.TypeOf"], unfollowed := true, recurses := true, apart := false, narrowed := true }
def TapeOwnUptoSaid : Prop := tapeOwnUptoRow.holds Try.pinned (OpenSpec.upto tapeOwnSpec)

/-- 'sigillumlaw05.TapeDraws', WHERE WHAT IT READS IS OF BULK AT MOST 1048576: true; the input reads as it did. -/
def tapeDrawsUptoRow : OpenClaim := { program := "ytlpjkbfnbefjdaa", sum := "fbcd6df9efc8511ca022aeb6a9db36efed03a213a16c2089cae330d218d4b52d", func := "sigillum/sigillumlaw05.TapeDraws", spec := "tapeDraws", inPlace := ["internal/reflectlite.TypeOf"], unfollowed := true, recurses := true, apart := false, narrowed := true }
def TapeDrawsUptoSaid : Prop := tapeDrawsUptoRow.holds Try.pinned (OpenSpec.upto tapeDrawsSpec)

/-- 'sigillumlaw05.TapeCount', WHERE WHAT IT READS IS OF BULK AT MOST 1048576: true; the input reads as it did. -/
def tapeCountUptoRow : OpenClaim := { program := "ytlpjkbfnbefjdaa", sum := "fbcd6df9efc8511ca022aeb6a9db36efed03a213a16c2089cae330d218d4b52d", func := "sigillum/sigillumlaw05.TapeCount", spec := "tapeCount", inPlace := ["internal/reflectlite.TypeOf"], unfollowed := true, recurses := true, apart := false, narrowed := true }
def TapeCountUptoSaid : Prop := tapeCountUptoRow.holds Try.pinned (OpenSpec.upto tapeCountSpec)

end Rows
end Go.Proofs.Ytlpjkbfnbefjdaa
