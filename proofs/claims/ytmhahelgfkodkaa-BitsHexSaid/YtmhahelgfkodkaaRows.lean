/-
  No cell of these rows narrows 'for every input' (looked for: loops, veiled, ifaces, maps, wideKeys, modest, calm, conditions, laid).
  DERIVED. THE GIVEN ROWS OF THIS SEAT. 6 by the template 'for every input the law returns true; each argument reads behind the call as it read before'; 0 by the template 'total and deterministic' (their statements: YtmhahelgfkodkaaTotals.lean).
  GIVEN WITH THE SEED: the statements are not yours to turn. If you find one false, say at which input.
  Laid BY PROGRAM, IN A SANDBOX (cutbox-rows.mjs): the forced cells as the released guide's own fill.sh prints them over the translation 43297dbad87f1eb8… (all of the seat's roots in one cut). By AI agents, Wed Nov 11 2026. No macro, syntax, notation, axiom, sorry.
-/
import Derived.Test.YtmhahelgfkodkaaChecked
import GoSem.Claim
import GoSem.ClaimJoined
import GoSem.ClaimMapViews
import Derived.JoinedTies
import Derived.KernelRfl
namespace Go.Proofs.Ytmhahelgfkodkaa
/- THE CELL 'sum', in the pinned program and in every row, IS THE sha256 OF THE DUMP (.gsa) THAT YtmhahelgfkodkaaProg.lean LOADS. Nothing in Lean hashes anything: it is a label: what it is worth is what the hold of that sum in a sandbox is worth. -/
noncomputable def Try.pinned : Pinned := { name := "ytmhahelgfkodkaa", sum := "43297dbad87f1eb80f9a672fc0f25600c6720da164db9e07feebb6b0e68f3c9d", checked := Try.checked }
namespace Rows
def none {H : Type} : Left H := { results := [], args := [] }

/-- 'sigillumlaw01.BitsTurn': WHATEVER THE INPUT: true; the input reads as it did. -/
def bitsTurnSpec : ChangeSpec := { name := "bitsTurn", fn := fun _ => fun
  | [d1, d2, d3] => { results := [.lit (.bool true)], args := [d1, d2, d3] }
  | _ => none }
def bitsTurnRow : OpenClaim := { program := "ytmhahelgfkodkaa", sum := "43297dbad87f1eb80f9a672fc0f25600c6720da164db9e07feebb6b0e68f3c9d", func := "sigillum/sigillumlaw01.BitsTurn", spec := "bitsTurn", apart := false }
def BitsTurnSaid : Prop := bitsTurnRow.holds Try.pinned (OpenSpec.ofChange bitsTurnSpec)

/-- ITS FALSE NEIGHBOUR: 'it returns false'. Refute it at one input. -/
def bitsTurnWrong : ChangeSpec := { name := "bitsTurn", fn := fun _ => fun
  | [d1, d2, d3] => { results := [.lit (.bool false)], args := [d1, d2, d3] }
  | _ => none }
def BitsTurnWrongFalsely : Prop := bitsTurnRow.holds Try.pinned (OpenSpec.ofChange bitsTurnWrong)

/-- 'sigillumlaw01.BitsMix': WHATEVER THE INPUT: true; the input reads as it did. -/
def bitsMixSpec : ChangeSpec := { name := "bitsMix", fn := fun _ => fun
  | [d1, d2] => { results := [.lit (.bool true)], args := [d1, d2] }
  | _ => none }
def bitsMixRow : OpenClaim := { program := "ytmhahelgfkodkaa", sum := "43297dbad87f1eb80f9a672fc0f25600c6720da164db9e07feebb6b0e68f3c9d", func := "sigillum/sigillumlaw01.BitsMix", spec := "bitsMix", apart := false }
def BitsMixSaid : Prop := bitsMixRow.holds Try.pinned (OpenSpec.ofChange bitsMixSpec)

/-- ITS FALSE NEIGHBOUR: 'it returns false'. Refute it at one input. -/
def bitsMixWrong : ChangeSpec := { name := "bitsMix", fn := fun _ => fun
  | [d1, d2] => { results := [.lit (.bool false)], args := [d1, d2] }
  | _ => none }
def BitsMixWrongFalsely : Prop := bitsMixRow.holds Try.pinned (OpenSpec.ofChange bitsMixWrong)

/-- 'sigillumlaw01.BitsHex': WHATEVER THE INPUT: true; the input reads as it did. -/
def bitsHexSpec : ChangeSpec := { name := "bitsHex", fn := fun _ => fun
  | [d1, d2] => { results := [.lit (.bool true)], args := [d1, d2] }
  | _ => none }
def bitsHexRow : OpenClaim := { program := "ytmhahelgfkodkaa", sum := "43297dbad87f1eb80f9a672fc0f25600c6720da164db9e07feebb6b0e68f3c9d", func := "sigillum/sigillumlaw01.BitsHex", spec := "bitsHex", apart := false }
def BitsHexSaid : Prop := bitsHexRow.holds Try.pinned (OpenSpec.ofChange bitsHexSpec)

/-- ITS FALSE NEIGHBOUR: 'it returns false'. Refute it at one input. -/
def bitsHexWrong : ChangeSpec := { name := "bitsHex", fn := fun _ => fun
  | [d1, d2] => { results := [.lit (.bool false)], args := [d1, d2] }
  | _ => none }
def BitsHexWrongFalsely : Prop := bitsHexRow.holds Try.pinned (OpenSpec.ofChange bitsHexWrong)

/-- 'sigillumlaw01.BitsRound': WHATEVER THE INPUT: true; the input reads as it did. -/
def bitsRoundSpec : ChangeSpec := { name := "bitsRound", fn := fun _ => fun
  | [d1, d2, d3] => { results := [.lit (.bool true)], args := [d1, d2, d3] }
  | _ => none }
def bitsRoundRow : OpenClaim := { program := "ytmhahelgfkodkaa", sum := "43297dbad87f1eb80f9a672fc0f25600c6720da164db9e07feebb6b0e68f3c9d", func := "sigillum/sigillumlaw01.BitsRound", spec := "bitsRound", apart := false }
def BitsRoundSaid : Prop := bitsRoundRow.holds Try.pinned (OpenSpec.ofChange bitsRoundSpec)

/-- ITS FALSE NEIGHBOUR: 'it returns false'. Refute it at one input. -/
def bitsRoundWrong : ChangeSpec := { name := "bitsRound", fn := fun _ => fun
  | [d1, d2, d3] => { results := [.lit (.bool false)], args := [d1, d2, d3] }
  | _ => none }
def BitsRoundWrongFalsely : Prop := bitsRoundRow.holds Try.pinned (OpenSpec.ofChange bitsRoundWrong)

/-- 'sigillumlaw01.BitsOne': WHATEVER THE INPUT: true; the input reads as it did. -/
def bitsOneSpec : ChangeSpec := { name := "bitsOne", fn := fun _ => fun
  | [d1, d2, d3] => { results := [.lit (.bool true)], args := [d1, d2, d3] }
  | _ => none }
def bitsOneRow : OpenClaim := { program := "ytmhahelgfkodkaa", sum := "43297dbad87f1eb80f9a672fc0f25600c6720da164db9e07feebb6b0e68f3c9d", func := "sigillum/sigillumlaw01.BitsOne", spec := "bitsOne", apart := false }
def BitsOneSaid : Prop := bitsOneRow.holds Try.pinned (OpenSpec.ofChange bitsOneSpec)

/-- ITS FALSE NEIGHBOUR: 'it returns false'. Refute it at one input. -/
def bitsOneWrong : ChangeSpec := { name := "bitsOne", fn := fun _ => fun
  | [d1, d2, d3] => { results := [.lit (.bool false)], args := [d1, d2, d3] }
  | _ => none }
def BitsOneWrongFalsely : Prop := bitsOneRow.holds Try.pinned (OpenSpec.ofChange bitsOneWrong)

/-- 'sigillumlaw01.BitsTwice': WHATEVER THE INPUT: true; the input reads as it did. -/
def bitsTwiceSpec : ChangeSpec := { name := "bitsTwice", fn := fun _ => fun
  | [d1, d2, d3, d4] => { results := [.lit (.bool true)], args := [d1, d2, d3, d4] }
  | _ => none }
def bitsTwiceRow : OpenClaim := { program := "ytmhahelgfkodkaa", sum := "43297dbad87f1eb80f9a672fc0f25600c6720da164db9e07feebb6b0e68f3c9d", func := "sigillum/sigillumlaw01.BitsTwice", spec := "bitsTwice", apart := false }
def BitsTwiceSaid : Prop := bitsTwiceRow.holds Try.pinned (OpenSpec.ofChange bitsTwiceSpec)

/-- ITS FALSE NEIGHBOUR: 'it returns false'. Refute it at one input. -/
def bitsTwiceWrong : ChangeSpec := { name := "bitsTwice", fn := fun _ => fun
  | [d1, d2, d3, d4] => { results := [.lit (.bool false)], args := [d1, d2, d3, d4] }
  | _ => none }
def BitsTwiceWrongFalsely : Prop := bitsTwiceRow.holds Try.pinned (OpenSpec.ofChange bitsTwiceWrong)

/- THE SECOND FORM. 'bulk': how many values and letters a reading holds, each counted each time it is reached (what is shared counts as often as it is met; a slice's spare places count too). A statement '..UptoSaid' is the law's where the arguments, and the package variables that the reading takes, are together of bulk at most 1048576: NARROWER than '..Said'. Prove '..Said' where nothing that the law and all that it calls make is longer than what came in: it says more and counts as full. Else prove '..UptoSaid'. A law counts once. -/
mutual
def uptoBulk {H : Type} : DataW H → Nat
  | .lit (.string bytes) => bytes.length + 1
  | .lit _ => 1
  | .nil => 1
  | .ptr d => uptoBulk d + 1
  | .slice elems spare => uptoBulkAll elems + uptoBulkAll spare + 1
  | .agg parts => uptoBulkAll parts + 1
  | .iface _ d => uptoBulk d + 1
  | .map entries => uptoBulkEntries entries + 1
  | .held _ => 1
def uptoBulkAll {H : Type} : List (DataW H) → Nat
  | [] => 0
  | d :: r => uptoBulk d + uptoBulkAll r
def uptoBulkEntries {H : Type} : List (Lit × DataW H) → Nat
  | [] => 0
  | x :: r => uptoBulkEntry x + uptoBulkEntries r
def uptoBulkEntry {H : Type} : Lit × DataW H → Nat
  | (.string bytes, d) => bytes.length + uptoBulk d + 1
  | (_, d) => uptoBulk d + 1
 end
def uptoSmall : (H : Type) → List (DataW H) → Bool := fun _ ds => decide (uptoBulkAll ds ≤ 1048576)
def OpenSpec.upto (s : _root_.Go.ChangeSpec) : _root_.Go.OpenSpec := { _root_.Go.OpenSpec.ofChange s with cond := some uptoSmall }

/-- 'sigillumlaw01.BitsTurn', WHERE WHAT IT READS IS OF BULK AT MOST 1048576: true; the input reads as it did. -/
def bitsTurnUptoRow : OpenClaim := { program := "ytmhahelgfkodkaa", sum := "43297dbad87f1eb80f9a672fc0f25600c6720da164db9e07feebb6b0e68f3c9d", func := "sigillum/sigillumlaw01.BitsTurn", spec := "bitsTurn", apart := false, narrowed := true }
def BitsTurnUptoSaid : Prop := bitsTurnUptoRow.holds Try.pinned (OpenSpec.upto bitsTurnSpec)

/-- 'sigillumlaw01.BitsMix', WHERE WHAT IT READS IS OF BULK AT MOST 1048576: true; the input reads as it did. -/
def bitsMixUptoRow : OpenClaim := { program := "ytmhahelgfkodkaa", sum := "43297dbad87f1eb80f9a672fc0f25600c6720da164db9e07feebb6b0e68f3c9d", func := "sigillum/sigillumlaw01.BitsMix", spec := "bitsMix", apart := false, narrowed := true }
def BitsMixUptoSaid : Prop := bitsMixUptoRow.holds Try.pinned (OpenSpec.upto bitsMixSpec)

/-- 'sigillumlaw01.BitsHex', WHERE WHAT IT READS IS OF BULK AT MOST 1048576: true; the input reads as it did. -/
def bitsHexUptoRow : OpenClaim := { program := "ytmhahelgfkodkaa", sum := "43297dbad87f1eb80f9a672fc0f25600c6720da164db9e07feebb6b0e68f3c9d", func := "sigillum/sigillumlaw01.BitsHex", spec := "bitsHex", apart := false, narrowed := true }
def BitsHexUptoSaid : Prop := bitsHexUptoRow.holds Try.pinned (OpenSpec.upto bitsHexSpec)

/-- 'sigillumlaw01.BitsRound', WHERE WHAT IT READS IS OF BULK AT MOST 1048576: true; the input reads as it did. -/
def bitsRoundUptoRow : OpenClaim := { program := "ytmhahelgfkodkaa", sum := "43297dbad87f1eb80f9a672fc0f25600c6720da164db9e07feebb6b0e68f3c9d", func := "sigillum/sigillumlaw01.BitsRound", spec := "bitsRound", apart := false, narrowed := true }
def BitsRoundUptoSaid : Prop := bitsRoundUptoRow.holds Try.pinned (OpenSpec.upto bitsRoundSpec)

/-- 'sigillumlaw01.BitsOne', WHERE WHAT IT READS IS OF BULK AT MOST 1048576: true; the input reads as it did. -/
def bitsOneUptoRow : OpenClaim := { program := "ytmhahelgfkodkaa", sum := "43297dbad87f1eb80f9a672fc0f25600c6720da164db9e07feebb6b0e68f3c9d", func := "sigillum/sigillumlaw01.BitsOne", spec := "bitsOne", apart := false, narrowed := true }
def BitsOneUptoSaid : Prop := bitsOneUptoRow.holds Try.pinned (OpenSpec.upto bitsOneSpec)

/-- 'sigillumlaw01.BitsTwice', WHERE WHAT IT READS IS OF BULK AT MOST 1048576: true; the input reads as it did. -/
def bitsTwiceUptoRow : OpenClaim := { program := "ytmhahelgfkodkaa", sum := "43297dbad87f1eb80f9a672fc0f25600c6720da164db9e07feebb6b0e68f3c9d", func := "sigillum/sigillumlaw01.BitsTwice", spec := "bitsTwice", apart := false, narrowed := true }
def BitsTwiceUptoSaid : Prop := bitsTwiceUptoRow.holds Try.pinned (OpenSpec.upto bitsTwiceSpec)

end Rows
end Go.Proofs.Ytmhahelgfkodkaa
