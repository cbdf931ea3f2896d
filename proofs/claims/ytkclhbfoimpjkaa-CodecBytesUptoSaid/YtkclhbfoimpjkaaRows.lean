/-
  No cell of these rows narrows 'for every input' (looked for: loops, veiled, ifaces, maps, wideKeys, modest, calm, conditions, laid).
  DERIVED. THE GIVEN ROWS OF THIS SEAT. 6 by the template 'for every input the law returns true; each argument reads behind the call as it read before'; 0 by the template 'total and deterministic' (their statements: YtkclhbfoimpjkaaTotals.lean).
  GIVEN WITH THE SEED: the statements are not yours to turn. If you find one false, say at which input.
  Laid BY PROGRAM, IN A SANDBOX (cutbox-rows.mjs): the forced cells as the released guide's own fill.sh prints them over the translation 965e2b368f6b541e… (all of the seat's roots in one cut). By AI agents, Wed Nov 11 2026. No macro, syntax, notation, axiom, sorry.
-/
import Derived.Test.YtkclhbfoimpjkaaChecked
import GoSem.Claim
import GoSem.ClaimJoined
import GoSem.ClaimMapViews
import Derived.JoinedTies
import Derived.KernelRfl
namespace Go.Proofs.Ytkclhbfoimpjkaa
/- THE CELL 'sum', in the pinned program and in every row, IS THE sha256 OF THE DUMP (.gsa) THAT YtkclhbfoimpjkaaProg.lean LOADS. Nothing in Lean hashes anything: it is a label: what it is worth is what the hold of that sum in a sandbox is worth. -/
noncomputable def Try.pinned : Pinned := { name := "ytkclhbfoimpjkaa", sum := "965e2b368f6b541e48d8fd09a3c07246168f6316e87c7096b7e18a1a46ec1922", checked := Try.checked }
namespace Rows
def none {H : Type} : Left H := { results := [], args := [] }

/-- 'sigillumlaw02.CodecPut': WHATEVER THE INPUT: true; the input reads as it did. -/
def codecPutSpec : ChangeSpec := { name := "codecPut", fn := fun _ => fun
  | [d1, d2, d3] => { results := [.lit (.bool true)], args := [d1, d2, d3] }
  | _ => none }
def codecPutRow : OpenClaim := { program := "ytkclhbfoimpjkaa", sum := "965e2b368f6b541e48d8fd09a3c07246168f6316e87c7096b7e18a1a46ec1922", func := "sigillum/sigillumlaw02.CodecPut", spec := "codecPut", apart := false }
def CodecPutSaid : Prop := codecPutRow.holds Try.pinned (OpenSpec.ofChange codecPutSpec)

/-- ITS FALSE NEIGHBOUR: 'it returns false'. Refute it at one input. -/
def codecPutWrong : ChangeSpec := { name := "codecPut", fn := fun _ => fun
  | [d1, d2, d3] => { results := [.lit (.bool false)], args := [d1, d2, d3] }
  | _ => none }
def CodecPutWrongFalsely : Prop := codecPutRow.holds Try.pinned (OpenSpec.ofChange codecPutWrong)

/-- 'sigillumlaw02.CodecGet': WHATEVER THE INPUT: true; the input reads as it did. -/
def codecGetSpec : ChangeSpec := { name := "codecGet", fn := fun _ => fun
  | [d1, d2, d3] => { results := [.lit (.bool true)], args := [d1, d2, d3] }
  | _ => none }
def codecGetRow : OpenClaim := { program := "ytkclhbfoimpjkaa", sum := "965e2b368f6b541e48d8fd09a3c07246168f6316e87c7096b7e18a1a46ec1922", func := "sigillum/sigillumlaw02.CodecGet", spec := "codecGet", apart := false }
def CodecGetSaid : Prop := codecGetRow.holds Try.pinned (OpenSpec.ofChange codecGetSpec)

/-- ITS FALSE NEIGHBOUR: 'it returns false'. Refute it at one input. -/
def codecGetWrong : ChangeSpec := { name := "codecGet", fn := fun _ => fun
  | [d1, d2, d3] => { results := [.lit (.bool false)], args := [d1, d2, d3] }
  | _ => none }
def CodecGetWrongFalsely : Prop := codecGetRow.holds Try.pinned (OpenSpec.ofChange codecGetWrong)

/-- 'sigillumlaw02.CodecBytes': WHATEVER THE INPUT: true; the input reads as it did. -/
def codecBytesSpec : ChangeSpec := { name := "codecBytes", fn := fun _ => fun
  | [d1, d2, d3, d4] => { results := [.lit (.bool true)], args := [d1, d2, d3, d4] }
  | _ => none }
def codecBytesRow : OpenClaim := { program := "ytkclhbfoimpjkaa", sum := "965e2b368f6b541e48d8fd09a3c07246168f6316e87c7096b7e18a1a46ec1922", func := "sigillum/sigillumlaw02.CodecBytes", spec := "codecBytes", apart := false }
def CodecBytesSaid : Prop := codecBytesRow.holds Try.pinned (OpenSpec.ofChange codecBytesSpec)

/-- ITS FALSE NEIGHBOUR: 'it returns false'. Refute it at one input. -/
def codecBytesWrong : ChangeSpec := { name := "codecBytes", fn := fun _ => fun
  | [d1, d2, d3, d4] => { results := [.lit (.bool false)], args := [d1, d2, d3, d4] }
  | _ => none }
def CodecBytesWrongFalsely : Prop := codecBytesRow.holds Try.pinned (OpenSpec.ofChange codecBytesWrong)

/-- 'sigillumlaw02.CodecSkip': WHATEVER THE INPUT: true; the input reads as it did. -/
def codecSkipSpec : ChangeSpec := { name := "codecSkip", fn := fun _ => fun
  | [d1, d2, d3] => { results := [.lit (.bool true)], args := [d1, d2, d3] }
  | _ => none }
def codecSkipRow : OpenClaim := { program := "ytkclhbfoimpjkaa", sum := "965e2b368f6b541e48d8fd09a3c07246168f6316e87c7096b7e18a1a46ec1922", func := "sigillum/sigillumlaw02.CodecSkip", spec := "codecSkip", apart := false }
def CodecSkipSaid : Prop := codecSkipRow.holds Try.pinned (OpenSpec.ofChange codecSkipSpec)

/-- ITS FALSE NEIGHBOUR: 'it returns false'. Refute it at one input. -/
def codecSkipWrong : ChangeSpec := { name := "codecSkip", fn := fun _ => fun
  | [d1, d2, d3] => { results := [.lit (.bool false)], args := [d1, d2, d3] }
  | _ => none }
def CodecSkipWrongFalsely : Prop := codecSkipRow.holds Try.pinned (OpenSpec.ofChange codecSkipWrong)

/-- 'sigillumlaw02.CodecRow': WHATEVER THE INPUT: true; the input reads as it did. -/
def codecRowSpec : ChangeSpec := { name := "codecRow", fn := fun _ => fun
  | [d1, d2] => { results := [.lit (.bool true)], args := [d1, d2] }
  | _ => none }
def codecRowRow : OpenClaim := { program := "ytkclhbfoimpjkaa", sum := "965e2b368f6b541e48d8fd09a3c07246168f6316e87c7096b7e18a1a46ec1922", func := "sigillum/sigillumlaw02.CodecRow", spec := "codecRow", apart := false }
def CodecRowSaid : Prop := codecRowRow.holds Try.pinned (OpenSpec.ofChange codecRowSpec)

/-- ITS FALSE NEIGHBOUR: 'it returns false'. Refute it at one input. -/
def codecRowWrong : ChangeSpec := { name := "codecRow", fn := fun _ => fun
  | [d1, d2] => { results := [.lit (.bool false)], args := [d1, d2] }
  | _ => none }
def CodecRowWrongFalsely : Prop := codecRowRow.holds Try.pinned (OpenSpec.ofChange codecRowWrong)

/-- 'sigillumlaw02.CodecTwo': WHATEVER THE INPUT: true; the input reads as it did. -/
def codecTwoSpec : ChangeSpec := { name := "codecTwo", fn := fun _ => fun
  | [d1, d2, d3] => { results := [.lit (.bool true)], args := [d1, d2, d3] }
  | _ => none }
def codecTwoRow : OpenClaim := { program := "ytkclhbfoimpjkaa", sum := "965e2b368f6b541e48d8fd09a3c07246168f6316e87c7096b7e18a1a46ec1922", func := "sigillum/sigillumlaw02.CodecTwo", spec := "codecTwo", apart := false }
def CodecTwoSaid : Prop := codecTwoRow.holds Try.pinned (OpenSpec.ofChange codecTwoSpec)

/-- ITS FALSE NEIGHBOUR: 'it returns false'. Refute it at one input. -/
def codecTwoWrong : ChangeSpec := { name := "codecTwo", fn := fun _ => fun
  | [d1, d2, d3] => { results := [.lit (.bool false)], args := [d1, d2, d3] }
  | _ => none }
def CodecTwoWrongFalsely : Prop := codecTwoRow.holds Try.pinned (OpenSpec.ofChange codecTwoWrong)

/- THE SECOND FORM. 'bulk': how many values and letters a reading holds, each counted each time it is reached (what is shared counts as often as it is met; a slice's spare places count too). A statement '..UptoSaid' is the law's where the arguments, and the package variables that the reading takes, are together of bulk at most 1048576: NARROWER than '..Said'. Prove '..Said' where nothing that the law and all that it calls make is longer than what came in: it says more and counts as full. Else prove '..UptoSaid'. A law counts once. -/
mutual
def uptoBulk {H : Type} : DataW H → Nat
  | .lit (.string bytes) => bytes.length + 1
  | .lit _ => 1
  | .nil => 1
  | .ptr d => uptoBulk d + 1
  | .slice elems spare => uptoBulkAll elems + uptoBulkAll spare + 1
  | .agg parts => uptoBulkAll parts + 1
  | .iface _ d => uptoBulk d + 1
  | .map entries => uptoBulkEntries entries + 1
  | .held _ => 1
def uptoBulkAll {H : Type} : List (DataW H) → Nat
  | [] => 0
  | d :: r => uptoBulk d + uptoBulkAll r
def uptoBulkEntries {H : Type} : List (Lit × DataW H) → Nat
  | [] => 0
  | x :: r => uptoBulkEntry x + uptoBulkEntries r
def uptoBulkEntry {H : Type} : Lit × DataW H → Nat
  | (.string bytes, d) => bytes.length + uptoBulk d + 1
  | (_, d) => uptoBulk d + 1
 end
def uptoSmall : (H : Type) → List (DataW H) → Bool := fun _ ds => decide (uptoBulkAll ds ≤ 1048576)
def OpenSpec.upto (s : _root_.Go.ChangeSpec) : _root_.Go.OpenSpec := { _root_.Go.OpenSpec.ofChange s with cond := some uptoSmall }

/-- 'sigillumlaw02.CodecPut', WHERE WHAT IT READS IS OF BULK AT MOST 1048576: true; the input reads as it did. -/
def codecPutUptoRow : OpenClaim := { program := "ytkclhbfoimpjkaa", sum := "965e2b368f6b541e48d8fd09a3c07246168f6316e87c7096b7e18a1a46ec1922", func := "sigillum/sigillumlaw02.CodecPut", spec := "codecPut", apart := false, narrowed := true }
def CodecPutUptoSaid : Prop := codecPutUptoRow.holds Try.pinned (OpenSpec.upto codecPutSpec)

/-- 'sigillumlaw02.CodecGet', WHERE WHAT IT READS IS OF BULK AT MOST 1048576: true; the input reads as it did. -/
def codecGetUptoRow : OpenClaim := { program := "ytkclhbfoimpjkaa", sum := "965e2b368f6b541e48d8fd09a3c07246168f6316e87c7096b7e18a1a46ec1922", func := "sigillum/sigillumlaw02.CodecGet", spec := "codecGet", apart := false, narrowed := true }
def CodecGetUptoSaid : Prop := codecGetUptoRow.holds Try.pinned (OpenSpec.upto codecGetSpec)

/-- 'sigillumlaw02.CodecBytes', WHERE WHAT IT READS IS OF BULK AT MOST 1048576: true; the input reads as it did. -/
def codecBytesUptoRow : OpenClaim := { program := "ytkclhbfoimpjkaa", sum := "965e2b368f6b541e48d8fd09a3c07246168f6316e87c7096b7e18a1a46ec1922", func := "sigillum/sigillumlaw02.CodecBytes", spec := "codecBytes", apart := false, narrowed := true }
def CodecBytesUptoSaid : Prop := codecBytesUptoRow.holds Try.pinned (OpenSpec.upto codecBytesSpec)

/-- 'sigillumlaw02.CodecSkip', WHERE WHAT IT READS IS OF BULK AT MOST 1048576: true; the input reads as it did. -/
def codecSkipUptoRow : OpenClaim := { program := "ytkclhbfoimpjkaa", sum := "965e2b368f6b541e48d8fd09a3c07246168f6316e87c7096b7e18a1a46ec1922", func := "sigillum/sigillumlaw02.CodecSkip", spec := "codecSkip", apart := false, narrowed := true }
def CodecSkipUptoSaid : Prop := codecSkipUptoRow.holds Try.pinned (OpenSpec.upto codecSkipSpec)

/-- 'sigillumlaw02.CodecRow', WHERE WHAT IT READS IS OF BULK AT MOST 1048576: true; the input reads as it did. -/
def codecRowUptoRow : OpenClaim := { program := "ytkclhbfoimpjkaa", sum := "965e2b368f6b541e48d8fd09a3c07246168f6316e87c7096b7e18a1a46ec1922", func := "sigillum/sigillumlaw02.CodecRow", spec := "codecRow", apart := false, narrowed := true }
def CodecRowUptoSaid : Prop := codecRowUptoRow.holds Try.pinned (OpenSpec.upto codecRowSpec)

/-- 'sigillumlaw02.CodecTwo', WHERE WHAT IT READS IS OF BULK AT MOST 1048576: true; the input reads as it did. -/
def codecTwoUptoRow : OpenClaim := { program := "ytkclhbfoimpjkaa", sum := "965e2b368f6b541e48d8fd09a3c07246168f6316e87c7096b7e18a1a46ec1922", func := "sigillum/sigillumlaw02.CodecTwo", spec := "codecTwo", apart := false, narrowed := true }
def CodecTwoUptoSaid : Prop := codecTwoUptoRow.holds Try.pinned (OpenSpec.upto codecTwoSpec)

end Rows
end Go.Proofs.Ytkclhbfoimpjkaa
