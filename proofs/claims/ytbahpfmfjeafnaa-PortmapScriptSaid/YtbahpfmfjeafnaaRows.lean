/-
  No cell of these rows narrows 'for every input' (looked for: loops, veiled, ifaces, maps, wideKeys, modest, calm, conditions, laid).
  DERIVED. THE GIVEN ROWS OF THIS SEAT. 5 by the template 'for every input the law returns true; each argument reads behind the call as it read before'; 0 by the template 'total and deterministic' (their statements: YtbahpfmfjeafnaaTotals.lean).
  GIVEN WITH THE SEED: the statements are not yours to turn. If you find one false, say at which input.
  Laid BY PROGRAM, IN A SANDBOX (cutbox-rows.mjs): the forced cells as the released guide's own fill.sh prints them over the translation 93d494b91ff68c37… (all of the seat's roots in one cut). By AI agents, Wed Nov 11 2026. No macro, syntax, notation, axiom, sorry.
-/
import Derived.Test.YtbahpfmfjeafnaaChecked
import GoSem.Claim
import GoSem.ClaimJoined
import GoSem.ClaimMapViews
import Derived.JoinedTies
import Derived.KernelRfl
namespace Go.Proofs.Ytbahpfmfjeafnaa
/- THE CELL 'sum', in the pinned program and in every row, IS THE sha256 OF THE DUMP (.gsa) THAT YtbahpfmfjeafnaaProg.lean LOADS. Nothing in Lean hashes anything: it is a label: what it is worth is what the hold of that sum in a sandbox is worth. -/
noncomputable def Try.pinned : Pinned := { name := "ytbahpfmfjeafnaa", sum := "93d494b91ff68c37af123bc5de0f07d27fc6a1b9c8759e261fb85a03923e4462", checked := Try.checked }
namespace Rows
def none {H : Type} : Left H := { results := [], args := [] }

/-- 'sigillumlaw18.PortmapAge': WHATEVER THE INPUT: true; the input reads as it did. -/
def portmapAgeSpec : ChangeSpec := { name := "portmapAge", fn := fun _ => fun
  | [d1, d2, d3, d4, d5] => { results := [.lit (.bool true)], args := [d1, d2, d3, d4, d5] }
  | _ => none }
def portmapAgeRow : OpenClaim := { program := "ytbahpfmfjeafnaa", sum := "93d494b91ff68c37af123bc5de0f07d27fc6a1b9c8759e261fb85a03923e4462", func := "sigillum/sigillumlaw18.PortmapAge", spec := "portmapAge", unfollowed := true, recurses := true, apart := false }
def PortmapAgeSaid : Prop := portmapAgeRow.holds Try.pinned (OpenSpec.ofChange portmapAgeSpec)

/-- ITS FALSE NEIGHBOUR: 'it returns false'. Refute it at one input. -/
def portmapAgeWrong : ChangeSpec := { name := "portmapAge", fn := fun _ => fun
  | [d1, d2, d3, d4, d5] => { results := [.lit (.bool false)], args := [d1, d2, d3, d4, d5] }
  | _ => none }
def PortmapAgeWrongFalsely : Prop := portmapAgeRow.holds Try.pinned (OpenSpec.ofChange portmapAgeWrong)

/-- 'sigillumlaw18.PortmapNew': WHATEVER THE INPUT: true; the input reads as it did. -/
def portmapNewSpec : ChangeSpec := { name := "portmapNew", fn := fun _ => fun
  | [d1, d2] => { results := [.lit (.bool true)], args := [d1, d2] }
  | _ => none }
def portmapNewRow : OpenClaim := { program := "ytbahpfmfjeafnaa", sum := "93d494b91ff68c37af123bc5de0f07d27fc6a1b9c8759e261fb85a03923e4462", func := "sigillum/sigillumlaw18.PortmapNew", spec := "portmapNew", unfollowed := true, recurses := true, apart := false }
def PortmapNewSaid : Prop := portmapNewRow.holds Try.pinned (OpenSpec.ofChange portmapNewSpec)

/-- ITS FALSE NEIGHBOUR: 'it returns false'. Refute it at one input. -/
def portmapNewWrong : ChangeSpec := { name := "portmapNew", fn := fun _ => fun
  | [d1, d2] => { results := [.lit (.bool false)], args := [d1, d2] }
  | _ => none }
def PortmapNewWrongFalsely : Prop := portmapNewRow.holds Try.pinned (OpenSpec.ofChange portmapNewWrong)

/-- 'sigillumlaw18.PortmapGone': WHATEVER THE INPUT: true; the input reads as it did. -/
def portmapGoneSpec : ChangeSpec := { name := "portmapGone", fn := fun _ => fun
  | [d1, d2] => { results := [.lit (.bool true)], args := [d1, d2] }
  | _ => none }
def portmapGoneRow : OpenClaim := { program := "ytbahpfmfjeafnaa", sum := "93d494b91ff68c37af123bc5de0f07d27fc6a1b9c8759e261fb85a03923e4462", func := "sigillum/sigillumlaw18.PortmapGone", spec := "portmapGone", unfollowed := true, recurses := true, apart := false }
def PortmapGoneSaid : Prop := portmapGoneRow.holds Try.pinned (OpenSpec.ofChange portmapGoneSpec)

/-- ITS FALSE NEIGHBOUR: 'it returns false'. Refute it at one input. -/
def portmapGoneWrong : ChangeSpec := { name := "portmapGone", fn := fun _ => fun
  | [d1, d2] => { results := [.lit (.bool false)], args := [d1, d2] }
  | _ => none }
def PortmapGoneWrongFalsely : Prop := portmapGoneRow.holds Try.pinned (OpenSpec.ofChange portmapGoneWrong)

/-- 'sigillumlaw18.PortmapMost': WHATEVER THE INPUT: true; the input reads as it did. -/
def portmapMostSpec : ChangeSpec := { name := "portmapMost", fn := fun _ => fun
  | [d] => { results := [.lit (.bool true)], args := [d] }
  | _ => none }
def portmapMostRow : OpenClaim := { program := "ytbahpfmfjeafnaa", sum := "93d494b91ff68c37af123bc5de0f07d27fc6a1b9c8759e261fb85a03923e4462", func := "sigillum/sigillumlaw18.PortmapMost", spec := "portmapMost", unfollowed := true, recurses := true, apart := false }
def PortmapMostSaid : Prop := portmapMostRow.holds Try.pinned (OpenSpec.ofChange portmapMostSpec)

/-- ITS FALSE NEIGHBOUR: 'it returns false'. Refute it at one input. -/
def portmapMostWrong : ChangeSpec := { name := "portmapMost", fn := fun _ => fun
  | [d] => { results := [.lit (.bool false)], args := [d] }
  | _ => none }
def PortmapMostWrongFalsely : Prop := portmapMostRow.holds Try.pinned (OpenSpec.ofChange portmapMostWrong)

/-- 'sigillumlaw18.PortmapScript': WHATEVER THE INPUT: true; the input reads as it did. -/
def portmapScriptSpec : ChangeSpec := { name := "portmapScript", fn := fun _ => fun
  | [d1, d2] => { results := [.lit (.bool true)], args := [d1, d2] }
  | _ => none }
def portmapScriptRow : OpenClaim := { program := "ytbahpfmfjeafnaa", sum := "93d494b91ff68c37af123bc5de0f07d27fc6a1b9c8759e261fb85a03923e4462", func := "sigillum/sigillumlaw18.PortmapScript", spec := "portmapScript", unfollowed := true, recurses := true, apart := false }
def PortmapScriptSaid : Prop := portmapScriptRow.holds Try.pinned (OpenSpec.ofChange portmapScriptSpec)

/-- ITS FALSE NEIGHBOUR: 'it returns false'. Refute it at one input. -/
def portmapScriptWrong : ChangeSpec := { name := "portmapScript", fn := fun _ => fun
  | [d1, d2] => { results := [.lit (.bool false)], args := [d1, d2] }
  | _ => none }
def PortmapScriptWrongFalsely : Prop := portmapScriptRow.holds Try.pinned (OpenSpec.ofChange portmapScriptWrong)

/- THE SECOND FORM. 'bulk': how many values and letters a reading holds, each counted each time it is reached (what is shared counts as often as it is met; a slice's spare places count too). A statement '..UptoSaid' is the law's where the arguments, and the package variables that the reading takes, are together of bulk at most 1048576: NARROWER than '..Said'. Prove '..Said' where nothing that the law and all that it calls make is longer than what came in: it says more and counts as full. Else prove '..UptoSaid'. A law counts once. -/
mutual
def uptoBulk {H : Type} : DataW H → Nat
  | .lit (.string bytes) => bytes.length + 1
  | .lit _ => 1
  | .nil => 1
  | .ptr d => uptoBulk d + 1
  | .slice elems spare => uptoBulkAll elems + uptoBulkAll spare + 1
  | .agg parts => uptoBulkAll parts + 1
  | .iface _ d => uptoBulk d + 1
  | .map entries => uptoBulkEntries entries + 1
  | .held _ => 1
def uptoBulkAll {H : Type} : List (DataW H) → Nat
  | [] => 0
  | d :: r => uptoBulk d + uptoBulkAll r
def uptoBulkEntries {H : Type} : List (Lit × DataW H) → Nat
  | [] => 0
  | x :: r => uptoBulkEntry x + uptoBulkEntries r
def uptoBulkEntry {H : Type} : Lit × DataW H → Nat
  | (.string bytes, d) => bytes.length + uptoBulk d + 1
  | (_, d) => uptoBulk d + 1
 end
def uptoSmall : (H : Type) → List (DataW H) → Bool := fun _ ds => decide (uptoBulkAll ds ≤ 1048576)
def OpenSpec.upto (s : _root_.Go.ChangeSpec) : _root_.Go.OpenSpec := { _root_.Go.OpenSpec.ofChange s with cond := some uptoSmall }

/-- 'sigillumlaw18.PortmapAge', WHERE WHAT IT READS IS OF BULK AT MOST 1048576: true; the input reads as it did. -/
def portmapAgeUptoRow : OpenClaim := { program := "ytbahpfmfjeafnaa", sum := "93d494b91ff68c37af123bc5de0f07d27fc6a1b9c8759e261fb85a03923e4462", func := "sigillum/sigillumlaw18.PortmapAge", spec := "portmapAge", unfollowed := true, recurses := true, apart := false, narrowed := true }
def PortmapAgeUptoSaid : Prop := portmapAgeUptoRow.holds Try.pinned (OpenSpec.upto portmapAgeSpec)

/-- 'sigillumlaw18.PortmapNew', WHERE WHAT IT READS IS OF BULK AT MOST 1048576: true; the input reads as it did. -/
def portmapNewUptoRow : OpenClaim := { program := "ytbahpfmfjeafnaa", sum := "93d494b91ff68c37af123bc5de0f07d27fc6a1b9c8759e261fb85a03923e4462", func := "sigillum/sigillumlaw18.PortmapNew", spec := "portmapNew", unfollowed := true, recurses := true, apart := false, narrowed := true }
def PortmapNewUptoSaid : Prop := portmapNewUptoRow.holds Try.pinned (OpenSpec.upto portmapNewSpec)

/-- 'sigillumlaw18.PortmapGone', WHERE WHAT IT READS IS OF BULK AT MOST 1048576: true; the input reads as it did. -/
def portmapGoneUptoRow : OpenClaim := { program := "ytbahpfmfjeafnaa", sum := "93d494b91ff68c37af123bc5de0f07d27fc6a1b9c8759e261fb85a03923e4462", func := "sigillum/sigillumlaw18.PortmapGone", spec := "portmapGone", unfollowed := true, recurses := true, apart := false, narrowed := true }
def PortmapGoneUptoSaid : Prop := portmapGoneUptoRow.holds Try.pinned (OpenSpec.upto portmapGoneSpec)

/-- 'sigillumlaw18.PortmapMost', WHERE WHAT IT READS IS OF BULK AT MOST 1048576: true; the input reads as it did. -/
def portmapMostUptoRow : OpenClaim := { program := "ytbahpfmfjeafnaa", sum := "93d494b91ff68c37af123bc5de0f07d27fc6a1b9c8759e261fb85a03923e4462", func := "sigillum/sigillumlaw18.PortmapMost", spec := "portmapMost", unfollowed := true, recurses := true, apart := false, narrowed := true }
def PortmapMostUptoSaid : Prop := portmapMostUptoRow.holds Try.pinned (OpenSpec.upto portmapMostSpec)

/-- 'sigillumlaw18.PortmapScript', WHERE WHAT IT READS IS OF BULK AT MOST 1048576: true; the input reads as it did. -/
def portmapScriptUptoRow : OpenClaim := { program := "ytbahpfmfjeafnaa", sum := "93d494b91ff68c37af123bc5de0f07d27fc6a1b9c8759e261fb85a03923e4462", func := "sigillum/sigillumlaw18.PortmapScript", spec := "portmapScript", unfollowed := true, recurses := true, apart := false, narrowed := true }
def PortmapScriptUptoSaid : Prop := portmapScriptUptoRow.holds Try.pinned (OpenSpec.upto portmapScriptSpec)

end Rows
end Go.Proofs.Ytbahpfmfjeafnaa
