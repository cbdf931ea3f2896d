/-
  No cell of these rows narrows 'for every input' (looked for: loops, veiled, ifaces, maps, wideKeys, modest, calm, conditions, laid).
  DERIVED. THE GIVEN ROWS OF THIS SEAT. 4 by the template 'for every input the law returns true; each argument reads behind the call as it read before'; 0 by the template 'total and deterministic' (their statements: YtekcpffcgiahfaaTotals.lean).
  GIVEN WITH THE SEED: the statements are not yours to turn. If you find one false, say at which input.
  Laid BY PROGRAM, IN A SANDBOX (cutbox-rows.mjs): the forced cells as the released guide's own fill.sh prints them over the translation 3b0e6051432a0a73… (all of the seat's roots in one cut). By AI agents, Wed Nov 11 2026. No macro, syntax, notation, axiom, sorry.
-/
import Derived.Test.YtekcpffcgiahfaaChecked
import GoSem.Claim
import GoSem.ClaimJoined
import GoSem.ClaimMapViews
import Derived.JoinedTies
import Derived.KernelRfl
namespace Go.Proofs.Ytekcpffcgiahfaa
/- THE CELL 'sum', in the pinned program and in every row, IS THE sha256 OF THE DUMP (.gsa) THAT YtekcpffcgiahfaaProg.lean LOADS. Nothing in Lean hashes anything: it is a label: what it is worth is what the hold of that sum in a sandbox is worth. -/
noncomputable def Try.pinned : Pinned := { name := "ytekcpffcgiahfaa", sum := "3b0e6051432a0a7357f499de99f88866088969b678820e930d86007c8d805046", checked := Try.checked }
namespace Rows
def none {H : Type} : Left H := { results := [], args := [] }

/-- 'sigillumlaw06.OracleSame': WHATEVER THE INPUT: true; the input reads as it did. -/
def oracleSameSpec : ChangeSpec := { name := "oracleSame", fn := fun _ => fun
  | [d1, d2] => { results := [.lit (.bool true)], args := [d1, d2] }
  | _ => none }
def oracleSameRow : OpenClaim := { program := "ytekcpffcgiahfaa", sum := "3b0e6051432a0a7357f499de99f88866088969b678820e930d86007c8d805046", func := "sigillum/sigillumlaw06.OracleSame", spec := "oracleSame", inPlace := ["internal/reflectlite.TypeOf"], unfollowed := true, recurses := true, apart := false }
def OracleSameSaid : Prop := oracleSameRow.holds Try.pinned (OpenSpec.ofChange oracleSameSpec)

/-- ITS FALSE NEIGHBOUR: 'it returns false'. Refute it at one input. -/
def oracleSameWrong : ChangeSpec := { name := "oracleSame", fn := fun _ => fun
  | [d1, d2] => { results := [.lit (.bool false)], args := [d1, d2] }
  | _ => none }
def OracleSameWrongFalsely : Prop := oracleSameRow.holds Try.pinned (OpenSpec.ofChange oracleSameWrong)

/-- 'sigillumlaw06.OracleEntries': WHATEVER THE INPUT: true; the input reads as it did. -/
def oracleEntriesSpec : ChangeSpec := { name := "oracleEntries", fn := fun _ => fun
  | [d1, d2] => { results := [.lit (.bool true)], args := [d1, d2] }
  | _ => none }
def oracleEntriesRow : OpenClaim := { program := "ytekcpffcgiahfaa", sum := "3b0e6051432a0a7357f499de99f88866088969b678820e930d86007c8d805046", func := "sigillum/sigillumlaw06.OracleEntries", spec := "oracleEntries", inPlace := ["internal/reflectlite.TypeOf"], unfollowed := true, recurses := true, apart := false }
def OracleEntriesSaid : Prop := oracleEntriesRow.holds Try.pinned (OpenSpec.ofChange oracleEntriesSpec)

/-- ITS FALSE NEIGHBOUR: 'it returns false'. Refute it at one input. -/
def oracleEntriesWrong : ChangeSpec := { name := "oracleEntries", fn := fun _ => fun
  | [d1, d2] => { results := [.lit (.bool false)], args := [d1, d2] }
  | _ => none }
def OracleEntriesWrongFalsely : Prop := oracleEntriesRow.holds Try.pinned (OpenSpec.ofChange oracleEntriesWrong)

/-- 'sigillumlaw06.OracleAsks': WHATEVER THE INPUT: true; the input reads as it did. -/
def oracleAsksSpec : ChangeSpec := { name := "oracleAsks", fn := fun _ => fun
  | [d1, d2] => { results := [.lit (.bool true)], args := [d1, d2] }
  | _ => none }
def oracleAsksRow : OpenClaim := { program := "ytekcpffcgiahfaa", sum := "3b0e6051432a0a7357f499de99f88866088969b678820e930d86007c8d805046", func := "sigillum/sigillumlaw06.OracleAsks", spec := "oracleAsks", inPlace := ["internal/reflectlite.TypeOf"], unfollowed := true, recurses := true, apart := false }
def OracleAsksSaid : Prop := oracleAsksRow.holds Try.pinned (OpenSpec.ofChange oracleAsksSpec)

/-- ITS FALSE NEIGHBOUR: 'it returns false'. Refute it at one input. -/
def oracleAsksWrong : ChangeSpec := { name := "oracleAsks", fn := fun _ => fun
  | [d1, d2] => { results := [.lit (.bool false)], args := [d1, d2] }
  | _ => none }
def OracleAsksWrongFalsely : Prop := oracleAsksRow.holds Try.pinned (OpenSpec.ofChange oracleAsksWrong)

/-- 'sigillumlaw06.OracleNone': WHATEVER THE INPUT: true; the input reads as it did. -/
def oracleNoneSpec : ChangeSpec := { name := "oracleNone", fn := fun _ => fun
  | [d1, d2] => { results := [.lit (.bool true)], args := [d1, d2] }
  | _ => none }
def oracleNoneRow : OpenClaim := { program := "ytekcpffcgiahfaa", sum := "3b0e6051432a0a7357f499de99f88866088969b678820e930d86007c8d805046", func := "sigillum/sigillumlaw06.OracleNone", spec := "oracleNone", inPlace := ["internal/reflectlite.TypeOf"], unfollowed := true, recurses := true, apart := false }
def OracleNoneSaid : Prop := oracleNoneRow.holds Try.pinned (OpenSpec.ofChange oracleNoneSpec)

/-- ITS FALSE NEIGHBOUR: 'it returns false'. Refute it at one input. -/
def oracleNoneWrong : ChangeSpec := { name := "oracleNone", fn := fun _ => fun
  | [d1, d2] => { results := [.lit (.bool false)], args := [d1, d2] }
  | _ => none }
def OracleNoneWrongFalsely : Prop := oracleNoneRow.holds Try.pinned (OpenSpec.ofChange oracleNoneWrong)

/- THE SECOND FORM. 'bulk': how many values and letters a reading holds, each counted each time it is reached (what is shared counts as often as it is met; a slice's spare places count too). A statement '..UptoSaid' is the law's where the arguments, and the package variables that the reading takes, are together of bulk at most 1048576: NARROWER than '..Said'. Prove '..Said' where nothing that the law and all that it calls make is longer than what came in: it says more and counts as full. Else prove '..UptoSaid'. A law counts once. -/
mutual
def uptoBulk {H : Type} : DataW H → Nat
  | .lit (.string bytes) => bytes.length + 1
  | .lit _ => 1
  | .nil => 1
  | .ptr d => uptoBulk d + 1
  | .slice elems spare => uptoBulkAll elems + uptoBulkAll spare + 1
  | .agg parts => uptoBulkAll parts + 1
  | .iface _ d => uptoBulk d + 1
  | .map entries => uptoBulkEntries entries + 1
  | .held _ => 1
def uptoBulkAll {H : Type} : List (DataW H) → Nat
  | [] => 0
  | d :: r => uptoBulk d + uptoBulkAll r
def uptoBulkEntries {H : Type} : List (Lit × DataW H) → Nat
  | [] => 0
  | x :: r => uptoBulkEntry x + uptoBulkEntries r
def uptoBulkEntry {H : Type} : Lit × DataW H → Nat
  | (.string bytes, d) => bytes.length + uptoBulk d + 1
  | (_, d) => uptoBulk d + 1
 end
def uptoSmall : (H : Type) → List (DataW H) → Bool := fun _ ds => decide (uptoBulkAll ds ≤ 1048576)
def OpenSpec.upto (s : _root_.Go.ChangeSpec) : _root_.Go.OpenSpec := { _root_.Go.OpenSpec.ofChange s with cond := some uptoSmall }

/-- 'sigillumlaw06.OracleSame', WHERE WHAT IT READS IS OF BULK AT MOST 1048576: true; the input reads as it did. -/
def oracleSameUptoRow : OpenClaim := { program := "ytekcpffcgiahfaa", sum := "3b0e6051432a0a7357f499de99f88866088969b678820e930d86007c8d805046", func := "sigillum/sigillumlaw06.OracleSame", spec := "oracleSame", inPlace := ["internal/reflectlite.TypeOf"], unfollowed := true, recurses := true, apart := false, narrowed := true }
def OracleSameUptoSaid : Prop := oracleSameUptoRow.holds Try.pinned (OpenSpec.upto oracleSameSpec)

/-- 'sigillumlaw06.OracleEntries', WHERE WHAT IT READS IS OF BULK AT MOST 1048576: true; the input reads as it did. -/
def oracleEntriesUptoRow : OpenClaim := { program := "ytekcpffcgiahfaa", sum := "3b0e6051432a0a7357f499de99f88866088969b678820e930d86007c8d805046", func := "sigillum/sigillumlaw06.OracleEntries", spec := "oracleEntries", inPlace := ["internal/reflectlite.TypeOf"], unfollowed := true, recurses := true, apart := false, narrowed := true }
def OracleEntriesUptoSaid : Prop := oracleEntriesUptoRow.holds Try.pinned (OpenSpec.upto oracleEntriesSpec)

/-- 'sigillumlaw06.OracleAsks', WHERE WHAT IT READS IS OF BULK AT MOST 1048576: true; the input reads as it did. -/
def oracleAsksUptoRow : OpenClaim := { program := "ytekcpffcgiahfaa", sum := "3b0e6051432a0a7357f499de99f88866088969b678820e930d86007c8d805046", func := "sigillum/sigillumlaw06.OracleAsks", spec := "oracleAsks", inPlace := ["internal/reflectlite.TypeOf"], unfollowed := true, recurses := true, apart := false, narrowed := true }
def OracleAsksUptoSaid : Prop := oracleAsksUptoRow.holds Try.pinned (OpenSpec.upto oracleAsksSpec)

/-- 'sigillumlaw06.OracleNone', WHERE WHAT IT READS IS OF BULK AT MOST 1048576: true; the input reads as it did. -/
def oracleNoneUptoRow : OpenClaim := { program := "ytekcpffcgiahfaa", sum := "3b0e6051432a0a7357f499de99f88866088969b678820e930d86007c8d805046", func := "sigillum/sigillumlaw06.OracleNone", spec := "oracleNone", inPlace := ["internal/reflectlite.TypeOf"], unfollowed := true, recurses := true, apart := false, narrowed := true }
def OracleNoneUptoSaid : Prop := oracleNoneUptoRow.holds Try.pinned (OpenSpec.upto oracleNoneSpec)

end Rows
end Go.Proofs.Ytekcpffcgiahfaa
