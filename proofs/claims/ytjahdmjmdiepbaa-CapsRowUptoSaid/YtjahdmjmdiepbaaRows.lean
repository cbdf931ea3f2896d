/-
  No cell of these rows narrows 'for every input' (looked for: loops, veiled, ifaces, maps, wideKeys, modest, calm, conditions, laid).
  DERIVED. THE GIVEN ROWS OF THIS SEAT. 5 by the template 'for every input the law returns true; each argument reads behind the call as it read before'; 0 by the template 'total and deterministic' (their statements: YtjahdmjmdiepbaaTotals.lean).
  GIVEN WITH THE SEED: the statements are not yours to turn. If you find one false, say at which input.
  Laid BY PROGRAM, IN A SANDBOX (cutbox-rows.mjs): the forced cells as the released guide's own fill.sh prints them over the translation 48ab46c3a66dc09f… (all of the seat's roots in one cut). By AI agents, Wed Nov 11 2026. No macro, syntax, notation, axiom, sorry.
-/
import Derived.Test.YtjahdmjmdiepbaaChecked
import GoSem.Claim
import GoSem.ClaimJoined
import GoSem.ClaimMapViews
import Derived.JoinedTies
import Derived.KernelRfl
namespace Go.Proofs.Ytjahdmjmdiepbaa
/- THE CELL 'sum', in the pinned program and in every row, IS THE sha256 OF THE DUMP (.gsa) THAT YtjahdmjmdiepbaaProg.lean LOADS. Nothing in Lean hashes anything: it is a label: what it is worth is what the hold of that sum in a sandbox is worth. -/
noncomputable def Try.pinned : Pinned := { name := "ytjahdmjmdiepbaa", sum := "48ab46c3a66dc09f7f8864e3a29b47b16878e0bfeaf0ad4f799ae36efc5b52d1", checked := Try.checked }
namespace Rows
def none {H : Type} : Left H := { results := [], args := [] }

/-- 'sigillumlaw03.CapsEncode': WHATEVER THE INPUT: true; the input reads as it did. -/
def capsEncodeSpec : ChangeSpec := { name := "capsEncode", fn := fun _ => fun
  | [d] => { results := [.lit (.bool true)], args := [d] }
  | _ => none }
def capsEncodeRow : OpenClaim := { program := "ytjahdmjmdiepbaa", sum := "48ab46c3a66dc09f7f8864e3a29b47b16878e0bfeaf0ad4f799ae36efc5b52d1", func := "sigillum/sigillumlaw03.CapsEncode", spec := "capsEncode", apart := false }
def CapsEncodeSaid : Prop := capsEncodeRow.holds Try.pinned (OpenSpec.ofChange capsEncodeSpec)

/-- ITS FALSE NEIGHBOUR: 'it returns false'. Refute it at one input. -/
def capsEncodeWrong : ChangeSpec := { name := "capsEncode", fn := fun _ => fun
  | [d] => { results := [.lit (.bool false)], args := [d] }
  | _ => none }
def CapsEncodeWrongFalsely : Prop := capsEncodeRow.holds Try.pinned (OpenSpec.ofChange capsEncodeWrong)

/-- 'sigillumlaw03.CapsRights': WHATEVER THE INPUT: true; the input reads as it did. -/
def capsRightsSpec : ChangeSpec := { name := "capsRights", fn := fun _ => fun
  | [d1, d2] => { results := [.lit (.bool true)], args := [d1, d2] }
  | _ => none }
def capsRightsRow : OpenClaim := { program := "ytjahdmjmdiepbaa", sum := "48ab46c3a66dc09f7f8864e3a29b47b16878e0bfeaf0ad4f799ae36efc5b52d1", func := "sigillum/sigillumlaw03.CapsRights", spec := "capsRights", apart := false }
def CapsRightsSaid : Prop := capsRightsRow.holds Try.pinned (OpenSpec.ofChange capsRightsSpec)

/-- ITS FALSE NEIGHBOUR: 'it returns false'. Refute it at one input. -/
def capsRightsWrong : ChangeSpec := { name := "capsRights", fn := fun _ => fun
  | [d1, d2] => { results := [.lit (.bool false)], args := [d1, d2] }
  | _ => none }
def CapsRightsWrongFalsely : Prop := capsRightsRow.holds Try.pinned (OpenSpec.ofChange capsRightsWrong)

/-- 'sigillumlaw03.CapsBack': WHATEVER THE INPUT: true; the input reads as it did. -/
def capsBackSpec : ChangeSpec := { name := "capsBack", fn := fun _ => fun
  | [d1, d2] => { results := [.lit (.bool true)], args := [d1, d2] }
  | _ => none }
def capsBackRow : OpenClaim := { program := "ytjahdmjmdiepbaa", sum := "48ab46c3a66dc09f7f8864e3a29b47b16878e0bfeaf0ad4f799ae36efc5b52d1", func := "sigillum/sigillumlaw03.CapsBack", spec := "capsBack", apart := false }
def CapsBackSaid : Prop := capsBackRow.holds Try.pinned (OpenSpec.ofChange capsBackSpec)

/-- ITS FALSE NEIGHBOUR: 'it returns false'. Refute it at one input. -/
def capsBackWrong : ChangeSpec := { name := "capsBack", fn := fun _ => fun
  | [d1, d2] => { results := [.lit (.bool false)], args := [d1, d2] }
  | _ => none }
def CapsBackWrongFalsely : Prop := capsBackRow.holds Try.pinned (OpenSpec.ofChange capsBackWrong)

/-- 'sigillumlaw03.CapsTwo': WHATEVER THE INPUT: true; the input reads as it did. -/
def capsTwoSpec : ChangeSpec := { name := "capsTwo", fn := fun _ => fun
  | [d1, d2, d3] => { results := [.lit (.bool true)], args := [d1, d2, d3] }
  | _ => none }
def capsTwoRow : OpenClaim := { program := "ytjahdmjmdiepbaa", sum := "48ab46c3a66dc09f7f8864e3a29b47b16878e0bfeaf0ad4f799ae36efc5b52d1", func := "sigillum/sigillumlaw03.CapsTwo", spec := "capsTwo", apart := false }
def CapsTwoSaid : Prop := capsTwoRow.holds Try.pinned (OpenSpec.ofChange capsTwoSpec)

/-- ITS FALSE NEIGHBOUR: 'it returns false'. Refute it at one input. -/
def capsTwoWrong : ChangeSpec := { name := "capsTwo", fn := fun _ => fun
  | [d1, d2, d3] => { results := [.lit (.bool false)], args := [d1, d2, d3] }
  | _ => none }
def CapsTwoWrongFalsely : Prop := capsTwoRow.holds Try.pinned (OpenSpec.ofChange capsTwoWrong)

/-- 'sigillumlaw03.CapsRow': WHATEVER THE INPUT: true; the input reads as it did. -/
def capsRowSpec : ChangeSpec := { name := "capsRow", fn := fun _ => fun
  | [d1, d2] => { results := [.lit (.bool true)], args := [d1, d2] }
  | _ => none }
def capsRowRow : OpenClaim := { program := "ytjahdmjmdiepbaa", sum := "48ab46c3a66dc09f7f8864e3a29b47b16878e0bfeaf0ad4f799ae36efc5b52d1", func := "sigillum/sigillumlaw03.CapsRow", spec := "capsRow", apart := false }
def CapsRowSaid : Prop := capsRowRow.holds Try.pinned (OpenSpec.ofChange capsRowSpec)

/-- ITS FALSE NEIGHBOUR: 'it returns false'. Refute it at one input. -/
def capsRowWrong : ChangeSpec := { name := "capsRow", fn := fun _ => fun
  | [d1, d2] => { results := [.lit (.bool false)], args := [d1, d2] }
  | _ => none }
def CapsRowWrongFalsely : Prop := capsRowRow.holds Try.pinned (OpenSpec.ofChange capsRowWrong)

/- THE SECOND FORM. 'bulk': how many values and letters a reading holds, each counted each time it is reached (what is shared counts as often as it is met; a slice's spare places count too). A statement '..UptoSaid' is the law's where the arguments, and the package variables that the reading takes, are together of bulk at most 1048576: NARROWER than '..Said'. Prove '..Said' where nothing that the law and all that it calls make is longer than what came in: it says more and counts as full. Else prove '..UptoSaid'. A law counts once. -/
mutual
def uptoBulk {H : Type} : DataW H → Nat
  | .lit (.string bytes) => bytes.length + 1
  | .lit _ => 1
  | .nil => 1
  | .ptr d => uptoBulk d + 1
  | .slice elems spare => uptoBulkAll elems + uptoBulkAll spare + 1
  | .agg parts => uptoBulkAll parts + 1
  | .iface _ d => uptoBulk d + 1
  | .map entries => uptoBulkEntries entries + 1
  | .held _ => 1
def uptoBulkAll {H : Type} : List (DataW H) → Nat
  | [] => 0
  | d :: r => uptoBulk d + uptoBulkAll r
def uptoBulkEntries {H : Type} : List (Lit × DataW H) → Nat
  | [] => 0
  | x :: r => uptoBulkEntry x + uptoBulkEntries r
def uptoBulkEntry {H : Type} : Lit × DataW H → Nat
  | (.string bytes, d) => bytes.length + uptoBulk d + 1
  | (_, d) => uptoBulk d + 1
 end
def uptoSmall : (H : Type) → List (DataW H) → Bool := fun _ ds => decide (uptoBulkAll ds ≤ 1048576)
def OpenSpec.upto (s : _root_.Go.ChangeSpec) : _root_.Go.OpenSpec := { _root_.Go.OpenSpec.ofChange s with cond := some uptoSmall }

/-- 'sigillumlaw03.CapsEncode', WHERE WHAT IT READS IS OF BULK AT MOST 1048576: true; the input reads as it did. -/
def capsEncodeUptoRow : OpenClaim := { program := "ytjahdmjmdiepbaa", sum := "48ab46c3a66dc09f7f8864e3a29b47b16878e0bfeaf0ad4f799ae36efc5b52d1", func := "sigillum/sigillumlaw03.CapsEncode", spec := "capsEncode", apart := false, narrowed := true }
def CapsEncodeUptoSaid : Prop := capsEncodeUptoRow.holds Try.pinned (OpenSpec.upto capsEncodeSpec)

/-- 'sigillumlaw03.CapsRights', WHERE WHAT IT READS IS OF BULK AT MOST 1048576: true; the input reads as it did. -/
def capsRightsUptoRow : OpenClaim := { program := "ytjahdmjmdiepbaa", sum := "48ab46c3a66dc09f7f8864e3a29b47b16878e0bfeaf0ad4f799ae36efc5b52d1", func := "sigillum/sigillumlaw03.CapsRights", spec := "capsRights", apart := false, narrowed := true }
def CapsRightsUptoSaid : Prop := capsRightsUptoRow.holds Try.pinned (OpenSpec.upto capsRightsSpec)

/-- 'sigillumlaw03.CapsBack', WHERE WHAT IT READS IS OF BULK AT MOST 1048576: true; the input reads as it did. -/
def capsBackUptoRow : OpenClaim := { program := "ytjahdmjmdiepbaa", sum := "48ab46c3a66dc09f7f8864e3a29b47b16878e0bfeaf0ad4f799ae36efc5b52d1", func := "sigillum/sigillumlaw03.CapsBack", spec := "capsBack", apart := false, narrowed := true }
def CapsBackUptoSaid : Prop := capsBackUptoRow.holds Try.pinned (OpenSpec.upto capsBackSpec)

/-- 'sigillumlaw03.CapsTwo', WHERE WHAT IT READS IS OF BULK AT MOST 1048576: true; the input reads as it did. -/
def capsTwoUptoRow : OpenClaim := { program := "ytjahdmjmdiepbaa", sum := "48ab46c3a66dc09f7f8864e3a29b47b16878e0bfeaf0ad4f799ae36efc5b52d1", func := "sigillum/sigillumlaw03.CapsTwo", spec := "capsTwo", apart := false, narrowed := true }
def CapsTwoUptoSaid : Prop := capsTwoUptoRow.holds Try.pinned (OpenSpec.upto capsTwoSpec)

/-- 'sigillumlaw03.CapsRow', WHERE WHAT IT READS IS OF BULK AT MOST 1048576: true; the input reads as it did. -/
def capsRowUptoRow : OpenClaim := { program := "ytjahdmjmdiepbaa", sum := "48ab46c3a66dc09f7f8864e3a29b47b16878e0bfeaf0ad4f799ae36efc5b52d1", func := "sigillum/sigillumlaw03.CapsRow", spec := "capsRow", apart := false, narrowed := true }
def CapsRowUptoSaid : Prop := capsRowUptoRow.holds Try.pinned (OpenSpec.upto capsRowSpec)

end Rows
end Go.Proofs.Ytjahdmjmdiepbaa
