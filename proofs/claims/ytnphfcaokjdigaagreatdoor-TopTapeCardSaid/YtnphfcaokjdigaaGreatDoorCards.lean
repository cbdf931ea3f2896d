/-
  DERIVED. GIVEN WITH THE SEED: THE CARDS: each row of YtnphfcaokjdigaaGreatDoorRows.lean that lists a variable, with what it lists TIED to the program's text (the seventh form; the later family's looks); each row that meets fmt, with fmt's text TOLD by the authors' own Lean function (tested against real Go, not proved from fmt's source: count such statements apart). THE CARD IS WHAT COUNTS. Prove the row's statement (the work); the ties are given (YtnphfcaokjdigaaGreatDoorTie.lean); close each card by the builder's one call (the guide's Derived/Test/ToyasCard.lean, 'card_holds'). Laid BY PROGRAM, IN A SANDBOX (cutbox-door.mjs). By AI agents, Wed Nov 11 2026. No macro, syntax, notation, axiom, sorry.
-/
import Derived.Test.YtnphfcaokjdigaaGreatDoorRows
import GoSem.ClaimSeven
namespace Go.Proofs.YtnphfcaokjdigaaGreatDoor
namespace Rows

/-- THE TIED CARD OF 'sigillumtop.TopOnce'. -/
def topOnceCard : Claim7 := { stood := { row := topOnceRow, standIns := [], harness := (true, "929a5e8129f568b5f234f139c0a6dab8b8ac54b97ca6f3af64dacf8ba11b9b79"), looks := true }, kinds := [], alts := [], laidByText := true, laidKinds := [.handle], laidTests := true, laidLooks := .later }
def TopOnceCardSaid : Prop := Claim7.holds Tryz.pinned (.plain (OpenSpec.ofChange topOnceSpec)) topOnceCard

/-- THE TIED CARD OF 'sigillumtop.TopReplies'. -/
def topRepliesCard : Claim7 := { stood := { row := topRepliesRow, standIns := [], harness := (true, "929a5e8129f568b5f234f139c0a6dab8b8ac54b97ca6f3af64dacf8ba11b9b79"), looks := true }, kinds := [], alts := [], laidByText := true, laidKinds := [.handle], laidTests := true, laidLooks := .later }
def TopRepliesCardSaid : Prop := Claim7.holds Tryz.pinned (.plain (OpenSpec.ofChange topRepliesSpec)) topRepliesCard

/-- THE TIED CARD OF 'sigillumtop.TopTape'. -/
def topTapeCard : Claim7 := { stood := { row := topTapeRow, standIns := [], harness := (true, "929a5e8129f568b5f234f139c0a6dab8b8ac54b97ca6f3af64dacf8ba11b9b79"), looks := true }, kinds := [], alts := [], laidByText := true, laidKinds := [.handle], laidTests := true, laidLooks := .later }
def TopTapeCardSaid : Prop := Claim7.holds Tryz.pinned (.plain (OpenSpec.ofChange topTapeSpec)) topTapeCard

/-- THE TIED CARD OF 'sigillumtop.TopDirect'. -/
def topDirectCard : Claim7 := { stood := { row := topDirectRow, standIns := [], harness := (true, "929a5e8129f568b5f234f139c0a6dab8b8ac54b97ca6f3af64dacf8ba11b9b79"), looks := true }, kinds := [], alts := [], laidByText := true, laidKinds := [.handle], laidTests := true, laidLooks := .later }
def TopDirectCardSaid : Prop := Claim7.holds Tryz.pinned (.plain (OpenSpec.ofChange topDirectSpec)) topDirectCard

/-- THE SECOND FORM's CARD OF 'sigillumtop.TopOnce'. -/
def topOnceUptoCard : Claim7 := { stood := { row := topOnceUptoRow, standIns := [], harness := (true, "929a5e8129f568b5f234f139c0a6dab8b8ac54b97ca6f3af64dacf8ba11b9b79"), looks := true }, kinds := [], alts := [], laidByText := true, laidKinds := [.handle], laidTests := true, laidLooks := .later }
def TopOnceUptoCardSaid : Prop := Claim7.holds Tryz.pinned (.plain (OpenSpec.upto topOnceSpec)) topOnceUptoCard

/-- THE SECOND FORM's CARD OF 'sigillumtop.TopReplies'. -/
def topRepliesUptoCard : Claim7 := { stood := { row := topRepliesUptoRow, standIns := [], harness := (true, "929a5e8129f568b5f234f139c0a6dab8b8ac54b97ca6f3af64dacf8ba11b9b79"), looks := true }, kinds := [], alts := [], laidByText := true, laidKinds := [.handle], laidTests := true, laidLooks := .later }
def TopRepliesUptoCardSaid : Prop := Claim7.holds Tryz.pinned (.plain (OpenSpec.upto topRepliesSpec)) topRepliesUptoCard

/-- THE SECOND FORM's CARD OF 'sigillumtop.TopTape'. -/
def topTapeUptoCard : Claim7 := { stood := { row := topTapeUptoRow, standIns := [], harness := (true, "929a5e8129f568b5f234f139c0a6dab8b8ac54b97ca6f3af64dacf8ba11b9b79"), looks := true }, kinds := [], alts := [], laidByText := true, laidKinds := [.handle], laidTests := true, laidLooks := .later }
def TopTapeUptoCardSaid : Prop := Claim7.holds Tryz.pinned (.plain (OpenSpec.upto topTapeSpec)) topTapeUptoCard

/-- THE SECOND FORM's CARD OF 'sigillumtop.TopDirect'. -/
def topDirectUptoCard : Claim7 := { stood := { row := topDirectUptoRow, standIns := [], harness := (true, "929a5e8129f568b5f234f139c0a6dab8b8ac54b97ca6f3af64dacf8ba11b9b79"), looks := true }, kinds := [], alts := [], laidByText := true, laidKinds := [.handle], laidTests := true, laidLooks := .later }
def TopDirectUptoCardSaid : Prop := Claim7.holds Tryz.pinned (.plain (OpenSpec.upto topDirectSpec)) topDirectUptoCard
end Rows
end Go.Proofs.YtnphfcaokjdigaaGreatDoor
