/- TopTape (the tied card): for every slice of entries, every capability and every byte of rights, the law returns true, and each argument reads behind the call as it read before. Conditions: errors.errorType reads when the call begins as the program text lays it (the card ties it); the entries weigh no more than the reach of an input. -/
import Derived.Test.YtnphfcaokjdigaaGreatDoorRowTopTape
import Derived.Test.YtnphfcaokjdigaaGreatDoorTie
import Derived.Test.YtnphfcaokjdigaaGreatDoorCards
import Derived.SevenTiedAt
set_option linter.unusedVariables false
set_option linter.unusedSimpArgs false
namespace Go.Proofs.YtnphfcaokjdigaaGreatDoor
open Go
theorem topTape_card_holds : Rows.TopTapeCardSaid :=
  Claim7.holds_tied_plain_at .later [] [.handle] true (true, "929a5e8129f568b5f234f139c0a6dab8b8ac54b97ca6f3af64dacf8ba11b9b79") true
    topTape.proved (fun _ h => by cases h) (by kernel_rfl) (fun _ h => by cases h) topTape_row_tie rfl ⟨rfl, rfl⟩ (by kernel_rfl) rfl
    (fun f fn hf hfn => by
      obtain rfl : f = 5 := Option.some.inj ((show Tryz.prog.funcNamed "sigillum/sigillumtop.TopTape" = some 5 by kernel_rfl).symm.trans hf) |>.symm
      obtain rfl : fn = Tryz.f5 := (Option.some.inj (Tryz.func5.symm.trans hfn)).symm
      exact ⟨by kernel_rfl, fun j t ht => by
        rw [Tryz.params5] at ht
        rcases j with _ | _ | _ | j
        · obtain rfl : 34 = t := by simpa using ht
          exact (show Tryz.prog.wantsStandIn 34 = false by kernel_rfl)
        · obtain rfl : 39 = t := by simpa using ht
          exact (show Tryz.prog.wantsStandIn 39 = false by kernel_rfl)
        · obtain rfl : 5 = t := by simpa using ht
          exact (show Tryz.prog.wantsStandIn 5 = false by kernel_rfl)
        · simp at ht⟩)
    (by kernel_rfl)
#print axioms topTape_card_holds
end Go.Proofs.YtnphfcaokjdigaaGreatDoor
