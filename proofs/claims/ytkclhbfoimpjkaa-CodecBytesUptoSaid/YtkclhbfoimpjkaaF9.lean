-- By a program of this session (after the form of the print; not a text of the print's own)
import Derived.Test.YtkclhbfoimpjkaaF0
import Derived.Test.YtkclhbfoimpjkaaF10
import Derived.Test.YtkclhbfoimpjkaaF12
import Derived.Test.YtkclhbfoimpjkaaF13
import Derived.Test.YtkclhbfoimpjkaaF14
import Derived.Test.YtkclhbfoimpjkaaF15
import Derived.Lib.SmallJoins
namespace Go.Proofs.Ytkclhbfoimpjkaa.PA
open Go.RowKit Go.Proofs.YtkclhbfoimpjkaaW.PrintWords Go.Proofs.YtkclhbfoimpjkaaW.PrintLast Go.Proofs.YtkclhbfoimpjkaaW.PrintMore
attribute [local go_sem] max2_int min2_int max_two min_two max_three min_three max_four min_four   -- for this text's walks alone
set_option linter.unusedVariables false
set_option linter.unusedSimpArgs false
/-! ### sigillumlaw02_awake: function 9 -/
def sigillumlaw02_awake.f (k : Nat)  : Option (Bool) := (codec_Get.f k (([1, 2, 3] : List Int)) 1 2).bind fun bt125 => ((codec_PutBytes.f k ([] : List Int) (([97, 98] : List Int))).bind fun bt130 => ((codec_GetBytes.f k (([0, 2, 97] : List Int)) 0).bind fun bt137 => ((codec_Skip.f k (([1, 2, 3, 4] : List Int)) 1 (([1, 2] : List Int))).bind fun bt148 => ((codec_Put.f k ([] : List Int) 258 2).bind fun t150 => (if (strOfNums t150).toList = ([1, 2] : List UInt8) then (if bt125.1 = 515 then (if bt125.2 = true then (if (strOfNums bt130.1).toList = ([0, 2, 97, 98] : List UInt8) then (if bt130.2 = true then (if bt137.2.2 = true then (some false) else (if bt148.1 = 4 then (some bt148.2) else (some false))) else (some false)) else (some false)) else (some false)) else (some false)) else (some false))))))
theorem sigillumlaw02_awake.mono : ∀ k, LeO (sigillumlaw02_awake.f k ) (sigillumlaw02_awake.f (k + 1) ) := by
  intro  k
  unfold sigillumlaw02_awake.f
  repeat' first
      | (with_reducible exact codec_Get.mono _ _ _ _)
      | (with_reducible exact codec_GetBytes.mono _ _ _)
      | (with_reducible exact codec_Put.mono _ _ _ _)
      | (with_reducible exact codec_PutBytes.mono _ _ _)
      | (with_reducible exact codec_Skip.mono _ _ _ _)
      | (with_reducible exact LeO.refl _)
      | (with_reducible exact LeO.none _)
      | (with_reducible refine LeO.ite ?_ ?_)
      | (with_reducible refine LeO.bind ?_ (fun _ => ?_))
      | exact codec_Get.mono _ _ _ _
      | exact codec_GetBytes.mono _ _ _
      | exact codec_Put.mono _ _ _ _
      | exact codec_PutBytes.mono _ _ _
      | exact codec_Skip.mono _ _ _ _
      | exact LeO.none _
      | refine LeO.ite ?_ ?_
      | refine LeO.bind ?_ (fun _ => ?_)
theorem C_lit {k : IntKind} {W : World} {g : Nat} (xs : List Int) {e : TypeId} {m : Nat × Nat} (h : W.heap[g]? = some (.cells (xs.map (Value.int k)).toArray e m)) (hl : xs.length ≤ 9223372036854775807) :
    (Kd.int k).C W (some ⟨g, 0, none⟩) xs.length xs := by
  refine ⟨rfl, hl, fun _ => ⟨_, rfl, fun j p hj => ⟨[.int k p], rfl, rfl, fun i u hu => ?_⟩⟩⟩
  have hi : i = 0 := by
    obtain ⟨h1, _⟩ := List.getElem?_eq_some_iff.1 hu
    simp at h1
    exact h1
  subst hi
  have hu' : u = .int k p := by simpa using hu.symm
  subst hu'
  show W.cell? (Addr.add ⟨g, 0, none⟩ (j * 1 + 0)) = _
  by_cases hj0 : j = 0
  · subst hj0
    simp [World.cell?, Addr.add, h, hj]
  · simp [World.cell?, Addr.add, h, hj, hj0]
theorem at_new (W : World) (o : Obj) : (W.alloc o).heap[W.heap.size]? = some o := by show (W.heap.push o)[W.heap.size]? = _; simp
theorem at_newg (W : World) (o : Obj) (g : Nat) (hg : g = W.heap.size) : (W.alloc o).heap[g]? = some o := by subst hg; exact at_new W o
theorem awake_at : sigillumlaw02_awake.f 12 = some true := by decide +kernel
set_option maxHeartbeats 1000000 in
set_option maxRecDepth 100000 in
theorem awake_true (w : World) : Calls Try.prog 9 #[] w fun e w' => e = .returned (.bool true) ∧ Below w.heap.size w w' := by
  have kc := fun (w : World) (C : Array Value) (n c g : Nat) (hg : g = w.heap.size) => Joins.run_convert_bytes_const_at (P := Try.prog) w 22 5 C n c g hg Try.underlying22 Try.underlying5
  go_enter Try.func9, Try.ntmps9
  have hs1 : ((strOfNums [1, 2]).toList == [1, 2]) = true := by decide +kernel
  have hs2 : ((strOfNums [0, 2, 97, 98]).toList == [0, 2, 97, 98]) = true := by decide +kernel
  have HB := Aside0.mk (Below.refl w.heap.size w)
  go_wp2_with (first | (go_at_call 12; refine (codec_Get.calls 12 _ _ [1, 2, 3] 1 2 515 true _ ?s1 ?s2 (by decide +kernel)).mono ?_; (case s1 => exact C_lit [1, 2, 3] (at_newg _ _ _ (by simp)) (by decide)); (case s2 => decide); rintro e w' ⟨rfl, ⟨n1, rfl⟩⟩) | (go_at_call 13; refine (codec_PutBytes.calls 12 _ _ [] _ _ [97, 98] [0, 2, 97, 98] true _ ?s1 ?s2 ?s3 ?s4 (by decide +kernel)).mono ?_; (case s1 => exact Kd.C_nil _ _); (case s2 => decide); (case s3 => exact C_lit [97, 98] (at_newg _ _ _ (by simp)) (by decide)); (case s4 => decide); rintro e w1 ⟨v1, rfl, hr1, hb⟩; have n0_ := Aside0.mk (below_step (by repeat (first | (with_reducible first | exact HB.out | apply below_alloc | apply pw_below_drewN | apply below_drew1) | exact HB.out)) hb); clear HB; have HB := n0_; clear n0_; have HR1 := Aside0.mk hr1; have HC := Aside0.mk (Below.refl w1.heap.size w1); clear hr1 hb) | (go_at_call 14; refine (codec_GetBytes.calls 12 _ _ [0, 2, 97] 0 [] 0 false _ ?s1 ?s2 (by decide +kernel)).mono ?_; (case s1 => exact C_lit [0, 2, 97] (at_newg _ _ _ (by simp)) (by decide)); (case s2 => decide); rintro e w2 ⟨v2, rfl, hr2, hb⟩; have n0_ := Aside0.mk (below_step (by repeat (first | (with_reducible first | exact HB.out | apply below_alloc | apply pw_below_drewN | apply below_drew1) | exact HB.out)) hb); clear HB; have HB := n0_; clear n0_; have n0_ := Aside0.mk (below_step (by repeat (first | (with_reducible first | exact HC.out | apply below_alloc | apply pw_below_drewN | apply below_drew1) | exact HC.out)) hb); clear HC; have HC := n0_; clear n0_ hr2 hb) | (go_at_call 15; refine (codec_Skip.calls 12 _ _ [1, 2, 3, 4] 1 _ _ [1, 2] 4 true _ ?s1 ?s2 ?s3 ?s4 (by decide +kernel)).mono ?_; (case s1 => exact Kd.C_alloc (C_lit [1, 2, 3, 4] (at_newg _ _ _ (by simp)) (by decide)) _); (case s2 => decide); (case s3 => exact C_lit [1, 2] (at_newg _ _ _ (by simp)) (by decide)); (case s4 => decide); rintro e w' ⟨rfl, ⟨n3, rfl⟩⟩) | (go_at_call 10; refine (codec_Put.calls 12 _ _ [] 258 2 [1, 2] _ ?s1 ?s2 (by decide +kernel)).mono ?_; (case s1 => exact Kd.C_nil _ _); (case s2 => decide); rintro e w3 ⟨v3, rfl, hr3, hb⟩; have n0_ := Aside0.mk (below_step (by repeat (first | (with_reducible first | exact HB.out | apply below_alloc | apply pw_below_drewN | apply below_drew1) | exact HB.out)) hb); clear HB; have HB := n0_; clear n0_; have hb4 := below_step (by repeat (first | (with_reducible first | exact HC.out | apply below_alloc | apply pw_below_drewN | apply below_drew1) | exact HC.out)) hb; have e1 := own_string (P := Try.prog) Try.underlying22 Try.underlying5 Try.underlying9 (Kd.own_of_R hr3); have e2 := own_string (P := Try.prog) Try.underlying22 Try.underlying5 Try.underlying9 (Kd.own_of_R (Kd.R_below HR1.out hb4)); clear hr3 hb hb4 HC HR1))
  go_ret
  exact ⟨rfl, by repeat (first | (with_reducible first | exact HB.out | apply below_alloc | apply pw_below_drewN | apply below_drew1) | exact HB.out)⟩
theorem sigillumlaw02_awake.calls (k : Nat) (r : Bool) (w : World) (h : sigillumlaw02_awake.f k = some r) :
    Calls Try.prog 9 #[] w fun e w' => e = .returned (.bool r) ∧ Below w.heap.size w w' := by
  have hr : r = true := by
    have h1 := at_rounds (g := fun k => sigillumlaw02_awake.f k) sigillumlaw02_awake.mono (Nat.le_max_left k 12) h
    have h2 := at_rounds (g := fun k => sigillumlaw02_awake.f k) sigillumlaw02_awake.mono (Nat.le_max_right k 12) awake_at
    rw [h1] at h2
    exact Option.some.inj h2
  subst hr
  exact awake_true w

end Go.Proofs.Ytkclhbfoimpjkaa.PA
