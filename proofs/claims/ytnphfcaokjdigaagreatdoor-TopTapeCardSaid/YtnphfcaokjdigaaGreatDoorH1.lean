/- A tape as it lies in memory; Taken, Left, Draw: what they answer and leave. -/
import Derived.Test.YtnphfcaokjdigaaGreatDoorF44
namespace Go.Proofs.YtnphfcaokjdigaaGreatDoor.PA
open Go.RowKit Go.Proofs.YtnphfcaokjdigaaGreatDoorW.PrintWords Go.Proofs.YtnphfcaokjdigaaGreatDoorW.PrintLast Go.Proofs.YtnphfcaokjdigaaGreatDoorW.PrintMore
set_option linter.unusedVariables false
set_option linter.unusedSimpArgs false
/-- a tape at block g: its entries (they lie in the blocks of ok), and how many have been taken -/
def IsTape (w : World) (g : Nat) (ok : Nat → Prop) (xs : List Int) (n : Nat) : Prop :=
  ∃ A c, w.heap[g]? = some (.cells #[.slice A xs.length c, .int .i64 (n : Int)] 120 (0, 0)) ∧ xs.length ≤ c ∧ Kd.F (Kd.int .u64) w ok A xs.length xs ∧ (∀ k, ok k → k ≠ g) ∧ n ≤ xs.length
section
variable {w w1 : World} {g : Nat} {ok ok' : Nat → Prop} {xs : List Int} {n : Nat}
theorem IsTape.lt (h : IsTape w g ok xs n) : g < w.heap.size := by
  obtain ⟨A, c, hb, _⟩ := h
  exact blk_lt hb
theorem IsTape.le (h : IsTape w g ok xs n) : n ≤ xs.length := by
  obtain ⟨A, c, hb, _, _, _, h⟩ := h
  exact h
theorem IsTape.size (h : IsTape w g ok xs n) : xs.length ≤ 9223372036854775807 := by
  obtain ⟨A, c, hb, _, hF, _⟩ := h
  exact (Kd.F_now hF).2.1
theorem IsTape.step (h : IsTape w g ok xs n) (hm : ∀ k, (k = g ∨ ok k) → k < w.heap.size → w1.heap[k]? = w.heap[k]?) : IsTape w1 g ok xs n := by
  obtain ⟨A, c, hb, hl, hF, hne, hn⟩ := h
  exact ⟨A, c, (hm g (.inl rfl) (blk_lt hb)).trans hb, hl, Kd.F_step hF (fun k hk hlt => hm k (.inr hk) hlt), hne, hn⟩
theorem IsTape.below (h : IsTape w g ok xs n) (hb : Below w.heap.size w w1) : IsTape w1 g ok xs n := h.step (fun k _ hlt => hb.block k hlt)
theorem IsTape.bound (h : IsTape w g ok xs n) : IsTape w g (fun k => ok k ∧ k < w.heap.size) xs n := by
  obtain ⟨A, c, hb, hl, hF, hne, hn⟩ := h
  exact ⟨A, c, hb, hl, Kd.F_bound hF, fun k hk => hne k hk.1, hn⟩
theorem IsTape.mono (h : IsTape w g ok xs n) (hok : ∀ k, ok k → ok' k) (hne : ∀ k, ok' k → k ≠ g) : IsTape w g ok' xs n := by
  obtain ⟨A, c, hb, hl, hF, _, hn⟩ := h
  exact ⟨A, c, hb, hl, Kd.F_mono hF hok, hne, hn⟩
theorem IsTape.keep {g' : Nat} (h : IsTape w g ok xs n) (hk : KeepBut w w1 g' none) (hg : g ≠ g') (hne : ∀ k, ok k → k < w.heap.size → k ≠ g') : IsTape w1 g ok xs n :=
  h.step (fun k hk' hlt => hk.2 k hlt (by rcases hk' with rfl | h'; exact hg; exact hne k h' hlt) (by simp))
theorem IsTape.set (h : IsTape w g ok xs n) (m : Nat) (hm : m ≤ xs.length) : IsTape (w.setCell ⟨g, 1, none⟩ (.int .i64 (m : Int))) g ok xs m := by
  obtain ⟨A, c, hb, hl, hF, hne, hn⟩ := h
  exact ⟨A, c, by simpa using blk_set hb 1 (.int .i64 (m : Int)), hl, Kd.F_far hF (p := ⟨g, 1, none⟩) hne _, hne, hm⟩
end
theorem draw_some (w : World) (g : Nat) (ok : Nat → Prop) (xs : List Int) (n : Nat) (h : IsTape w g ok xs n) (hn : n < xs.length) :
    Calls Tryz.prog 73 #[.pointer (some ⟨g, 0, none⟩)] w fun e w' => e = .returned (.tuple #[.int .u64 (xs.getD n 0), .nilIface]) ∧ IsTape w' g ok xs (n + 1) ∧ KeepBut w w' g none ∧ Below g w w' := by
  have hs := h.size
  have HT := Aside0.mk h
  obtain ⟨A, c, hb, hl, hF, hne, _⟩ := h
  have hc0 := cellS120_0 hb
  have hc1 := cellS120_1 hb
  have hf1 := blk_frozen hb 1
  have hg := blk_lt hb
  have w1 : wrap64 ((n : Int) + 1) = (n : Int) + 1 := by unfold wrap64; omega
  obtain ⟨ad, hA, hx⟩ := Kd.at_int (Kd.F_now (Kd.F_far hF (p := ⟨g, 1, none⟩) hne (.int .i64 ((n : Int) + 1)))) (n : Int) (by omega) (by omega)
  cases hA
  have er : rd xs (n : Int) = xs.getD n 0 := by simp [rd]
  rw [er, Int.toNat_natCast] at hx
  have hy : ∀ m, ((w.drewN m).setCell ⟨g, 1, none⟩ (.int .i64 ((n : Int) + 1))).cell? (ad.add n) = some (.int .u64 (xs.getD n 0)) := fun m => hx
  clear hF hne hl er hb
  go_enter Tryz.func73, Tryz.ntmps73
  go_wp2
  repeat (go_quiet (fail); try go_wp2)
  go_ret2
  have hT := fun m => (HT.out.below (w1 := w.drewN m) (by repeat (first | exact Below.refl _ _ | apply below_alloc | apply pw_below_drewN | apply below_drew1))).set (n + 1) hn
  refine ⟨by simp [hn], (hT _).below (by repeat (first | exact Below.refl _ _ | apply below_alloc | apply pw_below_drewN | apply below_drew1)), ?_, ?_⟩
  · repeat (first | exact KeepBut.of_below (Below.refl _ _) g none | apply KeepBut.set_ | apply keep_drewN | apply keep_drew | apply keep_alloc)
  · repeat (first | exact Below.refl _ _ | apply below_alloc | apply pw_below_drewN | apply below_drew1 | (refine Below.setCell (p := ⟨g, 1, none⟩) ?_ (Nat.le_refl g) _))
theorem draw_none (w : World) (g : Nat) (ok : Nat → Prop) (xs : List Int) (h : IsTape w g ok xs xs.length) :
    Calls Tryz.prog 73 #[.pointer (some ⟨g, 0, none⟩)] w fun e w' => e = .returned (.tuple #[.int .u64 0, .iface 74 (.int .i64 7)]) ∧ IsTape w' g ok xs xs.length ∧ KeepBut w w' g none ∧ Below g w w' := by
  have hs := h.size
  have HT := Aside0.mk h
  obtain ⟨A, c, hb, hl, hF, hne, _⟩ := h
  have hc0 := cellS120_0 hb
  have hc1 := cellS120_1 hb
  have hg := blk_lt hb
  clear hF hne hl hb
  go_enter Tryz.func73, Tryz.ntmps73
  go_wp2
  repeat (go_quiet (fail); try go_wp2)
  go_ret2
  have hB : ∀ m, Below w.heap.size w (w.drewN m) := fun m => by repeat (first | exact Below.refl _ _ | apply below_alloc | apply pw_below_drewN | apply below_drew1)
  exact ⟨rfl, HT.out.below (hB _), KeepBut.of_below (hB _) g none, (hB _).mono (Nat.le_of_lt hg)⟩
end Go.Proofs.YtnphfcaokjdigaaGreatDoor.PA
