/- Awake answers true and keeps what was there, in every world. -/
import Derived.Test.YtnphfcaokjdigaaGreatDoorV0
import Derived.Test.YtnphfcaokjdigaaGreatDoorV20
import Derived.Below
set_option linter.unusedVariables false
set_option linter.unusedSimpArgs false
namespace Go.Proofs
open Go Go.Ev Go.RowKit
set_option maxRecDepth 100000
theorem awake_names : (Tryz.prog.funcs.all fun fn => !(fn.name == "runtime.NumGoroutine")) = true := by kernel_rfl
theorem awake_mixed : Tryz.prog.follows .mixedOrders = true := by kernel_rfl
theorem awake_noNum : NoNum Tryz.prog := fun f fn h => by
  have := Array.all_eq_true_iff_forall_mem.1 awake_names fn (Array.mem_of_getElem? h)
  simpa using this
/-- The whole run: it answers true; nothing of what was there has turned. -/
theorem awake_calls (w : World) : Calls Tryz.prog 7 #[] w fun e w' => e = .returned (.bool true) ∧ Below w.heap.size w w' := by
  obtain ⟨_, v, σ', h1, _, h2⟩ := fn_sound awake_noNum (drawn_sound awake_noNum awake_mixed) 60 t1
  obtain ⟨b, rfl, hb⟩ := asB_spec h1
  have hb : b = true := hb
  subst hb
  have hR : R ⟨fun b => b < w.heap.size, fun b => w.heap[b]?, w.os, w.tape, w.output⟩ σ'.N (fun _ => none) ((T.e : T AO).get) 0 w :=
    ⟨⟨rfl, rfl, rfl, fun b hb => ⟨hb, rfl⟩⟩, fun id o ho => (by rw [T.get_e] at ho; cases ho), fun i j pl pl' a => absurd (T.get_e i) a, fun _ _ _ => rfl⟩
  refine Calls.mono (h2 (args' := []) (Nat.le_refl _) hR VRs.nil) fun e w' ⟨v', he, m', _, hv, hR'⟩ => ?_
  cases hv
  refine ⟨he, hR'.base.os, hR'.base.tape, hR'.base.output, ?_, fun k hk => (hR'.base.fr k hk).2⟩
  rcases Nat.eq_zero_or_pos w.heap.size with c | c
  · omega
  · have := (hR'.base.fr (w.heap.size - 1) (by show w.heap.size - 1 < w.heap.size; omega)).1
    omega
end Go.Proofs
