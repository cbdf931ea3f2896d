/- A map as it lies in memory; Forget, Gone, Len: what they leave and answer. -/
import Derived.Test.YtbahpfmfjeafnaaH19
namespace Go.Proofs.Ytbahpfmfjeafnaa.PA
open Go.RowKit Go.Proofs.YtbahpfmfjeafnaaW.PrintWords Go.Proofs.YtbahpfmfjeafnaaW.PrintLast Go.Proofs.YtbahpfmfjeafnaaW.PrintMore
set_option linter.unusedVariables false
set_option linter.unusedSimpArgs false
/-- a map at block g: its places (they lie in the blocks of ok), and how long each is believed -/
def IsMap (w : World) (g : Nat) (ok : Nat → Prop) (xs : List S53) (age : Int) : Prop :=
  ∃ A c, w.heap[g]? = some (.cells #[.slice A xs.length c, .int .i64 age] 51 (0, 0)) ∧ xs.length ≤ c ∧ Kd.F k53 w ok A xs.length xs ∧ (∀ k, ok k → k ≠ g)
section
variable {w w1 : World} {g : Nat} {ok ok' : Nat → Prop} {xs : List S53} {age : Int}
theorem IsMap.lt (h : IsMap w g ok xs age) : g < w.heap.size := by
  obtain ⟨A, c, hb, _⟩ := h
  exact blk_lt hb
theorem IsMap.step (h : IsMap w g ok xs age) (hm : ∀ k, (k = g ∨ ok k) → k < w.heap.size → w1.heap[k]? = w.heap[k]?) : IsMap w1 g ok xs age := by
  obtain ⟨A, c, hb, hl, hF, hne⟩ := h
  exact ⟨A, c, (hm g (.inl rfl) (blk_lt hb)).trans hb, hl, Kd.F_step hF (fun k hk hlt => hm k (.inr hk) hlt), hne⟩
theorem IsMap.below (h : IsMap w g ok xs age) (hb : Below w.heap.size w w1) : IsMap w1 g ok xs age := h.step (fun k _ hlt => hb.block k hlt)
theorem IsMap.bound (h : IsMap w g ok xs age) : IsMap w g (fun k => ok k ∧ k < w.heap.size) xs age := by
  obtain ⟨A, c, hb, hl, hF, hne⟩ := h
  exact ⟨A, c, hb, hl, Kd.F_bound hF, fun k hk => hne k hk.1⟩
theorem IsMap.mono (h : IsMap w g ok xs age) (hok : ∀ k, ok k → ok' k) (hne : ∀ k, ok' k → k ≠ g) : IsMap w g ok' xs age := by
  obtain ⟨A, c, hb, hl, hF, _⟩ := h
  exact ⟨A, c, hb, hl, Kd.F_mono hF hok, hne⟩
theorem IsMap.of_R {w0 : World} {v : Value} (hb : w1.heap[g]? = some (.cells #[v, .int .i64 age] 51 (0, 0))) (hR : Kd.R k53 53 w1 w0.heap.size (fun _ => True) v xs) (hg : g < w0.heap.size) : IsMap w1 g (fun k => w0.heap.size ≤ k) xs age := by
  have h1 := Kd.R_mono (Kd.R_bound hR) (ok' := fun k => w0.heap.size ≤ k) (fun k hk => hk.2.1)
  obtain ⟨A, c, rfl⟩ := Kd.R_slice h1
  exact ⟨A, c, hb, (Kd.R_reads' h1).2.1, Kd.R_F h1, fun k hk => by omega⟩
end
theorem forget_calls (w : World) (g : Nat) (ok : Nat → Prop) (xs : List S53) (age port : Int) (h : IsMap w g ok xs age) (hn : xs.length ≤ 1000) :
    Calls Try.prog 13 #[.pointer (some ⟨g, 0, none⟩), .int .u64 port] w fun e w' => e = .returned (.tuple #[]) ∧ IsMap w' g (fun k => w.heap.size ≤ k) (xs.filter (fun x => x.f0 != port)) age ∧ KeepBut w w' g none ∧ Below g w w' := by
  obtain ⟨A, c, hb, hl, hF, hne⟩ := h
  have hmf : ∀ (fn : Fn) (first cap : Array Value) (w : World), (Instr.makeFunc fn first cap).run Try.prog w = .ok (.func fn first cap) w := fun _ _ _ _ => rfl
  have hg := blk_lt hb
  have HB := Aside0.mk hb
  have HF := Aside0.mk hF
  clear hb hF hne
  go_enter Try.func13, Try.ntmps13
  go_wp2_with (fail)
  have hbel : Below w.heap.size w (w.alloc (.cells #[.int .u64 port] 22)) := (Below.refl _ _).alloc (Nat.le_refl _) _
  refine (keep20 _ g A c xs age port w.heap.size ((hbel.block g hg).trans HB.out) (Kd.F_now (Kd.F_below HF.out hbel)) (by rw [World.cell?_alloc_at _ _ _ _ rfl]; rfl) (by simp) hn).mono ?_
  rintro e w' ⟨rfl, v, h1, h2, h3, h4⟩
  go_wp2
  go_end0
  refine ⟨rfl, IsMap.of_R h1 (Kd.R_lower h2 hbel.size) hg, ⟨Nat.le_trans hbel.size h3.1, fun i hi hig hir => (h3.2 i (Nat.lt_of_lt_of_le hi hbel.size) hig hir).trans (hbel.block i hi)⟩, (hbel.mono (Nat.le_of_lt hg)).trans h4⟩
theorem gone_calls (w : World) (g : Nat) (ok : Nat → Prop) (xs : List S53) (age node : Int) (h : IsMap w g ok xs age) (hn : xs.length ≤ 1000) :
    Calls Try.prog 14 #[.pointer (some ⟨g, 0, none⟩), .int .i64 node] w fun e w' => e = .returned (.tuple #[]) ∧ IsMap w' g (fun k => w.heap.size ≤ k) (xs.filter (fun x => x.f1 != node)) age ∧ KeepBut w w' g none ∧ Below g w w' := by
  obtain ⟨A, c, hb, hl, hF, hne⟩ := h
  have hmf : ∀ (fn : Fn) (first cap : Array Value) (w : World), (Instr.makeFunc fn first cap).run Try.prog w = .ok (.func fn first cap) w := fun _ _ _ _ => rfl
  have hg := blk_lt hb
  have HB := Aside0.mk hb
  have HF := Aside0.mk hF
  clear hb hF hne
  go_enter Try.func14, Try.ntmps14
  go_wp2_with (fail)
  have hbel : Below w.heap.size w (w.alloc (.cells #[.int .i64 node] 3)) := (Below.refl _ _).alloc (Nat.le_refl _) _
  refine (keep21 _ g A c xs age node w.heap.size ((hbel.block g hg).trans HB.out) (Kd.F_now (Kd.F_below HF.out hbel)) (by rw [World.cell?_alloc_at _ _ _ _ rfl]; rfl) (by simp) hn).mono ?_
  rintro e w' ⟨rfl, v, h1, h2, h3, h4⟩
  go_wp2
  go_end0
  refine ⟨rfl, IsMap.of_R h1 (Kd.R_lower h2 hbel.size) hg, ⟨Nat.le_trans hbel.size h3.1, fun i hi hig hir => (h3.2 i (Nat.lt_of_lt_of_le hi hbel.size) hig hir).trans (hbel.block i hi)⟩, (hbel.mono (Nat.le_of_lt hg)).trans h4⟩
theorem len_calls (w : World) (g : Nat) (ok : Nat → Prop) (xs : List S53) (age : Int) (h : IsMap w g ok xs age) :
    Calls Try.prog 12 #[.pointer (some ⟨g, 0, none⟩)] w fun e w' => e = .returned (.int .i64 xs.length) ∧ w' = w := by
  obtain ⟨A, c, hb, hl, hF, hne⟩ := h
  have hc0 := cellS51_0 hb
  clear hb hF hne hl
  go_enter Try.func12, Try.ntmps12
  go_wp2
  go_ret
  exact ⟨rfl, rfl⟩
end Go.Proofs.Ytbahpfmfjeafnaa.PA
