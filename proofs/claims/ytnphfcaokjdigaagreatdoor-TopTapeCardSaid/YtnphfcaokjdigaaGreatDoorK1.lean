/- The number of an error; a table that is empty; a capability; a check of a secret. -/
import Derived.Test.YtnphfcaokjdigaaGreatDoorH6
import Derived.Test.YtnphfcaokjdigaaGreatDoorAs
namespace Go.Proofs.YtnphfcaokjdigaaGreatDoor.PA
open Go.RowKit Go.Proofs.YtnphfcaokjdigaaGreatDoorW.PrintWords Go.Proofs.YtnphfcaokjdigaaGreatDoorW.PrintLast Go.Proofs.YtnphfcaokjdigaaGreatDoorW.PrintMore
set_option linter.unusedVariables false
set_option linter.unusedSimpArgs false
theorem number_nil (w : World) : Calls Tryz.prog 23 #[.nilIface] w fun e w' => e = .returned (.int .i64 0) ∧ Below w.heap.size w w' := by
  have HB := Aside0.mk ((Below.refl w.heap.size w).alloc (Nat.le_refl _) (.cells #[.int .i64 0] 74))
  go_enter Tryz.func23, Tryz.ntmps23
  go_wp2_with (fail)
  refine (as_nil _ _).mono ?_
  rintro e w1 ⟨rfl, rfl⟩
  go_wp2_with (fail)
  go_ret
  exact ⟨rfl, HB.out⟩
theorem number_hit (c : Int) (w : World) (hg : w.cell? ⟨0, 0, none⟩ = some (.iface 246 (.agg #[.pointer (some ⟨1, 26, none⟩)]))) :
    Calls Tryz.prog 23 #[.iface 74 (.int .i64 c)] w fun e w' => e = .returned (.int .i64 c) ∧ Below w.heap.size w w' := by
  have hlt : 0 < w.heap.size := by
    rcases Nat.eq_zero_or_pos w.heap.size with h0 | h
    · simp [World.cell?, h0] at hg
    · exact h
  have hA := as_hit c ⟨w.heap.size, 0, none⟩ (.int .i64 0) (w.alloc (.cells #[.int .i64 0] 74)) (by rw [World.cell?_alloc_lt _ _ ⟨0, 0, none⟩ hlt]; exact hg) (by rw [World.cell?_alloc_at _ _ _ _ (by simp)]; rfl) (blk_frozen (heap_alloc_new w (.cells #[.int .i64 0] 74)) 0)
  clear hg
  go_enter Tryz.func23, Tryz.ntmps23
  go_wp2_with (fail)
  refine hA.mono ?_
  rintro e w1 ⟨rfl, rfl⟩
  go_wp2_with (fail)
  go_ret
  exact ⟨rfl, by repeat (first | exact Below.refl _ _ | apply below_alloc)⟩
theorem tab_of (p : Int) (go : Nat) (w : World) : Calls Tryz.prog 18 #[.int .u64 p, .pointer (some ⟨go, 0, none⟩)] w fun e w' =>
    e = .returned (.pointer (some ⟨w.heap.size, 0, none⟩)) ∧ w' = w.alloc (.cells #[.int .u64 p, .pointer (some ⟨go, 0, none⟩), .slice none 0 0] 115) := by
  go_enter Tryz.func18, Tryz.ntmps18
  go_wp2
  go_ret
  exact ⟨rfl, rfl⟩
theorem cap_calls (p : Int) (g : Nat) (k r s : Int) (w : World) (h0 : w.cell? ⟨g, 0, none⟩ = some (.int .u64 p)) (hk : 0 ≤ k ∧ k < 4294967296) : Calls Tryz.prog 46 #[.pointer (some ⟨g, 0, none⟩), .int .i64 k, .int .u8 r, .int .u64 s] w fun e w' =>
    e = .returned (.agg #[.int .u64 p, .int .u32 k, .int .u8 r, .int .u64 s]) ∧ Below w.heap.size w w' := by
  have hlt : g < w.heap.size := by
    rcases Nat.lt_or_ge g w.heap.size with h | h
    · exact h
    · simp [World.cell?, Array.getElem?_eq_none h] at h0
  have h1 := fun o => (World.cell?_alloc_lt w o ⟨g, 0, none⟩ hlt).trans h0
  have hk1 : k % 4294967296 = k := by omega
  clear h0
  go_enter Tryz.func46, Tryz.ntmps46
  go_wp2
  refine bodyPost_ret (results_cell_row rfl _ _ w.heap.size 39 #[.int .u64 p, .int .u32 k, .int .u8 r, .int .u64 s] (0, 0) _ rfl (heap_alloc_new w _) Tryz.underlying39 rfl (by kernel_rfl)) rfl ?_
  exact ⟨rfl, by repeat (first | exact Below.refl _ _ | apply below_alloc)⟩
theorem mixed_calls (s r : Int) (w : World) : Calls Tryz.prog 107 #[.int .u64 s, .int .u8 r] w fun e w' => ∃ m, e = .returned (.int .u64 m) ∧ w' = w := by
  go_enter Tryz.func107, Tryz.ntmps107
  go_wp2_with (fail)
  refine (cut_calls s w).mono ?_
  rintro e w1 ⟨rfl, rfl⟩
  go_wp2_with (fail)
  go_ret
  exact ⟨_, rfl, rfl⟩
/-- From w to w' only blocks of S have turned, and new ones are there. -/
structure Kp (S : Nat → Prop) (w w' : World) : Prop where
  env : Below 0 w w'
  keep : ∀ k, k < w.heap.size → ¬ S k → w'.heap[k]? = w.heap[k]?
theorem Kp.of_below {S : Nat → Prop} {w w' : World} (h : Below w.heap.size w w') : Kp S w w' := ⟨h.mono (Nat.zero_le _), fun k hk _ => h.block k hk⟩
theorem Kp.trans {S : Nat → Prop} {w w1 w2 : World} (h : Kp S w w1) (h' : Kp S w1 w2) : Kp S w w2 :=
  ⟨h.env.trans h'.env, fun k hk hS => (h'.keep k (Nat.lt_of_lt_of_le hk h.env.size) hS).trans (h.keep k hk hS)⟩
theorem Kp.mono {S S' : Nat → Prop} {w w' : World} (h : Kp S w w') (hs : ∀ k, S k → S' k) : Kp S' w w' := ⟨h.env, fun k hk hn => h.keep k hk fun hS => hn (hs k hS)⟩
theorem Kp.of_keep {g : Nat} {w w' : World} (h : KeepBut w w' g none) (hb : Below g w w') : Kp (fun k => k = g) w w' := ⟨hb.mono (Nat.zero_le _), fun k hk hn => h.2 k hk hn (by simp)⟩
/-- What a secret's check is, of an oracle without answers. -/
def tokW (r s : Int) (xs : List Int) (n : Nat) : Int := if r = 255 then cutw s else xs.getD n 0
def tokE (r : Int) (xs : List Int) (n : Nat) : Option Int := if r = 255 then none else if n < xs.length then none else some 7
theorem tok_calls (w : World) (g gt B : Nat) (okT : Nat → Prop) (xs : List Int) (n : Nat) (r s : Int) (h : IsOracle w g gt B (.slice none 0 0) okT [] xs n) :
    Calls Tryz.prog 74 #[.pointer (some ⟨g, 0, none⟩), .int .u64 s, .int .u8 r] w fun e w' => e = .returned (.tuple #[.int .u64 (tokW r s xs n), errW (tokE r xs n)]) ∧ Kp (fun k => k = g ∨ k = gt) w w' := by
  have hle := h.tape.le
  by_cases c : r = 255
  · subst c
    simp only [tokW, tokE, if_true]
    clear h
    go_enter Tryz.func74, Tryz.ntmps74
    go_wp2_with (fail)
    refine (cut_calls s w).mono ?_
    rintro e w1 ⟨rfl, rfl⟩
    go_wp2_with (fail)
    go_ret2
    exact ⟨rfl, Kp.of_below (Below.refl _ _)⟩
  · have cb : (r == 255) = false := by simp [c]
    have HO := Aside0.mk h
    simp only [tokW, tokE, if_neg c]
    by_cases hn : n < xs.length
    · rw [if_pos hn]
      have hA := fun m => ask_new w g gt B (.slice none 0 0) okT [] xs n 1 m h rfl hn (by simp)
      obtain ⟨x, hx⟩ : ∃ x, xs.getD n 0 = x := ⟨_, rfl⟩
      rw [hx] at hA ⊢
      clear h hx c
      go_enter Tryz.func74, Tryz.ntmps74
      go_wp2_with (fail)
      refine (mixed_calls s r w).mono ?_
      rintro e w1 ⟨m, rfl, rfl⟩
      have hA1 := Aside0.mk (hA m)
      clear hA
      go_wp2_with (fail)
      refine hA1.out.mono ?_
      rintro e w2 ⟨rfl, v1, _, hk, _, hs, hb⟩
      have HK := Aside0.mk hk
      have HB := Aside0.mk hb
      clear hk hb hA1
      go_wp2_with (fail)
      go_ret2
      exact ⟨rfl, HB.out.mono (Nat.zero_le _), fun k hk hn => HK.out k hk (fun e => hn (.inl e)) (fun e => hn (.inr e)) (by simp [Value.ownBlock])⟩
    · rw [if_neg hn]
      obtain rfl : n = xs.length := by omega
      have hA := fun m => ask_none w g gt B (.slice none 0 0) okT [] xs 1 m h rfl
      have h0 : xs.getD xs.length 0 = 0 := by simp
      rw [h0]
      clear h c
      go_enter Tryz.func74, Tryz.ntmps74
      go_wp2_with (fail)
      refine (mixed_calls s r w).mono ?_
      rintro e w1 ⟨m, rfl, rfl⟩
      have hA1 := Aside0.mk (hA m)
      clear hA
      go_wp2_with (fail)
      refine hA1.out.mono ?_
      rintro e w2 ⟨rfl, _, hk, hb⟩
      have HK := Aside0.mk hk
      have HB := Aside0.mk hb
      clear hk hb hA1
      go_wp2_with (fail)
      go_ret2
      exact ⟨rfl, (Kp.of_keep HK.out HB.out).mono fun k e => .inr e⟩
/-- Is the check of a capability the one of a secret? -/
def goodB (r s ck : Int) (xs : List Int) (n : Nat) : Bool := (tokE r xs n).isNone && (tokW r s xs n == ck)
theorem good_calls (w : World) (g gt B : Nat) (okT : Nat → Prop) (xs : List Int) (n : Nat) (p k r s ck : Int) (h : IsOracle w g gt B (.slice none 0 0) okT [] xs n) :
    Calls Tryz.prog 47 #[.pointer (some ⟨g, 0, none⟩), .int .u64 s, .agg #[.int .u64 p, .int .u32 k, .int .u8 r, .int .u64 ck]] w fun e w' =>
      e = .returned (.tuple #[.bool (goodB r s ck xs n), errW (tokE r xs n)]) ∧ Kp (fun k => k = g ∨ k = gt) w w' := by
  have hT := tok_calls (w.alloc (.cells #[.int .u64 p, .int .u32 k, .int .u8 r, .int .u64 ck] 39)) g gt B okT xs n r s (h.below ((Below.refl _ _).alloc (Nat.le_refl _) _))
  have HN := Aside0.mk (heap_alloc_new w (.cells #[.int .u64 p, .int .u32 k, .int .u8 r, .int .u64 ck] 39))
  have hne : w.heap.size ≠ g ∧ w.heap.size ≠ gt := ⟨fun e => by have := blk_lt h.1; omega, fun e => by have := h.tape.lt; omega⟩
  have HNE := Aside0.mk hne
  simp only [goodB]
  generalize tokW r s xs n = want at hT ⊢
  generalize tokE r xs n = E at hT ⊢
  clear h hne
  go_enter Tryz.func47, Tryz.ntmps47
  go_wp2_with (fail)
  refine hT.mono ?_
  rintro e w2 ⟨rfl, hk⟩
  have hb : w2.heap[w.heap.size]? = some (.cells #[.int .u64 p, .int .u32 k, .int .u8 r, .int .u64 ck] 39 (0, 0)) := (hk.keep _ (by simp) (fun e => e.elim HNE.out.1 HNE.out.2)).trans HN.out
  have hc3 : w2.cell? ⟨w.heap.size, 3, none⟩ = some (.int .u64 ck) := (blk_cell hb 3).trans rfl
  have HK := Aside0.mk ((Kp.of_below (S := fun k => k = g ∨ k = gt) ((Below.refl _ _).alloc (Nat.le_refl _) (.cells #[.int .u64 p, .int .u32 k, .int .u8 r, .int .u64 ck] 39))).trans hk)
  clear hb hk hT
  cases E with
  | none =>
    simp only [errW]
    go_wp2_with (fail)
    go_ret2
    exact ⟨by simp [errW], HK.out⟩
  | some c =>
    simp only [errW]
    go_wp2_with (fail)
    go_ret2
    exact ⟨by simp [errW], HK.out⟩
end Go.Proofs.YtnphfcaokjdigaaGreatDoor.PA
