/- A tape, its checks, and what is drawn: the law, of entries that are there. -/
import Derived.Test.YtnphfcaokjdigaaGreatDoorK3
import Derived.Test.YtnphfcaokjdigaaGreatDoorV21
namespace Go.Proofs.YtnphfcaokjdigaaGreatDoor.PA
open Go.RowKit Go.Proofs.YtnphfcaokjdigaaGreatDoorW.PrintWords Go.Proofs.YtnphfcaokjdigaaGreatDoorW.PrintLast Go.Proofs.YtnphfcaokjdigaaGreatDoorW.PrintMore
set_option linter.unusedVariables false
set_option linter.unusedSimpArgs false
/-- All of a table's blocks lie from lo on, below hi. -/
structure Rg (lo hi g go gt : Nat) (okT : Nat → Prop) : Prop where
  g : lo ≤ g ∧ g < hi
  go : lo ≤ go ∧ go < hi
  gt : lo ≤ gt ∧ gt < hi
  ok : ∀ k, okT k → lo ≤ k ∧ k < hi
section
variable {w w' : World} {g go gt B b lo hi : Nat} {okT : Nat → Prop} {xs : List Int} {n : Nat} {s : Int} {S : Nat → Prop}
theorem Rg.all (r : Rg lo hi g go gt okT) {k : Nat} (h : k = g ∨ k = go ∨ k = gt ∨ okT k) : lo ≤ k ∧ k < hi := by
  rcases h with rfl | rfl | rfl | h
  · exact r.g
  · exact r.go
  · exact r.gt
  · exact r.ok k h
theorem TabE.other (h : TabE w g go gt B okT xs n) (r : Rg lo hi g go gt okT) (hk : Kp S w w') (hS : ∀ k, S k → k < lo ∨ hi ≤ k) : TabE w' g go gt B okT xs n :=
  h.keep hk fun k h1 h2 => by have := r.all h1; have := hS k h2; omega
theorem TabO.other (h : TabO w g go gt B b okT xs n s) (r : Rg lo hi g go gt okT) (hk : Kp S w w') (hS : ∀ k, S k → k < lo ∨ hi ≤ k) (hb : ¬ S b) : TabO w' g go gt B b okT xs n s :=
  h.keep hk fun k h1 h2 => by
    by_cases e : k = b
    · exact hb (e ▸ h2)
    · have := r.all (k := k) (by rcases h1 with h | h | h | h | h; exact .inl h; exact .inr (.inl h); exact .inr (.inr (.inl h)); exact absurd h e; exact .inr (.inr (.inr h)))
      have := hS k h2; omega
theorem tab_make {w2 w3 w4 : World} {ok0 : Nat → Prop} (h2 : Below w2.heap.size w2 w3) (hgt : w2.heap.size ≤ gt) (hgl : gt < w3.heap.size) (hok : ∀ k, ok0 k → w2.heap.size ≤ k) (hgo : w3.heap.size ≤ go) (h3 : Below w3.heap.size w3 w4)
    (hO : IsOracle w4 go gt B (.slice none 0 0) (fun k => ok0 k ∧ k < w3.heap.size) [] xs n) :
    TabE (w4.alloc (.cells #[.int .u64 1, .pointer (some ⟨go, 0, none⟩), .slice none 0 0] 115)) w4.heap.size go gt B (fun k => ok0 k ∧ k < w3.heap.size) xs n ∧ Rg w2.heap.size (w4.heap.size + 1) w4.heap.size go gt (fun k => ok0 k ∧ k < w3.heap.size) := by
  have e1 := h2.size
  have e2 := h3.size
  have e3 := blk_lt hO.1
  refine ⟨⟨heap_alloc_new _ _, hO.below ((Below.refl _ _).alloc (Nat.le_refl _) _), by omega, by omega, fun h => by have := h.2; omega⟩, ⟨by omega, by omega⟩, ⟨by omega, by omega⟩, ⟨hgt, by omega⟩, fun k hk => ⟨hok k hk.1, by have := hk.2; omega⟩⟩
theorem Kp.lower (h : Kp S w w') {L : Nat} (hS : ∀ k, S k → L ≤ k) (hL : L ≤ w.heap.size) : Below L w w' :=
  ⟨h.env.os, h.env.tape, h.env.output, h.env.size, fun k hk => h.keep k (by omega) fun hs => by have := hS k hs; omega⟩
end
abbrev handle : Value := .iface 246 (.agg #[.pointer (some ⟨1, 26, none⟩)])
def numE : Option Int → Int
  | none => 0
  | some c => c
theorem number_calls (E : Option Int) (w : World) (hg : w.cell? ⟨0, 0, none⟩ = some handle) : Calls Tryz.prog 23 #[errW E] w fun e w' => e = .returned (.int .i64 (numE E)) ∧ Below w.heap.size w w' := by
  cases E with
  | none => exact number_nil w
  | some c => exact number_hit c w hg
abbrev capV (y : Int) : Obj := .cells #[.int .u64 1, .int .u32 0, .int .u8 255, .int .u64 y] 39
theorem set_n {w : World} {n : Nat} {p o r ck : Int} {o' : Obj} (h : w.heap[n]? = some (.cells #[.int .u64 p, .int .u32 o, .int .u8 r, .int .u64 ck] 39 (0, 0))) :
    (((w.alloc o').setCell ⟨n, 0, none⟩ (.int .u64 1)).setCell ⟨n, 1, none⟩ (.int .u32 0)).heap[n]? = some (.cells #[.int .u64 1, .int .u32 0, .int .u8 r, .int .u64 ck] 39 (0, 0)) ∧
      Kp (fun k => k = n) w (((w.alloc o').setCell ⟨n, 0, none⟩ (.int .u64 1)).setCell ⟨n, 1, none⟩ (.int .u32 0)) ∧
      (((w.alloc o').setCell ⟨n, 0, none⟩ (.int .u64 1)).setCell ⟨n, 1, none⟩ (.int .u32 0)).heap[w.heap.size]? = some o' := by
  have hb : Below w.heap.size w (w.alloc o') := (Below.refl _ _).alloc (Nat.le_refl _) _
  have h1 := blk_below h hb
  have hlt := blk_lt h
  refine ⟨by simpa using blk_set (blk_set h1 0 (.int .u64 1)) 1 (.int .u32 0), ((Kp.of_below (S := fun k => k = n) hb).set (p := ⟨n, 0, none⟩) (.inr rfl) _).set (p := ⟨n, 1, none⟩) (.inr rfl) _, ?_⟩
  have e1 := Below.heap_setCell (w.alloc o') ⟨n, 0, none⟩ (.int .u64 1) w.heap.size (by simp; omega)
  have e2 := Below.heap_setCell ((w.alloc o').setCell ⟨n, 0, none⟩ (.int .u64 1)) ⟨n, 1, none⟩ (.int .u32 0) w.heap.size (by simp; omega)
  exact e2.trans (e1.trans (heap_alloc_new w o'))
theorem cutw_cutw (x : Int) : cutw (cutw x) = cutw x := by
  have hw : ∀ a : BitVec 64, IntKind.u64.wrap (a.toNat : Int) = (a.toNat : Int) := fun a => by
    have := a.isLt
    simp [IntKind.wrap, IntKind.bits, IntKind.signed]
    omega
  have h1 : ∀ y, cutw y = ((BitVec.ofInt 64 y &&& BitVec.ofInt 64 281474976710655).toNat : Int) := fun y => hw _
  have h2 : BitVec.ofInt 64 (cutw x) = BitVec.ofInt 64 x &&& BitVec.ofInt 64 281474976710655 := by
    rw [h1 x, BitVec.ofInt_natCast, BitVec.ofNat_toNat, BitVec.setWidth_eq]
  rw [h1 (cutw x), h2, h1 x, BitVec.and_assoc, BitVec.and_self]
/-- Where the check is taken, it is one of the draws. -/
theorem chk_none {r need ck : Int} {xs : List Int} (hx : 0 < xs.length) (h : chkE r need ((xs.map cutw).getD 0 0) ck (xs.map cutw) 1 = none) : ∃ j : Nat, j < xs.length ∧ cutw (rd xs (j : Int)) = ck := by
  have hr : ∀ j : Nat, j < xs.length → (xs.map cutw).getD j 0 = cutw (rd xs (j : Int)) := fun j hj => by simp [rd, hj]
  unfold chkE at h
  cases hE : tokE r (xs.map cutw) 1 with
  | some c => rw [hE] at h; cases h
  | none =>
    rw [hE] at h
    simp only [] at h
    by_cases hk : tokW r ((xs.map cutw).getD 0 0) (xs.map cutw) 1 = ck
    · unfold tokW at hk
      unfold tokE at hE
      by_cases c : r = 255
      · rw [if_pos c, hr 0 hx, cutw_cutw] at hk
        exact ⟨0, hx, hk⟩
      · rw [if_neg c] at hk hE
        by_cases c2 : 1 < (xs.map cutw).length
        · have c3 : 1 < xs.length := by simpa using c2
          rw [hr 1 c3] at hk
          exact ⟨1, c3, hk⟩
        · rw [if_neg c2] at hE; cases hE
    · rw [if_neg hk] at h; cases h
end Go.Proofs.YtnphfcaokjdigaaGreatDoor.PA
