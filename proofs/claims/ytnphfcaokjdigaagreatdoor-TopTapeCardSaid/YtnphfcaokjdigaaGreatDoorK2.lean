/- A new object; a check of a capability. -/
import Derived.Test.YtnphfcaokjdigaaGreatDoorK1
namespace Go.Proofs.YtnphfcaokjdigaaGreatDoor.PA
open Go.RowKit Go.Proofs.YtnphfcaokjdigaaGreatDoorW.PrintWords Go.Proofs.YtnphfcaokjdigaaGreatDoorW.PrintLast Go.Proofs.YtnphfcaokjdigaaGreatDoorW.PrintMore
set_option linter.unusedVariables false
set_option linter.unusedSimpArgs false
/-- A table without objects, its oracle without answers. -/
structure TabE (w : World) (g go gt B : Nat) (okT : Nat → Prop) (xs : List Int) (n : Nat) : Prop where
  blk : w.heap[g]? = some (.cells #[.int .u64 1, .pointer (some ⟨go, 0, none⟩), .slice none 0 0] 115 (0, 0))
  orc : IsOracle w go gt B (.slice none 0 0) okT [] xs n
  ne : g ≠ go ∧ g ≠ gt ∧ ¬ okT g
theorem cell115_0 {W : World} {g : Nat} {a b c : Value} (h : W.heap[g]? = some (.cells #[a, b, c] 115 (0, 0))) : W.cell? ⟨g, 0, none⟩ = some a := (blk_cell h 0).trans rfl
theorem cell115_1 {W : World} {g : Nat} {a b c : Value} (h : W.heap[g]? = some (.cells #[a, b, c] 115 (0, 0))) : W.cell? ⟨g, 1, none⟩ = some b := (blk_cell h 1).trans rfl
theorem cell115_2 {W : World} {g : Nat} {a b c : Value} (h : W.heap[g]? = some (.cells #[a, b, c] 115 (0, 0))) : W.cell? ⟨g, 2, none⟩ = some c := (blk_cell h 2).trans rfl
abbrev cap0 : Obj := .cells #[.int .u64 0, .int .u32 0, .int .u8 0, .int .u64 0] 39
theorem put4 {w : World} {g : Nat} {t : TypeId} {c0 c1 c2 c3 : Value} (h : w.heap[g]? = some (.cells #[c0, c1, c2, c3] t (0, 0))) (d0 d1 d2 d3 : Value) :
    ((((w.setCell ⟨g, 0, none⟩ d0).setCell ⟨g, 1, none⟩ d1).setCell ⟨g, 2, none⟩ d2).setCell ⟨g, 3, none⟩ d3).heap[g]? = some (.cells #[d0, d1, d2, d3] t (0, 0)) := by
  simpa using blk_set (blk_set (blk_set (blk_set h 0 d0) 1 d1) 2 d2) 3 d3
theorem Kp.set {S : Nat → Prop} {w w1 : World} (h : Kp S w w1) {p : Addr} (hp : w.heap.size ≤ p.block ∨ S p.block) (u : Value) : Kp S w (w1.setCell p u) :=
  ⟨h.env.setCell (Nat.zero_le _) u, fun k hk hS => (Below.heap_setCell w1 p u k (by rintro rfl; rcases hp with hp | hp; omega; exact hS hp)).trans (h.keep k hk hS)⟩
theorem Kp.set4 {S : Nat → Prop} {w w1 : World} (h : Kp S w w1) {g : Nat} (hp : w.heap.size ≤ g ∨ S g) (d0 d1 d2 d3 : Value) :
    Kp S w ((((w1.setCell ⟨g, 0, none⟩ d0).setCell ⟨g, 1, none⟩ d1).setCell ⟨g, 2, none⟩ d2).setCell ⟨g, 3, none⟩ d3) :=
  (((h.set (p := ⟨g, 0, none⟩) hp d0).set (p := ⟨g, 1, none⟩) hp d1).set (p := ⟨g, 2, none⟩) hp d2).set (p := ⟨g, 3, none⟩) hp d3
theorem TabE.step {w w1 : World} {g go gt B : Nat} {okT : Nat → Prop} {xs : List Int} {n : Nat} (h : TabE w g go gt B okT xs n) (hm : ∀ k, (k = g ∨ k = go ∨ k = gt ∨ okT k) → k < w.heap.size → w1.heap[k]? = w.heap[k]?) (hs : w.heap.size ≤ w1.heap.size) : TabE w1 g go gt B okT xs n :=
  ⟨(hm g (.inl rfl) (blk_lt h.blk)).trans h.blk, h.orc.step (fun k hk hlt => hm k (by rcases hk with e | e | e | e; exact .inr (.inl e); exact .inr (.inr (.inl e)); exact .inr (.inr (.inr e)); simp [Value.ownBlock] at e) hlt) hs, h.ne⟩
theorem TabE.keep {w w1 : World} {g go gt B : Nat} {okT : Nat → Prop} {xs : List Int} {n : Nat} (h : TabE w g go gt B okT xs n) {S : Nat → Prop} (hk : Kp S w w1) (hS : ∀ k, (k = g ∨ k = go ∨ k = gt ∨ okT k) → ¬ S k) : TabE w1 g go gt B okT xs n :=
  h.step (fun k hk' hlt => hk.keep k hlt (hS k hk')) hk.env.size
theorem TabE.lt {w : World} {g go gt B : Nat} {okT : Nat → Prop} {xs : List Int} {n : Nat} (h : TabE w g go gt B okT xs n) : g < w.heap.size ∧ go < w.heap.size ∧ gt < w.heap.size ∧ ∀ k, okT k → k < w.heap.size :=
  ⟨blk_lt h.blk, blk_lt h.orc.1, h.orc.tape.lt, fun k hk => by have := (h.orc.2.2.2.2.2.1 k hk).1; have := h.orc.2.2.2.2.2.2.1; omega⟩
theorem create_none (w : World) (g go gt B : Nat) (okT : Nat → Prop) (h : TabE w g go gt B okT [] 0) :
    Calls Tryz.prog 21 #[.pointer (some ⟨g, 0, none⟩), .int .i64 0] w fun e w' => e = .returned (.tuple #[.agg #[.int .u64 0, .int .u32 0, .int .u8 0, .int .u64 0], .iface 74 (.int .i64 7)]) ∧ TabE w' g go gt B okT [] 0 ∧ Kp (fun k => k = gt) w w' := by
  have HB := (Below.refl w.heap.size w).alloc (Nat.le_refl _) cap0
  have hb1 := blk_below h.blk HB
  have hc1 := cell115_1 hb1
  have hc2 := cell115_2 hb1
  have hD := odraw_none (w.alloc cap0) go gt B (.slice none 0 0) okT [] [] (h.orc.below HB)
  have H := Aside0.mk h
  have HB := Aside0.mk HB
  have HN := Aside0.mk (heap_alloc_new w cap0)
  have HL := Aside0.mk (blk_lt h.blk)
  have HG := Aside0.mk hb1
  clear h hb1
  go_enter Tryz.func21, Tryz.ntmps21
  go_wp2_with (fail)
  refine wp_loop_once ?_
  go_wp2_with (fail)
  refine hD.mono ?_
  rintro e w1 ⟨rfl, hO, hK, hB⟩
  have hngt : w.heap.size ≠ gt := fun e => by have := H.out.orc.tape.lt; omega
  have hb : w1.heap[w.heap.size]? = some cap0 := (hK.2 _ (by simp) hngt (by simp)).trans HN.out
  have hbg : w1.heap[g]? = _ := (hK.2 g (by have := HL.out; simp; omega) H.out.ne.2.1 (by simp)).trans HG.out
  have hd0 := (blk_cell hb 0).trans rfl
  have hd1 := (blk_cell hb 1).trans rfl
  have hd2 := (blk_cell hb 2).trans rfl
  have hd3 := (blk_cell hb 3).trans rfl
  have hf := fun j => blk_frozen hb j
  have HT := Aside0.mk (show TabE w1 g go gt B okT [] 0 from ⟨hbg, hO, H.out.ne⟩)
  have HK := Aside0.mk ((Kp.of_below (S := fun k => k = gt) HB.out).trans (Kp.of_keep hK hB))
  have HX := Aside0.mk hb
  clear hD hO hK hB hbg hb
  go_wp2_with (fail)
  refine bodyPost_ret (results_ct rfl _ _ w.heap.size 39 #[.int .u64 0, .int .u32 0, .int .u8 0, .int .u64 0] (0, 0) _ rfl (put4 HX.out _ _ _ _) Tryz.underlying39 rfl (by kernel_rfl)) rfl ?_
  have hl := H.out.lt
  refine ⟨rfl, HT.out.keep (S := fun k => k = w.heap.size) (Kp.set4 (S := fun k => k = w.heap.size) (Kp.of_below (Below.refl _ _)) (.inr rfl) _ _ _ _) ?_, Kp.set4 HK.out (.inl (Nat.le_refl _)) _ _ _ _⟩
  rintro k (rfl | rfl | rfl | hk) <;> first | omega | (have := hl.2.2.2 k hk; omega)
/-- A table with one object, its oracle without answers. -/
structure TabO (w : World) (g go gt B b : Nat) (okT : Nat → Prop) (xs : List Int) (n : Nat) (s : Int) : Prop where
  blk : ∃ c, w.heap[g]? = some (.cells #[.int .u64 1, .pointer (some ⟨go, 0, none⟩), .slice (some ⟨b, 0, none⟩) 1 c] 115 (0, 0))
  row : ∃ e : Array Value, w.heap[b]? = some (.cells (#[.bool true, .int .u64 s, .int .i64 0, .int .i64 0, .int .i64 24] ++ e) 123 (0, 0))
  orc : IsOracle w go gt B (.slice none 0 0) okT [] xs n
theorem TabO.step {w w1 : World} {g go gt B b : Nat} {okT : Nat → Prop} {xs : List Int} {n : Nat} {s : Int} (h : TabO w g go gt B b okT xs n s) (hm : ∀ k, (k = g ∨ k = go ∨ k = gt ∨ k = b ∨ okT k) → k < w.heap.size → w1.heap[k]? = w.heap[k]?) (hs : w.heap.size ≤ w1.heap.size) : TabO w1 g go gt B b okT xs n s := by
  obtain ⟨⟨c, h1⟩, ⟨e, h2⟩, h3⟩ := h
  refine ⟨⟨c, (hm g (.inl rfl) (blk_lt h1)).trans h1⟩, ⟨e, (hm b (.inr (.inr (.inr (.inl rfl)))) (blk_lt h2)).trans h2⟩, h3.step (fun k hk hlt => hm k ?_ hlt) hs⟩
  rcases hk with e | e | e | e
  · exact .inr (.inl e)
  · exact .inr (.inr (.inl e))
  · exact .inr (.inr (.inr (.inr e)))
  · simp [Value.ownBlock] at e
theorem TabO.keep {w w1 : World} {g go gt B b : Nat} {okT : Nat → Prop} {xs : List Int} {n : Nat} {s : Int} (h : TabO w g go gt B b okT xs n s) {S : Nat → Prop} (hk : Kp S w w1) (hS : ∀ k, (k = g ∨ k = go ∨ k = gt ∨ k = b ∨ okT k) → ¬ S k) : TabO w1 g go gt B b okT xs n s :=
  h.step (fun k hk' hlt => hk.keep k hlt (hS k hk')) hk.env.size
theorem made {w1 : World} {g go : Nat} {o o' : Obj} {u : Value} (hbg : w1.heap[g]? = some (.cells #[.int .u64 1, .pointer (some ⟨go, 0, none⟩), .slice none 0 0] 115 (0, 0))) :
    ((((w1.setCell ⟨g, 2, none⟩ u).alloc o).alloc o').drew).heap[g]? = some (.cells #[.int .u64 1, .pointer (some ⟨go, 0, none⟩), u] 115 (0, 0)) ∧ ((((w1.setCell ⟨g, 2, none⟩ u).alloc o).alloc o').drew).heap[w1.heap.size + 1]? = some o' ∧
      Kp (fun k => k = g) w1 ((((w1.setCell ⟨g, 2, none⟩ u).alloc o).alloc o').drew) := by
  have hB : Below (w1.setCell ⟨g, 2, none⟩ u).heap.size (w1.setCell ⟨g, 2, none⟩ u) ((((w1.setCell ⟨g, 2, none⟩ u).alloc o).alloc o').drew) := (below_alloc (below_alloc (Below.refl _ _) o) o').drew
  refine ⟨blk_below (by simpa using blk_set hbg 2 u) hB, ?_, ((Kp.of_below (S := fun k => k = g) (Below.refl _ _)).set (p := ⟨g, 2, none⟩) (.inr rfl) u).trans (Kp.of_below hB)⟩
  have := heap_alloc_new ((w1.setCell ⟨g, 2, none⟩ u).alloc o) o'
  simpa [World.drew, World.setCell] using this
theorem create_some (w : World) (g go gt B : Nat) (okT : Nat → Prop) (xs : List Int) (h : TabE w g go gt B okT xs 0) (hn : 0 < xs.length) :
    Calls Tryz.prog 21 #[.pointer (some ⟨g, 0, none⟩), .int .i64 0] w fun e w' => e = .returned (.tuple #[.agg #[.int .u64 1, .int .u32 0, .int .u8 255, .int .u64 (xs.getD 0 0)], .nilIface]) ∧ ∃ b, w.heap.size ≤ b ∧ TabO w' g go gt B b okT xs 1 (xs.getD 0 0) ∧ Kp (fun k => k = g ∨ k = gt) w w' := by
  have HB := (Below.refl w.heap.size w).alloc (Nat.le_refl _) cap0
  have hb1 := blk_below h.blk HB
  have hc1 := cell115_1 hb1
  have hc2 := cell115_2 hb1
  have hD := odraw_some (w.alloc cap0) go gt B (.slice none 0 0) okT [] xs 0 (h.orc.below HB) hn
  obtain ⟨s, hs⟩ : ∃ s, xs.getD 0 0 = s := ⟨_, rfl⟩
  rw [hs] at hD ⊢
  have H := Aside0.mk h
  have HB := Aside0.mk HB
  have HN := Aside0.mk (heap_alloc_new w cap0)
  have HL := Aside0.mk (blk_lt h.blk)
  have HG := Aside0.mk hb1
  clear h hb1 hn hs
  go_enter Tryz.func21, Tryz.ntmps21
  go_wp2_with (fail)
  refine wp_loop_once ?_
  go_wp2_with (fail)
  refine hD.mono ?_
  rintro e w1 ⟨rfl, hO, hK, hB⟩
  have hngt : w.heap.size ≠ gt := fun e => by have := H.out.orc.tape.lt; omega
  have hb : w1.heap[w.heap.size]? = some cap0 := (hK.2 _ (by simp) hngt (by simp)).trans HN.out
  have hbg : w1.heap[g]? = _ := (hK.2 g (by have := HL.out; simp; omega) H.out.ne.2.1 (by simp)).trans HG.out
  have he2 := cell115_2 hbg
  have hfg := fun j => blk_frozen hbg j
  have HK := Aside0.mk ((Kp.of_below (S := fun k => k = gt) HB.out).trans (Kp.of_keep hK hB))
  have HX := Aside0.mk hb
  have HO := Aside0.mk hO
  have HGB := Aside0.mk hbg
  have hgl : g < w1.heap.size := blk_lt hbg
  have hA2 : ∀ o o', ((w1.alloc o).alloc o').cell? ⟨g, 2, none⟩ = some (.slice none 0 0) := fun o o' => by
    rw [World.cell?_alloc_lt _ _ ⟨g, 2, none⟩ (by simp; omega), World.cell?_alloc_lt _ _ ⟨g, 2, none⟩ hgl]; exact he2
  have hA0 : ∀ o o', ((w1.alloc o).alloc o').cell? ⟨g, 0, none⟩ = some (.int .u64 1) := fun o o' => by
    rw [World.cell?_alloc_lt _ _ ⟨g, 0, none⟩ (by simp; omega), World.cell?_alloc_lt _ _ ⟨g, 0, none⟩ hgl]; exact cell115_0 hbg
  have hAf : ∀ o o' j, ((w1.alloc o).alloc o').frozen? ⟨g, j, none⟩ = false := fun o o' j => by
    rw [World.frozen?_alloc_old _ _ ⟨g, j, none⟩ (by simp; omega), World.frozen?_alloc_old _ _ ⟨g, j, none⟩ (Nat.ne_of_lt hgl)]; exact hfg j
  have hrow : ∀ o (e : Array Value), ((w1.alloc o).alloc (.cells (#[.bool false, .int .u64 0, .int .i64 0, .int .i64 0, .int .i64 0] ++ e) 123)).heap[w1.heap.size + 1]? = some (.cells (#[.bool false, .int .u64 0, .int .i64 0, .int .i64 0, .int .i64 0] ++ e) 123) := fun o e => by
    have := heap_alloc_new (w1.alloc o) (.cells (#[.bool false, .int .u64 0, .int .i64 0, .int .i64 0, .int .i64 0] ++ e) 123)
    simpa using this
  have hz0 : ∀ (a b c d f : Value) (e : Array Value), (#[a, b, c, d, f] ++ e)[0]? = some a := fun a b c d f e => by rw [Array.getElem?_append_left (by simp)]; rfl
  have hz1 : ∀ (a b c d f : Value) (e : Array Value), (#[a, b, c, d, f] ++ e)[1]? = some b := fun a b c d f e => by rw [Array.getElem?_append_left (by simp)]; rfl
  have hz2 : ∀ (a b c d f : Value) (e : Array Value), (#[a, b, c, d, f] ++ e)[2]? = some c := fun a b c d f e => by rw [Array.getElem?_append_left (by simp)]; rfl
  have hz3 : ∀ (a b c d f : Value) (e : Array Value), (#[a, b, c, d, f] ++ e)[3]? = some d := fun a b c d f e => by rw [Array.getElem?_append_left (by simp)]; rfl
  have hz4 : ∀ (a b c d f : Value) (e : Array Value), (#[a, b, c, d, f] ++ e)[4]? = some f := fun a b c d f e => by rw [Array.getElem?_append_left (by simp)]; rfl
  have hrf := fun o e j => blk_frozen (hrow o e) j
  have hbig : (281474976710656 < Builtin.nextslicecap 1 0 * Tryz.t123.bytes) = False := by simp; exact (by decide : Builtin.nextslicecap 1 0 * 40 ≤ 281474976710656)
  clear hD hO hK hB hbg hb hc1 hc2 hrow
  generalize hgc : (Question.appendCap 1 0 123).cut (w1.tape w1.drawn (.appendCap 1 0 123)) = gc
  go_wp2_with (fail)
  obtain ⟨m1, m2, m3⟩ := made (o := .cells #[.bool false, .int .u64 0, .int .i64 0, .int .i64 0, .int .i64 0] 123)
    (o' := .cells (#[.bool true, .int .u64 s, .int .i64 0, .int .i64 0, .int .i64 24] ++ Builtin.zeroCells #[.bool false, .int .u64 0, .int .i64 0, .int .i64 0, .int .i64 0] (gc - 1)) 123)
    (u := .slice (some ⟨w1.heap.size + 1, 0, none⟩) 1 gc) HGB.out
  have hl := H.out.lt
  have hne := H.out.ne
  refine (cap_calls 1 g 0 255 s _ (cell115_0 m1) (by omega)).mono ?_
  rintro e w3 ⟨rfl, hB3⟩
  have hs1 : w.heap.size < w1.heap.size := blk_lt HX.out
  have hx3 : w3.heap[w.heap.size]? = some cap0 := blk_below ((m3.keep _ hs1 (by omega)).trans HX.out) hB3
  have hd0 := (blk_cell hx3 0).trans rfl
  have hd1 := (blk_cell hx3 1).trans rfl
  have hd2 := (blk_cell hx3 2).trans rfl
  have hd3 := (blk_cell hx3 3).trans rfl
  have hf := fun j => blk_frozen hx3 j
  have HX3 := Aside0.mk hx3
  have HT : Aside0 (TabO w3 g go gt B (w1.heap.size + 1) okT xs 1 s) := ⟨⟨gc, blk_below m1 hB3⟩, ⟨_, blk_below m2 hB3⟩, (HO.out.step (fun k hk hlt => m3.keep k hlt (by
    rintro rfl
    rcases hk with e | e | e | e
    · exact hne.1 e
    · exact hne.2.1 e
    · exact hne.2.2 e
    · simp [Value.ownBlock] at e)) m3.env.size).below hB3⟩
  have HK3 := Aside0.mk (((HK.out.mono (S' := fun k => k = g ∨ k = gt) (fun k e => .inr e)).trans (m3.mono fun k e => .inl e)).trans (Kp.of_below hB3))
  have HS1 := Aside0.mk hs1
  have HL2 := Aside0.mk hl
  clear m1 m2 m3 hB3 hx3 hl hne hs1 hA2 hA0 hAf hz0 hz1 hz2 hz3 hz4 hrf hbig
  go_wp2_with (fail)
  refine bodyPost_ret (results_ct rfl _ _ w.heap.size 39 #[.int .u64 1, .int .u32 0, .int .u8 255, .int .u64 s] (0, 0) _ rfl (put4 HX3.out _ _ _ _) Tryz.underlying39 rfl (by kernel_rfl)) rfl ?_
  have hl := HL2.out
  have hs1 := HS1.out
  refine ⟨rfl, w1.heap.size + 1, by omega, HT.out.keep (S := fun k => k = w.heap.size) (Kp.set4 (S := fun k => k = w.heap.size) (Kp.of_below (Below.refl _ _)) (.inr rfl) _ _ _ _) ?_, Kp.set4 HK3.out (.inl (Nat.le_refl _)) _ _ _ _⟩
  rintro k (rfl | rfl | rfl | rfl | hk) <;> first | omega | (have := hl.2.2.2 k hk; omega)
end Go.Proofs.YtnphfcaokjdigaaGreatDoor.PA
