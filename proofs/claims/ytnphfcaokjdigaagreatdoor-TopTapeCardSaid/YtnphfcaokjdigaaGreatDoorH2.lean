/- Of: the entries, each cut to a word; nothing taken. -/
import Derived.Test.YtnphfcaokjdigaaGreatDoorH1
namespace Go.Proofs.YtnphfcaokjdigaaGreatDoor.PA
open Go.RowKit Go.Proofs.YtnphfcaokjdigaaGreatDoorW.PrintWords Go.Proofs.YtnphfcaokjdigaaGreatDoorW.PrintLast Go.Proofs.YtnphfcaokjdigaaGreatDoorW.PrintMore
set_option linter.unusedVariables false
set_option linter.unusedSimpArgs false
/-- a number cut to a word -/
def cutw (x : Int) : Int := Go.bits .and .u64 x 281474976710655
theorem cut_calls (x : Int) (w : World) : Calls Tryz.prog 44 #[.int .u64 x] w fun e w' => e = .returned (.int .u64 (cutw x)) ∧ w' = w := by
  go_enter Tryz.func44, Tryz.ntmps44
  go_wp2
  go_ret
  exact ⟨rfl, rfl⟩
set_option maxHeartbeats 1600000 in
set_option maxRecDepth 100000 in
theorem of_calls (w : World) (A : Option Addr) (c : Nat) (xs : List Int) (hC : Kd.C (Kd.int .u64) w A xs.length xs) (hsize : xs.length * 8 ≤ 140737488351232) :
    Calls Tryz.prog 20 #[.slice A xs.length c] w fun e w' => ∃ g, e = .returned (.pointer (some ⟨g, 0, none⟩)) ∧ w.heap.size ≤ g ∧ IsTape w' g (fun k => w.heap.size ≤ k ∧ k ≠ g) (xs.map cutw) 0 ∧ Below w.heap.size w w' := by
  have HC := Aside0.mk hC
  clear hC
  go_enter Tryz.func20, Tryz.ntmps20
  go_wp2
  go_loopw [5, 10] (fun v5 iv wr => ∃ k : Nat, k ≤ xs.length ∧ iv = .int .i64 k ∧ Aside0 (∃ v, wr.heap[w.heap.size]? = some (.cells #[v, .int .i64 0] 120 (0, 0)) ∧ Kd.R (Kd.int .u64) 36 wr w.heap.size (fun _ => True) v ((xs.take k).map cutw)) ∧ Aside0 (Below w.heap.size w wr)) (fun _ iv _ => xs.length - (intOf iv).toNat)
  case atStart => exact ⟨0, Nat.zero_le _, rfl, ⟨_, by simpa using heap_alloc_new w _, Kd.R_nil _ _ _ _ _⟩, ⟨(Below.refl _ _).alloc (Nat.le_refl _) _⟩⟩
  case round =>
    obtain ⟨k, hk, rfl, HR0, HW⟩ := hrel
    obtain ⟨v, hb, hR⟩ := HR0.out
    clear HR0
    have hgl := blk_lt hb
    have hsz := HW.out.size
    have HBK0 := Aside0.mk hb
    obtain ⟨Aq, cq, rfl⟩ := Kd.R_slice hR
    have hc0 : wr.cell? ⟨w.heap.size, 0, none⟩ = some (.slice Aq ((xs.take k).map cutw).length cq) := (blk_cell hb 0).trans rfl
    by_cases hlt : k < xs.length
    · obtain ⟨ad, hA, hx⟩ := Kd.at_int HC.out (k : Int) (by omega) (by omega)
      cases hA
      replace hx := pw_cell_below HW.out hx
      rw [Int.toNat_natCast] at hx
      have er : rd xs (k : Int) = xs[k] := by simp [rd, hlt]
      have HTK : Aside0 ((xs.take (k + 1)).map cutw = (xs.take k).map cutw ++ [cutw (rd xs (k : Int))]) := ⟨by
        rw [List.take_succ_eq_append_getElem hlt, List.map_append, er]
        rfl⟩
      generalize rd xs (k : Int) = x at hx HTK
      have hle : ((xs.take k).map cutw).length = k := by simp; omega
      have HR := Aside0.mk hR
      have HBK := Aside0.mk hb
      clear hR hb HBK0 er
      generalize (xs.take k).map cutw = zs at HTK hle HR hc0 HBK
      have hn : (zs.length + 1) * 8 ≤ 140737488355328 := by omega
      clear hle
      go_wp2_with (fail)
      refine start_ (n := 12) (S := fun w' => w'.cell? ⟨w.heap.size, 0, none⟩ = some (.slice Aq zs.length cq)) (ds := [11]) #[false, false, false, false, false, false, false, false, false, false, false, false] (by kernel_rfl) rfl rfl (hc0) (fun hHeld => ?_)
      refine pure_ (i := 0) (N := some 14) (v := ?_) (a' := ?_) #[true, false, false, false, false, false, false, false, false, false, false, false] rfl rfl (by kernel_rfl) (fun _ _ _ h => h) (Or.inl ⟨by rfl, ?_⟩) ?_ ?_
      rotate_left
      · intro w'
        go_simp
        with_reducible rfl
      rotate_left
      · simp only [Act.put, List.setIfInBounds_toArray, List.set_cons_zero, List.set_cons_succ, i64_w, i32_w]
        rfl
      refine pure_ (i := 1) (N := some 15) (v := ?_) (a' := ?_) #[true, true, false, false, false, false, false, false, false, false, false, false] rfl rfl (by kernel_rfl) (fun _ _ _ h => h) (Or.inl ⟨by rfl, ?_⟩) ?_ ?_
      rotate_left
      · intro w'
        go_simp
        with_reducible rfl
      rotate_left
      · simp only [Act.put, List.setIfInBounds_toArray, List.set_cons_zero, List.set_cons_succ, i64_w, i32_w]
        rfl
      refine pure_ (i := 2) (N := some 16) (v := ?_) (a' := ?_) #[true, true, true, false, false, false, false, false, false, false, false, false] rfl rfl (by kernel_rfl) (fun _ _ _ h => h) (Or.inl ⟨by rfl, ?_⟩) ?_ ?_
      rotate_left
      · intro w'
        go_simp
        with_reducible rfl
      rotate_left
      · simp only [Act.put, List.setIfInBounds_toArray, List.set_cons_zero, List.set_cons_succ, i64_w, i32_w]
        rfl
      refine pure_ (i := 3) (N := some 17) (v := ?_) (a' := ?_) #[true, true, true, true, false, false, false, false, false, false, false, false] rfl rfl (by kernel_rfl) (fun _ _ _ h => h) (Or.inl ⟨by rfl, ?_⟩) ?_ ?_
      rotate_left
      · intro w'
        go_simp
        with_reducible rfl
      rotate_left
      · simp only [Act.put, List.setIfInBounds_toArray, List.set_cons_zero, List.set_cons_succ, i64_w, i32_w]
        rfl
      refine pure_ (i := 5) (N := some 19) (v := ?_) (a' := ?_) #[true, true, true, true, false, true, false, false, false, false, false, false] rfl rfl (by kernel_rfl) (fun _ _ _ h => h) (Or.inl ⟨by rfl, ?_⟩) ?_ ?_
      rotate_left
      · intro w'
        go_simp
        with_reducible rfl
      rotate_left
      · simp only [Act.put, List.setIfInBounds_toArray, List.set_cons_zero, List.set_cons_succ, i64_w, i32_w]
        rfl
      refine take_ (i := 4) (N := some 18) (v := ?_) (a' := ?_) #[true, true, true, true, true, true, false, false, false, false, false, false] rfl rfl (by kernel_rfl) (fun _ _ _ h => h) (Or.inl ⟨by rfl, ?_⟩) hHeld ?_ ?_
      rotate_left
      · intro w' s0
        go_simp
        with_reducible rfl
      rotate_left
      · simp only [Act.put, List.setIfInBounds_toArray, List.set_cons_zero, List.set_cons_succ, i64_w, i32_w]
        rfl
      refine one_ (i := 6) (N := some 20) #[true, true, true, true, true, true, true, false, false, false, false, false] rfl rfl (by kernel_rfl) (by decide) (fun K hK => ?_)
      refine goes_ Tryz.func44 (by kernel_rfl) rfl #[.int .u64 x] (by rfl) rfl rfl (by simp only [List.map_toArray, List.map_cons, List.map_nil]; rfl) ?_
      with_reducible refine (cut_calls x _).mono ?_
      rintro e w3 ⟨rfl, rfl⟩
      refine ⟨_, rfl, ?_⟩
      refine hK.out _ _ (hc0) (fun hHeld => ?_)
      clear hK K
      refine norm_ (a' := ?_) ?_ ?_
      rotate_left
      · show Act.put _ (some 20) _ = _
        simp only [Act.put, List.setIfInBounds_toArray, List.set_cons_zero, List.set_cons_succ, i64_w, i32_w]
        rfl
      refine one_ (i := 7) (N := some 21) #[true, true, true, true, true, true, true, true, false, false, false, false] rfl rfl (by kernel_rfl) (by decide) (fun K hK => ?_)
      refine value_ (w1 := ?_) (v := ?_) (by rfl) rfl ?_ ?_
      rotate_left 2
      · go_simp
        constructor
        · rfl
        · rfl
      refine hK.out _ _ ((pw_cell_below (w := wr) (by repeat (first | exact Below.refl _ _ | apply below_alloc | apply pw_below_drewN | apply below_drew1)) hc0)) (fun hHeld => ?_)
      clear hK K
      refine norm_ (a' := ?_) ?_ ?_
      rotate_left
      · show Act.put _ (some 21) _ = _
        simp only [Act.put, List.setIfInBounds_toArray, List.set_cons_zero, List.set_cons_succ, i64_w, i32_w]
        rfl
      refine one_ (i := 8) (N := some 22) #[true, true, true, true, true, true, true, true, true, false, false, false] rfl rfl (by kernel_rfl) (by decide) (fun K hK => ?_)
      rw [show (wr.alloc (Obj.cells #[.int .u64 (cutw x)] 36)).drew = wr.drew.alloc (Obj.cells #[.int .u64 (cutw x)] 36) from rfl]
      refine Kd.R_append_step (Kd.int .u64) (w0 := w) w.heap.size (by rfl) (.tmp 18) (.tmp 21) 34 36 (.int .u64 0) 8 rfl Tryz.underlying34 info36 rfl (by decide) (by omega) (.slice Aq zs.length cq) zs (cutw x) [.int .u64 (cutw x)] (fun _ => True) (fun _ => False) rfl rfl rfl (fun _ hk => hk.elim) (fun _ _ => trivial) (Kd.R_below HR.out (by repeat (first | exact Below.refl _ _ | apply below_alloc | apply pw_below_drewN | apply below_drew1))) (HW.out.trans (Below.mono (by repeat (first | exact Below.refl _ _ | apply below_alloc | apply pw_below_drewN | apply below_drew1)) hsz)) (by exact hsz) (by omega) ?_
      intro v' w2 ho hbel hgrow hat
      obtain ⟨An, cn, rfl⟩ := Kd.R_slice ho
      have hbq : w2.heap[w.heap.size]? = some (.cells #[.slice Aq zs.length cq, .int .i64 0] 120 (0, 0)) := (hgrow.block w.heap.size (by simp; exact hgl) (Kd.R_ne HR.out HBK.out (by decide))).trans HBK.out
      have hcq := (blk_cell hbq 0).trans rfl
      have hfq := blk_frozen hbq 0
      have HO := Aside0.mk ho
      have HW2 := Aside0.mk hbel
      have HBQ := Aside0.mk hbq
      clear ho hbel hgrow hbq hat
      refine hK.out _ _ (hcq) (fun hHeld => ?_)
      clear hK K
      refine norm_ (a' := ?_) ?_ ?_
      rotate_left
      · show Act.put _ (some 22) _ = _
        simp only [Act.put, List.setIfInBounds_toArray, List.set_cons_zero, List.set_cons_succ, i64_w, i32_w]
        rfl
      refine pure_ (i := 9) (N := some 23) (v := ?_) (a' := ?_) #[true, true, true, true, true, true, true, true, true, true, false, false] rfl rfl (by kernel_rfl) (fun _ _ _ h => h) (Or.inl ⟨by rfl, ?_⟩) ?_ ?_
      rotate_left
      · intro w'
        go_simp
        with_reducible rfl
      rotate_left
      · simp only [Act.put, List.setIfInBounds_toArray, List.set_cons_zero, List.set_cons_succ, i64_w, i32_w]
        rfl
      refine pure_ (i := 10) (N := some 24) (v := ?_) (a' := ?_) #[true, true, true, true, true, true, true, true, true, true, true, false] rfl rfl (by kernel_rfl) (fun _ _ _ h => h) (Or.inl ⟨by rfl, ?_⟩) ?_ ?_
      rotate_left
      · intro w'
        go_simp
        with_reducible rfl
      rotate_left
      · simp only [Act.put, List.setIfInBounds_toArray, List.set_cons_zero, List.set_cons_succ, i64_w, i32_w]
        rfl
      refine last_ (i := 11) (N := none) #[true, true, true, true, true, true, true, true, true, true, true, true] rfl rfl (by kernel_rfl) (by decide) (fun K hK => ?_)
      refine skip_ (w1 := ?_) (by rfl) rfl ?_ ?_
      rotate_left
      · go_simp
        rfl
      refine hK.out _ _ ?_
      clear hK K
      refine done_ (by kernel_rfl) ?_


      go_wp2_with (fail)
      have HS := Kd.R_set HO.out HBQ.out (by intro q hq; simp [Kd.int, Kd.scalar] at hq; omega) 0 (.slice An (zs ++ [cutw x]).length cn)
      simp only [List.length_append, List.length_singleton] at HS
      go_roundw
      case rel => exact ⟨k + 1, hlt, by simp, ⟨⟨_, by simpa using blk_set HBQ.out 0 (.slice An (zs ++ [cutw x]).length cn), by rw [HTK.out]; exact HS⟩⟩, ⟨HW2.out.setCell (p := ⟨w.heap.size, 0, none⟩) (Nat.le_refl _) _⟩⟩
      case measure => simp [intOf]; omega
    · obtain rfl : k = xs.length := by omega
      have HBK := Aside0.mk hb
      have HR := Aside0.mk hR
      clear hb hR HBK0
      go_wp2_with (fail)
      go_ret
      have hR := HR.out
      rw [List.take_length] at hR HBK
      have hR2 := Kd.R_types hR HBK.out (by intro q hq; simp [Kd.int, Kd.scalar] at hq; omega)
      have h1 := Kd.R_mono (Kd.R_bound hR2) (ok' := fun k => w.heap.size ≤ k ∧ k ≠ w.heap.size) (fun k hk => ⟨hk.2.1, hk.1.2⟩)
      exact ⟨w.heap.size, rfl, Nat.le_refl _, ⟨Aq, cq, HBK.out, (Kd.R_reads' h1).2.1, Kd.R_F h1, fun k hk => hk.2, Nat.zero_le _⟩, HW.out⟩
end Go.Proofs.YtnphfcaokjdigaaGreatDoor.PA
