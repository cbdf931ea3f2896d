/- The law, of entries that are there. -/
import Derived.Test.YtnphfcaokjdigaaGreatDoorK4
namespace Go.Proofs.YtnphfcaokjdigaaGreatDoor.PA
open Go.RowKit Go.Proofs.YtnphfcaokjdigaaGreatDoorW.PrintWords Go.Proofs.YtnphfcaokjdigaaGreatDoorW.PrintLast Go.Proofs.YtnphfcaokjdigaaGreatDoorW.PrintMore
set_option linter.unusedVariables false
set_option linter.unusedSimpArgs false
set_option maxHeartbeats 4000000 in
set_option maxRecDepth 100000 in
theorem top_some (w : World) (A : Option Addr) (c : Nat) (xs : List Int) (p o r ck need : Int) (hC : Kd.C (Kd.int .u64) w A xs.length xs) (hsize : xs.length * 8 ≤ 140737488351232) (hg : w.cell? ⟨0, 0, none⟩ = some handle) (hx : 0 < xs.length) :
    Calls Tryz.prog 5 #[.slice A xs.length c, .agg #[.int .u64 p, .int .u32 o, .int .u8 r, .int .u64 ck], .int .u8 need] w fun e w' => e = .returned (.bool true) ∧ Below w.heap.size w w' := by
  have HC := Aside0.mk hC
  have HG := Aside0.mk hg
  have HS := Aside0.mk hsize
  have HX := Aside0.mk hx
  have HB1 := Aside0.mk ((Below.refl w.heap.size w).alloc (Nat.le_refl _) (.cells #[.int .u64 p, .int .u32 o, .int .u8 r, .int .u64 ck] 39))
  have HN := Aside0.mk (heap_alloc_new w (.cells #[.int .u64 p, .int .u32 o, .int .u8 r, .int .u64 ck] 39))
  have HY : Aside0 (0 < (xs.map cutw).length) := ⟨by simpa using hx⟩
  obtain ⟨y0, hy0⟩ : ∃ y0, (xs.map cutw).getD 0 0 = y0 := ⟨_, rfl⟩
  have HY0 := Aside0.mk hy0
  clear hC hg hsize hx hy0
  go_enter Tryz.func5, Tryz.ntmps5
  go_wp2_with (fail)
  refine (awake_calls _).mono ?_
  rintro e w2 ⟨rfl, hb⟩
  have HB2 := Aside0.mk (HB1.out.trans (hb.mono (by simp)))
  have HN2 := Aside0.mk (blk_below HN.out hb)
  have HL2 : Aside0 (w.heap.size < w2.heap.size) := ⟨blk_lt HN2.out⟩
  clear hb
  go_wp2_with (fail)
  refine (of_calls w2 A c xs (Kd.C_below HC.out HB2.out) HS.out).mono ?_
  rintro e w3 ⟨gt, rfl, hgt, hT, hb3⟩
  have HT3 := Aside0.mk hT
  have HGT := Aside0.mk hgt
  have HB3 := Aside0.mk hb3
  clear hT hgt hb3
  go_wp2_with (fail)
  refine (oof_calls w3 gt _ _ 0 HT3.out).mono ?_
  rintro e w4 ⟨go, B, rfl, hgo, hO, _, hb4⟩
  obtain ⟨hE, hR⟩ := tab_make HB3.out HGT.out HT3.out.lt (fun k hk => hk.1) hgo hb4 hO
  have HB4 := Aside0.mk (HB3.out.trans (hb4.mono HB3.out.size))
  generalize hok : (fun k => (w2.heap.size ≤ k ∧ k ≠ gt) ∧ k < w3.heap.size) = okT at hE hR
  have HE := Aside0.mk hE
  have HR := Aside0.mk hR
  clear hgo hO hb4 hE hR hok
  go_wp2_with (fail)
  refine (tab_of 1 go w4).mono ?_
  rintro e w5 ⟨rfl, hw5⟩
  rw [← hw5] at HE
  have HB5 : Aside0 (Below w2.heap.size w2 w5) := ⟨HB4.out.trans (by rw [hw5]; exact (Below.refl _ _).alloc HB4.out.size _)⟩
  have HZ5 : Aside0 (w5.heap.size = w4.heap.size + 1) := ⟨by rw [hw5]; simp⟩
  rw [← HZ5.out] at HR
  generalize w4.heap.size = g at HE HR
  clear hw5 HZ5 HB4 HT3 HGT HB3
  go_wp2_with (fail)
  refine (of_calls w5 A c xs (Kd.C_below HC.out (HB2.out.trans (HB5.out.mono (Nat.le_of_lt HL2.out)))) HS.out).mono ?_
  rintro e w6 ⟨gt', rfl, hgt, hT, hb3⟩
  have HT3 := Aside0.mk hT
  have HGT := Aside0.mk hgt
  have HB3 := Aside0.mk hb3
  clear hT hgt hb3
  go_wp2_with (fail)
  refine (oof_calls w6 gt' _ _ 0 HT3.out).mono ?_
  rintro e w7 ⟨go', B', rfl, hgo, hO, _, hb4⟩
  obtain ⟨hE, hR⟩ := tab_make HB3.out HGT.out HT3.out.lt (fun k hk => hk.1) hgo hb4 hO
  have HB7 := Aside0.mk (HB3.out.trans (hb4.mono HB3.out.size))
  generalize hok : (fun k => (w5.heap.size ≤ k ∧ k ≠ gt') ∧ k < w6.heap.size) = okU at hE hR
  have HE' := Aside0.mk hE
  have HR' := Aside0.mk hR
  clear hgo hO hb4 hE hR hok
  go_wp2_with (fail)
  refine (tab_of 1 go' w7).mono ?_
  rintro e w8 ⟨rfl, hw8⟩
  rw [← hw8] at HE'
  have HB8 : Aside0 (Below w5.heap.size w5 w8) := ⟨HB7.out.trans (by rw [hw8]; exact (Below.refl _ _).alloc HB7.out.size _)⟩
  have HZ8 : Aside0 (w8.heap.size = w7.heap.size + 1) := ⟨by rw [hw8]; simp⟩
  rw [← HZ8.out] at HR'
  generalize w7.heap.size = g' at HE' HR'
  have HE8 := Aside0.mk (HE.out.step (fun k _ hlt => HB8.out.block k hlt) HB8.out.size)
  clear hw8 HZ8 HB7 HT3 HGT HB3 HE
  go_wp2_with (fail)
  refine (create_some w8 g go gt B okT (xs.map cutw) HE8.out HY.out).mono ?_
  rintro e w9 ⟨rfl, b, hb, hO, hk⟩
  rw [HY0.out] at hO ⊢
  have HO9 := Aside0.mk hO
  have HK9 := Aside0.mk hk
  have HE9 := Aside0.mk (HE'.out.other HR'.out hk fun k hS => .inl (by rcases hS with rfl | rfl; exact HR.out.g.2; exact HR.out.gt.2))
  have HBB := Aside0.mk hb
  clear hO hk hb HE8 HE'
  go_wp2_with (fail)
  have hba := (Below.refl w9.heap.size w9).alloc (Nat.le_refl _) (.cells #[.int .u64 1, .int .u32 0, .int .u8 255, .int .u64 y0] 39)
  have HO10 := Aside0.mk (HO9.out.step (fun k _ hlt => hba.block k hlt) hba.size)
  have HE10 := Aside0.mk (HE9.out.step (fun k _ hlt => hba.block k hlt) hba.size)
  have HN9 := Aside0.mk (heap_alloc_new w9 (.cells #[.int .u64 1, .int .u32 0, .int .u8 255, .int .u64 y0] 39))
  clear hba HO9 HE9
  refine (create_some _ g' go' gt' B' okU (xs.map cutw) HE10.out HY.out).mono ?_
  rintro e w11 ⟨rfl, b', hb, hO, hk⟩
  rw [HY0.out] at hO ⊢
  have hl2 := HL2.out
  have h25 := HB5.out.size
  have h58 := HB8.out.size
  have h89 := HK9.out.env.size
  have hrg := HR.out.g
  have hrt := HR.out.gt
  have hrg' := HR'.out.g
  have hrt' := HR'.out.gt
  have hn9 : w9.heap[w.heap.size]? = some (.cells #[.int .u64 p, .int .u32 o, .int .u8 r, .int .u64 ck] 39 (0, 0)) := (HK9.out.keep _ (by omega) (by omega)).trans ((HB8.out.block _ (by omega)).trans ((HB5.out.block _ hl2).trans HN2.out))
  have hn11 : w11.heap[w.heap.size]? = some (.cells #[.int .u64 p, .int .u32 o, .int .u8 r, .int .u64 ck] 39 (0, 0)) := (hk.keep _ (by simp; omega) (by omega)).trans (blk_below hn9 ((Below.refl w9.heap.size w9).alloc (Nat.le_refl _) _))
  have hw11 := blk_lt hn11
  have ha11 : w11.heap[w9.heap.size]? = some (.cells #[.int .u64 1, .int .u32 0, .int .u8 255, .int .u64 y0] 39 (0, 0)) := (hk.keep _ (by simp) (by omega)).trans HN9.out
  have HA11 := Aside0.mk ha11
  have HO11 := Aside0.mk hO
  have HT11 := Aside0.mk (HO10.out.other HR.out hk (fun k hS => .inr (by omega)) (by have := HBB.out; omega))
  have HK11 := Aside0.mk hk
  have HBB' := Aside0.mk hb
  have HN11 := Aside0.mk hn11
  have hcn0 : ∀ o', (w11.alloc o').cell? ⟨w.heap.size, 0, none⟩ = some (.int .u64 p) := fun o' => (World.cell?_alloc_lt w11 o' ⟨w.heap.size, 0, none⟩ hw11).trans ((blk_cell hn11 0).trans rfl)
  have hcn1 : ∀ o', (w11.alloc o').cell? ⟨w.heap.size, 1, none⟩ = some (.int .u32 o) := fun o' => (World.cell?_alloc_lt w11 o' ⟨w.heap.size, 1, none⟩ hw11).trans ((blk_cell hn11 1).trans rfl)
  have hcn2 : ∀ o', (w11.alloc o').cell? ⟨w.heap.size, 2, none⟩ = some (.int .u8 r) := fun o' => (World.cell?_alloc_lt w11 o' ⟨w.heap.size, 2, none⟩ hw11).trans ((blk_cell hn11 2).trans rfl)
  have hcn3 : ∀ o', (w11.alloc o').cell? ⟨w.heap.size, 3, none⟩ = some (.int .u64 ck) := fun o' => (World.cell?_alloc_lt w11 o' ⟨w.heap.size, 3, none⟩ hw11).trans ((blk_cell hn11 3).trans rfl)
  have hfn : ∀ o' j, (w11.alloc o').frozen? ⟨w.heap.size, j, none⟩ = false := fun o' j => (World.frozen?_alloc_old w11 o' ⟨w.heap.size, j, none⟩ (Nat.ne_of_lt hw11)).trans (blk_frozen hn11 j)
  have HW11 := Aside0.mk hw11
  clear hb hO hk hl2 h25 h58 h89 hrg hrt hrg' hrt' hn9 hn11 ha11 hw11
  go_wp2_with (fail)
  clear hcn0 hcn1 hcn2 hcn3 hfn
  obtain ⟨s1, s2, s3⟩ := set_n (o' := capV y0) HN11.out
  generalize ((w11.alloc (capV y0)).setCell ⟨w.heap.size, 0, none⟩ (.int .u64 1)).setCell ⟨w.heap.size, 1, none⟩ (.int .u32 0) = w13 at s1 s2 s3 ⊢
  have hl2 := HL2.out
  have h25 := HB5.out.size
  have h58 := HB8.out.size
  have h89 := HK9.out.env.size
  have hrg := HR.out.g
  have hrt := HR.out.gt
  have hro := HR.out.go
  have hrg' := HR'.out.g
  have hrt' := HR'.out.gt
  have hro' := HR'.out.go
  have hbb := HBB.out
  have hbb' := HBB'.out
  have h911 : w9.heap.size + 1 ≤ w11.heap.size := by have := HK11.out.env.size; simpa using this
  have hbb'2 : w9.heap.size + 1 ≤ b' := by simpa using hbb'
  have hT13 := HT11.out.other HR.out s2 (fun k hS => .inl (by omega)) (by omega)
  have hO13 := HO11.out.other HR'.out s2 (fun k hS => .inl (by omega)) (by omega)
  have ha13 : w13.heap[w9.heap.size]? = some (.cells #[.int .u64 1, .int .u32 0, .int .u8 255, .int .u64 y0] 39 (0, 0)) := (s2.keep _ (by omega) (by omega)).trans HA11.out
  have h1113 := s2.env.size
  obtain ⟨X, hX⟩ : ∃ X, chkE r need y0 ck (xs.map cutw) 1 = X := ⟨_, rfl⟩
  have HCX := Aside0.mk hX
  have hc1 := check_one w13 g go gt B b okT (xs.map cutw) 1 r ck need y0 hT13
  rw [hX] at hc1
  refine hc1.mono ?_
  rintro e w14 ⟨rfl, hk14⟩
  have hlt11 : w11.heap.size < w13.heap.size := blk_lt s3
  have hO14 := hO13.other HR'.out hk14 (fun k hS => .inl (by omega)) (by omega)
  have hn14 := (hk14.keep w.heap.size (by omega) (by omega)).trans s1
  have ha14 := (hk14.keep w9.heap.size (by omega) (by omega)).trans ha13
  have hb14 := (hk14.keep w11.heap.size hlt11 (by omega)).trans s3
  have hc2 := check_one w14 g' go' gt' B' b' okU (xs.map cutw) 1 r ck need y0 hO14
  rw [hX] at hc2
  have hd0 := (blk_cell hn14 0).trans (show _ = some (Value.int .u64 1) from rfl)
  have hd1 := (blk_cell hn14 1).trans (show _ = some (Value.int .u32 0) from rfl)
  have hd2 := (blk_cell hn14 2).trans (show _ = some (Value.int .u8 r) from rfl)
  have hd3 := (blk_cell hn14 3).trans (show _ = some (Value.int .u64 ck) from rfl)
  have h1314 := hk14.env.size
  have HF14 : Aside0 (∀ w15, Kp (fun k => k = go' ∨ k = gt') w14 w15 → w15.heap[w.heap.size]? = some (.cells #[.int .u64 1, .int .u32 0, .int .u8 r, .int .u64 ck] 39 (0, 0)) ∧ w15.heap[w9.heap.size]? = some (capV y0) ∧ w15.heap[w11.heap.size]? = some (capV y0) ∧ Below w.heap.size w w15) := ⟨fun w15 hk15 => by
    refine ⟨(hk15.keep _ (by omega) (by omega)).trans hn14, (hk15.keep _ (by omega) (by omega)).trans ha14, (hk15.keep _ (by omega) (by omega)).trans hb14, ?_⟩
    have e1 : Below w.heap.size w w8 := HB2.out.trans ((HB5.out.mono (Nat.le_of_lt hl2)).trans (HB8.out.mono (by omega)))
    have e2 : Below w.heap.size w8 w9 := HK9.out.lower (fun k hS => by omega) (by omega)
    have e3 : Below w.heap.size w9 (w9.alloc (capV y0)) := ((Below.refl w9.heap.size w9).alloc (Nat.le_refl _) _).mono (by omega)
    have e4 : Below w.heap.size (w9.alloc (capV y0)) w11 := HK11.out.lower (fun k hS => by omega) (by simp; omega)
    have e5 : Below w.heap.size w11 w13 := s2.lower (fun k hS => by omega) (by omega)
    have e6 : Below w.heap.size w13 w14 := hk14.lower (fun k hS => by omega) (by omega)
    have e7 : Below w.heap.size w14 w15 := hk15.lower (fun k hS => by omega) (by omega)
    exact ((((((e1.trans e2).trans e3).trans e4).trans e5).trans e6).trans e7)⟩
  have HC2 := Aside0.mk hc2
  clear s1 s2 s3 hl2 h25 h58 h89 hrg hrt hro hrg' hrt' hro' hbb hbb' h911 hbb'2 hT13 hO13 ha13 h1113 hX hc1 hk14 hlt11 hO14 hn14 ha14 hb14 hc2 h1314
  go_wp2_with (fail)
  refine HC2.out.mono ?_
  rintro e w15 ⟨rfl, hk15⟩
  obtain ⟨hn15, ha15, hb15, hB15⟩ := HF14.out w15 hk15
  have hg15 := pw_cell_below hB15 HG.out
  have he0 := (blk_cell ha15 0).trans (show _ = some (Value.int .u64 1) from rfl)
  have he1 := (blk_cell ha15 1).trans (show _ = some (Value.int .u32 0) from rfl)
  have he2 := (blk_cell ha15 2).trans (show _ = some (Value.int .u8 255) from rfl)
  have he3 := (blk_cell ha15 3).trans (show _ = some (Value.int .u64 y0) from rfl)
  have hf0 := (blk_cell hb15 0).trans (show _ = some (Value.int .u64 1) from rfl)
  have hf1 := (blk_cell hb15 1).trans (show _ = some (Value.int .u32 0) from rfl)
  have hf2 := (blk_cell hb15 2).trans (show _ = some (Value.int .u8 255) from rfl)
  have hf3 := (blk_cell hb15 3).trans (show _ = some (Value.int .u64 y0) from rfl)
  have HN15 := Aside0.mk hn15
  have HB15 := Aside0.mk hB15
  have HG15 := Aside0.mk hg15
  clear hd0 hd1 hd2 hd3 hk15 hn15 ha15 hb15 hB15 hg15
  go_wp2_with (fail)
  refine (number_nil w15).mono ?_
  rintro e w16 ⟨rfl, hb16⟩
  have HB16 := Aside0.mk hb16
  clear hb16 he0 he1 he2 he3 hf0 hf1 hf2 hf3
  go_wp2_with (fail)
  refine (number_nil w16).mono ?_
  rintro e w17 ⟨rfl, hb17⟩
  have HB17 := Aside0.mk (HB16.out.trans (hb17.mono HB16.out.size))
  clear hb17
  go_wp2_with (fail)
  refine (number_calls X w17 (pw_cell_below HB17.out HG15.out)).mono ?_
  rintro e w18 ⟨rfl, hb18⟩
  have HB18 := Aside0.mk (HB17.out.trans (hb18.mono HB17.out.size))
  clear hb18
  go_wp2_with (fail)
  refine (number_calls X w18 (pw_cell_below HB18.out HG15.out)).mono ?_
  rintro e w19 ⟨rfl, hb19⟩
  have HB19 := Aside0.mk (HB18.out.trans (hb19.mono HB18.out.size))
  clear hb19
  have HN19 := Aside0.mk (blk_below HN15.out HB19.out)
  have HW19 : Aside0 (Below w.heap.size w w19) := ⟨HB15.out.trans (HB19.out.mono HB15.out.size)⟩
  go_wp2_with (fail)
  have hln := HC.out.2.1
  go_loopw [79] (fun iv wr => ∃ k : Nat, k ≤ xs.length ∧ iv = .int .i64 k ∧ Aside0 (∀ j : Nat, j < k → cutw (rd xs (j : Int)) ≠ ck) ∧ Aside0 (Below w19.heap.size w19 wr)) (fun iv _ => xs.length - (intOf iv).toNat)
  case atStart => exact ⟨0, Nat.zero_le _, rfl, ⟨fun j hj => by omega⟩, ⟨Below.refl _ _⟩⟩
  case round =>
    obtain ⟨k, hk, rfl, HQ, HW⟩ := hrel
    have hcn := (blk_cell (blk_below HN19.out HW.out) 3).trans (show _ = some (Value.int .u64 ck) from rfl)
    by_cases hlt : k < xs.length
    · obtain ⟨ad, hA, hx⟩ := Kd.at_int HC.out (k : Int) (by omega) (by omega)
      cases hA
      replace hx := pw_cell_below HW.out (pw_cell_below HW19.out hx)
      rw [Int.toNat_natCast] at hx
      generalize hv : rd xs (k : Int) = x at hx
      have HV := Aside0.mk hv
      clear hv
      have hlt' : (k : Int) < (xs.length : Int) := by omega
      by_cases c1 : cutw x = ck
      · have c1b : (Go.bits .and .u64 x 281474976710655 == ck) = true := by rw [show Go.bits .and .u64 x 281474976710655 = cutw x from rfl]; simpa using c1
        clear c1
        go_wp2_with (fail)
        go_ret
        exact ⟨rfl, HW19.out.trans (HW.out.mono HW19.out.size)⟩
      · have c1b : (Go.bits .and .u64 x 281474976710655 == ck) = false := by rw [show Go.bits .and .u64 x 281474976710655 = cutw x from rfl]; simpa using c1
        have HQ2 : Aside0 (∀ j : Nat, j < k + 1 → cutw (rd xs (j : Int)) ≠ ck) := ⟨fun j hj => by
          by_cases e : j = k
          · subst e; rw [HV.out]; exact c1
          · exact HQ.out j (by omega)⟩
        clear c1
        go_wp2_with (fail)
        go_roundw
        case rel => exact ⟨k + 1, hlt, by simp, HQ2, HW⟩
        case measure => simp [intOf]; omega
    · obtain rfl : k = xs.length := by omega
      cases X with
      | none =>
        obtain ⟨j, hj, he⟩ := chk_none HX.out (by rw [HY0.out]; exact HCX.out)
        exact absurd he (HQ.out j hj)
      | some c =>
        simp only [errW]
        go_wp2_with (fail)
        go_ret
        exact ⟨rfl, HW19.out.trans (HW.out.mono HW19.out.size)⟩
end Go.Proofs.YtnphfcaokjdigaaGreatDoor.PA
