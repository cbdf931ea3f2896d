/- PortmapScript, walked: where ports are, and what is forgotten, is what the law's own row says, deed by deed. -/
import Derived.Test.YtbahpfmfjeafnaaH7a
import Derived.Test.YtbahpfmfjeafnaaH8
namespace Go.Proofs.Ytbahpfmfjeafnaa.PA
open Go.RowKit Go.Proofs.YtbahpfmfjeafnaaW.PrintWords Go.Proofs.YtbahpfmfjeafnaaW.PrintLast Go.Proofs.YtbahpfmfjeafnaaW.PrintMore
set_option linter.unusedVariables false
set_option linter.unusedSimpArgs false
attribute [local go_sem] max2_int min2_int max_two min_two max_three min_three max_four min_four
/-- the map and the law's row hold the same places -/
def Both (w : World) (g r : Nat) (M : Int) (xs : List S53) : Prop :=
  ∃ okm okr, IsMap w g okm xs M ∧ RowAt w r okr xs ∧ (∀ k, okm k → k ≠ r) ∧ (∀ k, okr k → k ≠ g) ∧ g ≠ r
theorem Both.below {w w1 : World} {g r : Nat} {M : Int} {xs : List S53} (h : Both w g r M xs) (hb : Below w.heap.size w w1) : Both w1 g r M xs := by
  obtain ⟨okm, okr, h1, h2, h3, h4, h5⟩ := h
  exact ⟨okm, okr, h1.below hb, h2.below hb, h3, h4, h5⟩
/-- only the map has turned -/
theorem both_map {w w1 : World} {g r : Nat} {okr : Nat → Prop} {xs : List S53} (hR : RowAt w r okr xs) (h4 : ∀ k, okr k → k ≠ g) (h5 : g ≠ r) (hk : KeepBut w w1 g none) : RowAt w1 r (fun k => okr k ∧ k < w.heap.size) xs :=
  hR.bound.step (fun k hk' hlt => hk.2 k hlt (by rcases hk' with rfl | h; exact fun e => h5 e.symm; exact h4 k h.1) (by simp))
/-- the row has turned, too -/
theorem both_row {w w1 w2 : World} {g r : Nat} {M : Int} {xs ys : List S53} {ok : Nat → Prop} (hM : IsMap w1 g (fun k => w.heap.size ≤ k) xs M) (hrl : r < w.heap.size) (hgl : g < w.heap.size) (h5 : g ≠ r) (hR : RowAt w2 r ok ys) (hok : ∀ k, ok k → w.heap.size ≤ k) (hk : KeepBut w1 w2 r none) (e : ys = xs) : Both w2 g r M ys := by
  subst e
  refine ⟨_, _, hM.bound.step (fun k hk' hlt => hk.2 k hlt (by rcases hk' with rfl | h; exact h5; (have := h.1; omega)) (by simp)), hR, fun k hk' => by have := hk'.1; omega, fun k hk' => by have := hok k hk'; omega, h5⟩
theorem one_C {w : World} {b : Nat} {x y z : Int} (hb : w.heap[b]? = some (.cells #[.int .u64 x, .int .i64 y, .int .i64 z] 44 (0, 0))) : Kd.C k53 w (some ⟨b, 0, none⟩) 1 [(⟨x, y, z⟩ : S53)] := by
  refine ⟨rfl, by decide, fun _ => ⟨_, rfl, fun j u hj => ?_⟩⟩
  obtain ⟨hjl, rfl⟩ := List.getElem?_eq_some_iff.1 hj
  obtain rfl : j = 0 := by simpa using hjl
  refine ⟨_, rfl, k53_mk w ⟨x, y, z⟩, fun i u hu => ?_⟩
  have hi : i < 3 := by
    obtain ⟨hh, _⟩ := List.getElem?_eq_some_iff.1 hu
    simpa using hh
  have := blk_cell hb i
  simp only [Addr.add, Nat.zero_mul, Nat.zero_add]
  rw [show (if i = 0 then (⟨b, 0, none⟩ : Addr) else ⟨b, i, none⟩) = ⟨b, i, none⟩ by split <;> simp_all, this]
  rw [← hu]
  match i, hi with
  | 0, _ => rfl
  | 1, _ => rfl
  | 2, _ => rfl
theorem first_cell (w : World) (u : Value) (t : TypeId) (o : Obj) : ((w.alloc (.cells #[u] t)).alloc o).drew.cell? ⟨w.heap.size, 0, none⟩ = some u := by
  have hb : ((w.alloc (.cells #[u] t)).alloc o).heap[w.heap.size]? = some (.cells #[u] t (0, 0)) :=
    (((Below.refl (w.alloc (.cells #[u] t)).heap.size (w.alloc (.cells #[u] t))).alloc (Nat.le_refl _) o).block w.heap.size (by simp)).trans (by simpa using heap_alloc_new w _)
  exact (blk_cell hb 0).trans rfl
theorem second_cell (w : World) (u : Value) (t : TypeId) (o : Obj) : ((w.alloc o).alloc (.cells #[u] t)).drew.cell? ⟨w.heap.size + 1, 0, none⟩ = some u := by
  have hb : ((w.alloc o).alloc (.cells #[u] t)).heap[w.heap.size + 1]? = some (.cells #[u] t (0, 0)) := by simpa using heap_alloc_new (w.alloc o) (.cells #[u] t)
  exact (blk_cell hb 0).trans rfl
set_option maxHeartbeats 6400000 in
set_option maxRecDepth 100000 in
theorem script_walk (age : Int) (qs : List S47) (A2 : Option Addr) (c2 : Nat) (W : World) (h0 : -128 ≤ age ∧ age < 128) (hC2 : Kd.C k47 W A2 qs.length qs) (hr : ∀ q ∈ qs, (0 ≤ q.f0 ∧ q.f0 < 256) ∧ (0 ≤ q.f1 ∧ q.f1 < 256) ∧ (0 ≤ q.f2 ∧ q.f2 < 256) ∧ (0 ≤ q.f3 ∧ q.f3 < 256)) (hsize : qs.length * 4 ≤ 140737488351232) :
    Calls Try.prog 7 #[.int .i8 age, .slice A2 qs.length c2] W fun e w' => e = .returned (.bool true) ∧ Below W.heap.size W w' := by
  have HC2 := Aside0.mk hC2
  have HRQ := Aside0.mk hr
  have H0 := Aside0.mk h0
  have wa : wrap64 age = age := by unfold wrap64; omega
  have hmf : ∀ (fn : Fn) (first cap : Array Value) (w : World), (Instr.makeFunc fn first cap).run Try.prog w = .ok (.func fn first cap) w := fun _ _ _ _ => rfl
  clear hC2 hr h0
  generalize hmx : mx 1 age = M
  have hmx' : (if 1 < age then age else 1) = M := hmx
  have hmx2 := Aside0.mk hmx
  clear hmx
  go_enter Try.func7, Try.ntmps7
  go_wp2_with (fail)
  refine (awake_calls W).mono ?_
  rintro e w1 ⟨rfl, HB1⟩
  go_wp2_with (fail)
  refine (of_calls age w1).mono ?_
  rintro e w2 ⟨g, rfl, hg, hM, HB2⟩
  have hg' := Nat.le_trans HB1.size hg
  have HB := Aside0.mk (HB1.trans (HB2.mono HB1.size))
  rw [hmx2.out] at hM
  have hgl := hM.lt
  have hbel := (Below.refl w2.heap.size w2).alloc (Nat.le_refl _) (.cells #[.slice none 0 0] 41)
  have hM2 := hM.below hbel
  have hbr : (w2.alloc (.cells #[.slice none 0 0] 41)).heap[w2.heap.size]? = some (.cells #[.slice none 0 0] 41 (0, 0)) := by simpa using heap_alloc_new w2 _
  have HO := Aside0.mk (show ∃ xs t, Both (w2.alloc (.cells #[.slice none 0 0] 41)) g w2.heap.size M xs ∧ xs.length ≤ 16 ∧ Good t xs ∧ t = 0 from ⟨[], 0, ⟨_, (fun _ => False), hM2, ⟨none, 0, hbr, Nat.zero_le _, fun W' _ => ⟨rfl, by decide, fun h => absurd h (Nat.lt_irrefl 0)⟩, fun k hk => hk.elim⟩, fun k hk => hk.elim, fun k hk => hk.elim, by omega⟩, by simp, Good.nil 0, rfl⟩)
  have HB3 := Aside0.mk (HB.out.trans (hbel.mono HB.out.size))
  have HG := Aside0.mk hg'
  have HR := Aside0.mk (show W.heap.size ≤ w2.heap.size from HB.out.size)
  clear hM hbel hM2 hbr HB1 HB2 hg hg' hgl HB
  go_wp2_with (fail)
  generalize w2.alloc (.cells #[.slice none 0 0] 41) = w3 at HO HB3 ⊢
  generalize w2.heap.size = r at HO HR ⊢
  rw [wa]
  clear wa
  go_loopg [9, 32] qs.length (fun gk nv iv wr => ∃ (k : Nat) (t : Int), k ≤ qs.length ∧ gk = qs.length - k ∧ iv = .int .i64 k ∧ nv = .int .i64 t ∧ 0 ≤ t ∧ t ≤ 3 * k ∧ Aside0 (∃ xs, Both wr g r M xs ∧ xs.length ≤ 16 ∧ Good t xs) ∧ Aside0 (Below W.heap.size W wr))
  case atStart =>
    obtain ⟨xs, t, h1, h2, h3, rfl⟩ := HO.out
    exact ⟨0, 0, by omega, by omega, rfl, rfl, by omega, by omega, ⟨xs, h1, h2, h3⟩, HB3⟩
  case round =>
    clear HO HB3
    obtain ⟨k, t, hk, rfl, rfl, rfl, ht0, ht3, HO, HB⟩ := hrel
    by_cases hlt : k < qs.length
    · obtain ⟨ad, hA, hx0, hx1, hx2, hx3⟩ := at_T47 HC2.out (k : Int) (by omega) (by omega)
      replace hx0 := pw_cell_below HB.out hx0
      replace hx1 := pw_cell_below HB.out hx1
      replace hx2 := pw_cell_below HB.out hx2
      replace hx3 := pw_cell_below HB.out hx3
      cases hA
      rw [Int.toNat_natCast] at hx0 hx1 hx2 hx3
      have hq : rd_T47 qs (k : Int) ∈ qs := by
        have : rd_T47 qs (k : Int) = qs[k] := by simp [rd_T47, List.getD_eq_getElem?_getD, List.getElem?_eq_getElem hlt]
        rw [this]
        exact List.getElem_mem hlt
      have hrq := HRQ.out _ hq
      generalize rd_T47 qs (k : Int) = q0 at hx0 hx1 hx2 hx3 hrq
      obtain ⟨op, po, no, la⟩ := q0
      obtain ⟨ho, hp, hn, hl⟩ := hrq
      simp only [] at hx0 hx1 hx2 hx3
      have ho : 0 ≤ op ∧ op < 256 := ho
      have hp : 0 ≤ po ∧ po < 256 := hp
      have hn : 0 ≤ no ∧ no < 256 := hn
      have hl : 0 ≤ la ∧ la < 256 := hl
      have hlt' : (k : Int) < (qs.length : Int) := by omega
      have hbel := (Below.refl wr.heap.size wr).alloc (Nat.le_refl _) (.cells #[.int .u8 op, .int .u8 po, .int .u8 no, .int .u8 la] 47)
      have HO2 := Aside0.mk (show ∃ xs, Both (wr.alloc (.cells #[.int .u8 op, .int .u8 po, .int .u8 no, .int .u8 la] 47)) g r M xs ∧ xs.length ≤ 16 ∧ Good t xs by
        obtain ⟨xs, h1, h2, h3⟩ := HO.out
        exact ⟨xs, h1.below hbel, h2, h3⟩)
      have HBq := Aside0.mk (HB.out.trans (hbel.mono HB.out.size))
      have hbq : (wr.alloc (.cells #[.int .u8 op, .int .u8 po, .int .u8 no, .int .u8 la] 47)).heap[wr.heap.size]? = some (.cells #[.int .u8 op, .int .u8 po, .int .u8 no, .int .u8 la] 47 (0, 0)) := by simpa using heap_alloc_new wr _
      have hq0 : (wr.alloc (.cells #[.int .u8 op, .int .u8 po, .int .u8 no, .int .u8 la] 47)).cell? ⟨wr.heap.size, 0, none⟩ = some (.int .u8 op) := (blk_cell hbq 0).trans rfl
      have hq1 : (wr.alloc (.cells #[.int .u8 op, .int .u8 po, .int .u8 no, .int .u8 la] 47)).cell? ⟨wr.heap.size, 1, none⟩ = some (.int .u8 po) := (blk_cell hbq 1).trans rfl
      have hq2 : (wr.alloc (.cells #[.int .u8 op, .int .u8 po, .int .u8 no, .int .u8 la] 47)).cell? ⟨wr.heap.size, 2, none⟩ = some (.int .u8 no) := (blk_cell hbq 2).trans rfl
      have hq3 : (wr.alloc (.cells #[.int .u8 op, .int .u8 po, .int .u8 no, .int .u8 la] 47)).cell? ⟨wr.heap.size, 3, none⟩ = some (.int .u8 la) := (blk_cell hbq 3).trans rfl
      have hqs : wr.heap.size < (wr.alloc (.cells #[.int .u8 op, .int .u8 po, .int .u8 no, .int .u8 la] 47)).heap.size := by simp
      have w1' : wrap64 (la % 4) = la % 4 := by unfold wrap64; omega
      have w2' : wrap64 (t + la % 4) = t + la % 4 := by unfold wrap64; omega
      clear hbel HB HO hbq hq
      go_wp2_with (fail)
      generalize wr.alloc (.cells #[.int .u8 op, .int .u8 po, .int .u8 no, .int .u8 la] 47) = wq at HO2 HBq hq0 hq1 hq2 hq3 hqs ⊢
      generalize wr.heap.size = q at hq0 hq1 hq2 hq3 hqs ⊢
      go_cut [12, 13] (fun p n wx => ∃ bp bn : Nat, p = .pointer (some ⟨bp, 0, none⟩) ∧ n = .pointer (some ⟨bn, 0, none⟩) ∧ wx.cell? ⟨bp, 0, none⟩ = some (.int .u64 (po % 24)) ∧ wx.cell? ⟨bn, 0, none⟩ = some (.int .i64 (no % 5)) ∧ wq.heap.size ≤ bp ∧ wq.heap.size ≤ bn ∧ bp < wx.heap.size ∧ bn < wx.heap.size ∧ Below wq.heap.size wq wx)
      case first =>
        go_region
        all_goals (try go_wp2_with (fail))
        all_goals go_meet
        · exact ⟨_, _, rfl, rfl, first_cell _ _ _ _, second_cell _ _ _ _, by simp, by simp, by first | (simp; done) | (simp; omega), by first | (simp; done) | (simp; omega), by repeat (first | exact Below.refl _ _ | apply below_alloc | apply pw_below_drewN | apply below_drew1)⟩
        · exact ⟨_, _, rfl, rfl, second_cell _ _ _ _, first_cell _ _ _ _, by simp, by simp, by first | (simp; done) | (simp; omega), by first | (simp; done) | (simp; omega), by repeat (first | exact Below.refl _ _ | apply below_alloc | apply pw_below_drewN | apply below_drew1)⟩
      case rest =>
        obtain ⟨bp, bn, rfl, rfl, hbp, hbn, hbp1, hbn1, hbp2, hbn2, hbx⟩ := hcut
        rename World => wb
        replace hq0 := pw_cell_below hbx hq0
        have HO3 := Aside0.mk (show ∃ xs, Both wb g r M xs ∧ xs.length ≤ 16 ∧ Good t xs by
          obtain ⟨xs, h1, h2, h3⟩ := HO2.out
          exact ⟨xs, h1.below hbx, h2, h3⟩)
        have HB3 := Aside0.mk (HBq.out.trans (hbx.mono HBq.out.size))
        have hgr : g < wq.heap.size ∧ r < wq.heap.size := by
          obtain ⟨xs, ⟨okm, okr, h1, h2, _⟩, _⟩ := HO2.out
          exact ⟨h1.lt, h2.lt⟩
        have hwc := hbx.size
        have HT := Aside0.mk (show t ≤ t + la % 4 ∧ 0 ≤ t + la % 4 by omega)
        clear hq1 hq2 hq3 hbx HO2 HBq
        go_upto_block 2 with (fail)
        go_cut [] (fun wx => Aside0 (∃ xs, Both wx g r M xs ∧ xs.length ≤ 16 ∧ Good (t + la % 4) xs) ∧ Aside0 (Below W.heap.size W wx))
        case first =>
          refine wp_block ?_
          refine wp_seq_k ?_
          intro KS hKS
          go_cut [59] (fun b wx => b = .bool (decide (op % 4 ≤ 1)) ∧ wb = wx)
          case first =>
            by_cases e0 : op % 4 = 0
            · have e0b : (op % 4 == 0) = true := by simp [e0]
              have E0 := Aside0.mk e0
              clear e0
              go_wp2_with (fail)
              go_meet
              exact ⟨by simp [E0.out], rfl⟩
            · by_cases e1 : op % 4 = 1
              · have e1b : (op % 4 == 1) = true := by simp [e1]
                have E1 := Aside0.mk e1
                clear e1
                go_wp2_with (fail)
                go_meet
                exact ⟨by simp [E1.out], rfl⟩
              · go_wp2_with (fail)
                go_meet
                exact ⟨by rw [decide_eq_false (by omega)]; simp [e1], rfl⟩
          case rest =>
            obtain ⟨rfl, rfl⟩ := hcut
            by_cases hA : op % 4 ≤ 1
            · rw [decide_eq_true hA]
              go_wp2_with (fail)
              obtain ⟨xs, ⟨okm, okr, hM, hR, h3, h4, h5⟩, hl16, hGd⟩ := HO3.out
              refine (learn_calls wb g okm xs M (po % 24) (no % 5) (t + la % 4) hM hl16).mono ?_
              rintro e w5 ⟨rfl, hM5, hK5, hB5⟩
              have HM5 := Aside0.mk hM5
              have HK5 := Aside0.mk hK5
              have HR5 := Aside0.mk (both_map hR h4 h5 hK5)
              have HB5 := Aside0.mk (HB3.out.trans (hB5.mono HG.out))
              have HGD := Aside0.mk hGd
              have hc5 := keep_cell hK5 hbp (by show bp ≠ g; omega)
              have hd5 := keep_cell hK5 hbn (by show bn ≠ g; omega)
              have hs5 := hK5.1
              clear hM hR h3 h4 hM5 hK5 hB5 hGd
              go_wp2_with (fail)
              refine (keep15_16 (po % 24) bp w5 r _ xs HR5.out hc5 (by omega) (by omega)).mono ?_
              rintro e w6 ⟨rfl, hR6, hK6, hB6⟩
              have hc6 := keep_cell hK6 hc5 (by show bp ≠ r; omega)
              have hd6 := keep_cell hK6 hd5 (by show bn ≠ r; omega)
              have hs6 := hK6.1
              have hy16 : (xs.filter (fun x => x.f0 != po % 24)).length ≤ 16 := Nat.le_trans (List.length_filter_le _ _) hl16
              have HLE : Aside0 (learnt (po % 24) (no % 5) (t + la % 4) xs = (if (xs.filter (fun x => x.f0 != po % 24)).length = 16 then (xs.filter (fun x => x.f0 != po % 24)).drop 1 else xs.filter (fun x => x.f0 != po % 24)) ++ [⟨po % 24, no % 5, t + la % 4⟩]) := ⟨rfl⟩
              have HLN := Aside0.mk (learnt_len (port := po % 24) (node := no % 5) (now := t + la % 4) hl16)
              have HGN := Aside0.mk ((HGD.out.later HT.out.1).learnt (port := po % 24) (node := no % 5) HT.out.2)
              generalize xs.filter (fun x => x.f0 != po % 24) = ys at hR6 hy16 HLE
              obtain ⟨Ay, cy, hby, hly, hFy, hny⟩ := hR6
              have hry := (blk_cell hby 0).trans (show _ = some (Value.slice Ay ys.length cy) from rfl)
              have hfy := blk_frozen hby 0
              have HBY := Aside0.mk hby
              have HFY := Aside0.mk hFy
              have HNY := Aside0.mk hny
              have HK6 := Aside0.mk hK6
              have HB6 := Aside0.mk (HB5.out.trans (hB6.mono HR.out))
              clear hby hFy hny hK6 hB6 HR5 HB5 HGD hc5 hd5
              go_upto_if 72 with (fail)
              go_cut [] (fun wx => ∃ okz zs, Aside0 (RowAt wx r okz zs) ∧ Aside0 (∀ k, okz k → w5.heap.size ≤ k) ∧ Aside0 (zs = (if ys.length = 16 then ys.drop 1 else ys)) ∧ Aside0 (KeepBut w6 wx r none) ∧ Aside0 (Below W.heap.size W wx))
              case first =>
                by_cases h16 : ys.length = 16
                · have h16b : ((ys.length : Int) == 16) = true := by
                    rw [beq_iff_eq]
                    omega
                  obtain ⟨ay, hAy, _⟩ := (Kd.F_now HFY.out).2.2 (by omega)
                  cases hAy
                  have hlen : (ys.drop 1).length = 15 := by rw [List.length_drop]; omega
                  have ea : (Option.map (·.add (1 * k53.sz)) (some ay)) = some ⟨ay.block, ay.off + 3, none⟩ := by
                    show some (ay.add 3) = _
                    simp [Addr.add]
                  have hF2 := Kd.F_cut HFY.out (m := 1) (by omega) hly
                  rw [if_neg (by omega), ea] at hF2
                  have HF2 := Aside0.mk (Kd.F_far hF2 (p := ⟨r, 0, none⟩) HNY.out (.slice (some ⟨ay.block, ay.off + 3, none⟩) 15 (cy - 1)))
                  have hbN : (w6.setCell ⟨r, 0, none⟩ (.slice (some ⟨ay.block, ay.off + 3, none⟩) 15 (cy - 1))).heap[r]? = some (.cells #[.slice (some ⟨ay.block, ay.off + 3, none⟩) (ys.drop 1).length (cy - 1)] 41 (0, 0)) := by
                    rw [hlen]
                    simpa using blk_set HBY.out 0 (.slice (some ⟨ay.block, ay.off + 3, none⟩) 15 (cy - 1))
                  have HRZ := Aside0.mk (show RowAt (w6.setCell ⟨r, 0, none⟩ (.slice (some ⟨ay.block, ay.off + 3, none⟩) 15 (cy - 1))) r _ (ys.drop 1) from ⟨_, _, hbN, by omega, HF2.out, HNY.out⟩)
                  have HKZ := Aside0.mk (KeepBut.set_ (KeepBut.refl w6 r none) 0 (.slice (some ⟨ay.block, ay.off + 3, none⟩) 15 (cy - 1)))
                  have HBZ := Aside0.mk (HB6.out.setCell (p := ⟨r, 0, none⟩) HR.out (.slice (some ⟨ay.block, ay.off + 3, none⟩) 15 (cy - 1)))
                  have HIF : Aside0 (ys.drop 1 = (if ys.length = 16 then ys.drop 1 else ys)) := ⟨by rw [if_pos h16]⟩
                  clear hF2 hbN hlen ea
                  go_wp2_with (fail)
                  go_meet
                  exact ⟨_, _, HRZ, ⟨fun k hk => hk⟩, HIF, HKZ, HBZ⟩
                · have h16b : ((ys.length : Int) == 16) = false := by
                    rw [beq_eq_false_iff_ne]
                    omega
                  have HRZ := Aside0.mk (show RowAt w6 r _ ys from ⟨Ay, cy, HBY.out, hly, HFY.out, HNY.out⟩)
                  have HIF : Aside0 (ys = (if ys.length = 16 then ys.drop 1 else ys)) := ⟨by rw [if_neg h16]⟩
                  go_wp2_with (fail)
                  go_meet
                  exact ⟨_, _, HRZ, ⟨fun k hk => hk⟩, HIF, ⟨KeepBut.refl w6 r none⟩, HB6⟩
              case rest =>
                obtain ⟨okz, zs, HRZ, HOZ, HIF, HKZ, HBZW⟩ := hcut
                obtain ⟨Az, cz, hbz, hlz, hFz, hnz⟩ := HRZ.out
                have hrz := (blk_cell hbz 0).trans (show _ = some (Value.slice Az zs.length cz) from rfl)
                have hpz := keep_cell HKZ.out hc6 (by show bp ≠ r; omega)
                have hnz' := keep_cell HKZ.out hd6 (by show bn ≠ r; omega)
                have HBZ := Aside0.mk hbz
                have HCz := Aside0.mk (Kd.F_now hFz)
                have hzl : zs.length ≤ 16 := by
                  rw [HIF.out]
                  split
                  · rw [List.length_drop]; omega
                  · exact hy16
                have hrl : r < wc.heap.size := blk_lt hbz
                clear hbz hFz hnz hc6 hd6 hry hfy
                have hnz := hnz'
                clear hnz'
                go_upto_region 22 with (fail)
                refine start_ (n := 9) (S := fun w' => w'.cell? ⟨r, 0, none⟩ = some (.slice Az zs.length cz) ∧ w'.cell? ⟨bp, 0, none⟩ = some (.int .u64 (po % 24)) ∧ w'.cell? ⟨bn, 0, none⟩ = some (.int .i64 (no % 5))) (ds := [8]) #[false, false, false, false, false, false, false, false, false] (by kernel_rfl) rfl rfl ⟨hrz, hpz, hnz⟩ (fun hHeld => ?_)
                refine pure_ (i := 4) (N := some 79) (v := ?_) (a' := ?_) #[false, false, false, false, true, false, false, false, false] rfl rfl (by kernel_rfl) (fun _ _ _ h => h) (Or.inl ⟨by rfl, ?_⟩) ?_ ?_
                rotate_left
                · intro w'
                  go_simp
                  with_reducible rfl
                rotate_left
                · simp only [Act.put, List.setIfInBounds_toArray, List.set_cons_zero, List.set_cons_succ, i64_w, i32_w]
                  rfl
                refine take_ (i := 0) (N := some 75) (v := ?_) (a' := ?_) #[true, false, false, false, true, false, false, false, false] rfl rfl (by kernel_rfl) (fun _ _ _ h => h) (Or.inl ⟨by rfl, ?_⟩) hHeld ?_ ?_
                rotate_left
                · rintro w' ⟨s0, s1, s2⟩
                  go_simp
                  with_reducible rfl
                rotate_left
                · simp only [Act.put, List.setIfInBounds_toArray, List.set_cons_zero, List.set_cons_succ, i64_w, i32_w]
                  rfl
                refine take_ (i := 2) (N := some 77) (v := ?_) (a' := ?_) #[true, false, true, false, true, false, false, false, false] rfl rfl (by kernel_rfl) (fun _ _ _ h => h) (Or.inl ⟨by rfl, ?_⟩) hHeld ?_ ?_
                rotate_left
                · rintro w' ⟨s0, s1, s2⟩
                  go_simp
                  with_reducible rfl
                rotate_left
                · simp only [Act.put, List.setIfInBounds_toArray, List.set_cons_zero, List.set_cons_succ, i64_w, i32_w]
                  rfl
                refine take_ (i := 3) (N := some 78) (v := ?_) (a' := ?_) #[true, false, true, true, true, false, false, false, false] rfl rfl (by kernel_rfl) (fun _ _ _ h => h) (Or.inl ⟨by rfl, ?_⟩) hHeld ?_ ?_
                rotate_left
                · rintro w' ⟨s0, s1, s2⟩
                  go_simp
                  with_reducible rfl
                rotate_left
                · simp only [Act.put, List.setIfInBounds_toArray, List.set_cons_zero, List.set_cons_succ, i64_w, i32_w]
                  rfl
                refine pure_ (i := 5) (N := some 80) (v := ?_) (a' := ?_) #[true, false, true, true, true, true, false, false, false] rfl rfl (by kernel_rfl) (fun _ _ _ h => h) (Or.inl ⟨by rfl, ?_⟩) ?_ ?_
                rotate_left
                · intro w'
                  go_simp
                  with_reducible rfl
                rotate_left
                · simp only [Act.put, List.setIfInBounds_toArray, List.set_cons_zero, List.set_cons_succ, i64_w, i32_w]
                  rfl
                refine join_ (σ := Value × Nat) 2 #[true, true, true, true, true, true, true, false, false] (fun s => [(76, s.1), (81, .slice (some ⟨s.2, 0, none⟩) 1 1)]) (fun s w' => Kd.R k53 44 w' wc.heap.size (fun _ => True) s.1 zs ∧ w'.heap[s.2]? = some (.cells #[.int .u64 (po % 24), .int .i64 (no % 5), .int .i64 (t + la % 4)] 44 (0, 0)) ∧ Below wc.heap.size wc w') ?_ ?_
                rotate_left
                · intro hCont
                  refine two_ (i := 1) (j := 6) (Ni := some 76) (Nj := some 81) #[true, true, true, true, true, true, false, false, false] #[true, false, true, true, true, true, true, false, false] rfl rfl rfl rfl (by kernel_rfl) (by decide) (by decide) (fun K hK => ?_) (fun K hK => ?_)
                  · skip
                    refine Kd.R_append_rows_step k53 (w0 := wc) wc.heap.size (by rfl) (.const (.slice none 0 0)) (.tmp 75) 41 44 (.agg #[(.int .u64 0), (.int .i64 0), (.int .i64 0)]) 24 rfl Try.underlying41 info44 rfl (by decide) (by omega) (.slice none 0 0) ([] : List S53) zs Az zs.length cz (fun _ => True) (fun _ => False) rfl rfl (Kd.R_nil _ _ _ _ _) (Kd.C_below HCz.out (by repeat (first | exact Below.refl _ _ | apply below_alloc | apply pw_below_drewN | apply below_drew1))) (fun x cs h => by rw [k53_open h]; exact k53_mkM _ _ _ x) (fun _ h => h.elim) (fun _ _ => trivial) (by repeat (first | exact Below.refl _ _ | apply below_alloc | apply pw_below_drewN | apply below_drew1)) (by first | exact Nat.le_refl _ | (simp; done) | (simp; omega)) (by simp; omega) ?_
                    intro va wa ho hb hg hat
                    rw [List.nil_append] at ho
                    refine hK.out _ _ ⟨(pw_cell_below (w := wc) hb hrz), (pw_cell_below (w := wc) hb hpz), (pw_cell_below (w := wc) hb hnz)⟩ (fun hHeld => ?_)
                    clear hK K
                    refine norm_ (a' := ?_) ?_ ?_
                    rotate_left
                    · show Act.put _ (some 76) _ = _
                      simp only [Act.put, List.setIfInBounds_toArray, List.set_cons_zero, List.set_cons_succ, i64_w, i32_w]
                      rfl
                    refine one_ (i := 6) (N := some 81) #[true, true, true, true, true, true, true, false, false] rfl rfl (by kernel_rfl) (by decide) (fun K hK => ?_)
                    refine value_ (w1 := ?_) (v := ?_) (by rfl) rfl ?_ ?_
                    rotate_left 2
                    · go_simp
                      constructor
                      · rfl
                      · rfl
                    refine hK.out _ _ ⟨(pw_cell_below (w := wc) (by first | exact below_alloc hb _ | exact below_drew1 (below_alloc hb _) | (repeat (first | exact Below.refl _ _ | exact hb | apply below_alloc | apply pw_below_drewN | apply below_drew1))) hrz), (pw_cell_below (w := wc) (by first | exact below_alloc hb _ | exact below_drew1 (below_alloc hb _) | (repeat (first | exact Below.refl _ _ | exact hb | apply below_alloc | apply pw_below_drewN | apply below_drew1))) hpz), (pw_cell_below (w := wc) (by first | exact below_alloc hb _ | exact below_drew1 (below_alloc hb _) | (repeat (first | exact Below.refl _ _ | exact hb | apply below_alloc | apply pw_below_drewN | apply below_drew1))) hnz)⟩ (fun hHeld => ?_)
                    clear hK K
                    refine norm_ (a' := ?_) ?_ ?_
                    rotate_left
                    · show Act.put _ (some 81) _ = _
                      simp only [Act.put, List.setIfInBounds_toArray, List.set_cons_zero, List.set_cons_succ, i64_w, i32_w]
                      rfl
                    exact norm_ (by simp only [putAll, Act.put, List.setIfInBounds_toArray, List.set_cons_zero, List.set_cons_succ]) (hCont (va, wa.heap.size) _ ⟨Kd.R_below ho (by repeat (first | exact Below.refl _ _ | apply below_alloc | apply pw_below_drewN | apply below_drew1)), by first | exact heap_alloc_new wa _ | (simpa using heap_alloc_new wa _), by repeat (first | exact hb | apply below_alloc | apply pw_below_drewN | apply below_drew1)⟩)
                  · skip
                    refine value_ (w1 := ?_) (v := ?_) (by rfl) rfl ?_ ?_
                    rotate_left 2
                    · go_simp
                      constructor
                      · rfl
                      · rfl
                    refine hK.out _ _ ⟨(pw_cell_below (w := wc) (by first | exact below_alloc hb _ | exact below_drew1 (below_alloc hb _) | (repeat (first | exact Below.refl _ _ | exact hb | apply below_alloc | apply pw_below_drewN | apply below_drew1))) hrz), (pw_cell_below (w := wc) (by first | exact below_alloc hb _ | exact below_drew1 (below_alloc hb _) | (repeat (first | exact Below.refl _ _ | exact hb | apply below_alloc | apply pw_below_drewN | apply below_drew1))) hpz), (pw_cell_below (w := wc) (by first | exact below_alloc hb _ | exact below_drew1 (below_alloc hb _) | (repeat (first | exact Below.refl _ _ | exact hb | apply below_alloc | apply pw_below_drewN | apply below_drew1))) hnz)⟩ (fun hHeld => ?_)
                    clear hK K
                    refine norm_ (a' := ?_) ?_ ?_
                    rotate_left
                    · show Act.put _ (some 81) _ = _
                      simp only [Act.put, List.setIfInBounds_toArray, List.set_cons_zero, List.set_cons_succ, i64_w, i32_w]
                      rfl
                    refine one_ (i := 1) (N := some 76) #[true, true, true, true, true, true, true, false, false] rfl rfl (by kernel_rfl) (by decide) (fun K hK => ?_)
                    refine Kd.R_append_rows_step k53 (w0 := wc) wc.heap.size (by rfl) (.const (.slice none 0 0)) (.tmp 75) 41 44 (.agg #[(.int .u64 0), (.int .i64 0), (.int .i64 0)]) 24 rfl Try.underlying41 info44 rfl (by decide) (by omega) (.slice none 0 0) ([] : List S53) zs Az zs.length cz (fun _ => True) (fun _ => False) rfl rfl (Kd.R_nil _ _ _ _ _) (Kd.C_below HCz.out (by repeat (first | exact Below.refl _ _ | apply below_alloc | apply pw_below_drewN | apply below_drew1))) (fun x cs h => by rw [k53_open h]; exact k53_mkM _ _ _ x) (fun _ h => h.elim) (fun _ _ => trivial) (by repeat (first | exact Below.refl _ _ | apply below_alloc | apply pw_below_drewN | apply below_drew1)) (by first | exact Nat.le_refl _ | (simp; done) | (simp; omega)) (by simp; omega) ?_
                    intro va wa ho hb hg hat
                    rw [List.nil_append] at ho
                    refine hK.out _ _ ⟨(pw_cell_below (w := wc) hb hrz), (pw_cell_below (w := wc) hb hpz), (pw_cell_below (w := wc) hb hnz)⟩ (fun hHeld => ?_)
                    clear hK K
                    refine norm_ (a' := ?_) ?_ ?_
                    rotate_left
                    · show Act.put _ (some 76) _ = _
                      simp only [Act.put, List.setIfInBounds_toArray, List.set_cons_zero, List.set_cons_succ, i64_w, i32_w]
                      rfl
                    exact norm_ (by simp only [putAll, Act.put, List.setIfInBounds_toArray, List.set_cons_zero, List.set_cons_succ]) (hCont (va, wc.heap.size) _ ⟨ho, (hg.block wc.heap.size (by simp) (by simp [Value.ownBlock])).trans (by first | exact heap_alloc_new wc _ | (simpa using heap_alloc_new wc _)), hb⟩)
                rintro ⟨va, bb⟩ w7 ⟨hRv, hbb, hbw⟩
                simp only [] at hRv hbb hbw ⊢
                obtain ⟨A7, c7, rfl⟩ := Kd.R_slice hRv
                have HRV := Aside0.mk hRv
                have HBB := Aside0.mk hbb
                have HBW := Aside0.mk hbw
                have hHeld : w7.cell? ⟨r, 0, none⟩ = some (.slice Az zs.length cz) ∧ w7.cell? ⟨bp, 0, none⟩ = some (.int .u64 (po % 24)) ∧ w7.cell? ⟨bn, 0, none⟩ = some (.int .i64 (no % 5)) := ⟨pw_cell_below hbw hrz, pw_cell_below hbw hpz, pw_cell_below hbw hnz⟩
                clear hRv hbb hbw
                refine norm_ (a' := ?_) ?_ ?_
                rotate_left
                · simp only [putAll, Act.put, List.setIfInBounds_toArray, List.set_cons_zero, List.set_cons_succ]
                  rfl
                refine one_ (i := 7) (N := some 82) #[true, true, true, true, true, true, true, true, false] rfl rfl (by kernel_rfl) (by decide) (fun K hK => ?_)
                refine Kd.R_append_rows_step k53 (w0 := wc) wc.heap.size (by rfl) (.tmp 76) (.tmp 81) 41 44 (.agg #[(.int .u64 0), (.int .i64 0), (.int .i64 0)]) 24 rfl Try.underlying41 info44 rfl (by decide) (by omega) (.slice A7 zs.length c7) zs [(⟨(po % 24), (no % 5), (t + la % 4)⟩ : S53)] (some ⟨bb, 0, none⟩) 1 1 (fun _ => True) (fun _ => False) rfl rfl HRV.out (one_C HBB.out) (fun x cs h => by rw [k53_open h]; exact k53_mkM _ _ _ x) (fun _ h => h.elim) (fun _ _ => trivial) HBW.out (Below.size HBW.out) (by omega) ?_
                intro v8 w8 ho hb8 hg8 hat8
                obtain ⟨A8, c8, rfl⟩ := Kd.R_slice ho
                have hb8r := (hb8.block r hrl).trans HBZ.out
                have hc8r := (blk_cell hb8r 0).trans (show _ = some (Value.slice Az zs.length cz) from rfl)
                have hf8r := blk_frozen hb8r 0
                have HR8 := Aside0.mk ho
                have HB8 := Aside0.mk hb8
                have HBR8 := Aside0.mk hb8r
                clear ho hg8 hat8 hb8r
                refine hK.out _ _ ⟨hc8r, (pw_cell_below hb8 hpz), (pw_cell_below hb8 hnz)⟩ (fun hHeld => ?_)
                clear hK K
                refine norm_ (a' := ?_) ?_ ?_
                rotate_left
                · show Act.put _ (some 82) _ = _
                  simp only [Act.put, List.setIfInBounds_toArray, List.set_cons_zero, List.set_cons_succ, i64_w, i32_w]
                  rfl
                refine last_ (i := 8) (N := none) #[true, true, true, true, true, true, true, true, true] rfl rfl (by kernel_rfl) (by decide) (fun K hK => ?_)
                refine skip_ (w1 := ?_) (by rfl) rfl ?_ ?_
                rotate_left
                · go_simp
                  rfl
                refine hK.out _ _ ?_
                clear hK K
                refine done_ (by kernel_rfl) ?_


                have HS := Kd.R_set HR8.out HBR8.out (by intro q hq; simp [k53, Kd.iso, Kd.pair, Kd.int, Kd.scalar] at hq; omega) 0 (.slice A8 (zs ++ [(⟨po % 24, no % 5, t + la % 4⟩ : S53)]).length c8)
                have hbS := blk_set HBR8.out 0 (.slice A8 (zs ++ [(⟨po % 24, no % 5, t + la % 4⟩ : S53)]).length c8)
                have hR9 := RowAt.of_R (w0 := wc) (by simpa using hbS) (by simpa using HS) hrl
                have hK9 : KeepBut w5 (w8.setCell ⟨r, 0, none⟩ (.slice A8 (zs ++ [(⟨po % 24, no % 5, t + la % 4⟩ : S53)]).length c8)) r none := (HK6.out.trans HKZ.out (.inl rfl)).trans (KeepBut.set_ (KeepBut.of_below HB8.out r none) 0 _) (.inl rfl)
                have hsz := HKZ.out.1
                have HO9 := Aside0.mk (show ∃ xs, Both (w8.setCell ⟨r, 0, none⟩ (.slice A8 (zs ++ [(⟨po % 24, no % 5, t + la % 4⟩ : S53)]).length c8)) g r M xs ∧ xs.length ≤ 16 ∧ Good (t + la % 4) xs from by
                  have e : zs ++ [(⟨po % 24, no % 5, t + la % 4⟩ : S53)] = learnt (po % 24) (no % 5) (t + la % 4) xs := by rw [HLE.out, HIF.out]
                  refine ⟨zs ++ [(⟨po % 24, no % 5, t + la % 4⟩ : S53)], both_row HM5.out (by omega) (by omega) h5 (by simpa using hR9) (fun k hk => by omega) hK9 e, ?_, ?_⟩
                  · rw [e]; exact HLN.out
                  · rw [e]; exact HGN.out)
                have HB9 := Aside0.mk ((HBZW.out.trans (HB8.out.mono (Nat.le_trans HB3.out.size (by omega)))).setCell (p := ⟨r, 0, none⟩) HR.out (.slice A8 (zs ++ [(⟨po % 24, no % 5, t + la % 4⟩ : S53)]).length c8))
                clear HS hbS hR9 hK9
                go_wp2_with (fail)
                go_meet
                exact ⟨by simpa using HO9, by simpa using HB9⟩
            · rw [decide_eq_false hA]
              by_cases hB : op % 4 = 2
              · have hBb : (op % 4 == 2) = true := by simp [hB]
                clear hB
                go_wp2_with (fail)
                obtain ⟨xs, ⟨okm, okr, hM, hR, h3, h4, h5⟩, hl16, hGd⟩ := HO3.out
                refine (forget_calls wb g okm xs M (po % 24) hM (by omega)).mono ?_
                rintro e w5 ⟨rfl, hM5, hK5, hB5⟩
                have HM5 := Aside0.mk hM5
                have HK5 := Aside0.mk hK5
                have HR5 := Aside0.mk (both_map hR h4 h5 hK5)
                have HB5 := Aside0.mk (HB3.out.trans (hB5.mono HG.out))
                have HGD := Aside0.mk hGd
                have hc5 := keep_cell hK5 hbp (by show bp ≠ g; omega)
                have hs5 := hK5.1
                clear hM hR h3 h4 hM5 hK5 hB5 hGd
                go_wp2_with (fail)
                refine (keep15_17 (po % 24) bp w5 r _ xs HR5.out hc5 (by omega) (by omega)).mono ?_
                rintro e w6 ⟨rfl, hR6, hK6, hB6⟩
                have HO6 := Aside0.mk (show ∃ xs, Both w6 g r M xs ∧ xs.length ≤ 16 ∧ Good (t + la % 4) xs from ⟨_, both_row HM5.out (by omega) (by omega) h5 hR6 (fun k hk => by omega) hK6 rfl, Nat.le_trans (List.length_filter_le _ _) hl16, (HGD.out.later HT.out.1).sub List.filter_sublist⟩)
                have HB6 := Aside0.mk (HB5.out.trans (hB6.mono HR.out))
                clear hR6 hK6 hB6 HM5 HK5 HR5 HB5 HGD
                go_wp2_with (fail)
                go_meet
                exact ⟨HO6, HB6⟩
              · go_wp2_with (fail)
                obtain ⟨xs, ⟨okm, okr, hM, hR, h3, h4, h5⟩, hl16, hGd⟩ := HO3.out
                refine (gone_calls wb g okm xs M (no % 5) hM (by omega)).mono ?_
                rintro e w5 ⟨rfl, hM5, hK5, hB5⟩
                have HM5 := Aside0.mk hM5
                have HK5 := Aside0.mk hK5
                have HR5 := Aside0.mk (both_map hR h4 h5 hK5)
                have HB5 := Aside0.mk (HB3.out.trans (hB5.mono HG.out))
                have HGD := Aside0.mk hGd
                have hc5 := keep_cell hK5 hbn (by show bn ≠ g; omega)
                have hs5 := hK5.1
                clear hM hR h3 h4 hM5 hK5 hB5 hGd
                go_wp2_with (fail)
                refine (keep15_18 (no % 5) bn w5 r _ xs HR5.out hc5 (by omega) (by omega)).mono ?_
                rintro e w6 ⟨rfl, hR6, hK6, hB6⟩
                have HO6 := Aside0.mk (show ∃ xs, Both w6 g r M xs ∧ xs.length ≤ 16 ∧ Good (t + la % 4) xs from ⟨_, both_row HM5.out (by omega) (by omega) h5 hR6 (fun k hk => by omega) hK6 rfl, Nat.le_trans (List.length_filter_le _ _) hl16, (HGD.out.later HT.out.1).sub List.filter_sublist⟩)
                have HB6 := Aside0.mk (HB5.out.trans (hB6.mono HR.out))
                clear hR6 hK6 hB6 HM5 HK5 HR5 HB5 HGD
                go_wp2_with (fail)
                go_meet
                exact ⟨HO6, HB6⟩
        case rest =>
          obtain ⟨HO4, HB4⟩ := hcut
          obtain ⟨xs, ⟨okm, okr, hM, hR, _, _, _⟩, hl16, hGd⟩ := HO4.out
          obtain ⟨Ar, cr, hbr, hlr, hFr, _⟩ := hR
          have hrr := (blk_cell hbr 0).trans (show _ = some (Value.slice Ar xs.length cr) from rfl)
          have HCR := Aside0.mk (Kd.F_now hFr)
          have HM := Aside0.mk hM
          have HGD := Aside0.mk hGd
          have htl : t + la % 4 ≤ 9223372036854775807 := by omega
          have HT2 := Aside0.mk (show 0 ≤ t + la % 4 ∧ t + la % 4 ≤ 3 * ((k + 1 : Nat) : Int) ∧ t + la % 4 ≤ 9223372036854775807 by omega)
          clear hM hGd hFr hbr hq0 hbp hbn hbp1 hbn1 hbp2 hbn2 hgr hwc HB3 HO3 HT hqs
          go_wp2_with (fail)
          go_quiet (exact Calls.quiet_of_same (len_calls _ g _ xs M (HM.out.below (by repeat (first | exact Below.refl _ _ | apply pw_below_drewN)))))
          have HBd : Aside0 (Below wc.heap.size wc (wc.drewN nq)) := ⟨by repeat (first | exact Below.refl _ _ | apply pw_below_drewN)⟩
          have hrd : (wc.drewN nq).cell? ⟨r, 0, none⟩ = some (.slice Ar xs.length cr) := hrr
          have HB5 := Aside0.mk (HB4.out.trans (HBd.out.mono HB4.out.size))
          have HM5 := Aside0.mk (HM.out.below HBd.out)
          have HO5 := Aside0.mk (show ∃ xs, Both (wc.drewN nq) g r M xs ∧ xs.length ≤ 16 ∧ Good (t + la % 4) xs by
            obtain ⟨xs, h1, h2, h3⟩ := HO4.out
            exact ⟨xs, h1.below HBd.out, h2, h3⟩)
          have HCR5 := Aside0.mk (Kd.C_below HCR.out HBd.out)
          generalize wc.drewN nq = wz at hrd HB5 HM5 HCR5 HO5 ⊢
          clear hrr HBd HB4 HM HCR HO4
          go_wp2_with (fail)
          go_loopg [14] 24 (fun gk pv wx => ∃ p : Nat, p ≤ 24 ∧ gk = 24 - p ∧ pv = .int .u64 p ∧ Aside0 (Below wz.heap.size wz wx))
          case atStart => exact ⟨0, by omega, rfl, rfl, ⟨Below.refl _ _⟩⟩
          case round =>
            obtain ⟨p, hp24, rfl, rfl, HW⟩ := hrel
            by_cases hpl : p < 24
            · have hrx := pw_cell_below HW.out hrd
              have hpl' : (p : Int) < 24 := by omega
              go_wp2_with (fail)
              go_loopg [15, 16, 102] xs.length (fun gk wv iv xv wy => ∃ (i : Nat) (s : Int × Bool), i ≤ xs.length ∧ gk = xs.length - i ∧ xv = .int .i64 i ∧ wv = .int .i64 s.1 ∧ iv = .bool s.2 ∧ Aside0 (seen p (t + la % 4) M (xs.drop i) s = seen p (t + la % 4) M xs (0, false)) ∧ Aside0 (Below wz.heap.size wz wy))
              case atStart => exact ⟨0, (0, false), by omega, rfl, rfl, rfl, rfl, ⟨rfl⟩, HW⟩
              case round =>
                obtain ⟨i, s, hi, rfl, rfl, rfl, rfl, HS, HV⟩ := hrel
                by_cases hix : i < xs.length
                · obtain ⟨ax, hAx, hy0, hy1, hy2⟩ := at_T53 HCR5.out (i : Int) (by omega) (by omega)
                  cases hAx
                  replace hy0 := pw_cell_below HV.out hy0
                  replace hy1 := pw_cell_below HV.out hy1
                  replace hy2 := pw_cell_below HV.out hy2
                  rw [Int.toNat_natCast] at hy0 hy1 hy2
                  rw [show rd_T53 xs (i : Int) = xs.getD i z53 by simp [rd_T53]] at hy0 hy1 hy2
                  have hst := seen_drop (p := p) (now := t + la % 4) (M := M) hix s
                  have hgx := HGD.out.2 (xs.getD i z53) (by
                    simp only [List.getD_eq_getElem?_getD, List.getElem?_eq_getElem hix, Option.getD_some]
                    exact List.getElem_mem hix)
                  have HST := Aside0.mk (hst.symm.trans HS.out)
                  clear hst HS
                  generalize xs.getD i z53 = x at hy0 hy1 hy2 HST hgx
                  obtain ⟨x0, x1, x2⟩ := x
                  obtain ⟨hg0, hg1⟩ := hgx
                  simp only [] at hy0 hy1 hy2 HST hg0 hg1
                  have hix' : (i : Int) < (xs.length : Int) := by omega
                  have hw2 : wrap64 (t + la % 4 - x2) = t + la % 4 - x2 := by unfold wrap64; omega
                  have hbel := (Below.refl wr.heap.size wr).alloc (Nat.le_refl _) (.cells #[.int .u64 x0, .int .i64 x1, .int .i64 x2] 53)
                  by_cases c0 : x0 = (p : Int)
                  · by_cases c1 : t + la % 4 - x2 < M
                    · have HST2 := HST.out
                      rw [if_pos ⟨c0, c1⟩] at HST2
                      have HST3 := Aside0.mk HST2
                      have c0b : (x0 == (p : Int)) = true := by simp [c0]
                      clear HST HST2 c0
                      go_wp2_with (fail)
                      go_roundg (xs.length - (i + 1))
                      case measure => omega
                      case rel => exact ⟨i + 1, (x1, true), by omega, rfl, by simp, rfl, rfl, HST3, ⟨HV.out.alloc HV.out.size _⟩⟩
                    · have HST2 := HST.out
                      rw [if_neg (fun h => c1 h.2)] at HST2
                      have HST3 := Aside0.mk HST2
                      have c0b : (x0 == (p : Int)) = true := by simp [c0]
                      clear HST HST2 c0
                      go_wp2_with (fail)
                      go_roundg (xs.length - (i + 1))
                      case measure => omega
                      case rel => exact ⟨i + 1, s, by omega, rfl, by simp, rfl, rfl, HST3, ⟨HV.out.alloc HV.out.size _⟩⟩
                  · have HST2 := HST.out
                    rw [if_neg (fun h => c0 h.1)] at HST2
                    have HST3 := Aside0.mk HST2
                    have c0b : (x0 == (p : Int)) = false := by simp [c0]
                    clear HST HST2 c0
                    go_wp2_with (fail)
                    go_roundg (xs.length - (i + 1))
                    case measure => omega
                    case rel => exact ⟨i + 1, s, by omega, rfl, by simp, rfl, rfl, HST3, ⟨HV.out.alloc HV.out.size _⟩⟩
                · obtain rfl : i = xs.length := by omega
                  have hfin := HS.out
                  rw [List.drop_length, seen_find HT2.out.1 HT2.out.2.2 HGD.out] at hfin
                  have hse : s = findIn p (t + la % 4) M xs := hfin
                  have hF := find_calls wr g okm xs M p (t + la % 4) (HM5.out.below HV.out) (by omega)
                  rw [← hse] at hF
                  have HF := Aside0.mk hF
                  obtain ⟨s1, s2⟩ := s
                  clear hse hF hfin HS
                  go_wp2_with (fail)
                  refine HF.out.mono ?_
                  rintro e w7 ⟨rfl, hb7⟩
                  have HV7 := Aside0.mk (HV.out.trans (hb7.mono HV.out.size))
                  have wp1 : IntKind.u64.wrap ((p : Int) + 1) = ((p + 1 : Nat) : Int) := by rw [IntKind.wrap_u64]; omega
                  clear hb7 HF HV
                  go_wp2_with (fail)
                  go_roundg (24 - (p + 1))
                  case measure => omega
                  case rel => exact ⟨p + 1, by omega, rfl, by simp, HV7⟩
            · obtain rfl : p = 24 := by omega
              have HBF := Aside0.mk (HB5.out.trans (HW.out.mono HB5.out.size))
              have HOF := Aside0.mk (show ∃ xs, Both wr g r M xs ∧ xs.length ≤ 16 ∧ Good (t + la % 4) xs by
                obtain ⟨xs, h1, h2, h3⟩ := HO5.out
                exact ⟨xs, h1.below HW.out, h2, h3⟩)
              go_wp2_with (fail)
              go_roundg (qs.length - (k + 1))
              case measure => omega
              case rel => exact ⟨k + 1, t + la % 4, by omega, rfl, by simp, rfl, HT2.out.1, HT2.out.2.1, HOF, HBF⟩
    · obtain rfl : k = qs.length := by omega
      go_wp2_with (fail)
      go_ret
      exact ⟨rfl, HB.out⟩
end Go.Proofs.Ytbahpfmfjeafnaa.PA
