/- PortmapScript's plain part: what the law sees in its row is what Find finds; deeds as values. -/
import Derived.Test.YtbahpfmfjeafnaaH15
import Derived.Test.YtbahpfmfjeafnaaH10
import Derived.Test.YtbahpfmfjeafnaaH11
namespace Go.Proofs.Ytbahpfmfjeafnaa.PA
open Go.RowKit Go.Proofs.YtbahpfmfjeafnaaW.PrintWords Go.Proofs.YtbahpfmfjeafnaaW.PrintLast Go.Proofs.YtbahpfmfjeafnaaW.PrintMore
set_option linter.unusedVariables false
set_option linter.unusedSimpArgs false
/-! #### struct type 47 -/
structure S47 where
  f0 : Int
  f1 : Int
  f2 : Int
  f3 : Int
def z47 : S47 := ⟨(0 : Int), (0 : Int), (0 : Int), (0 : Int)⟩
def k47 : Kd S47 := Kd.iso (Kd.pair (Kd.int .u8) (Kd.pair (Kd.int .u8) (Kd.pair (Kd.int .u8) (Kd.int .u8)))) (fun x : S47 => (x.f0, x.f1, x.f2, x.f3))
theorem k47_open {w : World} {x : S47} {cs : List Value} (h : k47.K w x cs) : cs = [.int .u8 x.f0, .int .u8 x.f1, .int .u8 x.f2, .int .u8 x.f3] := by
  obtain ⟨_, _, rfl, rfl, ⟨_, _, rfl, rfl, ⟨_, _, rfl, rfl, rfl⟩⟩⟩ := h
  exact rfl
theorem k47_openM {w : World} {base : Nat} {ok : Nat → Prop} {x : S47} {cs : List Value} (h : k47.M w base ok x cs) : cs = [.int .u8 x.f0, .int .u8 x.f1, .int .u8 x.f2, .int .u8 x.f3] := by
  obtain ⟨_, _, rfl, rfl, ⟨_, _, rfl, rfl, ⟨_, _, rfl, rfl, rfl⟩⟩⟩ := h
  exact rfl
theorem k47_mk (w : World) (x : S47) : k47.K w x [.int .u8 x.f0, .int .u8 x.f1, .int .u8 x.f2, .int .u8 x.f3] := ⟨[.int .u8 x.f0], [.int .u8 x.f1, .int .u8 x.f2, .int .u8 x.f3], rfl, rfl, ⟨[.int .u8 x.f1], [.int .u8 x.f2, .int .u8 x.f3], rfl, rfl, ⟨[.int .u8 x.f2], [.int .u8 x.f3], rfl, rfl, rfl⟩⟩⟩
theorem k47_mkM (w : World) (base : Nat) (ok : Nat → Prop) (x : S47) : k47.M w base ok x [.int .u8 x.f0, .int .u8 x.f1, .int .u8 x.f2, .int .u8 x.f3] := ⟨[.int .u8 x.f0], [.int .u8 x.f1, .int .u8 x.f2, .int .u8 x.f3], rfl, rfl, ⟨[.int .u8 x.f1], [.int .u8 x.f2, .int .u8 x.f3], rfl, rfl, ⟨[.int .u8 x.f2], [.int .u8 x.f3], rfl, rfl, rfl⟩⟩⟩
def rd_T47 (xs : List S47) (i : Int) : S47 := xs.getD i.toNat z47
theorem at_T47 {w : World} {A : Option Addr} {n : Nat} {xs : List S47} (h : Kd.C k47 w A n xs) (i : Int) (h0 : 0 ≤ i) (h1 : i < n) : ∃ ad, A = some ad ∧ w.cell? (ad.add (i.toNat * 4)) = some (.int .u8 (rd_T47 xs i).f0) ∧ w.cell? ⟨(ad.add (i.toNat * 4)).block, (ad.add (i.toNat * 4)).off + 1, none⟩ = some (.int .u8 (rd_T47 xs i).f1) ∧ w.cell? ⟨(ad.add (i.toNat * 4)).block, (ad.add (i.toNat * 4)).off + 2, none⟩ = some (.int .u8 (rd_T47 xs i).f2) ∧ w.cell? ⟨(ad.add (i.toNat * 4)).block, (ad.add (i.toNat * 4)).off + 3, none⟩ = some (.int .u8 (rd_T47 xs i).f3) := by
  obtain ⟨ad, c, e, _, hK, hc0⟩ := Kd.C_get h z47 i h0 h1
  have hc : ∀ j u, c[j]? = some u → w.cell? (ad.add (i.toNat * 4 + j)) = some u := hc0
  obtain rfl := k47_open hK
  exact ⟨ad, e, hc 0 _ rfl, by rw [← add_field _ _ 1 (by omega)]; exact hc 1 _ rfl, by rw [← add_field _ _ 2 (by omega)]; exact hc 2 _ rfl, by rw [← add_field _ _ 3 (by omega)]; exact hc 3 _ rfl⟩
/-- each port once, none learnt later than now -/
def Good (now : Int) (xs : List S53) : Prop := (xs.map (fun x => x.f0)).Nodup ∧ ∀ x ∈ xs, 0 ≤ x.f2 ∧ x.f2 ≤ now
theorem Good.nil (now : Int) : Good now [] := ⟨by simp, by simp⟩
theorem Good.sub {now : Int} {xs ys : List S53} (h : Good now xs) (hs : List.Sublist ys xs) : Good now ys :=
  ⟨List.Sublist.nodup (hs.map _) h.1, fun x hx => h.2 x (hs.subset hx)⟩
theorem Good.later {t now : Int} {xs : List S53} (h : Good t xs) (ht : t ≤ now) : Good now xs := ⟨h.1, fun x hx => ⟨(h.2 x hx).1, Int.le_trans (h.2 x hx).2 ht⟩⟩
theorem Good.learnt {now port node : Int} {xs : List S53} (h : Good now xs) (h0 : 0 ≤ now) : Good now (learnt port node now xs) := by
  unfold PA.learnt
  simp only []
  have hsub : List.Sublist (if (xs.filter (fun x => x.f0 != port)).length = 16 then (xs.filter (fun x => x.f0 != port)).drop 1 else xs.filter (fun x => x.f0 != port)) (xs.filter (fun x => x.f0 != port)) := by
    split
    · exact List.drop_sublist _ _
    · exact List.Sublist.refl _
  have hg := h.sub (hsub.trans List.filter_sublist)
  have hno : ∀ x ∈ (if (xs.filter (fun x => x.f0 != port)).length = 16 then (xs.filter (fun x => x.f0 != port)).drop 1 else xs.filter (fun x => x.f0 != port)), x.f0 ≠ port := fun x hx => by
    have := (List.mem_filter.1 (hsub.subset hx)).2
    simpa using this
  generalize (if (xs.filter (fun x => x.f0 != port)).length = 16 then (xs.filter (fun x => x.f0 != port)).drop 1 else xs.filter (fun x => x.f0 != port)) = ys at hg hno
  refine ⟨?_, fun x hx => ?_⟩
  · rw [List.map_append, List.nodup_append]
    refine ⟨hg.1, by simp, fun a ha b hb => ?_⟩
    simp only [List.map_cons, List.map_nil, List.mem_singleton] at hb
    rw [List.mem_map] at ha
    obtain ⟨x, hx, rfl⟩ := ha
    subst hb
    exact hno x hx
  · rw [List.mem_append, List.mem_singleton] at hx
    rcases hx with hx | rfl
    · exact hg.2 x hx
    · exact ⟨h0, Int.le_refl _⟩
theorem learnt_len {port node now : Int} {xs : List S53} (h : xs.length ≤ 16) : (learnt port node now xs).length ≤ 16 := by
  unfold PA.learnt
  simp only []
  have hl := List.length_filter_le (fun x : S53 => x.f0 != port) xs
  rw [List.length_append, List.length_singleton]
  split
  · rw [List.length_drop]; omega
  · omega
/-- what the law sees of a port in its row -/
def seen (p now M : Int) : List S53 → Int × Bool → Int × Bool
  | [], acc => acc
  | x :: r, acc => seen p now M r (if x.f0 = p ∧ now - x.f2 < M then (x.f1, true) else acc)
theorem seen_no {p now M : Int} : ∀ {xs : List S53} (acc : Int × Bool), (∀ x ∈ xs, x.f0 ≠ p) → seen p now M xs acc = acc
  | [], _, _ => rfl
  | x :: r, acc, h => by
    rw [seen, if_neg (fun c => h x List.mem_cons_self c.1)]
    exact seen_no acc (fun y hy => h y (List.mem_cons_of_mem _ hy))
theorem seen_find {p now M : Int} (h0 : 0 ≤ now) (hb : now ≤ 9223372036854775807) : ∀ {xs : List S53}, Good now xs → seen p now M xs (0, false) = findIn p now M xs
  | [], _ => rfl
  | x :: r, h => by
    have hx := h.2 x List.mem_cons_self
    have hw : wrap64 (now - x.f2) = now - x.f2 := by unfold wrap64; omega
    have hr : Good now r := h.sub (List.sublist_cons_self _ _)
    have hn : (x.f0 :: r.map (fun x => x.f0)).Nodup := h.1
    rw [List.nodup_cons] at hn
    rw [seen, findIn]
    by_cases c : x.f0 = p ∧ now - x.f2 < M
    · rw [if_pos c, if_pos]
      · refine seen_no _ (fun y hy e => hn.1 ?_)
        rw [c.1, ← e]
        exact List.mem_map_of_mem hy
      · unfold hits
        simp only [hw, Bool.and_eq_true, beq_iff_eq, decide_eq_true_eq]
        exact ⟨c.1, hx.2, c.2⟩
    · rw [if_neg c, if_neg]
      · exact seen_find h0 hb hr
      · unfold hits
        simp only [hw, Bool.and_eq_true, beq_iff_eq, decide_eq_true_eq]
        rintro ⟨e1, _, e2⟩
        exact c ⟨e1, e2⟩
theorem seen_drop {p now M : Int} {xs : List S53} {k : Nat} (hk : k < xs.length) (acc : Int × Bool) : seen p now M (xs.drop k) acc = seen p now M (xs.drop (k + 1)) (if (xs.getD k z53).f0 = p ∧ now - (xs.getD k z53).f2 < M then ((xs.getD k z53).f1, true) else acc) := by
  have : xs.getD k z53 = xs[k] := by simp [List.getD_eq_getElem?_getD, hk]
  rw [this, List.drop_eq_getElem_cons hk, seen]
end Go.Proofs.Ytbahpfmfjeafnaa.PA
