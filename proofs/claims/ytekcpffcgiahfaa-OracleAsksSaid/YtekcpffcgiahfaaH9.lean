/- Ask as one contract; the questions that may be asked are ten, so the answers are no more; what was told. -/
import Derived.Test.YtekcpffcgiahfaaH7
namespace Go.Proofs.Ytekcpffcgiahfaa.PA
open Go.RowKit Go.Proofs.YtekcpffcgiahfaaW.PrintWords Go.Proofs.YtekcpffcgiahfaaW.PrintLast Go.Proofs.YtekcpffcgiahfaaW.PrintMore
set_option linter.unusedVariables false
set_option linter.unusedSimpArgs false
/-! #### struct type 40 -/
structure S40 where
  f0 : Int
  f1 : Bool
def z40 : S40 := ⟨(0 : Int), false⟩
def k40 : Kd S40 := Kd.iso (Kd.pair (Kd.int .u64) (Kd.bool)) (fun x : S40 => (x.f0, x.f1))
theorem k40_open {w : World} {x : S40} {cs : List Value} (h : k40.K w x cs) : cs = [.int .u64 x.f0, .bool x.f1] := by
  obtain ⟨_, _, rfl, rfl, rfl⟩ := h
  exact rfl
theorem k40_openM {w : World} {base : Nat} {ok : Nat → Prop} {x : S40} {cs : List Value} (h : k40.M w base ok x cs) : cs = [.int .u64 x.f0, .bool x.f1] := by
  obtain ⟨_, _, rfl, rfl, rfl⟩ := h
  exact rfl
theorem k40_mk (w : World) (x : S40) : k40.K w x [.int .u64 x.f0, .bool x.f1] := ⟨[.int .u64 x.f0], [.bool x.f1], rfl, rfl, rfl⟩
theorem k40_mkM (w : World) (base : Nat) (ok : Nat → Prop) (x : S40) : k40.M w base ok x [.int .u64 x.f0, .bool x.f1] := ⟨[.int .u64 x.f0], [.bool x.f1], rfl, rfl, rfl⟩
def rd_T40 (xs : List S40) (i : Int) : S40 := xs.getD i.toNat z40
theorem at_T40 {w : World} {A : Option Addr} {n : Nat} {xs : List S40} (h : Kd.C k40 w A n xs) (i : Int) (h0 : 0 ≤ i) (h1 : i < n) : ∃ ad, A = some ad ∧ w.cell? (ad.add (i.toNat * 2)) = some (.int .u64 (rd_T40 xs i).f0) ∧ w.cell? ⟨(ad.add (i.toNat * 2)).block, (ad.add (i.toNat * 2)).off + 1, none⟩ = some (.bool (rd_T40 xs i).f1) := by
  obtain ⟨ad, c, e, _, hK, hc0⟩ := Kd.C_get h z40 i h0 h1
  have hc : ∀ j u, c[j]? = some u → w.cell? (ad.add (i.toNat * 2 + j)) = some u := hc0
  obtain rfl := k40_open hK
  exact ⟨ad, e, hc 0 _ rfl, by rw [← add_field _ _ 1 (by omega)]; exact hc 1 _ rfl⟩
/-- Ask's answer: the word, is it one; the answers and the draws behind it -/
structure Told where
  out : Int
  ok : Bool
  es : List S46
  n : Nat
def askO (f y : Int) (es : List S46) (xs : List Int) (n : Nat) : Told :=
  if (knownIn f (cutw y) es).2 = true then ⟨(knownIn f (cutw y) es).1, true, es, n⟩
  else if n < xs.length then ⟨xs.getD n 0, true, es ++ [⟨f, cutw y, xs.getD n 0⟩], n + 1⟩
  else ⟨0, false, es, n⟩
def errV (ok : Bool) : Value := if ok = true then .nilIface else .iface 49 (.int .i64 7)
theorem knownIn_none {f y : Int} {es : List S46} (h : ¬ (knownIn f y es).2 = true) : knownIn f y es = (0, false) := by
  induction es with
  | nil => rfl
  | cons a r ih =>
    unfold knownIn at h ⊢
    by_cases c : a.f0 = f ∧ a.f1 = y
    · rw [if_pos c] at h
      exact absurd rfl h
    · rw [if_neg c] at h ⊢
      exact ih h
theorem knownIn_mem {f y : Int} {es : List S46} : (knownIn f y es).2 = true ↔ (f, y) ∈ es.map (fun e => (e.f0, e.f1)) := by
  induction es with
  | nil => simp [knownIn]
  | cons a r ih =>
    unfold knownIn
    by_cases c : a.f0 = f ∧ a.f1 = y
    · rw [if_pos c]
      simp [c.1, c.2]
    · rw [if_neg c, ih, List.map_cons, List.mem_cons]
      constructor
      · exact .inr
      · rintro (h | h)
        · injection h with h1 h2
          exact absurd ⟨h1.symm, h2.symm⟩ c
        · exact h
theorem knownIn_append {f y : Int} {es r : List S46} (h : (knownIn f y es).2 = true) : knownIn f y (es ++ r) = knownIn f y es := by
  induction es with
  | nil => simp [knownIn] at h
  | cons a t ih =>
    rw [List.cons_append]
    unfold knownIn at h ⊢
    by_cases c : a.f0 = f ∧ a.f1 = y
    · rw [if_pos c, if_pos c]
    · rw [if_neg c] at h ⊢
      rw [if_neg c]
      exact ih h
theorem knownIn_last {f y x : Int} {es : List S46} (h : ¬ (knownIn f y es).2 = true) : knownIn f y (es ++ [⟨f, y, x⟩]) = (x, true) := by
  induction es with
  | nil => simp [knownIn]
  | cons a t ih =>
    rw [List.cons_append]
    unfold knownIn at h ⊢
    by_cases c : a.f0 = f ∧ a.f1 = y
    · rw [if_pos c] at h
      exact absurd rfl h
    · rw [if_neg c] at h ⊢
      exact ih h
/-- no more than there may be -/
theorem nodup_le {α : Type} [DecidableEq α] : ∀ (l L : List α), l.Nodup → (∀ x ∈ l, x ∈ L) → l.length ≤ L.length
  | [], L, _, _ => Nat.zero_le _
  | a :: l, L, hn, hs => by
    rw [List.nodup_cons] at hn
    have h1 := nodup_le l (L.erase a) hn.2 (fun x hx => (List.mem_erase_of_ne (show x ≠ a from fun e => hn.1 (by rw [← e]; exact hx))).2 (hs x (List.mem_cons_of_mem _ hx)))
    rw [List.length_erase_of_mem (hs a List.mem_cons_self)] at h1
    have : 0 < L.length := List.length_pos_of_mem (hs a List.mem_cons_self)
    rw [List.length_cons]
    omega
/-- the questions that may be asked -/
def tenQ : List (Int × Int) := [(0, cutw (asked 0)), (0, cutw (asked 1)), (0, cutw (asked 2)), (0, cutw (asked 3)), (0, cutw (asked 4)), (1, cutw (asked 0)), (1, cutw (asked 1)), (1, cutw (asked 2)), (1, cutw (asked 3)), (1, cutw (asked 4))]
theorem in_ten (a x : Int) (hx : 0 ≤ x) : (a % 2, cutw (asked x)) ∈ tenQ := by
  have h2 : a % 2 = 0 ∨ a % 2 = 1 := by omega
  have h5 : x % 5 = 0 ∨ x % 5 = 1 ∨ x % 5 = 2 ∨ x % 5 = 3 ∨ x % 5 = 4 := by omega
  have e : ∀ r, x % 5 = r → r % 5 = r → asked x = asked r := fun r h h' => by unfold asked; rw [h, h']
  unfold tenQ
  rcases h2 with h2 | h2 <;> rcases h5 with h | h | h | h | h <;> rw [h2, e _ h rfl] <;> simp
/-- each question once, and of the ten -/
def Fine (es : List S46) : Prop := (es.map (fun e => (e.f0, e.f1))).Nodup ∧ ∀ q ∈ es.map (fun e => (e.f0, e.f1)), q ∈ tenQ
theorem Fine.nil : Fine [] := ⟨by simp, by simp⟩
theorem Fine.le {es : List S46} (h : Fine es) : es.length ≤ 10 := by
  have := nodup_le _ _ h.1 h.2
  simpa [tenQ] using this
theorem Fine.ask {es : List S46} (h : Fine es) (a x : Int) (hx : 0 ≤ x) (xs : List Int) (n : Nat) : Fine (askO (a % 2) (asked x) es xs n).es := by
  unfold askO
  by_cases hk : (knownIn (a % 2) (cutw (asked x)) es).2 = true
  · rw [if_pos hk]
    exact h
  · rw [if_neg hk]
    by_cases hn : n < xs.length
    · rw [if_pos hn]
      have hm : (a % 2, cutw (asked x)) ∉ es.map (fun e => (e.f0, e.f1)) := fun hc => hk (knownIn_mem.2 hc)
      refine ⟨?_, ?_⟩
      · simp only [List.map_append, List.map_cons, List.map_nil]
        rw [List.nodup_append]
        refine ⟨h.1, by simp, fun p hp q hq => ?_⟩
        simp only [List.mem_singleton] at hq
        subst hq
        exact fun e => hm (e ▸ hp)
      · intro q hq
        simp only [List.map_append, List.map_cons, List.map_nil, List.mem_append, List.mem_singleton] at hq
        rcases hq with hq | rfl
        · exact h.2 q hq
        · exact in_ten a x hx
    · rw [if_neg hn]
      exact h
/-- Ask, in one -/
theorem ask_any (w : World) (g gt B : Nat) (v : Value) (okT : Nat → Prop) (es : List S46) (xs : List Int) (n : Nat) (f y : Int) (h : IsOracle w g gt B v okT es xs n) (hl : es.length ≤ 10) :
    Calls Try.prog 10 #[.pointer (some ⟨g, 0, none⟩), .int .i64 f, .int .u64 y] w fun e w' => e = .returned (.tuple #[.int .u64 (askO f y es xs n).out, errV (askO f y es xs n).ok]) ∧
      ∃ v1, IsOracle w' g gt B v1 okT (askO f y es xs n).es xs (askO f y es xs n).n ∧ (∀ k, k < w.heap.size → k ≠ g → k ≠ gt → some k ≠ v.ownBlock → w'.heap[k]? = w.heap[k]?) ∧
        (v1.ownBlock = v.ownBlock ∨ ∃ b, v1.ownBlock = some b ∧ w.heap.size ≤ b) ∧ w.heap.size ≤ w'.heap.size ∧ Below (min g gt) w w' := by
  have hg := blk_lt h.1
  have hmin : min g gt ≤ w.heap.size := Nat.le_trans (Nat.min_le_left _ _) (Nat.le_of_lt hg)
  unfold askO
  by_cases hk : (knownIn f (cutw y) es).2 = true
  · rw [if_pos hk]
    refine (ask_known w g gt B v okT es xs n f y (knownIn f (cutw y) es).1 h (by rw [← hk])).mono ?_
    rintro e w' ⟨rfl, hB⟩
    exact ⟨rfl, v, h.below hB, fun k hk _ _ _ => hB.block k hk, .inl rfl, hB.size, hB.mono hmin⟩
  · rw [if_neg hk]
    by_cases hn : n < xs.length
    · rw [if_pos hn]
      refine (ask_new w g gt B v okT es xs n f y h (knownIn_none hk) hn (by omega)).mono ?_
      rintro e w' ⟨rfl, v1, h1, h2, h3, h4, h5⟩
      exact ⟨rfl, v1, h1, h2, h3, h4, h5⟩
    · rw [if_neg hn]
      have hle := h.tape.le
      obtain rfl : n = xs.length := by omega
      refine (ask_none w g gt B v okT es xs f y h (knownIn_none hk)).mono ?_
      rintro e w' ⟨rfl, h1, h2, h3⟩
      exact ⟨rfl, v, h1, fun k hk _ hkt _ => h2.2 k hk hkt (by simp), .inl rfl, h2.1, h3.mono (Nat.min_le_right _ _)⟩
end Go.Proofs.Ytekcpffcgiahfaa.PA
