/- Places as cells, one behind the other. -/
import Derived.Test.YtbahpfmfjeafnaaH13
namespace Go.Proofs.Ytbahpfmfjeafnaa.PA
open Go.RowKit Go.Proofs.YtbahpfmfjeafnaaW.PrintWords Go.Proofs.YtbahpfmfjeafnaaW.PrintLast Go.Proofs.YtbahpfmfjeafnaaW.PrintMore
set_option linter.unusedVariables false
set_option linter.unusedSimpArgs false
def cellsOf (x : S53) : List Value := [.int .u64 x.f0, .int .i64 x.f1, .int .i64 x.f2]
def cells53 : List S53 → List Value
  | [] => []
  | x :: r => cellsOf x ++ cells53 r
theorem cells53_len : ∀ xs : List S53, (cells53 xs).length = xs.length * 3
  | [] => rfl
  | x :: r => by
    rw [cells53, List.length_append, cells53_len r, List.length_cons, Nat.add_mul]
    show 3 + _ = _
    omega
theorem cells53_append : ∀ xs ys : List S53, cells53 (xs ++ ys) = cells53 xs ++ cells53 ys
  | [], ys => rfl
  | x :: r, ys => by rw [List.cons_append, cells53, cells53, cells53_append r ys, List.append_assoc]
theorem cells53_get : ∀ (xs : List S53) (m : Nat) (u : Value), (cells53 xs)[m]? = some u → ∃ j p i, xs[j]? = some p ∧ m = j * 3 + i ∧ (cellsOf p)[i]? = some u
  | [], m, u, h => by simp [cells53] at h
  | x :: r, m, u, h => by
    rw [cells53] at h
    by_cases hm : m < 3
    · rw [List.getElem?_append_left (by exact hm)] at h
      exact ⟨0, x, m, rfl, by omega, h⟩
    · rw [List.getElem?_append_right (by show 3 ≤ m; omega)] at h
      obtain ⟨j, p, i, h1, h2, h3⟩ := cells53_get r (m - 3) u h
      exact ⟨j + 1, p, i, h1, by omega, h3⟩
theorem cells53_reps (R : S53 → List Value → Prop) (hR : ∀ x, R x (cellsOf x)) : ∀ xs : List S53, Reps R 3 xs (cells53 xs)
  | [] => Reps.none _ _
  | x :: r => by
    refine ⟨by rw [cells53_len], fun j p hj => ?_⟩
    cases j with
    | zero =>
      obtain rfl : x = p := by simpa using hj
      rw [Nat.zero_mul, List.drop_zero, cells53, List.take_left' (by rfl)]
      exact hR x
    | succ j =>
      have := (cells53_reps R hR r).2 j p (by simpa using hj)
      have e : (cells53 (x :: r)).drop ((j + 1) * 3) = (cells53 r).drop (j * 3) := by
        rw [cells53, Nat.add_mul, Nat.one_mul, Nat.add_comm (j * 3) 3, ← List.drop_drop]
        rfl
      rw [e]
      exact this
theorem cells53_at {w : World} {A : Option Addr} {n : Nat} {xs : List S53} (h : Kd.C k53 w A n xs) (b : Addr) (hA : A = some b) : ∀ j u, (cells53 xs)[j]? = some u → w.cell? (b.add j) = some u := by
  intro m u hu
  obtain ⟨j, p, i, h1, rfl, h3⟩ := cells53_get xs m u hu
  have hl : j < xs.length := (List.getElem?_eq_some_iff.1 h1).1
  obtain ⟨ad, e, hc⟩ := h.2.2 (by have := h.1; omega)
  obtain ⟨c, _, hK, hcell⟩ := hc j p h1
  obtain rfl := k53_open hK
  rw [hA] at e
  obtain rfl := Option.some.inj e
  exact hcell i u h3
theorem cells53_R {w : World} {base n : Nat} {v : Value} {xs : List S53} (ho : w.ownsRow base 53 3 v n (cells53 xs)) (hn : n = xs.length) : Kd.R k53 53 w base (fun _ => True) v xs := by
  subst hn
  exact ⟨fun _ _ => trivial, cells53 xs, ho, cells53_reps _ (fun x => k53_mkM _ _ _ x) xs⟩
end Go.Proofs.Ytbahpfmfjeafnaa.PA
