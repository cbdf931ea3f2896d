/- The plain law of CapsRow, where what comes in is of bulk at most 1048576: several capabilities are their bytes one behind the other, and are read of them. -/
import Derived.Test.YtjahdmjmdiepbaaM2
import Derived.Test.YtjahdmjmdiepbaaOpenRow
import Derived.Test.YtjahdmjmdiepbaaF7
namespace Go.Proofs.Ytjahdmjmdiepbaa.Pure
open Go Go.RowKit Go.Proofs.Ytjahdmjmdiepbaa.PA Go.Proofs.Ytjahdmjmdiepbaa.M Go.Proofs.Ytjahdmjmdiepbaa.opens Go.Proofs.YtjahdmjmdiepbaaW.PrintWords Go.Proofs.YtjahdmjmdiepbaaW.PrintLast Go.Proofs.YtjahdmjmdiepbaaW.PrintMore
/-- a capability that may be, of any -/
def cut (x : S25) : S25 := ⟨x.f0 % 281474976710656, x.f1 % 16777216, x.f2, x.f3 % 281474976710656⟩
def bytesOfCap (x : S25) : List Int := capBytes x.f0 x.f1 x.f2 x.f3
def mayS (x : S25) : Bool := mayB x.f0 x.f1 x.f3
def Ok (x : S25) : Prop := CapOk x.f0 x.f1 x.f2 x.f3
def May (x : S25) : Prop := CapMay x.f0 x.f1 x.f2 x.f3
theorem cut_may' {x : S25} (h : Ok x) : May (cut x) := cut_may h
theorem mayS_cut {x : S25} (h : Ok x) : mayS (cut x) = true := (mayB_iff (cut_may' h).ok).2 (cut_may' h)
def flat (xs : List S25) : List Int := xs.flatMap bytesOfCap
theorem flat_length : ∀ xs : List S25, (flat xs).length = 16 * xs.length
  | [] => rfl
  | x :: xs => by
    have := flat_length xs
    simp only [flat, List.flatMap_cons, List.length_append, List.length_cons, bytesOfCap, capBytes_length] at this ⊢
    omega
theorem flat_snoc (xs : List S25) (x : S25) : flat (xs ++ [x]) = flat xs ++ bytesOfCap x := by simp [flat]
theorem rd_at (xs : List S25) (i : Nat) (h : i < xs.length) : rd_T25 xs (i : Int) = xs[i] := by
  unfold rd_T25
  rw [Int.toNat_natCast, List.getD_eq_getElem?_getD, List.getElem?_eq_getElem h]
  rfl
theorem take_next (xs : List S25) (i : Nat) (h : i < xs.length) : xs.take (i + 1) = xs.take i ++ [xs[i]] := by rw [List.take_succ_eq_append_getElem h]
/-- Row of capabilities that may all be. -/
theorem row_yes (xs : List S25) (hm : ∀ x ∈ xs, May x) (hl : xs.length ≤ 1048576) : ∀ (d k i : Nat), i ≤ xs.length → xs.length - i = d → d + 12 < k → caps_Row.l0 k (flat (xs.take i)) xs (xs.length : Int) (i : Int) = some (flat xs, true) := by
  intro d
  induction d with
  | zero =>
    intro k i hi hd hk
    obtain ⟨k, rfl⟩ : ∃ m, k = m + 1 := ⟨k - 1, by omega⟩
    simp only [caps_Row.l0]
    rw [if_neg (by omega), List.take_of_length_le (by omega)]
  | succ d ih =>
    intro k i hi hd hk
    obtain ⟨k, rfl⟩ : ∃ m, k = m + 1 := ⟨k - 1, by omega⟩
    have hlt : i < xs.length := by omega
    have hx := hm xs[i] (List.getElem_mem hlt)
    have hen : caps_Encode.f k xs[i].f0 xs[i].f1 xs[i].f2 xs[i].f3 = some (bytesOfCap xs[i]) := Encode_f k (by omega) hx
    have hbl : (bytesOfCap xs[i]).length = 16 := capBytes_length _ _ _ _
    have hfl := flat_length (xs.take i)
    simp only [List.length_take] at hfl
    simp only [caps_Row.l0]
    rw [if_pos (by omega), if_pos (by omega), if_pos (by omega), rd_at xs i hlt, hen]
    simp only [Option.bind_some]
    rw [if_neg (by omega), if_pos (by omega), ← flat_snoc, ← take_next xs i hlt, wrap64_in' _ (by omega)]
    exact ih k (i + 1) (by omega) (by omega) (by omega)
theorem Row_yes (k : Nat) (xs : List S25) (hm : ∀ x ∈ xs, May x) (hl : xs.length ≤ 1048576) (hk : xs.length + 12 < k) : caps_Row.f k xs = some (flat xs, true) := by
  have := row_yes xs hm hl xs.length k 0 (by omega) (by omega) (by omega)
  simpa [flat, caps_Row.f] using this
/-- Row of capabilities of which one may not be. -/
theorem row_no (xs : List S25) (ho : AllOk xs) (hl : xs.length ≤ 1048576) : ∀ (d k i : Nat), i ≤ xs.length → xs.length - i = d → d + 12 < k → (xs.drop i).all mayS = false → ∀ (x4 : List Int), x4.length ≤ 16 * i → caps_Row.l0 k x4 xs (xs.length : Int) (i : Int) = some ([], false) := by
  intro d
  induction d with
  | zero =>
    intro k i hi hd hk hall
    rw [List.drop_of_length_le (by omega)] at hall
    simp at hall
  | succ d ih =>
    intro k i hi hd hk hall x4 h4
    obtain ⟨k, rfl⟩ : ∃ m, k = m + 1 := ⟨k - 1, by omega⟩
    have hlt : i < xs.length := by omega
    have hx := ho xs[i] (List.getElem_mem hlt)
    simp only [caps_Row.l0]
    rw [if_pos (by omega), if_pos (by omega), if_pos (by omega), rd_at xs i hlt]
    rw [List.drop_eq_getElem_cons hlt, List.all_cons] at hall
    cases hmx : mayS xs[i] with
    | false =>
      have hen : caps_Encode.f k xs[i].f0 xs[i].f1 xs[i].f2 xs[i].f3 = some [] := Encode_no k hmx
      rw [hen]
      simp
    | true =>
      rw [hmx, Bool.true_and] at hall
      have hen : caps_Encode.f k xs[i].f0 xs[i].f1 xs[i].f2 xs[i].f3 = some (bytesOfCap xs[i]) := Encode_f k (by omega) ((mayB_iff hx).1 hmx)
      have hbl : (bytesOfCap xs[i]).length = 16 := capBytes_length _ _ _ _
      rw [hen]
      simp only [Option.bind_some]
      rw [if_neg (by omega), if_pos (by omega), wrap64_in' _ (by omega)]
      exact ih k (i + 1) (by omega) (by omega) (by omega) hall _ (by simp; omega)
theorem mays_of (xs : List S25) (ho : AllOk xs) (h : xs.all mayS = true) : ∀ x ∈ xs, May x := fun x hx => (mayB_iff (ho x hx)).1 (List.all_eq_true.1 h x hx)
/-- Rows of the bytes of capabilities that may be. -/
theorem rows_l0 : ∀ (xs : List S25), (∀ x ∈ xs, May x) → ∀ (k : Nat) (ys : List S25), xs.length + 13 < k → xs.length + ys.length ≤ 1048576 → caps_Rows.l0 k (flat xs) ys = some (ys ++ xs, true) := by
  intro xs
  induction xs with
  | nil =>
    intro _ k ys hk _
    obtain ⟨k, rfl⟩ : ∃ m, k = m + 1 := ⟨k - 1, by omega⟩
    simp [caps_Rows.l0, flat]
  | cons x xs ih =>
    intro hm k ys hk hl
    simp only [List.length_cons] at hk hl
    obtain ⟨k, rfl⟩ : ∃ m, k = m + 1 := ⟨k - 1, by omega⟩
    have hx := hm x (by simp)
    have hfl := flat_length (x :: xs)
    simp only [List.length_cons] at hfl
    have e : flat (x :: xs) = bytesOfCap x ++ flat xs := by simp [flat]
    have hbl : (bytesOfCap x).length = 16 := capBytes_length _ _ _ _
    simp only [caps_Rows.l0]
    rw [if_pos (by omega), if_pos (by omega), e, List.take_left' hbl, List.drop_left' hbl]
    have hd : caps_Decode.f k (bytesOfCap x) = some (x.f0, x.f1, x.f2, x.f3, true) := Decode_bytes k (by omega) hx
    rw [hd]
    simp only [Option.bind_some]
    rw [if_pos (by omega), ih (fun y hy => hm y (by simp [hy])) k (ys ++ [x]) (by omega) (by simp; omega)]
    simp
/-- Rows of any bytes. -/
theorem rows_any : ∀ (n : Nat) (l : List Int) (k : Nat) (ys : List S25), Bytes8 l → l.length = 16 * n → n + 13 < k → n + ys.length ≤ 1048576 → ∃ zs, caps_Rows.l0 k l ys = some (zs, true) ∧ zs.length = ys.length + n := by
  intro n
  induction n with
  | zero =>
    intro l k ys _ hl hk _
    obtain ⟨k, rfl⟩ : ∃ m, k = m + 1 := ⟨k - 1, by omega⟩
    refine ⟨ys, ?_, rfl⟩
    simp only [caps_Rows.l0]
    rw [if_neg (by omega)]
  | succ n ih =>
    intro l k ys hb hl hk hy
    obtain ⟨k, rfl⟩ : ∃ m, k = m + 1 := ⟨k - 1, by omega⟩
    simp only [caps_Rows.l0]
    rw [if_pos (by omega), if_pos (by omega), Decode_f k (by omega) (l.take 16) (bytes_take hb _) (by simp; omega)]
    simp only [Option.bind_some]
    rw [if_pos (by omega)]
    obtain ⟨zs, h1, h2⟩ := ih (l.drop 16) k (ys ++ [⟨num (((l.take 16).drop 0).take 6), num (((l.take 16).drop 6).take 3), rd (l.take 16) 9, num (((l.take 16).drop 10).take 6)⟩]) (bytes_drop hb _) (by simp; omega) (by omega) (by simp; omega)
    refine ⟨zs, h1, ?_⟩
    rw [h2]
    simp
    omega
theorem rows_last (k : Nat) (l : List Int) (hb : Bytes8 l) (hl : l.length ≤ 1048576) (hk : l.length + 20 < k) : ((caps_Rows.f k l).bind fun bt => (if (bt.2 == (((l.length : Int) % 16) == 0)) = true then ((sigillumlaw03_one.f bt.2).bind fun t => (some ((bt.1.length : Int) == (wrap64 ((wrap64 ((l.length : Int) / 16)) * t))))) else (some false))) = some true := by
  unfold caps_Rows.f
  by_cases h : (l.length : Int) % 16 = 0
  · rw [if_pos h]
    obtain ⟨n, hn⟩ : ∃ n, l.length = 16 * n := ⟨l.length / 16, by omega⟩
    obtain ⟨zs, h1, h2⟩ := rows_any n l k [] hb hn (by omega) (by simp; omega)
    rw [h1]
    simp only [Option.bind_some, sigillumlaw03_one.f, if_true]
    rw [wrap64_in' ((l.length : Int) / 16) (by omega), Int.mul_one, wrap64_in' _ (by omega)]
    have e1 : ((l.length : Int) % 16 == 0) = true := beq_iff_eq.mpr h
    have e2 : ((zs.length : Int) == (l.length : Int) / 16) = true := beq_iff_eq.mpr (by simp at h2; omega)
    rw [e1, e2]
    simp
  · rw [if_neg h]
    have e1 : ((l.length : Int) % 16 == 0) = false := beq_eq_false_iff_ne.mpr h
    have e2 : wrap64 0 = 0 := wrap64_in' 0 (by decide)
    simp [e1, sigillumlaw03_one.f, e2]
theorem row_l1 (l : List Int) (hb : Bytes8 l) (hl : l.length ≤ 1048576) (ys : List S25) (hy : ys.length ≤ 1048576) : ∀ (d k i : Nat), i ≤ ys.length → ys.length - i = d → d + l.length + 30 < k → sigillumlaw03_CapsRow.l1 k l ys ys (ys.length : Int) (i : Int) = some true := by
  intro d
  induction d with
  | zero =>
    intro k i hi hd hk
    obtain ⟨k, rfl⟩ : ∃ m, k = m + 1 := ⟨k - 1, by omega⟩
    simp only [sigillumlaw03_CapsRow.l1]
    rw [if_neg (by omega)]
    exact rows_last k l hb hl (by omega)
  | succ d ih =>
    intro k i hi hd hk
    obtain ⟨k, rfl⟩ : ∃ m, k = m + 1 := ⟨k - 1, by omega⟩
    simp only [sigillumlaw03_CapsRow.l1]
    rw [if_pos (by omega), if_pos (by omega), if_pos (by omega), if_pos (by omega), if_neg (by simp), wrap64_in' _ (by omega)]
    exact ih k (i + 1) (by omega) (by omega) (by omega)
theorem row_j1 (l : List Int) (hb : Bytes8 l) (hl : l.length ≤ 1048576) (ys : List S25) (hy : ys.length ≤ 1048576) (k : Nat) (hk : ys.length + l.length + 40 < k) : sigillumlaw03_CapsRow.j1 k l ys ys false = some true := by
  obtain ⟨k, rfl⟩ : ∃ m, k = m + 1 := ⟨k - 1, by omega⟩
  simp only [sigillumlaw03_CapsRow.j1]
  rw [if_neg (by simp)]
  exact row_l1 l hb hl ys hy ys.length k 0 (by omega) (by omega) (by omega)
theorem all_take (xs : List S25) (i : Nat) (h : i < xs.length) : (xs.take (i + 1)).all mayS = ((xs.take i).all mayS && mayS xs[i]) := by
  rw [take_next xs i h, List.all_append]
  simp
theorem row_l0 (xs : List S25) (ho : AllOk xs) (hx : xs.length ≤ 1048576) (l : List Int) (hb : Bytes8 l) (hl : l.length ≤ 1048576) : ∀ (d k i : Nat), i ≤ xs.length → xs.length - i = d → d + xs.length + l.length + 60 < k →
    sigillumlaw03_CapsRow.l0 k xs l ((xs.take i).map cut) (flat ((xs.take i).map cut)) ((xs.take i).all mayS) xs (xs.length : Int) (i : Int) = some true := by
  intro d
  induction d with
  | zero =>
    intro k i hi hd hk
    obtain ⟨k, rfl⟩ : ∃ m, k = m + 1 := ⟨k - 1, by omega⟩
    simp only [sigillumlaw03_CapsRow.l0]
    rw [if_neg (by omega), List.take_of_length_le (by omega)]
    have hcm : ∀ y ∈ xs.map cut, May y := fun y hy => by
      simp only [List.mem_map] at hy
      obtain ⟨x, hx, rfl⟩ := hy
      exact cut_may' (ho x hx)
    have hcl : (xs.map cut).length = xs.length := by simp
    have hR : caps_Rows.f k (flat (xs.map cut)) = some (xs.map cut, true) := by
      unfold caps_Rows.f
      have hfl := flat_length (xs.map cut)
      rw [if_pos (by omega), rows_l0 (xs.map cut) hcm k [] (by omega) (by simp; omega)]
      rfl
    have hfin := row_j1 l hb hl (xs.map cut) (by omega) k (by omega)
    rw [Row_yes k (xs.map cut) hcm (by omega) (by omega), hR]
    simp only [Option.bind_some, if_true]
    have hle : (((xs.map cut).length : Int) != ((xs.map cut).length : Int)) = false := by simp
    cases hall : xs.all mayS with
    | true =>
      rw [Row_yes k xs (mays_of xs ho hall) hx (by omega)]
      simp only [Option.bind_some]
      rw [if_neg (by simp), if_pos trivial, hle]
      exact hfin
    | false =>
      have hno : caps_Row.f k xs = some ([], false) := row_no xs ho hx xs.length k 0 (by omega) (by omega) (by omega) (by simpa using hall) [] (by simp)
      rw [hno]
      simp only [Option.bind_some]
      rw [if_neg (by simp), if_neg (by simp), if_pos (by rfl), hle]
      exact hfin
  | succ d ih =>
    intro k i hi hd hk
    obtain ⟨k, rfl⟩ : ∃ m, k = m + 1 := ⟨k - 1, by omega⟩
    have hlt : i < xs.length := by omega
    have hxi := ho xs[i] (List.getElem_mem hlt)
    have hmk : sigillumlaw03_Make.f xs[i].f0 xs[i].f1 xs[i].f2 xs[i].f3 = some ((cut xs[i]).f0, (cut xs[i]).f1, (cut xs[i]).f2, (cut xs[i]).f3) := make_f hxi
    have hby : sigillumlaw03_Bytes.f k (cut xs[i]).f0 (cut xs[i]).f1 (cut xs[i]).f2 (cut xs[i]).f3 = some (bytesOfCap (cut xs[i])) := Bytes_f k (by omega) (cut_may' hxi).ok
    have hmy : sigillumlaw03_may.f xs[i].f0 xs[i].f1 xs[i].f2 xs[i].f3 = some (mayS xs[i]) := may_f hxi
    have hbl : (bytesOfCap (cut xs[i])).length = 16 := capBytes_length _ _ _ _
    have hfl := flat_length ((xs.take i).map cut)
    simp only [List.length_map, List.length_take] at hfl
    have e1 : (xs.take i).map cut ++ [cut xs[i]] = (xs.take (i + 1)).map cut := by rw [take_next xs i hlt, List.map_append]; rfl
    have e2 : flat ((xs.take i).map cut) ++ bytesOfCap (cut xs[i]) = flat ((xs.take (i + 1)).map cut) := by rw [← flat_snoc, e1]
    have hgo := ih k (i + 1) (by omega) (by omega) (by omega)
    simp only [sigillumlaw03_CapsRow.l0]
    rw [if_pos (by omega), if_pos (by omega), if_pos (by omega), rd_at xs i hlt, hmk]
    simp only [Option.bind_some]
    rw [if_pos (by simp; omega), hby]
    simp only [Option.bind_some]
    rw [if_pos (by omega), hmy]
    simp only [Option.bind_some]
    rw [e2, wrap64_in' _ (by omega)]
    have e3 : (xs.take i).map cut ++ [({ f0 := (cut xs[i]).f0, f1 := (cut xs[i]).f1, f2 := (cut xs[i]).f2, f3 := (cut xs[i]).f3 } : S25)] = (xs.take (i + 1)).map cut := e1
    rw [e3]
    rw [all_take xs i hlt] at hgo
    cases hall : (xs.take i).all mayS with
    | true =>
      rw [hall, Bool.true_and] at hgo
      rw [if_pos rfl]
      exact hgo
    | false =>
      rw [hall, Bool.false_and] at hgo
      rw [if_neg (by simp)]
      exact hgo
theorem CapsRow (xs : List S25) (ho : AllOk xs) (l : List Int) (hb : Bytes8 l) (hx : xs.length + l.length ≤ 1048576) : ∃ k, sigillumlaw03_CapsRow.f k xs l = some true := by
  refine ⟨2 * xs.length + l.length + 100, ?_⟩
  unfold sigillumlaw03_CapsRow.f
  rw [awake_k _ (by omega)]
  simp only [Option.bind_some, if_true]
  have := row_l0 xs ho (by omega) l hb (by omega) xs.length (2 * xs.length + l.length + 100) 0 (by omega) (by omega) (by omega)
  simpa [flat] using this
/-- The law's call. -/
theorem CapsRowWalk (a0 : Option Addr) (len0 cap0 : Nat) (z0 : List S25) (a1 : Option Addr) (len1 cap1 : Nat) (z1 : List Int) (w : World) (w0 : Kd.C k25 w a0 z0.length z0) (zl0 : z0.length = len0) (zc0 : len0 ≤ cap0) (zok0 : AllOk z0)
    (w1 : (a1 = none ∧ len1 = 0 ∧ cap1 = 0 ∧ z1 = []) ∨ ∃ x, a1 = some x ∧ len1 ≤ cap1 ∧ cap1 ≤ maxLen ∧ z1.length = cap1 ∧ (∀ i, i < z1.length → w.cell? (x.add i) = some (.int .u8 (z1.getD i 0))) ∧ ∀ n ∈ z1, (Lit.int .u8 n).wf = true) (hbulk : len0 + len1 ≤ 1048576) :
    Calls Try.prog 7 #[.slice a0 len0 cap0, .slice a1 len1 cap1] w fun e w' => e = .returned (.bool true) ∧ Below w.heap.size w w' := by
  obtain ⟨l1, rfl, hr1, hm1, hw1, hc1⟩ := ReadsInt.ofRowC w1
  subst zl0
  obtain ⟨k, h⟩ := CapsRow z0 zok0 l1 (bytes_of_wf hw1) hbulk
  refine (sigillumlaw03_CapsRow.calls k _ _ z0 _ _ l1 true w w0 zc0 (Kd.C_of_reads (d := (0 : Int)) (h1 := fun _ => rfl) hr1) hc1 h).mono ?_
  rintro e w' ⟨rfl, hd⟩
  exact ⟨rfl, hd⟩
end Go.Proofs.Ytjahdmjmdiepbaa.Pure
