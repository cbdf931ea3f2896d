/- The evaluator's continuations, its memory and its operands: what they say of the real ones. -/
import Derived.Test.YtnphfcaokjdigaaGreatDoorV3
import Derived.Tactics
import Derived.Scope
import Derived.Laws.Cells
import Derived.Conc.LoneCalls
import Derived.Laws.Tables
import Derived.Laws.IdiomCopy
import Derived.Laws.BytesString
import Derived.Laws.Strings
import Derived.Great.FillDense
set_option linter.unusedVariables false
set_option linter.unusedSimpArgs false
namespace Go.Ev
open Go

/-! ### What the continuations say -/
theorem yes_iff {b K : Bool} : yes b K = true ↔ b = true ∧ K = true := by cases b <;> simp [yes]
theorem ife_iff {b x y : Bool} : ife b x y = true ↔ (b = true ∧ x = true) ∨ (b = false ∧ y = true) := by cases b <;> simp [ife]
theorem fNat_eq (n : Nat) (K : Nat → Bool) : fNat n K = K n := by cases n <;> rfl
theorem fList_eq {α : Type} (l : List α) : ∀ K : List α → Bool, fList l K = K l := by
  induction l with
  | nil => intro K; rfl
  | cons x l ih => intro K; exact ih fun ys => K (x :: ys)

/-! ### Names -/
def Pa.toNat : Pa → Nat
  | .z => 0
  | .l p => 2 * p.toNat + 1
  | .r p => 2 * p.toNat + 2
theorem Pa.toNat_inj : ∀ {p q : Pa}, p.toNat = q.toNat → p = q
  | .z, .z, _ => rfl
  | .z, .l _, h => by simp only [Pa.toNat] at h; omega
  | .z, .r _, h => by simp only [Pa.toNat] at h; omega
  | .l _, .z, h => by simp only [Pa.toNat] at h; omega
  | .r _, .z, h => by simp only [Pa.toNat] at h; omega
  | .l _, .r _, h => by simp only [Pa.toNat] at h; omega
  | .r _, .l _, h => by simp only [Pa.toNat] at h; omega
  | .l p, .l q, h => by simp only [Pa.toNat] at h; rw [Pa.toNat_inj (p := p) (q := q) (by omega)]
  | .r p, .r q, h => by simp only [Pa.toNat] at h; rw [Pa.toNat_inj (p := p) (q := q) (by omega)]
theorem Pa.succF_spec (p : Pa) : ∀ {K : Pa → Bool}, p.succF K = true → ∃ q, K q = true ∧ q.toNat = p.toNat + 1 := by
  induction p with
  | z => intro K h; exact ⟨_, h, rfl⟩
  | l p _ => intro K h; exact ⟨_, h, rfl⟩
  | r p ih =>
    intro K h
    obtain ⟨q, hq, hn⟩ := ih (K := fun q => K (.l q)) h
    exact ⟨_, hq, by simp only [Pa.toNat, hn]; omega⟩
theorem Pa.beq_eq : ∀ {p q : Pa}, p.beq q = true → p = q
  | .z, .z, _ => rfl
  | .z, .l _, h => by simp [Pa.beq] at h
  | .z, .r _, h => by simp [Pa.beq] at h
  | .l _, .z, h => by simp [Pa.beq] at h
  | .r _, .z, h => by simp [Pa.beq] at h
  | .l _, .r _, h => by simp [Pa.beq] at h
  | .r _, .l _, h => by simp [Pa.beq] at h
  | .l p, .l q, h => by simp only [Pa.beq] at h; rw [Pa.beq_eq h]
  | .r p, .r q, h => by simp only [Pa.beq] at h; rw [Pa.beq_eq h]
theorem paF_toNat : ∀ (f n : Nat), n ≤ f → (paF f n).toNat = n
  | 0, n, h => by have : n = 0 := by omega
                  subst this; rfl
  | _ + 1, 0, _ => rfl
  | f + 1, n + 1, h => by
    simp only [paF]
    cases hb : Nat.beq ((n + 1) % 2) 1 with
    | true =>
      have := Nat.eq_of_beq_eq_true hb
      simp only [cond_true, Pa.toNat, paF_toNat f ((n + 1) / 2) (by omega)]; omega
    | false =>
      have hne : ¬ (n + 1) % 2 = 1 := fun e => by rw [e] at hb; simp at hb
      simp only [cond_false, Pa.toNat, paF_toNat f ((n + 1) / 2 - 1) (by omega)]; omega
theorem pa_toNat (n : Nat) : (pa n).toNat = n := paF_toNat n n (Nat.le_refl n)
theorem pa_inj {i j : Nat} (h : pa i = pa j) : i = j := by rw [← pa_toNat i, ← pa_toNat j, h]

/-! ### Trees -/
theorem T.getK_spec {α : Type} (p : Pa) : ∀ {t : T α} {K : α → Bool}, T.getK p t K = true → ∃ v, t.get p = some v ∧ K v = true := by
  induction p with
  | z =>
    intro t K h
    cases t with
    | e => exact absurd h (by simp [T.getK])
    | n l v r => cases v with
      | none => exact absurd h (by simp [T.getK])
      | some v => exact ⟨v, rfl, h⟩
  | l p ih =>
    intro t K h
    cases t with
    | e => exact absurd h (by simp [T.getK])
    | n l v r => exact ih (t := l) h
  | r p ih =>
    intro t K h
    cases t with
    | e => exact absurd h (by simp [T.getK])
    | n l v r => exact ih (t := r) h
theorem T.getK_congr {α : Type} (p : Pa) : ∀ {t u : T α} {K : α → Bool}, t.get p = u.get p → T.getK p t K = T.getK p u K := by
  have key : ∀ (p : Pa) (t : T α) (K : α → Bool), T.getK p t K = (match t.get p with | some v => K v | none => false) := by
    intro p
    induction p with
    | z => intro t K; cases t with
      | e => rfl
      | n l v r => cases v <;> rfl
    | l p ih => intro t K; cases t with
      | e => rfl
      | n l v r => exact ih l K
    | r p ih => intro t K; cases t with
      | e => rfl
      | n l v r => exact ih r K
  intro t u K h; rw [key, key, h]
theorem T.get_e {α : Type} (p : Pa) : (T.e : T α).get p = none := by cases p <;> rfl
theorem T.setF_spec {α : Type} (p : Pa) : ∀ {t : T α} {x : Option α} {K : T α → Bool}, T.setF p t x K = true → ∃ u, K u = true ∧ ∀ q, u.get q = if q = p then x else t.get q := by
  induction p with
  | z =>
    intro t x K h
    cases t with
    | e => exact ⟨_, h, fun q => by cases q <;> simp [T.get]⟩
    | n l v r => exact ⟨_, h, fun q => by cases q <;> simp [T.get]⟩
  | l p ih =>
    intro t x K h
    cases t with
    | e =>
      obtain ⟨u, hu, hg⟩ := ih (t := .e) (K := fun u => K (.n u none .e)) h
      exact ⟨_, hu, fun q => by cases q <;> simp [T.get, hg]⟩
    | n l v r =>
      obtain ⟨u, hu, hg⟩ := ih (t := l) (K := fun u => K (.n u v r)) h
      exact ⟨_, hu, fun q => by cases q <;> simp [T.get, hg]⟩
  | r p ih =>
    intro t x K h
    cases t with
    | e =>
      obtain ⟨u, hu, hg⟩ := ih (t := .e) (K := fun u => K (.n .e none u)) h
      exact ⟨_, hu, fun q => by cases q <;> simp [T.get, hg]⟩
    | n l v r =>
      obtain ⟨u, hu, hg⟩ := ih (t := r) (K := fun u => K (.n l v u)) h
      exact ⟨_, hu, fun q => by cases q <;> simp [T.get, hg]⟩

/-! ### Lists -/
theorem lenK_eq {α : Type} (l : List α) : lenK l = l.length := by
  induction l with
  | nil => rfl
  | cons x l ih => simp only [List.length_cons, ← ih]; rfl
theorem dropK_spec (n : Nat) : ∀ {l : List V} {K : List V → Bool}, dropK n l K = true → n ≤ l.length ∧ K (l.drop n) = true := by
  induction n with
  | zero => intro l K h; exact ⟨Nat.zero_le _, h⟩
  | succ n ih =>
    intro l K h
    cases l with
    | nil => exact absurd h (by simp [dropK])
    | cons x l => obtain ⟨h1, h2⟩ := ih (l := l) (K := K) h; exact ⟨by simp only [List.length_cons]; omega, h2⟩
theorem takeK_spec (n : Nat) : ∀ {l : List V} {K : List V → Bool}, takeK n l K = true → n ≤ l.length ∧ K (l.take n) = true := by
  induction n with
  | zero => intro l K h; exact ⟨Nat.zero_le _, h⟩
  | succ n ih =>
    intro l K h
    cases l with
    | nil => exact absurd h (by simp [takeK])
    | cons x l => obtain ⟨h1, h2⟩ := ih (l := l) (K := fun ys => K (x :: ys)) h; exact ⟨by simp only [List.length_cons]; omega, h2⟩
theorem headK_spec {l : List V} {K : V → Bool} (h : headK l K = true) : ∃ x, l[0]? = some x ∧ K x = true := by
  cases l with
  | nil => exact absurd h (by simp [headK])
  | cons x l => exact ⟨x, rfl, h⟩
theorem overK_spec (vs : List V) : ∀ {l : List V} {K : List V → Bool}, overK vs l K = true → vs.length ≤ l.length ∧ K (vs ++ l.drop vs.length) = true := by
  induction vs with
  | nil => intro l K h; exact ⟨Nat.zero_le _, h⟩
  | cons v vs ih =>
    intro l K h
    cases l with
    | nil => exact absurd h (by simp [overK])
    | cons x l => obtain ⟨h1, h2⟩ := ih (l := l) (K := fun ys => K (v :: ys)) h; exact ⟨by simp only [List.length_cons]; omega, h2⟩
theorem overAtK_spec (vs : List V) (n : Nat) : ∀ {l : List V} {K : List V → Bool}, overAtK vs n l K = true → n + vs.length ≤ l.length ∧ K (l.take n ++ (vs ++ l.drop (n + vs.length))) = true := by
  induction n with
  | zero => intro l K h; simpa using overK_spec vs h
  | succ n ih =>
    intro l K h
    cases l with
    | nil => exact absurd h (by simp [overAtK])
    | cons x l =>
      obtain ⟨h1, h2⟩ := ih (l := l) (K := fun ys => K (x :: ys)) h
      refine ⟨by simp only [List.length_cons]; omega, ?_⟩
      have : n + 1 + vs.length = n + vs.length + 1 := by omega
      rw [this]; exact h2
theorem appK_eq (l r : List V) : ∀ K : List V → Bool, appK l r K = K (l ++ r) := by
  induction l with
  | nil => intro K; rfl
  | cons x l ih => intro K; exact ih fun ys => K (x :: ys)
def rep (z : List V) : Nat → List V
  | 0 => []
  | n + 1 => z ++ rep z n
theorem repK_eq (z : List V) (n : Nat) : ∀ K : List V → Bool, repK z n K = K (rep z n) := by
  induction n with
  | zero => intro K; rfl
  | succ n ih => intro K; exact (ih fun ys => appK z ys K).trans (appK_eq _ _ _)

/-! ### Looking into a value -/
theorem asB_spec {v : V} {K : Bool → Bool} (h : asB v K = true) : ∃ b, v = .b b ∧ K b = true := by cases v <;> first | exact ⟨_, rfl, h⟩ | exact absurd h (by simp [asB])
theorem asI_spec {v : V} {K : IntKind → Int → Bool} (h : asI v K = true) : ∃ k n, v = .i k n ∧ K k n = true := by cases v <;> first | exact ⟨_, _, rfl, h⟩ | exact absurd h (by simp [asI])
theorem asN_spec {v : V} {K : IntKind → Nat → Bool} (h : asN v K = true) : ∃ k n, v = .i k (.ofNat n) ∧ K k n = true := by
  obtain ⟨k, n, rfl, h⟩ := asI_spec h
  cases n with
  | ofNat n => exact ⟨k, n, rfl, h⟩
  | negSucc n => exact absurd (show false = true from h) (by simp)
theorem asP_spec {v : V} {K : Pa → Nat → Bool} (h : asP v K = true) : ∃ id o, v = .p id o ∧ K id o = true := by cases v <;> first | exact ⟨_, _, rfl, h⟩ | exact absurd h (by simp [asP])
theorem asSl_spec {v : V} {N : Bool} {K : Pa → Nat → Nat → Nat → Bool} (h : asSl v N K = true) : (v = .ns ∧ N = true) ∨ ∃ id o n c, v = .sl id o n c ∧ K id o n c = true := by
  cases v <;> first | exact .inr ⟨_, _, _, _, rfl, h⟩ | exact .inl ⟨rfl, h⟩ | exact absurd h (by simp [asSl])
theorem asMp_spec {v : V} {K : Pa → Bool} (h : asMp v K = true) : ∃ id, v = .mp id ∧ K id = true := by cases v <;> first | exact ⟨_, rfl, h⟩ | exact absurd h (by simp [asMp])
theorem asCh_spec {v : V} {K : Pa → Bool} (h : asCh v K = true) : ∃ id, v = .ch id ∧ K id = true := by cases v <;> first | exact ⟨_, rfl, h⟩ | exact absurd h (by simp [asCh])
theorem asF_spec {v : V} {K : FuncId → List V → Bool} (h : asF v K = true) : ∃ f cs, v = .f f cs ∧ K f cs = true := by cases v <;> first | exact ⟨_, _, rfl, h⟩ | exact absurd h (by simp [asF])
theorem asFc_spec {v : V} {K : TypeId → V → Bool} (h : asFc v K = true) : ∃ t u, v = .fc t u ∧ K t u = true := by cases v <;> first | exact ⟨_, _, rfl, h⟩ | exact absurd h (by simp [asFc])
theorem asTu_spec {v : V} {K : List V → Bool} (h : asTu v K = true) : ∃ vs, v = .tu vs ∧ K vs = true := by cases v <;> first | exact ⟨_, rfl, h⟩ | exact absurd h (by simp [asTu])
theorem asS_spec {v : V} {K : ByteArray → Bool} (h : asS v K = true) : ∃ s, v = .s s ∧ K s = true := by cases v <;> first | exact ⟨_, rfl, h⟩ | exact absurd h (by simp [asS])
theorem asCells_spec {o : AO} {K : Nat → List V → Bool} (h : asCells o K = true) : ∃ sz cs, o = .cells sz cs ∧ K sz cs = true := by cases o <;> first | exact ⟨_, _, rfl, h⟩ | exact absurd h (by simp [asCells])
theorem asMap_spec {o : AO} {K : List (V × V) → Bool} (h : asMap o K = true) : ∃ es, o = .map es ∧ K es = true := by cases o <;> first | exact ⟨_, rfl, h⟩ | exact absurd h (by simp [asMap])
theorem asChan_spec {o : AO} {K : Nat → List V → Bool} (h : asChan o K = true) : ∃ c b, o = .chan c b ∧ K c b = true := by cases o <;> first | exact ⟨_, _, rfl, h⟩ | exact absurd h (by simp [asChan])
theorem kBeq_eq {j k : IntKind} (h : kBeq j k = true) : j = k := by cases j <;> cases k <;> first | rfl | exact absurd h (by simp [kBeq])
def cellsV : V → List V
  | .ag vs => vs
  | v => [v]
def leaf : V → Bool
  | .ag _ | .tu _ => false
  | _ => true
theorem cellsK_spec {v : V} {K : List V → Bool} (h : cellsK v K = true) : (∀ vs, v ≠ .tu vs) ∧ K (cellsV v) = true := by
  cases v <;> first | exact absurd (show false = true from h) (by simp) | exact ⟨fun _ e => by simp at e, h⟩
theorem iBeq_iff {a b : Int} : iBeq a b = true ↔ a = b := by
  cases a <;> cases b <;> simp [iBeq] <;> omega
end Go.Ev
namespace Go.Ev
open Go

/-! ### Where a name's cells lie: a block, from where on, how many cells the block has, how many an element takes -/
structure Pl where
  blk : Nat
  base : Nat
  size : Nat
  esz : Nat
abbrev Mp := Pa → Option Pl
def Mp.le (m m' : Mp) : Prop := ∀ id pl, m id = some pl → m' id = some pl
theorem Mp.le_refl (m : Mp) : m.le m := fun _ _ h => h
theorem Mp.le_trans {a b c : Mp} (h : a.le b) (k : b.le c) : a.le c := fun id pl e => k id pl (h id pl e)

inductive VR (m : Mp) : V → Value → Prop
  | b (x : Bool) : VR m (.b x) (.bool x)
  | i (k : IntKind) (n : Int) : VR m (.i k n) (.int k n)
  | s (x : ByteArray) : VR m (.s x) (.string x)
  | p (id : Pa) (off : Nat) (pl : Pl) (h : m id = some pl) : VR m (.p id off) (.pointer (some ⟨pl.blk, pl.base + off, none⟩))
  | np : VR m .np (.pointer none)
  | sl (id : Pa) (off len cap : Nat) (pl : Pl) (off' cap' : Nat) (h : m id = some pl) (hl : len ≤ cap) (hc : cap ≤ cap') (ho : off' = pl.base + off ∨ cap' = 0)
      (hb : off' + cap' * pl.esz ≤ pl.size) : VR m (.sl id off len cap) (.slice (some ⟨pl.blk, off', none⟩) len cap')
  | ns : VR m .ns (.slice none 0 0)
  | mp (id : Pa) (pl : Pl) (h : m id = some pl) : VR m (.mp id) (.map (some pl.blk))
  | nm : VR m .nm (.map none)
  | ch (id : Pa) (pl : Pl) (h : m id = some pl) : VR m (.ch id) (.chan (some pl.blk))
  | nc : VR m .nc (.chan none)
  | f (f : FuncId) (cs : List V) (cs' : List Value) (hn : cs.length = cs'.length) (h : ∀ (i : Nat) (v : V) (v' : Value), cs[i]? = some v → cs'[i]? = some v' → VR m v v') : VR m (.f f cs) (.func (.func f) #[] ⟨cs'⟩)
  | nf : VR m .nf .nilFunc
  | fc (t : TypeId) (v : V) (v' : Value) (h : VR m v v') : VR m (.fc t v) (.iface t v')
  | ni : VR m .ni .nilIface
  | ag (cs : List V) (cs' : List Value) (hn : cs.length = cs'.length) (h : ∀ (i : Nat) (v : V) (v' : Value), cs[i]? = some v → cs'[i]? = some v' → VR m v v') (hl : ∀ (i : Nat) (v : V), cs[i]? = some v → leaf v = true) : VR m (.ag cs) (.agg ⟨cs'⟩)
  | tu (cs : List V) (cs' : List Value) (hn : cs.length = cs'.length) (h : ∀ (i : Nat) (v : V) (v' : Value), cs[i]? = some v → cs'[i]? = some v' → VR m v v') : VR m (.tu cs) (.tuple ⟨cs'⟩)

theorem VR.mono {m m' : Mp} (hm : m.le m') {v : V} {v' : Value} (h : VR m v v') : VR m' v v' := by
  induction h with
  | b x => exact .b x
  | i k n => exact .i k n
  | s x => exact .s x
  | p id off pl h => exact .p id off pl (hm _ _ h)
  | np => exact .np
  | sl id off len cap pl off' cap' h hl hc ho hb => exact .sl id off len cap pl off' cap' (hm _ _ h) hl hc ho hb
  | ns => exact .ns
  | mp id pl h => exact .mp id pl (hm _ _ h)
  | nm => exact .nm
  | ch id pl h => exact .ch id pl (hm _ _ h)
  | nc => exact .nc
  | f f cs cs' hn _ ih => exact .f f cs cs' hn ih
  | nf => exact .nf
  | fc t v v' _ ih => exact .fc t v v' ih
  | ni => exact .ni
  | ag cs cs' hn _ hl ih => exact .ag cs cs' hn ih hl
  | tu cs cs' hn _ ih => exact .tu cs cs' hn ih

/-! ### Lists of values -/
structure VRs (m : Mp) (l : List V) (l' : List Value) : Prop where
  len : l.length = l'.length
  at_ : ∀ (i : Nat) (v : V) (v' : Value), l[i]? = some v → l'[i]? = some v' → VR m v v'
section
variable {m m' : Mp} {l r : List V} {l' r' : List Value}
theorem VRs.mono (hm : m.le m') (h : VRs m l l') : VRs m' l l' := ⟨h.len, fun i v v' a b => (h.at_ i v v' a b).mono hm⟩
theorem VRs.nil : VRs m [] [] := ⟨rfl, fun i v v' h => by simp at h⟩
theorem VRs.cons {v : V} {v' : Value} (h : VR m v v') (t : VRs m l l') : VRs m (v :: l) (v' :: l') :=
  ⟨by simp [t.len], fun i a b ha hb => by
    cases i with
    | zero => simp at ha hb; subst ha; subst hb; exact h
    | succ i => simp at ha hb; exact t.at_ i a b ha hb⟩
theorem VRs.get (h : VRs m l l') {i : Nat} {v : V} (hv : l[i]? = some v) : ∃ v', l'[i]? = some v' ∧ VR m v v' := by
  have hi : i < l.length := by
    rcases Nat.lt_or_ge i l.length with a | a
    · exact a
    · rw [List.getElem?_eq_none a] at hv; cases hv
  exact ⟨l'[i]'(h.len ▸ hi), List.getElem?_eq_getElem _, h.at_ i v _ hv (List.getElem?_eq_getElem _)⟩
theorem VRs.append (h : VRs m l l') (k : VRs m r r') : VRs m (l ++ r) (l' ++ r') :=
  ⟨by simp [h.len, k.len], fun i v v' a b => by
    rcases Nat.lt_or_ge i l.length with c | c
    · rw [List.getElem?_append_left c] at a
      rw [List.getElem?_append_left (h.len ▸ c)] at b
      exact h.at_ i v v' a b
    · rw [List.getElem?_append_right c] at a
      rw [List.getElem?_append_right (h.len ▸ c), ← h.len] at b
      exact k.at_ _ v v' a b⟩
theorem VRs.take (h : VRs m l l') (n : Nat) : VRs m (l.take n) (l'.take n) :=
  ⟨by simp [h.len], fun i v v' a b => by
    rw [List.getElem?_take] at a b
    split at a
    · rename_i c; rw [if_pos c] at b; exact h.at_ i v v' a b
    · cases a⟩
theorem VRs.drop (h : VRs m l l') (n : Nat) : VRs m (l.drop n) (l'.drop n) :=
  ⟨by simp [h.len], fun i v v' a b => by rw [List.getElem?_drop] at a b; exact h.at_ _ v v' a b⟩
theorem VRs.uncons {v : V} (h : VRs m (v :: l) l') : ∃ v' t', l' = v' :: t' ∧ VR m v v' ∧ VRs m l t' := by
  cases l' with
  | nil => exact absurd h.len (by simp)
  | cons v' t' => exact ⟨v', t', rfl, h.at_ 0 v v' rfl rfl, by simpa using h.len, fun i a b ha hb => h.at_ (i + 1) a b (by simpa using ha) (by simpa using hb)⟩
end
def Leafs (l : List V) : Prop := ∀ (i : Nat) (v : V), l[i]? = some v → leaf v = true
theorem Leafs.append {l r : List V} (h : Leafs l) (k : Leafs r) : Leafs (l ++ r) := fun i v a => by
  rcases Nat.lt_or_ge i l.length with c | c
  · rw [List.getElem?_append_left c] at a; exact h i v a
  · rw [List.getElem?_append_right c] at a; exact k _ v a
theorem Leafs.take {l : List V} (h : Leafs l) (n : Nat) : Leafs (l.take n) := fun i v a => by
  rw [List.getElem?_take] at a
  split at a
  · exact h i v a
  · cases a
theorem Leafs.drop {l : List V} (h : Leafs l) (n : Nat) : Leafs (l.drop n) := fun i v a => by rw [List.getElem?_drop] at a; exact h _ v a
theorem Leafs.nil : Leafs [] := fun i v h => by simp at h
theorem leaf_one {m : Mp} {v : V} {v' : Value} (h : VR m v v') (hl : leaf v = true) : v'.oneCell' = true := by
  cases h <;> first | rfl | (simp [leaf] at hl)
/-- The cells of a value. -/
theorem VR.cells {m : Mp} {v : V} {v' : Value} (h : VR m v v') (ht : ∀ vs, v ≠ .tu vs) : VRs m (cellsV v) v'.cells.toList ∧ Leafs (cellsV v) := by
  cases h
  case ag cs cs' hn h hl => exact ⟨⟨hn, h⟩, hl⟩
  case tu cs cs' hn h => exact absurd rfl (ht cs)
  all_goals
    refine ⟨VRs.cons (by first | exact .b _ | exact .i _ _ | exact .s _ | (exact .p _ _ _ (by assumption)) | exact .np | (exact .sl _ _ _ _ _ _ _ (by assumption) (by assumption) (by assumption) (by assumption) (by assumption)) | exact .ns | (exact .mp _ _ (by assumption)) | exact .nm | (exact .ch _ _ (by assumption)) | exact .nc | (exact .f _ _ _ (by assumption) (by assumption)) | exact .nf | (exact .fc _ _ _ (by assumption)) | exact .ni) VRs.nil, fun i v hv => ?_⟩
    cases i with
    | zero => simp [cellsV] at hv; subst hv; rfl
    | succ i => simp [cellsV] at hv

/-! ### Blocks -/
inductive OR (m : Mp) : AO → Pl → Obj → Prop
  | cells (sz : Nat) (cs : List V) (pl : Pl) (c : Array Value) (elem : TypeId) (fz : Nat × Nat) (hs : pl.esz = sz) (hn : pl.size = c.size) (hb : pl.base + cs.length ≤ c.size)
      (h : ∀ (i : Nat) (v : V), cs[i]? = some v → ∃ v', c.toList[pl.base + i]? = some v' ∧ VR m v v') (hl : Leafs cs) (hf : fz.1 = fz.2 ∨ c.size ≤ fz.1) : OR m (.cells sz cs) pl (.cells c elem fz)
  | map (es : List (V × V)) (pl : Pl) (es' : Array MapEntry) (clk : Nat) (hn : es.length = es'.size)
      (h : ∀ (i : Nat) (e : V × V) (e' : MapEntry), es[i]? = some e → es'[i]? = some e' → VR m e.1 e'.key ∧ VR m e.2 e'.val) : OR m (.map es) pl (.map es' clk)
  | chan (cap : Nat) (buf : List V) (pl : Pl) (buf' : List Value) (s r : Nat) (h : VRs m buf buf') : OR m (.chan cap buf) pl (.chan cap ⟨buf'⟩ false s r false)
theorem OR.mono {m m' : Mp} (hm : m.le m') {o : AO} {pl : Pl} {x : Obj} (h : OR m o pl x) : OR m' o pl x := by
  cases h with
  | cells sz cs pl c elem fz hs hn hb h hl hf => exact .cells sz cs _ c elem fz hs hn hb (fun i v hv => let ⟨v', a, b⟩ := h i v hv; ⟨v', a, b.mono hm⟩) hl hf
  | map es pl es' clk hn h => exact .map es _ es' clk hn fun i e e' a b => ⟨(h i e e' a b).1.mono hm, (h i e e' a b).2.mono hm⟩
  | chan cap buf pl buf' s r h => exact .chan cap buf _ buf' s r (h.mono hm)

/-! ### Worlds: what is held fast, and what is kept under names -/
structure Env where
  F : Nat → Prop
  H : Nat → Option Obj
  os : Os
  tape : Nat → Question → Nat
  output : Array (Nat × ByteArray)
structure Base (E : Env) (w : World) : Prop where
  os : w.os = E.os
  tape : w.tape = E.tape
  output : w.output = E.output
  fr : ∀ b, E.F b → b < w.heap.size ∧ w.heap[b]? = E.H b
structure R (E : Env) (B : Nat) (m : Mp) (h : Pa → Option AO) (N : Nat) (w : World) : Prop where
  base : Base E w
  own : ∀ id o, h id = some o → ∃ pl x, m id = some pl ∧ ¬ E.F pl.blk ∧ w.heap[pl.blk]? = some x ∧ OR m o pl x
  inj : ∀ i j pl pl', h i ≠ none → h j ≠ none → m i = some pl → m j = some pl' → pl.blk = pl'.blk → i = j
  fresh : ∀ id : Pa, N ≤ id.toNat → id.toNat < B → m id = none
def upd (h : Pa → Option AO) (id : Pa) (o : Option AO) : Pa → Option AO := fun q => if q = id then o else h q
def Mp.add (m : Mp) (id : Pa) (pl : Pl) : Mp := fun q => if q = id then some pl else m q
theorem Mp.le_add {m : Mp} {id : Pa} (pl : Pl) (h : m id = none) : m.le (m.add id pl) := fun q p hq => by
  unfold Mp.add
  split
  · rename_i e; rw [e, h] at hq; cases hq
  · exact hq
/-- A world that differs from another at one block alone. -/
structure At (w : World) (b : Nat) (x : Obj) (w' : World) : Prop where
  os : w'.os = w.os
  tape : w'.tape = w.tape
  output : w'.output = w.output
  size : w'.heap.size = w.heap.size
  here : w'.heap[b]? = some x
  other : ∀ k, k ≠ b → w'.heap[k]? = w.heap[k]?
section
variable {E : Env} {B : Nat} {m : Mp} {h : Pa → Option AO} {N : Nat} {w w' : World}
theorem R.weaken (hR : R E B m h N w) {h' : Pa → Option AO} (hh : ∀ id o, h' id = some o → h id = some o) : R E B m h' N w where
  base := hR.base
  own := fun id o e => hR.own id o (hh id o e)
  inj := fun i j pl pl' a b => hR.inj i j pl pl'
    (fun e => by cases c : h' i with
      | none => exact a c
      | some o => rw [hh i o c] at e; cases e)
    (fun e => by cases c : h' j with
      | none => exact b c
      | some o => rw [hh j o c] at e; cases e)
  fresh := hR.fresh
/-- Nothing but the count of what was drawn. -/
theorem R.drawn (hR : R E B m h N w) (n : Nat) : R E B m h N { w with drawn := n } := ⟨⟨hR.base.os, hR.base.tape, hR.base.output, hR.base.fr⟩, hR.own, hR.inj, hR.fresh⟩
theorem R.write (hR : R E B m h N w) {id : Pa} {o o' : AO} {pl : Pl} {x : Obj} (ho : h id = some o) (hm : m id = some pl) (hw : At w pl.blk x w') (hx : OR m o' pl x) :
    R E B m (upd h id (some o')) N w' := by
  obtain ⟨pl₀, x₀, h1, h2, h3, h4⟩ := hR.own id o ho
  rw [hm] at h1; cases h1
  refine ⟨⟨hw.os.trans hR.base.os, hw.tape.trans hR.base.tape, hw.output.trans hR.base.output, fun b hb => ?_⟩, fun q u e => ?_, fun i j p p' a b => ?_, hR.fresh⟩
  · obtain ⟨a, c⟩ := hR.base.fr b hb
    exact ⟨hw.size ▸ a, (hw.other b (fun e => h2 (e ▸ hb))).trans c⟩
  · unfold upd at e
    split at e
    · rename_i eq; subst eq; cases e; exact ⟨pl, x, hm, h2, hw.here, hx⟩
    · rename_i ne
      obtain ⟨pq, xq, a1, a2, a3, a4⟩ := hR.own q u e
      refine ⟨pq, xq, a1, a2, (hw.other _ fun eb => ne ?_).trans a3, a4⟩
      exact hR.inj q id pq pl (by rw [e]; simp) (by rw [ho]; simp) a1 hm eb
  · have up : ∀ q, upd h id (some o') q ≠ none → h q ≠ none := fun q a e => by
      unfold upd at a
      split at a
      · rename_i eq; subst eq; rw [ho] at e; cases e
      · exact a e
    exact hR.inj i j p p' (up i a) (up j b)
/-- A new block under a new name. -/
theorem R.alloc (hR : R E B m h N w) {id : Pa} (hid : id.toNat = N) (hN : N < B) {o : AO} {pl : Pl} {x : Obj} (hb : pl.blk = w.heap.size) (hx : OR m o pl x) :
    R E B (m.add id pl) (upd h id (some o)) (N + 1) { w with heap := w.heap.push x } := by
  have hnone : m id = none := hR.fresh id (by omega) (by omega)
  have hle := Mp.le_add pl hnone
  have hh : h id = none := by
    cases c : h id with
    | none => rfl
    | some u => obtain ⟨p, _, a, _⟩ := hR.own id u c; rw [hnone] at a; cases a
  have blt : ∀ q u, h q = some u → ∀ p, m q = some p → p.blk < w.heap.size := fun q u hq p hp => by
    obtain ⟨p', x', a1, _, a3, _⟩ := hR.own q u hq
    rw [hp] at a1; cases a1
    rcases Nat.lt_or_ge p.blk w.heap.size with c | c
    · exact c
    · rw [Array.getElem?_eq_none c] at a3; cases a3
  have old : ∀ k, k < w.heap.size → (w.heap.push x)[k]? = w.heap[k]? := fun k hk => by rw [Array.getElem?_push]; rw [if_neg (by omega)]
  refine ⟨⟨hR.base.os, hR.base.tape, hR.base.output, fun b hb' => ?_⟩, fun q u e => ?_, fun i j p p' a b hi hj hpp => ?_, fun q hq hqB => ?_⟩
  · obtain ⟨a, c⟩ := hR.base.fr b hb'
    exact ⟨by simp only [Array.size_push]; omega, (old b a).trans c⟩
  · unfold upd at e
    split at e
    · rename_i eq; subst eq; cases e
      refine ⟨pl, x, by simp [Mp.add], fun hF => ?_, by rw [hb]; simp, hx.mono hle⟩
      have := (hR.base.fr _ hF).1
      omega
    · obtain ⟨pq, xq, a1, a2, a3, a4⟩ := hR.own q u e
      exact ⟨pq, xq, hle _ _ a1, a2, (old _ (blt q u e pq a1)).trans a3, a4.mono hle⟩
  · have up : ∀ q p, upd h id (some o) q ≠ none → (m.add id pl) q = some p → (q = id ∧ p = pl) ∨ (q ≠ id ∧ m q = some p ∧ p.blk < w.heap.size ∧ h q ≠ none) := fun q p a e => by
      unfold upd at a
      unfold Mp.add at e
      split at a
      · rename_i eq; rw [if_pos eq] at e; cases e; exact .inl ⟨eq, rfl⟩
      · rename_i ne
        rw [if_neg ne] at e
        cases c : h q with
        | none => exact absurd c a
        | some u => exact .inr ⟨ne, e, blt q u c p e, by simp⟩
    rcases up i p a hi with ⟨e1, e2⟩ | ⟨e1, e2, e3, e4⟩ <;> rcases up j p' b hj with ⟨f1, f2⟩ | ⟨f1, f2, f3, f4⟩
    · rw [e1, f1]
    · subst e2; omega
    · subst f2; omega
    · exact hR.inj i j p p' e4 f4 e2 f2 hpp
  · unfold Mp.add
    rw [if_neg (fun e => by subst e; omega)]
    exact hR.fresh q (by omega) hqB
/-- A name is struck; a new one stands for the same block. -/
theorem R.rebind (hR : R E B m h N w) {id old : Pa} (hid : id.toNat = N) (hN : N < B) {o o' : AO} {pl pl' : Pl} {x : Obj} (ho : h old = some o) (hm : m old = some pl) (hb : pl'.blk = pl.blk)
    (hw : At w pl.blk x w') (hx : OR m o' pl' x) : R E B (m.add id pl') (upd (upd h old none) id (some o')) (N + 1) w' := by
  obtain ⟨pl₀, x₀, h1, h2, h3, h4⟩ := hR.own old o ho
  rw [hm] at h1; cases h1
  have hnone : m id = none := hR.fresh id (by omega) (by omega)
  have hle := Mp.le_add pl' hnone
  have hne : id ≠ old := fun e => by rw [e, hm] at hnone; cases hnone
  refine ⟨⟨hw.os.trans hR.base.os, hw.tape.trans hR.base.tape, hw.output.trans hR.base.output, fun b hb => ?_⟩, fun q u e => ?_, fun i j p p' a b hi hj hpp => ?_, fun q hq hqB => ?_⟩
  · obtain ⟨a, c⟩ := hR.base.fr b hb
    exact ⟨hw.size ▸ a, (hw.other b (fun e => h2 (e ▸ hb))).trans c⟩
  · unfold upd at e
    split at e
    · rename_i eq; subst eq; cases e; exact ⟨pl', x, by simp [Mp.add], hb ▸ h2, hb ▸ hw.here, hx.mono hle⟩
    · split at e
      · cases e
      · rename_i ne
        obtain ⟨pq, xq, a1, a2, a3, a4⟩ := hR.own q u e
        refine ⟨pq, xq, hle _ _ a1, a2, (hw.other _ fun eb => ne ?_).trans a3, a4.mono hle⟩
        exact hR.inj q old pq pl (by rw [e]; simp) (by rw [ho]; simp) a1 hm eb
  · have up : ∀ q p, upd (upd h old none) id (some o') q ≠ none → (m.add id pl') q = some p → (q = id ∧ p = pl') ∨ (q ≠ id ∧ q ≠ old ∧ m q = some p ∧ h q ≠ none) := fun q p a e => by
      unfold upd at a
      unfold Mp.add at e
      split at a
      · rename_i eq; rw [if_pos eq] at e; cases e; exact .inl ⟨eq, rfl⟩
      · rename_i ne
        rw [if_neg ne] at e
        split at a
        · exact absurd rfl a
        · rename_i ne2; exact .inr ⟨ne, ne2, e, a⟩
    rcases up i p a hi with ⟨e1, e2⟩ | ⟨e1, e2, e3, e4⟩ <;> rcases up j p' b hj with ⟨f1, f2⟩ | ⟨f1, f2, f3, f4⟩
    · rw [e1, f1]
    · subst e2; exact absurd (hR.inj j old p' pl f4 (by rw [ho]; simp) f3 hm (by rw [← hpp, hb])) f2
    · subst f2; exact absurd (hR.inj i old p pl e4 (by rw [ho]; simp) e3 hm (by rw [hpp, hb])) e2
    · exact hR.inj i j p p' e4 f4 e3 f3 hpp
  · unfold Mp.add
    rw [if_neg (fun e => by subst e; omega)]
    exact hR.fresh q (by omega) hqB
theorem R.read (hR : R E B m h N w) {id : Pa} {o : AO} {pl : Pl} (ho : h id = some o) (hm : m id = some pl) : ∃ x, w.heap[pl.blk]? = some x ∧ OR m o pl x := by
  obtain ⟨pl₀, x, h1, _, h3, h4⟩ := hR.own id o ho
  rw [hm] at h1; cases h1
  exact ⟨x, h3, h4⟩
end

/-! ### Frames -/
structure FR (nt : Nat) (m : Mp) (A : Fr) (a : Act) : Prop where
  size : nt ≤ a.tmps.size
  at_ : ∀ t v, A.get (pa t) = some v → VR m v (a.tmps.getD t undef)
  defers : a.defers = []
theorem FR.mono {nt : Nat} {m m' : Mp} {A : Fr} {a : Act} (hm : m.le m') (h : FR nt m A a) : FR nt m' A a := ⟨h.size, fun t v e => (h.at_ t v e).mono hm, h.defers⟩
theorem FR.put {nt : Nat} {m : Mp} {A A' : Fr} {a : Act} (h : FR nt m A a) {d : Nat} (hd : d < nt) {v : V} {v' : Value} (hv : VR m v v') (hA : ∀ q, A'.get q = if q = pa d then some v else A.get q) :
    FR nt m A' (a.put (some d) v') := by
  refine ⟨by simpa [Act.put] using h.size, fun t u e => ?_, h.defers⟩
  rw [hA] at e
  by_cases c : t = d
  · subst c; rw [if_pos rfl] at e; cases e
    have hlt : t < a.tmps.size := Nat.lt_of_lt_of_le hd h.size
    simp only [Act.put, Array.getD_eq_getD_getElem?, Array.getElem?_setIfInBounds, if_true, if_pos hlt, Option.getD_some]; exact hv
  · rw [if_neg (fun e => c (pa_inj e))] at e
    have := h.at_ t u e
    simp only [Act.put, Array.getD_eq_getD_getElem?] at this ⊢
    rw [Array.getElem?_setIfInBounds_ne (fun e => c e.symm)]
    exact this
end Go.Ev
namespace Go.Ev
open Go

/-! ### Operands -/
/-- What the frame knows of some operands stands in the real one. -/
def AG (S : Operand → Prop) (m : Mp) (A : Fr) (a : Act) : Prop := ∀ t, S (.tmp t) → ∀ v, A.get (pa t) = some v → VR m v (a.eval (.tmp t))
theorem cV_spec {x : Value} {v : V} (h : cV x = some v) (m : Mp) : VR m v x := by
  unfold cV at h
  split at h <;> cases h <;> constructor
theorem cVs_spec : ∀ {xs : List Value} {vs : List V}, cVs xs = some vs → ∀ m, VRs m vs xs
  | [], vs, h, m => by simp [cVs] at h; subst h; exact VRs.nil
  | x :: xs, vs, h, m => by
    simp only [cVs] at h
    split at h
    · rename_i v hv
      split at h
      · rename_i us hus; cases h; exact VRs.cons (cV_spec hv m) (cVs_spec hus m)
      · cases h
    · cases h
theorem cV_leaf {x : Value} {v : V} (h : cV x = some v) : leaf v = true := by
  unfold cV at h
  split at h <;> cases h <;> rfl
theorem cVs_leafs : ∀ {xs : List Value} {vs : List V}, cVs xs = some vs → Leafs vs
  | [], vs, h => by simp [cVs] at h; subst h; exact Leafs.nil
  | x :: xs, vs, h => by
    simp only [cVs] at h
    split at h
    · rename_i v hv
      split at h
      · rename_i us hus
        cases h
        intro i u hu
        cases i with
        | zero => simp at hu; subst hu; exact cV_leaf hv
        | succ i => exact cVs_leafs hus i u (by simpa using hu)
      · cases h
    · cases h
section
variable {S : Operand → Prop}
theorem xv_spec {x : Operand} {X : Ev.X} (hc : cX x = some X) (hS : S x) {A : Fr} {K : V → Bool} (h : xv X A K = true) :
    ∃ v, K v = true ∧ ∀ m a, AG S m A a → VR m v (a.eval x) := by
  cases x with
  | tmp t =>
    simp only [cX, Option.some.injEq] at hc; subst hc
    obtain ⟨v, h1, h2⟩ := T.getK_spec (pa t) (t := A) (K := K) h
    exact ⟨v, h2, fun m a hA => hA t hS v h1⟩
  | const v =>
    simp only [cX] at hc
    split at hc
    · rename_i u hu; cases hc; exact ⟨u, h, fun m a _ => cV_spec hu m⟩
    · cases hc
  | func f => simp only [cX, Option.some.injEq] at hc; subst hc; exact ⟨.f f [], h, fun m a _ => .f f [] [] rfl (by simp)⟩
  | global g => simp [cX] at hc
theorem xvs_spec : ∀ {xs : List Operand} {Xs : List X}, cXs xs = some Xs → (∀ x ∈ xs, S x) → ∀ {A : Fr} {K : List V → Bool}, xvs Xs A K = true →
    ∃ vs, K vs = true ∧ ∀ m a, AG S m A a → VRs m vs (xs.map a.eval)
  | [], Xs, hc, hS, A, K, h => by
    simp [cXs] at hc; subst hc
    exact ⟨[], h, fun m a _ => VRs.nil⟩
  | x :: xs, Xs, hc, hS, A, K, h => by
    simp only [cXs] at hc
    split at hc
    · rename_i X hX
      split at hc
      · rename_i Ys hY
        cases hc
        obtain ⟨v, h1, h2⟩ := xv_spec hX (hS x (by simp)) (A := A) (K := fun v => xvs Ys A fun vs => K (v :: vs)) h
        obtain ⟨vs, h3, h4⟩ := xvs_spec hY (fun y hy => hS y (by simp [hy])) (A := A) (K := fun vs => K (v :: vs)) h1
        exact ⟨v :: vs, h3, fun m a hA => VRs.cons (h2 m a hA) (h4 m a hA)⟩
      · cases hc
    · cases hc
/-- An operand that need not be there. -/
inductive OV (m : Mp) : Option V → Option Value → Prop
  | none : OV m .none .none
  | some {v : V} {v' : Value} (h : VR m v v') : OV m (.some v) (.some v')
theorem xo_spec {x : Option Operand} {X : Option X} (hc : cXo x = some X) (hS : ∀ y, x = some y → S y) {A : Fr} {K : Option V → Bool} (h : xo X A K = true) :
    ∃ v, K v = true ∧ ∀ m a, AG S m A a → OV m v (x.map a.eval) := by
  cases x with
  | none => simp [cXo] at hc; subst hc; exact ⟨none, h, fun m a _ => .none⟩
  | some x =>
    simp only [cXo] at hc
    split at hc
    · rename_i Y hY
      cases hc
      obtain ⟨v, h1, h2⟩ := xv_spec hY (hS x rfl) (A := A) (K := fun v => K (some v)) h
      exact ⟨some v, h1, fun m a hA => .some (h2 m a hA)⟩
    · cases hc
end

/-! ### Cells that are read -/
theorem Addr.add_mk (b o i : Nat) : (⟨b, o, none⟩ : Addr).add i = ⟨b, o + i, none⟩ := by
  unfold Addr.add; split
  · rename_i h; subst h; rfl
  · rfl
section
variable {E : Env} {B : Nat} {m : Mp} {h : Pa → Option AO} {N : Nat} {w w' : World} {P : Program}
theorem OR.cell {sz : Nat} {cs : List V} {pl : Pl} {x : Obj} (hx : OR m (.cells sz cs) pl x) (hw : w.heap[pl.blk]? = some x) {i : Nat} {v : V} (hv : cs[i]? = some v) :
    ∃ v', w.cell? ⟨pl.blk, pl.base + i, none⟩ = some v' ∧ VR m v v' := by
  cases hx with
  | cells _ _ _ c elem fz hs hn hb h hl hf =>
    obtain ⟨v', h1, h2⟩ := h i v hv
    exact ⟨v', by simpa [World.cell?, hw] using h1, h2⟩
theorem R.cell (hR : R E B m h N w) {id : Pa} {sz : Nat} {cs : List V} (ho : h id = some (.cells sz cs)) {pl : Pl} (hm : m id = some pl) {i : Nat} {v : V} (hv : cs[i]? = some v) :
    ∃ v', w.cell? ⟨pl.blk, pl.base + i, none⟩ = some v' ∧ VR m v v' := by
  obtain ⟨x, hw, hx⟩ := hR.read ho hm
  exact hx.cell hw hv
/-- Some cells, one behind the other. -/
theorem R.cells (hR : R E B m h N w) {id : Pa} {sz : Nat} {cs : List V} (ho : h id = some (.cells sz cs)) {pl : Pl} (hm : m id = some pl) (o n : Nat) :
    ∃ cs' : List Value, VRs m ((cs.drop o).take n) cs' ∧ ∀ j v, cs'[j]? = some v → w.cell? ((⟨pl.blk, pl.base + o, none⟩ : Addr).add j) = some v := by
  obtain ⟨x, hw, hx⟩ := hR.read ho hm
  cases hx with
  | cells _ _ _ c elem fz hs hn hb h hl hf =>
    refine ⟨(c.toList.drop (pl.base + o)).take ((cs.drop o).take n).length, ⟨?_, fun i v v' a b => ?_⟩, fun j v a => ?_⟩
    · simp only [List.length_take, List.length_drop, Array.length_toList]; omega
    · rw [List.getElem?_take] at a b
      split at a
      · split at b
        · rw [List.getElem?_drop] at a b
          obtain ⟨u, hu, hv⟩ := h _ v a
          rw [Nat.add_assoc, hu] at b; cases b; exact hv
        · cases b
      · cases a
    · rw [List.getElem?_take] at a
      split at a
      · rw [List.getElem?_drop] at a
        rw [Addr.add_mk]
        simpa [World.cell?, hw] using a
      · cases a
theorem R.loads (hR : R E B m h N w) {id : Pa} {sz : Nat} {cs : List V} (ho : h id = some (.cells sz cs)) {pl : Pl} (hm : m id = some pl) (o n : Nat) (hn : n ≤ (cs.drop o).length) :
    ∃ cs' : List Value, VRs m ((cs.drop o).take n) cs' ∧ (loadCells ⟨pl.blk, pl.base + o, none⟩ n).run P w = .ok ⟨cs'⟩ w := by
  obtain ⟨cs', h1, h2⟩ := hR.cells ho hm o n
  have hl : cs'.length = n := by rw [← h1.len, List.length_take]; omega
  have := run_loadCells_list (P := P) w _ cs' h2
  rw [hl] at this
  exact ⟨cs', h1, this⟩
end

/-! ### Types -/
section
variable {P : Program} {t : TypeId} {d : TypeDesc}
theorem underlying_info (h : P.underlying t = some d) : ∃ i, P.info? t = some i := by
  cases hi : P.info? t with
  | none => simp [Program.underlying, hi] at h
  | some i => exact ⟨i, rfl⟩
theorem cellsOf_info {i : TypeInfo} (h : P.info? t = some i) : P.cellsOf t = i.size := by simp [Program.cellsOf, h]
theorem bytesOf_info {i : TypeInfo} (h : P.info? t = some i) : P.bytesOf t = i.bytes := by simp [Program.bytesOf, h]
theorem cellsOf_pos (h : Nat.blt 0 (P.cellsOf t) = true) : ∃ i, P.info? t = some i := by
  cases hi : P.info? t with
  | none => simp [Program.cellsOf, hi] at h
  | some i => exact ⟨i, rfl⟩
theorem run_sizeOf {i : TypeInfo} (h : P.info? t = some i) (w : World) : (sizeOf t).run P w = .ok (P.cellsOf t) w := by simp [sizeOf, typeInfo, h, cellsOf_info h]
theorem isAggB_true (h : isAggB P t = true) : (∃ d, P.underlying t = some d) ∧ ∀ w, (isAgg t).run P w = .ok true w := by
  unfold isAggB at h
  split at h
  · rename_i fs hu; exact ⟨⟨_, hu⟩, fun w => by simp [isAgg, run_underlying hu]⟩
  · rename_i n e hu; exact ⟨⟨_, hu⟩, fun w => by simp [isAgg, run_underlying hu]⟩
  · cases h
theorem isAggB_false (h : isAggB P t = false) (hu : P.underlying t = some d) (w : World) : (isAgg t).run P w = .ok false w := by
  unfold isAggB at h
  rw [hu] at h
  cases d <;> first | (simp at h; done) | simp [isAgg, run_underlying hu]
theorem zeroL_spec {z : List V} (h : zeroL P t = some z) : ∃ i v, P.info? t = some i ∧ i.zero = some v ∧ v.cells.toList.length = i.size ∧ Leafs z ∧ ∀ m, VRs m z v.cells.toList := by
  unfold zeroL at h
  split at h
  · rename_i i hi
    split at h
    · rename_i v hv
      cases hb : Nat.beq v.cells.toList.length i.size with
      | true => rw [hb] at h; exact ⟨i, v, hi, hv, Nat.eq_of_beq_eq_true hb, cVs_leafs h, fun m => cVs_spec h m⟩
      | false => rw [hb] at h; cases h
    · cases h
  · cases h
end

/-! ### What does not turn the heap -/
structure QS (P : Program) (o : Oper) (rd : Bool) (f : HQ) : Prop where
  run : ∀ {A : Fr} {σ : St} {K : V → Bool}, f A σ K = true → ∃ v, K v = true ∧ ∀ {E B m h N a w}, R E B m h N w → (rd = true → ∀ id ob, σ.heap.get id = some ob → h id = some ob) →
    AG (· ∈ o.op.operands) m A a → ∃ v', VR m v v' ∧ (execOp a.eval o).run P w = .ok (.value v') w
section
variable {P : Program} {o : Oper}
theorem qs_mv {x : Operand} {X : X} (ho : o.op = .move x ∨ o.op = .assign x) (hx : cX x = some X) : QS P o false (qMv X) where
  run := fun h => by
    have hS : x ∈ o.op.operands := by rcases ho with h | h <;> simp [h, Op.operands]
    obtain ⟨v, h1, h2⟩ := xv_spec (S := (· ∈ o.op.operands)) hx hS h
    refine ⟨v, h1, fun hR _ hA => ⟨_, h2 _ _ hA, ?_⟩⟩
    rcases ho with h | h <;> simp [execOp, h]
theorem qs_pick {c x y : Operand} {C X Y : Ev.X} (ho : o.op = .pick c x y) (hc : cX c = some C) (hx : cX x = some X) (hy : cX y = some Y) : QS P o false (qPick C X Y) where
  run := fun {A σ K} h => by
    obtain ⟨v, h1, h2⟩ := xv_spec (S := (· ∈ o.op.operands)) hc (by simp [ho, Op.operands]) (K := fun v => asB v fun t => ife t (xv X A K) (xv Y A K)) h
    obtain ⟨t, rfl, h3⟩ := asB_spec h1
    rw [ife_iff] at h3
    rcases h3 with ⟨rfl, h3⟩ | ⟨rfl, h3⟩
    · obtain ⟨v, h4, h5⟩ := xv_spec (S := (· ∈ o.op.operands)) hx (by simp [ho, Op.operands]) h3
      refine ⟨v, h4, fun {E B m h N a w} hR _ hA => ⟨_, h5 _ _ hA, ?_⟩⟩
      have hb := h2 m a hA
      generalize hg : a.eval c = b at hb
      cases hb
      simp [execOp, ho, hg, asBool]
    · obtain ⟨v, h4, h5⟩ := xv_spec (S := (· ∈ o.op.operands)) hy (by simp [ho, Op.operands]) h3
      refine ⟨v, h4, fun {E B m h N a w} hR _ hA => ⟨_, h5 _ _ hA, ?_⟩⟩
      have hb := h2 m a hA
      generalize hg : a.eval c = b at hb
      cases hb
      simp [execOp, ho, hg, asBool]
theorem qs_ld1 {t : TypeId} {x : Operand} {X : X} (ho : o.op = .load t x) (hx : cX x = some X) (hg : isAggB P t = false) (hu : (P.underlying t).isSome = true) : QS P o true (qLd1 X) where
  run := fun {A σ K} h => by
    obtain ⟨v, h1, h2⟩ := xv_spec (S := (· ∈ o.op.operands)) hx (by simp [ho, Op.operands]) (K := fun v => asP v fun id o => T.getK id σ.heap fun ob => asCells ob fun _ cs => dropK o cs fun l => headK l K) h
    obtain ⟨id, off, rfl, h3⟩ := asP_spec h1
    obtain ⟨ob, h4, h5⟩ := T.getK_spec id (t := σ.heap) h3
    obtain ⟨sz, cs, rfl, h6⟩ := asCells_spec h5
    obtain ⟨h7, h8⟩ := dropK_spec off h6
    obtain ⟨u, h9, h10⟩ := headK_spec h8
    refine ⟨u, h10, fun {E B m h N a w} hR hh hA => ?_⟩
    have hb := h2 m a hA
    generalize hg2 : a.eval x = b at hb
    cases hb
    rename_i pl hm
    rw [List.getElem?_drop, Nat.add_zero] at h9
    obtain ⟨v', hc, hv⟩ := hR.cell (hh rfl id _ h4) hm h9
    refine ⟨v', hv, ?_⟩
    obtain ⟨d, hd⟩ := Option.isSome_iff_exists.1 hu
    simp [execOp, ho, hg2, Instr.loadAt, Instr.sureAddr, loadVar, isAggB_false hg hd, hc]
theorem qs_ldn {t : TypeId} {x : Operand} {X : X} (ho : o.op = .load t x) (hx : cX x = some X) (hg : isAggB P t = true) : QS P o true (qLdn (P.cellsOf t) X) where
  run := fun {A σ K} h => by
    obtain ⟨v, h1, h2⟩ := xv_spec (S := (· ∈ o.op.operands)) hx (by simp [ho, Op.operands]) (K := fun v => asP v fun id o => T.getK id σ.heap fun ob => asCells ob fun _ cs => dropK o cs fun l => takeK (P.cellsOf t) l fun l => K (.ag l)) h
    obtain ⟨id, off, rfl, h3⟩ := asP_spec h1
    obtain ⟨ob, h4, h5⟩ := T.getK_spec id (t := σ.heap) h3
    obtain ⟨sz, cs, rfl, h6⟩ := asCells_spec h5
    obtain ⟨h7, h8⟩ := dropK_spec off h6
    obtain ⟨h9, h10⟩ := takeK_spec _ h8
    refine ⟨_, h10, fun {E B m h N a w} hR hh hA => ?_⟩
    have hb := h2 m a hA
    generalize hg2 : a.eval x = b at hb
    cases hb
    rename_i pl hm
    obtain ⟨cs', hv, hl⟩ := hR.loads (P := P) (hh rfl id _ h4) hm off _ h9
    obtain ⟨⟨d, hd⟩, hag⟩ := isAggB_true hg
    obtain ⟨i, hi⟩ := underlying_info hd
    obtain ⟨x, hw, hx⟩ := hR.read (hh rfl id _ h4) hm
    cases hx with
    | cells _ _ _ c elem fz hs hn hb h hl2 hf =>
      refine ⟨.agg ⟨cs'⟩, .ag _ _ hv.len hv.at_ ((hl2.drop off).take _), ?_⟩
      simp [execOp, ho, hg2, Instr.loadAt, Instr.sureAddr, loadVar, hag, run_sizeOf hi, hl]
theorem qs_nil {x : Operand} {X : X} (ho : o.op = .nilCheck x) (hx : cX x = some X) : QS P o false (qNil X) where
  run := fun {A σ K} h => by
    obtain ⟨v, h1, h2⟩ := xv_spec (S := (· ∈ o.op.operands)) hx (by simp [ho, Op.operands]) (K := fun v => asP v fun id o => K (.p id o)) h
    obtain ⟨id, off, rfl, h3⟩ := asP_spec h1
    refine ⟨_, h3, fun {E B m h N a w} hR hh hA => ⟨_, h2 m a hA, ?_⟩⟩
    have hb := h2 m a hA
    generalize hg2 : a.eval x = b at hb
    cases hb
    simp [execOp, ho, hg2]
theorem qs_not {t : TypeId} {x : Operand} {X : X} (ho : o.op = .unOp .not t x) (hx : cX x = some X) : QS P o false (qNot X) where
  run := fun {A σ K} h => by
    obtain ⟨v, h1, h2⟩ := xv_spec (S := (· ∈ o.op.operands)) hx (by simp [ho, Op.operands]) (K := fun v => asB v fun b => K (.b (!b))) h
    obtain ⟨b, rfl, h3⟩ := asB_spec h1
    refine ⟨_, h3, fun {E B m h N a w} hR hh hA => ?_⟩
    have hb := h2 m a hA
    generalize hg2 : a.eval x = b at hb
    cases hb
    exact ⟨_, .b _, by simp [execOp, ho, hg2, Op.unary]⟩
theorem qs_fc {t : TypeId} {x : Operand} {X : X} {d : TypeDesc} (ho : o.op = .makeInterface t x) (hx : cX x = some X) (hu : P.underlying t = some d) (hd : ∀ ms, d ≠ .interface ms) : QS P o false (qFc t X) where
  run := fun {A σ K} h => by
    obtain ⟨v, h1, h2⟩ := xv_spec (S := (· ∈ o.op.operands)) hx (by simp [ho, Op.operands]) (K := fun v => K (.fc t v)) h
    refine ⟨_, h1, fun {E B m h N a w} hR hh hA => ⟨_, .fc t v _ (h2 m a hA), ?_⟩⟩
    cases d <;> first | exact absurd rfl (hd _) | simp [execOp, ho, Instr.makeInterface, run_underlying hu]
theorem qs_fn {f : FuncId} {xs : Array Operand} {Xs : List X} (ho : o.op = .makeFunc (.func f) #[] xs) (hx : cXs xs.toList = some Xs) : QS P o false (qFn f Xs) where
  run := fun {A σ K} h => by
    obtain ⟨vs, h1, h2⟩ := xvs_spec (S := (· ∈ o.op.operands)) hx (by simp [ho, Op.operands]) (K := fun vs => K (.f f vs)) h
    refine ⟨_, h1, fun {E B m h N a w} hR hh hA => ⟨.func (.func f) #[] ⟨xs.toList.map a.eval⟩, .f f vs _ (h2 m a hA).len (h2 m a hA).at_, ?_⟩⟩
    have : (⟨xs.toList.map a.eval⟩ : Array Value) = xs.map a.eval := by apply Array.ext'; simp
    simp [execOp, ho, Instr.makeFunc, this]
theorem qs_ext {i : Nat} {x : Operand} {X : X} (ho : o.op = .extract x i) (hx : cX x = some X) : QS P o false (qExt i X) where
  run := fun {A σ K} h => by
    obtain ⟨v, h1, h2⟩ := xv_spec (S := (· ∈ o.op.operands)) hx (by simp [ho, Op.operands]) (K := fun v => asTu v fun vs => dropK i vs fun l => headK l K) h
    obtain ⟨vs, rfl, h3⟩ := asTu_spec h1
    obtain ⟨h4, h5⟩ := dropK_spec i h3
    obtain ⟨u, h6, h7⟩ := headK_spec h5
    refine ⟨u, h7, fun {E B m h N a w} hR hh hA => ?_⟩
    have hb := h2 m a hA
    generalize hg2 : a.eval x = b at hb
    cases hb
    rename_i cs' hn hv
    rw [List.getElem?_drop, Nat.add_zero] at h6
    obtain ⟨v', h8, h9⟩ := VRs.get ⟨hn, hv⟩ h6
    exact ⟨v', h9, by simp [execOp, ho, hg2, Instr.extract, h8]⟩
theorem qs_fa {s : TypeId} {x : Operand} {X : X} {f : Nat} {fs : Array Field} {fd : Field} (ho : o.op = .fieldAddr s x f) (hx : cX x = some X) (hu : P.underlying s = some (.struct fs)) (hf : fs.toList[f]? = some fd)
    (hz : Nat.beq (P.cellsOf fd.type) 0 = false) : QS P o false (qFa fd.offset X) where
  run := fun {A σ K} h => by
    obtain ⟨v, h1, h2⟩ := xv_spec (S := (· ∈ o.op.operands)) hx (by simp [ho, Op.operands]) (K := fun v => asP v fun id o => fNat (o + fd.offset) fun o => K (.p id o)) h
    obtain ⟨id, off, rfl, h3⟩ := asP_spec h1
    have h3 : fNat (off + fd.offset) (fun o => K (V.p id o)) = true := h3
    rw [fNat_eq] at h3
    refine ⟨_, h3, fun {E B m h N a w} hR hh hA => ?_⟩
    have hb := h2 m a hA
    generalize hg2 : a.eval x = b at hb
    cases hb
    rename_i pl hm
    have hne : P.cellsOf fd.type ≠ 0 := fun e => by rw [e] at hz; simp at hz
    obtain ⟨i, hi⟩ : ∃ i, P.info? fd.type = some i := by
      cases hi : P.info? fd.type with
      | none => simp [Program.cellsOf, hi] at hne
      | some i => exact ⟨i, rfl⟩
    refine ⟨_, .p id _ pl hm, ?_⟩
    have hf' : fs[f]? = some fd := by simpa using hf
    simp [execOp, ho, hg2, Instr.fieldAt, run_underlying hu, hf', Instr.sureAddr, fieldPlace, run_sizeOf hi, hne, Addr.add_mk, Nat.add_assoc]
end
end Go.Ev
