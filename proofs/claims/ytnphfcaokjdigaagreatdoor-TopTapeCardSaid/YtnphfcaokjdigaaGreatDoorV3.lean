/- A small evaluator of programs, written by recursors and continuations, so that the kernel reckons it quickly. -/
import GoSem.Step
import Derived.Orders
set_option linter.unusedVariables false
set_option linter.unusedSimpArgs false
noncomputable section
namespace Go.Ev

/-! ### A place's name, and a tree of what is kept under names. What runs is written by recursors: the kernel reckons these quickest; and by continuations: what is kept is brought to a numeral first. -/
inductive Pa where
  | z | l (p : Pa) | r (p : Pa)
  deriving DecidableEq
inductive T (α : Type) where
  | e
  | n (l : T α) (v : Option α) (r : T α)
def T.get {α : Type} : T α → Pa → Option α
  | .e, _ => none
  | .n _ v _, .z => v
  | .n l _ _, .l p => l.get p
  | .n _ _ r, .r p => r.get p
def paF : Nat → Nat → Pa
  | 0, _ => .z
  | _ + 1, 0 => .z
  | f + 1, n + 1 => bif Nat.beq ((n + 1) % 2) 1 then .l (paF f ((n + 1) / 2)) else .r (paF f ((n + 1) / 2 - 1))
def pa (n : Nat) : Pa := paF n n
def Pa.beq : Pa → Pa → Bool
  | .z, .z => true
  | .l p, .l q => p.beq q
  | .r p, .r q => p.beq q
  | _, _ => false
def fNat (n : Nat) (K : Nat → Bool) : Bool := Nat.rec (motive := fun _ => Bool) (K 0) (fun m _ => K (Nat.succ m)) n
def fList {α : Type} (l : List α) : (List α → Bool) → Bool :=
  List.rec (motive := fun _ => (List α → Bool) → Bool) (fun K => K []) (fun x _ ih K => ih fun ys => K (x :: ys)) l
def Pa.succF (p : Pa) : (Pa → Bool) → Bool :=
  Pa.rec (motive := fun _ => (Pa → Bool) → Bool) (fun K => K (.l .z)) (fun p _ K => K (.r p)) (fun _ ih K => ih fun q => K (.l q)) p
def T.getK {α : Type} (p : Pa) : T α → (α → Bool) → Bool :=
  Pa.rec (motive := fun _ => T α → (α → Bool) → Bool)
    (fun t K => T.rec (motive := fun _ => Bool) false (fun _ v _ _ _ => Option.rec (motive := fun _ => Bool) false K v) t)
    (fun _ ih t K => T.rec (motive := fun _ => Bool) false (fun l _ _ _ _ => ih l K) t)
    (fun _ ih t K => T.rec (motive := fun _ => Bool) false (fun _ _ r _ _ => ih r K) t) p
def T.setF {α : Type} (p : Pa) : T α → Option α → (T α → Bool) → Bool :=
  Pa.rec (motive := fun _ => T α → Option α → (T α → Bool) → Bool)
    (fun t x K => T.rec (motive := fun _ => Bool) (K (.n .e x .e)) (fun l _ r _ _ => K (.n l x r)) t)
    (fun _ ih t x K => T.rec (motive := fun _ => Bool) (ih .e x fun u => K (.n u none .e)) (fun l v r _ _ => ih l x fun u => K (.n u v r)) t)
    (fun _ ih t x K => T.rec (motive := fun _ => Bool) (ih .e x fun u => K (.n .e none u)) (fun l v r _ _ => ih r x fun u => K (.n l v u)) t) p

/-! ### Values, what is kept -/
inductive V where
  | b (b : Bool)
  | i (k : IntKind) (n : Int)
  | s (s : ByteArray)
  | p (id : Pa) (off : Nat)
  | np
  | sl (id : Pa) (off len cap : Nat)
  | ns
  | mp (id : Pa)
  | nm
  | ch (id : Pa)
  | nc
  | f (f : FuncId) (cs : List V)
  | nf
  | fc (t : TypeId) (v : V)
  | ni
  | ag (vs : List V)
  | tu (vs : List V)
inductive AO where
  | cells (sz : Nat) (cs : List V)
  | map (es : List (V × V))
  | chan (cap : Nat) (buf : List V)
structure St where
  heap : T AO
  next : Pa
abbrev Fr := T V
def yes (b : Bool) (K : Bool) : Bool := Bool.rec (motive := fun _ => Bool) false K b
def ife (b : Bool) (x y : Bool) : Bool := Bool.rec (motive := fun _ => Bool) y x b

def kBeq : IntKind → IntKind → Bool
  | .i8, .i8 | .i16, .i16 | .i32, .i32 | .i64, .i64 | .u8, .u8 | .u16, .u16 | .u32, .u32 | .u64, .u64 => true
  | _, _ => false
def iBeq : Int → Int → Bool
  | .ofNat a, .ofNat b => Nat.beq a b
  | .negSucc a, .negSucc b => Nat.beq a b
  | _, _ => false
def iLt : Int → Int → Bool
  | .ofNat a, .ofNat b => Nat.blt a b
  | .negSucc a, .negSucc b => Nat.blt b a
  | .negSucc _, .ofNat _ => true
  | .ofNat _, .negSucc _ => false
def V.beq : Nat → V → V → Bool
  | _, .b x, .b y => x == y
  | _, .i k x, .i j y => kBeq k j && iBeq x y
  | _, .p a1 x, .p a2 y => a1.beq a2 && Nat.beq x y
  | _, .np, .np | _, .ns, .ns | _, .nm, .nm | _, .nc, .nc | _, .nf, .nf | _, .ni, .ni => true
  | _, .sl a1 x y z, .sl a2 u v w => a1.beq a2 && Nat.beq x u && Nat.beq y v && Nat.beq z w
  | _, .mp a1, .mp a2 | _, .ch a1, .ch a2 => a1.beq a2
  | n + 1, .fc t v, .fc u w => Nat.beq t u && V.beq n v w
  | n + 1, .ag (v :: vs), .ag (w :: ws) => V.beq n v w && V.beq n (.ag vs) (.ag ws)
  | _, .ag [], .ag [] => true
  | _, _, _ => false

/-! ### Looking into a value -/
def asB (v : V) (K : Bool → Bool) : Bool :=
  V.casesOn (motive_1 := fun _ => Bool) v (fun b => K b) (fun _ _ => false) (fun _ => false) (fun _ _ => false) false (fun _ _ _ _ => false) false (fun _ => false) false (fun _ => false) false (fun _ _ => false) false (fun _ _ => false) false (fun _ => false) (fun _ => false)
def asI (v : V) (K : IntKind → Int → Bool) : Bool :=
  V.casesOn (motive_1 := fun _ => Bool) v (fun _ => false) (fun k n => K k n) (fun _ => false) (fun _ _ => false) false (fun _ _ _ _ => false) false (fun _ => false) false (fun _ => false) false (fun _ _ => false) false (fun _ _ => false) false (fun _ => false) (fun _ => false)
def asN (v : V) (K : IntKind → Nat → Bool) : Bool := asI v fun k n => Int.casesOn (motive := fun _ => Bool) n (fun n => K k n) (fun _ => false)
def asP (v : V) (K : Pa → Nat → Bool) : Bool :=
  V.casesOn (motive_1 := fun _ => Bool) v (fun _ => false) (fun _ _ => false) (fun _ => false) (fun id o => K id o) false (fun _ _ _ _ => false) false (fun _ => false) false (fun _ => false) false (fun _ _ => false) false (fun _ _ => false) false (fun _ => false) (fun _ => false)
/-- A slice that is nil, or one that is not. -/
def asSl (v : V) (N : Bool) (K : Pa → Nat → Nat → Nat → Bool) : Bool :=
  V.casesOn (motive_1 := fun _ => Bool) v (fun _ => false) (fun _ _ => false) (fun _ => false) (fun _ _ => false) false (fun id o n c => K id o n c) N (fun _ => false) false (fun _ => false) false (fun _ _ => false) false (fun _ _ => false) false (fun _ => false) (fun _ => false)
def asMp (v : V) (K : Pa → Bool) : Bool :=
  V.casesOn (motive_1 := fun _ => Bool) v (fun _ => false) (fun _ _ => false) (fun _ => false) (fun _ _ => false) false (fun _ _ _ _ => false) false (fun id => K id) false (fun _ => false) false (fun _ _ => false) false (fun _ _ => false) false (fun _ => false) (fun _ => false)
def asCh (v : V) (K : Pa → Bool) : Bool :=
  V.casesOn (motive_1 := fun _ => Bool) v (fun _ => false) (fun _ _ => false) (fun _ => false) (fun _ _ => false) false (fun _ _ _ _ => false) false (fun _ => false) false (fun id => K id) false (fun _ _ => false) false (fun _ _ => false) false (fun _ => false) (fun _ => false)
def asF (v : V) (K : FuncId → List V → Bool) : Bool :=
  V.casesOn (motive_1 := fun _ => Bool) v (fun _ => false) (fun _ _ => false) (fun _ => false) (fun _ _ => false) false (fun _ _ _ _ => false) false (fun _ => false) false (fun _ => false) false (fun f cs => K f cs) false (fun _ _ => false) false (fun _ => false) (fun _ => false)
def asFc (v : V) (K : TypeId → V → Bool) : Bool :=
  V.casesOn (motive_1 := fun _ => Bool) v (fun _ => false) (fun _ _ => false) (fun _ => false) (fun _ _ => false) false (fun _ _ _ _ => false) false (fun _ => false) false (fun _ => false) false (fun _ _ => false) false (fun t v => K t v) false (fun _ => false) (fun _ => false)
def asTu (v : V) (K : List V → Bool) : Bool :=
  V.casesOn (motive_1 := fun _ => Bool) v (fun _ => false) (fun _ _ => false) (fun _ => false) (fun _ _ => false) false (fun _ _ _ _ => false) false (fun _ => false) false (fun _ => false) false (fun _ _ => false) false (fun _ _ => false) false (fun _ => false) (fun vs => K vs)
def asS (v : V) (K : ByteArray → Bool) : Bool :=
  V.casesOn (motive_1 := fun _ => Bool) v (fun _ => false) (fun _ _ => false) (fun s => K s) (fun _ _ => false) false (fun _ _ _ _ => false) false (fun _ => false) false (fun _ => false) false (fun _ _ => false) false (fun _ _ => false) false (fun _ => false) (fun _ => false)
/-- Is it nil? -/
def isNil (v : V) (K : Bool → Bool) : Bool :=
  V.casesOn (motive_1 := fun _ => Bool) v (fun _ => false) (fun _ _ => false) (fun _ => false) (fun _ _ => K false) (K true) (fun _ _ _ _ => K false) (K true) (fun _ => false) false (fun _ => false) false (fun _ _ => false) false (fun _ _ => K false) (K true) (fun _ => false) (fun _ => false)
/-- Which nil? 0: none; 1: a pointer's; 2: a slice's; 3: an interface's. -/
def nilNo (v : V) : Nat :=
  V.casesOn (motive_1 := fun _ => Nat) v (fun _ => 0) (fun _ _ => 0) (fun _ => 0) (fun _ _ => 1) 1 (fun _ _ _ _ => 2) 2 (fun _ => 0) 0 (fun _ => 0) 0 (fun _ _ => 0) 0 (fun _ _ => 3) 3 (fun _ => 0) (fun _ => 0)
def cellsK (v : V) (K : List V → Bool) : Bool :=
  V.casesOn (motive_1 := fun _ => Bool) v (fun b => K [.b b]) (fun k n => K [.i k n]) (fun s => K [.s s]) (fun id o => K [.p id o]) (K [.np]) (fun id o n c => K [.sl id o n c]) (K [.ns]) (fun id => K [.mp id]) (K [.nm]) (fun id => K [.ch id]) (K [.nc]) (fun f cs => K [.f f cs]) (K [.nf]) (fun t v => K [.fc t v]) (K [.ni]) (fun vs => K vs) (fun _ => false)
def asCells (o : AO) (K : Nat → List V → Bool) : Bool := AO.casesOn (motive := fun _ => Bool) o (fun sz cs => K sz cs) (fun _ => false) (fun _ _ => false)
def asMap (o : AO) (K : List (V × V) → Bool) : Bool := AO.casesOn (motive := fun _ => Bool) o (fun _ _ => false) (fun es => K es) (fun _ _ => false)
def asChan (o : AO) (K : Nat → List V → Bool) : Bool := AO.casesOn (motive := fun _ => Bool) o (fun _ _ => false) (fun _ => false) (fun c buf => K c buf)

/-! ### Lists of cells -/
def lenK {α : Type} (l : List α) : Nat := List.rec (motive := fun _ => Nat) 0 (fun _ _ n => Nat.succ n) l
/-- Past the first n. -/
def dropK (n : Nat) : List V → (List V → Bool) → Bool :=
  Nat.rec (motive := fun _ => List V → (List V → Bool) → Bool) (fun l K => K l) (fun _ ih l K => List.rec (motive := fun _ => Bool) false (fun _ r _ => ih r K) l) n
/-- The first n, all there. -/
def takeK (n : Nat) : List V → (List V → Bool) → Bool :=
  Nat.rec (motive := fun _ => List V → (List V → Bool) → Bool) (fun _ K => K []) (fun _ ih l K => List.rec (motive := fun _ => Bool) false (fun x r _ => ih r fun ys => K (x :: ys)) l) n
def headK (l : List V) (K : V → Bool) : Bool := List.rec (motive := fun _ => Bool) false (fun x _ _ => K x) l
/-- The others' cells laid over the first. -/
def overK (vs : List V) : List V → (List V → Bool) → Bool :=
  List.rec (motive := fun _ => List V → (List V → Bool) → Bool) (fun l K => K l) (fun v _ ih l K => List.rec (motive := fun _ => Bool) false (fun _ r _ => ih r fun ys => K (v :: ys)) l) vs
/-- The same, from a place on. -/
def overAtK (vs : List V) (n : Nat) : List V → (List V → Bool) → Bool :=
  Nat.rec (motive := fun _ => List V → (List V → Bool) → Bool) (overK vs) (fun _ ih l K => List.rec (motive := fun _ => Bool) false (fun x r _ => ih r fun ys => K (x :: ys)) l) n
def appK (l : List V) (r : List V) : (List V → Bool) → Bool :=
  List.rec (motive := fun _ => (List V → Bool) → Bool) (fun K => K r) (fun x _ ih K => ih fun ys => K (x :: ys)) l
def repK (z : List V) (n : Nat) : (List V → Bool) → Bool :=
  Nat.rec (motive := fun _ => (List V → Bool) → Bool) (fun K => K []) (fun _ ih K => ih fun ys => appK z ys K) n

/-! ### Operands -/
inductive X where
  | t (p : Pa)
  | c (v : V)
def xv (x : X) (A : Fr) (K : V → Bool) : Bool := X.rec (motive := fun _ => Bool) (fun p => T.getK p A K) (fun v => K v) x
def xvs (xs : List X) : Fr → (List V → Bool) → Bool :=
  List.rec (motive := fun _ => Fr → (List V → Bool) → Bool) (fun _ K => K []) (fun x _ ih A K => xv x A fun v => ih A fun vs => K (v :: vs)) xs
def xo (x : Option X) (A : Fr) (K : Option V → Bool) : Bool := Option.rec (motive := fun _ => Bool) (K none) (fun x => xv x A fun v => K (some v)) x
/-- Parts of a struct or a slice, laid over its cells: place, size, operand. -/
def fillK (ps : List (Nat × Nat × X)) : Fr → List V → (List V → Bool) → Bool :=
  List.rec (motive := fun _ => Fr → List V → (List V → Bool) → Bool) (fun _ l K => K l)
    (fun p _ ih A l K => xv p.2.2 A fun v => cellsK v fun cs => yes (Nat.beq (lenK cs) p.2.1) (overAtK cs p.1 l fun l => ih A l K)) ps

/-! ### What does not turn the heap -/
abbrev HQ := Fr → St → (V → Bool) → Bool
def lim : IntKind → Nat
  | .i8 => 128 | .i16 => 32768 | .i32 => 2147483648 | .i64 => 9223372036854775808
  | .u8 => 256 | .u16 => 65536 | .u32 => 4294967296 | .u64 => 18446744073709551616
def sgn : IntKind → Bool
  | .i8 | .i16 | .i32 | .i64 => true
  | _ => false
def bitsOf : IntKind → Nat
  | .i8 | .u8 => 8
  | .i16 | .u16 => 16
  | .i32 | .u32 => 32
  | .i64 | .u64 => 64
/-- A number that is no less than zero, brought into its kind: cut, if the kind has no sign; else it must fit. -/
def ofN (k : IntKind) (n : Nat) (K : V → Bool) : Bool :=
  ife (sgn k) (yes (Nat.blt n (lim k)) (fNat n fun n => K (.i k (.ofNat n)))) (fNat (n % lim k) fun n => K (.i k (.ofNat n)))
abbrev G := IntKind → Nat → Nat → (V → Bool) → Bool
def gAdd : G := fun k a b K => ofN k (a + b) K
def gMul : G := fun k a b K => ofN k (a * b) K
def gSub : G := fun k a b K => ife (Nat.ble b a) (ofN k (a - b) K)
  (ife (sgn k) (yes (Nat.ble (b - a) (lim k)) (fNat (b - a - 1) fun n => K (.i k (.negSucc n)))) (yes (Nat.ble b (a + lim k)) (ofN k (a + lim k - b) K)))
def gQuo : G := fun k a b K => ife (Nat.beq b 0) false (ofN k (a / b) K)
/-- One that must fit. -/
def fitN (k : IntKind) (n : Nat) (K : V → Bool) : Bool := yes (Nat.blt n (lim k)) (fNat n fun n => K (.i k (.ofNat n)))
def gRem : G := fun k a b K => ife (Nat.beq b 0) false (fitN k (a % b) K)
def gAnd : G := fun k a b K => ife (sgn k) false (ofN k (Nat.land a b) K)
def gOr : G := fun k a b K => ife (sgn k) false (ofN k (Nat.lor a b) K)
def gXor : G := fun k a b K => ife (sgn k) false (ofN k (Nat.xor a b) K)
def gShl : G := fun k a b K => ife (sgn k) false (ofN k (a * 2 ^ (Nat.min b (bitsOf k))) K)
def gShr : G := fun k a b K => fitN k (a / 2 ^ (Nat.min b (bitsOf k))) K
def cEq : Int → Int → Bool := iBeq
def cNe : Int → Int → Bool := fun a b => !(iBeq a b)
def cLt : Int → Int → Bool := iLt
def cGt : Int → Int → Bool := fun a b => iLt b a
def cLe : Int → Int → Bool := fun a b => !(iLt b a)
def cGe : Int → Int → Bool := fun a b => !(iLt a b)
def qMv (x : X) : HQ := fun A _ K => xv x A K
def qPick (c a b : X) : HQ := fun A _ K => xv c A fun v => asB v fun t => ife t (xv a A K) (xv b A K)
def qBuild (z : List V) (ps : List (Nat × Nat × X)) : HQ := fun A _ K => fillK ps A z fun l => K (.ag l)
def qLd1 (x : X) : HQ := fun A σ K => xv x A fun v => asP v fun id o => T.getK id σ.heap fun ob => asCells ob fun _ cs => dropK o cs fun l => headK l K
def qLdn (n : Nat) (x : X) : HQ := fun A σ K => xv x A fun v => asP v fun id o => T.getK id σ.heap fun ob => asCells ob fun _ cs => dropK o cs fun l => takeK n l fun l => K (.ag l)
def qNil (x : X) : HQ := fun A _ K => xv x A fun v => asP v fun id o => K (.p id o)
def qInt (g : G) (x y : X) : HQ := fun A _ K => xv x A fun v => asN v fun k a => xv y A fun u => asN u fun j b => yes (kBeq k j) (g k a b K)
/-- A shift: the other's kind does not matter. -/
def qSh (g : G) (x y : X) : HQ := fun A _ K => xv x A fun v => asN v fun k a => xv y A fun u => asN u fun _ b => g k a b K
def qCmp (c : Int → Int → Bool) (x y : X) : HQ := fun A _ K => xv x A fun v => asI v fun k a => xv y A fun u => asI u fun j b => yes (kBeq k j) (K (.b (c a b)))
def qEqB (neg : Bool) (x y : X) : HQ := fun A _ K => xv x A fun v => asB v fun a => xv y A fun u => asB u fun b => K (.b (xor neg (a == b)))
/-- '== nil', '!= nil': of a pointer, a slice, an interface value (by number, as nilNo). -/
def qEqN (neg : Bool) (no : Nat) (x y : X) : HQ := fun A _ K => xv y A fun u => isNil u fun w => yes w (yes (Nat.beq (nilNo u) no) (xv x A fun v => isNil v fun t => yes (Nat.beq (nilNo v) no) (K (.b (xor neg t)))))
def bytesEq (x : List UInt8) : List UInt8 → Bool :=
  List.rec (motive := fun _ => List UInt8 → Bool) (fun y => List.rec (motive := fun _ => Bool) true (fun _ _ _ => false) y)
    (fun a _ ih y => List.rec (motive := fun _ => Bool) false (fun b r _ => yes (Nat.beq a.toNat b.toNat) (ih r)) y) x
def bytesK (l : List V) : (List UInt8 → Bool) → Bool :=
  List.rec (motive := fun _ => (List UInt8 → Bool) → Bool) (fun K => K []) (fun v _ ih K => asN v fun k n => yes (kBeq k .u8) (ih fun r => K (UInt8.ofNat n :: r))) l
/-- The value that stands under a number in a map: found, or not there. -/
def findK (a : Int) (k : IntKind) (es : List (V × V)) : (V → Bool) → Bool → Bool :=
  List.rec (motive := fun _ => (V → Bool) → Bool → Bool) (fun _ N => N) (fun e _ ih K N => asI e.1 fun j b => yes (kBeq k j) (ife (iBeq a b) (K e.2) (ih K N))) es
def qEqS (neg : Bool) (x y : X) : HQ := fun A _ K => xv x A fun v => asS v fun a => xv y A fun u => asS u fun b => K (.b (xor neg (bytesEq a.data.toList b.data.toList)))
def qNot (x : X) : HQ := fun A _ K => xv x A fun v => asB v fun b => K (.b (!b))
def qCint (k : IntKind) (x : X) : HQ := fun A _ K => xv x A fun v => asN v fun _ n => ofN k n K
def qCstr (x : X) : HQ := fun A σ K => xv x A fun v => asSl v false fun id o n _ => T.getK id σ.heap fun ob => asCells ob fun _ cs => dropK o cs fun l => takeK n l fun l => bytesK l fun bs => K (.s ⟨⟨bs⟩⟩)
def qFc (t : TypeId) (x : X) : HQ := fun A _ K => xv x A fun v => K (.fc t v)
def qFn (f : FuncId) (xs : List X) : HQ := fun A _ K => xvs xs A fun vs => K (.f f vs)
/-- An operand's number, or what stands in its place. -/
def xn (x : Option X) (A : Fr) (d : Nat) (K : Nat → Bool) : Bool := xo x A fun v => Option.casesOn (motive := fun _ => Bool) v (K d) fun v => asN v fun _ n => K n
/-- A slice's head. -/
def qSlice (x : X) (hi mx : Option X) : HQ := fun A _ K => xv x A fun v => asSl v
  (xn hi A 0 fun h => xn mx A 0 fun m => yes (Nat.beq (h + m) 0) (K .ns))
  fun id o n c => xn hi A n fun h => xn mx A c fun m => yes (Nat.ble h m) (yes (Nat.ble m c) (K (.sl id o h m)))
/-- A slice from some place on: its elements' size is looked up. -/
def qSliceR (sz : Nat) (x lo : X) (hi mx : Option X) : HQ := fun A σ K => xv x A fun v => xv lo A fun u => asN u fun _ l => asSl v
  (xn hi A 0 fun h => xn mx A 0 fun m => yes (Nat.beq (l + h + m) 0) (K .ns))
  fun id o n c => xn hi A n fun h => xn mx A c fun m => yes (Nat.ble l h) (yes (Nat.ble h m) (yes (Nat.ble m c)
    (T.getK id σ.heap fun ob => asCells ob fun sz' _ => yes (Nat.beq sz sz') (fNat (o + l * sz) fun o => fNat (h - l) fun n => fNat (m - l) fun c => K (.sl id o n c)))))
def qFa (off : Nat) (x : X) : HQ := fun A _ K => xv x A fun v => asP v fun id o => fNat (o + off) fun o => K (.p id o)
def qIa (sz : Nat) (x i : X) : HQ := fun A _ K => xv x A fun v => asSl v false fun id o n _ => xv i A fun u => asN u fun _ j => yes (Nat.blt j n) (fNat (o + j * sz) fun o => K (.p id o))
def qLook (z : V) (m k : X) : HQ := fun A σ K => xv m A fun v => asMp v fun id => xv k A fun u => asI u fun j a => T.getK id σ.heap fun ob => asMap ob fun es => findK a j es K (K z)
def qExt (i : Nat) (x : X) : HQ := fun A _ K => xv x A fun v => asTu v fun vs => dropK i vs fun l => headK l K
def qLenS (x : X) : HQ := fun A _ K => xv x A fun v => asSl v (K (.i .i64 (.ofNat 0))) fun _ _ n _ => K (.i .i64 (.ofNat n))
def qLenM (x : X) : HQ := fun A σ K => xv x A fun v => asMp v fun id => T.getK id σ.heap fun ob => asMap ob fun es => fNat (lenK es) fun n => K (.i .i64 (.ofNat n))
def gMin : G := fun k a b K => K (.i k (.ofNat (bif Nat.blt b a then b else a)))
def gMax : G := fun k a b K => K (.i k (.ofNat (bif Nat.blt a b then b else a)))

/-! ### What makes a new block -/
inductive Mk where
  | ptr | slice (len : Nat) | map | chan
def Mk.val (id : Pa) (m : Mk) : V := Mk.casesOn (motive := fun _ => V) m (.p id 0) (fun n => .sl id 0 n n) (.mp id) (.ch id)
abbrev HA := Fr → (AO → Mk → Bool) → Bool
def aMk (sz : Nat) (cs : List V) : HA := fun _ K => K (.cells sz cs) .ptr
def aBox (n : Nat) (x : X) : HA := fun A K => xv x A fun v => cellsK v fun cs => yes (Nat.beq (lenK cs) n) (K (.cells n cs) .ptr)
def aBsl (sz len : Nat) (z : List V) (ps : List (Nat × Nat × X)) : HA := fun A K => repK z len fun l => fillK ps A l fun l => K (.cells sz l) (.slice len)
def aMap : HA := fun _ K => K (.map []) .map
def aChan (x : X) : HA := fun A K => xv x A fun v => asN v fun _ n => yes (Nat.ble n 1000) (K (.chan n []) .chan)
def aMks (sz : Nat) (z : List V) (l c : X) : HA := fun A K => xv l A fun v => asN v fun _ l => xv c A fun u => asN u fun _ c => yes (Nat.beq l c) (yes (Nat.ble c 10000) (repK z c fun cs => K (.cells sz cs) (.slice c)))

/-! ### What turns the heap -/
abbrev CallF := FuncId → List V → St → (V → St → Bool) → Bool
abbrev HM := CallF → Fr → St → (V → St → Bool) → Bool
def St.put (σ : St) (id : Pa) (o : Option AO) (K : St → Bool) : Bool := T.setF id σ.heap o fun h => K ⟨h, σ.next⟩
def St.new (σ : St) (o : AO) (K : Pa → St → Bool) : Bool := T.setF σ.next σ.heap (some o) fun h => σ.next.succF fun n => K σ.next ⟨h, n⟩
def stN (σ : St) (id : Pa) (off : Nat) (vs : List V) (K : St → Bool) : Bool :=
  T.getK id σ.heap fun ob => asCells ob fun sz cs => overAtK vs off cs fun cs => σ.put id (some (.cells sz cs)) K
def mSt (n : Nat) (x v : X) : HM := fun _ A σ K => xv x A fun a => asP a fun id o => xv v A fun v => cellsK v fun cs => yes (Nat.beq (lenK cs) n) (stN σ id o cs fun σ => K (.tu []) σ)
def setKey (a : Int) (k : IntKind) (v : V) (es : List (V × V)) : (List (V × V) → Bool) → Bool :=
  List.rec (motive := fun _ => (List (V × V) → Bool) → Bool) (fun K => K [(.i k a, v)])
    (fun e r ih K => asI e.1 fun j b => yes (kBeq k j) (ife (iBeq a b) (K ((.i k a, v) :: r)) (ih fun r => K (e :: r)))) es
def mPut (m k v : X) : HM := fun _ A σ K => xv m A fun a => asMp a fun id => xv k A fun u => asI u fun j n => xv v A fun v => T.getK id σ.heap fun ob => asMap ob fun es =>
  setKey n j v es fun es => σ.put id (some (.map es)) fun σ => K (.tu []) σ
def mFrz (x : X) : HM := fun _ A σ K => xv x A fun v => asSl v false fun id o n c => T.getK id σ.heap fun ob => asCells ob fun _ _ => K (.sl id o n c) σ
def app2 (σ : St) (sz : Nat) (s : V) (new : List V) (n : Nat) (K : V → St → Bool) : Bool := asSl s
  (ife (Nat.beq n 0) (K .ns σ) (yes (Nat.ble n 10000) (σ.new (.cells sz new) fun id σ => K (.sl id 0 n n) σ)))
  fun id o len cap => fNat (len + n) fun m => ife (Nat.ble m cap) (stN σ id (o + len * sz) new fun σ => K (.sl id o m cap) σ)
    (yes (Nat.ble m 10000) (T.getK id σ.heap fun ob => asCells ob fun sz' cs => yes (Nat.beq sz sz') (dropK o cs fun l => takeK (len * sz) l fun l => appK l new fun cs =>
      σ.put id none fun σ => σ.new (.cells sz cs) fun id σ => K (.sl id 0 m m) σ)))
def mApp (sz : Nat) (s x : X) : HM := fun _ A σ K => xv s A fun s => xv x A fun v => asSl v (app2 σ sz s [] 0 K)
  fun id o n _ => T.getK id σ.heap fun ob => asCells ob fun _ cs => dropK o cs fun l => takeK (n * sz) l fun new => app2 σ sz s new n K
def mClr (z : List V) (x : X) : HM := fun _ A σ K => xv x A fun v => asSl v (K (.tu []) σ) fun id o n _ => ife (Nat.beq n 0) (K (.tu []) σ) (repK z n fun l => stN σ id o l fun σ => K (.tu []) σ)
def mCall (f : FuncId) (xs : List X) : HM := fun call A σ K => xvs xs A fun vs => call f vs σ K
def mCallv (x : X) (xs : List X) : HM := fun call A σ K => xv x A fun v => asF v fun f cs => xvs xs A fun vs => appK vs cs fun vs => call f vs σ K
/-- Which function a method is, by its receiver's type: for pointers' methods alone. -/
def methOf (P : Program) (t : TypeId) (name : String) : Option FuncId :=
  match P.info? t with
  | none => none
  | some i => match i.methods.find? (·.name == name), P.underlying t with
    | some m, some (.pointer _) => match m.path.toList, m.func with
      | [], some (f, true) => some f
      | _, _ => none
    | _, _ => none
def mInv (P : Program) (name : String) (x : X) (xs : List X) : HM := fun call A σ K => xv x A fun v => asFc v fun t u => asP u fun id o => xvs xs A fun vs =>
  Option.casesOn (motive := fun _ => Bool) (methOf P t name) false fun f => call f (.p id o :: vs) σ K
def mSel (send : Option X) (z : V) (c : X) : HM := fun _ A σ K => xv c A fun v => asCh v fun id => T.getK id σ.heap fun ob => asChan ob fun cap buf =>
  Option.casesOn (motive := fun _ => Bool) send
    (List.casesOn (motive := fun _ => Bool) buf (K (.tu [.i .i64 (.negSucc 0), .b false, z]) σ) fun v buf => σ.put id (some (.chan cap buf)) fun σ => K (.tu [.i .i64 (.ofNat 0), .b true, v]) σ)
    (fun x => xv x A fun v => yes (Nat.blt (lenK buf) cap) (appK buf [v] fun buf => σ.put id (some (.chan cap buf)) fun σ => K (.tu [.i .i64 (.ofNat 0), .b false]) σ))

/-! ### The code, made ready -/
inductive H where
  /-- 'rd': it looks into the heap. -/
  | q (rd : Bool) (f : HQ)
  | a (f : HA)
  | m (f : HM)
def cV : Value → Option V
  | .bool b => some (.b b)
  | .int k n => some (.i k n)
  | .string s => some (.s s)
  | .pointer none => some .np
  | .slice none 0 0 => some .ns
  | .map none => some .nm
  | .chan none => some .nc
  | .nilFunc => some .nf
  | .nilIface => some .ni
  | _ => none
def cVs : List Value → Option (List V)
  | [] => some []
  | x :: xs => match cV x with
    | some v => match cVs xs with
      | some vs => some (v :: vs)
      | none => none
    | none => none
def cX : Operand → Option X
  | .tmp t => some (.t (pa t))
  | .const v => match cV v with
    | some v => some (.c v)
    | none => none
  | .func f => some (.c (.f f []))
  | .global _ => none
def cXs : List Operand → Option (List X)
  | [] => some []
  | x :: xs => match cX x with
    | some v => match cXs xs with
      | some vs => some (v :: vs)
      | none => none
    | none => none
def cXo : Option Operand → Option (Option X)
  | none => some none
  | some x => match cX x with
    | some v => some (some v)
    | none => none

section
variable (P : Program)
def isAggB (t : TypeId) : Bool := match P.underlying t with | some (.struct _) | some (.array ..) => true | _ => false
/-- The cells of a type's zero value: as many as its size. -/
def zeroL (t : TypeId) : Option (List V) :=
  match P.info? t with
  | some i => match i.zero with
    | some v => bif Nat.beq v.cells.toList.length i.size then cVs v.cells.toList else none
    | none => none
  | none => none
/-- A zero value of one cell. -/
def zero1 (t : TypeId) : Option V :=
  match P.info? t with
  | some i => match i.zero with
    | some v => cV v
    | none => none
  | none => none
/-- A zero value of several cells. -/
def zeroAg (t : TypeId) : Option (List V) :=
  match P.info? t with
  | some i => match i.zero with
    | some (.agg cs) => cVs cs.toList
    | _ => none
  | none => none
def isInt (t : TypeId) : Bool := match P.underlying t with | some (.int _) => true | _ => false
def isConst : Operand → Bool
  | .const _ => true
  | _ => false
def cParts (place : Nat → Option (Nat × Nat)) : List (Nat × Operand) → Option (List (Nat × Nat × X))
  | [] => some []
  | (i, x) :: r => match place i, cX x with
    | some (off, size), some x => match cParts place r with
      | some ps => some ((off, size, x) :: ps)
      | none => none
    | _, _ => none
/-- '==' (or '!='), by the type. -/
def cEqs (neg : Bool) (t : TypeId) (cst : Bool) (x y : X) : Option HQ :=
  match P.underlying t with
  | some (.int _) => some (qCmp (bif neg then cNe else cEq) x y)
  | some .bool => some (qEqB neg x y)
  | some .string => some (qEqS neg x y)
  | some (.pointer _) => some (qEqN neg 1 x y)
  | some (.slice _) => some (qEqN neg 2 x y)
  | some (.interface _) => bif cst then some (qEqN neg 3 x y) else none
  | _ => none
def cBin (op : BinOp) (t : TypeId) (cst : Bool) (x y : X) : Option HQ :=
  match op with
  | .add => some (qInt gAdd x y) | .sub => some (qInt gSub x y) | .mul => some (qInt gMul x y) | .quo => some (qInt gQuo x y) | .rem => some (qInt gRem x y)
  | .and => some (qInt gAnd x y) | .or => some (qInt gOr x y) | .xor => some (qInt gXor x y) | .shl => some (qSh gShl x y) | .shr => some (qSh gShr x y)
  | .lss => some (qCmp cLt x y) | .leq => some (qCmp cLe x y) | .gtr => some (qCmp cGt x y) | .geq => some (qCmp cGe x y)
  | .eql => cEqs P false t cst x y
  | .neq => cEqs P true t cst x y
  | _ => none
def cConv (s d : TypeId) (x : X) : Option H :=
  match P.underlying s, P.underlying d with
  | some (.int _), some (.int k) => some (.q false (qCint k x))
  | some (.slice e), some .string => match P.underlying e with
    | some (.int .u8) => bif Nat.beq (P.cellsOf e) 1 then some (.q true (qCstr x)) else none
    | _ => none
  | some (.slice _), some (.slice e) => match P.underlying e with
    | some (.int .u8) => bif Nat.beq s d then some (.m (mFrz x)) else none
    | _ => none
  | _, _ => none
def cBuiltin (b : Builtin) (xs : List X) (ts : List TypeId) : Option H :=
  match b, xs, ts with
  | .len, [x], [t] => match P.underlying t with
    | some (.slice _) => some (.q false (qLenS x))
    | some (.map _ _) => some (.q true (qLenM x))
    | _ => none
  | .min, [x, y], _ => some (.q false (qInt gMin x y))
  | .max, [x, y], _ => some (.q false (qInt gMax x y))
  | .append, [s, x], [t, u] => match P.underlying t, P.underlying u with
    | some (.slice e), some (.slice _) => bif Nat.ble (P.bytesOf e) 1000 && Nat.blt 0 (P.cellsOf e) && (zeroL P e).isSome then some (.m (mApp (P.cellsOf e) s x)) else none
    | _, _ => none
  | .clear, [x], [t] => match P.underlying t with
    | some (.slice e) => match zeroL P e with
      | some z => bif Nat.blt 0 (P.cellsOf e) then some (.m (mClr z x)) else none
      | none => none
    | _ => none
  | _, _, _ => none
def cCall (c : Call) (xs : List X) : Option H :=
  match c.callee with
  | .value f => match f with
    | .func f => some (.m (mCall f xs))
    | f => match cX f with
      | some x => some (.m (mCallv x xs))
      | none => none
  | .invoke r name => match cX r with
    | some x => some (.m (mInv P name x xs))
    | none => none
  | .builtin b => cBuiltin P b xs c.argTypes.toList
def cI (o : Op) : Option H :=
  match o with
  | .move x | .assign x => match cX x with
    | some x => some (.q false (qMv x))
    | none => none
  | .pick c a b => match cX c, cX a, cX b with
    | some c, some a, some b => some (.q false (qPick c a b))
    | _, _, _ => none
  | .build t parts => match P.underlying t with
    | some (.struct fs) => match zeroL P t, cParts (fun i => match fs.toList[i]? with | some f => some (f.offset, P.cellsOf f.type) | none => none) parts.toList with
      | some z, some ps => bif fs.toList.all fun f => (P.info? f.type).isSome then some (.q false (qBuild z ps)) else none
      | _, _ => none
    | _ => none
  | .load t x => match cX x with
    | some x => bif isAggB P t then some (.q true (qLdn (P.cellsOf t) x)) else bif (P.underlying t).isSome then some (.q true (qLd1 x)) else none
    | none => none
  | .nilCheck x => match cX x with
    | some x => some (.q false (qNil x))
    | none => none
  | .binOp op t x y _ => match cX x, cX y with
    | some a, some b => match cBin P op t (isConst x || isConst y) a b with
      | some q => some (.q false q)
      | none => none
    | _, _ => none
  | .unOp op _ x => match op, cX x with
    | .not, some x => some (.q false (qNot x))
    | _, _ => none
  | .convert s d x => match cX x with
    | some x => cConv P s d x
    | none => none
  | .makeInterface t x => match cX x, P.underlying t with
    | some _, some (.interface _) => none
    | some x, some _ => some (.q false (qFc t x))
    | _, _ => none
  | .makeFunc fn first captured => match fn, first.toList, cXs captured.toList with
    | .func f, [], some xs => some (.q false (qFn f xs))
    | _, _, _ => none
  | .slice t x lo hi mx => match P.underlying t, cX x, cXo lo, cXo hi, cXo mx with
    | some (.slice e), some x, some lo, some hi, some mx => bif (mx.isNone || hi.isSome) && Nat.blt 0 (P.cellsOf e) then match lo with
        | none => some (.q false (qSlice x hi mx))
        | some lo => some (.q true (qSliceR (P.cellsOf e) x lo hi mx))
      else none
    | _, _, _, _, _ => none
  | .fieldAddr s x f => match P.underlying s, cX x with
    | some (.struct fs), some x => match fs.toList[f]? with
      | some fd => bif Nat.beq (P.cellsOf fd.type) 0 then none else some (.q false (qFa fd.offset x))
      | none => none
    | _, _ => none
  | .indexAddr t x i => match P.underlying t, cX x, cX i with
    | some (.slice e), some x, some i => bif Nat.blt 0 (P.cellsOf e) then some (.q false (qIa (P.cellsOf e) x i)) else none
    | _, _, _ => none
  | .lookup t m k ok => match P.underlying t, cX m, cX k with
    | some (.map kt et), some m, some k => match ok, isInt P kt, zero1 P et with
      | false, true, some z => some (.q true (qLook z m k))
      | _, _, _ => none
    | _, _, _ => none
  | .extract x i => match cX x with
    | some x => some (.q false (qExt i x))
    | none => none
  | .alloc t => match zeroL P t with
    | some z => some (.a (aMk (P.cellsOf t) z))
    | none => none
  | .box t x => match cX x with
    | some x => some (.a (aBox (P.cellsOf t) x))
    | none => none
  | .buildSlice t len parts => match P.underlying t with
    | some (.slice e) => match zeroL P e, cParts (fun i => some (i * P.cellsOf e, P.cellsOf e)) parts.toList with
      | some z, some ps => bif Nat.ble (len * P.cellsOf e) 1000 && Nat.blt 0 (P.cellsOf e) then some (.a (aBsl (P.cellsOf e) len z ps)) else none
      | _, _ => none
    | _ => none
  | .makeMap t r => match r, P.underlying t with
    | none, some (.map _ _) => some (.a aMap)
    | _, _ => none
  | .makeChan t n => match P.underlying t, cX n with
    | some (.chan _ e), some n => bif Nat.ble (P.bytesOf e) 1000 && (P.info? e).isSome then some (.a (aChan n)) else none
    | _, _ => none
  | .makeSlice t l c => match P.underlying t, cX l, cX c with
    | some (.slice e), some l, some c => match zeroL P e with
      | some z => bif Nat.ble (P.bytesOf e) 1000 && Nat.blt 0 (P.cellsOf e) then some (.a (aMks (P.cellsOf e) z l c)) else none
      | none => none
    | _, _, _ => none
  | .store t x v => match cX x, cX v with
    | some x, some v => bif (P.info? t).isSome then some (.m (mSt (P.cellsOf t) x v)) else none
    | _, _ => none
  | .mapUpdate t m k v | .insert t m k v => match P.underlying t, cX m, cX k, cX v with
    | some (.map kt _), some m, some k, some v => bif isInt P kt then some (.m (mPut m k v)) else none
    | _, _, _, _ => none
  | .call c => match cXs c.args.toList with
    | some xs => cCall P c xs
    | none => none
  | .select cs b => match cs.toList, b with
    | [c], false => match cX c.chan, cXo c.send, zeroAg P c.elem with
      | some x, some s, some z => some (.m (mSel s (.ag z) x))
      | _, _, _ => none
    | _, _ => none
  | _ => none
end

abbrev Step := CallF → Fr → St → (Fr → St → Bool) → Bool
def putF (dst : Option Pa) (v : V) (A : Fr) (K : Fr → Bool) : Bool := Option.casesOn (motive := fun _ => Bool) dst (K A) fun d => T.setF d A (some v) K
def sQ (f : HQ) (dst : Option Pa) : Step := fun _ A σ K => f A σ fun v => putF dst v A fun A => K A σ
def sA (f : HA) (dst : Option Pa) : Step := fun _ A σ K => f A fun o mk => σ.new o fun id σ => putF dst (mk.val id) A fun A => K A σ
def sM (f : HM) (dst : Option Pa) : Step := fun call A σ K => f call A σ fun v σ => putF dst v A fun A => K A σ
/-- A step that is only made where a temporary holds a certain bool. -/
def sG (g : Pa) (w : Bool) (dst : Option Pa) (s : Step) : Step := fun call A σ K => T.getK g A fun v => asB v fun b => ife (xor b w) (putF dst (.tu []) A fun A => K A σ) (s call A σ K)
def sNil : Step := fun _ A σ K => K A σ
def sCons (s r : Step) : Step := fun call A σ K => s call A σ fun A σ => r call A σ K
structure CI where
  guard : Option (Pa × Bool)
  dst : Option Pa
  h : H
def CI.step (c : CI) : Step :=
  let s := match c.h with
    | .q _ f => sQ f c.dst
    | .a f => sA f c.dst
    | .m f => sM f c.dst
  match c.guard with
  | none => s
  | some (g, w) => sG g w c.dst s
def cDst (nt : Nat) : Option Tmp → Option (Option Pa)
  | none => some none
  | some d => bif Nat.blt d nt then some (some (pa d)) else none
def cGuard (ops : List Oper) : Option (Nat × Bool) → Option (Option (Pa × Bool))
  | none => some none
  | some (j, b) => match ops[j]? with
    | some o => match o.dst with
      | some d => some (some (pa d, b))
      | none => none
    | none => none
section
variable (P : Program)
def cOp (nt : Nat) (ops : List Oper) (o : Oper) : Option CI :=
  match cI P o.op, cDst nt o.dst, cGuard ops o.guard with
  | some i, some d, some g => some ⟨g, d, i⟩
  | _, _, _ => none
def cOps (nt : Nat) (ops : List Oper) : List Oper → Option (List CI)
  | [] => some []
  | o :: r => match cOp P nt ops o with
    | some c => match cOps nt ops r with
      | some cs => some (c :: cs)
      | none => none
    | none => none
def stepsOf : List CI → Step
  | [] => sNil
  | c :: cs => sCons c.step (stepsOf cs)

/-! ### A region whose operations may run in several orders: one order is run, and what else could be is looked at -/
abbrev DStep := CallF → Fr → St → List (Nat × St) → (Fr → St → List (Nat × St) → Bool) → Bool
def bit (m i : Nat) : Bool := Nat.testBit m i
/-- The same behind each turn that need not stand before it. -/
def backK (a : Nat) (f : St → Bool) (l : List (Nat × St)) : Nat → Bool :=
  List.rec (motive := fun _ => Nat → Bool) (fun _ => true) (fun e _ ih k => ife (bit a k) true (yes (f e.2) (ih e.1))) l
/-- One that looks into the heap: as it was behind the last turn, and behind those before that which may stand behind it. -/
def dR (f : HQ) (dst : Option Pa) (a : Nat) : DStep := fun _ A σ hs K => List.casesOn (motive := fun _ => Bool) hs false fun e r => f A e.2 fun v => yes (backK a (fun τ => f A τ fun u => V.beq 300 v u) r e.1) (putF dst v A fun A => K A σ hs)
def dQ (f : HQ) (dst : Option Pa) : DStep := fun _ A σ hs K => f A σ fun v => putF dst v A fun A => K A σ hs
def dA (f : HA) (dst : Option Pa) : DStep := fun _ A σ hs K => f A fun o mk => σ.new o fun id σ => putF dst (mk.val id) A fun A => K A σ hs
def dM (f : HM) (dst : Option Pa) (i : Nat) : DStep := fun call A σ hs K => f call A σ fun v σ => putF dst v A fun A => K A σ ((i, σ) :: hs)
def dG (g : Pa) (w : Bool) (dst : Option Pa) (s : DStep) : DStep := fun call A σ hs K => T.getK g A fun v => asB v fun b => ife (xor b w) (putF dst (.tu []) A fun A => K A σ hs) (s call A σ hs K)
def dGm (g : Pa) (w : Bool) (dst : Option Pa) (i : Nat) (s : DStep) : DStep := fun call A σ hs K => T.getK g A fun v => asB v fun b => ife (xor b w) (putF dst (.tu []) A fun A => K A σ ((i, σ) :: hs)) (s call A σ hs K)
def CI.dstep (c : CI) (i a : Nat) : DStep :=
  let s := match c.h with
    | .q rd f => bif rd then dR f c.dst a else dQ f c.dst
    | .a f => dA f c.dst
    | .m f => dM f c.dst i
  match c.guard with
  | none => s
  | some (g, w) => match c.h with
    | .m _ => dGm g w c.dst i s
    | _ => dG g w c.dst s
def isM (c : CI) : Bool := match c.h with | .m _ => true | _ => false
/-- The order that is run: each turn of the heap as early as it may be. -/
def ordOf (n : Nat) (anc : List Nat) : List Nat → Nat → List Nat
  | [], d => (List.range n).filter fun i => !(bit d i)
  | m :: ms, d => ((List.range n).filter fun i => bit (anc.getD m 0) i && !(bit d i)) ++ m :: ordOf n anc ms (d ||| anc.getD m 0 ||| 2 ^ m)
/-- The order's steps: each behind all that it hangs on, a turn of the heap behind just these. -/
def dSeq (cs : List CI) (anc : List Nat) : List Nat → Nat → Option (List (Nat × Nat × CI))
  | [], d => bif Nat.beq d (2 ^ cs.length - 1) then some [] else none
  | i :: r, d => match cs[i]?, anc[i]? with
    | some c, some a => bif !(bit d i) && Nat.beq (Nat.land a d) a && (!(isM c) || Nat.beq a d) then
        match dSeq cs anc r (d ||| 2 ^ i) with
        | some l => some ((i, a, c) :: l)
        | none => none
      else none
    | _, _ => none
/-- What each hangs on, is what its edges say. -/
def ancOk (anc : List Nat) : List Oper → Nat → Bool
  | [], _ => true
  | o :: r, i => Nat.beq (anc.getD i 0) (o.after.toList.foldl (fun s e => bif Region.binds .any e then Nat.lor (Nat.lor s (2 ^ e.on)) (anc.getD e.on 0) else s) 0) && ancOk anc r (i + 1)
/-- No two write one temporary; who looks at it and who writes it stand in a fixed order. -/
def drawOk (ops : Array Oper) (anc : List Nat) : Bool :=
  (ops.toList.zipIdx.all fun (o, i) => ops.toList.zipIdx.all fun (q, j) => Nat.beq i j || (match q.dst with
    | some d => (match o.dst with | some e => !(Nat.beq d e) | none => true) && (!((o.looksAt ops).contains d) || bit (anc.getD i 0) j || bit (anc.getD j 0) i)
    | none => true)) && ancOk anc ops.toList 0
def dNil : DStep := fun _ A σ hs K => K A σ hs
def dCons (s r : DStep) : DStep := fun call A σ hs K => s call A σ hs fun A σ hs => r call A σ hs K
def dstepsOf : List (Nat × Nat × CI) → DStep
  | [] => dNil
  | (i, a, c) :: cs => dCons (c.dstep i a) (dstepsOf cs)
def dRun (n : Nat) (s : DStep) : Step := fun call A σ K => s call A σ [(n, σ)] fun A σ _ => K A σ
def cDraw (ops : Array Oper) (cs : List CI) : Option Step :=
  let anc := (Region.before ops).toList
  let mus := (List.range cs.length).filter fun i => match cs[i]? with | some c => isM c | none => false
  bif drawOk ops anc then match dSeq cs anc (ordOf cs.length anc mus 0) 0 with
    | some l => some (dRun cs.length (dstepsOf l))
    | none => none
  else none

/-! ### Code: its ways out are three: at its end, to a block's end, a return -/
abbrev Clo := CallF → Fr → St → (Fr → St → Bool) → (Nat → Fr → St → Bool) → (Fr → St → Bool) → Bool
def hSkip : Clo := fun _ A σ kn _ _ => kn A σ
def hRet : Clo := fun _ A σ _ _ kr => kr A σ
def hExit (id : Nat) : Clo := fun _ A σ _ kx _ => kx id A σ
def hSeq (x y : Clo) : Clo := fun call A σ kn kx kr => x call A σ (fun A σ => y call A σ kn kx kr) kx kr
def hCond (c : X) (x y : Clo) : Clo := fun call A σ kn kx kr => xv c A fun v => asB v fun b => ife b (x call A σ kn kx kr) (y call A σ kn kx kr)
def hBlock (id : Nat) (x : Clo) : Clo := fun call A σ kn kx kr => x call A σ kn (fun j A σ => ife (Nat.beq j id) (kn A σ) (kx j A σ)) kr
def loopF (x : Clo) (n : Nat) : Clo :=
  Nat.rec (motive := fun _ => Clo) (fun _ _ _ _ _ _ => false) (fun _ ih call A σ kn kx kr => x call A σ (fun A σ => ih call A σ kn kx kr) kx kr) n
def hLoop (x : Clo) : Clo := loopF x 3000
def hReg (s : Step) : Clo := fun call A σ kn _ _ => s call A σ kn
def cCode (nt : Nat) : Nat → Code → Option Clo
  | 0, _ => none
  | n + 1, c => match c with
    | .skip | .label _ => some hSkip
    | .ret => some hRet
    | .exit id => some (hExit id)
    | .seq x y => match cCode nt n x, cCode nt n y with
      | some x, some y => some (hSeq x y)
      | _, _ => none
    | .cond c x y => match cX c, cCode nt n x, cCode nt n y with
      | some c, some x, some y => some (hCond c x y)
      | _, _, _ => none
    | .block id x => match cCode nt n x with
      | some x => some (hBlock id x)
      | none => none
    | .loop x => match cCode nt n x with
      | some x => some (hLoop x)
      | none => none
    | .scope x => cCode nt n x
    | .region _ ops draw => match cOps P nt ops.toList ops.toList with
      | some cs => bif draw then match cDraw ops cs with
          | some s => some (hReg s)
          | none => none
        else some (hReg (stepsOf cs))
      | none => none
    | _ => none

/-! ### Functions -/
abbrev HR := Fr → St → (List V → Bool) → Bool
def rNil : HR := fun _ _ K => K []
def rTmp (p : Pa) (r : HR) : HR := fun A σ K => T.getK p A fun v => r A σ fun vs => K (v :: vs)
def rCell (n : Nat) (p : Pa) (r : HR) : HR := fun A σ K => qLdn n (.t p) A σ fun v => r A σ fun vs => K (v :: vs)
def cRes : List ResultVar → Option HR
  | [] => some rNil
  | .tmp t :: r => match cRes r with
    | some h => some (rTmp (pa t) h)
    | none => none
  | .cell t ty :: r => match cRes r with
    | some h => bif isAggB P ty then some (rCell (P.cellsOf ty) (pa t) h) else none
    | none => none
structure CF where
  nt : Nat
  np : Nat
  body : Clo
  res : HR
def cFn (f : FuncId) : Option CF :=
  match P.funcs.toList[f]? with
  | some fn => match fn.body with
    | some b => match cCode P fn.ntmps 200 b, cRes P fn.results.toList with
      | some c, some r => some ⟨fn.ntmps, fn.params.size, c, r⟩
      | _, _ => none
    | none => none
  | none => none
end
def oneV (vs : List V) : V := List.casesOn (motive := fun _ => V) vs (.tu []) fun v r => List.casesOn (motive := fun _ => V) r v fun _ _ => .tu vs
def argsK (vs : List V) : Pa → Fr → (Fr → Bool) → Bool :=
  List.rec (motive := fun _ => Pa → Fr → (Fr → Bool) → Bool) (fun _ A K => K A) (fun v _ ih p A K => T.setF p A (some v) fun A => p.succF fun p => ih p A K) vs
/-- A call of the program's function: by a function's own code, laid ready. -/
def evFn (cf : FuncId → Option CF) (n : Nat) : CallF :=
  Nat.rec (motive := fun _ => CallF) (fun _ _ _ _ => false)
    (fun _ ih f args σ K => Option.casesOn (motive := fun _ => Bool) (cf f) false fun F => yes (Nat.ble (lenK args) F.nt) (argsK args .z .e fun A =>
      F.body ih A σ (fun A σ => F.res A σ fun vs => K (oneV vs) σ) (fun _ _ _ => false) (fun A σ => F.res A σ fun vs => K (oneV vs) σ))) n
end Go.Ev
end

