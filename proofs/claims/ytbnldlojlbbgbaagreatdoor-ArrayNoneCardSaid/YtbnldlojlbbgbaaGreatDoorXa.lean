/- Part of the proof. -/

import Derived.Control
import Derived.Calls
import Derived.Laws.Sem
import Derived.Below
import Derived.MapKept
set_option linter.unusedVariables false
set_option linter.unusedSimpArgs false
namespace Go.X
noncomputable section
set_option linter.unusedVariables false

/-- A binary tree with values at its ends. -/
inductive T (α : Type) where
  | e
  | v (x : α)
  | n (a b : T α)

section
variable {α β : Type}

/-! Twins that can be run (for trials alone). -/
def T.brC : T α → Bool → T α
  | .n a _, false => a
  | .n _ b, true => b
  | _, _ => .e
def T.put1C : T α → Bool → T α → T α
  | .n _ b, false, x => .n x b
  | .n a _, true, x => .n a x
  | _, false, x => .n x .e
  | _, true, x => .n .e x
def T.forceC (t : T α) (k : T α → β) : β := k t
def T.valC : T α → Option α
  | .v x => some x
  | _ => none
def T.atC : List Bool → T α → T α
  | [], t => t
  | i :: p, t => T.atC p (t.brC i)
def T.setC : List Bool → T α → T α → T α
  | [], _, x => x
  | i :: p, t, x => t.put1C i (T.setC p (t.brC i) x)
def T.setKC (p : List Bool) (t x : T α) (k : T α → β) : β := k (T.setC p t x)

/-- The left (false) or the right branch. -/
def T.br (t : T α) : Bool → T α :=
  T.rec (motive := fun _ => Bool → T α) (fun _ => .e) (fun _ _ => .e) (fun a b _ _ i => @Bool.rec (fun _ => T α) a b i) t

def T.put1 (t : T α) : Bool → T α → T α :=
  T.rec (motive := fun _ => Bool → T α → T α)
    (fun i x => @Bool.rec (fun _ => T α) (.n x .e) (.n .e x) i)
    (fun _ i x => @Bool.rec (fun _ => T α) (.n x .e) (.n .e x) i)
    (fun a b _ _ i x => @Bool.rec (fun _ => T α) (.n x b) (.n a x) i) t

/-- A tree's root is reckoned before it goes on. -/
def T.force (t : T α) : (T α → β) → β :=
  T.rec (motive := fun _ => (T α → β) → β) (fun k => k .e) (fun x k => k (.v x)) (fun a b _ _ k => k (.n a b)) t

theorem T.force_eq (t : T α) (k : T α → β) : t.force k = k t := by cases t <;> rfl

def T.val (t : T α) : Option α := T.rec (motive := fun _ => Option α) none (fun x => some x) (fun _ _ _ _ => none) t

def T.at (p : List Bool) : T α → T α :=
  List.rec (motive := fun _ => T α → T α) (fun t => t) (fun i _ ih t => ih (t.br i)) p

/-- Each node reckoned at once. -/
def T.setK (p : List Bool) : T α → T α → (T α → β) → β :=
  List.rec (motive := fun _ => T α → T α → (T α → β) → β) (fun t x k => k x) (fun i _ ih t x k => ih (t.br i) x (fun y => (t.put1 i y).force k)) p

def T.set (p : List Bool) (t x : T α) : T α := T.setK p t x fun y => y

theorem T.setK_cons (i : Bool) (p : List Bool) (t x : T α) (k : T α → β) : T.setK (i :: p) t x k = T.setK p (t.br i) x (fun y => (t.put1 i y).force k) := rfl

def T.setS : List Bool → T α → T α → T α
  | [], _, x => x
  | i :: p, t, x => t.put1 i (T.setS p (t.br i) x)
theorem T.setK_spec (p : List Bool) : ∀ (t x : T α) (k : T α → β), T.setK p t x k = k (T.setS p t x) := by
  induction p with
  | nil => intro t x k; rfl
  | cons i p ih => intro t x k; rw [T.setK_cons, ih, T.force_eq]; rfl
theorem T.set_spec (p : List Bool) (t x : T α) : T.set p t x = T.setS p t x := T.setK_spec p t x _
theorem T.setK_eq (p : List Bool) (t x : T α) (k : T α → β) : T.setK p t x k = k (T.set p t x) := by rw [T.setK_spec, T.set_spec]

theorem T.br_put1 (t x : T α) (i j : Bool) : (t.put1 i x).br j = if i = j then x else t.br j := by
  cases t <;> cases i <;> cases j <;> rfl

theorem T.at_cons (i : Bool) (p : List Bool) (t : T α) : T.at (i :: p) t = T.at p (t.br i) := rfl
theorem T.set_nil (t x : T α) : T.set [] t x = x := rfl
theorem T.set_cons (i : Bool) (p : List Bool) (t x : T α) : T.set (i :: p) t x = t.put1 i (T.set p (t.br i) x) := by
  rw [T.set_spec, T.set_spec]; rfl

theorem T.at_set_same (p : List Bool) : ∀ (t x : T α), T.at p (T.set p t x) = x := by
  induction p with
  | nil => intro t x; rfl
  | cons i p ih => intro t x; rw [T.set_cons, T.at_cons, T.br_put1, if_pos rfl]; exact ih _ _

theorem T.at_set_other : ∀ (p q : List Bool) (t x : T α), p.length = q.length → p ≠ q → T.at q (T.set p t x) = T.at q t
  | [], [], _, _, _, h => absurd rfl h
  | i :: p, j :: q, t, x, hl, h => by
    rw [T.set_cons, T.at_cons, T.at_cons, T.br_put1]
    by_cases hij : i = j
    · subst hij
      rw [if_pos rfl]
      exact T.at_set_other p q _ _ (by simpa using hl) (fun e => h (by rw [e]))
    · rw [if_neg hij]
  | [], _ :: _, _, _, hl, _ => by simp at hl
  | _ :: _, [], _, _, hl, _ => by simp at hl

def pathC : Nat → Nat → List Bool
  | 0, _ => []
  | d + 1, n => (n % 2 == 1) :: pathC d (n / 2)
/-- The d lowest bits of a number. -/
def path (d : Nat) : Nat → List Bool :=
  Nat.rec (motive := fun _ => Nat → List Bool) (fun _ => []) (fun _ ih n => Nat.beq (Nat.mod n 2) 1 :: ih (Nat.div n 2)) d

theorem path_succ (d n : Nat) : path (d + 1) n = Nat.beq (n % 2) 1 :: path d (n / 2) := rfl
theorem path_length : ∀ (d n : Nat), (path d n).length = d
  | 0, _ => rfl
  | d + 1, n => by rw [path_succ, List.length_cons, path_length d]

theorem path_inj : ∀ (d m n : Nat), m < 2 ^ d → n < 2 ^ d → path d m = path d n → m = n
  | 0, m, n, hm, hn, _ => by simp at hm hn; omega
  | d + 1, m, n, hm, hn, h => by
    rw [path_succ, path_succ] at h
    injection h with h1 h2
    have := path_inj d (m / 2) (n / 2) (by rw [Nat.pow_succ] at hm; omega) (by rw [Nat.pow_succ] at hn; omega) h2
    have e : m % 2 = n % 2 := by
      have a := Nat.mod_lt m (show 0 < 2 by decide)
      have b := Nat.mod_lt n (show 0 < 2 by decide)
      rcases (show m % 2 = 0 ∨ m % 2 = 1 by omega) with hm | hm <;> rcases (show n % 2 = 0 ∨ n % 2 = 1 by omega) with hn | hn <;>
        rw [hm, hn] at h1 <;> first | exact absurd h1 (by decide) | rw [hm, hn]
    omega
end
end
end Go.X

/- Bytes as one number. -/
namespace Go.X
noncomputable section
set_option linter.unusedVariables false

def byteAt (x i : Nat) : Nat := x / 256 ^ i % 256
/-- The n bytes of a number, the lowest first. -/
def bytesOf (n x : Nat) : List Nat := (List.range n).map (byteAt x)
/-- The number with m bytes from o on replaced by those of y. -/
def splice (x o m y : Nat) : Nat := x % 256 ^ o + 256 ^ o * (y % 256 ^ m + 256 ^ m * (x / 256 ^ (o + m)))

theorem pow_pos' (n : Nat) : 0 < 256 ^ n := Nat.pow_pos (by decide)
theorem byteAt_lt (x i : Nat) : byteAt x i < 256 := Nat.mod_lt _ (by decide)
theorem bytesOf_length (n x : Nat) : (bytesOf n x).length = n := by simp [bytesOf]
theorem bytesOf_get {n x i : Nat} (h : i < n) : (bytesOf n x)[i]? = some (byteAt x i) := by simp [bytesOf, h]
theorem bytesOf_get_none {n x i : Nat} (h : n ≤ i) : (bytesOf n x)[i]? = none := by simp [bytesOf, h]
theorem bytesOf_get_eq (n x i : Nat) : (bytesOf n x)[i]? = if i < n then some (byteAt x i) else none := by
  by_cases h : i < n
  · rw [bytesOf_get h, if_pos h]
  · rw [bytesOf_get_none (by omega), if_neg h]
theorem bytesOf_lt {n x b : Nat} (h : b ∈ bytesOf n x) : b < 256 := by
  simp only [bytesOf, List.mem_map] at h
  obtain ⟨i, _, rfl⟩ := h
  exact byteAt_lt _ _

theorem byteAt_div (x l i : Nat) : byteAt (x / 256 ^ l) i = byteAt x (l + i) := by
  simp only [byteAt, Nat.div_div_eq_div_mul, Nat.pow_add]

theorem byteAt_add {a b o i : Nat} (ha : a < 256 ^ o) : byteAt (a + 256 ^ o * b) i = if i < o then byteAt a i else byteAt b (i - o) := by
  by_cases h : i < o
  · rw [if_pos h]
    obtain ⟨k, rfl⟩ : ∃ k, o = i + (1 + k) := ⟨o - i - 1, by omega⟩
    have e : 256 ^ (i + (1 + k)) * b = 256 ^ i * (256 * (256 ^ k * b)) := by
      rw [Nat.pow_add, Nat.pow_add, Nat.pow_one]; simp only [Nat.mul_assoc]
    simp only [byteAt]
    rw [e, Nat.add_mul_div_left _ _ (pow_pos' i), Nat.add_mul_mod_self_left]
  · rw [if_neg h]
    obtain ⟨k, rfl⟩ : ∃ k, i = o + k := ⟨i - o, by omega⟩
    rw [Nat.add_sub_cancel_left, ← byteAt_div, Nat.add_mul_div_left _ _ (pow_pos' o), Nat.div_eq_of_lt ha, Nat.zero_add]

theorem byteAt_mod {x n i : Nat} (h : i < n) : byteAt (x % 256 ^ n) i = byteAt x i := by
  have e : x % 256 ^ n + 256 ^ n * (x / 256 ^ n) = x := Nat.mod_add_div _ _
  conv => rhs; rw [← e]
  rw [byteAt_add (Nat.mod_lt _ (pow_pos' n)), if_pos h]

theorem byteAt_mod_ge {x n i : Nat} (h : n ≤ i) : byteAt (x % 256 ^ n) i = 0 := by
  have : x % 256 ^ n < 256 ^ i := Nat.lt_of_lt_of_le (Nat.mod_lt _ (pow_pos' n)) (Nat.pow_le_pow_right (by decide) h)
  simp [byteAt, Nat.div_eq_of_lt this]

theorem bytesOf_mod (n x : Nat) : bytesOf n (x % 256 ^ n) = bytesOf n x := by
  refine List.ext_getElem? fun i => ?_
  rw [bytesOf_get_eq, bytesOf_get_eq]
  split
  · rename_i h; rw [byteAt_mod h]
  · rfl

theorem bytesOf_append (n m x y : Nat) : bytesOf (n + m) (x % 256 ^ n + 256 ^ n * y) = bytesOf n x ++ bytesOf m y := by
  refine List.ext_getElem? fun i => ?_
  rw [List.getElem?_append, bytesOf_length, bytesOf_get_eq, bytesOf_get_eq, bytesOf_get_eq, byteAt_add (Nat.mod_lt _ (pow_pos' n))]
  by_cases h : i < n
  · simp only [h, if_true, byteAt_mod h, show i < n + m by omega]
  · simp only [h, if_false]
    by_cases h' : i < n + m
    · simp [h', show i - n < m by omega]
    · simp [h', show ¬ i - n < m by omega]

theorem bytesOf_cut {n x l k : Nat} (h : l + k ≤ n) : ((bytesOf n x).drop l).take k = bytesOf k (x / 256 ^ l) := by
  refine List.ext_getElem? fun i => ?_
  rw [List.getElem?_take, List.getElem?_drop, bytesOf_get_eq, bytesOf_get_eq, byteAt_div]
  by_cases hi : i < k
  · simp [hi, show l + i < n by omega]
  · simp [hi]

theorem bytesOf_splice {n x o m y : Nat} (h : o + m ≤ n) :
    bytesOf n (splice x o m y) = (bytesOf n x).take o ++ bytesOf m y ++ (bytesOf n x).drop (o + m) := by
  refine List.ext_getElem? fun i => ?_
  have hb : y % 256 ^ m + 256 ^ m * (x / 256 ^ (o + m)) = y % 256 ^ m + 256 ^ m * (x / 256 ^ (o + m)) := rfl
  rw [bytesOf_get_eq, splice, byteAt_add (Nat.mod_lt _ (pow_pos' o)), byteAt_add (Nat.mod_lt _ (pow_pos' m))]
  rw [List.getElem?_append, List.getElem?_append]
  simp only [List.length_append, List.length_take, bytesOf_length, List.getElem?_take, List.getElem?_drop, bytesOf_get_eq, Nat.min_eq_left (show o ≤ n by omega)]
  by_cases h1 : i < o
  · simp [h1, show i < n by omega, show i < o + m by omega, byteAt_mod h1]
  · by_cases h2 : i < o + m
    · simp [h1, h2, show i < n by omega, show i - o < m by omega, byteAt_mod (show i - o < m by omega)]
    · by_cases h3 : i < n
      · simp [h1, h2, h3, show ¬ i - o < m by omega, byteAt_div, show o + m + (i - (o + m)) = i by omega, show o + m + (i - o - m) = i by omega]
      · simp [h1, h2, h3, show ¬ o + m + (i - (o + m)) < n by omega]

theorem splice_lt {n x o m y : Nat} (h : o + m ≤ n) (hx : x < 256 ^ n) : splice x o m y < 256 ^ n := by
  obtain ⟨k, rfl⟩ : ∃ k, n = o + m + k := ⟨n - (o + m), by omega⟩
  have h1 : x / 256 ^ (o + m) < 256 ^ k := by
    rw [Nat.div_lt_iff_lt_mul (pow_pos' _), Nat.mul_comm, ← Nat.pow_add]; exact hx
  have key : ∀ (p q a b : Nat), a < 256 ^ p → b < 256 ^ q → a + 256 ^ p * b < 256 ^ (p + q) := fun p q a b ha hb => by
    rw [Nat.pow_add]
    calc a + 256 ^ p * b < 256 ^ p + 256 ^ p * b := by omega
      _ = 256 ^ p * (b + 1) := by rw [Nat.mul_add, Nat.mul_one]; omega
      _ ≤ 256 ^ p * 256 ^ q := Nat.mul_le_mul_left _ hb
  rw [Nat.add_assoc]
  exact key o (m + k) _ _ (Nat.mod_lt _ (pow_pos' o)) (key m k _ _ (Nat.mod_lt _ (pow_pos' m)) h1)

theorem join_lt {n m x y : Nat} (hy : y < 256 ^ m) : x % 256 ^ n + 256 ^ n * y < 256 ^ (n + m) := by
  rw [Nat.pow_add]
  have hx := Nat.mod_lt x (pow_pos' n)
  calc x % 256 ^ n + 256 ^ n * y < 256 ^ n + 256 ^ n * y := by omega
    _ = 256 ^ n * (y + 1) := by rw [Nat.mul_add, Nat.mul_one]; omega
    _ ≤ 256 ^ n * 256 ^ m := Nat.mul_le_mul_left _ hy

theorem bytesOf_succ (n x : Nat) : bytesOf (n + 1) x = x % 256 :: bytesOf n (x / 256) := by
  refine List.ext_getElem? fun i => ?_
  cases i with
  | zero => rw [bytesOf_get (by omega)]; simp [byteAt]
  | succ i =>
    rw [bytesOf_get_eq, List.getElem?_cons_succ, bytesOf_get_eq]
    have e : byteAt (x / 256) i = byteAt x (i + 1) := by
      have := byteAt_div x 1 i
      rw [Nat.pow_one, Nat.add_comm] at this
      exact this
    rw [e]
    simp only [Nat.add_lt_add_iff_right]

theorem bytesOf_inj : ∀ (n x y : Nat), x < 256 ^ n → y < 256 ^ n → bytesOf n x = bytesOf n y → x = y
  | 0, x, y, hx, hy, _ => by simp at hx hy; omega
  | n + 1, x, y, hx, hy, h => by
    rw [bytesOf_succ, bytesOf_succ] at h
    injection h with h1 h2
    rw [Nat.pow_succ, Nat.mul_comm] at hx hy
    have := bytesOf_inj n (x / 256) (y / 256) (Nat.div_lt_of_lt_mul hx) (Nat.div_lt_of_lt_mul hy) h2
    have a := Nat.mod_add_div x 256
    have b := Nat.mod_add_div y 256
    rw [h1, this] at a
    omega

/-- The number of a list of bytes. -/
def natOf : List Nat → Nat
  | [] => 0
  | b :: l => b % 256 + 256 * natOf l

theorem natOf_lt : ∀ l : List Nat, natOf l < 256 ^ l.length
  | [] => by simp [natOf]
  | b :: l => by
    have h := natOf_lt l
    have hb := Nat.mod_lt b (show 0 < 256 by decide)
    simp only [natOf, List.length_cons, Nat.pow_succ]
    omega

theorem bytesOf_natOf : ∀ l : List Nat, (∀ b ∈ l, b < 256) → bytesOf l.length (natOf l) = l
  | [], _ => rfl
  | b :: l, h => by
    have hb : b < 256 := h b (List.mem_cons_self ..)
    rw [List.length_cons, bytesOf_succ, natOf]
    have e1 : (b % 256 + 256 * natOf l) % 256 = b := by omega
    have e2 : (b % 256 + 256 * natOf l) / 256 = natOf l := by omega
    rw [e1, e2, bytesOf_natOf l fun c hc => h c (List.mem_cons_of_mem _ hc)]

def strOf (n x : Nat) : ByteArray := ⟨((bytesOf n x).map fun b => UInt8.ofNat b).toArray⟩

theorem strOf_size (n x : Nat) : (strOf n x).size = n := by simp [strOf, ByteArray.size, bytesOf_length]

theorem strOf_data (n x : Nat) : (strOf n x).data.toList = (bytesOf n x).map fun b => UInt8.ofNat b := by simp [strOf]

def natOfStr (s : ByteArray) : Nat := natOf (s.data.toList.map UInt8.toNat)

theorem ByteArray.ext' {a b : ByteArray} (h : a.data = b.data) : a = b := by cases a; cases b; simp at h; rw [h]

theorem strOf_natOfStr (s : ByteArray) : strOf s.size (natOfStr s) = s := by
  have h := bytesOf_natOf (s.data.toList.map UInt8.toNat) (fun b hb => by
    simp only [List.mem_map] at hb
    obtain ⟨c, _, rfl⟩ := hb
    exact UInt8.toNat_lt c)
  have hl : (s.data.toList.map UInt8.toNat).length = s.size := by rw [List.length_map, Array.length_toList]; rfl
  rw [hl] at h
  refine ByteArray.ext' ?_
  have h2 : natOfStr s = natOf (s.data.toList.map UInt8.toNat) := rfl
  simp only [strOf, h2, h, List.map_map]
  have e : ((fun b => UInt8.ofNat b) ∘ UInt8.toNat) = (id : UInt8 → UInt8) := by
    funext c; simp
  rw [e]; simp

theorem natOfStr_lt (s : ByteArray) : natOfStr s < 256 ^ s.size := by
  have h := natOf_lt (s.data.toList.map UInt8.toNat)
  rw [List.length_map, Array.length_toList] at h
  exact h

theorem strOf_inj {n x m y : Nat} (hx : x < 256 ^ n) (hy : y < 256 ^ m) (h : strOf n x = strOf m y) : n = m ∧ x = y := by
  have hn : n = m := by rw [← strOf_size n x, ← strOf_size m y, h]
  subst hn
  refine ⟨rfl, bytesOf_inj n x y hx hy ?_⟩
  have h1 := strOf_data n x
  rw [h, strOf_data n y] at h1
  have h2 := congrArg (List.map UInt8.toNat) h1
  simp only [List.map_map] at h2
  have key : ∀ z, (bytesOf n z).map (UInt8.toNat ∘ fun b => UInt8.ofNat b) = bytesOf n z := fun z => by
    conv => rhs; rw [← List.map_id (bytesOf n z)]
    refine List.map_congr_left fun b hb => ?_
    have := bytesOf_lt hb
    simp [Nat.mod_eq_of_lt this]
  rw [key, key] at h2
  exact h2.symm
end
end Go.X

/- Abstract values, and which values of the model they stand for. -/
namespace Go.X
noncomputable section
set_option linter.unusedVariables false

/-- An abstract value. -/
inductive AV where
  | undef
  | bool (b : Bool)
  | int (k : IntKind) (n : Int)
  | str (n x : Nat)
  | ptr (b o : Nat)
  | nilPtr
  | slice (b o len cap : Nat)
  | nilSlice
  | emptySl
  | map (b : Nat)
  | nilMap
  | func (f : Fn) (first cap : List AV)
  | nilFunc
  | iface (t : Nat) (v : AV)
  | nilIface
  | agg (l : List AV)
  | u8s (n x : Nat)
  | tup (l : List AV)
  deriving Inhabited

/-- Where an abstract block lies: the block, how far its begin is behind the block's, how many more elements of capacity there are. -/
structure Place where
  blk : Nat
  shift : Nat
  more : Nat

/-- Which block of the world an abstract block is; 'bound': the numbers below it are given out. -/
structure Ren where
  f : Nat → Option Place
  bound : Nat
instance : CoeFun Ren (fun _ => Nat → Option Place) := ⟨Ren.f⟩

def u8Cells (n x : Nat) : List Value := (bytesOf n x).map fun b : Nat => Value.int .u8 b

mutual
def VRel (r : Ren) : AV → Value → Prop
  | .undef, v => v = Go.undef
  | .bool b, v => v = .bool b
  | .int k n, v => v = .int k n
  | .str n x, v => x < 256 ^ n ∧ v = .string (strOf n x)
  | .ptr b o, v => ∃ p, r b = some p ∧ v = .pointer (some ⟨p.blk, o + p.shift, none⟩)
  | .nilPtr, v => v = .pointer none
  | .slice b o len cap, v => ∃ p, r b = some p ∧ v = .slice (some ⟨p.blk, o + p.shift, none⟩) len (cap + p.more)
  | .nilSlice, v => v = .slice none 0 0
  | .emptySl, v => ∃ (a : Addr) (c : Nat), v = .slice (some a) 0 c
  | .map b, v => ∃ p, r b = some p ∧ v = .map (some p.blk)
  | .nilMap, v => v = .map none
  | .func f first cap, v => ∃ a c : List Value, v = .func f a.toArray c.toArray ∧ VsRel r first a ∧ VsRel r cap c
  | .nilFunc, v => v = .nilFunc
  | .iface t a, v => ∃ u, v = .iface t u ∧ VRel r a u
  | .nilIface, v => v = .nilIface
  | .agg l, v => ∃ c : List Value, v = .agg c.toArray ∧ VsRel r l c ∧ ∀ x ∈ c, x.oneCell' = true
  | .u8s n x, v => v = .agg (u8Cells n x).toArray
  | .tup l, v => ∃ c : List Value, v = .tuple c.toArray ∧ VsRel r l c
def VsRel (r : Ren) : List AV → List Value → Prop
  | [], vs => vs = []
  | a :: l, vs => ∃ v rest, vs = v :: rest ∧ VRel r a v ∧ VsRel r l rest
end

/-- What is related stays so. -/
def Ren.wle (r r' : Ren) : Prop := ∀ b p, r b = some p → r' b = some p
theorem Ren.wle_refl (r : Ren) : r.wle r := fun _ _ h => h
theorem Ren.wle_trans {a b c : Ren} (h : a.wle b) (h' : b.wle c) : a.wle c := fun x p hx => h' x p (h x p hx)
/-- And only numbers that were not given out are new. -/
structure Ren.le (r r' : Ren) : Prop where
  wle : r.wle r'
  same : ∀ b, b < r.bound → r' b = r b
  bound : r.bound ≤ r'.bound
theorem Ren.le_refl (r : Ren) : r.le r := ⟨r.wle_refl, fun _ _ => rfl, Nat.le_refl _⟩
theorem Ren.le_trans {a b c : Ren} (h : a.le b) (h' : b.le c) : a.le c :=
  ⟨Ren.wle_trans h.wle h'.wle, fun x hx => (h'.same x (Nat.lt_of_lt_of_le hx h.bound)).trans (h.same x hx), Nat.le_trans h.bound h'.bound⟩

mutual
theorem VRel.monoW {r r' : Ren} (h : r.wle r') : ∀ (a : AV) {v : Value}, VRel r a v → VRel r' a v
  | .undef, _, hv => hv
  | .bool _, _, hv => hv
  | .int _ _, _, hv => hv
  | .str _ _, _, hv => hv
  | .ptr b o, _, hv => by simp only [VRel] at hv ⊢; obtain ⟨p, hp, rfl⟩ := hv; exact ⟨p, h _ _ hp, rfl⟩
  | .nilPtr, _, hv => hv
  | .slice b o l c, _, hv => by simp only [VRel] at hv ⊢; obtain ⟨p, hp, rfl⟩ := hv; exact ⟨p, h _ _ hp, rfl⟩
  | .nilSlice, _, hv => hv
  | .emptySl, _, hv => hv
  | .map b, _, hv => by simp only [VRel] at hv ⊢; obtain ⟨p, hp, rfl⟩ := hv; exact ⟨p, h _ _ hp, rfl⟩
  | .nilMap, _, hv => hv
  | .func f first cap, _, hv => by
    simp only [VRel] at hv ⊢; obtain ⟨a, c, rfl, ha, hc⟩ := hv; exact ⟨a, c, rfl, VsRel.monoW h first ha, VsRel.monoW h cap hc⟩
  | .nilFunc, _, hv => hv
  | .iface t a, _, hv => by simp only [VRel] at hv ⊢; obtain ⟨u, rfl, hu⟩ := hv; exact ⟨u, rfl, VRel.monoW h a hu⟩
  | .nilIface, _, hv => hv
  | .agg l, _, hv => by simp only [VRel] at hv ⊢; obtain ⟨c, rfl, hc, h1⟩ := hv; exact ⟨c, rfl, VsRel.monoW h l hc, h1⟩
  | .u8s _ _, _, hv => hv
  | .tup l, _, hv => by simp only [VRel] at hv ⊢; obtain ⟨c, rfl, hc⟩ := hv; exact ⟨c, rfl, VsRel.monoW h l hc⟩
theorem VsRel.monoW {r r' : Ren} (h : r.wle r') : ∀ (l : List AV) {vs : List Value}, VsRel r l vs → VsRel r' l vs
  | [], _, hv => hv
  | a :: l, _, hv => by simp only [VsRel] at hv ⊢; obtain ⟨v, rest, rfl, h1, h2⟩ := hv; exact ⟨v, rest, rfl, VRel.monoW h a h1, VsRel.monoW h l h2⟩
end

theorem VRel.mono {r r' : Ren} (h : r.le r') (a : AV) {v : Value} (hv : VRel r a v) : VRel r' a v := VRel.monoW h.wle a hv
theorem VsRel.mono {r r' : Ren} (h : r.le r') (l : List AV) {vs : List Value} (hv : VsRel r l vs) : VsRel r' l vs := VsRel.monoW h.wle l hv

section
variable {r : Ren}
theorem VsRel.nil : VsRel r [] [] := by simp [VsRel]
theorem VsRel.cons {a : AV} {l : List AV} {v : Value} {vs : List Value} (h : VRel r a v) (hl : VsRel r l vs) : VsRel r (a :: l) (v :: vs) := by
  simp only [VsRel]; exact ⟨v, vs, rfl, h, hl⟩
theorem VsRel.cons_inv {a : AV} {l : List AV} {v : Value} {vs : List Value} (h : VsRel r (a :: l) (v :: vs)) : VRel r a v ∧ VsRel r l vs := by
  simp only [VsRel] at h; obtain ⟨v', rest, e, h1, h2⟩ := h
  injection e with e1 e2; subst e1; subst e2; exact ⟨h1, h2⟩
theorem VsRel.length : ∀ {l : List AV} {vs : List Value}, VsRel r l vs → vs.length = l.length
  | [], vs, h => by simp only [VsRel] at h; subst h; rfl
  | a :: l, vs, h => by
    simp only [VsRel] at h; obtain ⟨v, rest, rfl, _, h2⟩ := h
    simp [h2.length]
theorem VsRel.get : ∀ {l : List AV} {vs : List Value} (h : VsRel r l vs) {i : Nat} {a : AV}, l[i]? = some a → ∃ v, vs[i]? = some v ∧ VRel r a v
  | [], vs, h, i, a, ha => by simp at ha
  | x :: l, vs, h, i, a, ha => by
    simp only [VsRel] at h; obtain ⟨v, rest, rfl, h1, h2⟩ := h
    cases i with
    | zero => simp at ha; subst ha; exact ⟨v, rfl, h1⟩
    | succ i => simp at ha; simpa using h2.get ha
theorem VsRel.of_get : ∀ {l : List AV} {vs : List Value}, vs.length = l.length → (∀ (i : Nat) (a : AV) (v : Value), l[i]? = some a → vs[i]? = some v → VRel r a v) → VsRel r l vs
  | [], vs, hl, _ => by simp at hl; subst hl; exact .nil
  | a :: l, [], hl, _ => by simp at hl
  | a :: l, v :: vs, hl, h => .cons (h 0 a v rfl rfl) (.of_get (by simpa using hl) fun i b u hb hu => h (i + 1) b u (by simpa using hb) (by simpa using hu))
theorem VsRel.append {l m : List AV} {vs ws : List Value} (h : VsRel r l vs) (h' : VsRel r m ws) : VsRel r (l ++ m) (vs ++ ws) := by
  induction l generalizing vs with
  | nil => simp only [VsRel] at h; subst h; exact h'
  | cons a l ih =>
    simp only [VsRel] at h; obtain ⟨v, rest, rfl, h1, h2⟩ := h
    exact .cons h1 (ih h2)
theorem VsRel.take {l : List AV} {vs : List Value} (h : VsRel r l vs) (n : Nat) : VsRel r (l.take n) (vs.take n) :=
  .of_get (by simp [h.length]) fun i a v ha hv => by
    rw [List.getElem?_take] at ha hv
    split at ha
    · rename_i hi
      rw [if_pos hi] at hv
      obtain ⟨u, hu, hr⟩ := h.get ha
      rw [hv] at hu; injection hu with hu; subst hu; exact hr
    · cases ha
theorem VsRel.drop {l : List AV} {vs : List Value} (h : VsRel r l vs) (n : Nat) : VsRel r (l.drop n) (vs.drop n) :=
  .of_get (by simp [h.length]) fun i a v ha hv => by
    rw [List.getElem?_drop] at ha hv
    obtain ⟨u, hu, hr⟩ := h.get ha
    rw [hv] at hu; injection hu with hu; subst hu; exact hr
theorem VsRel.replicate {a : AV} {v : Value} (h : VRel r a v) : ∀ n, VsRel r (List.replicate n a) (List.replicate n v)
  | 0 => .nil
  | n + 1 => .cons h (.replicate h n)
end

/-! Equality, decided. -/
mutual
def AV.beq : AV → AV → Bool
  | .undef, .undef | .nilPtr, .nilPtr | .nilSlice, .nilSlice | .emptySl, .emptySl | .nilMap, .nilMap | .nilFunc, .nilFunc | .nilIface, .nilIface => true
  | .bool a, .bool b => a == b
  | .int k a, .int j b => decide (k = j) && decide (a = b)
  | .str n x, .str m y => n == m && x == y
  | .ptr a b, .ptr c d => a == c && b == d
  | .slice a b c d, .slice a' b' c' d' => a == a' && b == b' && c == c' && d == d'
  | .map a, .map b => a == b
  | .func f a b, .func g c d => decide (f = g) && AV.beqL a c && AV.beqL b d
  | .iface t a, .iface u b => t == u && AV.beq a b
  | .agg a, .agg b => AV.beqL a b
  | .u8s n x, .u8s m y => n == m && x == y
  | .tup a, .tup b => AV.beqL a b
  | _, _ => false
def AV.beqL : List AV → List AV → Bool
  | [], [] => true
  | a :: l, b :: m => AV.beq a b && AV.beqL l m
  | _, _ => false
end

mutual
theorem AV.beq_eq : ∀ (a b : AV), AV.beq a b = true → a = b
  | .undef, b, h => by cases b <;> simp [AV.beq] at h ⊢
  | .nilPtr, b, h => by cases b <;> simp [AV.beq] at h ⊢
  | .nilSlice, b, h => by cases b <;> simp [AV.beq] at h ⊢
  | .emptySl, b, h => by cases b <;> simp [AV.beq] at h ⊢
  | .nilMap, b, h => by cases b <;> simp [AV.beq] at h ⊢
  | .nilFunc, b, h => by cases b <;> simp [AV.beq] at h ⊢
  | .nilIface, b, h => by cases b <;> simp [AV.beq] at h ⊢
  | .bool _, b, h => by cases b <;> simp [AV.beq] at h ⊢; exact h
  | .int _ _, b, h => by cases b <;> simp [AV.beq] at h ⊢; exact h
  | .str _ _, b, h => by cases b <;> simp [AV.beq] at h ⊢; exact h
  | .ptr _ _, b, h => by cases b <;> simp [AV.beq] at h ⊢; exact h
  | .slice _ _ _ _, b, h => by cases b <;> simp [AV.beq] at h ⊢; obtain ⟨⟨⟨h1, h2⟩, h3⟩, h4⟩ := h; exact ⟨h1, h2, h3, h4⟩
  | .map _, b, h => by cases b <;> simp [AV.beq] at h ⊢; exact h
  | .func f a c, b, h => by
    cases b <;> simp [AV.beq] at h ⊢
    obtain ⟨⟨h1, h2⟩, h3⟩ := h
    exact ⟨h1, AV.beqL_eq a _ h2, AV.beqL_eq c _ h3⟩
  | .iface t a, b, h => by cases b <;> simp [AV.beq] at h ⊢; exact ⟨h.1, AV.beq_eq a _ h.2⟩
  | .agg l, b, h => by cases b <;> simp [AV.beq] at h ⊢; exact AV.beqL_eq l _ h
  | .u8s _ _, b, h => by cases b <;> simp [AV.beq] at h ⊢; exact h
  | .tup l, b, h => by cases b <;> simp [AV.beq] at h ⊢; exact AV.beqL_eq l _ h
theorem AV.beqL_eq : ∀ (a b : List AV), AV.beqL a b = true → a = b
  | [], b, h => by cases b <;> simp [AV.beqL] at h ⊢
  | a :: l, b, h => by
    cases b with
    | nil => simp [AV.beqL] at h
    | cons c m => simp [AV.beqL] at h; rw [AV.beq_eq a c h.1, AV.beqL_eq l m h.2]
end

/-! A value of the model that is closed, as an abstract one. -/
def ofScalar : Value → Option AV
  | .bool b => some (.bool b)
  | .int k n => some (.int k n)
  | .string s => some (.str s.size (natOfStr s))
  | .pointer none => some .nilPtr
  | .slice none 0 0 => some .nilSlice
  | .map none => some .nilMap
  | .nilFunc => some .nilFunc
  | .nilIface => some .nilIface
  | _ => none

def ofScalars : List Value → Option (List AV)
  | [] => some []
  | v :: l =>
    match ofScalar v with
    | some a => match ofScalars l with
      | some m => some (a :: m)
      | none => none
    | none => none

/-- Bytes, if all of these are. -/
def ofBytes : List Value → Option (List Nat)
  | [] => some []
  | .int .u8 (.ofNat b) :: l => if b < 256 then (match ofBytes l with | some m => some (b :: m) | none => none) else none
  | _ => none

/-- A row of cells: as bytes if there are more than eight of them. -/
def ofRow (l : List Value) : Option AV :=
  if 8 < l.length then
    match ofBytes l with
    | some m => some (.u8s l.length (natOf m))
    | none => match ofScalars l with | some m => some (.agg m) | none => none
  else match ofScalars l with | some m => some (.agg m) | none => none

def ofValue : Value → Option AV
  | .agg c => ofRow c.toList
  | .iface t v => match ofScalar v with | some a => some (.iface t a) | none => none
  | .tuple c => if c.size = 0 then some .undef else none
  | v => ofScalar v

theorem ofScalar_rel {r : Ren} {v : Value} {a : AV} (h : ofScalar v = some a) : VRel r a v := by
  unfold ofScalar at h
  split at h <;> simp at h <;> subst h <;> simp only [VRel]
  exact ⟨natOfStr_lt _, by rw [strOf_natOfStr]⟩

theorem ofScalars_rel {r : Ren} : ∀ {l : List Value} {m : List AV}, ofScalars l = some m → VsRel r m l
  | [], m, h => by simp [ofScalars] at h; subst h; exact .nil
  | v :: l, m, h => by
    simp only [ofScalars] at h
    cases h1 : ofScalar v with
    | none => simp [h1] at h
    | some a =>
      cases h2 : ofScalars l with
      | none => simp [h1, h2] at h
      | some k => simp [h1, h2] at h; subst h; exact .cons (ofScalar_rel h1) (ofScalars_rel h2)

theorem ofScalar_one {v : Value} {a : AV} (h : ofScalar v = some a) : v.oneCell' = true := by
  cases v <;> first | rfl | (simp [ofScalar] at h)

theorem ofScalars_one : ∀ {l : List Value} {m : List AV}, ofScalars l = some m → ∀ x ∈ l, x.oneCell' = true
  | [], m, h, x, hx => by simp at hx
  | v :: l, m, h, x, hx => by
    simp only [ofScalars] at h
    cases h1 : ofScalar v with
    | none => simp [h1] at h
    | some a =>
      cases h2 : ofScalars l with
      | none => simp [h1, h2] at h
      | some k =>
        cases hx with
        | head => exact ofScalar_one h1
        | tail _ hx => exact ofScalars_one h2 x hx

theorem ofBytes_eq : ∀ {l : List Value} {m : List Nat}, ofBytes l = some m → m.length = l.length ∧ (∀ b ∈ m, b < 256) ∧ l = m.map fun b : Nat => Value.int .u8 b
  | [], m, h => by simp [ofBytes] at h; subst h; simp
  | v :: l, m, h => by
    unfold ofBytes at h
    split at h
    · simp_all
    · rename_i b l' heq
      injection heq with h1 h2; subst h1; subst h2
      split at h
      · rename_i hb
        split at h
        · rename_i m' hm
          simp at h; subst h
          obtain ⟨i1, i2, i3⟩ := ofBytes_eq hm
          refine ⟨by simp [i1], fun c hc => ?_, ?_⟩
          · cases hc with
            | head => exact hb
            | tail _ hc => exact i2 c hc
          · rw [List.map_cons, ← i3]; rfl
        · cases h
      · cases h
    · cases h

theorem ofRow_rel {r : Ren} {l : List Value} {a : AV} (h : ofRow l = some a) : VRel r a (.agg l.toArray) := by
  have plain : ∀ m, ofScalars l = some m → VRel r (.agg m) (.agg l.toArray) := fun m hm => by
    simp only [VRel]; exact ⟨l, rfl, ofScalars_rel hm, ofScalars_one hm⟩
  unfold ofRow at h
  split at h
  · split at h
    · rename_i m hm
      simp at h; subst h
      obtain ⟨i1, i2, i3⟩ := ofBytes_eq hm
      simp only [VRel, u8Cells, ← i1, bytesOf_natOf m i2]
      rw [← i3]
    · split at h
      · rename_i m hm; simp at h; subst h; exact plain m hm
      · cases h
  · split at h
    · rename_i m hm; simp at h; subst h; exact plain m hm
    · cases h

theorem ofValue_rel {r : Ren} {v : Value} {a : AV} (h : ofValue v = some a) : VRel r a v := by
  unfold ofValue at h
  split at h
  · exact ofRow_rel h
  · split at h
    · rename_i b hb; simp at h; subst h; simp only [VRel]; exact ⟨_, rfl, ofScalar_rel hb⟩
    · cases h
  · split at h
    · rename_i c hc; simp at h; subst h; simp only [VRel, Go.undef]; rw [Array.eq_empty_of_size_eq_zero hc]
    · cases h
  · exact ofScalar_rel h

/-! Reckoned at once. -/
section
variable {β : Type}
def forceNC (n : Nat) (k : Nat → β) : β := k n
def forceN (n : Nat) (k : Nat → β) : β := Nat.rec (motive := fun _ => (Nat → β) → β) (fun k => k 0) (fun m _ k => k (Nat.succ m)) n k
theorem forceN_eq (n : Nat) (k : Nat → β) : forceN n k = k n := by cases n <;> rfl
def forceI (n : Int) (k : Int → β) : β :=
  match n with
  | .ofNat m => forceN m fun m => k (.ofNat m)
  | .negSucc m => forceN m fun m => k (.negSucc m)
theorem forceI_eq (n : Int) (k : Int → β) : forceI n k = k n := by cases n <;> exact forceN_eq _ _

/-- Not into lists. -/
def AV.force1 (v : AV) (k : AV → β) : β :=
  match v with
  | .int kd n => forceI n fun n => k (.int kd n)
  | .str n x => forceN n fun n => forceN x fun x => k (.str n x)
  | .ptr b o => forceN b fun b => forceN o fun o => k (.ptr b o)
  | .slice b o l c => forceN b fun b => forceN o fun o => forceN l fun l => forceN c fun c => k (.slice b o l c)
  | .map b => forceN b fun b => k (.map b)
  | .u8s n x => forceN n fun n => forceN x fun x => k (.u8s n x)
  | .bool b => match b with | true => k (.bool true) | false => k (.bool false)
  | v => k v
theorem AV.force1_eq (v : AV) (k : AV → β) : v.force1 k = k v := by
  cases v <;> simp only [AV.force1, forceN_eq, forceI_eq]
  rename_i b; cases b <;> rfl

def forceLC (l : List AV) (k : List AV → β) : β := k l
def forceL (l : List AV) : (List AV → β) → β :=
  List.rec (motive := fun _ => (List AV → β) → β) (fun k => k []) (fun a _ ih k => a.force1 fun a => ih fun l => k (a :: l)) l
theorem forceL_eq : ∀ (l : List AV) (k : List AV → β), forceL l k = k l
  | [], k => rfl
  | a :: l, k => by
    show a.force1 (fun a => forceL l fun l => k (a :: l)) = _
    rw [AV.force1_eq, forceL_eq]

def AV.force (v : AV) (k : AV → β) : β :=
  match v with
  | .agg l => forceL l fun l => k (.agg l)
  | .tup l => forceL l fun l => k (.tup l)
  | v => v.force1 k
theorem AV.force_eq (v : AV) (k : AV → β) : v.force k = k v := by
  cases v <;> simp only [AV.force, forceL_eq, AV.force1_eq]
end
end
end Go.X

/- The abstract memory, and which worlds it stands for. -/
namespace Go.X
noncomputable section
set_option linter.unusedVariables false
open Go.RowKit Go.MapKept

/-- What a map's keys are. -/
inductive KK where
  | int (k : IntKind)
  | str
  deriving DecidableEq, Inhabited

def KK.desc : KK → TypeDesc
  | .int k => .int k
  | .str => .string

/-- An abstract object: a row of cells, a row of bytes (each open, if its capacity is not known: then the size of an element stands there; else 0), a map. -/
inductive AObj where
  | cells (elem : Nat) (l : List AV) (opn : Nat)
  | bytes (elem : Nat) (n x : Nat) (opn : Nat)
  | map (kd : KK) (l : List (AV × AV × Option Nat)) (clock : Option Nat)
  | iter (m : Option Nat) (since : Nat) (seen : List Nat) (last : Nat)
  | amap (kd : KK)
  deriving Inhabited

structure St where
  heap : T AObj
  next : Nat

/-- A value of one cell. -/
abbrev one (v : Value) : Bool := v.oneCell'

def HD : Nat := 15

def St.at (s : St) (b : Nat) : Option AObj := (T.at (path HD b) s.heap).val
def forceEC {β : Type} (l : List (AV × AV × Option Nat)) (k : List (AV × AV × Option Nat) → β) : β := k l
def forceE {β : Type} (l : List (AV × AV × Option Nat)) : (List (AV × AV × Option Nat) → β) → β :=
  List.rec (motive := fun _ => (List (AV × AV × Option Nat) → β) → β) (fun k => k []) (fun a _ ih k => match a with
    | (x, y, z) => x.force1 fun x => y.force1 fun y => ih fun l => k ((x, y, z) :: l)) l
theorem forceE_eq {β : Type} : ∀ (l : List (AV × AV × Option Nat)) (k : List (AV × AV × Option Nat) → β), forceE l k = k l
  | [], k => rfl
  | (x, y, z) :: l, k => by
    show x.force1 (fun x => y.force1 fun y => forceE l fun l => k ((x, y, z) :: l)) = _
    rw [AV.force1_eq, AV.force1_eq, forceE_eq]

def AObj.force {β : Type} (o : AObj) (k : AObj → β) : β :=
  match o with
  | .cells e l p => forceL l fun l => k (.cells e l p)
  | .bytes e n x p => forceN n fun n => forceN x fun x => k (.bytes e n x p)
  | .map kd l c => forceE l fun l => k (.map kd l c)
  | .iter m a l c => k (.iter m a l c)
  | .amap kd => k (.amap kd)
theorem AObj.force_eq {β : Type} (o : AObj) (k : AObj → β) : o.force k = k o := by
  cases o <;> simp only [AObj.force, forceL_eq, forceN_eq, forceE_eq]

def St.set (s : St) (b : Nat) (o : AObj) : St := o.force fun o => ⟨T.set (path HD b) s.heap (.v o), s.next⟩
theorem St.set_def (s : St) (b : Nat) (o : AObj) : s.set b o = ⟨T.set (path HD b) s.heap (.v o), s.next⟩ := AObj.force_eq _ _
/-- The row alone: its cells are reckoned already. -/
def forceSpC {β : Type} (l : List AV) (k : List AV → β) : β := k l
def forceSp {β : Type} (l : List AV) : (List AV → β) → β :=
  List.rec (motive := fun _ => (List AV → β) → β) (fun k => k []) (fun a _ ih k => ih fun l => k (a :: l)) l
theorem forceSp_eq {β : Type} : ∀ (l : List AV) (k : List AV → β), forceSp l k = k l
  | [], k => rfl
  | a :: l, k => by show forceSp l (fun l => k (a :: l)) = _; rw [forceSp_eq]
def AObj.forceS {β : Type} (o : AObj) (k : AObj → β) : β :=
  match o with
  | .cells e l p => forceSp l fun l => k (.cells e l p)
  | .bytes e n x p => forceN n fun n => forceN x fun x => k (.bytes e n x p)
  | .map kd l c => forceE l fun l => k (.map kd l c)
  | .iter m a l c => k (.iter m a l c)
  | .amap kd => k (.amap kd)
theorem AObj.forceS_eq {β : Type} (o : AObj) (k : AObj → β) : o.forceS k = k o := by
  cases o <;> simp only [AObj.forceS, forceSp_eq, forceN_eq, forceE_eq]
def St.setS (s : St) (b : Nat) (o : AObj) : St := o.forceS fun o => ⟨T.set (path HD b) s.heap (.v o), s.next⟩
theorem St.setS_eq (s : St) (b : Nat) (o : AObj) : s.setS b o = s.set b o := by rw [St.set_def]; exact AObj.forceS_eq _ _
/-- An entry more, at a map's head. -/
def optF {β : Type} (c : Option Nat) (k : Option Nat → β) : β := match c with | some n => forceN n fun n => k (some n) | none => k none
theorem optF_eq {β : Type} (c : Option Nat) (k : Option Nat → β) : optF c k = k c := by cases c <;> simp only [optF, forceN_eq]
def St.setH (s : St) (b : Nat) (kd : KK) (x y : AV) (z : Option Nat) (l : List (AV × AV × Option Nat)) (c : Option Nat) : St :=
  x.force1 fun x => y.force fun y => optF z fun z => optF c fun c => ⟨T.set (path HD b) s.heap (.v (.map kd ((x, y, z) :: l) c)), s.next⟩
theorem St.setH_eq (s : St) (b : Nat) (kd : KK) (x y : AV) (z : Option Nat) (l : List (AV × AV × Option Nat)) (c : Option Nat) : s.setH b kd x y z l c = s.set b (.map kd ((x, y, z) :: l) c) := by
  rw [St.set_def]; simp only [St.setH, AV.force1_eq, AV.force_eq, optF_eq]
def St.force {β : Type} (s : St) (k : St → β) : β := match s with | ⟨h, n⟩ => h.force fun h => forceN n fun n => k ⟨h, n⟩
theorem St.force_eq {β : Type} (s : St) (k : St → β) : s.force k = k s := by cases s; simp only [St.force, T.force_eq, forceN_eq]
def St.kill (s : St) (b : Nat) : St := ⟨T.set (path HD b) s.heap .e, s.next⟩
def St.new (s : St) (o : AObj) : St := o.force fun o => ⟨T.set (path HD s.next) s.heap (.v o), Nat.succ s.next⟩
theorem St.new_def (s : St) (o : AObj) : s.new o = ⟨T.set (path HD s.next) s.heap (.v o), s.next + 1⟩ := AObj.force_eq _ _
theorem St.new_next (s : St) (o : AObj) : (s.new o).next = s.next + 1 := by rw [St.new_def]
theorem St.set_next (s : St) (b : Nat) (o : AObj) : (s.set b o).next = s.next := by rw [St.set_def]

def entRel (r : Ren) (a : AV × AV × Option Nat) (e : MapEntry) : Prop := VRel r a.1 e.key ∧ VRel r a.2.1 e.val ∧ ∀ n, a.2.2 = some n → e.born = n

def AllRel {α β : Type} (R : α → β → Prop) : List α → List β → Prop
  | [], [] => True
  | a :: l, b :: m => R a b ∧ AllRel R l m
  | _, _ => False

structure MapRel (r : Ren) (kd : KK) (l : List (AV × AV × Option Nat)) (clk : Option Nat) (es : Array MapEntry) (clock : Nat) : Prop where
  stamped : Stamped es clock
  keys : ∀ e ∈ es.toList, IsKey kd.desc e.key
  known : ∀ c, clk = some c → clock = c
  ents : ∃ l', l'.Perm l ∧ AllRel (entRel r) l' es.toList

/-- No cell of a row is frozen. -/
def Free (n : Nat) (fz : Nat × Nat) : Prop := ∀ i, i < n → ¬ (fz.1 ≤ i ∧ i < fz.2)

def ObjRel (r : Ren) (o : AObj) (p : Place) (x : Option Obj) : Prop :=
  match o with
  | .cells e l opn => ∃ pre vs post fz, x = some (.cells (pre ++ vs ++ post).toArray e fz) ∧ Free (pre ++ vs ++ post).length fz ∧ pre.length = p.shift ∧ (opn ≠ 0 → post.length = p.more * opn) ∧
      (opn = 0 → p.more = 0) ∧ VsRel r l vs ∧ ∀ v ∈ vs, one v = true
  | .bytes e n y opn => ∃ pre post fz, x = some (.cells (pre ++ u8Cells n y ++ post).toArray e fz) ∧ Free (pre ++ u8Cells n y ++ post).length fz ∧ pre.length = p.shift ∧ (opn ≠ 0 → post.length = p.more * opn) ∧
      (opn = 0 → p.more = 0)
  | .map kd l clk => ∃ es clock, x = some (.map es clock) ∧ p.shift = 0 ∧ p.more = 0 ∧ MapRel r kd l clk es clock
  | .iter m since seen last => (match m with
    | none => x = some (.mapIter none since seen.toArray last)
    | some b => ∃ q, r b = some q ∧ x = some (.mapIter (some q.blk) since seen.toArray last)) ∧ p.shift = 0 ∧ p.more = 0
  | .amap kd => ∃ es clock, x = some (.map es clock) ∧ p.shift = 0 ∧ p.more = 0 ∧ Stamped es clock ∧ ∀ e ∈ es.toList, IsKey kd.desc e.key

structure WRel (w0 : World) (r : Ren) (s : St) (w : World) : Prop where
  below : Below w0.heap.size w0 w
  bound : r.bound = s.next
  next : s.next ≤ 2 ^ HD
  fresh : ∀ b p, r b = some p → b < s.next
  own : ∀ b o p, s.at b = some o → r b = some p → w0.heap.size ≤ p.blk ∧ ObjRel r o p w.heap[p.blk]?
  apart : ∀ b b' o o' p p', s.at b = some o → s.at b' = some o' → r b = some p → r b' = some p' → p.blk = p'.blk → b = b'

theorem AllRel.mono {α β : Type} {R R' : α → β → Prop} (h : ∀ a b, R a b → R' a b) : ∀ {l : List α} {m : List β}, AllRel R l m → AllRel R' l m
  | [], [], _ => trivial
  | a :: l, b :: m, ⟨h1, h2⟩ => ⟨h _ _ h1, AllRel.mono h h2⟩

theorem MapRel.monoW {r r' : Ren} (h : r.wle r') {kd l clk es clock} (hm : MapRel r kd l clk es clock) : MapRel r' kd l clk es clock :=
  ⟨hm.stamped, hm.keys, hm.known, by
    obtain ⟨l', hp, ha⟩ := hm.ents
    exact ⟨l', hp, ha.mono fun a e ⟨h1, h2, h3⟩ => ⟨VRel.monoW h _ h1, VRel.monoW h _ h2, h3⟩⟩⟩

theorem ObjRel.monoW {r r' : Ren} (h : r.wle r') {o : AObj} {p : Place} {x : Option Obj} (ho : ObjRel r o p x) : ObjRel r' o p x := by
  cases o with
  | cells e l opn =>
    obtain ⟨pre, vs, post, fz, h1, h2, h3, h4, h5, h6, h7⟩ := ho
    exact ⟨pre, vs, post, fz, h1, h2, h3, h4, h5, VsRel.monoW h l h6, h7⟩
  | bytes e n y opn => exact ho
  | map kd l clk =>
    obtain ⟨es, clock, h1, h2, h3, h4⟩ := ho
    exact ⟨es, clock, h1, h2, h3, h4.monoW h⟩
  | iter m since seen last =>
    obtain ⟨h1, h2⟩ := ho
    refine ⟨?_, h2⟩
    cases m with
    | none => exact h1
    | some b => obtain ⟨q, h3, h4⟩ := h1; exact ⟨q, h _ _ h3, h4⟩
  | amap kd => exact ho

theorem St.at_set_same (s : St) (b : Nat) (o : AObj) : (s.set b o).at b = some o := by
  simp only [St.at, St.set_def, T.at_set_same]; rfl
theorem St.at_kill_same (s : St) (b : Nat) : (s.kill b).at b = none := by
  simp only [St.at, St.kill, T.at_set_same]; rfl
theorem St.at_new_same (s : St) (o : AObj) : (s.new o).at s.next = some o := by
  simp only [St.at, St.new_def, T.at_set_same]; rfl
theorem path_ne {b b' : Nat} (hb : b < 2 ^ HD) (hb' : b' < 2 ^ HD) (h : b ≠ b') : path HD b ≠ path HD b' := fun e => h (path_inj HD b b' hb hb' e)
theorem St.at_set_other (s : St) (o : AObj) {b b' : Nat} (hb : b < 2 ^ HD) (hb' : b' < 2 ^ HD) (h : b ≠ b') : (s.set b o).at b' = s.at b' := by
  simp only [St.at, St.set_def]; rw [T.at_set_other _ _ _ _ (by rw [path_length, path_length]) (path_ne hb hb' h)]
theorem St.at_kill_other (s : St) {b b' : Nat} (hb : b < 2 ^ HD) (hb' : b' < 2 ^ HD) (h : b ≠ b') : (s.kill b).at b' = s.at b' := by
  simp only [St.at, St.kill]; rw [T.at_set_other _ _ _ _ (by rw [path_length, path_length]) (path_ne hb hb' h)]
theorem St.at_new_other (s : St) (o : AObj) {b' : Nat} (hs : s.next < 2 ^ HD) (hb' : b' < 2 ^ HD) (h : b' ≠ s.next) : (s.new o).at b' = s.at b' := by
  simp only [St.at, St.new_def]; rw [T.at_set_other _ _ _ _ (by rw [path_length, path_length]) (path_ne hs hb' (Ne.symm h))]

namespace WRel
variable {w0 w w' : World} {r : Ren} {s : St}

theorem lt (h : WRel w0 r s w) {b : Nat} {p : Place} (hr : r b = some p) : b < 2 ^ HD := Nat.lt_of_lt_of_le (h.fresh b p hr) h.next

theorem drew (h : WRel w0 r s w) : WRel w0 r s { w with drawn := w.drawn + 1 } :=
  ⟨h.below.drew, h.bound, h.next, h.fresh, h.own, h.apart⟩

/-- The same blocks. -/
theorem same (h : WRel w0 r s w) (hb : Below w0.heap.size w0 w') (hk : ∀ b o p, s.at b = some o → r b = some p → w'.heap[p.blk]? = w.heap[p.blk]?) : WRel w0 r s w' :=
  ⟨hb, h.bound, h.next, h.fresh, fun b o p ho hr => by
    obtain ⟨h1, h2⟩ := h.own b o p ho hr
    exact ⟨h1, by rw [hk b o p ho hr]; exact h2⟩, h.apart⟩

/-- One number more. -/
def _root_.Go.X.Ren.bump (r : Ren) : Ren := ⟨r.f, r.bound + 1⟩
/-- A number that was given out gets its block. -/
def _root_.Go.X.Ren.setAt (r : Ren) (b : Nat) (p : Place) : Ren := ⟨fun x => if x = b then some p else r.f x, r.bound⟩
def _root_.Go.X.Ren.put (r : Ren) (b : Nat) (p : Place) : Ren := ⟨fun x => if x = b then some p else r.f x, r.bound + 1⟩
theorem _root_.Go.X.Ren.bump_le (r : Ren) : r.le r.bump := ⟨fun _ _ h => h, fun _ _ => rfl, Nat.le_succ _⟩
theorem _root_.Go.X.Ren.setAt_wle {r : Ren} {b : Nat} (h : r b = none) (p : Place) : r.wle (r.setAt b p) := fun x q hx => by
  have : x ≠ b := fun e => by subst e; rw [h] at hx; cases hx
  simp [Ren.setAt, this, hx]
theorem _root_.Go.X.Ren.put_le {r : Ren} {b : Nat} (h : r b = none) (hb : r.bound ≤ b) (p : Place) : r.le (r.put b p) :=
  ⟨fun x q hx => by
    have : x ≠ b := fun e => by subst e; rw [h] at hx; cases hx
    simp [Ren.put, this, hx], fun x hx => by
    have : x ≠ b := by omega
    simp [Ren.put, this], Nat.le_succ _⟩
theorem _root_.Go.X.Ren.put_same (r : Ren) (b : Nat) (p : Place) : (r.put b p) b = some p := by simp [Ren.put]
theorem _root_.Go.X.Ren.setAt_same (r : Ren) (b : Nat) (p : Place) : (r.setAt b p) b = some p := by simp [Ren.setAt]

/-- An object that the world does not have yet. -/
theorem unborn (h : WRel w0 r s w) (o : AObj) (hn : s.next < 2 ^ HD) : WRel w0 r.bump (s.new o) w := by
  have hle := Ren.bump_le r
  have rf : ∀ b, r.bump b = r b := fun _ => rfl
  refine ⟨h.below, by rw [St.new_next]; exact congrArg (· + 1) h.bound, by rw [St.new_next]; exact hn, fun b p hr => by rw [St.new_next]; exact Nat.lt_succ_of_lt (h.fresh b p hr), fun b o' p ho hr => ?_, fun b b' o1 o2 p p' h1 h2 h3 h4 h5 => ?_⟩
  · rw [rf] at hr
    have hb := h.fresh b p hr
    rw [St.at_new_other s o hn (h.lt hr) (by omega)] at ho
    obtain ⟨i1, i2⟩ := h.own b o' p ho hr
    exact ⟨i1, i2.monoW hle.wle⟩
  · rw [rf] at h3 h4
    have hb := h.fresh b p h3
    have hb' := h.fresh b' p' h4
    rw [St.at_new_other s o hn (h.lt h3) (by omega)] at h1
    rw [St.at_new_other s o hn (h.lt h4) (by omega)] at h2
    exact h.apart b b' o1 o2 p p' h1 h2 h3 h4 h5

theorem lives (h : WRel w0 r s w) {c : Nat} {o' : AObj} {p : Place} (hc : s.at c = some o') (hp : r c = some p) : p.blk < w.heap.size := by
  have := (h.own c o' p hc hp).2
  cases o' with
  | cells e l opn => obtain ⟨_, _, _, _, h1, _⟩ := this; exact (Array.getElem?_eq_some_iff.1 h1).1
  | bytes e n y opn => obtain ⟨_, _, _, h1, _⟩ := this; exact (Array.getElem?_eq_some_iff.1 h1).1
  | map kd l clk => obtain ⟨_, _, h1, _⟩ := this; exact (Array.getElem?_eq_some_iff.1 h1).1
  | iter m since seen last =>
    have := this.1
    cases m with
    | none => exact (Array.getElem?_eq_some_iff.1 this).1
    | some b => obtain ⟨_, _, h1⟩ := this; exact (Array.getElem?_eq_some_iff.1 h1).1
  | amap kd => obtain ⟨_, _, h1, _⟩ := this; exact (Array.getElem?_eq_some_iff.1 h1).1

/-- One that it gets now. -/
theorem born (h : WRel w0 r s w) {b : Nat} {o : AObj} (hb : b < s.next) (ho : s.at b = some o) (hr : r b = none) {x : Obj} {m : Nat}
    (hx : ObjRel r o ⟨w.heap.size, 0, m⟩ (some x)) : WRel w0 (r.setAt b ⟨w.heap.size, 0, m⟩) s (w.alloc x) := by
  have hle := Ren.setAt_wle hr ⟨w.heap.size, 0, m⟩
  have hold : ∀ k, k < w.heap.size → (w.alloc x).heap[k]? = w.heap[k]? := fun k hk => Below.heap_alloc _ _ _ hk
  have hsz : w0.heap.size ≤ w.heap.size := h.below.size
  have split : ∀ c p, (r.setAt b ⟨w.heap.size, 0, m⟩) c = some p → (c = b ∧ p = ⟨w.heap.size, 0, m⟩) ∨ (c ≠ b ∧ r c = some p) := fun c p hc => by
    by_cases e : c = b
    · simp [Ren.setAt, e] at hc; exact .inl ⟨e, hc.symm⟩
    · simp [Ren.setAt, e] at hc; exact .inr ⟨e, hc⟩
  refine ⟨h.below.alloc hsz x, h.bound, h.next, fun c p hc => ?_, fun c o' p hc hp => ?_, fun c c' o1 o2 p p' h1 h2 h3 h4 h5 => ?_⟩
  · rcases split c p hc with ⟨rfl, _⟩ | ⟨_, hc⟩
    · exact hb
    · exact h.fresh c p hc
  · rcases split c p hp with ⟨rfl, rfl⟩ | ⟨_, hp⟩
    · rw [ho] at hc; injection hc with hc; subst hc
      refine ⟨hsz, ?_⟩
      have : (w.alloc x).heap[w.heap.size]? = some x := by show (w.heap.push x)[w.heap.size]? = some x; simp
      simp only [this]
      exact hx.monoW hle
    · obtain ⟨i1, i2⟩ := h.own c o' p hc hp
      exact ⟨i1, by rw [hold _ (h.lives hc hp)]; exact i2.monoW hle⟩
  · rcases split c p h3 with ⟨e1, e2⟩ | ⟨hcb, g3⟩ <;> rcases split c' p' h4 with ⟨e3, e4⟩ | ⟨hcb', g4⟩
    · rw [e1, e3]
    · have := h.lives h2 g4; rw [e2] at h5; simp only at h5; omega
    · have := h.lives h1 g3; rw [e4] at h5; simp only at h5; omega
    · exact h.apart c c' o1 o2 p p' h1 h2 g3 g4 h5

/-- A new object, on both sides. -/
theorem made (h : WRel w0 r s w) {o : AObj} (hn : s.next < 2 ^ HD) {x : Obj} {m : Nat} (hx : ObjRel r o ⟨w.heap.size, 0, m⟩ (some x)) :
    WRel w0 (r.put s.next ⟨w.heap.size, 0, m⟩) (s.new o) (w.alloc x) ∧ r.le (r.put s.next ⟨w.heap.size, 0, m⟩) := by
  have hr : r s.next = none := by
    cases hh : r s.next with
    | none => rfl
    | some p => have := h.fresh _ _ hh; omega
  refine ⟨?_, Ren.put_le hr (Nat.le_of_eq h.bound) _⟩
  have := (h.unborn o hn).born (b := s.next) (by rw [St.new_next]; exact Nat.lt_succ_self _) (St.at_new_same s o) hr (hx.monoW (Ren.bump_le r).wle)
  exact this

/-- An object is replaced. -/
theorem replace (h : WRel w0 r s w) {b : Nat} {o o' : AObj} {p : Place} (ho : s.at b = some o) (hr : r b = some p) {x : Obj}
    (hk : ∀ k, k ≠ p.blk → w'.heap[k]? = w.heap[k]?) (hs : w'.heap.size = w.heap.size) (hos : w'.os = w.os) (htape : w'.tape = w.tape) (hout : w'.output = w.output)
    (hx : ObjRel r o' p w'.heap[p.blk]?) : WRel w0 r (s.set b o') w' := by
  have hpb := (h.own b o p ho hr).1
  refine ⟨h.below.trans ⟨hos, htape, hout, Nat.le_of_eq hs.symm, fun k hk' => hk k (by omega)⟩, by rw [St.set_next]; exact h.bound, by rw [St.set_next]; exact h.next, fun b p hr => by rw [St.set_next]; exact h.fresh b p hr, fun c oc pc hc hpc => ?_, fun c c' o1 o2 p1 p2 h1 h2 h3 h4 h5 => ?_⟩
  · by_cases e : b = c
    · subst e
      rw [St.at_set_same] at hc; injection hc with hc; subst hc
      rw [hr] at hpc; injection hpc with hpc; subst hpc
      exact ⟨hpb, hx⟩
    · rw [St.at_set_other s o' (h.lt hr) (h.lt hpc) e] at hc
      obtain ⟨i1, i2⟩ := h.own c oc pc hc hpc
      refine ⟨i1, ?_⟩
      rw [hk _ fun e' => e (h.apart b c o oc p pc ho hc hr hpc e'.symm)]
      exact i2
  · have back : ∀ c oc pc, (s.set b o').at c = some oc → r c = some pc → ∃ oc', s.at c = some oc' := fun c oc pc hc hpc => by
      by_cases e : b = c
      · subst e; exact ⟨o, ho⟩
      · rw [St.at_set_other s o' (h.lt hr) (h.lt hpc) e] at hc; exact ⟨oc, hc⟩
    obtain ⟨_, e1⟩ := back c o1 p1 h1 h3
    obtain ⟨_, e2⟩ := back c' o2 p2 h2 h4
    exact h.apart c c' _ _ p1 p2 e1 e2 h3 h4 h5

/-- An object is forgotten. -/
theorem forget (h : WRel w0 r s w) {b : Nat} (hb : b < 2 ^ HD) : WRel w0 r (s.kill b) w := by
  have back : ∀ c oc pc, (s.kill b).at c = some oc → r c = some pc → s.at c = some oc := fun c oc pc hc hpc => by
    by_cases e : b = c
    · subst e; rw [St.at_kill_same] at hc; cases hc
    · rwa [St.at_kill_other s hb (h.lt hpc) e] at hc
  exact ⟨h.below, h.bound, h.next, h.fresh, fun c oc pc hc hpc => h.own c oc pc (back c oc pc hc hpc) hpc,
    fun c c' o1 o2 p1 p2 h1 h2 h3 h4 h5 => h.apart c c' o1 o2 p1 p2 (back _ _ _ h1 h3) (back _ _ _ h2 h4) h3 h4 h5⟩
end WRel
end
end Go.X
