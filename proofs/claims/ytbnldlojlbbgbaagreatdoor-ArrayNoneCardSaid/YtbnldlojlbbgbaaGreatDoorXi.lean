/- Part of the proof. -/

import Derived.Test.YtbnldlojlbbgbaaGreatDoorProg
import Derived.Below
import Derived.Deep.Draws
import Derived.Deep.AppendLies
import Derived.Maps.AppendAt
import Derived.OwnWalk
import Derived.Laws.BytesArg
import Derived.Laws.MakeOwn
import Derived.Laws.OwnMore
import Derived.Deep.OwnRows
import Derived.Tactics
import Derived.Lib.ConvBytes
import Derived.Laws.Slices
import Derived.WalkKit
import Derived.KernelRfl
import Derived.RowKit3
import Derived.Deep.LoopGhost
import Derived.Deep.QuietTactic
import Derived.BigQuiet
import Derived.WideLaws
import Derived.Deep.DeepCutAuto
import Derived.Deep.CutBlock
import Derived.Deep.RegionHeld3
import Derived.Laws.Rows
import Derived.Lib.AppendStr
import Derived.ArgAppend
import Derived.Laws.IdiomCopy
import Derived.OrdersHeld
import Derived.Laws.BitsLemmas
import Derived.RowKit
import Derived.Stop.Asserts
import Derived.LaidEql
import Derived.RowKitTokens
import Derived.Lib.IfaceEq
import Derived.Elder7
import Derived.Maps.RangeRun
import Derived.Maps.RangeWalk
import Derived.Test.YtbnldlojlbbgbaaGreatDoorXh
set_option linter.unusedVariables false
set_option linter.unusedSimpArgs false
namespace Go.X
noncomputable section
open Go.RowKit Go.Proofs
set_option linter.unusedVariables false
set_option linter.unusedSimpArgs false

/-- k bits from a number. -/
theorem crc_and (r : Nat) (h : r < 4294967296) : bits .and .u32 (r : Int) 1 = ((r % 2 : Nat) : Int) := by
  have := u32_and_nat r 1 h (by decide)
  rw [show ((1 : Nat) : Int) = 1 from rfl] at this
  rw [this, nat_mask1]

theorem crcBit_odd {r : Nat} (h : r % 2 = 1) : crcBit r = r / 2 ^^^ 3988292384 := by
  show (match Nat.beq (r % 2) 1 with | true => Nat.xor (r / 2) 3988292384 | false => r / 2) = _
  rw [h]; rfl
theorem crcBit_even {r : Nat} (h : ¬ r % 2 = 1) : crcBit r = r / 2 := by
  show (match Nat.beq (r % 2) 1 with | true => Nat.xor (r / 2) 3988292384 | false => r / 2) = _
  rw [show r % 2 = 0 by omega]
theorem crcBit_lt {r : Nat} (h : r < 4294967296) : crcBit r < 4294967296 := by
  unfold crcBit
  split
  · exact Nat.xor_lt_two_pow (n := 32) (by show r / 2 < _; omega) (by decide)
  · show r / 2 < _; omega

def bitsTo : Nat → Nat → Nat
  | 0, r => r
  | k + 1, r => crcBit (bitsTo k r)
def bytesTo (f : Nat → Nat) : Nat → Nat → Nat
  | 0, r => r
  | i + 1, r => bitsTo 8 (Nat.xor (bytesTo f i r) (f i))
def partsTo (F : Nat → Nat → Nat) (L : Nat → Nat) : Nat → Nat → Nat
  | 0, r => r
  | j + 1, r => bytesTo (F j) (L j) (partsTo F L j r)
theorem bitsTo_lt {r : Nat} (h : r < 4294967296) : ∀ k, bitsTo k r < 4294967296
  | 0 => h
  | k + 1 => crcBit_lt (bitsTo_lt h k)
theorem xor_lt {a b : Nat} (ha : a < 4294967296) (hb : b < 256) : Nat.xor a b < 4294967296 := Nat.xor_lt_two_pow (n := 32) ha (by omega)
theorem bytesTo_lt {f : Nat → Nat} (hf : ∀ i, f i < 256) {r : Nat} (h : r < 4294967296) : ∀ k, bytesTo f k r < 4294967296
  | 0 => h
  | k + 1 => bitsTo_lt (xor_lt (bytesTo_lt hf h k) (hf k)) 8
theorem partsTo_lt {F : Nat → Nat → Nat} (hF : ∀ j i, F j i < 256) {L : Nat → Nat} {r : Nat} (h : r < 4294967296) : ∀ k, partsTo F L k r < 4294967296
  | 0 => h
  | k + 1 => bytesTo_lt (hF k) (partsTo_lt hF h k) _

theorem crc_xor (r b : Nat) (h : r < 4294967296) (hb : b < 256) : bits .xor .u32 (r : Int) ((b : Int) % 4294967296) = ((Nat.xor r b : Nat) : Int) := by
  rw [show ((b : Int) % 4294967296) = (b : Int) by omega]; exact u32_xor_nat r b h (by omega)
theorem crc_poly (r : Nat) (h : r < 4294967296) : bits .xor .u32 (r : Int) 3988292384 = ((Nat.xor r 3988292384 : Nat) : Int) := by
  have := u32_xor_nat r 3988292384 h (by decide)
  rwa [show ((3988292384 : Nat) : Int) = 3988292384 from rfl] at this

set_option maxHeartbeats 8000000 in
set_option maxRecDepth 100000 in
theorem check_walk (w : World) (a : Addr) (n c : Nat) (pa : Nat → Option Addr) (L C : Nat → Nat) (F : Nat → Nat → Nat) (hF : ∀ j i, F j i < 256)
    (hn : n ≤ 1000000) (h1 : ∀ j, j < n → w.cell? (a.add j) = some (.slice (pa j) (L j) (C j))) (hL : ∀ j, j < n → L j ≤ 1000000)
    (h2 : ∀ j, j < n → ∀ i, i < L j → ∃ b, pa j = some b ∧ w.cell? (b.add i) = some (.int .u8 (F j i : Nat))) :
    Calls Tryz.prog 91 #[.slice (some a) n c] w fun e w' => e = .returned (.int .u32 ((Nat.xor (partsTo F L n 4294967295) 4294967295 : Nat) : Int)) ∧ w' = w := by
  go_enter Tryz.func91, Tryz.ntmps91
  go_wp2
  go_loopg [3, 11] (n + 1) (fun kq v3 v11 w' => ∃ (j : Nat), v3 = .int .u32 (partsTo F L j 4294967295 : Nat) ∧ v11 = .int .i64 (j : Nat) ∧ j ≤ n ∧ kq = n + 1 - j ∧ w' = w)
  case atStart => exact ⟨0, rfl, rfl, by omega, by omega, rfl⟩
  case round =>
    obtain ⟨j, rfl, rfl, hjl, hk, rfl⟩ := hrel
    by_cases hj : j < n
    · have hc := h1 j hj
      have hLj := hL j hj
      have hB := h2 j hj
      have hP := partsTo_lt hF (show 4294967295 < 4294967296 by decide) (L := L) j
      generalize hP0 : partsTo F L j 4294967295 = r0 at hP
      generalize hl : L j = len at hLj hc hB
      generalize hfj : F j = f at hB
      have hf : ∀ i, f i < 256 := by subst hfj; exact hF j
      have hjn : (j : Int) < (n : Int) := by omega
      go_wp2
      go_loopg [3, 17] (len + 1) (fun kq v3 v17 w' => ∃ (i : Nat), v3 = .int .u32 (bytesTo f i r0 : Nat) ∧ v17 = .int .i64 (i : Nat) ∧ i ≤ len ∧ kq = len + 1 - i ∧ w' = wr)
      case atStart => exact ⟨0, rfl, rfl, by omega, by omega, rfl⟩
      case round =>
        obtain ⟨i, rfl, rfl, hil, hk2, rfl⟩ := hrel
        by_cases hi : i < len
        · obtain ⟨b, hb, hcell⟩ := hB i hi
          have hR := bytesTo_lt hf hP i
          have hx := crc_xor (bytesTo f i r0) (f i) hR (hf i)
          have hxl := xor_lt hR (hf i)
          have hin : (i : Int) < (len : Int) := by omega
          generalize hR0 : bytesTo f i r0 = r1 at hR hx hxl
          go_wp2
          go_loopg [3, 25] 9 (fun kq v3 v25 w' => ∃ (m : Nat), v3 = .int .u32 (bitsTo m (Nat.xor r1 (f i)) : Nat) ∧ v25 = .int .i64 (m : Nat) ∧ m ≤ 8 ∧ kq = 9 - m ∧ w' = wr)
          case atStart => exact ⟨0, rfl, rfl, by omega, by omega, rfl⟩
          case round =>
            obtain ⟨m, rfl, rfl, hml, hk3, rfl⟩ := hrel
            by_cases hm : m < 8
            · have hbl := bitsTo_lt hxl m
              generalize hR2 : bitsTo m (Nat.xor r1 (f i)) = r2 at hbl
              have ha := crc_and r2 hbl
              have hm8 : (m : Int) < 8 := by omega
              have hR2' := hR2
              clear hx hxl hR hR0 hP hP0 hi hin hLj hjn hf hcell hB hc h1 hL h2 hfj hl hj hb hR2
              by_cases hb2 : r2 % 2 = 1
              · have hb2' : (r2 : Int) % 2 = 1 := by omega
                have hpo := crc_poly (r2 / 2) (by omega)
                rw [show ((r2 / 2 : Nat) : Int) = (r2 : Int) / 2 by omega] at hpo
                go_wp2
                go_roundg (8 - m)
                case rel => exact ⟨m + 1, by simp only [bitsTo, hR2']; rw [crcBit_odd hb2], by push_cast; rfl, by omega, by omega, rfl⟩
                case measure => omega
              · have hb2' : (r2 : Int) % 2 = 0 := by omega
                go_wp2
                go_roundg (8 - m)
                case rel => exact ⟨m + 1, by simp only [bitsTo, hR2']; rw [crcBit_even hb2]; rw [show ((r2 / 2 : Nat) : Int) = (r2 : Int) / 2 by omega], by push_cast; rfl, by omega, by omega, rfl⟩
                case measure => omega
            · have hm : m = 8 := by omega
              subst hm
              go_wp2
              go_roundg (len - i)
              case rel => exact ⟨i + 1, by rw [bytesTo, hR0], by push_cast; rfl, by omega, by omega, rfl⟩
              case measure => omega
        · have hi : i = len := by omega
          subst hi
          go_wp2
          go_roundg (n - j)
          case rel => exact ⟨j + 1, by rw [partsTo, hP0, hl, hfj], by push_cast; rfl, by omega, by omega, rfl⟩
          case measure => omega
    · have hj : j = n := by omega
      subst hj
      go_wp2
      go_ret
      refine ⟨?_, rfl⟩
      have hP := partsTo_lt hF (show 4294967295 < 4294967296 by decide) (L := L) j
      have := u32_xor_nat 4294967295 _ (by decide) hP
      rw [show ((4294967295 : Nat) : Int) = IntKind.u32.max from rfl] at this
      rw [this, Nat.xor_comm]
      rfl

theorem crcBits_eq : ∀ (k r : Nat), crcBits k r = bitsTo k r := by
  have h : ∀ (k r : Nat), bitsTo k (crcBit r) = bitsTo (k + 1) r := by
    intro k; induction k with
    | zero => intro r; rfl
    | succ k ih => intro r; show crcBit _ = crcBit _; rw [ih]
  intro k; induction k with
  | zero => intro r; rfl
  | succ k ih => intro r; rw [crcBits, forceN_eq, ih]; exact h k r
theorem bytesTo_shift (f : Nat → Nat) : ∀ (k r : Nat), bytesTo (fun i => f (i + 1)) k (bitsTo 8 (Nat.xor r (f 0))) = bytesTo f (k + 1) r
  | 0, r => rfl
  | k + 1, r => by rw [bytesTo, bytesTo_shift f k r]; rfl
theorem bytesTo_congr {f g : Nat → Nat} : ∀ (k r : Nat), (∀ i, i < k → f i = g i) → bytesTo f k r = bytesTo g k r
  | 0, r, _ => rfl
  | k + 1, r, h => by rw [bytesTo, bytesTo, bytesTo_congr k r fun i hi => h i (by omega), h k (by omega)]
theorem crcN_eq : ∀ (n x r : Nat), crcN n x r = bytesTo (fun i => byteAt x i) n r
  | 0, x, r => rfl
  | n + 1, x, r => by
    have e0 : byteAt x 0 = x % 256 := by simp [byteAt]
    have : (fun i => byteAt (Nat.div x 256) i) = fun i => byteAt x (i + 1) := by
      funext i
      have := byteAt_div x 1 i
      rw [Nat.pow_one] at this
      rw [show Nat.div x 256 = x / 256 from rfl, this, Nat.add_comm]
    rw [crcN, forceN_eq, forceN_eq, crcBits_eq, crcN_eq n, this, ← bytesTo_shift, e0]
    rfl
theorem partsTo_shift (F : Nat → Nat → Nat) (L : Nat → Nat) : ∀ (k r : Nat), partsTo (fun j => F (j + 1)) (fun j => L (j + 1)) k (bytesTo (F 0) (L 0) r) = partsTo F L (k + 1) r
  | 0, r => rfl
  | k + 1, r => by rw [partsTo, partsTo_shift F L k r]; rfl
def fOf (s : St) (l : List AV) (j : Nat) : Nat → Nat := match l[j]? with
  | some x => match bytesAt s x with
    | some (_, y) => byteAt y
    | none => fun _ => 0
  | none => fun _ => 0
def lOf (s : St) (l : List AV) (j : Nat) : Nat := match l[j]? with
  | some x => match bytesAt s x with
    | some (n, _) => n
    | none => 0
  | none => 0
theorem crcParts_eq (s : St) : ∀ (l : List AV) (r R : Nat), crcParts s l r = some R → R = partsTo (fOf s l) (lOf s l) l.length r
  | [], r, R, h => by simp only [crcParts, Option.some.injEq] at h; exact h.symm
  | x :: l, r, R, h => by
    simp only [crcParts] at h
    split at h
    · rename_i n y hxy
      rw [forceN_eq, crcN_eq] at h
      have := crcParts_eq s l _ R h
      have e0 : fOf s (x :: l) 0 = byteAt y := by simp [fOf, hxy]
      have e1 : lOf s (x :: l) 0 = n := by simp [lOf, hxy]
      rw [this, List.length_cons, ← partsTo_shift, e0, e1]
      rfl
    · cases h
theorem fOf_lt (s : St) (l : List AV) (j i : Nat) : fOf s l j i < 256 := by
  unfold fOf
  cases l[j]? with
  | none => exact Nat.zero_lt_succ _
  | some x =>
    show (match bytesAt s x with | some (_, y) => byteAt y | none => fun _ => 0) i < 256
    cases bytesAt s x with
    | none => exact Nat.zero_lt_succ _
    | some ny => exact byteAt_lt _ _
theorem crcParts_some {s : St} : ∀ {l : List AV} {r R : Nat}, crcParts s l r = some R → ∀ (j : Nat) (x : AV), l[j]? = some x → ∃ ny, bytesAt s x = some ny
  | [], r, R, h, j, x, hx => by simp at hx
  | x :: l, r, R, h, j, z, hz => by
    simp only [crcParts] at h
    split at h
    · rename_i n y hxy
      rw [forceN_eq] at h
      cases j with
      | zero => simp at hz; subst hz; exact ⟨_, hxy⟩
      | succ j => simp at hz; exact crcParts_some h j z hz
    · cases h
theorem bytesAt_ok {w0 w : World} {r : Ren} {s : St} (hw : WRel w0 r s w) {x : AV} {n y : Nat} (h : bytesAt s x = some (n, y)) {u : Value} (hu : VRel r x u) :
    ∃ a c, u = .slice a n c ∧ n ≤ 1000000 ∧ ∀ i, i < n → ∃ b, a = some b ∧ w.cell? (b.add i) = some (.int .u8 (byteAt y i : Nat)) := by
  cases x with
  | nilSlice => simp only [bytesAt, Option.some.injEq, Prod.mk.injEq] at h; obtain ⟨rfl, rfl⟩ := h; simp only [VRel] at hu; exact ⟨none, 0, hu, by omega, fun i hi => by omega⟩
  | emptySl => simp only [bytesAt, Option.some.injEq, Prod.mk.injEq] at h; obtain ⟨rfl, rfl⟩ := h; simp only [VRel] at hu; obtain ⟨a, c, hu⟩ := hu; exact ⟨some a, c, hu, by omega, fun i hi => by omega⟩
  | slice b o k c =>
    simp only [VRel] at hu; obtain ⟨p, hp, rfl⟩ := hu
    simp only [bytesAt] at h
    split at h
    · rename_i e m z opn hb
      split at h
      · rename_i hle
        simp only [Bool.and_eq_true] at hle
        have l1 := Nat.le_of_ble_eq_true hle.1
        have l2 := Nat.le_of_ble_eq_true hle.2
        cases h
        refine ⟨_, _, rfl, l2, fun i hi => ⟨_, rfl, ?_⟩⟩
        obtain ⟨_, pre, post, fz, h1, h2, h3, h4, h5⟩ := hw.own b _ p hb hp
        have hl : (u8Cells m z).length = m := by simp [u8Cells, bytesOf_length]
        rw [add_none, cell_row h1, List.append_assoc, List.getElem?_append_right (by omega), List.getElem?_append_left (by omega), show o + p.shift + i - pre.length = o + i by omega]
        simp only [u8Cells, List.getElem?_map]
        rw [bytesOf_get (by omega)]
        have e1 : byteAt (Nat.mod (Nat.div z (Nat.pow 256 o)) (Nat.pow 256 n)) i = byteAt z (o + i) := by
          rw [← byteAt_div]; exact byteAt_mod hi
        rw [e1]; rfl
      · cases h
    · cases h
  | _ => simp [bytesAt] at h

theorem kCheck_ok {w0 : World} {args : List AV} {s : St} {v : AV} {s' : St} (h : kCheck args s = some (v, s')) {r : Ren} {w : World} {vs : List Value} (hw : WRel w0 r s w) (hv : VsRel r args vs) :
    Calls Tryz.prog 91 vs.toArray w (CallPost w0 r v s') := by
  unfold kCheck at h
  split at h
  · rename_i b o n c
    obtain ⟨u, rfl, hu⟩ := hv.uno
    simp only [VRel] at hu; obtain ⟨p, hp, rfl⟩ := hu
    split at h
    · rename_i e l opn hb
      split at h
      · rename_i hle
        simp only [Bool.and_eq_true] at hle
        have l1 := Nat.le_of_ble_eq_true hle.1
        have l2 := Nat.le_of_ble_eq_true hle.2
        split at h
        · rename_i R hR
          cases h
          have hR0 := hR
          have hR := crcParts_eq s _ _ R hR
          have hlen : ((l.drop o).take n).length = n := by simp; omega
          rw [hlen] at hR
          obtain ⟨_, pre, us, post, fz, h1, h2, h3, h4, h5, h6, h7⟩ := hw.own b _ p hb hp
          have hus := h6.length
          have cellAt' : ∀ j, j < n → w.cell? ((⟨p.blk, o + p.shift, none⟩ : Addr).add j) = us[o + j]? := fun j hj => by
            rw [add_none, cell_row h1, List.append_assoc, List.getElem?_append_right (by omega), List.getElem?_append_left (by omega), show o + p.shift + j - pre.length = o + j by omega]
          let pa : Nat → Option Addr := fun j => match us[o + j]? with | some (.slice a _ _) => a | _ => none
          let C : Nat → Nat := fun j => match us[o + j]? with | some (.slice _ _ c) => c | _ => 0
          have key : ∀ j, j < n → us[o + j]? = some (.slice (pa j) (lOf s ((l.drop o).take n) j) (C j)) ∧ lOf s ((l.drop o).take n) j ≤ 1000000 ∧
              ∀ i, i < lOf s ((l.drop o).take n) j → ∃ b, pa j = some b ∧ w.cell? (b.add i) = some (.int .u8 (fOf s ((l.drop o).take n) j i : Nat)) := fun j hj => by
            have hx : ∃ x, l[o + j]? = some x := ⟨_, List.getElem?_eq_getElem (show o + j < l.length by omega)⟩
            obtain ⟨x, hx⟩ := hx
            have hxt : ((l.drop o).take n)[j]? = some x := by rw [List.getElem?_take_of_lt hj, List.getElem?_drop]; exact hx
            obtain ⟨⟨m, y⟩, hny⟩ := crcParts_some hR0 j x hxt
            obtain ⟨u, hu, hr⟩ := h6.get hx
            obtain ⟨a, c', rfl, k1, k2⟩ := bytesAt_ok hw hny hr
            have e1 : lOf s ((l.drop o).take n) j = m := by simp only [lOf, hxt, hny]
            have e2 : fOf s ((l.drop o).take n) j = byteAt y := by simp only [fOf, hxt, hny]
            have e3 : pa j = a := by show (match us[o + j]? with | some (.slice a _ _) => a | _ => none) = a; rw [hu]
            have e4 : C j = c' := by show (match us[o + j]? with | some (.slice _ _ c) => c | _ => 0) = c'; rw [hu]
            rw [e1, e2, e3, e4]
            exact ⟨hu, k1, k2⟩
          have hh := check_walk w ⟨p.blk, o + p.shift, none⟩ n (c + p.more) pa (lOf s ((l.drop o).take n)) C (fOf s ((l.drop o).take n)) (fOf_lt s _) l2
            (fun j hj => by rw [cellAt' j hj]; exact (key j hj).1) (fun j hj => (key j hj).2.1) (fun j hj => (key j hj).2.2)
          refine hh.mono ?_
          rintro e w1 ⟨rfl, rfl⟩
          exact ⟨r, Ren.le_refl r, by simp only [VRel]; rw [hR]; rfl, hw⟩
        · cases h
      · cases h
    · cases h
  · cases h
end
end Go.X

/- Part of the proof. -/
namespace Go.X
noncomputable section
open Go.Extern.Rtype Go.RowKit Go.Proofs Go.Extern.Stop Go.Stop Go.Extern
set_option linter.unusedVariables false
set_option linter.unusedSimpArgs false

theorem isTypeOf (v : Value) (w : World) : (Extern.ReflectliteType.typeOf #[.iface 29 v]).run Tryz.prog w = .ok (.iface 305 (.agg #[.pointer (some ⟨6, 29, none⟩)])) w := by kernel_rfl
theorem isComparable (w : World) : ((Extern.ReflectliteType.method fun t => do noPackHeld "Comparable" t; pure (.bool (← typeInfo t).comparable)) #[.agg #[.pointer (some ⟨6, 29, none⟩)]]).run Tryz.prog w = .ok (.bool true) w := by kernel_rfl
theorem isMethodComparable (v : Value) (w : World) : (Go.method 590 305 v "Comparable").run Tryz.prog w = .ok (386, v) w := by kernel_rfl
theorem noIsE (v : Value) (xT : TypeId) (w : World) : (Instr.typeAssert (.iface 29 v) xT 307 true).run Tryz.prog w = .ok (.tuple #[.nilIface, .bool false]) w := run_typeAssert_lacksB Tryz.underlying307 (by kernel_rfl) (by kernel_rfl) v xT w
theorem noUnwrapE (v : Value) (xT : TypeId) (w : World) : (Instr.typeAssert (.iface 29 v) xT 310 true).run Tryz.prog w = .ok (.tuple #[.nilIface, .bool false]) w := run_typeAssert_lacksB Tryz.underlying310 (by kernel_rfl) (by kernel_rfl) v xT w
theorem noUnwrapsE (v : Value) (xT : TypeId) (w : World) : (Instr.typeAssert (.iface 29 v) xT 311 true).run Tryz.prog w = .ok (.tuple #[.nilIface, .bool false]) w := run_typeAssert_lacksB Tryz.underlying311 (by kernel_rfl) (by kernel_rfl) v xT w
theorem isComp37 : (Tryz.prog.info? 29).map (·.comparable) = some true := by kernel_rfl

set_option maxRecDepth 1000000 in
set_option maxHeartbeats 4000000 in
theorem is_walk (w : World) (x y : Int) :
    Calls Tryz.prog 130 #[.iface 29 (.int .i64 x), .iface 29 (.int .i64 y), .bool true] w fun e w' => e = .returned (.bool (x == y)) ∧ w' = w := by
  have heq := Lib.run_eql_iface_int (P := Tryz.prog) w (k := .i64) x y Tryz.underlying24 isComp37 Tryz.underlying29
  have nE := noIsE
  have uE := noUnwrapE
  have vE := noUnwrapsE
  go_enter Tryz.func130, Tryz.ntmps130
  go_wp2
  go_loopw [0] (fun E' wl => wl = w ∧ E' = .iface 29 (.int .i64 x)) (fun _ _ => 0)
  case atStart => exact ⟨rfl, rfl⟩
  case round =>
    obtain ⟨rfl, rfl⟩ := hrel
    by_cases hxy : x = y
    · subst hxy
      have e1 : (x == x) = true := by simp
      rw [e1] at heq
      go_wp2
      go_ret
      exact ⟨by rw [e1]; rfl, rfl⟩
    · have e1 : (x == y) = false := by simpa using hxy
      rw [e1] at heq
      go_wp2
      go_ret
      exact ⟨by rw [e1]; rfl, rfl⟩

theorem ext101 (v : Value) (w : World) : (callFunc 129 #[.iface 29 v]).run Tryz.prog w = .ok (.value (.iface 305 (.agg #[.pointer (some ⟨6, 29, none⟩)]))) w := by
  obtain ⟨fn, k1, k2, k3, k4, k5⟩ : ∃ fn, Tryz.prog.funcs[129]? = some fn ∧ (fn.name == "runtime.NumGoroutine") = false ∧ fn.body.isNone = true ∧ Extern.findNext fn = none ∧ Extern.find fn = some Extern.ReflectliteType.typeOf := ⟨_, Tryz.func129, by kernel_rfl, by kernel_rfl, by kernel_rfl, by kernel_rfl⟩
  rw [run_callFunc_extern k1 k2 k3 k4 k5, isTypeOf]; rfl
theorem ext390 (w : World) : (callFunc 386 #[.agg #[.pointer (some ⟨6, 29, none⟩)]]).run Tryz.prog w = .ok (.value (.bool true)) w := by
  obtain ⟨fn, k1, k2, k3, k4, k5⟩ : ∃ fn, Tryz.prog.funcs[386]? = some fn ∧ (fn.name == "runtime.NumGoroutine") = false ∧ fn.body.isNone = true ∧ Extern.findNext fn = none ∧ Extern.find fn = some (Extern.ReflectliteType.method fun t => do noPackHeld "Comparable" t; pure (.bool (← typeInfo t).comparable)) := ⟨_, Tryz.func386, by kernel_rfl, by kernel_rfl, by kernel_rfl, by kernel_rfl⟩
  rw [run_callFunc_extern k1 k2 k3 k4 k5, isComparable]; rfl

set_option maxRecDepth 1000000 in
set_option maxHeartbeats 4000000 in
theorem Is_walk (w : World) (x y : Int) :
    Calls Tryz.prog 100 #[.iface 29 (.int .i64 x), .iface 29 (.int .i64 y)] w fun e w' => e = .returned (.bool (x == y)) ∧ w' = w := by
  have h1 := ext101 (.int .i64 y)
  have h2 := ext390
  have h3 := isMethodComparable
  have h4 := is_walk w x y
  go_enter Tryz.func100, Tryz.ntmps100
  go_wp2_with fail
  refine h4.mono ?_
  rintro e w1 ⟨rfl, rfl⟩
  go_wp2
  go_ret
  exact ⟨rfl, rfl⟩
set_option maxRecDepth 1000000 in
theorem Is_ni (w : World) (x : Int) : Calls Tryz.prog 100 #[.nilIface, .iface 29 (.int .i64 x)] w fun e w' => e = .returned (.bool false) ∧ w' = w := by
  have heq : (binOp .eql 24 .nilIface (.iface 29 (.int .i64 x))).run Tryz.prog w = .ok (.bool false) w := by
    exact (bin_eql (fun _ _ _ _ h _ => by cases h) (aEq_ok (d := 9998) (r := ⟨fun _ => none, 0⟩) (x := .nilIface) (y := .iface 29 (.int .i64 x)) (b := false) (by kernel_rfl) (by simp only [VRel]) (by simp only [VRel]; exact ⟨_, rfl, rfl⟩)) (fun _ _ h _ => by cases h) (fun _ _ _ _ h _ => by cases h) (fun _ _ _ _ _ _ h _ => by cases h)).1
  go_enter Tryz.func100, Tryz.ntmps100
  go_wp2
  go_ret
  exact ⟨rfl, rfl⟩
set_option maxRecDepth 1000000 in
theorem Is_in (w : World) (x : Int) : Calls Tryz.prog 100 #[.iface 29 (.int .i64 x), .nilIface] w fun e w' => e = .returned (.bool false) ∧ w' = w := by
  have heq : (binOp .eql 24 (.iface 29 (.int .i64 x)) .nilIface).run Tryz.prog w = .ok (.bool false) w := by kernel_rfl
  go_enter Tryz.func100, Tryz.ntmps100
  go_wp2
  go_ret
  exact ⟨rfl, rfl⟩
theorem kIs_ok {w0 : World} {args : List AV} {s : St} {v : AV} {s' : St} (h : kIs 29 args s = some (v, s')) {r : Ren} {w : World} {vs : List Value} (hw : WRel w0 r s w) (hv : VsRel r args vs) :
    Calls Tryz.prog 100 vs.toArray w (CallPost w0 r v s') := by
  have fin : ∀ q : Bool, s' = s → v = .bool q → Calls Tryz.prog 100 vs.toArray w (fun e w' => e = .returned (.bool q) ∧ w' = w) → Calls Tryz.prog 100 vs.toArray w (CallPost w0 r v s') := fun q h1 h2 hc => by
    subst h1; subst h2
    refine hc.mono ?_
    rintro e w1 ⟨rfl, rfl⟩
    exact ⟨r, Ren.le_refl r, by simp only [VRel], hw⟩
  unfold kIs at h
  split at h
  · rename_i t x
    obtain ⟨u, z, rfl, hu, hz⟩ := hv.two
    simp only [VRel] at hu hz; obtain ⟨z, rfl, rfl⟩ := hz; subst hu
    split at h
    · rename_i ht
      have ht := Nat.eq_of_beq_eq_true ht
      subst ht
      cases h
      exact fin false rfl rfl (Is_ni w x)
    · cases h
  · rename_i t x
    obtain ⟨u, z, rfl, hu, hz⟩ := hv.two
    simp only [VRel] at hu hz; obtain ⟨u, rfl, rfl⟩ := hu; subst hz
    split at h
    · rename_i ht
      have ht := Nat.eq_of_beq_eq_true ht
      subst ht
      cases h
      exact fin false rfl rfl (Is_in w x)
    · cases h
  · rename_i t x t' y
    obtain ⟨u, z, rfl, hu, hz⟩ := hv.two
    simp only [VRel] at hu hz; obtain ⟨u, rfl, rfl⟩ := hu; obtain ⟨z, rfl, rfl⟩ := hz
    split at h
    · rename_i ht
      simp only [Bool.and_eq_true] at ht
      have h1 := Nat.eq_of_beq_eq_true ht.1
      have h2 := Nat.eq_of_beq_eq_true ht.2
      subst h1; subst h2
      cases h
      refine fin (ieq x y) rfl rfl ?_
      have := Is_walk w x y
      rw [ieq_eq]
      exact this
    · cases h
  · cases h
end
end Go.X

/- Part of the proof. -/
namespace Go.X
noncomputable section
open Go.RowKit Go.Proofs Go.MapKept
set_option linter.unusedVariables false
set_option linter.unusedSimpArgs false

/-- Looking a key up answers something. -/
theorem lookup_any {P : Program} {w : World} {t kt et : TypeId} {k : IntKind} (hD : P.underlying t = some (.map kt et)) (hk : P.underlying kt = some (.int k)) {n : Nat} {es : Array MapEntry} {clk : Nat} (hn : w.heap[n]? = some (.map es clk))
    (hks : ∀ x ∈ es.toList, IsKey (.int k) x.key) {q : Int} {z : Value} (hz : (zeroValue et).run P w = .ok z w) : ∃ u, (Instr.lookup t (.map (some n)) (.int k q) false).run P w = .ok u w := by
  have hq : IsKey (.int k) (.int k q) := rfl
  rcases findNow_spec hq es.toList 0 hks with ⟨h1, _⟩ | ⟨j, e, h1, _, _⟩
  · exact ⟨z, by simp [Instr.lookup, run_underlying hD, MapKept.run_getObj_map hn, run_checkKey hk hq, run_findKey hk h1, hz]⟩
  · exact ⟨e.val, by simp [Instr.lookup, run_underlying hD, MapKept.run_getObj_map hn, run_checkKey hk hq, run_findKey hk h1]⟩

theorem isKey_push {d : TypeDesc} {es : Array MapEntry} {e : MapEntry} (h : ∀ x ∈ es.toList, IsKey d x.key) (he : IsKey d e.key) : ∀ x ∈ (es.push e).toList, IsKey d x.key := fun x hx => by
  rw [Array.toList_push, List.mem_append] at hx
  rcases hx with hx | hx
  · exact h x hx
  · simp at hx; subst hx; exact he

theorem update_any {P : Program} {w : World} {t kt et : TypeId} {k : IntKind} (hD : P.underlying t = some (.map kt et)) (hk : P.underlying kt = some (.int k)) {n : Nat} {es : Array MapEntry} {clk : Nat} (hn : w.heap[n]? = some (.map es clk))
    (hs : Stamped es clk) (hks : ∀ x ∈ es.toList, IsKey (.int k) x.key) {q : Int} {v : Value} :
    ∃ es' clk', (Instr.mapUpdate t (.map (some n)) (.int k q) v).run P w = .ok () { w with heap := w.heap.setIfInBounds n (.map es' clk') } ∧ Stamped es' clk' ∧ ∀ x ∈ es'.toList, IsKey (.int k) x.key := by
  have hq : IsKey (.int k) (.int k q) := rfl
  rcases findNow_spec hq es.toList 0 hks with ⟨h1, h2⟩ | ⟨j, e, h1, h2, h3⟩
  · refine ⟨es.push ⟨.int k q, v, clk⟩, clk + 1, ?_, stamped_push hs h2, isKey_push hks hq⟩
    simp [Instr.mapUpdate, run_underlying hD, MapKept.run_getObj_map hn, MapKept.run_checkKey hk hq, MapKept.run_findKey hk h1, MapKept.run_setObj_map _ hn]
  · have e3' : es[j]? = some e := by rw [← Array.getElem?_toList]; exact h2
    have h1' : Instr.findNow (.int k) (.int k q) es.toList 0 = some (some (j, e.val)) := by simpa using h1
    refine ⟨es.modify j fun e => { e with key := .int k q, val := v }, clk, ?_, ?_, ?_⟩
    · simp [Instr.mapUpdate, run_underlying hD, MapKept.run_getObj_map hn, MapKept.run_checkKey hk hq, MapKept.run_findKey hk h1', e3', h3, MapKept.run_keyThatStays hq, MapKept.run_setObj_map _ hn]
    · exact stamped_modify hs j _ (fun e _ => rfl) (fun e' _ he => by rw [e3'] at he; injection he with he; subst he; exact h3.symm)
    · exact isKey_modify hks j _ (fun e' he => by rw [e3'] at he; injection he with he; subst he; exact h3.symm)

structure Settled (w w' : World) (y : Nat) : Prop where
  os : w'.os = w.os
  tape : w'.tape = w.tape
  out : w'.output = w.output
  size : w'.heap.size = w.heap.size + 1
  heap : ∀ k, k < w.heap.size → k ≠ y → w'.heap[k]? = w.heap[k]?

theorem Settled.cell {w w' : World} {y : Nat} (h : Settled w w' y) {es : Array MapEntry} {clk : Nat} (hy : w.heap[y]? = some (.map es clk)) {a : Addr} {v : Value} (hc : w.cell? a = some v) : w'.cell? a = some v := by
  unfold World.cell? at hc
  split at hc
  · rename_i c t fz hb
    have hlt : a.block < w.heap.size := (Array.getElem?_eq_some_iff.1 hb).1
    have e : w'.heap[a.block]? = w.heap[a.block]? := h.heap _ hlt fun e => by rw [e] at hb; rw [hy] at hb; injection hb with hb; cases hb
    unfold World.cell?
    rw [e, hb]
    exact hc
  · cases hc

theorem zero212 : (aZero Tryz.prog 187).isSome = true := by kernel_rfl

structure SetInv (w : World) (c y : Nat) (esC : Array MapEntry) (clkC : Nat) (kq : Nat) (w' : World) : Prop where
  settled : Settled w w' y
  iter : ∃ seen c0, w'.heap[w.heap.size]? = some (.mapIter (some c) clkC seen c0) ∧ clkC ≤ c0 ∧ (leftOf esC seen).size < kq
  yy : ∃ esY clkY, w'.heap[y]? = some (.map esY clkY) ∧ Stamped esY clkY ∧ ∀ x ∈ esY.toList, IsKey (.int .i64) x.key

theorem set_start {w : World} {y c : Nat} {esY esC : Array MapEntry} {clkY clkC : Nat} (hyY : w.heap[y]? = some (.map esY clkY)) (kY : ∀ x ∈ esY.toList, IsKey (.int .i64) x.key) (sY : Stamped esY clkY) :
    SetInv w c y esC clkC ((leftOf esC #[]).size + 1) (w.alloc (.mapIter (some c) clkC #[] clkC)) := by
  have hlt : y < w.heap.size := (Array.getElem?_eq_some_iff.1 hyY).1
  exact ⟨⟨rfl, rfl, rfl, by show (w.heap.push _).size = _; simp, fun k hk _ => heap_alloc_old w _ hk⟩, ⟨#[], clkC, heap_alloc_new w _, Nat.le_refl _, Nat.lt_succ_self _⟩, ⟨esY, clkY, by rw [heap_alloc_old w _ hlt]; exact hyY, sY, kY⟩⟩

theorem set_round {w w' : World} {n y c kq : Nat} {esN esY esC : Array MapEntry} {clkN clkY clkC : Nat} (hI : SetInv w c y esC clkC kq w') (hnN : w.heap[n]? = some (.map esN clkN)) (hyY : w.heap[y]? = some (.map esY clkY)) (hcC : w.heap[c]? = some (.map esC clkC))
    (kN : ∀ x ∈ esN.toList, IsKey (.int .i64) x.key) (kC : ∀ x ∈ esC.toList, IsKey (.int .i64) x.key) (sC : Stamped esC clkC) (hny : n ≠ y) (hcy : c ≠ y) (ty : TypeId) :
    (Instr.next (.pointer (some ⟨w.heap.size, 0, none⟩)) false ty).run Tryz.prog w' = .ok (.tuple #[.bool false]) w' ∨
    ∃ w2 x v, (Instr.next (.pointer (some ⟨w.heap.size, 0, none⟩)) false ty).run Tryz.prog w' = .ok (.tuple #[.bool true, .int .i64 x, v]) w2 ∧
      (Instr.entry (.pointer (some ⟨w.heap.size, 0, none⟩))).run Tryz.prog w2 = .ok (.tuple #[.int .i64 x, v]) w2 ∧
      Settled w w2 y ∧
      ∃ u, (Instr.lookup 95 (.map (some n)) (.int .i64 x) false).run Tryz.prog w2.drew = .ok u w2.drew ∧
      ∃ w3, (Instr.mapUpdate 95 (.map (some y)) (.int .i64 x) u).run Tryz.prog w2.drew = .ok () w3 ∧ ∃ k', k' < kq ∧ SetInv w c y esC clkC k' w3 := by
  obtain ⟨hS, ⟨seen, c0, hr, hsc, hleft⟩, ⟨es1, clk1, h1, s1, k1⟩⟩ := hI
  have hlc : c < w.heap.size := (Array.getElem?_eq_some_iff.1 hcC).1
  have hln : n < w.heap.size := (Array.getElem?_eq_some_iff.1 hnN).1
  have hly : y < w.heap.size := (Array.getElem?_eq_some_iff.1 hyY).1
  have hb : w'.heap[c]? = some (.map esC clkC) := by rw [hS.heap c hlc hcy]; exact hcC
  rcases run_next_at (P := Tryz.prog) w' ty w.heap.size c clkC c0 seen esC clkC hr hb sC.1 hsc with ⟨_, h⟩ | ⟨e, he, w1, hw1, h⟩
  · exact .inl h
  · refine .inr ?_
    have heC : e ∈ esC.toList := by
      unfold leftOf at he; simp at he; simpa using he.1
    have hk := kC e heC
    obtain ⟨x, hx⟩ : ∃ x, e.key = .int .i64 x := by
      cases hh : e.key <;> rw [hh] at hk <;> simp [IsKey] at hk
      subst hk; exact ⟨_, rfl⟩
    have hw1h : w1.heap = w'.heap := by rcases hw1 with rfl | rfl <;> rfl
    have hw1o : w1.os = w'.os ∧ w1.tape = w'.tape ∧ w1.output = w'.output := by rcases hw1 with rfl | rfl <;> exact ⟨rfl, rfl, rfl⟩
    have g2 : (ChangeMaps.setBlock w1 w.heap.size (.mapIter (some c) clkC (seen.push e.born) clkC)).heap = w'.heap.setIfInBounds w.heap.size (.mapIter (some c) clkC (seen.push e.born) clkC) := by
      show w1.heap.setIfInBounds _ _ = _; rw [hw1h]
    generalize hw2 : ChangeMaps.setBlock w1 w.heap.size (.mapIter (some c) clkC (seen.push e.born) clkC) = w2 at h g2
    have o2 : w2.os = w'.os ∧ w2.tape = w'.tape ∧ w2.output = w'.output := by subst hw2; exact hw1o
    have same : ∀ k, k ≠ w.heap.size → w2.heap[k]? = w'.heap[k]? := fun k hk => by rw [g2]; exact (heap_set hr).2 k hk
    have hr2 : w2.heap[w.heap.size]? = some (.mapIter (some c) clkC (seen.push e.born) clkC) := by rw [g2]; exact (heap_set hr).1
    have hS2 : Settled w w2 y := ⟨o2.1.trans hS.os, o2.2.1.trans hS.tape, o2.2.2.trans hS.out, by rw [g2]; simpa using hS.size, fun k hk hky => by rw [same k (by omega)]; exact hS.heap k hk hky⟩
    have hb2 : w2.heap[c]? = some (.map esC clkC) := by rw [same c (by omega)]; exact hb
    have hn2 : w2.heap[n]? = some (.map esN clkN) := by rw [hS2.heap n hln hny]; exact hnN
    have hy2 : w2.heap[y]? = some (.map es1 clk1) := by rw [same y (by omega)]; exact h1
    have hen := run_entry_at (P := Tryz.prog) w2 w.heap.size c clkC seen esC clkC e hr2 hb2 heC sC.2.1
    obtain ⟨z212, hz212, _⟩ := aZero_ok (P := Tryz.prog) (Option.eq_some_of_isSome zero212)
    obtain ⟨u, hu⟩ := lookup_any (P := Tryz.prog) (w := w2.drew) (t := 95) Tryz.underlying95 Tryz.underlying3 hn2 kN (q := x) (hz212 w2.drew)
    obtain ⟨es', clk', hup, su, ku⟩ := update_any (P := Tryz.prog) (w := w2.drew) (t := 95) Tryz.underlying95 Tryz.underlying3 hy2 s1 k1 (q := x) (v := u)
    rw [hx] at h hen
    refine ⟨w2, x, e.val, h, hen, hS2, u, hu, _, hup, (leftOf esC seen).size, hleft, ?_, ?_, ?_⟩
    · exact ⟨hS2.os, hS2.tape, hS2.out, by simpa using hS2.size, fun k hk hky => by
        rw [show ({ w2.drew with heap := w2.drew.heap.setIfInBounds y (.map es' clk') } : World).heap[k]? = w2.heap[k]? from (heap_set hy2).2 k hky]; exact hS2.heap k hk hky⟩
    · refine ⟨seen.push e.born, clkC, ?_, Nat.le_refl _, ?_⟩
      · rw [show ({ w2.drew with heap := w2.drew.heap.setIfInBounds y (.map es' clk') } : World).heap[w.heap.size]? = w2.heap[w.heap.size]? from (heap_set hy2).2 _ (by omega)]; exact hr2
      · exact left_shrinks esC seen e he
    · exact ⟨es', clk', (heap_set hy2).1, su, ku⟩

set_option maxHeartbeats 8000000 in
set_option maxRecDepth 100000 in
theorem settle_walk (w : World) (b o n y c : Nat) (esN esY esC : Array MapEntry) (clkN clkY clkC : Nat) (hnN : w.heap[n]? = some (.map esN clkN)) (hyY : w.heap[y]? = some (.map esY clkY)) (hcC : w.heap[c]? = some (.map esC clkC))
    (kN : ∀ x ∈ esN.toList, IsKey (.int .i64) x.key) (kY : ∀ x ∈ esY.toList, IsKey (.int .i64) x.key) (kC : ∀ x ∈ esC.toList, IsKey (.int .i64) x.key) (sY : Stamped esY clkY) (sC : Stamped esC clkC) (hny : n ≠ y) (hcy : c ≠ y)
    (h6 : w.cell? ⟨b, o + 6, none⟩ = some (.map (some n))) (h7 : w.cell? ⟨b, o + 7, none⟩ = some (.map (some y))) (h8 : w.cell? ⟨b, o + 8, none⟩ = some (.map (some c))) :
    Calls Tryz.prog 84 #[.pointer (some ⟨b, o, none⟩)] w fun e w' => e = .returned (.tuple #[]) ∧ ∃ w1 : World, Settled w w1 y ∧ (∃ esY clkY, w1.heap[y]? = some (.map esY clkY) ∧ Stamped esY clkY ∧ ∀ x ∈ esY.toList, IsKey (.int .i64) x.key) ∧ w' = { w1 with heap := w1.heap.setIfInBounds c (.map #[] clkC) } := by
  go_enter Tryz.func84, Tryz.ntmps84
  have hr0 := run_range_map (P := Tryz.prog) w 78 3 3 c esC clkC Tryz.underlying78 hcC
  have hs0 := set_start (c := c) (esC := esC) (clkC := clkC) hyY kY sY
  go_wp2
  go_loopg [2] ((leftOf esC #[]).size + 1) (fun kq v2 w' => SetInv w c y esC clkC kq w')
  case atStart => exact hs0
  case round =>
    have hS := hrel.settled
    rcases set_round hrel hnN hyY hcC kN kC sC hny hcy 0 with hn | ⟨w2, x, v, hn, hen, hS2, u, hu, w3, hup, k', hk', hI⟩
    · have hc' : wr.heap[c]? = some (.map esC clkC) := by rw [hS.heap c (Array.getElem?_eq_some_iff.1 hcC).1 hcy]; exact hcC
      have hcl : (Builtin.clear_ #[78] 0 #[.map (some c)]).run Tryz.prog wr = .ok (.tuple #[]) { wr with heap := wr.heap.setIfInBounds c (.map #[] clkC) } := by
        simp [Builtin.clear_, run_underlying Tryz.underlying78, MapKept.run_getObj_map hc', MapKept.run_setObj_map _ hc']
      have h8' := hS.cell hyY h8
      go_wp2
      exact ⟨rfl, _, results_none rfl _ _ _, rfl, _, hS, hrel.yy, rfl⟩
    · have h6' := hS2.cell hyY h6
      have h7' := hS2.cell hyY h7
      go_wp2
      go_region
      go_wp2
      go_roundg k'
      case rel => exact hI
      case measure => exact hk'

theorem WRel.turned {w0 w w' : World} {r : Ren} {s : St} (hw : WRel w0 r s w) {y c : Nat} {oc oy o' o'' : AObj} {pc py : Place} (hc : s.at c = some oc) (hpc : r c = some pc) (hy : s.at y = some oy) (hpy : r y = some py) (hyc : y ≠ c) (hb : Below w0.heap.size w0 w')
    (hk : ∀ b o p, s.at b = some o → r b = some p → b ≠ y → b ≠ c → w'.heap[p.blk]? = w.heap[p.blk]?) (hx : ObjRel r o' pc w'.heap[pc.blk]?) (hz : ObjRel r o'' py w'.heap[py.blk]?) : WRel w0 r ((s.set y o'').set c o') w' := by
  have hcs : c < 2 ^ HD := hw.lt hpc
  have hys : y < 2 ^ HD := hw.lt hpy
  have back : ∀ d od pd, ((s.set y o'').set c o').at d = some od → r d = some pd → (d = c ∧ od = o') ∨ (d = y ∧ od = o'') ∨ (d ≠ c ∧ d ≠ y ∧ s.at d = some od) := fun d od pd hd hpd => by
    have hdl := hw.lt hpd
    by_cases e : d = c
    · subst e; rw [St.at_set_same] at hd; injection hd with hd; exact .inl ⟨rfl, hd.symm⟩
    · rw [St.at_set_other _ _ hcs hdl (Ne.symm e)] at hd
      by_cases e' : d = y
      · subst e'; rw [St.at_set_same] at hd; injection hd with hd; exact .inr (.inl ⟨rfl, hd.symm⟩)
      · rw [St.at_set_other s _ hys hdl (Ne.symm e')] at hd
        exact .inr (.inr ⟨e, e', hd⟩)
  have old : ∀ d od pd, ((s.set y o'').set c o').at d = some od → r d = some pd → ∃ o1, s.at d = some o1 := fun d od pd hd hpd => by
    rcases back d od pd hd hpd with ⟨rfl, _⟩ | ⟨rfl, _⟩ | ⟨_, _, h⟩
    · exact ⟨_, hc⟩
    · exact ⟨_, hy⟩
    · exact ⟨_, h⟩
  refine ⟨hb, by rw [St.set_next, St.set_next]; exact hw.bound, by rw [St.set_next, St.set_next]; exact hw.next, fun d pd hd => by rw [St.set_next, St.set_next]; exact hw.fresh d pd hd, fun d od pd hd hpd => ?_, fun d d' o1 o2 p1 p2 k1 k2 k3 k4 k5 => ?_⟩
  · rcases back d od pd hd hpd with ⟨rfl, rfl⟩ | ⟨rfl, rfl⟩ | ⟨n1, n2, h⟩
    · rw [hpc] at hpd; injection hpd with hpd; subst hpd
      exact ⟨(hw.own d _ pc hc hpc).1, hx⟩
    · rw [hpy] at hpd; injection hpd with hpd; subst hpd
      exact ⟨(hw.own d _ py hy hpy).1, hz⟩
    · obtain ⟨i1, i2⟩ := hw.own d od pd h hpd
      exact ⟨i1, by rw [hk d od pd h hpd n2 n1]; exact i2⟩
  · obtain ⟨_, e1⟩ := old d o1 p1 k1 k3
    obtain ⟨_, e2⟩ := old d' o2 p2 k2 k4
    exact hw.apart d d' _ _ p1 p2 e1 e2 k3 k4 k5

theorem intMap_ok {w0 w : World} {r : Ren} {s : St} (hw : WRel w0 r s w) {b : Nat} (h : intMap (s.at b) = true) {p : Place} (hp : r b = some p) :
    ∃ o es clk, s.at b = some o ∧ w.heap[p.blk]? = some (.map es clk) ∧ p.shift = 0 ∧ p.more = 0 ∧ Stamped es clk ∧ ∀ x ∈ es.toList, IsKey (.int .i64) x.key := by
  unfold intMap at h
  split at h
  · rename_i hb
    obtain ⟨_, es, clk, x1, x2, x3, m⟩ := hw.own b _ p hb hp
    exact ⟨_, es, clk, hb, x1, x2, x3, m.stamped, m.keys⟩
  · rename_i hb
    obtain ⟨_, es, clk, x1, x2, x3, m1, m2⟩ := hw.own b _ p hb hp
    exact ⟨_, es, clk, hb, x1, x2, x3, m1, m2⟩
  · cases h

theorem kSettle_ok {w0 : World} {args : List AV} {s : St} {v : AV} {s' : St} (h : kSettle args s = some (v, s')) {r : Ren} {w : World} {vs : List Value} (hw : WRel w0 r s w) (hv : VsRel r args vs) :
    Calls Tryz.prog 84 vs.toArray w (CallPost w0 r v s') := by
  unfold kSettle at h
  split at h
  · rename_i b o
    obtain ⟨u, rfl, hu⟩ := hv.uno
    simp only [VRel] at hu; obtain ⟨p, hp, rfl⟩ := hu
    split at h
    · rename_i e l opn hb
      split at h
      · rename_i n hl6
        split at h
        · rename_i y hl7
          split at h
          · rename_i c hl8
            split at h
            · rename_i lC cC hn hy hc
              split at h
              · rename_i hd
                cases h
                simp only [Bool.and_eq_true, Bool.not_eq_true'] at hd
                have hyc : y ≠ c := fun e => by rw [e, Nat.beq_refl] at hd; cases hd.1
                have hyn : y ≠ n := fun e => by rw [e, Nat.beq_refl] at hd; cases hd.2
                obtain ⟨_, pre, us, post, fz, h1, h2, h3, h4, h5, h6, h7⟩ := hw.own b _ p hb hp
                have cellAt' : ∀ j x, us[o + j]? = some x → w.cell? ⟨p.blk, o + p.shift + j, none⟩ = some x := fun j x hx => by
                  have : o + j < us.length := (List.getElem?_eq_some_iff.1 hx).1
                  rw [cell_row h1, List.append_assoc, List.getElem?_append_right (by omega), List.getElem?_append_left (by omega), show o + p.shift + j - pre.length = o + j by omega]
                  exact hx
                obtain ⟨u6, g6, r6⟩ := h6.get hl6
                obtain ⟨u7, g7, r7⟩ := h6.get hl7
                obtain ⟨u8, g8, r8⟩ := h6.get hl8
                simp only [VRel] at r6 r7 r8
                obtain ⟨pn, hpn, rfl⟩ := r6
                obtain ⟨py, hpy, rfl⟩ := r7
                obtain ⟨pc, hpc, rfl⟩ := r8
                obtain ⟨on, esN, clkN, hn, xn, _, _, sN, kN⟩ := intMap_ok hw hn hpn
                obtain ⟨oy, esY, clkY, hy, xy, shy, mry, sY, kY⟩ := intMap_ok hw hy hpy
                obtain ⟨bc, esC, clkC, xc, sh, mr, mc⟩ := hw.own c _ pc hc hpc
                have apart : ∀ b' o' p', s.at b' = some o' → r b' = some p' → b' ≠ y → p'.blk ≠ py.blk := fun b' o' p' k1 k2 k3 e => k3 (hw.apart b' y _ _ p' py k1 hy k2 hpy e)
                have hh := settle_walk w p.blk (o + p.shift) pn.blk py.blk pc.blk esN esY esC clkN clkY clkC xn xy xc kN kY mc.keys sY mc.stamped (apart n _ pn hn hpn (Ne.symm hyn)) (apart c _ pc hc hpc (Ne.symm hyc))
                  (cellAt' 6 _ g6) (cellAt' 7 _ g7) (cellAt' 8 _ g8)
                refine hh.mono ?_
                rintro e w' ⟨rfl, w1, hS, ⟨esY', clkY', y1, y2, y3⟩, rfl⟩
                refine ⟨r, Ren.le_refl r, undefTup, ?_⟩
                have hlc : pc.blk < w.heap.size := (Array.getElem?_eq_some_iff.1 xc).1
                have hcy' := apart c _ pc hc hpc (Ne.symm hyc)
                have by_ := (hw.own y _ py hy hpy).1
                have h1c : w1.heap[pc.blk]? = some (.map esC clkC) := by rw [hS.heap _ hlc hcy']; exact xc
                refine hw.turned hc hpc hy hpy hyc (hw.below.trans ⟨hS.os, hS.tape, hS.out, ?_, fun k hk => ?_⟩) (fun b' o' p' k1 k2 k3 k4 => ?_) ?_ ?_
                · have := hS.size; simp; omega
                · rw [show ({ w1 with heap := w1.heap.setIfInBounds pc.blk (.map #[] clkC) } : World).heap[k]? = w1.heap[k]? from (heap_set h1c).2 k (by omega)]
                  have := hw.below.size
                  exact hS.heap k (by omega) (by omega)
                · have l1 := hw.lives k1 k2
                  have n1 := apart b' o' p' k1 k2 k3
                  have n2 : p'.blk ≠ pc.blk := fun e => k4 (hw.apart b' c _ _ p' pc k1 hc k2 hpc e)
                  rw [show ({ w1 with heap := w1.heap.setIfInBounds pc.blk (.map #[] clkC) } : World).heap[p'.blk]? = w1.heap[p'.blk]? from (heap_set h1c).2 _ n2]
                  exact hS.heap _ l1 n1
                · exact ⟨#[], clkC, (heap_set h1c).1, sh, mr, ⟨stamped_empty clkC, by simp, mc.known, [], .refl _, trivial⟩⟩
                · exact ⟨esY', clkY', by rw [show ({ w1 with heap := w1.heap.setIfInBounds pc.blk (.map #[] clkC) } : World).heap[py.blk]? = w1.heap[py.blk]? from (heap_set h1c).2 _ (fun e => hcy' e.symm)]; exact y1, shy, mry, y2, y3⟩
              · cases h
            · cases h
          · cases h
        · cases h
      · cases h
    · cases h
  · cases h
end
end Go.X
