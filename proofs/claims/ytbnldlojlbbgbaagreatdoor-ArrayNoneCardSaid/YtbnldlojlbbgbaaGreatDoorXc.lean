/- Addresses, slices of rows, make, copy. -/
import Derived.Test.YtbnldlojlbbgbaaGreatDoorXb
import Derived.Laws.Append
import Derived.Laws.AppendOwn
set_option linter.unusedVariables false
set_option linter.unusedSimpArgs false

namespace Go.X
noncomputable section
set_option linter.unusedVariables false
set_option linter.unusedSimpArgs false

def aFieldAddr (P : Program) (t : TypeId) (x : AV) (f : Nat) : Option AV :=
  match P.underlying t with
  | some (.struct fields) => match fields[f]? with
    | some fd => match P.info? fd.type with
      | some i => if Nat.beq i.size 0 = true then none else match x with
        | .ptr b o => some (.ptr b (o + fd.offset))
        | _ => none
      | none => none
    | none => none
  | _ => none

def aIndexAddr (P : Program) (t : TypeId) (x i : AV) : Option AV :=
  match i with
  | .int _ (.ofNat j) => match P.underlying t with
    | some (.array len e) => match P.info? e with
      | some ie => match x with
        | .ptr b o => if Nat.blt j len = true then some (.ptr b (o + j * ie.size)) else none
        | _ => none
      | none => none
    | some (.slice e) => match P.info? e with
      | some ie => match x with
        | .slice b o len _ => if Nat.blt j len = true then some (.ptr b (o + j * ie.size)) else none
        | _ => none
      | none => none
    | _ => none
  | _ => none

def AObj.closed : AObj → Bool
  | .cells _ _ 0 => true
  | .bytes _ _ _ 0 => true
  | _ => false

/-- A slice of a slice or of an array. -/
def aSlice (P : Program) (t : TypeId) (s : St) (x : AV) (lo hi : Option AV) : Option AV :=
  match P.underlying t with
  | some .string => aSliceStr P t x lo hi
  | some (.slice e) => match x with
    | .nilSlice => match aBound hi 0 0 with
      | some h => match aBound lo 0 h with
        | some _ => match P.info? e with | some _ => some .nilSlice | none => none
        | none => none
      | none => none
    | .emptySl => match aBound hi 0 0 with
      | some h => match aBound lo 0 h with
        | some _ => match P.info? e with | some _ => some .emptySl | none => none
        | none => none
      | none => none
    | .slice b o len cap => match aBound hi len cap with
      | some h => match aBound lo 0 h with
        | some l => match P.info? e with
          | some i => if Nat.blt l cap = true then some (.slice b (o + l * i.size) (h - l) (cap - l)) else
            if Nat.beq l cap = true then (match s.at b with
              | some obj => if obj.closed = true then some (.slice b o (h - l) 0) else if Nat.beq h l = true then some .emptySl else none
              | none => none) else none
          | none => none
        | none => none
      | none => none
    | _ => none
  | some (.array n e) => match x with
    | .ptr b o => match s.at b with
      | some obj => if obj.closed = true then (match aBound hi n n with
        | some h => match aBound lo 0 h with
          | some l => match P.info? e with
            | some i => if Nat.blt l n = true then some (.slice b (o + l * i.size) (h - l) (n - l)) else none
            | none => none
          | none => none
        | none => none) else none
      | none => none
    | _ => none
  | _ => none

/-- A new row of 'cap' elements. -/
def aMake (P : Program) (t : TypeId) (len cap : AV) : Option (AObj × Nat × Nat) :=
  match len with
  | .int _ (.ofNat l) => match cap with
    | .int _ (.ofNat c) => match P.underlying t with
      | some (.slice e) => match P.info? e with
        | some i => match aZero P e with
          | some z => match (match z with | .u8s n _ => some n | z => match avCells z with | some m => some m.length | none => none) with
            | some n => if (Nat.ble l c && Nat.ble c 1000000 && Nat.ble i.bytes 1000000 && Nat.beq n i.size && Nat.blt 0 i.size) = true then
                match zeroRow P e c with
                | some o => some (o, l, c)
                | none => none
              else none
            | none => none
          | none => none
        | none => none
      | _ => none
    | _ => none
  | _ => none

section
variable {P : Program} {w w0 : World} {r : Ren} {s : St}

theorem wrap_small {n : Nat} (h : n < 9223372036854775808) : IntKind.i64.wrap (Int.ofNat n) = (n : Int) := by
  rw [← fwrap_eq]
  have e : Nat.blt n (lim .i64) = true := Nat.ble_eq_true_of_le h
  simp only [fwrap]
  rw [if_pos e]; rfl

theorem ptr_add {r : Ren} {b o k : Nat} {p : Place} (hp : r b = some p) : VRel r (.ptr b (o + k)) (.pointer (some ((⟨p.blk, o + p.shift, none⟩ : Addr).add k))) := by
  simp only [VRel]; exact ⟨p, hp, by rw [add_none, Nat.add_right_comm]⟩

theorem aFieldAddr_ok {t : TypeId} {x a : AV} {f : Nat} (h : aFieldAddr P t x f = some a) {u : Value} (hu : VRel r x u) : ∃ z, (Instr.fieldAt t u f).run P w = .ok z w ∧ VRel r a z := by
  unfold aFieldAddr at h
  split at h
  · rename_i fields hD
    split at h
    · rename_i fd hf
      split at h
      · rename_i i hi
        split at h
        · cases h
        · rename_i h0
          have h0 : ¬ i.size = 0 := by simpa using h0
          split at h
          · cases h
            simp only [VRel] at hu; obtain ⟨p, hp, rfl⟩ := hu
            refine ⟨_, ?_, ptr_add hp⟩
            have hs : ∀ w, (sizeOf fd.type).run P w = .ok i.size w := fun w => by simp [sizeOf, typeInfo, hi]
            simp only [Instr.fieldAt, Sem.run_bind, run_underlying hD, Result.andThen_ok, hf, Instr.sureAddr, Sem.run_pure, fieldPlace, hs]
            rw [if_neg h0]; rfl
          · cases h
      · cases h
    · cases h
  · cases h

theorem aIndexAddr_ok {t : TypeId} {x i a : AV} (h : aIndexAddr P t x i = some a) {u v : Value} (hu : VRel r x u) (hv : VRel r i v) : ∃ z, (Instr.indexAt t u v).run P w = .ok z w ∧ VRel r a z := by
  unfold aIndexAddr at h
  split at h
  · rename_i k j
    simp only [VRel] at hv; subst hv
    split at h
    · rename_i len e hD
      split at h
      · rename_i ie hie
        split at h
        · rename_i b o
          split at h
          · rename_i hj
            have hj : j < len := by simp [Nat.blt] at hj; omega
            cases h
            simp only [VRel] at hu; obtain ⟨p, hp, rfl⟩ := hu
            refine ⟨_, ?_, ptr_add hp⟩
            have hs : ∀ w, (sizeOf e).run P w = .ok ie.size w := fun w => by simp [sizeOf, typeInfo, hie]
            simp [Instr.indexAt, asIntOf, run_underlying hD, Instr.sureAddr, hs, hj]
          · cases h
        · cases h
      · cases h
    · rename_i e hD
      split at h
      · rename_i ie hie
        split at h
        · rename_i b o len cap
          split at h
          · rename_i hj
            have hj : j < len := by simp [Nat.blt] at hj; omega
            cases h
            simp only [VRel] at hu; obtain ⟨p, hp, rfl⟩ := hu
            refine ⟨_, ?_, ptr_add hp⟩
            have hs : ∀ w, (sizeOf e).run P w = .ok ie.size w := fun w => by simp [sizeOf, typeInfo, hie]
            simp [Instr.indexAt, asIntOf, run_underlying hD, hs, hj]
          · cases h
        · cases h
      · cases h
    · cases h
  · cases h

theorem closed_more (hw : WRel w0 r s w) {b : Nat} {obj : AObj} {p : Place} (ho : s.at b = some obj) (hp : r b = some p) (hc : obj.closed = true) : p.more = 0 := by
  have h := (hw.own b obj p ho hp).2
  cases obj with
  | cells e l opn =>
    obtain ⟨_, _, _, _, _, _, _, _, h5, _⟩ := h
    cases opn with
    | zero => exact h5 rfl
    | succ n => simp [AObj.closed] at hc
  | bytes e n y opn =>
    obtain ⟨_, _, _, _, _, _, _, h5⟩ := h
    cases opn with
    | zero => exact h5 rfl
    | succ n => simp [AObj.closed] at hc
  | map kd l clk => simp [AObj.closed] at hc
  | iter m since seen last => simp [AObj.closed] at hc
  | amap kd => simp [AObj.closed] at hc

theorem aBound_le {x : Option AV} {d lm n : Nat} (h : aBound x d lm = some n) (hd : d ≤ lm) : n ≤ lm := by
  unfold aBound at h
  split at h
  · cases h; exact hd
  · split at h <;> cases h
    rename_i hj; exact Nat.le_of_ble_eq_true hj
  · cases h

/-- Bounds that hold at a capacity hold at a greater one. -/
theorem aBound_more {x : Option AV} {d lm n : Nat} (h : aBound x d lm = some n) (k : Nat) : aBound x d (lm + k) = some n := by
  unfold aBound at h ⊢
  split at h
  · exact h
  · split at h <;> cases h
    rename_i hj
    have hj := Nat.le_of_ble_eq_true hj
    rw [if_pos (Nat.ble_eq_true_of_le (by omega))]
  · cases h

theorem aSlice_ok (hw : WRel w0 r s w) {t : TypeId} {x a : AV} {lo hi : Option AV} (h : aSlice P t s x lo hi = some a) {u : Value} (hu : VRel r x u) {ul uh : Option Value}
    (hx : lo = none → ul = none) (hx' : ∀ a, lo = some a → ∃ z, ul = some z ∧ VRel r a z) (hy : hi = none → uh = none) (hy' : ∀ a, hi = some a → ∃ z, uh = some z ∧ VRel r a z) :
    ∃ z, (Instr.sliceAt t u ul uh none).run P w = .ok z w ∧ VRel r a z := by
  unfold aSlice at h
  split at h
  · rename_i hD
    obtain ⟨z, h1, h2⟩ := aSliceStr_ok (w := w) h hu hx hx' hy hy'
    refine ⟨z, ?_, h2⟩
    simp only [Instr.sliceAt, Sem.run_bind, run_underlying hD, Result.andThen_ok]; exact h1
  · rename_i e hD
    have enter : (Instr.sliceAt t u ul uh none).run P w = (Instr.slice t u ul uh none).run P w := by
      simp only [Instr.sliceAt, Sem.run_bind, run_underlying hD, Result.andThen_ok]
    split at h
    · simp only [VRel] at hu; subst hu
      split at h
      · rename_i hh e1
        split at h
        · rename_i l e2
          split at h
          case h_2 => cases h
          rename_i i hie
          cases h
          have hb := bounds_ok (P := P) e1 e2 hx hx' hy hy' true
          have b1 := aBound_le e1 (Nat.le_refl _)
          have b2 := aBound_le e2 (Nat.zero_le _)
          have : hh = 0 := by omega
          subst this
          have : l = 0 := by omega
          subst this
          refine ⟨.slice none 0 0, ?_, by simp only [VRel]⟩
          rw [enter]
          have hs : ∀ w, (sizeOf e).run P w = .ok i.size w := fun w => by simp [sizeOf, typeInfo, hie]
          simp [Instr.slice, run_underlying hD, hb, hs]
        · cases h
      · cases h
    · simp only [VRel] at hu; obtain ⟨a0, c0, rfl⟩ := hu
      split at h
      · rename_i hh e1
        split at h
        · rename_i l e2
          split at h
          case h_2 => cases h
          rename_i i hie
          cases h
          have hb := bounds_ok (P := P) (aBound_more e1 c0) e2 hx hx' hy hy' true
          have b1 := aBound_le e1 (Nat.le_refl _)
          have b2 := aBound_le e2 (Nat.zero_le _)
          have : hh = 0 := by omega
          subst this
          have : l = 0 := by omega
          subst this
          have hs : ∀ w, (sizeOf e).run P w = .ok i.size w := fun w => by simp [sizeOf, typeInfo, hie]
          rw [Nat.zero_add] at hb
          refine ⟨.slice (some a0) 0 c0, ?_, by simp only [VRel]; exact ⟨_, _, rfl⟩⟩
          rw [enter]
          simp [Instr.slice, run_underlying hD, hb, hs, Addr.add]
        · cases h
      · cases h
    · rename_i b o len cap
      simp only [VRel] at hu; obtain ⟨p, hp, rfl⟩ := hu
      split at h
      · rename_i hh e1
        split at h
        · rename_i l e2
          split at h
          · rename_i i hie
            have hs : ∀ w, (sizeOf e).run P w = .ok i.size w := fun w => by simp [sizeOf, typeInfo, hie]
            have hb := bounds_ok (P := P) (aBound_more e1 p.more) e2 hx hx' hy hy' true
            split at h
            · rename_i hlt
              have hlt : l < cap := by simp [Nat.blt] at hlt; omega
              cases h
              refine ⟨.slice (some ⟨p.blk, o + p.shift + l * i.size, none⟩) (hh - l) (cap + p.more - l), ?_, ?_⟩
              · rw [enter]
                simp only [Instr.slice, Sem.run_bind, run_underlying hD, Result.andThen_ok, hb, hs]
                rw [if_neg (by omega)]; simp [add_none]
              · simp only [VRel]; exact ⟨p, hp, by rw [Nat.add_right_comm, show cap + p.more - l = cap - l + p.more by omega]⟩
            · split at h
              · rename_i hbq
                have hbq : l = cap := Nat.eq_of_beq_eq_true hbq
                split at h
                · rename_i obj hobj
                  split at h
                  · rename_i hc
                    cases h
                    have hm := closed_more hw hobj hp hc
                    refine ⟨.slice (some ⟨p.blk, o + p.shift, none⟩) (hh - l) 0, ?_, ?_⟩
                    · rw [enter]
                      simp only [Instr.slice, Sem.run_bind, run_underlying hD, Result.andThen_ok, hb, hs]
                      rw [if_pos (by omega)]; simp [hm, hbq]
                    · simp only [VRel]; exact ⟨p, hp, by rw [hm]⟩
                  · split at h
                    case isFalse => cases h
                    rename_i hhl
                    have hhl : hh = l := Nat.eq_of_beq_eq_true hhl
                    cases h
                    have hz : hh - l = 0 := by omega
                    rw [enter]
                    simp only [Instr.slice, Sem.run_bind, run_underlying hD, Result.andThen_ok, hb, hs, hz, VRel]
                    split
                    · exact ⟨_, rfl, _, _, rfl⟩
                    · exact ⟨_, rfl, _, _, rfl⟩
                · cases h
              · cases h
          · cases h
        · cases h
      · cases h
    · cases h
  · rename_i n e hD
    split at h
    · rename_i b o
      simp only [VRel] at hu; obtain ⟨p, hp, rfl⟩ := hu
      split at h
      · rename_i obj hobj
        split at h
        · rename_i hc
          have hm := closed_more hw hobj hp hc
          split at h
          · rename_i hh e1
            split at h
            · rename_i l e2
              split at h
              · rename_i i hie
                have hs : ∀ w, (sizeOf e).run P w = .ok i.size w := fun w => by simp [sizeOf, typeInfo, hie]
                have hb := bounds_ok (P := P) e1 e2 hx hx' hy hy' false
                split at h
                · rename_i hlt
                  have hlt : l < n := by simp [Nat.blt] at hlt; omega
                  cases h
                  refine ⟨.slice (some ⟨p.blk, o + p.shift + l * i.size, none⟩) (hh - l) (n - l), ?_, ?_⟩
                  · simp only [Instr.sliceAt, Sem.run_bind, run_underlying hD, Result.andThen_ok, Instr.sureAddr, Sem.run_pure, hb, hs]
                    rw [if_neg (by omega)]; simp [add_none]
                  · simp only [VRel]; exact ⟨p, hp, by rw [Nat.add_right_comm, hm]; rfl⟩
                · cases h
              · cases h
            · cases h
          · cases h
        · cases h
      · cases h
    · cases h
  · cases h

theorem aMake_ok (hw : WRel w0 r s w) (hn : s.next < 2 ^ HD) {t : TypeId} {len cap : AV} {o : AObj} {l c : Nat} (h : aMake P t len cap = some (o, l, c)) {u v : Value} (hu : VRel r len u) (hv : VRel r cap v) :
    ∃ r' w' z, r.le r' ∧ (Instr.makeSlice t u v).run P w = .ok z w' ∧ VRel r' (.slice s.next 0 l c) z ∧ WRel w0 r' (s.new o) w' := by
  unfold aMake at h
  split at h
  · rename_i k1 l'
    split at h
    · rename_i k2 c'
      simp only [VRel] at hu hv; subst hu; subst hv
      split at h
      · rename_i e hD
        split at h
        · rename_i i hie
          split at h
          · rename_i z hz
            split at h
            · rename_i n hnz
              split at h
              · rename_i hc
                simp only [Bool.and_eq_true, Nat.blt] at hc
                obtain ⟨⟨⟨⟨c1, c2⟩, c3⟩, c4⟩, c5⟩ := hc
                have c1 : l' ≤ c' := Nat.le_of_ble_eq_true c1
                have c2 : c' ≤ 1000000 := Nat.le_of_ble_eq_true c2
                have c3 : i.bytes ≤ 1000000 := Nat.le_of_ble_eq_true c3
                have c4 : n = i.size := Nat.eq_of_beq_eq_true c4
                have c5 : 1 ≤ i.size := Nat.le_of_ble_eq_true c5
                split at h
                · rename_i o' ho
                  cases h
                  obtain ⟨zv, h1, h2⟩ := zeroRow_ok (r := r) ho w.heap.size
                  obtain ⟨zv', g1, g2⟩ := aZero_ok hz
                  have ezv : zv = zv' := by
                    have a1 := h1 w; rw [g1 w] at a1; injection a1 with a1; exact a1.symm
                  subst ezv
                  have hsz : zv.cells.size = i.size := by
                    rw [← c4]
                    have g2 := g2 r
                    split at hnz
                    · cases hnz
                      simp only [VRel] at g2; subst g2; simp [Value.cells, u8Cells_length]
                    · split at hnz
                      · rename_i m hm
                        cases hnz
                        obtain ⟨cs, k1, k2, k3⟩ := avCells_ok hm g2
                        rw [k1, List.size_toArray, k2.length]
                      · cases hnz
                  have ho2 := h2 (by omega)
                  obtain ⟨r', w', j1, j2, j3, j4⟩ := new_row (P := P) hw hn ho2
                  refine ⟨r', w', .slice (some ⟨w.heap.size, 0, none⟩) l c, j1, ?_, by simp only [VRel]; exact ⟨_, j4, rfl⟩, j3⟩
                  have hs : ∀ w, (sizeOf e).run P w = .ok i.size w := fun w => by simp [sizeOf, typeInfo, hie]
                  have hti : ∀ w, (typeInfo e).run P w = .ok i w := fun w => by simp [typeInfo, hie]
                  have wrapc : IntKind.i64.wrap (Int.ofNat c) = (c : Int) := by
                    exact wrap_small (by omega)
                  have wrapl : IntKind.i64.wrap (Int.ofNat l) = (l : Int) := by
                    exact wrap_small (by omega)
                  have hprod : (i.bytes : Int) * (c : Int) ≤ 2 ^ 48 := by
                    have : i.bytes * c ≤ 1000000 * 1000000 := Nat.mul_le_mul c3 c2
                    rw [← Int.natCast_mul]
                    omega
                  have hbig : ¬ ((2 : Int) ^ 48 < (i.bytes : Int) * (c : Int)) := by omega
                  simp only [Instr.makeSlice, Sem.run_bind, run_underlying hD, Result.andThen_ok, asInt, asIntOf, Sem.run_pure, hti, wrapc, wrapl]
                  have cond : ((decide ((c : Int) < 0) || decide ((i.bytes : Int) * (c : Int) > 2 ^ 48)) || decide ((l : Int) < 0) || decide ((l : Int) > (c : Int))) = false := by
                    simp only [Bool.or_eq_false_iff, decide_eq_false_iff_not]
                    refine ⟨⟨⟨by omega, by omega⟩, by omega⟩, by omega⟩
                  rw [if_neg (by rw [cond]; decide)]
                  simp only [Sem.run_bind, run_askRoom, Result.andThen_ok, hs, Int.toNat_natCast]
                  by_cases h0 : c * i.size = 0
                  · have hc0 : c = 0 := by rcases Nat.mul_eq_zero.1 h0 with h | h <;> omega
                    rw [if_pos h0]
                    simp only [pure_bind]
                    have : (Array.range (c * i.size)).map (fun (x : Nat) => (#[] : Array Value)[x % (#[] : Array Value).size]!) = (Array.range (c * zv.cells.size)).map fun i => zv.cells[i % zv.cells.size]! := by subst hc0; simp
                    rw [this]
                    simp only [Sem.run_bind, j2, Result.andThen_ok, Sem.run_pure]
                  · rw [if_neg h0]
                    simp only [Sem.run_bind, h1, Result.andThen_ok, Sem.run_pure]
                    rw [← hsz]
                    simp only [j2, Result.andThen_ok]
                · cases h
              · cases h
            · cases h
          · cases h
        · cases h
      · cases h
    · cases h
  · cases h
end
end
end Go.X

/- Append, copy, strings and bytes. -/
namespace Go.X
noncomputable section
set_option linter.unusedVariables false
set_option linter.unusedSimpArgs false

/-- Some cells on their way. -/
inductive Frag where
  | b (n x : Nat)
  | c (l : List AV)

def FragRel (r : Ren) (f : Frag) (vs : List Value) : Prop :=
  match f with
  | .b n x => vs = u8Cells n x
  | .c l => VsRel r l vs ∧ ∀ v ∈ vs, one v = true

def Frag.len : Frag → Nat
  | .b n _ => n
  | .c l => l.length

/-- Nothing, of the same kind. -/
def Frag.empty (f : Frag) : Frag :=
  match f with
  | .b _ _ => .b 0 0
  | .c _ => .c []

def cutFrag (obj : AObj) (o n : Nat) : Option Frag :=
  match obj with
  | .bytes _ m y _ => if Nat.ble (o + n) m = true then some (.b n (y / 256 ^ o % 256 ^ n)) else none
  | .cells _ l _ => if Nat.ble (o + n) l.length = true then some (.c ((l.drop o).take n)) else none
  | .map _ _ _ => none
  | .iter _ _ _ _ => none
  | .amap _ => none

def joinFrag (f g : Frag) : Option Frag :=
  match f with
  | .b n x => match g with
    | .b m y => some (.b (n + m) (x % 256 ^ n + 256 ^ n * y))
    | .c _ => none
  | .c l => match g with
    | .c m => some (.c (l ++ m))
    | .b _ _ => none

def objFrag (e : TypeId) (f : Frag) (opn : Nat) : AObj :=
  match f with
  | .b n x => .bytes e n x opn
  | .c l => .cells e l opn

def writeFrag (obj : AObj) (o : Nat) (f : Frag) : Option AObj :=
  match obj with
  | .bytes e n y opn => match f with
    | .b m z => if (Nat.ble (o + m) n && Nat.blt 0 m) = true then some (.bytes e n (splice y o m z) opn) else none
    | .c _ => none
  | .cells e l opn => match f with
    | .c m => if (Nat.ble (o + m.length) l.length && Nat.blt 0 m.length) = true then some (.cells e (l.take o ++ m ++ l.drop (o + m.length)) opn) else none
    | .b _ _ => none
  | .map _ _ _ => none
  | .iter _ _ _ _ => none
  | .amap _ => none

def AObj.opn : AObj → Nat
  | .cells _ _ k => k
  | .bytes _ _ _ k => k
  | .map _ _ _ => 0
  | .iter _ _ _ _ => 0
  | .amap _ => 0
def AObj.elem : AObj → Nat
  | .cells e _ _ => e
  | .bytes e _ _ _ => e
  | .map _ _ _ => 0
  | .iter _ _ _ _ => 0
  | .amap _ => 0
def AObj.len : AObj → Nat
  | .cells _ l _ => l.length
  | .bytes _ n _ _ => n
  | .map _ _ _ => 0
  | .iter _ _ _ _ => 0
  | .amap _ => 0

/-- How many elements are appended or copied. -/
def srcLen (x : AV) : Option Nat :=
  match x with
  | .nilSlice => some 0
  | .emptySl => some 0
  | .slice _ _ n _ => some n
  | .str n _ => some n
  | _ => none

/-- These cells. -/
def srcFrag (s : St) (size n : Nat) (x : AV) : Option Frag :=
  match x with
  | .slice b o _ _ => match s.at b with
    | some obj => cutFrag obj o (n * size)
    | none => none
  | .str m y => if Nat.ble n m = true then some (.b n (y % 256 ^ n)) else none
  | _ => none

/-- What comes behind the growth of a row. -/
def grown (s : St) (e size : Nat) (old new : Frag) (need : Nat) : Option (AV × St) :=
  match joinFrag old new with
  | some f => some (.slice s.next 0 need need, s.new (objFrag e f size))
  | none => none

def appendFrag (P : Program) (s : St) (e : TypeId) (size : Nat) (x : AV) (n : Nat) (new : Frag) : Option (AV × St) :=
  match x with
  | .nilSlice => grown s e size new.empty new n
  | .slice b o len cap => match s.at b with
    | some obj =>
      if Nat.ble (len + n) cap = true then
        match writeFrag obj (o + len * size) new with
        | some obj' => some (.slice b o (len + n) cap, s.setS b obj')
        | none => none
      else match cutFrag obj o (len * size) with
        | some old =>
          if obj.closed = true then grown s e size old new (len + n)
          else if (Nat.beq obj.opn size && Nat.beq (o + cap * size) obj.len && Nat.ble len cap && Nat.beq obj.elem e) = true then grown (s.kill b) e size old new (len + n)
          else none
        | none => none
    | none => none
  | _ => none

def kind2 (P : Program) (t : TypeId) : Nat :=
  match P.underlying t with
  | some (.int _) => 0
  | some (.slice _) => 1
  | some .string => 1
  | _ => 2

/-- Where it goes: few elements so far. -/
def fewOf (x : AV) : Bool :=
  match x with
  | .nilSlice => true
  | .emptySl => true
  | .slice _ _ len _ => Nat.ble len 100000
  | _ => false

def aAppendNone (s : St) (x : AV) : Option (AV × St) :=
  match x with
  | .nilSlice => some (.nilSlice, s)
  | .emptySl => some (.emptySl, s)
  | .slice b o len cap => if Nat.ble len cap = true then some (.slice b o len cap, s) else none
  | _ => none

def zeroOk (i : TypeInfo) : Bool :=
  match i.zero with
  | some z => Nat.beq z.cells.size i.size
  | none => false

def appOk (s : St) (i : TypeInfo) (x : AV) : Bool :=
  Nat.blt 0 i.size && Nat.ble i.bytes 10000 && Nat.blt s.next (2 ^ HD) && fewOf x && zeroOk i

def aAppend (P : Program) (t0 t1 : TypeId) (s : St) (x y : AV) : Option (AV × St) :=
  match P.underlying t0 with
  | some (.slice e) => match P.info? e with
    | some i => if appOk s i x = true then
      match kind2 P t1 with
      | 0 => match y with
        | .int _ (.ofNat k) => if (isByte P e && Nat.beq i.size 1 && Nat.ble k 100000 && Nat.blt 0 k) = true then
            (match aZero P e with
             | some (.int .u8 (.ofNat 0)) => appendFrag P s e i.size x k (.b k 0)
             | _ => none) else none
        | _ => none
      | 1 => match srcLen y with
        | some n => if Nat.beq n 0 = true then aAppendNone s x
          else if Nat.ble n 100000 = true then match srcFrag s i.size n y with
            | some f => match y with
              | .str _ _ => if Nat.beq i.size 1 = true then appendFrag P s e i.size x n f else none
              | _ => appendFrag P s e i.size x n f
            | none => none
          else none
        | none => none
      | _ => none
      else none
    | none => none
  | _ => none

section
variable {P : Program} {w w0 : World} {r : Ren} {s : St}

theorem FragRel.length {f : Frag} {vs : List Value} (h : FragRel r f vs) : vs.length = f.len := by
  cases f with
  | b n x => simp only [FragRel] at h; rw [h, u8Cells_length]; rfl
  | c l => exact h.1.length

theorem FragRel.ones {f : Frag} {vs : List Value} (h : FragRel r f vs) : ∀ v ∈ vs, one v = true := by
  cases f with
  | b n x => simp only [FragRel] at h; rw [h]; exact u8_one n x
  | c l => exact h.2

theorem joinFrag_ok {f g k : Frag} (h : joinFrag f g = some k) {vs ws : List Value} (hf : FragRel r f vs) (hg : FragRel r g ws) : FragRel r k (vs ++ ws) := by
  cases f <;> cases g <;> simp [joinFrag] at h <;> subst h
  · simp only [FragRel] at *
    rw [hf, hg, u8Cells_append]
  · exact ⟨hf.1.append hg.1, fun v hv => by
      rcases List.mem_append.1 hv with h | h
      · exact hf.2 v h
      · exact hg.2 v h⟩

/-- A row that stands in memory. -/
theorem row_of (hw : WRel w0 r s w) {b : Nat} {obj : AObj} {p : Place} (ho : s.at b = some obj) (hp : r b = some p) {f : Frag} {o n : Nat} (hc : cutFrag obj o n = some f) :
    ∃ (pre vs post : List Value) (fz : Nat × Nat), w.heap[p.blk]? = some (.cells (pre ++ vs ++ post).toArray obj.elem fz) ∧ Free (pre ++ vs ++ post).length fz ∧ pre.length = p.shift ∧ (obj.opn ≠ 0 → post.length = p.more * obj.opn) ∧ (obj.opn = 0 → p.more = 0) ∧
      vs.length = obj.len ∧ o + n ≤ vs.length ∧ FragRel r f ((vs.drop o).take n) := by
  have h := (hw.own b obj p ho hp).2
  cases obj with
  | cells e l opn =>
    obtain ⟨pre, vs, post, fz, hx, hf, h3, h4, h5, h6, h7⟩ := h
    simp only [cutFrag] at hc
    split at hc <;> cases hc
    rename_i hle
    have hle := Nat.le_of_ble_eq_true hle
    exact ⟨pre, vs, post, fz, hx, hf, h3, h4, h5, h6.length, by rw [h6.length]; exact hle, (h6.drop o).take n, fun v hv => h7 v (List.mem_of_mem_drop (List.mem_of_mem_take hv))⟩
  | bytes e m y opn =>
    obtain ⟨pre, post, fz, hx, hf, h3, h4, h5⟩ := h
    simp only [cutFrag] at hc
    split at hc <;> cases hc
    rename_i hle
    have hle := Nat.le_of_ble_eq_true hle
    exact ⟨pre, u8Cells m y, post, fz, hx, hf, h3, h4, h5, u8Cells_length _ _, by rw [u8Cells_length]; exact hle, by simp only [FragRel]; exact u8Cells_cut hle⟩
  | map kd l clk => simp [cutFrag] at hc
  | iter m since seen last => simp [cutFrag] at hc
  | amap kd => simp [cutFrag] at hc

theorem cutFrag_run (hw : WRel w0 r s w) {b : Nat} {obj : AObj} {p : Place} (ho : s.at b = some obj) (hp : r b = some p) {f : Frag} {o n : Nat} (hc : cutFrag obj o n = some f) :
    ∃ vs, FragRel r f vs ∧ ∀ w', w'.heap[p.blk]? = w.heap[p.blk]? → (loadCells ⟨p.blk, o + p.shift, none⟩ n).run P w' = .ok vs.toArray w' := by
  obtain ⟨pre, vs, post, fz, hx, hf, h3, _, _, _, hle, hr⟩ := row_of hw ho hp hc
  refine ⟨_, hr, fun w' hh => ?_⟩
  rw [run_loadCells (P := P) (w := w') (hh.trans hx) (by simp; omega), Nat.add_comm o p.shift, ← h3, drop_mid hle]

theorem writeFrag_ok (hw : WRel w0 r s w) {b : Nat} {obj obj' : AObj} {p : Place} (ho : s.at b = some obj) (hp : r b = some p) {f : Frag} {o : Nat} (hc : writeFrag obj o f = some obj') {vs : List Value} (hf : FragRel r f vs) :
    ∃ w', (storeCells ⟨p.blk, o + p.shift, none⟩ vs).run P w = .ok () w' ∧ WRel w0 r (s.set b obj') w' := by
  have h := (hw.own b obj p ho hp).2
  have hl := hf.length
  have h1 := hf.ones
  cases obj with
  | cells e l opn =>
    obtain ⟨pre, cs, post, fz, hx, hfz, h3, h4, h5, h6, h7⟩ := h
    cases f with
    | b n x => simp [writeFrag] at hc
    | c m =>
      simp only [writeFrag] at hc
      split at hc <;> cases hc
      rename_i hcond
      simp only [Bool.and_eq_true, Nat.blt] at hcond
      have c1 := Nat.le_of_ble_eq_true hcond.1
      have c2 := Nat.le_of_ble_eq_true hcond.2
      simp only [Frag.len] at hl
      have cl := h6.length
      obtain ⟨w', i1, i2⟩ := run_storeCells (P := P) (g := p.blk) (o := o + p.shift) vs 0 _ w hx hfz (by simp; omega) h1 (by omega)
      refine ⟨w', i1, hw.wrote ho hp i2 ?_⟩
      have em : (pre ++ cs ++ post).take (o + p.shift + 0) ++ vs ++ (pre ++ cs ++ post).drop (o + p.shift + 0 + vs.length) = pre ++ (cs.take o ++ vs ++ cs.drop (o + vs.length)) ++ post := by
        rw [Nat.add_zero, ← h3]; exact mid_write (by omega)
      refine ⟨pre, cs.take o ++ vs ++ cs.drop (o + m.length), post, fz, by rw [em, hl], ?_, h3, h4, h5, ((h6.take o).append hf.1).append (h6.drop _), fun v hv => ?_⟩
      · have : (pre ++ (cs.take o ++ vs ++ cs.drop (o + m.length)) ++ post).length = (pre ++ cs ++ post).length := by simp; omega
        rw [this]; exact hfz
      · simp only [List.mem_append] at hv
        rcases hv with (hv | hv) | hv
        · exact h7 v (List.mem_of_mem_take hv)
        · exact h1 v hv
        · exact h7 v (List.mem_of_mem_drop hv)
  | bytes e n y opn =>
    obtain ⟨pre, post, fz, hx, hfz, h3, h4, h5⟩ := h
    cases f with
    | c m => simp [writeFrag] at hc
    | b m z =>
      simp only [writeFrag] at hc
      split at hc <;> cases hc
      rename_i hcond
      simp only [Bool.and_eq_true, Nat.blt] at hcond
      have c1 := Nat.le_of_ble_eq_true hcond.1
      have c2 := Nat.le_of_ble_eq_true hcond.2
      simp only [Frag.len] at hl
      simp only [FragRel] at hf
      obtain ⟨w', i1, i2⟩ := run_storeCells (P := P) (g := p.blk) (o := o + p.shift) vs 0 _ w hx hfz (by simp [u8Cells_length]; omega) h1 (by omega)
      refine ⟨w', i1, hw.wrote ho hp i2 ?_⟩
      have em : (pre ++ u8Cells n y ++ post).take (o + p.shift + 0) ++ vs ++ (pre ++ u8Cells n y ++ post).drop (o + p.shift + 0 + vs.length) = pre ++ u8Cells n (splice y o m z) ++ post := by
        rw [Nat.add_zero, ← h3, mid_write (by rw [u8Cells_length]; omega), u8Cells_splice c1, hl, hf]
      refine ⟨pre, post, fz, by rw [em], ?_, h3, h4, h5⟩
      have : (pre ++ u8Cells n (splice y o m z) ++ post).length = (pre ++ u8Cells n y ++ post).length := by simp [u8Cells_length]
      rw [this]; exact hfz
  | map kd l clk => simp [writeFrag] at hc
  | iter m since seen last => simp [writeFrag] at hc
  | amap kd => simp [writeFrag] at hc

theorem objFrag_rel {e : TypeId} {f : Frag} {size : Nat} {p : Place} {pre vs post : List Value} {fz : Nat × Nat} (hf : FragRel r f vs) (hz : Free (pre ++ vs ++ post).length fz) (h3 : pre.length = p.shift)
    (h4 : post.length = p.more * size) (h5 : size = 0 → p.more = 0) : ObjRel r (objFrag e f size) p (some (.cells (pre ++ vs ++ post).toArray e fz)) := by
  cases f with
  | b n x => simp only [FragRel] at hf; subst hf; exact ⟨pre, post, fz, rfl, hz, h3, fun _ => h4, h5⟩
  | c l => exact ⟨pre, vs, post, fz, rfl, hz, h3, fun _ => h4, h5, hf.1, hf.2⟩

/-- A row that may have been moved: a new name for it. -/
theorem WRel.moved {w' : World} (hw : WRel w0 r s w) (hn : s.next < 2 ^ HD) {b : Nat} {obj o' : AObj} {p p' : Place} (ho : s.at b = some obj) (hp : r b = some p) {x : Obj}
    (hwr : Wrote w w' p.blk x) (hb : p'.blk = p.blk) (hx : ObjRel r o' p' (some x)) :
    WRel w0 (r.put s.next p') ((s.kill b).new o') w' ∧ r.le (r.put s.next p') := by
  have hr : r s.next = none := by
    cases hh : r s.next with
    | none => rfl
    | some q => have := hw.fresh _ _ hh; omega
  have hle := Ren.put_le hr (Nat.le_of_eq hw.bound) p'
  refine ⟨?_, hle⟩
  have hbn : b < s.next := hw.fresh b p hp
  have hn' : (s.kill b).next < 2 ^ HD := hn
  have split : ∀ c q, (r.put s.next p') c = some q → (c = s.next ∧ q = p') ∨ (c ≠ s.next ∧ r c = some q ∧ c < s.next) := fun c q hc => by
    by_cases e : c = s.next
    · simp [Ren.put, e] at hc; exact .inl ⟨e, hc.symm⟩
    · simp [Ren.put, e] at hc; exact .inr ⟨e, hc, hw.fresh c q hc⟩
  have back : ∀ c oc q, ((s.kill b).new o').at c = some oc → c ≠ s.next → r c = some q → c ≠ b ∧ s.at c = some oc := fun c oc q hc hne hq => by
    rw [St.at_new_other (s.kill b) o' hn' (hw.lt hq) hne] at hc
    by_cases e : b = c
    · subst e; rw [St.at_kill_same] at hc; cases hc
    · rw [St.at_kill_other s (hw.lt hp) (hw.lt hq) e] at hc; exact ⟨Ne.symm e, hc⟩
  refine ⟨hw.below.trans ⟨hwr.os, hwr.tape, hwr.output, Nat.le_of_eq hwr.size.symm, fun k hk => hwr.others k ?_⟩, by rw [St.new_next]; exact congrArg (· + 1) hw.bound, by rw [St.new_next]; exact hn, fun c q hc => ?_, fun c oc q hc hq => ?_, fun c c' o1 o2 q q' h1 h2 h3 h4 h5 => ?_⟩
  · have := (hw.own b obj p ho hp).1; omega
  · rw [St.new_next]
    rcases split c q hc with ⟨rfl, _⟩ | ⟨_, _, h⟩
    · exact Nat.lt_succ_self _
    · exact Nat.lt_succ_of_lt h
  · rcases split c q hq with ⟨rfl, rfl⟩ | ⟨hne, hq, _⟩
    · have : ((s.kill b).new o').at s.next = some o' := St.at_new_same (s.kill b) o'
      rw [this] at hc; injection hc with hc; subst hc
      refine ⟨by rw [hb]; exact (hw.own b obj p ho hp).1, ?_⟩
      rw [hb, hwr.here]; exact hx.monoW hle.wle
    · obtain ⟨hcb, hc⟩ := back c oc q hc hne hq
      obtain ⟨i1, i2⟩ := hw.own c oc q hc hq
      refine ⟨i1, ?_⟩
      rw [hwr.others _ fun e => hcb (hw.apart c b oc obj q p hc ho hq hp e)]
      exact i2.monoW hle.wle
  · rcases split c q h3 with ⟨e1, e2⟩ | ⟨g1, g2, g3⟩ <;> rcases split c' q' h4 with ⟨e3, e4⟩ | ⟨g4, g5, g6⟩
    · rw [e1, e3]
    · obtain ⟨k1, k2⟩ := back c' o2 q' h2 g4 g5
      rw [e2, hb] at h5
      exact absurd (hw.apart c' b o2 obj q' p k2 ho g5 hp h5.symm) k1
    · obtain ⟨k1, k2⟩ := back c o1 q h1 g1 g2
      rw [e4, hb] at h5
      exact absurd (hw.apart c b o1 obj q p k2 ho g2 hp h5) k1
    · exact hw.apart c c' o1 o2 q q' (back c o1 q h1 g1 g2).2 (back c' o2 q' h2 g4 g5).2 g2 g5 h5

theorem frag_len {obj : AObj} {o n : Nat} {f : Frag} (h : cutFrag obj o n = some f) : f.len = n := by
  cases obj <;> simp only [cutFrag] at h
  · split at h <;> cases h
    rename_i hle; have := Nat.le_of_ble_eq_true hle; simp [Frag.len]; omega
  · split at h <;> cases h; rfl
  · cases h
  · cases h
  · cases h

/-- The appended cells, as the model reads them. -/
structure Src (P : Program) (r : Ren) (w : World) (size n : Nat) (f : Frag) (u : Value) : Prop where
  len : ∀ w, (Builtin.lenOf u).run P w = .ok n w
  cells : ∃ vs, FragRel r f vs ∧ vs.length = n * size ∧ ∀ w', (∀ k, k < w.heap.size → w'.heap[k]? = w.heap[k]?) → (Builtin.firstCells size n u).run P w' = .ok vs.toArray w'

theorem blk_lt (hw : WRel w0 r s w) {b : Nat} {obj : AObj} {p : Place} (ho : s.at b = some obj) (hp : r b = some p) : p.blk < w.heap.size := by
  have h := (hw.own b obj p ho hp).2
  cases obj with
  | cells e l opn => obtain ⟨_, _, _, _, h1, _⟩ := h; exact (Array.getElem?_eq_some_iff.1 h1).1
  | bytes e n y opn => obtain ⟨_, _, _, h1, _⟩ := h; exact (Array.getElem?_eq_some_iff.1 h1).1
  | map kd l clk => obtain ⟨_, _, h1, _⟩ := h; exact (Array.getElem?_eq_some_iff.1 h1).1
  | iter m since seen last =>
    have := h.1
    cases m with
    | none => exact (Array.getElem?_eq_some_iff.1 this).1
    | some b => obtain ⟨_, _, h1⟩ := this; exact (Array.getElem?_eq_some_iff.1 h1).1
  | amap kd => obtain ⟨_, _, h1, _⟩ := h; exact (Array.getElem?_eq_some_iff.1 h1).1

theorem src_ok (hw : WRel w0 r s w) {size n : Nat} {x : AV} {f : Frag} (h : srcFrag s size n x = some f) (hl : ∃ m, srcLen x = some m ∧ n ≤ m) (h1 : ∀ m y, x = .str m y → size = 1) {u : Value} (hu : VRel r x u) :
    ∃ vs, FragRel r f vs ∧ vs.length = n * size ∧ ∀ w', (∀ k, k < w.heap.size → w'.heap[k]? = w.heap[k]?) → (Builtin.firstCells size n u).run P w' = .ok vs.toArray w' := by
  cases x <;> simp only [srcFrag] at h <;> try (cases h; done)
  · rename_i m y
    simp only [VRel] at hu; obtain ⟨hy, rfl⟩ := hu
    split at h <;> cases h
    rename_i hle
    have hle := Nat.le_of_ble_eq_true hle
    refine ⟨u8Cells n (y % 256 ^ n), rfl, by rw [u8Cells_length, h1 _ _ rfl, Nat.mul_one], fun w' _ => ?_⟩
    simp only [Builtin.firstCells, Sem.run_pure]
    congr 1
    apply Array.ext'
    rw [strOf_extract hle (Nat.zero_le _)]
    simp only [Array.toList_map, strOf_data, Nat.sub_zero, Nat.pow_zero, Nat.div_one, u8Cells, List.map_map]
    refine List.map_congr_left fun b hb => ?_
    have := bytesOf_lt hb
    simp [Nat.mod_eq_of_lt this]
  · rename_i b o len cap
    split at h
    · rename_i obj hobj
      simp only [VRel] at hu; obtain ⟨p, hp, rfl⟩ := hu
      obtain ⟨vs, i1, i2⟩ := cutFrag_run (P := P) hw hobj hp h
      refine ⟨vs, i1, by rw [i1.length, frag_len h], fun w' hk => ?_⟩
      simp only [Builtin.firstCells]
      exact i2 w' (hk _ (blk_lt hw hobj hp))
    · cases h

theorem srcLen_run {x : AV} {n : Nat} (h : srcLen x = some n) {u : Value} (hu : VRel r x u) : ∀ w, (Builtin.lenOf u).run P w = .ok n w := by
  intro w
  cases x <;> simp only [srcLen] at h <;> try (cases h; done)
  all_goals
    cases h
    simp only [VRel] at hu
    (try obtain ⟨_, _, rfl⟩ := hu) <;> (try obtain ⟨_, rfl⟩ := hu) <;> (try subst hu) <;> simp [Builtin.lenOf, strOf_size]

/-- What 'append' reads of its second type. -/
def K2 (P : Program) (t1 : TypeId) (zeros : Bool) : Prop :=
  if zeros then ∃ k, P.underlying t1 = some (.int k) else (∃ e, P.underlying t1 = some (.slice e)) ∨ P.underlying t1 = some .string

theorem append_fits {t0 t1 e : TypeId} {i : TypeInfo} (ht : P.underlying t0 = some (.slice e)) (hi : P.info? e = some i) (hk : K2 P t1 false) {ts : Array TypeId} (h0 : ts[0]? = some t0) (h1 : ts[1]? = some t1) {ty : TypeId} {a : Option Addr} {len cap n : Nat} {u : Value} {vs : List Value}
    (hl : ∀ w, (Builtin.lenOf u).run P w = .ok n w) (hf : (Builtin.firstCells i.size n u).run P w = .ok vs.toArray w) (hle : len + n ≤ cap) {w' : World}
    (hst : ∀ b, a = some b → (storeCells (b.add (len * i.size)) vs).run P w = .ok () w') (hnone : a = none → w' = w) :
    (Builtin.append_ ts ty #[.slice a len cap, u]).run P w = .ok (.slice a (len + n) cap) w' := by
  simp only [K2, Bool.false_eq_true, if_false] at hk
  cases a with
  | none =>
    have := hnone rfl; subst this
    rcases hk with ⟨e2, hD⟩ | hD <;>
      simp [Builtin.append_, h0, h1, run_underlying ht, run_underlying hD, sizeOf, typeInfo, hi, hl, hle, hf]
  | some b =>
    have hst := hst b rfl
    rcases hk with ⟨e2, hD⟩ | hD <;>
      simp [Builtin.append_, h0, h1, run_underlying ht, run_underlying hD, sizeOf, typeInfo, hi, hl, hle, hf, hst]

theorem append_fits_zeros {t0 t1 e : TypeId} {i : TypeInfo} {z : Value} (ht : P.underlying t0 = some (.slice e)) (hi : P.info? e = some i) (hz : i.zero = some z) (hs1 : i.size = 1) (hk : K2 P t1 true) {ts : Array TypeId} (h0 : ts[0]? = some t0) (h1 : ts[1]? = some t1) {ty : TypeId} {b : Addr} {len cap n : Nat} {k : IntKind}
    (hn : 0 < n) (hn' : n ≤ 100000) (hb : i.bytes ≤ 10000) (hle : len + n ≤ cap) {w' : World} (hst : (storeCells (b.add (len * i.size)) (Builtin.zeroCells z.cells n).toList).run P w = .ok () w') :
    (Builtin.append_ ts ty #[.slice (some b) len cap, .int k (.ofNat n)]).run P w = .ok (.slice (some b) (len + n) cap) w' := by
  simp only [K2, if_true] at hk
  obtain ⟨k2, hD⟩ := hk
  have wr : IntKind.i64.wrap (Int.ofNat n) = (n : Int) := wrap_small (by omega)
  have wr' : IntKind.i64.wrap (n : Int) = (n : Int) := wrap_small (by omega)
  have h48 : ¬ ((281474976710656 : Int) < (n : Int) * (i.bytes : Int)) := by
    rw [← Int.natCast_mul]
    have : n * i.bytes ≤ 100000 * 10000 := Nat.mul_le_mul hn' hb
    omega
  have hn0 : ¬ ((n : Int) < 0) := by omega
  simp [Builtin.append_, h0, h1, run_underlying ht, run_underlying hD, sizeOf, typeInfo, zeroValue, hi, hz, asInt, asIntOf, wr, wr', h48, hle, hst, hs1, show n ≠ 0 by omega]
  rw [hs1, Nat.mul_one] at hst
  rw [if_neg hn0, hst]; rfl

theorem append_grows {t0 t1 e : TypeId} {i : TypeInfo} {z : Value} (ht : P.underlying t0 = some (.slice e)) (hi : P.info? e = some i) (hz : i.zero = some z) (hk : K2 P t1 false) {ts : Array TypeId} (h0 : ts[0]? = some t0) (h1 : ts[1]? = some t1) {ty : TypeId} {a : Option Addr} {len cap n : Nat} {u : Value} {vs olds : List Value}
    (hl : ∀ w, (Builtin.lenOf u).run P w = .ok n w) (hf : (Builtin.firstCells i.size n u).run P w.drew = .ok vs.toArray w.drew) (hfo : (Builtin.firstCells i.size len (.slice a len cap)).run P w.drew = .ok olds.toArray w.drew)
    (hg : cap < len + n) (hlen : len ≤ 100000) (hn' : n ≤ 100000) (hb : i.bytes ≤ 10000) :
    (Builtin.append_ ts ty #[.slice a len cap, u]).run P w = .ok (.slice (some ⟨w.heap.size, 0, none⟩) (len + n) (grownCap w (len + n) cap e))
        (w.drew.alloc (.cells (olds.toArray ++ vs.toArray ++ Builtin.zeroCells z.cells (grownCap w (len + n) cap e - (len + n))) e)) := by
  simp only [K2, Bool.false_eq_true, if_false] at hk
  have hn : ¬ (len + n ≤ cap) := by omega
  have h63' : ¬ (9223372036854775807 < ((len : Int) + (n : Int))) := by omega
  have h48' : ¬ (281474976710656 < Builtin.nextslicecap (len + n) cap * i.bytes) := by
    have := nextslicecap_le (need := len + n) (old := cap) hg
    have : Builtin.nextslicecap (len + n) cap * i.bytes ≤ 400000 * 10000 := Nat.mul_le_mul (by omega) hb
    omega
  rcases hk with ⟨e2, hD⟩ | hD <;>
    (simp [Builtin.append_, h0, h1, run_underlying ht, run_underlying hD, sizeOf, typeInfo, zeroValue, hi, hz, hl, hn, h63', h48', Question.forced, hf, hfo, newRow, grownCap]
     try (congr 2; apply Array.ext'; simp [List.append_assoc]))

theorem append_grows_zeros {t0 t1 e : TypeId} {i : TypeInfo} {z : Value} (ht : P.underlying t0 = some (.slice e)) (hi : P.info? e = some i) (hz : i.zero = some z) (hs1 : i.size = 1) (hk : K2 P t1 true) {ts : Array TypeId} (h0 : ts[0]? = some t0) (h1 : ts[1]? = some t1) {ty : TypeId} {a : Option Addr} {len cap n : Nat} {k : IntKind} {olds : List Value}
    (hfo : (Builtin.firstCells i.size len (.slice a len cap)).run P w.drew = .ok olds.toArray w.drew)
    (hn : 0 < n) (hg : cap < len + n) (hlen : len ≤ 100000) (hn' : n ≤ 100000) (hb : i.bytes ≤ 10000) :
    (Builtin.append_ ts ty #[.slice a len cap, .int k (.ofNat n)]).run P w = .ok (.slice (some ⟨w.heap.size, 0, none⟩) (len + n) (grownCap w (len + n) cap e))
        (w.drew.alloc (.cells (olds.toArray ++ Builtin.zeroCells z.cells n ++ Builtin.zeroCells z.cells (grownCap w (len + n) cap e - (len + n))) e)) := by
  simp only [K2, if_true] at hk
  obtain ⟨k2, hD⟩ := hk
  have wr : IntKind.i64.wrap (Int.ofNat n) = (n : Int) := wrap_small (by omega)
  have wr' : IntKind.i64.wrap (n : Int) = (n : Int) := wrap_small (by omega)
  have h48 : ¬ ((281474976710656 : Int) < (n : Int) * (i.bytes : Int)) := by
    rw [← Int.natCast_mul]
    have : n * i.bytes ≤ 100000 * 10000 := Nat.mul_le_mul hn' hb
    omega
  have hn0 : ¬ ((n : Int) < 0) := by omega
  have hnc : ¬ (len + n ≤ cap) := by omega
  have h63' : ¬ (9223372036854775807 < ((len : Int) + (n : Int))) := by omega
  have h48' : ¬ (281474976710656 < Builtin.nextslicecap (len + n) cap * i.bytes) := by
    have := nextslicecap_le (need := len + n) (old := cap) hg
    have : Builtin.nextslicecap (len + n) cap * i.bytes ≤ 400000 * 10000 := Nat.mul_le_mul (by omega) hb
    omega
  rw [hs1] at hfo
  simp [Builtin.append_, h0, h1, run_underlying ht, run_underlying hD, sizeOf, typeInfo, zeroValue, hi, hz, asInt, asIntOf, wr, wr', h48, hnc, h63', h48', Question.forced, hfo, newRow, grownCap, hs1, show n ≠ 0 by omega]
  try (intro h; exact absurd h hn0)

theorem grown_ok {s1 : St} (hw : WRel w0 r s1 w) (hn : s1.next < 2 ^ HD) {e size : Nat} {old new f : Frag} {need cap' : Nat} {z : Value} {olds vs : List Value} (hj : joinFrag old new = some f)
    (ho : FragRel r old olds) (hv : FragRel r new vs) (hz : z.cells.size = size) (hcap : need ≤ cap') (hpos : 0 < size) :
    ∃ r', r.le r' ∧ WRel w0 r' (s1.new (objFrag e f size)) (w.drew.alloc (.cells (olds.toArray ++ vs.toArray ++ Builtin.zeroCells z.cells (cap' - need)) e)) ∧
      VRel r' (.slice s1.next 0 need need) (.slice (some ⟨w.heap.size, 0, none⟩) need cap') := by
  have hob : ObjRel r (objFrag e f size) ⟨w.drew.heap.size, 0, cap' - need⟩ (some (.cells (olds.toArray ++ vs.toArray ++ Builtin.zeroCells z.cells (cap' - need)) e)) := by
    have := objFrag_rel (e := e) (size := size) (p := ⟨w.drew.heap.size, 0, cap' - need⟩) (pre := []) (post := (Builtin.zeroCells z.cells (cap' - need)).toList) (fz := (0, 0)) (joinFrag_ok hj ho hv) (free_none _) rfl
      (by rw [Array.length_toList, size_zeroCells, hz]) (by omega)
    have e1 : ([] ++ (olds ++ vs) ++ (Builtin.zeroCells z.cells (cap' - need)).toList).toArray = olds.toArray ++ vs.toArray ++ Builtin.zeroCells z.cells (cap' - need) := by
      apply Array.ext'; simp
    rw [e1] at this; exact this
  obtain ⟨g1, g2⟩ := hw.drew.made hn hob
  refine ⟨_, g2, g1, ?_⟩
  simp only [VRel]
  exact ⟨_, Ren.put_same .., by simp only [Nat.add_sub_cancel' hcap]⟩

/-- One append, with what is appended at hand. -/
theorem appendFrag_ok (hw : WRel w0 r s w) (hn : s.next < 2 ^ HD) {e : TypeId} {i : TypeInfo} {z : Value} (hi : P.info? e = some i) (hz : i.zero = some z) (hzs : z.cells.size = i.size) (hpos : 0 < i.size)
    {x a : AV} {n : Nat} {new : Frag} {s' : St} (h : appendFrag P s e i.size x n new = some (a, s')) (hfew : fewOf x = true) {u : Value} (hu : VRel r x u) (hn0 : 0 < n)
    {prog : Sem Value} {vs : List Value} (hv : FragRel r new vs) (hvl : vs.length = n * i.size)
    (fits : ∀ b len cap w', u = .slice (some b) len cap → len + n ≤ cap → (storeCells (b.add (len * i.size)) vs).run P w = .ok () w' → prog.run P w = .ok (.slice (some b) (len + n) cap) w')
    (grows : ∀ (a : Option Addr) (len cap : Nat) (olds : List Value), u = .slice a len cap → len ≤ 100000 → cap < len + n → (Builtin.firstCells i.size len (.slice a len cap)).run P w.drew = .ok olds.toArray w.drew →
      prog.run P w = .ok (.slice (some ⟨w.heap.size, 0, none⟩) (len + n) (grownCap w (len + n) cap e)) (w.drew.alloc (.cells (olds.toArray ++ vs.toArray ++ Builtin.zeroCells z.cells (grownCap w (len + n) cap e - (len + n))) e))) :
    ∃ r' w' q, r.le r' ∧ prog.run P w = .ok q w' ∧ VRel r' a q ∧ WRel w0 r' s' w' := by
  unfold appendFrag at h
  simp only [St.setS_eq] at h
  split at h
  · simp only [VRel] at hu; subst hu
    simp only [grown] at h
    split at h <;> cases h
    rename_i f hf
    have hg := grows none 0 0 [] rfl (by omega) (by omega) (by simp [Builtin.firstCells])
    have ho : FragRel r new.empty [] := by
      cases new
      · rfl
      · exact ⟨.nil, by simp⟩
    obtain ⟨r', j1, j2, j3⟩ := grown_ok hw hn (e := e) hf ho hv hzs (grownCap_ge w (0 + n) 0 e) hpos
    rw [Nat.zero_add] at hg j2 j3
    exact ⟨r', _, _, j1, hg, j3, j2⟩
  · rename_i b o len cap
    simp only [VRel] at hu; obtain ⟨p, hp, rfl⟩ := hu
    have hlen : len ≤ 100000 := Nat.le_of_ble_eq_true hfew
    split at h
    · rename_i obj hobj
      split at h
      · rename_i hle
        have hle := Nat.le_of_ble_eq_true hle
        split at h
        · rename_i obj' hobj'
          cases h
          obtain ⟨w', k1, k2⟩ := writeFrag_ok (P := P) hw hobj hp hobj' hv
          refine ⟨r, w', .slice (some ⟨p.blk, o + p.shift, none⟩) (len + n) (cap + p.more), Ren.le_refl r, ?_, by simp only [VRel]; exact ⟨p, hp, rfl⟩, k2⟩
          refine fits _ _ _ w' rfl (by omega) ?_
          rw [add_none, Nat.add_right_comm]; exact k1
        · cases h
      · rename_i hle
        have hle : ¬ len + n ≤ cap := fun h => hle (Nat.ble_eq_true_of_le h)
        split at h
        · rename_i old hold
          obtain ⟨olds, k1, k2⟩ := cutFrag_run (P := P) hw hobj hp hold
          have k3 : (Builtin.firstCells i.size len (.slice (some ⟨p.blk, o + p.shift, none⟩) len (cap + p.more))).run P w.drew = .ok olds.toArray w.drew := by
            simp only [Builtin.firstCells]; exact k2 w.drew rfl
          have grow : cap + p.more < len + n → ∀ {s1 : St}, WRel w0 r s1 w → s1.next = s.next → grown s1 e i.size old new (len + n) = some (a, s') →
              ∃ r' w' q, r.le r' ∧ prog.run P w = .ok q w' ∧ VRel r' a q ∧ WRel w0 r' s' w' := fun hg s1 hw1 hs1 h => by
            simp only [grown] at h
            split at h <;> cases h
            rename_i f hf
            obtain ⟨r', j1, j2, j3⟩ := grown_ok hw1 (by rw [hs1]; exact hn) (e := e) hf k1 hv hzs (grownCap_ge w (len + n) (cap + p.more) e) hpos
            exact ⟨r', _, _, j1, grows _ _ _ olds rfl hlen hg k3, j3, j2⟩
          split at h
          · rename_i hc
            have hm := closed_more hw hobj hp hc
            exact grow (by omega) hw rfl h
          · split at h
            · rename_i hcond
              simp only [Bool.and_eq_true] at hcond
              have c1 : obj.opn = i.size := Nat.eq_of_beq_eq_true hcond.1.1.1
              have c2 : o + cap * i.size = obj.len := Nat.eq_of_beq_eq_true hcond.1.1.2
              have c3 : len ≤ cap := Nat.le_of_ble_eq_true hcond.1.2
              have c4 : obj.elem = e := Nat.eq_of_beq_eq_true hcond.2
              by_cases hg : cap + p.more < len + n
              · exact grow hg (hw.forget (hw.lt hp)) rfl h
              · simp only [grown] at h
                split at h <;> cases h
                rename_i f hf
                obtain ⟨pre, cs, post, fz, hx, hfz, h3, h4, h5, h6, h7, h8⟩ := row_of hw hobj hp hold
                rw [c4] at hx
                have hlc : len * i.size ≤ cap * i.size := Nat.mul_le_mul_right _ c3
                have htot : (len + n) * i.size ≤ (cap + p.more) * i.size := Nat.mul_le_mul_right _ (by omega)
                rw [Nat.add_mul, Nat.add_mul] at htot
                rw [c1] at h4
                have h4 := h4 (Nat.ne_of_gt hpos)
                have hsz : o + len * i.size + vs.length ≤ cs.length + post.length := by rw [hvl]; omega
                obtain ⟨w', i1, i2⟩ := run_storeCells (P := P) (g := p.blk) (o := o + p.shift + len * i.size) vs 0 _ w hx hfz (by simp; omega) hv.ones (by rw [hvl]; exact Nat.mul_pos hn0 hpos)
                -- the row, seen from its new begin
                have em : (pre ++ cs ++ post).take (o + p.shift + len * i.size + 0) ++ vs ++ (pre ++ cs ++ post).drop (o + p.shift + len * i.size + 0 + vs.length) =
                    (pre ++ cs.take o) ++ (((cs.drop o).take (len * i.size)) ++ vs) ++ (pre ++ cs ++ post).drop (o + p.shift + len * i.size + vs.length) := by
                  refine List.ext_getElem? fun q => ?_
                  simp only [List.getElem?_append, List.length_append, List.length_take, List.length_drop, List.getElem?_take, List.getElem?_drop]
                  grind
                have hplace : (pre ++ cs.take o).length = p.shift + o := by simp; omega
                have hob : ObjRel r (objFrag e f i.size) ⟨p.blk, p.shift + o, cap + p.more - (len + n)⟩ (some (.cells ((pre ++ cs.take o) ++ (((cs.drop o).take (len * i.size)) ++ vs) ++ (pre ++ cs ++ post).drop (o + p.shift + len * i.size + vs.length)).toArray e fz)) := by
                  have e1 : (pre ++ cs.take o) ++ (((cs.drop o).take (len * i.size)) ++ vs) ++ (pre ++ cs ++ post).drop (o + p.shift + len * i.size + vs.length) =
                      (pre ++ cs ++ post).take (o + p.shift + len * i.size + 0) ++ vs ++ (pre ++ cs ++ post).drop (o + p.shift + len * i.size + 0 + vs.length) := em.symm
                  have hlen2 : ((pre ++ cs.take o) ++ (((cs.drop o).take (len * i.size)) ++ vs) ++ (pre ++ cs ++ post).drop (o + p.shift + len * i.size + vs.length)).length = (pre ++ cs ++ post).length := by
                    rw [e1]; simp; omega
                  refine objFrag_rel (p := ⟨p.blk, p.shift + o, cap + p.more - (len + n)⟩) (joinFrag_ok hf h8 hv) (by rw [hlen2]; exact hfz) hplace ?_ (fun h0 => absurd h0 (Nat.ne_of_gt hpos))
                  simp only [List.length_drop, List.length_append]
                  rw [h3, h4, h6, ← c2, hvl, Nat.sub_mul, Nat.add_mul, Nat.add_mul]
                  omega
                rw [em] at i2
                obtain ⟨j1, j2⟩ := hw.moved (p' := ⟨p.blk, p.shift + o, cap + p.more - (len + n)⟩) hn hobj hp i2 rfl hob
                refine ⟨_, w', .slice (some ⟨p.blk, o + p.shift, none⟩) (len + n) (cap + p.more), j2, ?_, ?_, j1⟩
                · refine fits _ _ _ w' rfl (by omega) ?_
                  rw [add_none]; exact i1
                · simp only [VRel]
                  refine ⟨_, Ren.put_same .., ?_⟩
                  simp only [Nat.zero_add, Value.slice.injEq, Option.some.injEq, Addr.mk.injEq, true_and, and_true]
                  refine ⟨Nat.add_comm _ _, by omega⟩
            · cases h
        · cases h
    · cases h
  · cases h

theorem kind2_slice {t1 : TypeId} (h : kind2 P t1 = 1) : K2 P t1 false := by
  simp only [K2, Bool.false_eq_true, if_false]
  unfold kind2 at h
  split at h
  · cases h
  · rename_i e he; exact .inl ⟨e, he⟩
  · rename_i he; exact .inr he
  · cases h
theorem kind2_int {t1 : TypeId} (h : kind2 P t1 = 0) : K2 P t1 true := by
  simp only [K2, if_true]
  unfold kind2 at h
  split at h
  · rename_i k hk; exact ⟨k, hk⟩
  · cases h
  · cases h
  · cases h

theorem aAppend_ok (hw : WRel w0 r s w) {t0 t1 : TypeId} {x y a : AV} {s' : St} (h : aAppend P t0 t1 s x y = some (a, s')) {u v : Value} (hu : VRel r x u) (hv : VRel r y v)
    {ts : Array TypeId} (h0 : ts[0]? = some t0) (h1 : ts[1]? = some t1) (ty : TypeId) :
    ∃ r' w' q, r.le r' ∧ (Builtin.append_ ts ty #[u, v]).run P w = .ok q w' ∧ VRel r' a q ∧ WRel w0 r' s' w' := by
  unfold aAppend at h
  split at h
  · rename_i e hD
    split at h
    · rename_i i hi
      split at h
      · rename_i hc
        simp only [appOk, Bool.and_eq_true, Nat.blt] at hc
        obtain ⟨⟨⟨⟨c1, c2⟩, c3⟩, c4⟩, c5⟩ := hc
        have c1 : 0 < i.size := Nat.le_of_ble_eq_true c1
        have c2 : i.bytes ≤ 10000 := Nat.le_of_ble_eq_true c2
        have c3 : s.next < 2 ^ HD := Nat.le_of_ble_eq_true c3
        unfold zeroOk at c5
        split at c5
        case h_2 => cases c5
        rename_i z hz
        have hzs : z.cells.size = i.size := Nat.eq_of_beq_eq_true c5
        split at h
        · rename_i hk
          have hk2 := kind2_int hk
          split at h
          · rename_i kk k
            simp only [VRel] at hv; subst hv
            split at h
            · rename_i hc2
              simp only [Bool.and_eq_true, Nat.blt] at hc2
              obtain ⟨⟨⟨d1, d2⟩, d3⟩, d4⟩ := hc2
              have d2 : i.size = 1 := Nat.eq_of_beq_eq_true d2
              have d3 : k ≤ 100000 := Nat.le_of_ble_eq_true d3
              have d4 : 0 < k := Nat.le_of_ble_eq_true d4
              split at h
              · rename_i hz0
                obtain ⟨zv, g1, g2⟩ := aZero_ok hz0
                have g2 := g2 r
                simp only [VRel] at g2
                have ezv : z = zv := by
                  have a1 := g1 w
                  simp [zeroValue, typeInfo, hi, hz] at a1
                  exact a1
                subst ezv
                have ecells : Builtin.zeroCells z.cells k = (u8Cells k 0).toArray := by
                  rw [g2]
                  have := mod_cells (n := k) (z := [Value.int .u8 0]) (by simp)
                  have e2 : (List.replicate k [Value.int .u8 0]).flatten = u8Cells k 0 := by
                    refine List.ext_getElem? fun i => ?_
                    rw [u8Cells_get, List.flatten_replicate_singleton, List.getElem?_replicate]
                    simp [byteAt]
                  rw [← e2, ← this]; rfl
                refine appendFrag_ok (prog := Builtin.append_ ts ty #[u, .int kk (.ofNat k)]) hw c3 hi hz hzs c1 h c4 hu d4 (vs := u8Cells k 0) rfl (by rw [u8Cells_length, d2, Nat.mul_one]) ?_ ?_
                · rintro b len cap w' rfl hle hst
                  exact append_fits_zeros hD hi hz d2 hk2 h0 h1 d4 d3 c2 hle (by rw [ecells]; exact hst)
                · rintro a len cap olds rfl hlen hg hfo
                  rw [← ecells]
                  exact append_grows_zeros hD hi hz d2 hk2 h0 h1 hfo d4 hg hlen d3 c2
              · cases h
            · cases h
          · cases h
        · rename_i hk
          have hk2 := kind2_slice hk
          split at h
          · rename_i n hn
            have hlen := srcLen_run (P := P) hn hv
            split at h
            · rename_i hn0
              have hn0 : n = 0 := Nat.eq_of_beq_eq_true hn0
              subst hn0
              have hf0 : (Builtin.firstCells i.size 0 v).run P w = .ok ([] : List Value).toArray w := by
                cases y <;> simp only [srcLen] at hn <;> try (cases hn; done)
                all_goals
                  simp only [VRel] at hv
                  (try obtain ⟨_, _, rfl⟩ := hv) <;> (try obtain ⟨_, rfl⟩ := hv) <;> (try subst hv) <;> simp [Builtin.firstCells, loadCells, loadCellsFrom]
                try (apply Array.ext'; simp)
              unfold aAppendNone at h
              split at h
              · cases h
                simp only [VRel] at hu; subst hu
                exact ⟨r, w, _, Ren.le_refl r, append_fits hD hi hk2 h0 h1 hlen hf0 (Nat.le_refl _) (w' := w) (by simp) (by simp), by simp only [VRel], hw⟩
              · cases h
                simp only [VRel] at hu; obtain ⟨a0, c0, rfl⟩ := hu
                exact ⟨r, w, _, Ren.le_refl r, append_fits hD hi hk2 h0 h1 hlen hf0 (by omega) (w' := w) (by simp [storeCells]) (by simp), by simp only [VRel]; exact ⟨_, _, rfl⟩, hw⟩
              · rename_i b o len cap
                split at h
                · rename_i hle
                  have hle := Nat.le_of_ble_eq_true hle
                  cases h
                  simp only [VRel] at hu; obtain ⟨p, hp, rfl⟩ := hu
                  exact ⟨r, w, _, Ren.le_refl r, append_fits hD hi hk2 h0 h1 hlen hf0 (by omega) (w' := w) (by simp [storeCells]) (by simp), by simp only [VRel]; exact ⟨p, hp, rfl⟩, hw⟩
                · cases h
              · cases h
            · rename_i hn0
              have hn0 : ¬ n = 0 := fun e => hn0 (by rw [e]; rfl)
              split at h
              · rename_i hnle
                have hnle := Nat.le_of_ble_eq_true hnle
                split at h
                · rename_i f hf
                  have main : appendFrag P s e i.size x n f = some (a, s') → (∀ m q, y = .str m q → i.size = 1) → ∃ r' w' q, r.le r' ∧ (Builtin.append_ ts ty #[u, v]).run P w = .ok q w' ∧ VRel r' a q ∧ WRel w0 r' s' w' := fun h hstr => by
                    obtain ⟨vs, k1, k2, k3⟩ := src_ok (P := P) hw hf ⟨n, hn, Nat.le_refl _⟩ hstr hv
                    refine appendFrag_ok (prog := Builtin.append_ ts ty #[u, v]) hw c3 hi hz hzs c1 h c4 hu (by omega) (vs := vs) k1 k2 ?_ ?_
                    · rintro b len cap w' rfl hle hst
                      exact append_fits hD hi hk2 h0 h1 hlen (k3 w fun _ _ => rfl) hle (fun b' hb' => by cases hb'; exact hst) (by simp)
                    · rintro a len cap olds rfl hlen' hg hfo
                      exact append_grows hD hi hz hk2 h0 h1 hlen (k3 w.drew fun _ _ => rfl) hfo hg hlen' hnle c2
                  split at h
                  · split at h
                    · rename_i hs1
                      exact main h fun _ _ _ => Nat.eq_of_beq_eq_true hs1
                    · cases h
                  · rename_i hns
                    exact main h fun m q e => absurd e (hns m q)
                · cases h
              · cases h
          · cases h
        · cases h
      · cases h
    · cases h
  · cases h
end
end
end Go.X

/- Maps. -/
namespace Go.X
noncomputable section
set_option linter.unusedVariables false
set_option linter.unusedSimpArgs false
open Go.MapKept

abbrev Ent := AV × AV × Option Nat

def keyEq (a b : AV) : Bool :=
  match a with
  | .int _ n => match b with | .int _ m => ieq n m | _ => false
  | .str n x => match b with | .str m y => Nat.beq n m && Nat.beq x y | _ => false
  | _ => false

def findG (k : AV) : List Ent → Option (AV × Option Nat)
  | [] => none
  | (a, v, b) :: l => match keyEq a k with
    | true => some (v, b)
    | false => findG k l
def findNC (n : Nat) (l : List Ent) : Option (AV × Option Nat) := findG (.int .i64 (.ofNat n)) l
/-- A number that is not negative. -/
def findN (n : Nat) (l : List Ent) : Option (AV × Option Nat) :=
  List.rec (motive := fun _ => Option (AV × Option Nat)) none (fun x _ ih => match x.1 with
    | .int _ (.ofNat m) => @Bool.rec (fun _ => Option (AV × Option Nat)) ih (some x.2) (Nat.beq m n)
    | _ => ih) l
def findA (k : AV) (l : List Ent) : Option (AV × Option Nat) :=
  match k with
  | .int _ (.ofNat n) => findN n l
  | k => findG k l
theorem findA_nil (k : AV) : findA k [] = none := by
  unfold findA; split <;> rfl
theorem findN_cons (n : Nat) (x : Ent) (l : List Ent) : findN n (x :: l) = (match x.1 with
    | .int _ (.ofNat m) => @Bool.rec (fun _ => Option (AV × Option Nat)) (findN n l) (some x.2) (Nat.beq m n)
    | _ => findN n l) := rfl
theorem findA_cons (k a v : AV) (b : Option Nat) (l : List Ent) : findA k ((a, v, b) :: l) = (match keyEq a k with
    | true => some (v, b)
    | false => findA k l) := by
  cases k with
  | int kk n =>
    cases n with
    | ofNat n =>
      show findN n ((a, v, b) :: l) = (match keyEq a (.int kk (.ofNat n)) with | true => some (v, b) | false => findN n l)
      rw [findN_cons]
      cases a with
      | int ka m =>
        cases m with
        | ofNat m => simp only [keyEq, ieq]; cases Nat.beq m n <;> rfl
        | negSucc m => simp only [keyEq, ieq]
      | _ => simp only [keyEq]
    | negSucc n => rfl
  | _ => rfl

def updA (k v : AV) (l : List Ent) : List Ent := l.map fun x => match keyEq x.1 k with | true => (x.1, v, x.2.2) | false => x
def delA (k : AV) (l : List Ent) : List Ent := l.filter fun x => !keyEq x.1 k
def bornIs (n : Nat) (x : Ent) : Bool := match x.2.2 with | some m => Nat.beq m n | none => false
def setA (n : Nat) (v : AV) (l : List Ent) : List Ent := l.map fun x => match bornIs n x with | true => (x.1, v, x.2.2) | false => x

def updNC {β : Type} (n : Nat) (v : AV) (l : List Ent) (k : List Ent → β) : β := k (updA (.int .i64 (.ofNat n)) v l)
/-- A number's entry is turned; the row alone is reckoned. -/
def updN {β : Type} (n : Nat) (v : AV) (l : List Ent) : (List Ent → β) → β :=
  List.rec (motive := fun _ => (List Ent → β) → β) (fun k => k []) (fun x _ ih k => match x.1 with
    | .int _ (.ofNat m) => @Bool.rec (fun _ => β) (ih fun l => k (x :: l)) (ih fun l => k ((x.1, v, x.2.2) :: l)) (Nat.beq m n)
    | _ => ih fun l => k (x :: l)) l
theorem updN_cons {β : Type} (n : Nat) (v : AV) (x : Ent) (l : List Ent) (k : List Ent → β) : updN n v (x :: l) k = (match x.1 with
    | .int _ (.ofNat m) => @Bool.rec (fun _ => β) (updN n v l fun l => k (x :: l)) (updN n v l fun l => k ((x.1, v, x.2.2) :: l)) (Nat.beq m n)
    | _ => updN n v l fun l => k (x :: l)) := rfl
theorem updN_eq {β : Type} (kk : IntKind) (n : Nat) (v : AV) : ∀ (l : List Ent) (k : List Ent → β), updN n v l k = k (updA (.int kk (.ofNat n)) v l)
  | [], k => rfl
  | (a, w, b) :: l, k => by
    rw [updN_cons]
    simp only [updN_eq kk n v l]
    cases a with
    | int ka m =>
      cases m with
      | ofNat m => simp only [updA, List.map_cons, keyEq, ieq]; cases Nat.beq m n <;> rfl
      | negSucc m => simp only [updA, List.map_cons, keyEq, ieq]
    | _ => simp only [updA, List.map_cons, keyEq]
def St.setU (s : St) (b : Nat) (kd : KK) (k v : AV) (l : List Ent) (c : Option Nat) : St :=
  match k with
  | .int _ (.ofNat n) => updN n v l fun l => ⟨T.set (path HD b) s.heap (.v (.map kd l c)), s.next⟩
  | k => s.set b (.map kd (updA k v l) c)
theorem St.setU_eq (s : St) (b : Nat) (kd : KK) (k v : AV) (l : List Ent) (c : Option Nat) : s.setU b kd k v l c = s.set b (.map kd (updA k v l) c) := by
  unfold St.setU
  split
  · rename_i kk n; rw [updN_eq kk, St.set_def]
  · rfl

/-- A key of this kind. -/
def isKeyA (kd : KK) (k : AV) : Bool :=
  match kd with
  | .int j => match k with | .int i _ => decide (i = j) | _ => false
  | .str => match k with | .str _ _ => true | _ => false

/-- The map's type fits. -/
def kdOf (P : Program) (kt : TypeId) : Option KK :=
  match P.underlying kt with
  | some (.int k) => some (.int k)
  | some .string => some .str
  | _ => none

theorem AllRel.get {α β : Type} {R : α → β → Prop} : ∀ {l : List α} {m : List β}, AllRel R l m → l.length = m.length ∧ ∀ (i : Nat) (a : α) (b : β), l[i]? = some a → m[i]? = some b → R a b
  | [], [], _ => ⟨rfl, fun i a b h => by simp at h⟩
  | a :: l, b :: m, ⟨h1, h2⟩ => by
    obtain ⟨i1, i2⟩ := h2.get
    refine ⟨by simp [i1], fun i x y hx hy => ?_⟩
    cases i with
    | zero => simp at hx hy; subst hx; subst hy; exact h1
    | succ i => exact i2 i x y (by simpa using hx) (by simpa using hy)
theorem AllRel.of_get {α β : Type} {R : α → β → Prop} : ∀ {l : List α} {m : List β}, l.length = m.length → (∀ (i : Nat) (a : α) (b : β), l[i]? = some a → m[i]? = some b → R a b) → AllRel R l m
  | [], [], _, _ => trivial
  | [], _ :: _, h, _ => by simp at h
  | _ :: _, [], h, _ => by simp at h
  | a :: l, b :: m, h, hr => ⟨hr 0 a b rfl rfl, .of_get (by simpa using h) fun i x y hx hy => hr (i + 1) x y (by simpa using hx) (by simpa using hy)⟩

section
variable {P : Program} {w w0 : World} {r : Ren} {s : St}

theorem keyEq_ok {kd : KK} {a b : AV} {u v : Value} (ha : VRel r a u) (hb : VRel r b v) (hu : IsKey kd.desc u) (hv : IsKey kd.desc v) : keyEq a b = true ↔ u = v := by
  cases kd with
  | int k =>
    cases u <;> simp [KK.desc, IsKey] at hu
    cases v <;> simp [KK.desc, IsKey] at hv
    have e1 := ha.shape_int rfl
    have e2 := hb.shape_int rfl
    subst e1; subst e2
    simp [keyEq, ieq_eq, hu, hv]
  | str =>
    cases u <;> simp [KK.desc, IsKey] at hu
    cases v <;> simp [KK.desc, IsKey] at hv
    cases a <;> simp [VRel, Go.undef] at ha
    cases b <;> simp [VRel, Go.undef] at hb
    obtain ⟨ha, rfl⟩ := ha
    obtain ⟨hb, rfl⟩ := hb
    simp only [keyEq, Bool.and_eq_true, Value.string.injEq]
    refine ⟨fun ⟨e1, e2⟩ => by rw [Nat.eq_of_beq_eq_true e1, Nat.eq_of_beq_eq_true e2], fun e => ?_⟩
    have := strOf_inj ha hb e
    rw [this.1, this.2]
    exact ⟨Nat.beq_refl _, Nat.beq_refl _⟩

theorem isKeyA_ok {kd : KK} {k : AV} (h : isKeyA kd k = true) {u : Value} (hu : VRel r k u) : IsKey kd.desc u := by
  cases kd with
  | int j =>
    cases k <;> simp [isKeyA] at h
    subst h
    simp only [VRel] at hu; subst hu
    simp [KK.desc, IsKey]
  | str =>
    cases k <;> simp [isKeyA] at h
    simp only [VRel] at hu; obtain ⟨_, rfl⟩ := hu
    simp [KK.desc, IsKey]

theorem findA_none {k : AV} : ∀ {l : List Ent}, (∀ x ∈ l, keyEq x.1 k = false) → findA k l = none
  | [], _ => findA_nil k
  | (a, v, b) :: l, h => by
    have := h _ (List.mem_cons_self ..)
    simp only at this
    simp only [findA_cons, this]
    exact findA_none fun x hx => h x (List.mem_cons_of_mem _ hx)
theorem findA_some {k : AV} : ∀ {l : List Ent}, (∃ x ∈ l, keyEq x.1 k = true) → ∃ x ∈ l, keyEq x.1 k = true ∧ findA k l = some (x.2.1, x.2.2)
  | [], h => by obtain ⟨_, h, _⟩ := h; cases h
  | (a, v, b) :: l, h => by
    cases hk : keyEq a k with
    | true => exact ⟨(a, v, b), List.mem_cons_self .., hk, by simp only [findA_cons, hk]⟩
    | false =>
      obtain ⟨x, hx, hxk⟩ := h
      have : ∃ x ∈ l, keyEq x.1 k = true := by
        cases hx with
        | head => rw [hk] at hxk; cases hxk
        | tail _ hx => exact ⟨x, hx, hxk⟩
      obtain ⟨y, h1, h2, h3⟩ := findA_some this
      exact ⟨y, List.mem_cons_of_mem _ h1, h2, by simp only [findA_cons, hk]; exact h3⟩

/-- What a look-up finds, on both sides. -/
theorem MapRel.find {kd : KK} {l : List Ent} {clk : Option Nat} {es : Array MapEntry} {clock : Nat} (hm : MapRel r kd l clk es clock) {k : AV} {u : Value} (hu : VRel r k u) (hk : IsKey kd.desc u) :
    (findA k l = none ∧ Instr.findNow kd.desc u es.toList 0 = some none ∧ ∀ x ∈ es.toList, x.key ≠ u) ∨
    ∃ v bo j e, findA k l = some (v, bo) ∧ Instr.findNow kd.desc u es.toList 0 = some (some (j, e.val)) ∧ es.toList[j]? = some e ∧ e.key = u ∧ VRel r v e.val ∧ ∀ n, bo = some n → e.born = n := by
  obtain ⟨l', hp, ha⟩ := hm.ents
  obtain ⟨hlen, hget⟩ := ha.get
  have back : ∀ x ∈ l, ∃ (i : Nat) (e : MapEntry), l'[i]? = some x ∧ es.toList[i]? = some e ∧ entRel r x e := fun x hx => by
    obtain ⟨i, hi⟩ := List.mem_iff_getElem?.1 (hp.mem_iff.2 hx)
    have : i < es.toList.length := by rw [← hlen]; exact (List.getElem?_eq_some_iff.1 hi).1
    exact ⟨i, es.toList[i], hi, List.getElem?_eq_getElem this, hget i x _ hi (List.getElem?_eq_getElem this)⟩
  rcases findNow_spec hk es.toList 0 hm.keys with ⟨h1, h2⟩ | ⟨j, e, h1, h2, h3⟩
  · refine .inl ⟨findA_none fun x hx => ?_, h1, h2⟩
    obtain ⟨i, e, _, he, hr⟩ := back x hx
    cases hke : keyEq x.1 k with
    | false => rfl
    | true =>
      have hmem := List.mem_of_getElem? he
      exact absurd ((keyEq_ok hr.1 hu (hm.keys e hmem) hk).1 hke) (h2 e hmem)
  · refine .inr ?_
    have hj : j < l'.length := by rw [hlen]; exact (List.getElem?_eq_some_iff.1 h2).1
    have hx := hget j l'[j] e (List.getElem?_eq_getElem hj) h2
    have hme := List.mem_of_getElem? h2
    have hxk : keyEq (l'[j]).1 k = true := (keyEq_ok hx.1 hu (hm.keys e hme) hk).2 h3
    obtain ⟨y, y1, y2, y3⟩ := findA_some (k := k) (l := l) ⟨l'[j], hp.mem_iff.1 (List.getElem_mem hj), hxk⟩
    obtain ⟨i, e', g1, g2, g3⟩ := back y y1
    have hme' := List.mem_of_getElem? g2
    have hk' : e'.key = u := (keyEq_ok g3.1 hu (hm.keys e' hme') hk).1 y2
    have hij : i = j := by
      have hnd := hm.stamped.2.2
      have a1 : (es.toList.map (·.key))[i]? = some u := by rw [List.getElem?_map, g2]; simp [hk']
      have a2 : (es.toList.map (·.key))[j]? = some u := by rw [List.getElem?_map, h2]; simp [h3]
      exact (List.getElem?_inj (List.getElem?_eq_some_iff.1 a1).1 hnd).1 (a1.trans a2.symm)
    subst hij
    rw [g2] at h2; injection h2 with h2; subst h2
    exact ⟨y.2.1, y.2.2, i, e', y3, by simpa using h1, g2, hk', g3.2.1, g3.2.2⟩

theorem perm_map {l' l : List Ent} (h : l'.Perm l) (f : Ent → Ent) : (l'.map f).Perm (l.map f) := h.map f

/-- One entry is written. -/
theorem MapRel.upd {kd : KK} {l : List Ent} {clk : Option Nat} {es : Array MapEntry} {clock : Nat} (hm : MapRel r kd l clk es clock) {k v : AV} {u z : Value} (hu : VRel r k u) (hk : IsKey kd.desc u) (hz : VRel r v z)
    {j : Nat} {e : MapEntry} (hj : es.toList[j]? = some e) (he : e.key = u) : MapRel r kd (updA k v l) clk (es.modify j fun e => { e with key := u, val := z }) clock := by
  obtain ⟨l', hp, ha⟩ := hm.ents
  obtain ⟨hlen, hget⟩ := ha.get
  have hja : es[j]? = some e := by rw [← Array.getElem?_toList]; exact hj
  refine ⟨stamped_modify hm.stamped j _ (fun _ _ => rfl) (fun x _ hx => by rw [hja] at hx; injection hx with hx; subst hx; exact he.symm),
    isKey_modify hm.keys j _ (fun x hx => by rw [hja] at hx; injection hx with hx; subst hx; exact he.symm), hm.known, _, hp.map _, ?_⟩
  refine .of_get (by simp [hlen]) fun i a b hia hib => ?_
  rw [List.getElem?_map] at hia
  rw [Array.getElem?_toList, Array.getElem?_modify] at hib
  cases hl : l'[i]? with
  | none => rw [hl] at hia; cases hia
  | some x =>
    rw [hl] at hia; simp only [Option.map_some, Option.some.injEq] at hia
    by_cases hij : j = i
    · subst hij
      rw [if_pos rfl, hja] at hib; simp only [Option.map_some, Option.some.injEq] at hib
      have hr := hget j x e hl hj
      have hkx : keyEq x.1 k = true := (keyEq_ok hr.1 hu (hm.keys e (List.mem_of_getElem? hj)) hk).2 he
      rw [hkx] at hia; simp only at hia
      subst hia; subst hib
      exact ⟨by rw [← he]; exact hr.1, hz, hr.2.2⟩
    · rw [if_neg hij, ← Array.getElem?_toList] at hib
      have hr := hget i x b hl hib
      have hkx : keyEq x.1 k = false := by
        cases hh : keyEq x.1 k with
        | false => rfl
        | true =>
          exfalso
          have hb := (keyEq_ok hr.1 hu (hm.keys b (List.mem_of_getElem? hib)) hk).1 hh
          have a1 : (es.toList.map (·.key))[i]? = some u := by rw [List.getElem?_map, hib]; simp [hb]
          have a2 : (es.toList.map (·.key))[j]? = some u := by rw [List.getElem?_map, hj]; simp [he]
          exact hij ((List.getElem?_inj (List.getElem?_eq_some_iff.1 a1).1 hm.stamped.2.2).1 (a1.trans a2.symm)).symm
      rw [hkx] at hia; simp only at hia
      subst hia; exact hr

/-- A new entry. -/
theorem MapRel.push {kd : KK} {l : List Ent} {clk : Option Nat} {es : Array MapEntry} {clock : Nat} (hm : MapRel r kd l clk es clock) {k v : AV} {u z : Value} (hu : VRel r k u) (hk : IsKey kd.desc u) (hz : VRel r v z)
    (hn : ∀ x ∈ es.toList, x.key ≠ u) : MapRel r kd ((k, v, clk) :: l) (clk.map (· + 1)) (es.push { key := u, val := z, born := clock }) (clock + 1) := by
  obtain ⟨l', hp, ha⟩ := hm.ents
  obtain ⟨hlen, hget⟩ := ha.get
  refine ⟨stamped_push hm.stamped hn, fun x hx => ?_, fun c hc => ?_, l' ++ [(k, v, clk)], ?_, ?_⟩
  · simp only [Array.toList_push, List.mem_append, List.mem_singleton] at hx
    rcases hx with hx | rfl
    · exact hm.keys x hx
    · exact hk
  · cases clk with
    | none => cases hc
    | some c' => simp at hc; subst hc; rw [hm.known c' rfl]
  · exact (List.perm_append_singleton _ _).trans (hp.cons _)
  · refine .of_get (by simp [hlen]) fun i a b hia hib => ?_
    rw [Array.toList_push] at hib
    rw [List.getElem?_append] at hia hib
    by_cases hi : i < l'.length
    · rw [if_pos hi] at hia
      rw [if_pos (by omega)] at hib
      exact hget i a b hia hib
    · rw [if_neg hi] at hia
      rw [if_neg (by omega)] at hib
      have hi0 : i - l'.length = 0 := by
        have := (List.getElem?_eq_some_iff.1 hia).1
        simp at this; omega
      rw [hi0] at hia
      rw [show i - es.toList.length = 0 by omega] at hib
      simp at hia hib
      subst hia; subst hib
      exact ⟨hu, hz, fun n hn => hm.known n hn⟩

theorem filter_erase {p : Ent → Bool} : ∀ {l : List Ent} {j : Nat} {x : Ent}, l[j]? = some x → p x = false → (∀ i y, l[i]? = some y → i ≠ j → p y = true) → l.filter p = l.eraseIdx j
  | [], j, x, h, _, _ => by simp at h
  | a :: l, 0, x, h, hx, hr => by
    simp at h; subst h
    have : l.filter p = l := List.filter_eq_self.2 fun y hy => by
      obtain ⟨i, hi⟩ := List.mem_iff_getElem?.1 hy
      exact hr (i + 1) y (by simpa using hi) (by omega)
    simp [hx, this]
  | a :: l, j + 1, x, h, hx, hr => by
    have h0 := hr 0 a rfl (by omega)
    have := filter_erase (p := p) (l := l) (j := j) (by simpa using h) hx fun i y hi hij => hr (i + 1) y (by simpa using hi) (by omega)
    simp [h0, this]

/-- An entry is taken out. -/
theorem MapRel.del {kd : KK} {l : List Ent} {clk : Option Nat} {es : Array MapEntry} {clock : Nat} (hm : MapRel r kd l clk es clock) {k : AV} {u : Value} (hu : VRel r k u) (hk : IsKey kd.desc u)
    {j : Nat} {e : MapEntry} (hj : es.toList[j]? = some e) (he : e.key = u) : MapRel r kd (delA k l) clk (es.eraseIdxIfInBounds j) clock := by
  obtain ⟨l', hp, ha⟩ := hm.ents
  obtain ⟨hlen, hget⟩ := ha.get
  have hjs : j < es.size := by have := (List.getElem?_eq_some_iff.1 hj).1; simpa using this
  have hel : (es.eraseIdxIfInBounds j).toList = es.toList.eraseIdx j := by
    unfold Array.eraseIdxIfInBounds; rw [dif_pos hjs, Array.toList_eraseIdx]
  have hsub : ∀ x ∈ (es.eraseIdxIfInBounds j).toList, x ∈ es.toList := fun x hx => by rw [hel] at hx; exact List.mem_of_mem_eraseIdx hx
  have hjl : j < l'.length := by have := (List.getElem?_eq_some_iff.1 hj).1; omega
  refine ⟨stamped_erase hm.stamped j, fun x hx => hm.keys x (hsub x hx), hm.known, delA k l', hp.filter _, ?_⟩
  have hx := hget j l'[j] e (List.getElem?_eq_getElem hjl) hj
  have e1 : delA k l' = l'.eraseIdx j := by
    refine filter_erase (List.getElem?_eq_getElem hjl) ?_ fun i y hi hij => ?_
    · have := (keyEq_ok hx.1 hu (hm.keys e (List.mem_of_getElem? hj)) hk).2 he
      simp [this]
    · have hil : i < es.toList.length := by rw [← hlen]; exact (List.getElem?_eq_some_iff.1 hi).1
      have hr := hget i y _ hi (List.getElem?_eq_getElem hil)
      cases hh : keyEq y.1 k with
      | false => rfl
      | true =>
        exfalso
        have hb := (keyEq_ok hr.1 hu (hm.keys _ (List.getElem_mem hil)) hk).1 hh
        have a1 : (es.toList.map (·.key))[i]? = some u := by rw [List.getElem?_map, List.getElem?_eq_getElem hil, Option.map_some, hb]
        have a2 : (es.toList.map (·.key))[j]? = some u := by rw [List.getElem?_map, hj]; simp [he]
        exact hij ((List.getElem?_inj (List.getElem?_eq_some_iff.1 a1).1 hm.stamped.2.2).1 (a1.trans a2.symm))
  rw [e1, hel]
  refine .of_get (by simp [List.length_eraseIdx, hlen]) fun i a b hia hib => ?_
  rw [List.getElem?_eraseIdx] at hia hib
  split at hia
  · rename_i hij; rw [if_pos hij] at hib; exact hget i a b hia hib
  · rename_i hij; rw [if_neg hij] at hib; exact hget (i + 1) a b hia hib

/-- The entry of a birth is written. -/
theorem MapRel.set {kd : KK} {l : List Ent} {clk : Option Nat} {es : Array MapEntry} {clock : Nat} (hm : MapRel r kd l clk es clock) {n : Nat} {v : AV} {z : Value} (hz : VRel r v z) (hall : l.all (fun x => x.2.2.isSome) = true)
    (hex : l.any (bornIs n) = true) : ∃ j, es.findIdx? (fun e => (e.born : Int) == (n : Int)) = some j ∧ MapRel r kd (setA n v l) clk (es.modify j fun e => { e with val := z }) clock := by
  obtain ⟨l', hp, ha⟩ := hm.ents
  obtain ⟨hlen, hget⟩ := ha.get
  have bi : ∀ (i : Nat) x e, l'[i]? = some x → es.toList[i]? = some e → (bornIs n x = true ↔ e.born = n) := fun i x e hx he => by
    have hr := hget i x e hx he
    have hs : x.2.2.isSome = true := List.all_eq_true.1 hall x (hp.mem_iff.1 (List.mem_of_getElem? hx))
    obtain ⟨m, hm⟩ := Option.isSome_iff_exists.1 hs
    have := hr.2.2 m hm
    simp only [bornIs, hm]
    rw [this]
    exact ⟨fun h => Nat.eq_of_beq_eq_true h, fun h => by rw [h]; exact Nat.beq_refl _⟩
  obtain ⟨x, hx1, hx2⟩ := List.any_eq_true.1 hex
  obtain ⟨j, hj⟩ := List.mem_iff_getElem?.1 (hp.mem_iff.2 hx1)
  have hjl : j < es.toList.length := by rw [← hlen]; exact (List.getElem?_eq_some_iff.1 hj).1
  have hje := List.getElem?_eq_getElem hjl
  have hborn : (es.toList[j]).born = n := (bi j x _ hj hje).1 hx2
  have huniq : ∀ (i : Nat) e, es.toList[i]? = some e → e.born = n → i = j := fun i e hi hb => by
    have a1 : (es.toList.map (·.born))[i]? = some n := by rw [List.getElem?_map, hi]; simp [hb]
    have a2 : (es.toList.map (·.born))[j]? = some n := by rw [List.getElem?_map, hje, Option.map_some, hborn]
    exact (List.getElem?_inj (List.getElem?_eq_some_iff.1 a1).1 hm.stamped.2.1).1 (a1.trans a2.symm)
  have hfind : es.findIdx? (fun e => (e.born : Int) == (n : Int)) = some j := by
    have hj' : j < es.size := by simpa using hjl
    rw [Array.findIdx?_eq_some_iff_getElem]
    refine ⟨hj', ?_, fun i hi => ?_⟩
    · have : es[j].born = n := by simpa using hborn
      simp [this]
    · have hi' : i < es.size := by omega
      simp only [beq_iff_eq]
      intro hc
      have : es[i].born = n := by exact_mod_cast hc
      have := huniq i es[i] (by rw [Array.getElem?_toList]; exact Array.getElem?_eq_getElem hi') this
      omega
  refine ⟨j, hfind, ?_⟩
  have hja : es[j]? = some (es.toList[j]) := by rw [← Array.getElem?_toList]; exact hje
  refine ⟨stamped_modify hm.stamped j _ (fun _ _ => rfl) (fun _ _ _ => rfl), isKey_modify hm.keys j _ (fun _ _ => rfl), hm.known, _, hp.map _, ?_⟩
  refine .of_get (by simp [hlen]) fun i a b hia hib => ?_
  rw [List.getElem?_map] at hia
  rw [Array.getElem?_toList, Array.getElem?_modify] at hib
  cases hl : l'[i]? with
  | none => rw [hl] at hia; cases hia
  | some y =>
    rw [hl] at hia; simp only [Option.map_some, Option.some.injEq] at hia
    by_cases hij : j = i
    · subst hij
      rw [if_pos rfl, hja] at hib; simp only [Option.map_some, Option.some.injEq] at hib
      have hb := (bi j y _ hl hje).2 hborn
      rw [hb] at hia; simp only at hia
      have hr := hget j y _ hl hje
      subst hia; subst hib
      exact ⟨hr.1, hz, hr.2.2⟩
    · rw [if_neg hij, ← Array.getElem?_toList] at hib
      have hb : bornIs n y = false := by
        cases hh : bornIs n y with
        | false => rfl
        | true => exact absurd (huniq i b hib ((bi i y b hl hib).1 hh)).symm hij
      rw [hb] at hia; simp only at hia
      subst hia; exact hget i y b hl hib
end
end
end Go.X
