/- Operations on values alone. -/
import Derived.Test.YtbnldlojlbbgbaaGreatDoorXa
import GoSem.Dispatch
import Derived.Laws.StructEq
set_option linter.unusedVariables false
set_option linter.unusedSimpArgs false

namespace Go.X
noncomputable section
set_option linter.unusedVariables false
set_option linter.unusedSimpArgs false

/-! Numbers. -/
def lim : IntKind → Nat
  | .i8 => 128 | .i16 => 32768 | .i32 => 2147483648 | .i64 => 9223372036854775808
  | .u8 => 256 | .u16 => 65536 | .u32 => 4294967296 | .u64 => 18446744073709551616
/-- 'IntKind.wrap', quick where nothing is to be cut. -/
def fwrap (k : IntKind) (n : Int) : Int :=
  match n with
  | .ofNat m => if Nat.blt m (lim k) = true then .ofNat m else k.wrap (.ofNat m)
  | .negSucc m => k.wrap (.negSucc m)
theorem fwrap_eq (k : IntKind) (n : Int) : fwrap k n = k.wrap n := by
  cases n with
  | negSucc m => rfl
  | ofNat m =>
    simp only [fwrap]
    split
    · rename_i h
      have h : m < lim k := by simp [Nat.blt] at h; omega
      cases k <;> simp [IntKind.wrap, IntKind.bits, IntKind.signed, lim] at h ⊢ <;> (try split) <;> omega
    · rfl

def ilt (a b : Int) : Bool :=
  match a, b with
  | .ofNat m, .ofNat n => Nat.blt m n
  | .ofNat _, .negSucc _ => false
  | .negSucc _, .ofNat _ => true
  | .negSucc m, .negSucc n => Nat.blt n m
theorem ilt_eq (a b : Int) : ilt a b = decide (a < b) := by
  cases a <;> cases b <;> simp only [ilt, Nat.blt] <;> rw [Bool.eq_iff_iff] <;> simp <;> omega
def ieq (a b : Int) : Bool :=
  match a, b with
  | .ofNat m, .ofNat n => Nat.beq m n
  | .negSucc m, .negSucc n => Nat.beq m n
  | _, _ => false
theorem ieq_eq (a b : Int) : ieq a b = decide (a = b) := by
  cases a <;> cases b <;> simp only [ieq] <;> rw [Bool.eq_iff_iff] <;> simp <;> omega

def aInt (op : BinOp) (k : IntKind) (a b : Int) : Option AV :=
  match op with
  | .add => some (.int k (fwrap k (a + b)))
  | .sub => some (.int k (fwrap k (a - b)))
  | .mul => some (.int k (fwrap k (a * b)))
  | .quo => if ieq b 0 = true then none else some (.int k (fwrap k (a.tdiv b)))
  | .rem => if ieq b 0 = true then none else some (.int k (a.tmod b))
  | .and => some (.int k (k.wrap (BitVec.ofInt k.bits a &&& BitVec.ofInt k.bits b).toNat))
  | .or => some (.int k (k.wrap (BitVec.ofInt k.bits a ||| BitVec.ofInt k.bits b).toNat))
  | .xor => some (.int k (k.wrap (BitVec.ofInt k.bits a ^^^ BitVec.ofInt k.bits b).toNat))
  | .andNot => some (.int k (k.wrap (BitVec.ofInt k.bits a &&& ~~~(BitVec.ofInt k.bits b)).toNat))
  | .eql => some (.bool (ieq a b))
  | .neq => some (.bool (!ieq a b))
  | .lss => some (.bool (ilt a b))
  | .leq => some (.bool (!ilt b a))
  | .gtr => some (.bool (ilt b a))
  | .geq => some (.bool (!ilt a b))
  | _ => none

def aShift (op : BinOp) (k : IntKind) (a b : Int) : Option AV :=
  match b with
  | .ofNat n =>
    match op with
    | .shl => some (.int k (fwrap k (a * 2 ^ (min n k.bits))))
    | .shr => some (.int k (a.fdiv (2 ^ (min n k.bits))))
    | _ => none
  | .negSucc _ => none

section
variable {P : Program} {w : World} {r : Ren}

theorem aInt_ok {op : BinOp} {k : IntKind} {a b : Int} {v : AV} (h : aInt op k a b = some v) (t : TypeId) :
    ∃ u, (binOp op t (.int k a) (.int k b)).run P w = .ok u w ∧ VRel r v u := by
  cases op <;> simp only [aInt] at h <;> (try (cases h; done)) <;>
    simp only [binOp, ne_eq, not_true, if_false, Op.intArith, Op.intDiv, Op.intBits, Op.intCmp, Sem.run_pure]
  case quo | rem =>
    split at h
    · cases h
    · rename_i hb
      rw [ieq_eq] at hb
      have hb : ¬ b = 0 := by simpa using hb
      cases h
      simp [hb, Sem.run, VRel, fwrap_eq]
  all_goals
    cases h
    refine ⟨_, rfl, ?_⟩
    simp only [VRel, fwrap_eq, ieq_eq, ilt_eq, Value.bool.injEq]
    try (rw [Bool.eq_iff_iff]; simp)
    try omega

theorem aShift_ok {op : BinOp} {k k' : IntKind} {a b : Int} {v : AV} (h : aShift op k a b = some v) (t : TypeId) :
    ∃ u, (binOp op t (.int k a) (.int k' b)).run P w = .ok u w ∧ VRel r v u := by
  cases b with
  | negSucc n => simp [aShift] at h
  | ofNat n =>
    have hn : ¬ (Int.ofNat n < 0) := by simp
    cases op <;> simp only [aShift] at h <;> (try (cases h; done))
    all_goals
      simp only [binOp, Op.shift, if_neg hn, Sem.run_pure]
      cases h
      exact ⟨_, rfl, by simp [VRel, fwrap_eq]⟩
end

/-! Equality. -/
def isC : Operand → Bool
  | .const _ => true
  | _ => false

def aEqIface (P : Program) (x y : AV) : Option Bool :=
  match x with
  | .nilIface => match y with | .nilIface => some true | .iface _ _ => some false | _ => none
  | .iface t (.int k a) => match y with
    | .nilIface => some false
    | .iface u (.int j b) =>
      if Nat.beq t u = true then
        match P.info? t with
        | some i => if i.comparable = true then (match P.underlying t with | some (.int _) => if k = j then some (ieq a b) else none | _ => none) else none
        | none => none
      else some false
    | _ => none
  | .iface _ _ => match y with | .nilIface => some false | _ => none
  | _ => none

def aEq (P : Program) (t : TypeId) (x y : AV) : Option Bool :=
  match P.underlying t with
  | some (.pointer _) => match x with
    | .nilPtr => match y with | .nilPtr => some true | .ptr _ _ => some false | _ => none
    | .ptr _ _ => match y with | .nilPtr => some false | _ => none
    | _ => none
  | some (.slice _) => match x with
    | .nilSlice => match y with | .nilSlice => some true | .slice _ _ _ _ => some false | .emptySl => some false | _ => none
    | .slice _ _ _ _ => match y with | .nilSlice => some false | _ => none
    | .emptySl => match y with | .nilSlice => some false | _ => none
    | _ => none
  | some (.map _ _) => match x with
    | .nilMap => match y with | .nilMap => some true | .map _ => some false | _ => none
    | .map _ => match y with | .nilMap => some false | _ => none
    | _ => none
  | some (.func _ _ _) => match x with
    | .nilFunc => match y with | .nilFunc => some true | .func _ _ _ => some false | _ => none
    | .func _ _ _ => match y with | .nilFunc => some false | _ => none
    | _ => none
  | some .bool => match x with
    | .bool a => match y with | .bool b => some (a == b) | _ => none
    | _ => none
  | some (.interface _) => aEqIface P x y
  | _ => none

/-- Structs of integers. -/
def aEqFields (P : Program) (l m : List AV) : List Field → Option Bool
  | [] => some true
  | f :: fs => match P.underlying f.type with
    | some (.int _) => match f.name == "_" with
      | true => none
      | false => match l[f.offset]? with
        | some (.int j a) => match m[f.offset]? with
          | some (.int k b) => if j = k then (match ieq a b with | true => aEqFields P l m fs | false => some false) else none
          | _ => none
        | _ => none
    | _ => none

def aEqAgg (P : Program) (t : TypeId) (l m : List AV) : Option Bool :=
  match P.underlying t with
  | some (.struct fs) => match P.eqGuardType P.depth t || P.stoodInHeld t with
    | true => none
    | false => aEqFields P l m fs.toList
  | _ => none

def aBin (P : Program) (op : BinOp) (t : TypeId) (xo yo : Operand) (x y : AV) : Option AV :=
  match x with
  | .int k a => match y with
    | .int k' b => match op with
      | .shl => aShift .shl k a b
      | .shr => aShift .shr k a b
      | op => if k = k' then aInt op k a b else none
    | _ => none
  | .str n x => match y with
    | .str m z => match op with
      | .eql => some (.bool (Nat.beq n m && Nat.beq x z))
      | .neq => some (.bool (!(Nat.beq n m && Nat.beq x z)))
      | _ => none
    | _ => none
  | .agg l => match y with
    | .agg m => match op with
      | .eql => match aEqAgg P t l m with | some b => some (.bool b) | none => none
      | .neq => match aEqAgg P t l m with | some b => some (.bool (!b)) | none => none
      | _ => none
    | _ => none
  | .nilIface =>
    match op with
    | .eql => if (isC xo || isC yo) = true then (match aEq P t .nilIface y with | some b => some (.bool b) | none => none) else none
    | .neq => if (isC xo || isC yo) = true then (match aEq P t .nilIface y with | some b => some (.bool (!b)) | none => none) else none
    | _ => none
  | x => match op with
    | .eql => match aEq P t x y with | some b => some (.bool b) | none => none
    | .neq => match aEq P t x y with | some b => some (.bool (!b)) | none => none
    | _ => none

section
variable {P : Program} {w : World} {r : Ren}

theorem aEqIface_ok {d : Nat} {t : TypeId} {ms : Array (String × TypeId)} (ht : P.underlying t = some (.interface ms)) {x y : AV} {b : Bool} (h : aEqIface P x y = some b)
    {u v : Value} (hu : VRel r x u) (hv : VRel r y v) : (Op.equalIn (d + 2) t u v).run P w = .ok b w := by
  have un : ∀ u v, (Op.equalIn (d + 2) t u v).run P w = _ := fun u v => by
    rw [Op.equalIn, Sem.run_bind, run_underlying ht]
  unfold aEqIface at h
  split at h
  · simp only [VRel] at hu; subst hu
    split at h <;> cases h
    · simp only [VRel] at hv; subst hv; exact un _ _
    · simp only [VRel] at hv; obtain ⟨v, rfl, _⟩ := hv; exact un _ _
  · rename_i tx k a
    simp only [VRel] at hu; obtain ⟨u', rfl, rfl⟩ := hu
    split at h
    · cases h; simp only [VRel] at hv; subst hv; exact un _ _
    · rename_i ty j c
      simp only [VRel] at hv; obtain ⟨v', rfl, rfl⟩ := hv
      rw [un]
      show (if tx ≠ ty then _ else _ : Sem Bool).run P w = _
      split at h
      · rename_i htu
        have htu : tx = ty := by simpa using htu
        subst htu
        rw [if_neg (by simp)]
        split at h
        · rename_i i hi
          split at h
          · rename_i hc
            split at h
            · rename_i kk hkk
              split at h
              · rename_i hkj
                subst hkj
                cases h
                simp only [typeInfo, Sem.run_bind, run_program, Result.andThen_ok, hi, Sem.run_pure, hc, Bool.not_true, Bool.false_eq_true, if_false]
                rw [Op.equalIn, Sem.run_bind, run_underlying hkk]
                show (if k = k then _ else _ : Sem Bool).run P w = _
                rw [if_pos rfl, Sem.run_pure, ieq_eq]
                rfl
              · cases h
            · cases h
          · cases h
        · cases h
      · rename_i htu
        have htu : ¬ tx = ty := by simpa using htu
        cases h
        rw [if_pos htu]; rfl
    · cases h
  · rename_i tx a _
    simp only [VRel] at hu; obtain ⟨u', rfl, _⟩ := hu
    split at h <;> cases h
    simp only [VRel] at hv; subst hv; exact un _ _
  · cases h

theorem aEq_ok {d : Nat} {t : TypeId} {x y : AV} {b : Bool} (h : aEq P t x y = some b)
    {u v : Value} (hu : VRel r x u) (hv : VRel r y v) : (Op.equalIn (d + 2) t u v).run P w = .ok b w := by
  unfold aEq at h
  split at h
  case h_6 ms ht => exact aEqIface_ok ht h hu hv
  case h_7 => cases h
  all_goals
    rename_i ht
    (repeat' split at h) <;> cases h <;> simp only [VRel] at hu hv <;>
      (try obtain ⟨_, _, rfl⟩ := hu) <;> (try obtain ⟨_, _, rfl⟩ := hv) <;> (try obtain ⟨_, _, rfl, _, _⟩ := hu) <;> (try obtain ⟨_, _, rfl, _, _⟩ := hv) <;> (try subst hu) <;> (try subst hv) <;>
      (rw [Op.equalIn, Sem.run_bind, run_underlying ht]; exact rfl)

theorem run_guard_other {op : BinOp} {t : TypeId} {xo yo : Operand} {u v : Value} (h1 : u ≠ .nilIface ∨ (isC xo || isC yo) = true) (h2 : ∀ c, u ≠ .agg c) :
    (eqGuard op t xo yo u v).run P w = .ok () w := by
  have core : op = .eql ∨ op = .neq → (eqGuard op t xo yo u v).run P w = .ok () w := by
    rintro (rfl | rfl) <;>
    · simp only [eqGuard, Bool.not_true, Bool.false_eq_true, if_false, pure_bind]
      cases u <;> first
        | (exact absurd rfl (h2 _))
        | rfl
        | skip
      cases v <;> first
        | rfl
        | skip
      rcases h1 with h1 | h1
      · exact absurd rfl h1
      · cases xo <;> cases yo <;> first
          | (simp [isC] at h1; done)
          | rfl
  cases op <;> first
    | exact core (.inl rfl)
    | exact core (.inr rfl)
    | rfl

theorem bin_eql {t : TypeId} {u v : Value} {b : Bool} (hne : ∀ k a j c, u = .int k a → v ≠ .int j c) (h : (Op.equal t u v).run P w = .ok b w)
    (hs : ∀ a c, u = .string a → v ≠ .string c) (hf : ∀ k a j c, u = .float k a → v ≠ .float j c) (hc : ∀ k a b' j c d, u = .complex k a b' → v ≠ .complex j c d) :
    (binOp .eql t u v).run P w = .ok (.bool b) w ∧ (binOp .neq t u v).run P w = .ok (.bool (!b)) w := by
  cases u <;> cases v <;> first
    | (exact absurd rfl (hne _ _ _ _ rfl))
    | (exact absurd rfl (hs _ _ rfl))
    | (exact absurd rfl (hf _ _ _ _ rfl))
    | (exact absurd rfl (hc _ _ _ _ _ _ rfl))
    | (simp only [binOp, Sem.run_bind, h, Result.andThen_ok, Sem.run_pure, and_self])

theorem VRel.shape_int {a : AV} {u : Value} (h : VRel r a u) {k : IntKind} {n : Int} (hu : u = .int k n) : a = .int k n := by
  subst hu
  cases a <;> simp [VRel, Go.undef] at h ⊢ <;> simp_all

theorem aEq_notval {t : TypeId} {x y : AV} {b : Bool} (h : aEq P t x y = some b) :
    (∀ k n, x ≠ .int k n) ∧ (∀ n z, x ≠ .str n z) := by
  constructor
  · rintro k n rfl
    unfold aEq at h
    split at h <;> simp [aEqIface] at h
  · rintro k n rfl
    unfold aEq at h
    split at h <;> simp [aEqIface] at h

theorem aEq_bin {t : TypeId} {x y : AV} {b : Bool} (h : aEq P t x y = some b) {u v : Value} (hu : VRel r x u) (hv : VRel r y v) :
    (binOp .eql t u v).run P w = .ok (.bool b) w ∧ (binOp .neq t u v).run P w = .ok (.bool (!b)) w := by
  obtain ⟨n1, n2⟩ := aEq_notval h
  have he : (Op.equal t u v).run P w = .ok b w := aEq_ok (d := 9998) h hu hv
  refine bin_eql (fun k a j c e => ?_) he (fun a c e => ?_) (fun k a j c e => ?_) (fun k a b' j c d e => ?_)
  · exact absurd (hu.shape_int e) (n1 _ _)
  · subst e
    exfalso
    cases x <;> simp [VRel, Go.undef] at hu
    exact n2 _ _ rfl
  · subst e; cases x <;> simp [VRel, Go.undef] at hu
  · subst e; cases x <;> simp [VRel, Go.undef] at hu

theorem aEqFields_ok {d : Nat} {l m : List AV} {xs ys : List Value} (hx : VsRel r l xs) (hy : VsRel r m ys) : ∀ {fs : List Field} {b : Bool}, aEqFields P l m fs = some b → (Op.eqFields (d + 1) xs.toArray ys.toArray fs).run P w = .ok b w
  | [], b, h => by simp only [aEqFields, Option.some.injEq] at h; subst h; rfl
  | f :: fs, b, h => by
    simp only [aEqFields] at h
    split at h
    · rename_i kk hu
      split at h
      · cases h
      · rename_i hname
        have hname : f.name ≠ "_" := by simpa using hname
        split at h
        · rename_i j a ha
          split at h
          · rename_i k c hc
            split at h
            · rename_i hjk
              subst hjk
              obtain ⟨u, hu1, hu2⟩ := hx.get ha
              obtain ⟨v, hv1, hv2⟩ := hy.get hc
              simp only [VRel] at hu2 hv2; subst hu2; subst hv2
              have hag : (isAgg f.type).run P w = .ok false w := by simp [isAgg, run_underlying hu]
              have p1 : (part f.type xs.toArray f.offset).run P w = .ok (.int j a) w := by simp [part, hag, hu1]
              have p2 : (part f.type ys.toArray f.offset).run P w = .ok (.int j c) w := by simp [part, hag, hv1]
              have e1 : (Op.equalIn (d + 1) f.type (.int j a) (.int j c)).run P w = .ok (a == c) w := by
                rw [Op.equalIn, Sem.run_bind, run_underlying hu]
                show (if j = j then _ else _ : Sem Bool).run P w = _
                rw [if_pos rfl]; rfl
              simp only [Op.eqFields, Sem.run_ite, if_pos hname, Sem.run_bind, p1, p2, e1, Result.andThen_ok]
              split at h
              · rename_i hi
                rw [ieq_eq] at hi
                have : a = c := by simpa using hi
                subst this
                simp only [beq_self_eq_true, Bool.not_true, Bool.false_eq_true, if_false]
                exact aEqFields_ok hx hy h
              · rename_i hi
                rw [ieq_eq] at hi
                have : (a == c) = false := by simpa using hi
                cases h
                simp only [this, Bool.not_false, if_true, Sem.run_pure]
            · cases h
          · cases h
        · cases h
    · cases h

theorem aEqAgg_ok {d : Nat} {t : TypeId} {l m : List AV} {xs ys : List Value} (hx : VsRel r l xs) (hy : VsRel r m ys) {b : Bool} (h : aEqAgg P t l m = some b) :
    (Op.equalIn (d + 2) t (.agg xs.toArray) (.agg ys.toArray)).run P w = .ok b w ∧ ∀ op x y, (eqGuard op t x y (.agg xs.toArray) (.agg ys.toArray)).run P w = .ok () w := by
  unfold aEqAgg at h
  split at h
  · rename_i fs hu
    split at h
    · cases h
    · rename_i hc
      simp only [Bool.or_eq_false_iff] at hc
      have hf : P.fieldsOf t = fs := by simp [Program.fieldsOf, hu]
      refine ⟨?_, fun op x y => run_eqGuard_agg w op t x y xs.toArray ys.toArray hc.1⟩
      rw [run_equalIn_struct w (d + 1) t xs.toArray ys.toArray (by rw [hf]; exact hu) hc.2, hf]
      exact aEqFields_ok hx hy h
  · cases h

theorem aBin_ok {op : BinOp} {t : TypeId} {xo yo : Operand} {x y a : AV} (h : aBin P op t xo yo x y = some a) {u v : Value} (hu : VRel r x u) (hv : VRel r y v) :
    ∃ z, (do eqGuard op t xo yo u v; binOp op t u v : Sem Value).run P w = .ok z w ∧ VRel r a z := by
  have fin : ∀ (g : (eqGuard op t xo yo u v).run P w = .ok () w), (∃ z, (binOp op t u v).run P w = .ok z w ∧ VRel r a z) →
      ∃ z, (do eqGuard op t xo yo u v; binOp op t u v : Sem Value).run P w = .ok z w ∧ VRel r a z := fun g ⟨z, hz, hr⟩ =>
    ⟨z, by rw [Sem.run_bind, g, Result.andThen_ok, hz], hr⟩
  unfold aBin at h
  split at h
  · rename_i k n
    simp only [VRel] at hu; subst hu
    refine fin (run_guard_other (.inl (by simp)) (by simp)) ?_
    split at h
    · rename_i k' n'
      simp only [VRel] at hv; subst hv
      split at h
      · exact aShift_ok h t
      · exact aShift_ok h t
      · split at h
        · rename_i hk; subst hk; exact aInt_ok h t
        · cases h
    · cases h
  · rename_i n z
    simp only [VRel] at hu; obtain ⟨hz, rfl⟩ := hu
    refine fin (run_guard_other (.inl (by simp)) (by simp)) ?_
    split at h
    · rename_i m q
      simp only [VRel] at hv; obtain ⟨hq, rfl⟩ := hv
      have key : ((strOf n z).toList == (strOf m q).toList) = (Nat.beq n m && Nat.beq z q) := by
        rw [ByteArray.toList_eq, ByteArray.toList_eq, Bool.eq_iff_iff]
        simp only [beq_iff_eq, Bool.and_eq_true]
        refine ⟨fun e => ?_, fun ⟨e1, e2⟩ => by rw [Nat.eq_of_beq_eq_true e1, Nat.eq_of_beq_eq_true e2]⟩
        have := strOf_inj hz hq (ByteArray.ext' (Array.toList_inj.1 e))
        rw [this.1, this.2]
        exact ⟨Nat.beq_refl _, Nat.beq_refl _⟩
      split at h <;> cases h
      · exact ⟨_, by rw [binOp_string_eql, key]; rfl, by simp only [VRel]⟩
      · exact ⟨_, by rw [binOp_string_neq, key]; rfl, by simp only [VRel]⟩
    · cases h
  · rename_i l
    simp only [VRel] at hu; obtain ⟨xs, rfl, hx, _⟩ := hu
    split at h
    · rename_i m
      simp only [VRel] at hv; obtain ⟨ys, rfl, hy, _⟩ := hv
      split at h
      · split at h
        · rename_i b hb
          cases h
          obtain ⟨k1, k2⟩ := aEqAgg_ok (w := w) (d := 9998) hx hy hb
          exact fin (k2 _ _ _) ⟨.bool b, by rw [run_eql_struct w, k1]; rfl, by simp only [VRel]⟩
        · cases h
      · split at h
        · rename_i b hb
          cases h
          obtain ⟨k1, k2⟩ := aEqAgg_ok (w := w) (d := 9998) hx hy hb
          exact fin (k2 _ _ _) ⟨.bool (!b), by rw [run_neq_struct w, k1]; rfl, by simp only [VRel]⟩
        · cases h
      · cases h
    · cases h
  · have e : u = .nilIface := by simpa only [VRel] using hu
    split at h
    · split at h
      · rename_i hc
        refine fin (run_guard_other (.inr hc) (by rw [e]; simp)) ?_
        split at h
        · rename_i b hb; cases h; exact ⟨_, (aEq_bin hb hu hv).1, by simp only [VRel]⟩
        · cases h
      · cases h
    · split at h
      · rename_i hc
        refine fin (run_guard_other (.inr hc) (by rw [e]; simp)) ?_
        split at h
        · rename_i b hb; cases h; exact ⟨_, (aEq_bin hb hu hv).2, by simp only [VRel]⟩
        · cases h
      · cases h
    · cases h
  · rename_i hx1 hx2 hx3 hx4
    have g : (eqGuard op t xo yo u v).run P w = .ok () w := by
      refine run_guard_other (.inl ?_) ?_
      · rintro rfl
        cases x <;> simp [VRel, Go.undef] at hu
        exact hx4 rfl
      · rintro c rfl
        have : ∀ n z, x ≠ .u8s n z := by
          rintro n z rfl
          split at h <;> first | (cases h; done) | skip
          all_goals
            split at h
            · rename_i b hb
              unfold aEq at hb
              split at hb <;> simp [aEqIface] at hb
            · cases h
        cases x <;> simp [VRel, Go.undef] at hu
        · exact hx3 _ rfl
        · exact this _ _ rfl
    refine fin g ?_
    split at h
    · split at h
      · rename_i b hb; cases h; exact ⟨_, (aEq_bin hb hu hv).1, by simp only [VRel]⟩
      · cases h
    · split at h
      · rename_i b hb; cases h; exact ⟨_, (aEq_bin hb hu hv).2, by simp only [VRel]⟩
      · cases h
    · cases h
end
end
end Go.X

/- More operations on values alone. -/
namespace Go.X
noncomputable section
set_option linter.unusedVariables false
set_option linter.unusedSimpArgs false

def aUn (op : UnOp) (x : AV) : Option AV :=
  match op with
  | .not => match x with | .bool b => some (.bool (!b)) | _ => none
  | .neg => match x with | .int k n => some (.int k (fwrap k (0 - n))) | _ => none
  | .xor => match x with | .int k n => aInt .xor k (if k.signed then -1 else k.max) n | _ => none
  | _ => none

def aConvInt (P : Program) (src dst : TypeId) (x : AV) : Option AV :=
  match x with
  | .int _ n => match P.underlying src with
    | some _ => match P.underlying dst with
      | some (.int k) => some (.int k (fwrap k n))
      | _ => none
    | none => none
  | .str n y => match P.underlying src with
    | some _ => match P.underlying dst with
      | some .string => some (.str n y)
      | _ => none
    | none => none
  | _ => none

def aMkIface (P : Program) (t : TypeId) (x : AV) : Option AV :=
  match P.underlying t with
  | some (.interface _) => none
  | some _ => some (.iface t x)
  | none => none

def aExtract (x : AV) (i : Nat) : Option AV :=
  match x with
  | .tup l => l[i]?
  | _ => none

/-- An array or a struct, a single value: and how many cells. -/
def aggSize (P : Program) (t : TypeId) : Option (Bool × Nat) :=
  match P.info? t with
  | some i => match P.underlying t with
    | some (.struct _) => some (true, i.size)
    | some (.array _ _) => some (true, i.size)
    | some _ => some (false, i.size)
    | none => none
  | none => none

def aPart (P : Program) (t : TypeId) (l : List AV) (off : Nat) : Option AV :=
  match aggSize P t with
  | some (true, n) => if Nat.ble (off + n) l.length = true then some (.agg ((l.drop off).take n)) else none
  | some (false, _) => l[off]?
  | none => none

def aField (P : Program) (t : TypeId) (x : AV) (f : Nat) : Option AV :=
  match P.underlying t with
  | some (.struct fields) => match fields[f]? with
    | some fd => match x with
      | .agg l => aPart P fd.type l fd.offset
      | _ => none
    | none => none
  | _ => none

def aIndex (P : Program) (t : TypeId) (x i : AV) : Option AV :=
  match i with
  | .int _ (.ofNat j) => match x with
    | .str n y => match P.underlying t with
      | some .string => if Nat.blt j n = true then some (.int .u8 (.ofNat (byteAt y j))) else none
      | _ => none
    | .agg l => match P.underlying t with
      | some (.array len e) => if Nat.blt j len = true then (match P.info? e with | some ie => aPart P e l (j * ie.size) | none => none) else none
      | _ => none
    | .u8s n y => match P.underlying t with
      | some (.array len e) => if Nat.blt j len = true then (match P.info? e with
        | some ie => if ie.size = 1 then (match P.underlying e with | some (.int .u8) => if Nat.blt j n = true then some (.int .u8 (.ofNat (byteAt y j))) else none | _ => none) else none
        | none => none) else none
      | _ => none
    | _ => none
  | _ => none

/-- A bound of a slice expression. -/
def aBound (x : Option AV) (dflt lim : Nat) : Option Nat :=
  match x with
  | none => some dflt
  | some (.int _ (.ofNat j)) => if Nat.ble j lim = true then some j else none
  | some _ => none

def aSliceStr (P : Program) (t : TypeId) (x : AV) (lo hi : Option AV) : Option AV :=
  match x with
  | .str n y => match P.underlying t with
    | some .string => match aBound hi n n with
      | some h => match aBound lo 0 h with
        | some l => some (.str (h - l) (y / 256 ^ l % 256 ^ (h - l)))
        | none => none
      | none => none
    | _ => none
  | _ => none

def aMinMax (isMax : Bool) (x y : AV) : Option AV :=
  match x with
  | .int k a => match y with
    | .int _ b => some (.int k (match isMax with | true => (match ilt a b with | true => b | false => a) | false => (match ilt b a with | true => b | false => a)))
    | _ => none
  | _ => none

/-- The length of a string or a slice (not of a map). -/
def aLen (P : Program) (t : TypeId) (x : AV) : Option AV :=
  match P.underlying t with
  | some .string => match x with | .str n _ => some (.int .i64 (.ofNat n)) | _ => none
  | some (.slice _) => match x with | .slice _ _ n _ => some (.int .i64 (.ofNat n)) | .nilSlice => some (.int .i64 (.ofNat 0)) | .emptySl => some (.int .i64 (.ofNat 0)) | _ => none
  | some (.array n _) => some (.int .i64 (.ofNat n))
  | some (.map _ _) => match x with | .nilMap => some (.int .i64 (.ofNat 0)) | _ => none
  | _ => none

section
variable {P : Program} {w : World} {r : Ren}

theorem aUn_ok {op : UnOp} {x a : AV} (h : aUn op x = some a) {u : Value} (hu : VRel r x u) : ∃ z, (Op.unary op u).run P w = .ok z w ∧ VRel r a z := by
  unfold aUn at h
  split at h
  · split at h <;> cases h
    simp only [VRel] at hu; subst hu; exact ⟨_, rfl, by simp only [VRel]⟩
  · split at h <;> cases h
    simp only [VRel] at hu; subst hu; exact ⟨_, rfl, by simp only [VRel, fwrap_eq]⟩
  · split at h
    · simp only [VRel] at hu; subst hu
      have := aInt_ok (P := P) (w := w) (r := r) h 0
      simpa [binOp, Op.unary] using this
    · cases h
  · cases h

theorem aConvInt_ok {src dst : TypeId} {x a : AV} (h : aConvInt P src dst x = some a) {u : Value} (hu : VRel r x u) : ∃ z, (convert src dst u).run P w = .ok z w ∧ VRel r a z := by
  unfold aConvInt at h
  split at h
  · rename_i kk m
    simp only [VRel] at hu; subst hu
    split at h
    · rename_i D hD
      split at h
      · rename_i k hk
        cases h
        refine ⟨.int k (k.wrap m), ?_, by simp only [VRel, fwrap_eq]⟩
        simp only [convert, Sem.run_bind, run_underlying hD, run_underlying hk, Result.andThen_ok]
        cases D <;> rfl
      · cases h
    · cases h
  · simp only [VRel] at hu; obtain ⟨hy, rfl⟩ := hu
    split at h
    · rename_i D hD
      split at h
      · rename_i hk
        cases h
        refine ⟨.string (strOf _ _), ?_, by simp only [VRel]; exact ⟨hy, rfl⟩⟩
        simp only [convert, Sem.run_bind, run_underlying hD, run_underlying hk, Result.andThen_ok]
        cases D <;> rfl
      · cases h
    · cases h
  · cases h

theorem aMkIface_ok {t : TypeId} {x a : AV} (h : aMkIface P t x = some a) {u : Value} (hu : VRel r x u) : ∃ z, (Instr.makeInterface t u).run P w = .ok z w ∧ VRel r a z := by
  unfold aMkIface at h
  split at h
  · cases h
  · rename_i D hne hD
    cases h
    refine ⟨.iface t u, ?_, by simp only [VRel]; exact ⟨u, rfl, hu⟩⟩
    simp only [Instr.makeInterface, Sem.run_bind, run_underlying hD, Result.andThen_ok]
    cases D <;> first | rfl | (exact absurd hD (hne _))
  · cases h

theorem aExtract_ok {x a : AV} {i : Nat} (h : aExtract x i = some a) {u : Value} (hu : VRel r x u) : ∃ z, (Instr.extract u i).run P w = .ok z w ∧ VRel r a z := by
  unfold aExtract at h
  split at h
  · simp only [VRel] at hu; obtain ⟨c, rfl, hc⟩ := hu
    obtain ⟨v, hv, hr⟩ := hc.get h
    exact ⟨v, by simp [Instr.extract, hv], hr⟩
  · cases h

theorem aggSize_run {t : TypeId} {b : Bool} {n : Nat} (h : aggSize P t = some (b, n)) :
    (∀ w, (isAgg t).run P w = .ok b w) ∧ ∀ w, (sizeOf t).run P w = .ok n w := by
  unfold aggSize at h
  split at h
  · rename_i i hi
    have hs : ∀ w, (sizeOf t).run P w = .ok i.size w := fun w => by simp [sizeOf, typeInfo, hi]
    split at h
    · rename_i hD; cases h; exact ⟨fun w => by simp [isAgg, run_underlying hD], hs⟩
    · rename_i hD; cases h; exact ⟨fun w => by simp [isAgg, run_underlying hD], hs⟩
    · rename_i D h1 h2 hD
      cases h
      refine ⟨fun w => ?_, hs⟩
      simp only [isAgg, Sem.run_bind, run_underlying hD, Result.andThen_ok]
      cases D <;> first | rfl | (exact absurd hD (h1 _)) | (exact absurd hD (h2 _ _))
    · cases h
  · cases h

theorem aPart_ok {t : TypeId} {l : List AV} {off : Nat} {a : AV} (h : aPart P t l off = some a) {c : List Value} (hc : VsRel r l c) (h1c : ∀ x ∈ c, x.oneCell' = true) :
    ∃ z, (part t c.toArray off).run P w = .ok z w ∧ VRel r a z := by
  unfold aPart at h
  split at h
  · rename_i n hn
    obtain ⟨h1, h2⟩ := aggSize_run hn
    split at h
    · rename_i hle
      cases h
      refine ⟨.agg ((c.drop off).take n).toArray, ?_, by simp only [VRel]; exact ⟨_, rfl, (hc.drop off).take n, fun x hx => h1c x (List.mem_of_mem_drop (List.mem_of_mem_take hx))⟩⟩
      simp [part, h1, h2]
    · cases h
  · rename_i n hn
    obtain ⟨h1, h2⟩ := aggSize_run hn
    obtain ⟨v, hv, hr⟩ := hc.get h
    exact ⟨v, by simp [part, h1, hv], hr⟩
  · cases h

theorem aField_ok {t : TypeId} {x a : AV} {f : Nat} (h : aField P t x f = some a) {u : Value} (hu : VRel r x u) : ∃ z, (Instr.field t u f).run P w = .ok z w ∧ VRel r a z := by
  unfold aField at h
  split at h
  · rename_i fields hD
    split at h
    · rename_i fd hf
      split at h
      · simp only [VRel] at hu; obtain ⟨c, rfl, hc, h1c⟩ := hu
        obtain ⟨z, hz, hr⟩ := aPart_ok (w := w) h hc h1c
        refine ⟨z, ?_, hr⟩
        simp only [Instr.field, Sem.run_bind, run_underlying hD, Result.andThen_ok, hf, asAgg, Sem.run_pure, hz]
      · cases h
    · cases h
  · cases h

theorem u8Cells_get (n x i : Nat) : (u8Cells n x)[i]? = if i < n then some (.int .u8 (byteAt x i : Nat)) else none := by
  simp only [u8Cells, List.getElem?_map, bytesOf_get_eq]
  split <;> rfl
theorem u8Cells_length (n x : Nat) : (u8Cells n x).length = n := by simp [u8Cells, bytesOf_length]

theorem strOf_get (n x i : Nat) (h : i < n) : (strOf n x)[i]? = some (UInt8.ofNat (byteAt x i)) := by
  have hs : i < (strOf n x).size := by rw [strOf_size]; exact h
  rw [getElem?_pos (strOf n x) i hs]
  have e : (strOf n x)[i] = (strOf n x).data[i]'hs := rfl
  have e2 : (strOf n x).data[i]? = some (UInt8.ofNat (byteAt x i)) := by
    rw [← Array.getElem?_toList, strOf_data, List.getElem?_map, bytesOf_get h]; rfl
  rw [Array.getElem?_eq_getElem (by exact hs)] at e2
  rw [e]; exact e2

theorem aIndex_ok {t : TypeId} {x i a : AV} (h : aIndex P t x i = some a) {u v : Value} (hu : VRel r x u) (hv : VRel r i v) :
    ∃ z, (Instr.index t u v).run P w = .ok z w ∧ VRel r a z := by
  unfold aIndex at h
  split at h
  · rename_i k j
    simp only [VRel] at hv; subst hv
    split at h
    · rename_i n y
      simp only [VRel] at hu; obtain ⟨hy, rfl⟩ := hu
      split at h
      · rename_i hD
        split at h
        · rename_i hj
          have hj : j < n := by simp [Nat.blt] at hj; omega
          cases h
          refine ⟨.int .u8 (byteAt y j : Nat), ?_, by simp only [VRel]; rfl⟩
          simp [Instr.index, asIntOf, run_underlying hD, strOf_get n y j hj, Nat.mod_eq_of_lt (byteAt_lt y j)]
        · cases h
      · cases h
    · rename_i l
      simp only [VRel] at hu; obtain ⟨c, rfl, hc, h1c⟩ := hu
      split at h
      · rename_i len e hD
        split at h
        · rename_i hj
          have hj : j < len := by simp [Nat.blt] at hj; omega
          split at h
          · rename_i ie hie
            obtain ⟨z, hz, hr⟩ := aPart_ok (w := w) h hc h1c
            refine ⟨z, ?_, hr⟩
            have hs : (sizeOf e).run P w = .ok ie.size w := by simp [sizeOf, typeInfo, hie]
            simp only [Instr.index, asIntOf, Sem.run_bind, Sem.run_pure, Result.andThen_ok, run_underlying hD]
            rw [Sem.run_ite, if_pos (by simp; exact hj)]
            simp only [Sem.run_bind, hs, Result.andThen_ok]
            simpa using hz
          · cases h
        · cases h
      · cases h
    · rename_i n y
      simp only [VRel] at hu; subst hu
      split at h
      · rename_i len e hD
        split at h
        · rename_i hj
          have hj : j < len := by simp [Nat.blt] at hj; omega
          split at h
          · rename_i ie hie
            split at h
            · rename_i h1
              split at h
              · rename_i he
                split at h
                · rename_i hn
                  have hn : j < n := by simp [Nat.blt] at hn; omega
                  cases h
                  refine ⟨.int .u8 (byteAt y j : Nat), ?_, by simp only [VRel]; rfl⟩
                  have hs : (sizeOf e).run P w = .ok 1 w := by simp [sizeOf, typeInfo, hie, h1]
                  have ha : (isAgg e).run P w = .ok false w := by simp [isAgg, run_underlying he]
                  simp only [Instr.index, asIntOf, Sem.run_bind, Sem.run_pure, Result.andThen_ok, run_underlying hD]
                  rw [Sem.run_ite, if_pos (by simp; exact hj)]
                  simp [hs, part, ha, u8Cells_get, hn]
                · cases h
              · cases h
            · cases h
          · cases h
        · cases h
      · cases h
    · cases h
  · cases h

/-- A bound is what the model reckons. -/
theorem aBound_ok {x : Option AV} {d lm n : Nat} (h : aBound x d lm = some n) {u : Option Value} (hn : x = none → u = none) (hu : ∀ a, x = some a → ∃ v, u = some v ∧ VRel r a v) (code : BoundsCode) :
    (x = none ∧ u = none ∧ n = d) ∨ ∃ v, u = some v ∧ ∀ w, (Instr.sliceBound v lm code).run P w = .ok n w := by
  unfold aBound at h
  split at h
  · cases h; exact .inl ⟨rfl, hn rfl, rfl⟩
  · rename_i k j
    split at h
    · rename_i hj
      have hj : j ≤ lm := Nat.le_of_ble_eq_true hj
      cases h
      obtain ⟨v, hv, hr⟩ := hu _ rfl
      simp only [VRel] at hr; subst hr
      refine .inr ⟨_, hv, fun w => ?_⟩
      simp [Instr.sliceBound, asIntOf]
      intro h'; omega
    · cases h
  · cases h

theorem bounds_ok {x y : Option AV} {lenn cap l h : Nat} (hh : aBound y lenn cap = some h) (hl : aBound x 0 h = some l) {u v : Option Value}
    (hx : x = none → u = none) (hx' : ∀ a, x = some a → ∃ z, u = some z ∧ VRel r a z) (hy : y = none → v = none) (hy' : ∀ a, y = some a → ∃ z, v = some z ∧ VRel r a z) (b : Bool) :
    ∀ w, (Instr.sliceBounds b lenn cap u v none).run P w = .ok (l, h, cap) w := by
  intro w
  have g1 := fun code => aBound_ok (P := P) hh hy hy' code
  have g2 := fun code => aBound_ok (P := P) hl hx hx' code
  unfold Instr.sliceBounds
  rcases g1 (if b then .sliceAcap else .sliceAlen) with ⟨_, rfl, rfl⟩ | ⟨v', rfl, e1⟩ <;> rcases g2 .sliceB with ⟨_, rfl, rfl⟩ | ⟨u', rfl, e2⟩
  · simp
  · simp [e2]
  · simp [e1]
  · simp [e1, e2]

theorem strOf_extract {n x l h : Nat} (hh : h ≤ n) (hl : l ≤ h) : (strOf n x).extract l h = strOf (h - l) (x / 256 ^ l % 256 ^ (h - l)) := by
  refine ByteArray.ext' (Array.toList_inj.1 ?_)
  rw [strOf_data, bytesOf_mod, ← bytesOf_cut (n := n) (by omega : l + (h - l) ≤ n)]
  rw [ByteArray.data_extract, Array.toList_extract, strOf_data]
  simp [List.extract_eq_take_drop, List.map_drop, List.map_take]

theorem aSliceStr_ok {t : TypeId} {x a : AV} {lo hi : Option AV} (h : aSliceStr P t x lo hi = some a) {u : Value} (hu : VRel r x u) {ul uh : Option Value}
    (hx : lo = none → ul = none) (hx' : ∀ a, lo = some a → ∃ z, ul = some z ∧ VRel r a z) (hy : hi = none → uh = none) (hy' : ∀ a, hi = some a → ∃ z, uh = some z ∧ VRel r a z) :
    ∃ z, (Instr.slice t u ul uh none).run P w = .ok z w ∧ VRel r a z := by
  unfold aSliceStr at h
  split at h
  · rename_i n y
    simp only [VRel] at hu; obtain ⟨_, rfl⟩ := hu
    split at h
    · rename_i hD
      split at h
      · rename_i hh e1
        split at h
        · rename_i l e2
          cases h
          have hb := bounds_ok (P := P) e1 e2 hx hx' hy hy' false
          have b1 : hh ≤ n := by
            unfold aBound at e1
            split at e1 <;> try (cases e1; done)
            · cases e1; exact Nat.le_refl _
            · split at e1 <;> cases e1
              rename_i hj; exact Nat.le_of_ble_eq_true hj
          have b2 : l ≤ hh := by
            unfold aBound at e2
            split at e2 <;> try (cases e2; done)
            · cases e2; exact Nat.zero_le _
            · split at e2 <;> cases e2
              rename_i hj; exact Nat.le_of_ble_eq_true hj
          refine ⟨.string ((strOf n y).extract l hh), ?_, by simp only [VRel]; exact ⟨Nat.mod_lt _ (pow_pos' _), by rw [strOf_extract b1 b2]⟩⟩
          simp [Instr.slice, run_underlying hD, strOf_size, hb]
        · cases h
      · cases h
    · cases h
  · cases h

theorem aMinMax_ok {b : Bool} {x y a : AV} (h : aMinMax b x y = some a) {u v : Value} (hu : VRel r x u) (hv : VRel r y v) (ts : Array TypeId) (t : TypeId) :
    ∃ z, (if b = true then Builtin.max_ ts t #[u, v] else Builtin.min_ ts t #[u, v]).run P w = .ok z w ∧ VRel r a z := by
  cases x <;> simp only [aMinMax] at h <;> try (cases h; done)
  rename_i k p
  cases y <;> simp only at h <;> try (cases h; done)
  rename_i j q
  cases h
  simp only [VRel] at hu hv; subst hu; subst hv
  cases b
  · refine ⟨.int k (if q < p then q else p), ?_, ?_⟩
    · simp [Builtin.min_, Builtin.min2]
    · simp only [VRel, ilt_eq]; by_cases hqp : q < p <;> simp [hqp]
  · refine ⟨.int k (if p < q then q else p), ?_, ?_⟩
    · simp [Builtin.max_, Builtin.max2]
    · simp only [VRel, ilt_eq]; by_cases hqp : p < q <;> simp [hqp]

theorem aLen_ok {t : TypeId} {x a : AV} (h : aLen P t x = some a) {u : Value} (hu : VRel r x u) (ts : Array TypeId) (ht : ts[0]? = some t) (ty : TypeId) (us : Array Value) (hus : us[0]? = some u) :
    ∃ z, (Builtin.len_ ts ty us).run P w = .ok z w ∧ VRel r a z := by
  have fin : ∀ n : Nat, a = .int .i64 (.ofNat n) → (Builtin.len_ ts ty us).run P w = .ok (goInt n) w → ∃ z, (Builtin.len_ ts ty us).run P w = .ok z w ∧ VRel r a z :=
    fun n ha hr => ⟨_, hr, by rw [ha]; simp only [VRel]; rfl⟩
  unfold aLen at h
  split at h
  · rename_i hD
    split at h <;> cases h
    simp only [VRel] at hu; obtain ⟨_, rfl⟩ := hu
    exact fin _ rfl (by simp [Builtin.len_, ht, hus, run_underlying hD, strOf_size])
  · rename_i hD
    split at h <;> cases h
    · simp only [VRel] at hu; obtain ⟨_, _, rfl⟩ := hu
      exact fin _ rfl (by simp [Builtin.len_, ht, hus, run_underlying hD])
    · simp only [VRel] at hu; subst hu
      exact fin 0 rfl (by simp [Builtin.len_, ht, hus, run_underlying hD])
    · simp only [VRel] at hu; obtain ⟨_, _, rfl⟩ := hu
      exact fin 0 rfl (by simp [Builtin.len_, ht, hus, run_underlying hD])
  · rename_i hD
    cases h
    exact fin _ rfl (by simp [Builtin.len_, ht, hus, run_underlying hD])
  · rename_i hD
    split at h <;> cases h
    simp only [VRel] at hu; subst hu
    exact fin 0 rfl (by simp [Builtin.len_, ht, hus, run_underlying hD])
  · cases h
end
end
end Go.X

/- Reading and writing rows. -/
namespace Go.X
noncomputable section
set_option linter.unusedVariables false
set_option linter.unusedSimpArgs false

/-- One block was written. -/
structure Wrote (w w' : World) (g : Nat) (x : Obj) : Prop where
  others : ∀ k, k ≠ g → w'.heap[k]? = w.heap[k]?
  size : w'.heap.size = w.heap.size
  os : w'.os = w.os
  tape : w'.tape = w.tape
  output : w'.output = w.output
  here : w'.heap[g]? = some x

theorem Wrote.trans {w w' w'' : World} {g : Nat} {x y : Obj} (h : Wrote w w' g x) (k : Wrote w' w'' g y) : Wrote w w'' g y :=
  ⟨fun i hi => (k.others i hi).trans (h.others i hi), k.size.trans h.size, k.os.trans h.os, k.tape.trans h.tape, k.output.trans h.output, k.here⟩

theorem WRel.wrote {w0 w w' : World} {r : Ren} {s : St} (h : WRel w0 r s w) {b : Nat} {o o' : AObj} {p : Place} (ho : s.at b = some o) (hr : r b = some p) {x : Obj}
    (hw : Wrote w w' p.blk x) (hx : ObjRel r o' p (some x)) : WRel w0 r (s.set b o') w' :=
  h.replace ho hr (x := x) hw.others hw.size hw.os hw.tape hw.output (by rw [hw.here]; exact hx)

section
variable {P : Program} {w : World} {r : Ren}

theorem cell_row {g i : Nat} {c : List Value} {t : TypeId} {fz : Nat × Nat} (h : w.heap[g]? = some (.cells c.toArray t fz)) : w.cell? ⟨g, i, none⟩ = c[i]? := by
  simp [World.cell?, h]

theorem frozen_row {g i : Nat} {c : List Value} {t : TypeId} {fz : Nat × Nat} (h : w.heap[g]? = some (.cells c.toArray t fz)) (hf : Free c.length fz) (hi : i < c.length) : w.frozen? ⟨g, i, none⟩ = false := by
  obtain ⟨lo, hi'⟩ := fz
  have := hf i hi
  simp [World.frozen?, h]
  simp at this
  exact this

theorem setCell_wrote {g o : Nat} {c : List Value} {t : TypeId} {fz : Nat × Nat} (h : w.heap[g]? = some (.cells c.toArray t fz)) (v : Value) :
    Wrote w (w.setCell ⟨g, o, none⟩ v) g (.cells (c.set o v).toArray t fz) := by
  have hg : g < w.heap.size := (Array.getElem?_eq_some_iff.1 h).1
  refine ⟨fun k hk => ?_, by simp [World.setCell], rfl, rfl, rfl, ?_⟩
  · simp only [World.setCell, Array.getElem?_modify]; rw [if_neg (Ne.symm hk)]
  · simp only [World.setCell, Array.getElem?_modify, if_true, h, Option.map_some]
    simp

theorem add_none (g o n : Nat) : (⟨g, o, none⟩ : Addr).add n = ⟨g, o + n, none⟩ := by
  unfold Addr.add; split
  · rename_i h; subst h; rfl
  · rfl

theorem run_storeCells {g o : Nat} {t : TypeId} {fz : Nat × Nat} : ∀ (vs : List Value) (i : Nat) (c : List Value) (w : World), w.heap[g]? = some (.cells c.toArray t fz) → Free c.length fz →
    o + i + vs.length ≤ c.length → (∀ v ∈ vs, one v = true) → 0 < vs.length →
    ∃ w', (storeCells ⟨g, o, none⟩ vs i).run P w = .ok () w' ∧ Wrote w w' g (.cells (c.take (o + i) ++ vs ++ c.drop (o + i + vs.length)).toArray t fz) := by
  intro vs
  induction vs with
  | nil => intro i c w _ _ _ _ h; simp at h
  | cons v rest ih =>
    intro i c w hg hf hl h1 _
    simp only [List.length_cons] at hl
    have hstore : (store (⟨g, o + i, none⟩ : Addr) v).run P w = .ok () (w.setCell ⟨g, o + i, none⟩ v) := by
      rw [run_store P w _ v .plain (h1 v (List.mem_cons_self ..)), cell_row hg, List.getElem?_eq_getElem (by omega), frozen_row hg hf (by omega)]
      rfl
    have hw := setCell_wrote (o := o + i) hg v
    cases hr : rest with
    | nil =>
      refine ⟨w.setCell ⟨g, o + i, none⟩ v, ?_, ?_⟩
      · simp only [storeCells, Sem.run_bind, add_none, hstore, Result.andThen_ok, Sem.run_pure]
      · have : c.take (o + i) ++ [v] ++ c.drop (o + i + [v].length) = c.set (o + i) v := by
          rw [List.set_eq_take_append_cons_drop, if_pos (by omega)]
          simp
        rw [this]; exact hw
    | cons v2 rest2 =>
      rw [← hr]
      obtain ⟨w', h2, h3⟩ := ih (i + 1) (c.set (o + i) v) (w.setCell ⟨g, o + i, none⟩ v) hw.here (by rw [List.length_set]; exact hf) (by rw [List.length_set]; omega)
        (fun u hu => h1 u (List.mem_cons_of_mem _ hu)) (by rw [hr]; simp)
      refine ⟨w', ?_, ?_⟩
      · simp only [storeCells, Sem.run_bind, add_none, hstore, Result.andThen_ok]; exact h2
      · have := hw.trans h3
        have e : (c.set (o + i) v).take (o + (i + 1)) ++ rest ++ (c.set (o + i) v).drop (o + (i + 1) + rest.length) = c.take (o + i) ++ (v :: rest) ++ c.drop (o + i + (v :: rest).length) := by
          refine List.ext_getElem? fun k => ?_
          simp only [List.getElem?_append, List.length_append, List.length_take, List.length_set, List.getElem?_take, List.getElem?_drop, List.getElem?_set, List.length_cons, List.getElem?_cons]
          grind
        rw [e] at this; exact this

theorem run_loadCells {g o n : Nat} {c : List Value} {t : TypeId} {fz : Nat × Nat} (h : w.heap[g]? = some (.cells c.toArray t fz)) (hl : o + n ≤ c.length) :
    (loadCells ⟨g, o, none⟩ n).run P w = .ok ((c.drop o).take n).toArray w := by
  have key : ∀ (n i : Nat) (acc : Array Value), o + i + n ≤ c.length → (loadCellsFrom ⟨g, o, none⟩ i n acc).run P w = .ok (acc ++ ((c.drop (o + i)).take n).toArray) w := by
    intro n
    induction n with
    | zero => intro i acc _; simp [loadCellsFrom]
    | succ n ih =>
      intro i acc hl
      simp only [loadCellsFrom, Sem.run_bind, add_none, run_load, cell_row h]
      rw [List.getElem?_eq_getElem (by omega : o + i < c.length)]
      simp only [Result.andThen_ok]
      rw [ih (i + 1) _ (by omega)]
      congr 1
      apply Array.ext'
      have hd : c.drop (o + i) = c[o + i] :: c.drop (o + i + 1) := by rw [List.drop_eq_getElem_cons (by omega)]
      simp only [Array.toList_append, Array.toList_push, List.append_assoc]
      rw [hd, List.take_succ_cons]
      rfl
  have := key n 0 #[] (by simpa using hl)
  simpa [loadCells] using this
end

/-! Loads. -/
def aLoadObj (P : Program) (t : TypeId) (o : Nat) (obj : AObj) : Option AV :=
  match obj with
  | .cells _ l _ => match aggSize P t with
    | some (true, n) => if Nat.ble (o + n) l.length = true then some (.agg ((l.drop o).take n)) else none
    | some (false, _) => l[o]?
    | none => none
  | .bytes _ n y _ => match aggSize P t with
    | some (true, m) => if Nat.ble (o + m) n = true then some (.u8s m (y / 256 ^ o % 256 ^ m)) else none
    | some (false, _) => if Nat.blt o n = true then some (.int .u8 (.ofNat (byteAt y o))) else none
    | none => none
  | .map _ _ _ => none
  | .iter _ _ _ _ => none
  | .amap _ => none

def aLoad (P : Program) (t : TypeId) (s : St) (x : AV) : Option AV :=
  match x with
  | .ptr b o => match s.at b with
    | some obj => aLoadObj P t o obj
    | none => none
  | _ => none

section
variable {P : Program} {w w0 : World} {r : Ren} {s : St}

theorem u8_one (n y : Nat) : ∀ v ∈ u8Cells n y, one v = true := fun v hv => by
  simp only [u8Cells, List.mem_map] at hv
  obtain ⟨b, _, rfl⟩ := hv; rfl

theorem u8Cells_cut {n x l k : Nat} (h : l + k ≤ n) : ((u8Cells n x).drop l).take k = u8Cells k (x / 256 ^ l % 256 ^ k) := by
  simp only [u8Cells, ← List.map_drop, ← List.map_take]; rw [bytesOf_cut h, bytesOf_mod]

theorem u8Cells_splice {n x o m y : Nat} (h : o + m ≤ n) : u8Cells n (splice x o m y) = (u8Cells n x).take o ++ u8Cells m y ++ (u8Cells n x).drop (o + m) := by
  simp only [u8Cells, ← List.map_drop, ← List.map_take, ← List.map_append]; rw [bytesOf_splice h]

theorem u8Cells_append (n m x y : Nat) : u8Cells (n + m) (x % 256 ^ n + 256 ^ n * y) = u8Cells n x ++ u8Cells m y := by
  simp only [u8Cells, ← List.map_append]; rw [bytesOf_append]

theorem drop_mid {α : Type} {pre vs post : List α} {o n : Nat} (h : o + n ≤ vs.length) : ((pre ++ vs ++ post).drop (pre.length + o)).take n = (vs.drop o).take n := by
  rw [List.append_assoc, List.drop_append, List.drop_eq_nil_of_le (by omega), List.nil_append, Nat.add_sub_cancel_left, List.drop_append_of_le_length (by omega), List.take_append_of_le_length (by simp; omega)]

theorem aLoad_ok (hw : WRel w0 r s w) {t : TypeId} {x a : AV} (h : aLoad P t s x = some a) {u : Value} (hu : VRel r x u) :
    ∃ z, (Instr.loadAt t u).run P w = .ok z w ∧ VRel r a z := by
  unfold aLoad at h
  split at h
  · rename_i b o
    split at h
    · rename_i obj hobj
      simp only [VRel] at hu
      obtain ⟨p, hp, rfl⟩ := hu
      have ho := (hw.own b obj p hobj hp).2
      unfold aLoadObj at h
      split at h
      · rename_i e l opn
        obtain ⟨pre, vs, post, fz, hx, hf, h3, h4, h5, h6, h7⟩ := ho
        split at h
        · rename_i n hn
          obtain ⟨g1, g2⟩ := aggSize_run hn
          split at h
          · rename_i hle
            have hle : o + n ≤ l.length := Nat.le_of_ble_eq_true hle
            cases h
            rw [← h6.length] at hle
            refine ⟨.agg ((vs.drop o).take n).toArray, ?_, by
              simp only [VRel]; exact ⟨_, rfl, (h6.drop o).take n, fun x hx => h7 x (List.mem_of_mem_drop (List.mem_of_mem_take hx))⟩⟩
            simp only [Instr.loadAt, Instr.sureAddr, loadVar, Sem.run_bind, Sem.run_pure, Result.andThen_ok, g1, g2, if_true]
            rw [run_loadCells hx (by simp; omega), Result.andThen_ok, Nat.add_comm o p.shift, ← h3, drop_mid hle]
          · cases h
        · rename_i n hn
          obtain ⟨g1, g2⟩ := aggSize_run hn
          obtain ⟨v, hv, hr⟩ := h6.get h
          refine ⟨v, ?_, hr⟩
          have hlt : o < vs.length := (List.getElem?_eq_some_iff.1 hv).1
          simp only [Instr.loadAt, Instr.sureAddr, loadVar, Sem.run_bind, Sem.run_pure, Result.andThen_ok, g1, Bool.false_eq_true, if_false, run_load, cell_row hx]
          have e : (pre ++ vs ++ post)[o + p.shift]? = some v := by
            rw [Nat.add_comm, ← h3, List.append_assoc, List.getElem?_append_right (by omega), Nat.add_sub_cancel_left, List.getElem?_append_left hlt, hv]
          rw [e]
        · cases h
      · rename_i e n y opn
        obtain ⟨pre, post, fz, hx, hf, h3, h4, h5⟩ := ho
        split at h
        · rename_i m hm
          obtain ⟨g1, g2⟩ := aggSize_run hm
          split at h
          · rename_i hle
            have hle : o + m ≤ n := Nat.le_of_ble_eq_true hle
            cases h
            refine ⟨.agg (u8Cells m (y / 256 ^ o % 256 ^ m)).toArray, ?_, by simp only [VRel]⟩
            simp only [Instr.loadAt, Instr.sureAddr, loadVar, Sem.run_bind, Sem.run_pure, Result.andThen_ok, g1, g2, if_true]
            rw [run_loadCells hx (by simp [u8Cells_length]; omega), Result.andThen_ok, Nat.add_comm o p.shift, ← h3, drop_mid (by rw [u8Cells_length]; exact hle), u8Cells_cut hle]
          · cases h
        · rename_i m hm
          obtain ⟨g1, g2⟩ := aggSize_run hm
          split at h
          · rename_i hlt
            have hlt : o < n := by simp [Nat.blt] at hlt; omega
            cases h
            refine ⟨.int .u8 (byteAt y o : Nat), ?_, by simp only [VRel]; rfl⟩
            simp only [Instr.loadAt, Instr.sureAddr, loadVar, Sem.run_bind, Sem.run_pure, Result.andThen_ok, g1, Bool.false_eq_true, if_false, run_load, cell_row hx]
            have e : (pre ++ u8Cells n y ++ post)[o + p.shift]? = some (.int .u8 (byteAt y o : Nat)) := by
              rw [Nat.add_comm, ← h3, List.append_assoc, List.getElem?_append_right (by omega), Nat.add_sub_cancel_left, List.getElem?_append_left (by rw [u8Cells_length]; exact hlt), u8Cells_get, if_pos hlt]
            rw [e]
          · cases h
        · cases h
      · cases h
      · cases h
      · cases h
    · cases h
  · cases h
end

/-! Stores. -/
/-- The cells of a value that is no row of bytes. -/
def avCells (v : AV) : Option (List AV) :=
  match v with
  | .agg l => some l
  | .undef => none
  | .tup _ => none
  | .u8s _ _ => none
  | v => some [v]

def aPut (P : Program) (t : TypeId) (o : Nat) (obj : AObj) (v : AV) : Option AObj :=
  match obj with
  | .cells e l opn => match avCells v with
    | some m => match aggSize P t with
      | some (_, n) => if (Nat.beq m.length n && Nat.ble (o + n) l.length && Nat.blt 0 n) = true then some (.cells e (l.take o ++ m ++ l.drop (o + n)) opn) else none
      | none => none
    | none => none
  | .bytes e n y opn => match v with
    | .u8s m z => match aggSize P t with
      | some (_, k) => if (Nat.beq m k && Nat.ble (o + m) n && Nat.blt 0 m) = true then some (.bytes e n (splice y o m z) opn) else none
      | none => none
    | .int .u8 (.ofNat c) => match aggSize P t with
      | some (_, k) => if (Nat.beq k 1 && Nat.blt o n && Nat.blt c 256) = true then some (.bytes e n (splice y o 1 c) opn) else none
      | none => none
    | _ => none
  | .map _ _ _ => none
  | .iter _ _ _ _ => none
  | .amap _ => none

def aStore (P : Program) (t : TypeId) (s : St) (x v : AV) : Option St :=
  match x with
  | .ptr b o => match s.at b with
    | some obj => match aPut P t o obj v with
      | some obj' => some (s.setS b obj')
      | none => none
    | none => none
  | _ => none

section
variable {P : Program} {w w0 : World} {r : Ren} {s : St}

theorem avCells_ok {v : AV} {m : List AV} (h : avCells v = some m) {u : Value} (hu : VRel r v u) :
    ∃ c : List Value, u.cells = c.toArray ∧ VsRel r m c ∧ ∀ x ∈ c, one x = true := by
  have single : ∀ {u : Value}, VRel r v u → m = [v] → u.cells = #[u] → one u = true → ∃ c : List Value, u.cells = c.toArray ∧ VsRel r m c ∧ ∀ x ∈ c, one x = true :=
    fun {u} hu hm hc h1 => ⟨[u], by rw [hc], by rw [hm]; exact .cons hu .nil, fun x hx => by simp at hx; rw [hx]; exact h1⟩
  cases v <;> simp only [avCells] at h <;> try (cases h; done)
  case agg l =>
    cases h
    simp only [VRel] at hu
    obtain ⟨c, rfl, h1, h2⟩ := hu
    exact ⟨c, rfl, h1, h2⟩
  all_goals
    cases h
    refine single hu rfl ?_ ?_ <;> simp only [VRel] at hu <;>
      (try obtain ⟨_, _, rfl, _, _⟩ := hu) <;> (try obtain ⟨_, _, rfl⟩ := hu) <;> (try obtain ⟨_, rfl, _⟩ := hu) <;> (try obtain ⟨_, rfl⟩ := hu) <;> (try subst hu) <;> rfl

theorem u8Cells_one (c : Nat) (h : c < 256) : u8Cells 1 c = [.int .u8 (c : Nat)] := by
  simp [u8Cells, bytesOf, byteAt, Nat.mod_eq_of_lt h]

theorem mid_write {α : Type} {pre vs post m : List α} {o : Nat} (h : o + m.length ≤ vs.length) :
    (pre ++ vs ++ post).take (o + pre.length) ++ m ++ (pre ++ vs ++ post).drop (o + pre.length + m.length) = pre ++ (vs.take o ++ m ++ vs.drop (o + m.length)) ++ post := by
  refine List.ext_getElem? fun k => ?_
  simp only [List.getElem?_append, List.length_append, List.length_take, List.getElem?_take, List.getElem?_drop, List.length_drop]
  grind

theorem aPut_ok {t : TypeId} {o : Nat} {obj obj' : AObj} {v : AV} (h : aPut P t o obj v = some obj') {p : Place} {b : Nat} (hw : WRel w0 r s w) (hobj : s.at b = some obj) (hp : r b = some p)
    {u : Value} (hu : VRel r v u) : ∃ w', (Instr.storeAt t (.pointer (some ⟨p.blk, o + p.shift, none⟩)) u).run P w = .ok () w' ∧ WRel w0 r (s.set b obj') w' := by
  have ho := (hw.own b obj p hobj hp).2
  have go : ∀ (c : List Value) (e : TypeId) (fz : Nat × Nat) (cs : List Value) (n : Nat), u.cells = cs.toArray → (∀ x ∈ cs, one x = true) → (∀ w, (sizeOf t).run P w = .ok n w) → cs.length = n → 0 < n →
      w.heap[p.blk]? = some (.cells c.toArray e fz) → Free c.length fz → o + p.shift + n ≤ c.length →
      ∃ w', (Instr.storeAt t (.pointer (some ⟨p.blk, o + p.shift, none⟩)) u).run P w = .ok () w' ∧ Wrote w w' p.blk (.cells (c.take (o + p.shift) ++ cs ++ c.drop (o + p.shift + cs.length)).toArray e fz) :=
    fun c e fz cs n hc h1 hs hn hpos hx hf hl => by
      obtain ⟨w', i1, i2⟩ := run_storeCells (P := P) (o := o + p.shift) cs 0 c w hx hf (by omega) h1 (by omega)
      refine ⟨w', ?_, i2⟩
      simp only [Instr.storeAt, Instr.sureAddr, storeVar, Sem.run_bind, Sem.run_pure, Result.andThen_ok, hs, hc]
      rw [if_neg (by simp; exact hn)]
      exact i1
  unfold aPut at h
  split at h
  · rename_i e l opn
    obtain ⟨pre, vs, post, fz, hx, hf, h3, h4, h5, h6, h7⟩ := ho
    split at h
    · rename_i m hm
      split at h
      · rename_i bb n hn
        split at h
        · rename_i hc
          simp only [Bool.and_eq_true, Nat.blt] at hc
          obtain ⟨⟨c1, c2⟩, c3⟩ := hc
          have c1 : m.length = n := Nat.eq_of_beq_eq_true c1
          have c2 : o + n ≤ l.length := Nat.le_of_ble_eq_true c2
          have c3 : 1 ≤ n := Nat.le_of_ble_eq_true c3
          cases h
          obtain ⟨cs, k1, k2, k3⟩ := avCells_ok hm hu
          have kl := k2.length
          have vl := h6.length
          obtain ⟨w', i1, i2⟩ := go _ e fz cs n k1 k3 (aggSize_run hn).2 (by omega) (by omega) hx hf (by simp; omega)
          refine ⟨w', i1, hw.wrote hobj hp i2 ?_⟩
          have em : (pre ++ vs ++ post).take (o + p.shift) ++ cs ++ (pre ++ vs ++ post).drop (o + p.shift + cs.length) = pre ++ (vs.take o ++ cs ++ vs.drop (o + cs.length)) ++ post := by
            rw [← h3]; exact mid_write (by omega)
          refine ⟨pre, vs.take o ++ cs ++ vs.drop (o + n), post, fz, ?_, ?_, h3, h4, h5, ?_, ?_⟩
          · rw [em, show cs.length = n by omega]
          · have : (pre ++ (vs.take o ++ cs ++ vs.drop (o + n)) ++ post).length = (pre ++ vs ++ post).length := by simp; omega
            rw [this]; exact hf
          · exact ((h6.take o).append k2).append (h6.drop (o + n))
          · intro x hx
            simp only [List.mem_append] at hx
            rcases hx with (hx | hx) | hx
            · exact h7 x (List.mem_of_mem_take hx)
            · exact k3 x hx
            · exact h7 x (List.mem_of_mem_drop hx)
        · cases h
      · cases h
    · cases h
  · rename_i e n y opn
    obtain ⟨pre, post, fz, hx, hf, h3, h4, h5⟩ := ho
    have fin : ∀ (m z : Nat) (cs : List Value), u.cells = cs.toArray → cs = u8Cells m z → (∀ w, (sizeOf t).run P w = .ok m w) → o + m ≤ n → 0 < m →
        ∃ w', (Instr.storeAt t (.pointer (some ⟨p.blk, o + p.shift, none⟩)) u).run P w = .ok () w' ∧ WRel w0 r (s.set b (.bytes e n (splice y o m z) opn)) w' := fun m z cs hcs hz hs hle hpos => by
      have hcl : cs.length = m := by rw [hz, u8Cells_length]
      obtain ⟨w', i1, i2⟩ := go _ e fz cs m hcs (by rw [hz]; exact u8_one m z) hs hcl hpos hx hf (by simp [u8Cells_length]; omega)
      refine ⟨w', i1, hw.wrote hobj hp i2 ?_⟩
      have em : (pre ++ u8Cells n y ++ post).take (o + p.shift) ++ cs ++ (pre ++ u8Cells n y ++ post).drop (o + p.shift + cs.length) = pre ++ u8Cells n (splice y o m z) ++ post := by
        rw [← h3, mid_write (by rw [u8Cells_length]; omega), u8Cells_splice hle, hcl, hz]
      refine ⟨pre, post, fz, by rw [em], ?_, h3, h4, h5⟩
      have : (pre ++ u8Cells n (splice y o m z) ++ post).length = (pre ++ u8Cells n y ++ post).length := by simp [u8Cells_length]
      rw [this]; exact hf
    split at h
    · rename_i m z
      simp only [VRel] at hu; subst hu
      split at h
      · rename_i bb k hk
        split at h
        · rename_i hc
          simp only [Bool.and_eq_true, Nat.blt] at hc
          obtain ⟨⟨c1, c2⟩, c3⟩ := hc
          have c1 : m = k := Nat.eq_of_beq_eq_true c1
          subst c1
          cases h
          exact fin m z (u8Cells m z) rfl rfl (aggSize_run hk).2 (Nat.le_of_ble_eq_true c2) (Nat.le_of_ble_eq_true c3)
        · cases h
      · cases h
    · rename_i c
      simp only [VRel] at hu; subst hu
      split at h
      · rename_i bb k hk
        split at h
        · rename_i hc
          simp only [Bool.and_eq_true, Nat.blt] at hc
          obtain ⟨⟨c1, c2⟩, c3⟩ := hc
          have c1 : k = 1 := Nat.eq_of_beq_eq_true c1
          subst c1
          have c3 : c + 1 ≤ 256 := Nat.le_of_ble_eq_true c3
          cases h
          exact fin 1 c [.int .u8 (c : Nat)] rfl (u8Cells_one c (by omega)).symm (aggSize_run hk).2 (Nat.le_of_ble_eq_true c2) (by omega)
        · cases h
      · cases h
    · cases h
  · cases h
  · cases h
  · cases h

theorem aStore_ok (hw : WRel w0 r s w) {t : TypeId} {x v : AV} {s' : St} (h : aStore P t s x v = some s') {u z : Value} (hu : VRel r x u) (hz : VRel r v z) :
    ∃ w', (Instr.storeAt t u z).run P w = .ok () w' ∧ WRel w0 r s' w' := by
  unfold aStore at h
  simp only [St.setS_eq] at h
  split at h
  · rename_i b o
    split at h
    · rename_i obj hobj
      split at h
      · rename_i obj' hobj'
        cases h
        simp only [VRel] at hu
        obtain ⟨p, hp, rfl⟩ := hu
        exact aPut_ok hobj' hw hobj hp hz
      · cases h
    · cases h
  · cases h
end
end
end Go.X

/- New rows; addresses. -/
namespace Go.X
noncomputable section
set_option linter.unusedVariables false
set_option linter.unusedSimpArgs false

def aZero (P : Program) (t : TypeId) : Option AV :=
  match P.info? t with
  | some i => match i.zero with
    | some z => ofValue z
    | none => none
  | none => none

/-- A variable's row. -/
def rowOf (e : TypeId) (v : AV) : Option AObj :=
  match v with
  | .u8s n x => some (.bytes e n x 0)
  | v => match avCells v with
    | some l => some (.cells e l 0)
    | none => none

def aAlloc (P : Program) (e : TypeId) : Option AObj :=
  match aZero P e with
  | some z => rowOf e z
  | none => none

/-- The cells of a value, one by one. -/
def flat (v : AV) : Option (List AV) := avCells v

/-- 'Instr.fill'. -/
def aFill (place : Nat → Option (Nat × Nat)) (l : List AV) : List (Nat × AV) → Option (List AV)
  | [] => some l
  | (i, v) :: rest =>
    match place i with
    | some (off, size) => match avCells v with
      | some m => if (Nat.beq m.length size && Nat.ble (off + size) l.length) = true then aFill place (l.take off ++ m ++ l.drop (off + size)) rest else none
      | none => none
    | none => none

def placesOf (P : Program) : List Field → Option (List (Nat × Nat))
  | [] => some []
  | f :: fs => match P.info? f.type with
    | some i => match placesOf P fs with
      | some l => some ((f.offset, i.size) :: l)
      | none => none
    | none => none

def aBuild (P : Program) (t : TypeId) (parts : List (Nat × AV)) : Option AV :=
  match aZero P t with
  | some (.agg l) => match P.underlying t with
    | some (.struct fields) => match placesOf P fields.toList with
      | some pl => match aFill (fun i => pl[i]?) l parts with
        | some m => some (.agg m)
        | none => none
      | none => none
    | some (.array _ e) => match P.info? e with
      | some i => match aFill (fun k => some (k * i.size, i.size)) l parts with
        | some m => some (.agg m)
        | none => none
      | none => none
    | _ => none
  | _ => none

def packAV : List AV → Option (List Nat)
  | [] => some []
  | .int .u8 (.ofNat b) :: l => if Nat.blt b 256 = true then (match packAV l with | some m => some (b :: m) | none => none) else none
  | _ => none

def isByte (P : Program) (e : TypeId) : Bool := match P.underlying e with | some (.int .u8) => true | _ => false

/-- A row of n elements, each zero. -/
def zeroRow (P : Program) (e : TypeId) (n : Nat) : Option AObj :=
  match isByte P e with
  | true => match aZero P e with
    | some (.int .u8 (.ofNat 0)) => some (.bytes e n 0 0)
    | _ => none
  | false => match aZero P e with
    | some z => match avCells z with
      | some l => some (.cells e (List.replicate n l).flatten 0)
      | none => none
    | none => none

def aBuildSlice (P : Program) (t : TypeId) (len : Nat) (parts : List (Nat × AV)) : Option AObj :=
  match P.underlying t with
  | some (.slice e) => match P.info? e with
    | some i => match aZero P e with
      | some z => match avCells z with
        | some l => if (Nat.ble (len * i.size) 1000 && Nat.beq l.length i.size && Nat.blt 0 i.size) = true then
            match aFill (fun k => some (k * i.size, i.size)) (List.replicate len l).flatten parts with
            | some m => match isByte P e with
              | true => match packAV m with
                | some bs => some (.bytes e bs.length (natOf bs) 0)
                | none => none
              | false => some (.cells e m 0)
            | none => none
          else none
        | none => none
      | none => none
    | none => none
  | _ => none

section
variable {P : Program} {w w0 : World} {r : Ren} {s : St}

theorem free_none (n : Nat) : Free n (0, 0) := fun i _ h => by simp at h

theorem obj_cells {e : TypeId} {l : List AV} {vs : List Value} (h : VsRel r l vs) (h1 : ∀ v ∈ vs, one v = true) (g : Nat) : ObjRel r (.cells e l 0) ⟨g, 0, 0⟩ (some (.cells vs.toArray e)) :=
  ⟨[], vs, [], (0, 0), by simp, free_none _, rfl, by simp, fun _ => rfl, h, h1⟩

theorem obj_bytes (e : TypeId) (n x g : Nat) : ObjRel r (.bytes e n x 0) ⟨g, 0, 0⟩ (some (.cells (u8Cells n x).toArray e)) :=
  ⟨[], [], (0, 0), by simp, free_none _, rfl, by simp, fun _ => rfl⟩

theorem aZero_ok {t : TypeId} {a : AV} (h : aZero P t = some a) : ∃ z, (∀ w, (zeroValue t).run P w = .ok z w) ∧ ∀ r, VRel r a z := by
  unfold aZero at h
  split at h
  · rename_i i hi
    split at h
    · rename_i z hz
      exact ⟨z, fun w => by simp [zeroValue, typeInfo, hi, hz], fun r => ofValue_rel h⟩
    · cases h
  · cases h

theorem rowOf_ok {e : TypeId} {v : AV} {o : AObj} (h : rowOf e v = some o) {u : Value} (hu : VRel r v u) (g : Nat) : ObjRel r o ⟨g, 0, 0⟩ (some (.cells u.cells e)) := by
  unfold rowOf at h
  split at h
  · cases h
    simp only [VRel] at hu; subst hu
    exact obj_bytes _ _ _ _
  · split at h
    · rename_i l hl
      cases h
      obtain ⟨c, h1, h2, h3⟩ := avCells_ok hl hu
      rw [h1]; exact obj_cells h2 h3 g
    · cases h

/-- A new row, on both sides. -/
theorem new_row (hw : WRel w0 r s w) (hn : s.next < 2 ^ HD) {o : AObj} {e : TypeId} {c : Array Value} (ho : ObjRel r o ⟨w.heap.size, 0, 0⟩ (some (.cells c e))) :
    ∃ r' w', r.le r' ∧ (newRow e c).run P w = .ok ⟨w.heap.size, 0, none⟩ w' ∧ WRel w0 r' (s.new o) w' ∧ r' s.next = some ⟨w.heap.size, 0, 0⟩ := by
  obtain ⟨h1, h2⟩ := hw.made hn ho
  exact ⟨_, _, h2, rfl, h1, Ren.put_same ..⟩

theorem aAlloc_ok (hw : WRel w0 r s w) (hn : s.next < 2 ^ HD) {e : TypeId} {o : AObj} (h : aAlloc P e = some o) :
    ∃ r' w' u, r.le r' ∧ (Instr.alloc e true (.tuple #[])).run P w = .ok u w' ∧ VRel r' (.ptr s.next 0) u ∧ WRel w0 r' (s.new o) w' := by
  unfold aAlloc at h
  split at h
  · rename_i z hz
    obtain ⟨zv, h1, h2⟩ := aZero_ok hz
    obtain ⟨r', w', i1, i2, i3, i4⟩ := new_row (P := P) hw hn (rowOf_ok h (h2 r) _)
    refine ⟨r', w', .pointer (some ⟨w.heap.size, 0, none⟩), i1, ?_, ?_, i3⟩
    · simp only [Instr.alloc, Sem.run_bind, h1, Result.andThen_ok, newVar, i2, Sem.run_pure]
    · simp only [VRel]; exact ⟨_, i4, rfl⟩
  · cases h

theorem aBox_ok (hw : WRel w0 r s w) (hn : s.next < 2 ^ HD) {e : TypeId} {v : AV} {o : AObj} (h : rowOf e v = some o) {u : Value} (hu : VRel r v u) :
    ∃ r' w' z, r.le r' ∧ (Instr.box e u).run P w = .ok z w' ∧ VRel r' (.ptr s.next 0) z ∧ WRel w0 r' (s.new o) w' := by
  obtain ⟨r', w', i1, i2, i3, i4⟩ := new_row (P := P) hw hn (rowOf_ok h hu _)
  refine ⟨r', w', .pointer (some ⟨w.heap.size, 0, none⟩), i1, ?_, ?_, i3⟩
  · simp only [Instr.box, Sem.run_bind, newVar, i2, Result.andThen_ok, Sem.run_pure]
  · simp only [VRel]; exact ⟨_, i4, rfl⟩

/-- Parts of a value under construction. -/
def PartsRel (r : Ren) (l : List (Nat × AV)) (m : List (Nat × Value)) : Prop := AllRel (fun a b => a.1 = b.1 ∧ VRel r a.2 b.2) l m

theorem foldl_set (cells : Array Value) (off : Nat) : ∀ (m : List Value) (j : Nat) (c : List Value), c.length = cells.size → off + j + m.length ≤ c.length →
    (m.zipIdx j).foldl (fun cs (x : Value × Nat) => cs.setIfInBounds (off + x.2) x.1) c.toArray = (c.take (off + j) ++ m ++ c.drop (off + j + m.length)).toArray
  | [], j, c, _, _ => by simp
  | v :: m, j, c, hc, hl => by
    simp only [List.length_cons] at hl
    simp only [List.zipIdx_cons, List.foldl_cons, List.setIfInBounds_toArray]
    rw [foldl_set cells off m (j + 1) _ (by simpa using hc) (by rw [List.length_set]; omega)]
    congr 1
    refine List.ext_getElem? fun k => ?_
    simp only [List.getElem?_append, List.length_append, List.length_take, List.length_set, List.getElem?_take, List.getElem?_drop, List.getElem?_set, List.length_cons, List.getElem?_cons]
    grind

theorem aFill_ok {place place' : Nat → Option (Nat × Nat)} (hpl : ∀ i x, place i = some x → place' i = some x) : ∀ {parts : List (Nat × AV)} {parts' : List (Nat × Value)} {l m : List AV} {c : List Value},
    aFill place l parts = some m → PartsRel r parts parts' → VsRel r l c → (∀ v ∈ c, one v = true) →
    ∃ c', Instr.fill place' c.toArray parts' = some c'.toArray ∧ VsRel r m c' ∧ (∀ v ∈ c', one v = true) ∧ c'.length = c.length
  | [], [], l, m, c, h, _, hc, h1 => by
    simp only [aFill] at h; cases h
    exact ⟨c, rfl, hc, h1, rfl⟩
  | (i, v) :: rest, (j, u) :: rest', l, m, c, h, hp, hc, h1 => by
    obtain ⟨⟨e1, e2⟩, hp⟩ := hp
    simp only at e1 e2; subst e1
    simp only [aFill] at h
    split at h
    · rename_i off size hpi
      split at h
      · rename_i k hk
        split at h
        · rename_i hcond
          simp only [Bool.and_eq_true] at hcond
          have c1 : k.length = size := Nat.eq_of_beq_eq_true hcond.1
          have c2 : off + size ≤ l.length := Nat.le_of_ble_eq_true hcond.2
          obtain ⟨cs, k1, k2, k3⟩ := avCells_ok hk e2
          have kl := k2.length
          have cl := hc.length
          have hv : VsRel r (l.take off ++ k ++ l.drop (off + size)) (c.take off ++ cs ++ c.drop (off + size)) := ((hc.take off).append k2).append (hc.drop _)
          have hv1 : ∀ x ∈ c.take off ++ cs ++ c.drop (off + size), one x = true := fun x hx => by
            simp only [List.mem_append] at hx
            rcases hx with (hx | hx) | hx
            · exact h1 x (List.mem_of_mem_take hx)
            · exact k3 x hx
            · exact h1 x (List.mem_of_mem_drop hx)
          obtain ⟨c', i1, i2, i3, i4⟩ := aFill_ok hpl h hp hv hv1
          refine ⟨c', ?_, i2, i3, by rw [i4]; simp; omega⟩
          simp only [Instr.fill, hpl _ _ hpi, k1]
          rw [if_neg (by simp; omega)]
          have := foldl_set c.toArray off cs 0 c (by simp) (by omega)
          rw [show (cs.toArray.zipIdx.foldl (fun cs (x : Value × Nat) => cs.setIfInBounds (off + x.2) x.1) c.toArray) = (cs.zipIdx 0).foldl (fun cs (x : Value × Nat) => cs.setIfInBounds (off + x.2) x.1) c.toArray by simp]
          rw [this, Nat.add_zero, show cs.length = size by omega]
          exact i1
        · cases h
      · cases h
    · cases h
  | [], _ :: _, _, _, _, _, hp, _, _ => hp.elim
  | _ :: _, [], _, _, _, _, hp, _, _ => hp.elim

theorem placesOf_ok : ∀ {fs : List Field} {pl : List (Nat × Nat)}, placesOf P fs = some pl → ∀ w, (fs.mapM (m := Sem) fun f => do pure (f.offset, ← sizeOf f.type)).run P w = .ok pl w
  | [], pl, h, w => by simp [placesOf] at h; subst h; rfl
  | f :: fs, pl, h, w => by
    simp only [placesOf] at h
    split at h
    · rename_i i hi
      split at h
      · rename_i l hl
        cases h
        rw [List.mapM_cons]
        simp [sizeOf, typeInfo, hi, Sem.run_bind]
        have := placesOf_ok hl w
        simp [sizeOf, typeInfo] at this
        rw [this]; rfl
      · cases h
    · cases h

theorem aBuild_ok {t : TypeId} {parts : List (Nat × AV)} {parts' : Array (Nat × Value)} {a : AV} (h : aBuild P t parts = some a) (hp : PartsRel r parts parts'.toList) :
    ∃ z, (Instr.build t parts').run P w = .ok z w ∧ VRel r a z := by
  unfold aBuild at h
  split at h
  · rename_i l hl
    obtain ⟨z, h1, h2⟩ := aZero_ok hl
    have h2 := h2 r
    simp only [VRel] at h2
    obtain ⟨c, rfl, hc, hc1⟩ := h2
    split at h
    · rename_i fields hD
      split at h
      · rename_i pl hpl
        split at h
        · rename_i m hm
          cases h
          obtain ⟨c', i1, i2, i3, _⟩ := aFill_ok (place' := fun i => pl.toArray[i]?) (fun i x hx => by simpa using hx) hm hp hc hc1
          refine ⟨.agg c'.toArray, ?_, by simp only [VRel]; exact ⟨_, rfl, i2, i3⟩⟩
          have hpm : (fields.mapM (m := Sem) fun f => do pure (f.offset, ← sizeOf f.type)).run P w = .ok pl.toArray w := by
            have := placesOf_ok hpl w
            rw [Array.mapM_eq_mapM_toList, Sem.run_map, this]; rfl
          simp only [Instr.build, Sem.run_bind, h1, Result.andThen_ok, run_underlying hD, hpm, Value.cells, i1, Sem.run_pure]
        · cases h
      · cases h
    · rename_i n e hD
      split at h
      · rename_i i hi
        split at h
        · rename_i m hm
          cases h
          obtain ⟨c', i1, i2, i3, _⟩ := aFill_ok (place' := fun k => some (k * i.size, i.size)) (fun i x hx => hx) hm hp hc hc1
          refine ⟨.agg c'.toArray, ?_, by simp only [VRel]; exact ⟨_, rfl, i2, i3⟩⟩
          have hs : (sizeOf e).run P w = .ok i.size w := by simp [sizeOf, typeInfo, hi]
          simp only [Instr.build, Sem.run_bind, h1, Result.andThen_ok, run_underlying hD, hs, Value.cells, i1, Sem.run_pure]
        · cases h
      · cases h
    · cases h
  · cases h

theorem packAV_ok : ∀ {l : List AV} {bs : List Nat}, packAV l = some bs → ∀ {vs : List Value}, VsRel r l vs → vs = u8Cells bs.length (natOf bs)
  | [], bs, h, vs, hv => by simp [packAV] at h; subst h; simp only [VsRel] at hv; subst hv; rfl
  | a :: l, bs, h, vs, hv => by
    unfold packAV at h
    split at h
    · simp_all
    · rename_i b l' heq
      injection heq with e1 e2; subst e1; subst e2
      split at h
      · rename_i hb
        have hb : b + 1 ≤ 256 := Nat.le_of_ble_eq_true hb
        split at h
        · rename_i m hm
          cases h
          simp only [VsRel] at hv
          obtain ⟨v, rest, rfl, hv1, hv2⟩ := hv
          simp only [VRel] at hv1; subst hv1
          have := packAV_ok hm hv2
          rw [this]
          simp only [u8Cells, List.length_cons, bytesOf_succ, natOf, List.map_cons]
          have e1 : (b % 256 + 256 * natOf m) % 256 = b := by omega
          have e2 : (b % 256 + 256 * natOf m) / 256 = natOf m := by omega
          rw [e1, e2]; rfl
        · cases h
      · cases h
    · cases h

theorem mod_cells {n : Nat} {z : List Value} (hz : 0 < z.length) : ((Array.range (n * z.length)).map fun (i : Nat) => z.toArray[i % z.toArray.size]!) = (List.replicate n z).flatten.toArray := by
  apply Array.ext'
  simp only [Array.toList_map, Array.toList_range, List.size_toArray]
  refine List.ext_getElem? fun i => ?_
  rw [List.getElem?_map]
  have key : ∀ (n i : Nat), ((List.replicate n z).flatten)[i]? = if i < n * z.length then z[i % z.length]? else none := by
    intro n
    induction n with
    | zero => intro i; simp
    | succ n ih =>
      intro i
      rw [List.replicate_succ, List.flatten_cons, List.getElem?_append]
      split
      · rename_i h
        rw [if_pos (by rw [Nat.succ_mul]; omega), Nat.mod_eq_of_lt h]
      · rename_i h
        rw [ih]
        have : (i - z.length < n * z.length) = (i < (n + 1) * z.length) := by rw [Nat.succ_mul]; exact propext ⟨fun _ => by omega, fun _ => by omega⟩
        simp only [this]
        have e : (i - z.length) % z.length = i % z.length := by
          conv => rhs; rw [← Nat.sub_add_cancel (Nat.le_of_not_lt h), Nat.add_mod_right]
        rw [e]
  rw [key]
  by_cases hi : i < n * z.length
  · rw [if_pos hi, List.getElem?_range hi]
    have hm := Nat.mod_lt i hz
    simp [List.getElem?_eq_getElem hm, hm]
  · rw [if_neg hi, List.getElem?_eq_none (by simpa using Nat.le_of_not_lt hi)]; rfl

theorem one_flatten {n : Nat} {z : List Value} (h : ∀ v ∈ z, one v = true) : ∀ v ∈ (List.replicate n z).flatten, one v = true := fun v hv => by
  simp only [List.mem_flatten, List.mem_replicate] at hv
  obtain ⟨l, ⟨_, rfl⟩, hv⟩ := hv
  exact h v hv

theorem vs_flatten {l : List AV} {z : List Value} (h : VsRel r l z) : ∀ n, VsRel r (List.replicate n l).flatten (List.replicate n z).flatten
  | 0 => by simpa using VsRel.nil
  | n + 1 => by simp only [List.replicate_succ, List.flatten_cons]; exact h.append (vs_flatten h n)

theorem flatten_length {α : Type} (n : Nat) (z : List α) : (List.replicate n z).flatten.length = n * z.length := by
  induction n with
  | zero => simp
  | succ n ih => rw [List.replicate_succ, List.flatten_cons, List.length_append, ih, Nat.succ_mul, Nat.add_comm]

theorem zeroRow_ok {e : TypeId} {n : Nat} {o : AObj} (h : zeroRow P e n = some o) (g : Nat) :
    ∃ z : Value, (∀ w, (zeroValue e).run P w = .ok z w) ∧ (0 < z.cells.size → ObjRel r o ⟨g, 0, 0⟩ (some (.cells ((Array.range (n * z.cells.size)).map fun i => z.cells[i % z.cells.size]!) e))) := by
  unfold zeroRow at h
  split at h
  · split at h
    · rename_i hz
      obtain ⟨z, h1, h2⟩ := aZero_ok hz
      have h2 := h2 r
      simp only [VRel] at h2; subst h2
      cases h
      refine ⟨_, h1, fun _ => ?_⟩
      have e1 : ((Array.range (n * (Value.int IntKind.u8 (Int.ofNat 0)).cells.size)).map fun i => (Value.int IntKind.u8 (Int.ofNat 0)).cells[i % (Value.int IntKind.u8 (Int.ofNat 0)).cells.size]!) = (u8Cells n 0).toArray := by
        have := mod_cells (n := n) (z := [Value.int .u8 0]) (by simp)
        have e2 : (List.replicate n [Value.int .u8 0]).flatten = u8Cells n 0 := by
          refine List.ext_getElem? fun i => ?_
          rw [u8Cells_get, List.flatten_replicate_singleton, List.getElem?_replicate]
          simp [byteAt]
        rw [← e2, ← this]; rfl
      rw [e1]; exact obj_bytes _ _ _ _
    · cases h
  · split at h
    · rename_i z hz
      split at h
      · rename_i l hl
        cases h
        obtain ⟨zv, h1, h2⟩ := aZero_ok hz
        obtain ⟨c, k1, k2, k3⟩ := avCells_ok hl (h2 r)
        refine ⟨zv, h1, fun hpos => ?_⟩
        rw [k1] at hpos ⊢
        simp only [List.size_toArray] at hpos ⊢
        have := mod_cells (n := n) hpos
        simp only [List.size_toArray] at this
        rw [this]
        exact obj_cells (vs_flatten k2 n) (one_flatten k3) g
      · cases h
    · cases h

theorem aBuildSlice_ok (hw : WRel w0 r s w) (hn : s.next < 2 ^ HD) {t : TypeId} {len : Nat} {parts : List (Nat × AV)} {parts' : Array (Nat × Value)} {o : AObj}
    (h : aBuildSlice P t len parts = some o) (hp : PartsRel r parts parts'.toList) :
    ∃ r' w' u, r.le r' ∧ (Instr.buildSlice t len parts').run P w = .ok u w' ∧ VRel r' (.slice s.next 0 len len) u ∧ WRel w0 r' (s.new o) w' := by
  unfold aBuildSlice at h
  split at h
  · rename_i e hD
    split at h
    · rename_i i hi
      split at h
      · rename_i z hz
        split at h
        · rename_i l hl
          split at h
          · rename_i hc
            simp only [Bool.and_eq_true, Nat.blt] at hc
            obtain ⟨⟨c1, c2⟩, c3⟩ := hc
            have c1 : len * i.size ≤ 1000 := Nat.le_of_ble_eq_true c1
            have c2 : l.length = i.size := Nat.eq_of_beq_eq_true c2
            have c3 : 1 ≤ i.size := Nat.le_of_ble_eq_true c3
            split at h
            · rename_i m hm
              obtain ⟨zv, h1, h2⟩ := aZero_ok hz
              obtain ⟨c, k1, k2, k3⟩ := avCells_ok hl (h2 r)
              have kl := k2.length
              obtain ⟨c', i1, i2, i3, i4⟩ := aFill_ok (place' := fun k => some (k * i.size, i.size)) (fun i x hx => hx) hm hp (vs_flatten k2 len) (one_flatten k3)
              have ho : ObjRel r o ⟨w.heap.size, 0, 0⟩ (some (.cells c'.toArray e)) := by
                split at h
                · split at h
                  · rename_i bs hbs
                    cases h
                    rw [packAV_ok hbs i2]; exact obj_bytes _ _ _ _
                  · cases h
                · cases h; exact obj_cells i2 i3 _
              obtain ⟨r', w', j1, j2, j3, j4⟩ := new_row (P := P) hw hn ho
              refine ⟨r', w', .slice (some ⟨w.heap.size, 0, none⟩) len len, j1, ?_, ?_, j3⟩
              · have hs : (sizeOf e).run P w = .ok i.size w := by simp [sizeOf, typeInfo, hi]
                simp only [Instr.buildSlice, Sem.run_bind, run_underlying hD, Result.andThen_ok, hs]
                rw [if_neg (by omega)]
                by_cases h0 : len * i.size = 0
                · have hl0 : len = 0 := by rcases Nat.mul_eq_zero.1 h0 with h | h <;> omega
                  have hfill : Instr.fill (fun k => some (k * i.size, i.size)) ((Array.range (len * i.size)).map fun (x : Nat) => (#[] : Array Value)[x % (#[] : Array Value).size]!) parts'.toList = some c'.toArray := by
                    rw [← i1]; congr 1; subst hl0; simp
                  rw [if_pos h0]
                  simp only [pure_bind]
                  simp only [hfill, Sem.run_bind, j2, Result.andThen_ok, Sem.run_pure]
                · rw [if_neg h0]
                  simp only [Sem.run_bind, h1, Result.andThen_ok, Sem.run_pure, k1]
                  have hfill : Instr.fill (fun k => some (k * i.size, i.size)) ((Array.range (len * i.size)).map fun (x : Nat) => c.toArray[x % c.toArray.size]!) parts'.toList = some c'.toArray := by
                    rw [← i1]; congr 1
                    have := mod_cells (n := len) (z := c) (by omega)
                    rw [show c.length = i.size by omega] at this
                    exact this
                  simp only [hfill, Sem.run_bind, j2, Result.andThen_ok, Sem.run_pure]
              · simp only [VRel]; exact ⟨_, j4, rfl⟩
            · cases h
          · cases h
        · cases h
      · cases h
    · cases h
  · cases h
end
end
end Go.X
