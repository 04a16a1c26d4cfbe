/- One operation: what the executor says of it is so. -/
import Derived.Test.YtbnldlojlbbgbaaGreatDoorXd
import Derived.Scope
import Derived.Defers
set_option linter.unusedVariables false
set_option linter.unusedSimpArgs false

namespace Go.X
noncomputable section
set_option linter.unusedVariables false
set_option linter.unusedSimpArgs false

/-- The operands stand for these values. -/
def ORel (r : Ren) (d : Nat) (env : T AV) (ρ : Operand → Value) (xs : List Operand) : Prop := ∀ x ∈ xs, ∀ v, aEval d env x = some v → VRel r v (ρ x)

/-- What a call comes to. -/
def CallPost (w0 : World) (r : Ren) (v : AV) (s' : St) : Ending → World → Prop
  | .returned u, w' => ∃ r', r.le r' ∧ VRel r' v u ∧ WRel w0 r' s' w'
  | _, _ => False

structure CtxOk (C : Ctx) (w0 : World) : Prop where
  call : ∀ f args s v s', C.call f args s = some (v, s') → ∀ r w vs, WRel w0 r s w → VsRel r args vs →
    (callFunc f vs.toArray).run C.P w = .ok (.enter f vs.toArray) w ∧ Calls C.P f vs.toArray w (CallPost w0 r v s')
  ext : ∀ f e, C.ext f = some e → ∀ args s v s', e args s = some (v, s') → ∀ r w vs, WRel w0 r s w → VsRel r args vs →
    ∃ r' w' u, r.le r' ∧ (callFunc f vs.toArray).run C.P w = .ok (.value u) w' ∧ VRel r' v u ∧ WRel w0 r' s' w'

/-- What an operation comes to. -/
def StepOk (P : Program) (w0 : World) (r : Ren) (w : World) (prog : Sem Next) (v : AV) (s' : St) : Prop :=
  (∃ r' w' u, r.le r' ∧ prog.run P w = .ok (.value u) w' ∧ VRel r' v u ∧ WRel w0 r' s' w') ∨
  (∃ w', prog.run P w = .ok .skip w' ∧ v = .undef ∧ WRel w0 r s' w') ∨
  (∃ f args, prog.run P w = .ok (.enter f args) w ∧ Calls P f args w (CallPost w0 r v s'))

section
variable {P : Program} {w w0 : World} {r : Ren} {s : St}

theorem ok_value {sem : Sem Value} {u : Value} {w' : World} (h : sem.run P w = .ok u w') : (do pure (Next.value (← sem)) : Sem Next).run P w = .ok (.value u) w' := by
  rw [Sem.run_bind, h]; rfl
theorem ok_skip {sem : Sem Unit} {w' : World} (h : sem.run P w = .ok () w') : (do sem; pure Next.skip : Sem Next).run P w = .ok .skip w' := by
  rw [Sem.run_bind, h]; rfl

theorem step_pure {prog : Sem Next} {v : AV} {x : Option AV} {s' : St} (hw : WRel w0 r s w) (h : pureSt s x = some (v, s')) (hp : ∀ v, x = some v → ∃ u, prog.run P w = .ok (.value u) w ∧ VRel r v u) :
    StepOk P w0 r w prog v s' := by
  cases x with
  | none => simp [pureSt] at h
  | some a =>
    simp only [pureSt, Option.some.injEq, Prod.mk.injEq] at h
    obtain ⟨rfl, rfl⟩ := h
    obtain ⟨u, h1, h2⟩ := hp a rfl
    exact .inl ⟨r, w, u, Ren.le_refl r, h1, h2, hw⟩

theorem step_unit {prog : Sem Next} {v : AV} {x : Option St} {s' : St} (h : unitSt x = some (v, s')) (hp : ∀ s1, x = some s1 → ∃ w', prog.run P w = .ok .skip w' ∧ WRel w0 r s1 w') :
    StepOk P w0 r w prog v s' := by
  cases x with
  | none => simp [unitSt] at h
  | some a =>
    simp only [unitSt, Option.some.injEq, Prod.mk.injEq] at h
    obtain ⟨rfl, rfl⟩ := h
    obtain ⟨w', h1, h2⟩ := hp a rfl
    exact .inr (.inl ⟨w', h1, rfl, h2⟩)

theorem step_new {prog : Sem Next} {v v' : AV} {x : Option AObj} {s' : St} (h : newSt s x v = some (v', s'))
    (hp : ∀ o, x = some o → s.next < 2 ^ HD → ∃ r' w' u, r.le r' ∧ prog.run P w = .ok (.value u) w' ∧ VRel r' v u ∧ WRel w0 r' (s.new o) w') :
    StepOk P w0 r w prog v' s' := by
  unfold newSt at h
  split at h
  · rename_i o
    split at h <;> cases h
    rename_i hn
    have hn : s.next + 1 ≤ 2 ^ HD := Nat.le_of_ble_eq_true hn
    obtain ⟨r', w', u, h1, h2, h3, h4⟩ := hp o rfl hn
    exact .inl ⟨r', w', u, h1, h2, h3, h4⟩
  · cases h

variable {d : Nat} {env : T AV} {ρ : Operand → Value}

theorem ORel.one {xs : List Operand} (h : ORel r d env ρ xs) {x : Operand} (hx : x ∈ xs) {v : AV} (hv : aEval d env x = some v) : VRel r v (ρ x) := h x hx v hv

theorem aEvals_ok : ∀ {xs : List Operand} (h : ORel r d env ρ xs) {vs : List AV}, aEvals d env xs = some vs → VsRel r vs (xs.map ρ)
  | [], _, vs, h => by simp [aEvals] at h; subst h; exact .nil
  | x :: l, ho, vs, h => by
    simp only [aEvals] at h
    split at h
    · rename_i v hv
      split at h
      · rename_i m hm
        cases h
        exact .cons (ho x (List.mem_cons_self ..) v hv) (aEvals_ok (fun y hy => ho y (List.mem_cons_of_mem _ hy)) hm)
      · cases h
    · cases h

theorem aParts_ok : ∀ {ps : List (Nat × Operand)} (h : ORel r d env ρ (ps.map (·.2))) {vs : List (Nat × AV)}, aParts d env ps = some vs → PartsRel r vs (ps.map fun (i, x) => (i, ρ x))
  | [], _, vs, h => by simp [aParts] at h; subst h; trivial
  | (i, x) :: l, ho, vs, h => by
    simp only [aParts] at h
    split at h
    · rename_i v hv
      split at h
      · rename_i m hm
        cases h
        exact ⟨⟨rfl, ho x (List.mem_cons_self ..) v hv⟩, aParts_ok (fun y hy => ho y (List.mem_cons_of_mem _ hy)) hm⟩
      · cases h
    · cases h

theorem aOpt_ok {xs : List Operand} (ho : ORel r d env ρ xs) {x : Option Operand} (hx : ∀ y, x = some y → y ∈ xs) {v : Option AV} (h : aOpt d env x = some v) :
    (v = none → x.map ρ = none) ∧ ∀ a, v = some a → ∃ z, x.map ρ = some z ∧ VRel r a z := by
  cases x with
  | none => simp [aOpt] at h; subst h; simp
  | some y =>
    simp only [aOpt] at h
    split at h
    · rename_i a ha
      cases h
      refine ⟨by simp, fun b hb => ?_⟩
      cases hb
      exact ⟨ρ y, rfl, ho y (hx y rfl) a ha⟩
    · cases h

theorem aNilCheck_ok {x a : AV} (h : aNilCheck x = some a) {u : Value} (hu : VRel r x u) (dst : Option Tmp) (ty : TypeId) (pos : String) (after : Array Edge) (g : Option (Nat × Bool)) (y : Operand) (hy : ρ y = u) :
    (execOp ρ ⟨dst, .nilCheck y, ty, pos, after, g⟩).run P w = .ok (.value u) w ∧ VRel r a u := by
  unfold aNilCheck at h
  split at h <;> cases h <;> refine ⟨?_, hu⟩ <;> simp only [VRel] at hu
  · obtain ⟨p, hp, rfl⟩ := hu
    simp only [execOp, hy]; rfl
  · obtain ⟨z, rfl, _⟩ := hu
    simp only [execOp, hy]; rfl
  · obtain ⟨f, c, rfl, _⟩ := hu
    simp only [execOp, hy]; rfl

theorem aUnsafe_ok (hw : WRel w0 r s w) {src dst : TypeId} {x a : AV} (h : aUnsafe P src dst s x = some a) {u : Value} (hu : VRel r x u) : ∃ z, (convert src dst u).run P w = .ok z w ∧ VRel r a z := by
  unfold aUnsafe at h
  split at h
  · rename_i t hs
    split at h
    · rename_i hd
      split at h
      · rename_i b o
        split at h
        · rename_i e l opn hobj
          split at h
          · rename_i i hi
            split at h <;> cases h
            rename_i hc
            simp only [Bool.and_eq_true, Nat.blt] at hc
            have c1 : 1 ≤ i.size := Nat.le_of_ble_eq_true hc.1
            have c2 : o + 1 ≤ l.length := Nat.le_of_ble_eq_true hc.2
            have hu' := hu
            simp only [VRel] at hu'; obtain ⟨p, hp, rfl⟩ := hu'
            refine ⟨_, ?_, hu⟩
            obtain ⟨pre, vs, post, fz, hx, hf, h3, h4, h5, h6, h7⟩ := (hw.own b _ p hobj hp).2
            have hvl := h6.length
            have hsh : w.shape? p.blk = some (e, (pre ++ vs ++ post).length) := by simp [World.shape?, hx]
            have hlt : ¬ (pre ++ vs ++ post).length ≤ o + p.shift := by simp; omega
            have hs0 : ¬ i.size = 0 := by omega
            simp only [convert, Sem.run_bind, run_underlying hs, run_underlying hd, Result.andThen_ok, Conv.unsafePointer, Conv.seenAt, viewAt, cellsIn, run_shape, hsh, Sem.run_pure]
            simp [sizeOf, typeInfo, hi, hs0, hsh, hlt, Conv.seenAt, viewAt, cellsIn]
            intro hle; exfalso; omega
          · cases h
        · cases h
      · cases h
    · cases h
  · cases h

theorem aConvert_ok (hw : WRel w0 r s w) {src dst : TypeId} {x v : AV} {s' : St} (h : aConvert P src dst s x = some (v, s')) {u : Value} (hu : VRel r x u) :
    StepOk P w0 r w (do pure (Next.value (← convert src dst u))) v s' := by
  unfold aConvert at h
  split at h
  · refine step_pure hw h fun a ha => ?_
    obtain ⟨z, h1, h2⟩ := aConvInt_ok (w := w) ha hu
    exact ⟨z, ok_value h1, h2⟩
  · split at h
    · refine step_pure hw h fun a ha => ?_
      obtain ⟨z, h1, h2⟩ := aConvInt_ok (w := w) ha hu
      exact ⟨z, ok_value h1, h2⟩
    · refine step_pure hw h fun a ha => ?_
      obtain ⟨z, h1, h2⟩ := aToStr_ok hw ha hu
      exact ⟨z, ok_value h1, h2⟩
  · split at h
    · rename_i o n hb
      refine step_new h fun o' ho' hn => ?_
      cases ho'
      obtain ⟨r', w', z, h1, h2, h3, h4⟩ := aToBytes_ok hw hn hb hu
      exact ⟨r', w', z, h1, ok_value h2, h3, h4⟩
    · cases h
  · refine step_pure hw h fun a ha => ?_
    obtain ⟨z, h1, h2⟩ := aUnsafe_ok hw ha hu
    exact ⟨z, ok_value h1, h2⟩
  · cases h

theorem aCap_ok (hw : WRel w0 r s w) {t : TypeId} {x a : AV} (h : aCap P t s x = some a) {u : Value} (hu : VRel r x u) (ts : Array TypeId) (ht : ts[0]? = some t) (ty : TypeId) :
    ∃ z, (Builtin.cap_ ts ty #[u]).run P w = .ok z w ∧ VRel r a z := by
  unfold aCap at h
  split at h
  · rename_i e hD
    split at h
    · cases h
      simp only [VRel] at hu; subst hu
      exact ⟨goInt 0, by simp [Builtin.cap_, ht, run_underlying hD], by simp only [VRel, goInt]; rfl⟩
    · rename_i b o len cap
      split at h
      · rename_i obj hobj
        split at h <;> cases h
        rename_i hc
        simp only [VRel] at hu; obtain ⟨p, hp, rfl⟩ := hu
        have hm := closed_more hw hobj hp hc
        exact ⟨goInt cap, by simp [Builtin.cap_, ht, run_underlying hD, hm], by simp only [VRel, goInt]; rfl⟩
      · cases h
    · cases h
  · cases h

theorem undefTup : VRel r (.tup []) (.tuple #[]) := by simp only [VRel]; exact ⟨[], rfl, .nil⟩

theorem arr1 {a : Array Value} {u : Value} (h : a.toList = [u]) : a = #[u] := by apply Array.ext'; simpa using h
theorem arr2 {a : Array Value} {u v : Value} (h : a.toList = [u, v]) : a = #[u, v] := by apply Array.ext'; simpa using h

theorem VsRel.two {a b : AV} {vs : List Value} (h : VsRel r [a, b] vs) : ∃ u v, vs = [u, v] ∧ VRel r a u ∧ VRel r b v := by
  simp only [VsRel] at h
  obtain ⟨u, _, rfl, h1, v, _, rfl, h2, rfl⟩ := h
  exact ⟨u, v, rfl, h1, h2⟩
theorem VsRel.uno {a : AV} {vs : List Value} (h : VsRel r [a] vs) : ∃ u, vs = [u] ∧ VRel r a u := by
  simp only [VsRel] at h
  obtain ⟨u, _, rfl, h1, rfl⟩ := h
  exact ⟨u, rfl, h1⟩

theorem aBuiltin_ok (hw : WRel w0 r s w) {b : Builtin} {ts : Array TypeId} {args : List AV} {v : AV} {s' : St} (h : aBuiltin P b ts args s = some (v, s')) {as : Array Value} (ha : VsRel r args as.toList) (ty : TypeId) (consts : Array Bool) :
    StepOk P w0 r w (builtin b ts ty consts as) v s' := by
  unfold aBuiltin at h
  split at h
  · split at h
    · obtain ⟨u, z, e, h1, h2⟩ := ha.two
      have e := arr2 e; subst e
      split at h
      · rename_i t0 ht0
        split at h
        · rename_i t1 ht1
          obtain ⟨r', w', q, k1, k2, k3, k4⟩ := aAppend_ok hw h h1 h2 ht0 ht1 ty
          exact .inl ⟨r', w', q, k1, ok_value k2, k3, k4⟩
        · cases h
      · cases h
    · cases h
  · split at h
    · obtain ⟨u, e, h1⟩ := ha.uno
      have e := arr1 e; subst e
      split at h
      · rename_i t ht
        split at h
        · refine step_pure hw h fun a ha => ?_
          obtain ⟨z, k1, k2⟩ := aMapLen_ok hw ha h1 ts ht ty #[u] rfl
          exact ⟨z, ok_value k1, k2⟩
        · refine step_pure hw h fun a ha => ?_
          obtain ⟨z, k1, k2⟩ := aLen_ok (w := w) ha h1 ts ht ty #[u] rfl
          exact ⟨z, ok_value k1, k2⟩
      · cases h
    · cases h
  · split at h
    · obtain ⟨u, e, h1⟩ := ha.uno
      have e := arr1 e; subst e
      split at h
      · rename_i t ht
        refine step_pure hw h fun a ha => ?_
        obtain ⟨z, k1, k2⟩ := aCap_ok hw ha h1 ts ht ty
        exact ⟨z, ok_value k1, k2⟩
      · cases h
    · cases h
  · split at h
    · obtain ⟨u, z, e, h1, h2⟩ := ha.two
      have e := arr2 e; subst e
      split at h
      · rename_i t ht
        obtain ⟨w', q, k1, k2, k3⟩ := aCopy_ok hw h h1 h2 ht ty
        exact .inl ⟨r, w', q, Ren.le_refl r, ok_value k1, k2, k3⟩
      · cases h
    · cases h
  · split at h
    · obtain ⟨u, z, e, h1, h2⟩ := ha.two
      have e := arr2 e; subst e
      refine step_pure hw h fun a ha => ?_
      obtain ⟨q, k1, k2⟩ := aMinMax_ok (P := P) (w := w) ha h1 h2 ts ty
      exact ⟨q, ok_value k1, k2⟩
    · cases h
  · split at h
    · obtain ⟨u, z, e, h1, h2⟩ := ha.two
      have e := arr2 e; subst e
      refine step_pure hw h fun a ha => ?_
      obtain ⟨q, k1, k2⟩ := aMinMax_ok (P := P) (w := w) ha h1 h2 ts ty
      exact ⟨q, ok_value k1, k2⟩
    · cases h
  · split at h
    · obtain ⟨u, z, e, h1, h2⟩ := ha.two
      have e := arr2 e; subst e
      split at h
      · rename_i t ht
        split at h
        · rename_i s1 hs1
          cases h
          obtain ⟨w', k1, k2⟩ := aDelete_ok hw hs1 h1 h2 ht ty
          exact .inl ⟨r, w', _, Ren.le_refl r, ok_value k1, undefTup, k2⟩
        · cases h
      · cases h
    · cases h
  · split at h
    · obtain ⟨u, e, h1⟩ := ha.uno
      have e := arr1 e; subst e
      split at h
      · rename_i t ht
        split at h
        · rename_i s1 hs1
          cases h
          obtain ⟨w', k1, k2⟩ := aClear_ok hw hs1 h1 ht ty
          exact .inl ⟨r, w', _, Ren.le_refl r, ok_value k1, undefTup, k2⟩
        · cases h
      · cases h
    · cases h
  · cases h

theorem invoke_func (f : FuncId) (cap args : Array Value) : invoke (.fn (.func f) cap) args = callFunc f (args ++ cap) := rfl

theorem aCallFn_ok {C : Ctx} (hC : CtxOk C w0) (hw : WRel w0 r s w) {f : AV} {args : List AV} {v : AV} {s' : St} (h : aCallFn C f args s = some (v, s')) {fv : Value} (hf : VRel r f fv) {vs : List Value} (ha : VsRel r args vs) :
    StepOk C.P w0 r w (do let d ← Deferred.ofValue fv vs.toArray; invoke d.target d.args) v s' ∧
    ∃ g cap as, (∀ w, (Deferred.ofValue fv vs.toArray).run C.P w = .ok { target := .fn (.func g) cap, args := as } w) ∧ StepOk C.P w0 r w (invoke (.fn (.func g) cap) as) v s' := by
  unfold aCallFn at h
  split at h
  · rename_i g first cap
    simp only [VRel] at hf
    obtain ⟨fs, cs, rfl, h1, h2⟩ := hf
    have hall : VsRel r (first ++ args ++ cap) (fs ++ vs ++ cs) := (h1.append ha).append h2
    have e : (fs.toArray ++ vs.toArray) ++ cs.toArray = (fs ++ vs ++ cs).toArray := by simp
    have main : StepOk C.P w0 r w (callFunc g (fs ++ vs ++ cs).toArray) v s' := by
      split at h
      · rename_i ex hex
        obtain ⟨r', w', u, k1, k2, k3, k4⟩ := hC.ext g ex hex _ s v s' h r w _ hw hall
        exact .inl ⟨r', w', u, k1, k2, k3, k4⟩
      · obtain ⟨k1, k2⟩ := hC.call g _ s v s' h r w _ hw hall
        exact .inr (.inr ⟨g, _, k1, k2⟩)
    have main2 : StepOk C.P w0 r w (invoke (.fn (.func g) cs.toArray) (fs.toArray ++ vs.toArray)) v s' := by
      rw [invoke_func, e]; exact main
    refine ⟨?_, g, cs.toArray, fs.toArray ++ vs.toArray, fun w => rfl, main2⟩
    exact main2
  · cases h

theorem op_ok {C : Ctx} (hC : CtxOk C w0) (hw : WRel w0 r s w) {o : Oper} (ho : ORel r d env ρ o.op.operands.toList) {v : AV} {s' : St} (h : aStep C d env s o.op = some (v, s')) :
    StepOk C.P w0 r w (execOp ρ o) v s' := by
  obtain ⟨dst, op, type, pos, after, guard⟩ := o
  simp only at h ho
  unfold aStep at h
  cases op <;> simp only [stepOf] at h <;> try (cases h; done)
  case move x =>
    refine step_pure hw h fun a ha => ⟨ρ x, rfl, ho x (by simp [Op.operands]) a ha⟩
  case assign x =>
    refine step_pure hw h fun a ha => ⟨ρ x, rfl, ho x (by simp [Op.operands]) a ha⟩
  case pick c a b =>
    unfold sPick at h
    split at h
    · rename_i hc
      have hc' := ho c (by simp [Op.operands]) _ hc
      simp only [VRel] at hc'
      refine step_pure hw h fun z hz => ⟨ρ a, ?_, ho a (by simp [Op.operands]) z hz⟩
      simp only [execOp, hc', asBool, Sem.run_bind, Sem.run_pure, Result.andThen_ok, if_true]
    · rename_i hc
      have hc' := ho c (by simp [Op.operands]) _ hc
      simp only [VRel] at hc'
      refine step_pure hw h fun z hz => ⟨ρ b, ?_, ho b (by simp [Op.operands]) z hz⟩
      simp only [execOp, hc', asBool, Sem.run_bind, Sem.run_pure, Result.andThen_ok, Bool.false_eq_true, if_false]
    · cases h
  case alloc t =>
    refine step_new h fun o ho' hn => ?_
    obtain ⟨r', w', u, k1, k2, k3, k4⟩ := aAlloc_ok hw hn ho'
    exact ⟨r', w', u, k1, ok_value k2, k3, k4⟩
  case box t x =>
    unfold sBox at h
    split at h
    · rename_i a ha
      refine step_new h fun o ho' hn => ?_
      obtain ⟨r', w', u, k1, k2, k3, k4⟩ := aBox_ok (P := C.P) hw hn ho' (ho x (by simp [Op.operands]) a ha)
      exact ⟨r', w', u, k1, ok_value k2, k3, k4⟩
    · cases h
  case build t parts =>
    unfold sBuild at h
    split at h
    · rename_i ps hps
      have hp := aParts_ok (ρ := ρ) (r := r) (fun y hy => ho y (by simpa [Op.operands] using hy)) hps
      refine step_pure hw h fun a ha => ?_
      obtain ⟨z, k1, k2⟩ := aBuild_ok (w := w) (parts' := parts.map fun (i, x) => (i, ρ x)) ha (by simpa using hp)
      exact ⟨z, ok_value k1, k2⟩
    · cases h
  case buildSlice t len parts =>
    unfold sBuildSlice at h
    split at h
    · rename_i ps hps
      have hp := aParts_ok (ρ := ρ) (r := r) (fun y hy => ho y (by simpa [Op.operands] using hy)) hps
      refine step_new h fun o ho' hn => ?_
      obtain ⟨r', w', u, k1, k2, k3, k4⟩ := aBuildSlice_ok hw hn (parts' := parts.map fun (i, x) => (i, ρ x)) ho' (by simpa using hp)
      exact ⟨r', w', u, k1, ok_value k2, k3, k4⟩
    · cases h
  case load t x =>
    unfold sLoad at h
    split at h
    · rename_i a ha
      refine step_pure hw h fun z hz => ?_
      obtain ⟨u, k1, k2⟩ := aLoad_ok hw hz (ho x (by simp [Op.operands]) a ha)
      exact ⟨u, ok_value k1, k2⟩
    · cases h
  case store t x y =>
    unfold sStore at h
    split at h
    · rename_i a ha
      split at h
      · rename_i b hb
        refine step_unit h fun s1 hs1 => ?_
        obtain ⟨w', k1, k2⟩ := aStore_ok hw hs1 (ho x (by simp [Op.operands]) a ha) (ho y (by simp [Op.operands]) b hb)
        exact ⟨w', ok_skip k1, k2⟩
      · cases h
    · cases h
  case nilCheck x =>
    unfold sNilCheck at h
    split at h
    · rename_i a ha
      refine step_pure hw h fun z hz => ?_
      exact ⟨ρ x, aNilCheck_ok hz (ho x (by simp [Op.operands]) a ha) dst type pos after guard x rfl⟩
    · cases h
  case binOp op t x y t2 =>
    unfold sBinOp at h
    split at h
    · rename_i a ha
      split at h
      · rename_i b hb
        refine step_pure hw h fun z hz => ?_
        obtain ⟨u, k1, k2⟩ := aBin_ok (w := w) hz (ho x (by simp [Op.operands]) a ha) (ho y (by simp [Op.operands]) b hb)
        exact ⟨u, ok_value k1, k2⟩
      · cases h
    · cases h
  case unOp op t x =>
    unfold sUnOp at h
    split at h
    · rename_i a ha
      refine step_pure hw h fun z hz => ?_
      obtain ⟨u, k1, k2⟩ := aUn_ok (P := C.P) (w := w) hz (ho x (by simp [Op.operands]) a ha)
      exact ⟨u, ok_value k1, k2⟩
    · cases h
  case convert src dst2 x =>
    unfold sConvert at h
    split at h
    · rename_i a ha
      exact aConvert_ok hw h (ho x (by simp [Op.operands]) a ha)
    · cases h
  case makeInterface t x =>
    unfold sMakeInterface at h
    split at h
    · rename_i a ha
      refine step_pure hw h fun z hz => ?_
      obtain ⟨u, k1, k2⟩ := aMkIface_ok (w := w) hz (ho x (by simp [Op.operands]) a ha)
      exact ⟨u, ok_value k1, k2⟩
    · cases h
  case makeFunc fn first cap =>
    unfold sMakeFunc at h
    split at h
    · rename_i a ha
      split at h
      · rename_i c hc
        cases h
        have h1 := aEvals_ok (ρ := ρ) (r := r) (fun y hy => ho y (by simp only [Op.operands, Array.toList_append, List.mem_append]; exact .inl hy)) ha
        have h2 := aEvals_ok (ρ := ρ) (r := r) (fun y hy => ho y (by simp only [Op.operands, Array.toList_append, List.mem_append]; exact .inr hy)) hc
        refine .inl ⟨r, w, .func fn (first.map ρ) (cap.map ρ), Ren.le_refl r, rfl, ?_, hw⟩
        simp only [VRel]
        exact ⟨_, _, by rw [← Array.toList_map, ← Array.toList_map], h1, h2⟩
      · cases h
    · cases h
  case makeMap t r0 =>
    cases r0 with
    | some x => cases h
    | none =>
      refine step_new h fun o ho' hn => ?_
      obtain ⟨r', w', u, k1, k2, k3, k4⟩ := aMkMap_ok hw hn ho'
      exact ⟨r', w', u, k1, ok_value k2, k3, k4⟩
  case makeSlice t l c =>
    unfold sMakeSlice at h
    split at h
    · rename_i a ha
      split at h
      · rename_i b hb
        split at h
        · rename_i o l' c' hm
          refine step_new h fun o' ho' hn => ?_
          cases ho'
          obtain ⟨r', w', u, k1, k2, k3, k4⟩ := aMake_ok hw hn hm (ho l (by simp [Op.operands]) a ha) (ho c (by simp [Op.operands]) b hb)
          exact ⟨r', w', u, k1, ok_value k2, k3, k4⟩
        · cases h
      · cases h
    · cases h
  case slice t x lo hi mx =>
    cases mx with
    | some mx =>
      cases hi with
      | none => cases h
      | some hi =>
        simp only at h
        unfold sSlice3 at h
        split at h
        case h_2 => cases h
        rename_i hn
        have hn : s.next < 2 ^ HD := Nat.le_of_ble_eq_true hn
        split at h
        · rename_i a ha
          split at h
          · rename_i l hl
            split at h
            · rename_i h2 hh
              split at h
              · rename_i m hm
                obtain ⟨l1, l2⟩ := aOpt_ok ho (fun y hy => by subst hy; simp [Op.operands]) hl
                obtain ⟨r', z, k1, k2, k3, k4⟩ := aSlice3_ok (P := C.P) hw hn h (ho x (by simp [Op.operands]) a ha) l1 l2 (ho hi (by simp [Op.operands]) h2 hh) (ho mx (by simp [Op.operands]) m hm)
                exact .inl ⟨r', _, z, k1, ok_value k2, k3, k4⟩
              · cases h
            · cases h
          · cases h
        · cases h
    | none =>
      simp only at h
      unfold sSlice at h
      split at h
      · rename_i a ha
        split at h
        · rename_i l hl
          split at h
          · rename_i h2 hh
            refine step_pure hw h fun z hz => ?_
            obtain ⟨l1, l2⟩ := aOpt_ok ho (fun y hy => by subst hy; simp [Op.operands]) hl
            obtain ⟨h1, h3⟩ := aOpt_ok ho (fun y hy => by subst hy; simp [Op.operands]) hh
            obtain ⟨u, k1, k2⟩ := aSlice_ok hw hz (ho x (by simp [Op.operands]) a ha) l1 l2 h1 h3
            exact ⟨u, ok_value k1, k2⟩
          · cases h
        · cases h
      · cases h
  case fieldAddr t x f =>
    unfold sFieldAddr at h
    split at h
    · rename_i a ha
      refine step_pure hw h fun z hz => ?_
      obtain ⟨u, k1, k2⟩ := aFieldAddr_ok (w := w) hz (ho x (by simp [Op.operands]) a ha)
      exact ⟨u, ok_value k1, k2⟩
    · cases h
  case field t x f =>
    unfold sField at h
    split at h
    · rename_i a ha
      refine step_pure hw h fun z hz => ?_
      obtain ⟨u, k1, k2⟩ := aField_ok (w := w) hz (ho x (by simp [Op.operands]) a ha)
      exact ⟨u, ok_value k1, k2⟩
    · cases h
  case indexAddr t x i =>
    unfold sIndexAddr at h
    split at h
    · rename_i a ha
      split at h
      · rename_i b hb
        refine step_pure hw h fun z hz => ?_
        obtain ⟨u, k1, k2⟩ := aIndexAddr_ok (w := w) hz (ho x (by simp [Op.operands]) a ha) (ho i (by simp [Op.operands]) b hb)
        exact ⟨u, ok_value k1, k2⟩
      · cases h
    · cases h
  case index t x i =>
    unfold sIndex at h
    split at h
    · rename_i a ha
      split at h
      · rename_i b hb
        refine step_pure hw h fun z hz => ?_
        obtain ⟨u, k1, k2⟩ := aIndex_ok (w := w) hz (ho x (by simp [Op.operands]) a ha) (ho i (by simp [Op.operands]) b hb)
        exact ⟨u, ok_value k1, k2⟩
      · cases h
    · cases h
  case lookup t x i ok =>
    unfold sLookup at h
    split at h
    · rename_i a ha
      split at h
      · rename_i b hb
        refine step_pure hw h fun z hz => ?_
        obtain ⟨u, k1, k2⟩ := aLookup_ok hw hz (ho x (by simp [Op.operands]) a ha) (ho i (by simp [Op.operands]) b hb)
        exact ⟨u, ok_value k1, k2⟩
      · cases h
    · cases h
  case mapUpdate t m k x =>
    unfold sMapUpdate at h
    split at h
    · rename_i a ha
      split at h
      · rename_i b hb
        split at h
        · rename_i c hc
          refine step_unit h fun s1 hs1 => ?_
          obtain ⟨w', k1, k2⟩ := aMapUpdate_ok hw hs1 (ho m (by simp [Op.operands]) a ha) (ho k (by simp [Op.operands]) b hb) (ho x (by simp [Op.operands]) c hc)
          exact ⟨w', ok_skip k1, k2⟩
        · cases h
      · cases h
    · cases h
  case mapEntry t m k =>
    unfold sMapEntry at h
    split at h
    · rename_i a ha
      split at h
      · rename_i b hb
        obtain ⟨w', z, k1, k2, k3⟩ := aMapEntry_ok hw h (ho m (by simp [Op.operands]) a ha) (ho k (by simp [Op.operands]) b hb)
        exact .inl ⟨r, w', z, Ren.le_refl r, ok_value k1, k2, k3⟩
      · cases h
    · cases h
  case entryStore t m k x =>
    unfold sEntryStore at h
    split at h
    · rename_i a ha
      split at h
      · rename_i b hb
        split at h
        · rename_i c hc
          refine step_unit h fun s1 hs1 => ?_
          obtain ⟨w', k1, k2⟩ := aEntryStore_ok (P := C.P) (t := t) hw hs1 (ho m (by simp [Op.operands]) a ha) (ho k (by simp [Op.operands]) b hb) (ho x (by simp [Op.operands]) c hc)
          exact ⟨w', ok_skip k1, k2⟩
        · cases h
      · cases h
    · cases h
  case range t x =>
    unfold sRange at h
    split at h
    · rename_i a ha
      refine step_new h fun o ho' hn => ?_
      obtain ⟨r', w', u, k1, k2, k3, k4⟩ := aRange_ok hw hn ho' (ho x (by simp [Op.operands]) a ha)
      exact ⟨r', w', u, k1, ok_value k2, k3, k4⟩
    · cases h
  case entry x =>
    unfold sEntry at h
    split at h
    · rename_i a ha
      refine step_pure hw h fun z hz => ?_
      obtain ⟨u, k1, k2⟩ := aEntry_ok (P := C.P) hw hz (ho x (by simp [Op.operands]) a ha)
      exact ⟨u, ok_value k1, k2⟩
    · cases h
  case extract x i =>
    unfold sExtract at h
    split at h
    · rename_i a ha
      refine step_pure hw h fun z hz => ?_
      obtain ⟨u, k1, k2⟩ := aExtract_ok (P := C.P) (w := w) hz (ho x (by simp [Op.operands]) a ha)
      exact ⟨u, ok_value k1, k2⟩
    · cases h
  case call c =>
    obtain ⟨callee, args, argTypes⟩ := c
    unfold sCall at h
    cases callee with
    | invoke rv m => cases h
    | builtin b =>
      simp only at h
      split at h
      · rename_i as has
        have ha := aEvals_ok (ρ := ρ) (r := r) (fun y hy => ho y (by simp [Op.operands, Call.operands]; exact Array.mem_toList_iff.1 hy)) has
        rw [← Array.toList_map] at ha
        exact aBuiltin_ok hw h ha type _
      · cases h
    | value f =>
      simp only at h
      split at h
      · rename_i fv hfv
        split at h
        · rename_i as has
          have ha := aEvals_ok (ρ := ρ) (r := r) (fun y hy => ho y (by simp [Op.operands, Call.operands]; exact .inr (Array.mem_toList_iff.1 hy))) has
          have := (aCallFn_ok hC hw h (ho f (by simp [Op.operands, Call.operands]) fv hfv) ha).1
          have e : (args.toList.map ρ).toArray = args.map ρ := by apply Array.ext'; simp
          rw [e] at this
          exact this
        · cases h
      · cases h
end
end
end Go.X

/- Regions and code: what the executor says of them is so. -/
namespace Go.X
noncomputable section
set_option linter.unusedVariables false
set_option linter.unusedSimpArgs false

structure ERel (r : Ren) (d n : Nat) (env : T AV) (tmps : Array Value) : Prop where
  size : tmps.size = n
  le : n ≤ 2 ^ d
  at_ : ∀ t, t < 2 ^ d → VRel r (eget d env t) (tmps.getD t undef)

theorem ERel.mono {r r' : Ren} (h : r.le r') {d n env tmps} (he : ERel r d n env tmps) : ERel r' d n env tmps := ⟨he.size, he.le, fun t ht => VRel.mono h _ (he.at_ t ht)⟩

/-- A call that was put off. -/
def DRel (r : Ren) (x : AV × List AV) (y : Deferred) : Prop :=
  ∃ fv vs, VRel r x.1 fv ∧ VsRel r x.2 vs ∧ Deferred.ofValue fv vs.toArray = pure y

structure FRel (r : Ren) (d n : Nat) (fr : Fr) (a : Act) : Prop where
  env : ERel r d n fr.env a.tmps
  dfs : AllRel (DRel r) fr.dfs a.defers

theorem DRel.mono {r r' : Ren} (h : r.le r') {x y} (hd : DRel r x y) : DRel r' x y := by
  obtain ⟨fv, vs, h1, h2, h3⟩ := hd
  exact ⟨fv, vs, VRel.mono h _ h1, VsRel.mono h _ h2, h3⟩
theorem FRel.mono {r r' : Ren} (h : r.le r') {d n fr a} (hf : FRel r d n fr a) : FRel r' d n fr a := ⟨hf.env.mono h, hf.dfs.mono fun _ _ => DRel.mono h⟩

section
variable {P : Program} {w w0 : World} {r : Ren} {s : St} {d n : Nat} {fr : Fr} {a : Act}

theorem aEval_ok {env : T AV} (he : ERel r d n env a.tmps) (x : Operand) {v : AV} (h : aEval d env x = some v) : VRel r v (a.eval x) := by
  cases x <;> simp only [aEval] at h
  · split at h <;> cases h
    rename_i t ht
    exact he.at_ t (Nat.le_of_ble_eq_true ht)
  · split at h
    · rename_i b hb; cases h; exact ofValue_rel hb
    · cases h
  · cases h
  · cases h
    simp only [VRel, Act.eval]
    exact ⟨[], [], rfl, .nil, .nil⟩

theorem ERel.orel {env : T AV} (he : ERel r d n env a.tmps) (xs : List Operand) : ORel r d env a.eval xs := fun x _ v hv => aEval_ok he x hv

theorem eget_put_same (env : T AV) (t : Nat) (v : AV) : eget d (T.set (path d t) env (.v v)) t = v := by
  simp only [eget, T.at_set_same]; rfl
theorem eget_put_other (env : T AV) {t u : Nat} (v : AV) (ht : t < 2 ^ d) (hu : u < 2 ^ d) (h : t ≠ u) : eget d (T.set (path d t) env (.v v)) u = eget d env u := by
  simp only [eget]
  rw [T.at_set_other _ _ _ _ (by rw [path_length, path_length]) fun e => h (path_inj d t u ht hu e)]

theorem ERel.put {env : T AV} (he : ERel r d n env a.tmps) {dst : Option Tmp} (hd : ∀ t, dst = some t → t < n) {v : AV} {u : Value} (hv : VRel r v u) : ERel r d n (put d env dst v) (a.put dst u).tmps := by
  cases dst with
  | none => exact he
  | some t =>
    have ht := hd t rfl
    refine ⟨by simp [Act.put, he.size], he.le, fun x hx => ?_⟩
    simp only [Go.X.put, Act.put]
    by_cases e : t = x
    · subst e
      rw [eget_put_same]
      have : (a.tmps.setIfInBounds t u).getD t undef = u := by
        have : t < a.tmps.size := by rw [he.size]; exact ht
        simp [this]
      rw [this]; exact hv
    · rw [eget_put_other env v (Nat.lt_of_lt_of_le ht he.le) hx e]
      have : (a.tmps.setIfInBounds t u).getD x undef = a.tmps.getD x undef := by
        simp [Array.getElem?_setIfInBounds_ne e]
      rw [this]; exact he.at_ x hx

theorem FRel.put (hf : FRel r d n fr a) {dst : Option Tmp} (hd : ∀ t, dst = some t → t < n) {v : AV} {u : Value} (hv : VRel r v u) : FRel r d n ⟨put d fr.env dst v, fr.dfs⟩ (a.put dst u) := by
  refine ⟨hf.env.put hd hv, ?_⟩
  cases dst <;> exact hf.dfs

theorem bool_shape {x : AV} {b : Bool} (h : VRel r x (.bool b)) : x = .bool b := by
  cases x <;> simp [VRel, Go.undef] at h ⊢
  exact h.symm

theorem wanted_ok {ops : Array Oper} (hf : FRel r d n fr a) (hreg : ∀ o ∈ ops.toList, ∀ t, o.dst = some t → t < n) (o : Oper) : Region.wanted o (yielded ops a.tmps) = aWanted d fr.env ops o := by
  unfold Region.wanted aWanted
  cases o.guard with
  | none => rfl
  | some jw =>
    obtain ⟨j, want⟩ := jw
    simp only
    congr 1
    unfold yielded aYield
    cases ho : (ops[j]?).bind (·.dst) with
    | none => rfl
    | some t =>
      have ht : t < n := by
        cases hj : ops[j]? with
        | none => rw [hj] at ho; cases ho
        | some oj =>
          rw [hj] at ho
          exact hreg oj (Array.mem_toList_iff.2 (Array.mem_of_getElem? hj)) t ho
      have hv := hf.env.at_ t (Nat.lt_of_lt_of_le ht hf.env.le)
      have hts : t < a.tmps.size := by rw [hf.env.size]; exact ht
      have hg : a.tmps[t]? = some (a.tmps.getD t undef) := by simp [hts]
      simp only [Option.bind_some, hg]
      generalize a.tmps.getD t undef = u at hv
      cases hu : u with
      | bool b =>
        rw [hu] at hv
        rw [bool_shape hv]
      | _ =>
        cases he : eget d fr.env t <;> rw [he, hu] at hv <;> simp [VRel, Go.undef] at hv <;> rfl

theorem aDefer_ok {ρ : Operand → Value} {env : T AV} {c : Call} (ho : ORel r d env ρ c.operands.toList) {x : AV × List AV} (h : aDefer d env c = some x) (ty : TypeId) :
    ∃ y, (∀ w, (resolve ρ c ty).run P w = .ok y w) ∧ DRel r x y := by
  obtain ⟨callee, args, argTypes⟩ := c
  unfold aDefer at h
  cases callee with
  | builtin b => cases h
  | invoke rv m => cases h
  | value f =>
    simp only at h
    split at h
    · rename_i fn first cap hfv
      split at h
      · rename_i as has
        cases h
        have ha := aEvals_ok (ρ := ρ) (r := r) (fun y hy => ho y (by simp [Call.operands]; exact .inr (Array.mem_toList_iff.1 hy))) has
        have h1 := ho f (by simp [Call.operands]) _ hfv
        have e : (args.toList.map ρ).toArray = args.map ρ := by apply Array.ext'; simp
        have h1' := h1
        simp only [VRel] at h1'
        obtain ⟨fs, cs, hd, _, _⟩ := h1'
        refine ⟨{ target := .fn fn cs.toArray, args := fs.toArray ++ args.map ρ }, fun w => ?_, ρ f, args.toList.map ρ, h1, ha, ?_⟩
        · simp only [resolve, hd, Deferred.ofValue, Sem.run_pure]
        · rw [hd, e]; rfl
      · cases h
    · cases h

theorem resolve_run {c : Call} {ρ : Operand → Value} {o : Oper} (h : o.op = .defer c) {y : Deferred} (hy : ∀ w, (resolve ρ c o.type).run P w = .ok y w) : (execOp ρ o).run P w = .ok (.defer y) w := by
  obtain ⟨dst, op, type, pos, after, guard⟩ := o
  simp only at h; subst h
  simp only [execOp, Sem.run_bind, hy, Result.andThen_ok, Sem.run_pure]

/-- What comes behind an operation. -/
theorem step_next {o : Oper} {Q : Exit → Act → World → Prop} {next : Act → World → Prop} {v : AV} {s' : St} (hs : StepOk P w0 r w (execOp a.eval o) v s')
    (hn : ∀ r' w' u, r.le r' → VRel r' v u → WRel w0 r' s' w' → next (a.put o.dst u) w') : o.wp P a w next Q := by
  unfold Oper.wp
  rcases hs with ⟨r', w', u, h1, h2, h3, h4⟩ | ⟨w', h1, h2, h3⟩ | ⟨f, args, h1, h2⟩
  · rw [h2, Oper.upon_value]; exact hn r' w' u h1 h3 h4
  · rw [h1, Oper.upon_skip]; exact hn r w' undef (Ren.le_refl r) (by rw [h2]; simp only [VRel]) h3
  · rw [h1, Oper.upon_enter]
    refine h2.mono fun e w' he => ?_
    cases e with
    | returned u =>
      obtain ⟨r', k1, k2, k3⟩ := he
      exact hn r' w' u k1 k2 k3
    | panicked c => exact he.elim
    | outgrown => exact he.elim

theorem regOk_ok {ops : Array Oper} (h : regOk n ops = true) : ∀ o ∈ ops.toList, ∀ t, o.dst = some t → t < n := fun o ho t ht => by
  have := List.all_eq_true.1 h o ho
  rw [ht] at this
  exact Nat.le_of_ble_eq_true this

/-- The operations of a region, in their order. -/
theorem ops_ok {C : Ctx} (hC : CtxOk C w0) {ops : Array Oper} (hreg : ∀ o ∈ ops.toList, ∀ t, o.dst = some t → t < n) {Q : Exit → Act → World → Prop} {fr' : Fr} {s' : St} :
    ∀ (l : List Oper) (i : Nat) (fr : Fr) (s : St) (r : Ren) (a : Act) (w : World), ops.toList.drop i = l → aOps C d ops l fr s = some (fr', s') → FRel r d n fr a → WRel w0 r s w →
      (∀ r' a' w', r.le r' → FRel r' d n fr' a' → WRel w0 r' s' w' → Q .normal a' w') → wpOps C.P ops Q (List.range' i l.length) a w := by
  intro l
  induction l with
  | nil =>
    intro i fr s r a w _ h hf hw hq
    simp only [aOps] at h; cases h
    exact hq r a w (Ren.le_refl r) hf hw
  | cons o l ih =>
    intro i fr s r a w hdrop h hf hw hq
    have hget : ops[i]? = some o := by
      rw [← Array.getElem?_toList]
      have := congrArg (fun m => m[0]?) hdrop
      simpa using this
    have hmem : o ∈ ops.toList := Array.mem_toList_iff.2 (Array.mem_of_getElem? hget)
    have hdrop' : ops.toList.drop (i + 1) = l := by
      rw [← List.drop_drop, hdrop]; rfl
    have hdst := hreg o hmem
    rw [List.length_cons, List.range'_succ]
    simp only [wpOps, hget]
    rw [wanted_ok hf hreg o]
    simp only [aOps] at h
    split at h
    · rename_i hwant
      rw [hwant]
      simp only [Bool.false_eq_true, if_false]
      exact ih (i + 1) _ s r _ w hdrop' h (hf.put hdst (by simp only [VRel])) hw hq
    · rename_i hwant
      rw [hwant]
      simp only [if_true]
      refine .inl ?_
      split at h
      · rename_i c hop
        split at h
        · rename_i x hx
          have ho : ORel r d fr.env a.eval c.operands.toList := hf.env.orel _
          obtain ⟨y, hy1, hy2⟩ := aDefer_ok (P := C.P) ho hx o.type
          unfold Oper.wp
          rw [resolve_run hop hy1, Oper.upon_defer]
          refine ih (i + 1) _ s r _ w hdrop' h ?_ hw hq
          have hf2 : FRel r d n ⟨fr.env, x :: fr.dfs⟩ { a with defers := y :: a.defers } := ⟨hf.env, ⟨hy2, hf.dfs⟩⟩
          exact hf2.put (v := .undef) hdst (by simp only [VRel])
        · cases h
      · split at h
        · rename_i v s1 hstep
          rw [forceOp_eq, St.force_eq, T.force_eq] at h
          have ho : ORel r d fr.env a.eval o.op.operands.toList := hf.env.orel _
          refine step_next (op_ok hC hw ho hstep) fun r' w' u h1 h2 h3 => ?_
          exact ih (i + 1) _ s1 r' _ w' hdrop' h ((hf.mono h1).put hdst h2) h3 fun r'' a'' w'' k1 k2 k3 => hq r'' a'' w'' (Ren.le_trans h1 k1) k2 k3
        · cases h
end
end
end Go.X

/- Code and calls: what the executor says of them is so. -/
namespace Go.X
noncomputable section
set_option linter.unusedVariables false
set_option linter.unusedSimpArgs false

def AExit.toExit : AExit → Exit
  | .normal => .normal
  | .exit id => .exit id
  | .ret => .ret

/-- Where code ends. -/
def EndAt (w0 : World) (d n : Nat) (r : Ren) (x : AExit) (fr : Fr) (s : St) (e : Exit) (a : Act) (w : World) : Prop :=
  e = x.toExit ∧ ∃ r', r.le r' ∧ FRel r' d n fr a ∧ WRel w0 r' s w

/-- A drawn region. -/
def DrawnOk (P : Program) (w0 : World) (d n : Nat) (dr : Array Oper → Fr → St → Option (Fr × St)) : Prop :=
  ∀ id ops fr s fr' s', regOk n ops = true → dr ops fr s = some (fr', s') → ∀ r a w, FRel r d n fr a → WRel w0 r s w → (Code.region id ops true).wp P (EndAt w0 d n r .normal fr' s') a w

theorem wp_loop_n {P : Program} {c : Code} {Q : Exit → Act → World → Prop} (R : Nat → Act → World → Prop) (h0 : ∀ a w, ¬ R 0 a w) (hs : ∀ m a w, R (m + 1) a w → c.wp P (Exit.then (R m) Q) a w) :
    ∀ m a w, R m a w → (Code.loop c).wp P Q a w := by
  intro m a w hR b k cs
  have key : ∀ m a w, R m a w → ∃ e a' w', Q e a' w' ∧ Arrives P (lone (b.at a (.code c :: .inLoop c :: k)) cs w) b k cs e a' w' := by
    intro m
    induction m with
    | zero => intro a w h; exact absurd h (h0 a w)
    | succ m ih =>
      intro a w h
      obtain ⟨e, a₁, w₁, hq, harr⟩ := hs m a w h b (.inLoop c :: k) cs
      cases e with
      | normal =>
        obtain ⟨e₂, a₂, w₂, hq₂, harr₂⟩ := ih a₁ w₁ hq
        exact ⟨e₂, a₂, w₂, hq₂, .of_steps (Steps.trans harr (.one step_inLoop)) harr₂⟩
      | exit id => exact ⟨_, a₁, w₁, hq, .pass (x := .inLoop c) rfl (fun _ _ => .inl (by simp)) harr⟩
      | goto l => exact ⟨_, a₁, w₁, hq, .pass (x := .inLoop c) rfl (fun _ _ => .inl (by simp)) harr⟩
      | ret => exact ⟨_, a₁, w₁, hq, .pass (x := .inLoop c) rfl (fun _ _ => .inl (by simp)) harr⟩
      | panic ch => exact ⟨_, a₁, w₁, hq, .pass (x := .inLoop c) rfl (fun _ _ => .inl (by simp)) harr⟩
      | outgrown => exact ⟨_, a₁, w₁, hq, .pass (x := .inLoop c) rfl (fun _ _ => .inl (by simp)) harr⟩
  obtain ⟨e, a', w', hq, harr⟩ := key m a w hR
  exact ⟨e, a', w', hq, .of_steps (.one step_loop) harr⟩

theorem exec_ok {E : Env} {w0 : World} (hC : CtxOk E.C w0) (hD : DrawnOk E.C.P w0 E.d E.n E.drawn) :
    ∀ (m : Nat) (c : Code) (fr : Fr) (s : St) (x : AExit) (fr' : Fr) (s' : St), exec E m c fr s = some (x, fr', s') →
      ∀ (r : Ren) (a : Act) (w : World), FRel r E.d E.n fr a → WRel w0 r s w → c.wp E.C.P (EndAt w0 E.d E.n r x fr' s') a w := by
  intro m
  induction m using Nat.strongRecOn with
  | _ m ih =>
    intro c fr s x fr' s' h r a w hf hw
    cases m with
    | zero => simp [exec] at h
    | succ m =>
      have ihm := ih m (Nat.lt_succ_self m)
      cases c with
      | skip => simp only [exec, Option.some.injEq, Prod.mk.injEq] at h; obtain ⟨rfl, rfl, rfl⟩ := h; exact wp_skip ⟨rfl, r, Ren.le_refl r, hf, hw⟩
      | label l => simp only [exec, Option.some.injEq, Prod.mk.injEq] at h; obtain ⟨rfl, rfl, rfl⟩ := h; exact wp_label ⟨rfl, r, Ren.le_refl r, hf, hw⟩
      | exit id => simp only [exec, Option.some.injEq, Prod.mk.injEq] at h; obtain ⟨rfl, rfl, rfl⟩ := h; exact wp_exit ⟨rfl, r, Ren.le_refl r, hf, hw⟩
      | ret => simp only [exec, Option.some.injEq, Prod.mk.injEq] at h; obtain ⟨rfl, rfl, rfl⟩ := h; exact wp_ret ⟨rfl, r, Ren.le_refl r, hf, hw⟩
      | goto l => simp [exec] at h
      | refuse y => simp [exec] at h
      | rangeFunc f ps as b => simp [exec] at h
      | region id ops dr =>
        cases dr with
        | false =>
          simp only [exec] at h
          split at h
          · rename_i hreg
            split at h
            · rename_i fr1 s1 hops
              simp only [Option.some.injEq, Prod.mk.injEq] at h; obtain ⟨rfl, rfl, rfl⟩ := h
              refine wp_region ?_
              rw [List.range_eq_range', show ops.size = ops.toList.length by simp]
              exact ops_ok hC (regOk_ok hreg) ops.toList 0 fr s r a w rfl hops hf hw fun r' a' w' h1 h2 h3 => ⟨rfl, r', h1, h2, h3⟩
            · cases h
          · cases h
        | true =>
          simp only [exec] at h
          split at h
          · rename_i hreg
            split at h
            · rename_i fr1 s1 hops
              simp only [Option.some.injEq, Prod.mk.injEq] at h; obtain ⟨rfl, rfl, rfl⟩ := h
              exact hD id ops fr s fr1 s1 hreg hops r a w hf hw
            · cases h
          · cases h
      | seq y z =>
        simp only [exec] at h
        split at h
        · rename_i fr1 s1 h1
          refine wp_seq (wp_mono (ihm y fr s _ _ _ h1 r a w hf hw) fun e a1 w1 he => ?_)
          obtain ⟨rfl, r1, k1, k2, k3⟩ := he
          refine wp_mono (ihm z fr1 s1 _ _ _ h r1 a1 w1 k2 k3) fun e a2 w2 he => ?_
          obtain ⟨rfl, r2, j1, j2, j3⟩ := he
          exact ⟨rfl, r2, Ren.le_trans k1 j1, j2, j3⟩
        · rename_i hne
          refine wp_seq (wp_mono (ihm y fr s _ _ _ h r a w hf hw) fun e a1 w1 he => ?_)
          have he' := he
          obtain ⟨rfl, _⟩ := he
          cases x with
          | normal => exact absurd h (hne _ _)
          | exit id => exact he'
          | ret => exact he'
      | cond y b c =>
        simp only [exec] at h
        split at h
        · rename_i hy
          have := aEval_ok hf.env y hy
          simp only [VRel] at this
          exact wp_cond_true this (ihm b fr s _ _ _ h r a w hf hw)
        · rename_i hy
          have := aEval_ok hf.env y hy
          simp only [VRel] at this
          exact wp_cond_false this (ihm c fr s _ _ _ h r a w hf hw)
        · cases h
      | block id b =>
        simp only [exec] at h
        split at h
        · rename_i j fr1 s1 h1
          refine wp_block (wp_mono (ihm b fr s _ _ _ h1 r a w hf hw) fun e a1 w1 he => ?_)
          obtain ⟨rfl, he⟩ := he
          simp only [AExit.toExit, Exit.inBlock]
          split at h
          · rename_i hj
            have hj : j = id := Nat.eq_of_beq_eq_true hj
            simp only [Option.some.injEq, Prod.mk.injEq] at h; obtain ⟨rfl, rfl, rfl⟩ := h
            rw [if_pos hj]; exact ⟨rfl, he⟩
          · rename_i hj
            have hj : ¬ j = id := fun e => by rw [e, Nat.beq_refl] at hj; cases hj
            simp only [Option.some.injEq, Prod.mk.injEq] at h; obtain ⟨rfl, rfl, rfl⟩ := h
            rw [if_neg hj]; exact ⟨rfl, he⟩
        · rename_i hne
          refine wp_block (wp_mono (ihm b fr s _ _ _ h r a w hf hw) fun e a1 w1 he => ?_)
          have he' := he
          obtain ⟨rfl, _⟩ := he
          cases x with
          | normal => exact he'
          | exit id => exact absurd h (hne _ _ _)
          | ret => exact he'
      | loop b =>
        let R : Nat → Act → World → Prop := fun q a w => q ≤ m + 1 ∧ ∃ fr s r0, exec E q (.loop b) fr s = some (x, fr', s') ∧ r.le r0 ∧ FRel r0 E.d E.n fr a ∧ WRel w0 r0 s w
        refine wp_loop_n R (fun a w hR => ?_) (fun q a w hR => ?_) (m + 1) a w ⟨Nat.le_refl _, fr, s, r, h, Ren.le_refl r, hf, hw⟩
        · obtain ⟨_, fr, s, r0, h0, _⟩ := hR; simp [exec] at h0
        · obtain ⟨hq, fr, s, r0, h0, h1, h2, h3⟩ := hR
          simp only [exec] at h0
          split at h0
          · rename_i fr1 s1 hb
            refine wp_mono (ih q (by omega) b fr s _ _ _ hb r0 a w h2 h3) fun e a1 w1 he => ?_
            obtain ⟨rfl, r1, k1, k2, k3⟩ := he
            exact ⟨by omega, fr1, s1, r1, h0, Ren.le_trans h1 k1, k2, k3⟩
          · rename_i hne
            refine wp_mono (ih q (by omega) b fr s _ _ _ h0 r0 a w h2 h3) fun e a1 w1 he => ?_
            obtain ⟨rfl, r1, k1, k2, k3⟩ := he
            cases x with
            | normal => exact absurd h0 (hne _ _)
            | exit id => exact ⟨rfl, r1, Ren.le_trans h1 k1, k2, k3⟩
            | ret => exact ⟨rfl, r1, Ren.le_trans h1 k1, k2, k3⟩
      | scope b =>
        simp only [exec] at h
        refine wp_scope_straight (wp_mono (ihm b fr s _ _ _ h r a w hf hw) fun e a1 w1 he => ?_)
        have he' := he
        obtain ⟨rfl, _⟩ := he
        cases x <;> exact he'

/-! Calls. -/
theorem eget_empty (d t : Nat) : eget d .e t = .undef := by
  have : ∀ p : List Bool, (T.at p (.e : T AV)) = .e := by
    intro p
    induction p with
    | nil => rfl
    | cons i p ih => rw [T.at_cons]; exact ih
  simp only [eget, this]; rfl

theorem enter_rel {r : Ren} {d n : Nat} (hn : n ≤ 2 ^ d) : ∀ (args : List AV) (vs : List Value) (i : Nat) (env : T AV) (tmps : Array Value), VsRel r args vs → i + args.length ≤ n → ERel r d n env tmps →
    ERel r d n (enter d args i env) ((List.range' i vs.length).zip vs |>.foldl (fun t (x : Nat × Value) => t.setIfInBounds x.1 x.2) tmps)
  | [], vs, i, env, tmps, h, _, he => by simp only [VsRel] at h; subst h; exact he
  | a :: args, vs, i, env, tmps, h, hl, he => by
    simp only [VsRel] at h
    obtain ⟨v, rest, rfl, h1, h2⟩ := h
    simp only [List.length_cons] at hl
    simp only [enter, List.length_cons, List.range'_succ, List.zip_cons_cons, List.foldl_cons]
    refine enter_rel hn args rest (i + 1) _ _ h2 (by omega) ?_
    have := ERel.put (a := ⟨tmps, []⟩) (n := n) (d := d) he (dst := some i) (fun t ht => by cases ht; exact (by omega : (i : Nat) < n)) h1
    exact this

theorem fill_args : ∀ (vs : List Value) (i : Nat) (tmps : Array Value), i + vs.length ≤ tmps.size →
    ((List.range' i vs.length).zip vs).foldl (fun t (x : Nat × Value) => t.setIfInBounds x.1 x.2) tmps = (tmps.toList.take i ++ vs ++ tmps.toList.drop (i + vs.length)).toArray
  | [], i, tmps, h => by simp
  | v :: vs, i, tmps, h => by
    simp only [List.length_cons] at h
    simp only [List.length_cons, List.range'_succ, List.zip_cons_cons, List.foldl_cons]
    rw [fill_args vs (i + 1) _ (by simp; omega)]
    congr 1
    refine List.ext_getElem? fun k => ?_
    simp only [Array.toList_setIfInBounds, List.getElem?_append, List.length_append, List.length_take, List.length_set, List.getElem?_take, List.getElem?_drop, List.getElem?_set, List.length_cons, List.getElem?_cons, Array.length_toList]
    grind

theorem start_rel {r : Ren} {n : Nat} (hn : n ≤ 2 ^ depthOf n) {args : List AV} {vs : List Value} (h : VsRel r args vs) (hl : args.length ≤ n) :
    FRel r (depthOf n) n ⟨enter (depthOf n) args 0 .e, []⟩ { tmps := vs.toArray ++ Array.replicate (n - vs.toArray.size) undef, defers := [] } := by
  have hv := h.length
  refine ⟨?_, trivial⟩
  have base : ERel r (depthOf n) n .e (Array.replicate n undef) := ⟨by simp, hn, fun t ht => by
    rw [eget_empty]; simp only [VRel]
    by_cases h : t < n <;> simp [h]⟩
  have := enter_rel hn args vs 0 .e _ h (by omega) base
  rw [fill_args vs 0 _ (by simp; omega)] at this
  have e : (([] : List Value) ++ vs ++ (Array.replicate n undef).toList.drop (0 + vs.length)).toArray = vs.toArray ++ Array.replicate (n - vs.toArray.size) undef := by
    apply Array.ext'
    simp
  simp only [List.take_zero] at this
  rw [e] at this
  exact this

theorem aResult_ok {P : Program} {w w0 : World} {r : Ren} {s : St} {d n : Nat} {env : T AV} {a : Act} (hw : WRel w0 r s w) (he : ERel r d n env a.tmps) : ∀ {l : List ResultVar} {vs : List AV}, aResult P d env s l = some vs →
    ∃ us : List Value, (l.mapM (m := Sem) fun | .tmp t => pure (a.tmps.getD t undef) | .cell x t => do loadVar t (← asAddr (a.tmps.getD x undef))).run P w = .ok us w ∧ VsRel r vs us
  | [], vs, h => by simp [aResult] at h; subst h; exact ⟨[], rfl, .nil⟩
  | .tmp t :: l, vs, h => by
    simp only [aResult] at h
    split at h
    · rename_i m hm
      split at h <;> cases h
      rename_i ht
      obtain ⟨us, h1, h2⟩ := aResult_ok hw he hm
      refine ⟨a.tmps.getD t undef :: us, ?_, .cons (he.at_ t (Nat.le_of_ble_eq_true ht)) h2⟩
      rw [List.mapM_cons]
      simp only [Sem.run_bind, Sem.run_pure, Result.andThen_ok, h1]
    · cases h
  | .cell t ty :: l, vs, h => by
    simp only [aResult] at h
    split at h
    · rename_i m hm
      split at h
      · rename_i ht
        split at h <;> cases h
        rename_i v hv
        obtain ⟨us, h1, h2⟩ := aResult_ok hw he hm
        have hx := he.at_ t (Nat.le_of_ble_eq_true ht)
        obtain ⟨z, k1, k2⟩ := aLoad_ok (P := P) hw hv hx
        have hload : (do loadVar ty (← asAddr (a.tmps.getD t undef)) : Sem Value).run P w = .ok z w := by
          have : ∃ ad, a.tmps.getD t undef = .pointer (some ad) := by
            unfold aLoad at hv
            split at hv
            · rename_i b o hb
              rw [hb] at hx; simp only [VRel] at hx
              obtain ⟨p, _, e⟩ := hx; exact ⟨_, e⟩
            · cases hv
          obtain ⟨ad, e⟩ := this
          rw [e] at k1 ⊢
          exact k1
        refine ⟨z :: us, ?_, .cons k2 h2⟩
        rw [List.mapM_cons]
        rw [Sem.run_bind, hload]
        simp only [Result.andThen_ok, Sem.run_bind, h1, Sem.run_pure]
      · cases h
    · cases h

theorem results_ok {P : Program} {w w0 : World} {r : Ren} {s : St} {d n : Nat} {env : T AV} {a : Act} {fn : Func} (hw : WRel w0 r s w) (he : ERel r d n env a.tmps) {l : List AV} (h : aResult P d env s fn.results.toList = some l) :
    ∃ u, (results fn a.tmps).run P w = .ok u w ∧ VRel r (tupled l) u := by
  obtain ⟨us, h1, h2⟩ := aResult_ok (P := P) hw he h
  have hm : (fn.results.mapM (m := Sem) fun | .tmp t => pure (a.tmps.getD t undef) | .cell x t => do loadVar t (← asAddr (a.tmps.getD x undef))).run P w = .ok us.toArray w := by
    rw [Array.mapM_eq_mapM_toList, Sem.run_map, h1]; rfl
  refine ⟨if h : us.toArray.size = 1 then us.toArray[0] else .tuple us.toArray, ?_, ?_⟩
  · unfold results
    rw [Sem.run_bind]
    exact (congrArg (fun x => Result.andThen x fun vs w' => (pure (if h : vs.size = 1 then vs[0] else .tuple vs) : Sem Value).run P w') hm).trans rfl
  · have hl := h2.length
    unfold tupled
    split
    · rename_i v
      obtain ⟨u, rfl, hu⟩ := h2.uno
      simpa using hu
    · rename_i hne
      have : ¬ us.toArray.size = 1 := by
        intro e
        rw [List.size_toArray, hl] at e
        match l, e with
        | [v], _ => exact hne v rfl
      rw [dif_neg this]
      simp only [VRel]; exact ⟨us, rfl, h2⟩

/-- A function's code, entered. -/
theorem body_ok {C : Ctx} {w0 : World} (hC : CtxOk C w0) {dr : Ctx → Nat → Nat → Array Oper → Fr → St → Option (Fr × St)} (hD : ∀ d n, DrawnOk C.P w0 d n (dr C d n)) {fuel : Nat} {plain : Bool} {f : Nat} {args : List AV} {s : St} {v : AV} {s' : St}
    (h : aBody C dr fuel plain f args s = some (v, s')) {r : Ren} {w : World} {vs : List Value} (hw : WRel w0 r s w) (hv : VsRel r args vs) :
    ∃ fn c fr s1 l, C.P.funcs[f]? = some fn ∧ fn.body = some c ∧ (plain = true → fr.dfs = []) ∧ aDefers C fr.dfs s1 = some s' ∧ aResult C.P (depthOf fn.ntmps) fr.env s' fn.results.toList = some l ∧ v = tupled l ∧
      c.wp C.P (fun e a w' => (e = .normal ∨ e = .ret) ∧ ∃ r', r.le r' ∧ FRel r' (depthOf fn.ntmps) fn.ntmps fr a ∧ WRel w0 r' s1 w') { tmps := vs.toArray ++ Array.replicate (fn.ntmps - vs.toArray.size) undef, defers := [] } w := by
  unfold aBody at h
  split at h
  · rename_i fn hfn
    split at h
    · rename_i c hc
      split at h
      · rename_i hle
        simp only [Bool.and_eq_true] at hle
        have l1 := Nat.le_of_ble_eq_true hle.1
        have l2 := Nat.le_of_ble_eq_true hle.2
        split at h
        · cases h
        · rename_i x fr s1 hne hex
          have hx := exec_ok (E := ⟨C, depthOf fn.ntmps, fn.ntmps, dr C (depthOf fn.ntmps) fn.ntmps⟩) hC (hD _ _) fuel c _ s x fr s1 hex r _ w (start_rel l2 hv l1) hw
          split at h
          · rename_i hpl
            split at h
            · rename_i s2 hdf
              split at h
              · rename_i l hl
                cases h
                refine ⟨fn, c, fr, s1, l, hfn, hc, fun hp => ?_, hdf, hl, rfl, wp_mono hx fun e a w' he => ?_⟩
                · subst hp; exact List.isEmpty_iff.1 hpl
                · obtain ⟨rfl, he⟩ := he
                  refine ⟨?_, he⟩
                  cases x with
                  | normal => exact .inl rfl
                  | exit id => exact (hne id rfl).elim
                  | ret => exact .inr rfl
              · cases h
            · cases h
          · cases h
        · cases h
      · cases h
    · cases h
  · cases h

/-- The names are none that the model answers itself. -/
def NamesOk (P : Program) : Prop := ∀ (f : Nat) (fn : Func), P.funcs[f]? = some fn → fn.name ≠ "runtime.NumGoroutine"

theorem callFunc_run {P : Program} (hN : NamesOk P) {f : Nat} {fn : Func} {c : Code} (hf : P.funcs[f]? = some fn) (hc : fn.body = some c) (args : Array Value) (w : World) : (callFunc f args).run P w = .ok (.enter f args) w := by
  simp [callFunc, hf, hN f fn hf, hc]

theorem AllRel.cons_inv {α β : Type} {R : α → β → Prop} {a : α} {l : List α} {m : List β} (h : AllRel R (a :: l) m) : ∃ b m', m = b :: m' ∧ R a b ∧ AllRel R l m' := by
  cases m with
  | nil => exact h.elim
  | cons b m => exact ⟨b, m, rfl, h.1, h.2⟩

/-- What the deferred calls may be. -/
structure DOk (C : Ctx) (w0 : World) : Prop where
  dcall : ∀ f args s v s', C.dcall f args s = some (v, s') → ∀ r w vs, WRel w0 r s w → VsRel r args vs →
    (callFunc f vs.toArray).run C.P w = .ok (.enter f vs.toArray) w ∧ CallsD C.P f vs.toArray .returning w fun e u w' => u = .returning ∧ CallPost w0 r v s' e w'

theorem leaves_ok {C : Ctx} {w0 : World} (hD : DOk C w0) {fn : Func} {a : Act} {R : Ending → World → Prop} {s' : St} : ∀ (dfs : List (AV × List AV)) (ds : List Deferred) (s : St) (r : Ren) (w : World), aDefers C dfs s = some s' → AllRel (DRel r) dfs ds → WRel w0 r s w →
    (∀ r' w', r.le r' → WRel w0 r' s' w' → ∃ v, (results fn a.tmps).run C.P w' = .ok v w' ∧ R (.returned v) w') → Leaves C.P fn a.tmps R ds .returning w
  | [], ds, s, r, w, h, hd, hw, hq => by
    simp only [aDefers] at h; cases h
    cases ds with
    | nil => exact hq r w (Ren.le_refl r) hw
    | cons _ _ => exact hd.elim
  | (f, as) :: dfs, ds, s, r, w, h, hd, hw, hq => by
    obtain ⟨y, ds', rfl, hy, hds⟩ := hd.cons_inv
    simp only [aDefers] at h
    split at h
    · rename_i g first cap
      split at h
      · rename_i v s1 hcall
        obtain ⟨fv, vs, h1, h2, h3⟩ := hy
        simp only [VRel] at h1
        obtain ⟨fs, cs, rfl, k1, k2⟩ := h1
        have hall : VsRel r (first ++ as ++ cap) (fs ++ vs ++ cs) := (k1.append h2).append k2
        obtain ⟨j1, j2⟩ := hD.dcall g _ s v s1 hcall r w _ hw hall
        have hy' : y = { target := .fn (.func g) cs.toArray, args := fs.toArray ++ vs.toArray } := by
          have : (Deferred.ofValue (.func (.func g) fs.toArray cs.toArray) vs.toArray).run C.P w = .ok y w := by rw [h3]; rfl
          simp only [Deferred.ofValue, Sem.run_pure] at this
          injection this with this; exact this.symm
        subst hy'
        have e : (fs.toArray ++ vs.toArray) ++ cs.toArray = (fs ++ vs ++ cs).toArray := by simp
        refine leaves_cons (by simp) (f := g) (args := (fs ++ vs ++ cs).toArray) (by rw [invoke_func, e]; exact j1) ?_
        refine j2.mono fun en u w' he => ?_
        obtain ⟨rfl, he⟩ := he
        cases en with
        | returned z =>
          obtain ⟨r1, i1, i2, i3⟩ := he
          exact leaves_ok hD dfs ds' s1 r1 w' h (hds.mono fun _ _ => DRel.mono i1) i3 fun r' w'' q1 q2 => hq r' w'' (Ren.le_trans i1 q1) q2
        | panicked c => exact he.elim
        | outgrown => exact he.elim
      · cases h
    · cases h

/-- A call of a function with code. -/
theorem body_calls {C : Ctx} {w0 : World} (hN : NamesOk C.P) (hC : CtxOk C w0) (hDk : DOk C w0) {dr : Ctx → Nat → Nat → Array Oper → Fr → St → Option (Fr × St)} (hD : ∀ d n, DrawnOk C.P w0 d n (dr C d n)) {fuel : Nat} {plain : Bool} {f : Nat} {args : List AV} {s : St} {v : AV} {s' : St}
    (h : aBody C dr fuel plain f args s = some (v, s')) {r : Ren} {w : World} {vs : List Value} (hw : WRel w0 r s w) (hv : VsRel r args vs) :
    (callFunc f vs.toArray).run C.P w = .ok (.enter f vs.toArray) w ∧ Calls C.P f vs.toArray w (CallPost w0 r v s') ∧
      (plain = true → CallsD C.P f vs.toArray .returning w fun e u w' => u = .returning ∧ CallPost w0 r v s' e w') := by
  obtain ⟨fn, c, fr, s1, l, hfn, hc, hpl, hdf, hl, rfl, hwp⟩ := body_ok hC hD h hw hv
  refine ⟨callFunc_run hN hfn hc _ w, ?_, fun hp => ?_⟩
  · refine calls_of_wp_defers hfn hc (wp_mono hwp fun e a w' he => ?_)
    obtain ⟨he, r', k1, k2, k3⟩ := he
    have hq : ∀ r'' w'', r'.le r'' → WRel w0 r'' s' w'' → ∃ z, (results fn a.tmps).run C.P w'' = .ok z w'' ∧ CallPost w0 r (tupled l) s' (.returned z) w'' := fun r'' w'' q1 q2 => by
      obtain ⟨z, z1, z2⟩ := results_ok (P := C.P) q2 (k2.env.mono q1) hl
      exact ⟨z, z1, r'', Ren.le_trans k1 q1, z2, q2⟩
    have := leaves_ok hDk fr.dfs a.defers s1 r' w' hdf k2.dfs k3 hq
    rcases he with rfl | rfl <;> exact this
  · have hd0 := hpl hp
    refine callsD_of_wp hfn hc (wp_mono hwp fun e a w' he => ?_)
    obtain ⟨he, r', k1, k2, k3⟩ := he
    rw [hd0] at hdf
    simp only [aDefers] at hdf; cases hdf
    have had : a.defers = [] := by
      have := k2.dfs
      rw [hd0] at this
      cases hh : a.defers with
      | nil => rfl
      | cons _ _ => rw [hh] at this; exact this.elim
    obtain ⟨z, z1, z2⟩ := results_ok (P := C.P) k3 k2.env hl
    have : a.defers = [] ∧ ∃ v, (results fn a.tmps).run C.P w' = .ok v w' ∧ CallPost w0 r (tupled l) s' (.returned v) w' := ⟨had, z, z1, r', k1, z2, k3⟩
    rcases he with rfl | rfl <;> exact this

/-- What is known already is so. -/
def KnownOk (P : Program) (w0 : World) (known : Nat → Option (List AV → St → Option (AV × St))) : Prop :=
  ∀ f k, known f = some k → ∀ args s v s', k args s = some (v, s') → ∀ r w vs, WRel w0 r s w → VsRel r args vs →
    (callFunc f vs.toArray).run P w = .ok (.enter f vs.toArray) w ∧ Calls P f vs.toArray w (CallPost w0 r v s')
def ExtOk (P : Program) (w0 : World) (ext : Nat → Option (List AV → St → Option (AV × St))) : Prop :=
  ∀ f e, ext f = some e → ∀ args s v s', e args s = some (v, s') → ∀ r w vs, WRel w0 r s w → VsRel r args vs →
    ∃ r' w' u, r.le r' ∧ (callFunc f vs.toArray).run P w = .ok (.value u) w' ∧ VRel r' v u ∧ WRel w0 r' s' w'

/-- Every call that the executor answers. -/
theorem aCall_ok {P : Program} {w0 : World} (hN : NamesOk P) {ext known : Nat → Option (List AV → St → Option (AV × St))} (hE : ExtOk P w0 ext) (hK : KnownOk P w0 known)
    {dr : Ctx → Nat → Nat → Array Oper → Fr → St → Option (Fr × St)} (hD : ∀ C : Ctx, C.P = P → CtxOk C w0 → ∀ d n, DrawnOk P w0 d n (dr C d n)) {fuel : Nat} :
    ∀ (m : Nat) (plain : Bool) (f : Nat) (args : List AV) (s : St) (v : AV) (s' : St), aCall P ext known dr fuel m plain f args s = some (v, s') → ∀ r w vs, WRel w0 r s w → VsRel r args vs →
      (callFunc f vs.toArray).run P w = .ok (.enter f vs.toArray) w ∧ Calls P f vs.toArray w (CallPost w0 r v s') ∧
      (plain = true → CallsD P f vs.toArray .returning w fun e u w' => u = .returning ∧ CallPost w0 r v s' e w') := by
  intro m
  induction m with
  | zero => intro plain f args s v s' h; simp [aCall] at h
  | succ m ih =>
    intro plain f args s v s' h r w vs hw hv
    have hC : CtxOk ⟨P, aCall P ext known dr fuel m false, aCall P ext known dr fuel m true, ext⟩ w0 := ⟨fun f args s v s' h r w vs hw hv => by
      obtain ⟨k1, k2, _⟩ := ih false f args s v s' h r w vs hw hv
      exact ⟨k1, k2⟩, fun f e hfe => hE f e hfe⟩
    have hDk : DOk ⟨P, aCall P ext known dr fuel m false, aCall P ext known dr fuel m true, ext⟩ w0 := ⟨fun f args s v s' h r w vs hw hv => by
      obtain ⟨k1, _, k3⟩ := ih true f args s v s' h r w vs hw hv
      exact ⟨k1, k3 rfl⟩⟩
    simp only [aCall] at h
    split at h
    · exact body_calls hN hC hDk (hD _ rfl hC) h hw hv
    · split at h
      · rename_i k hk
        obtain ⟨k1, k2⟩ := hK f k hk args s v s' h r w vs hw hv
        exact ⟨k1, k2, fun h => by cases h⟩
      · exact body_calls hN hC hDk (hD _ rfl hC) h hw hv
end
end Go.X
