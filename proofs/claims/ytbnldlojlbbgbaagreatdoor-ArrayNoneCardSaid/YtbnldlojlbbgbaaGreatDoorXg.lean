/- A drawn region: the proof. -/
import Derived.Test.YtbnldlojlbbgbaaGreatDoorXf
import Derived.Laws.LoneSync
import Derived.Lib.Bytealg
set_option linter.unusedVariables false
set_option linter.unusedSimpArgs false

namespace Go.X
noncomputable section
set_option linter.unusedVariables false
set_option linter.unusedSimpArgs false

theorem effsOf_mem {P : Program} {ops : Array Oper} : ∀ (l : List Oper) (i : Nat), ops.toList.drop i = l → ∀ e, e ∈ effsOf P l i ↔ i ≤ e ∧ ∃ o, ops[e]? = some o ∧ cls P o.op = 2
  | [], i, hd, e => by
    simp only [effsOf, List.not_mem_nil, false_iff]
    rintro ⟨h1, o, h2, _⟩
    have : (ops.toList.drop i)[e - i]? = some o := by rw [List.getElem?_drop, show i + (e - i) = e by omega, Array.getElem?_toList]; exact h2
    rw [hd] at this; simp at this
  | o :: l, i, hd, e => by
    have hget : ops[i]? = some o := by
      rw [← Array.getElem?_toList]
      have := congrArg (fun m => m[0]?) hd
      simpa using this
    have hd' : ops.toList.drop (i + 1) = l := by rw [← List.drop_drop, hd]; rfl
    have ih := effsOf_mem (P := P) l (i + 1) hd' e
    simp only [effsOf]
    split
    · rename_i hc
      rw [List.mem_cons]
      constructor
      · rintro (rfl | h)
        · exact ⟨Nat.le_refl _, o, hget, hc⟩
        · obtain ⟨h1, h2⟩ := ih.1 h; exact ⟨by omega, h2⟩
      · rintro ⟨h1, h2⟩
        by_cases he : e = i
        · exact .inl he
        · exact .inr (ih.2 ⟨by omega, h2⟩)
    · rename_i hc
      constructor
      · intro h; obtain ⟨h1, h2⟩ := ih.1 h; exact ⟨by omega, h2⟩
      · rintro ⟨h1, p, hp, hc2⟩
        refine ih.2 ⟨?_, p, hp, hc2⟩
        have : e ≠ i := fun he => by subst he; rw [hget] at hp; injection hp with hp; subst hp; exact hc hc2
        omega

theorem allOk_ok {V : Over} {effs : List Nat} : ∀ (l : List Oper) (i : Nat), V.ops.toList.drop i = l → allOk V effs l i = true → ∀ k p, i ≤ k → V.ops[k]? = some p → opOk V effs k p = true
  | [], i, hd, _, k, p, hk, hp => by
    exfalso
    have : V.ops.toList[k]? = some p := by rw [Array.getElem?_toList]; exact hp
    have h2 : (V.ops.toList.drop i)[k - i]? = some p := by rw [List.getElem?_drop, show i + (k - i) = k by omega]; exact this
    rw [hd] at h2; simp at h2
  | o :: l, i, hd, h, k, p, hk, hp => by
    have hget : V.ops[i]? = some o := by
      rw [← Array.getElem?_toList]
      have := congrArg (fun m => m[0]?) hd
      simpa using this
    have hd' : V.ops.toList.drop (i + 1) = l := by rw [← List.drop_drop, hd]; rfl
    simp only [allOk] at h
    split at h
    · rename_i hs
      by_cases hik : k = i
      · subst hik
        rw [hget] at hp; injection hp with hp; subst hp
        exact hs
      · exact allOk_ok l (i + 1) hd' h k p (by omega) hp
    · cases h

theorem idsOf_mem {V : Over} : ∀ {l : List Oper} {o : Oper} {u : Tmp}, o ∈ l → cls V.C.P o.op = 1 → aWanted V.d V.envF V.ops o = true → o.dst = some u → idOf (eget V.d V.envF u) ∈ idsOf V l
  | [], o, u, h, _, _, _ => by cases h
  | p :: l, o, u, h, hc, hw, hu => by
    cases h with
    | head => simp only [idsOf, hc, hw, hu]; exact List.mem_cons_self ..
    | tail _ h =>
      have ih := idsOf_mem h hc hw hu
      simp only [idsOf]
      split
      · split
        · split
          · exact List.mem_cons_of_mem _ ih
          · exact ih
        · exact ih
      · exact ih

theorem distinct_ok {V : Over} : ∀ {l : List Oper}, distinctB (idsOf V l) = true → ∀ (i j : Nat) o p u v, i < j → l[i]? = some o → l[j]? = some p → cls V.C.P o.op = 1 → cls V.C.P p.op = 1 → aWanted V.d V.envF V.ops o = true → aWanted V.d V.envF V.ops p = true →
    o.dst = some u → p.dst = some v → idOf (eget V.d V.envF u) ≠ idOf (eget V.d V.envF v)
  | [], _, i, j, o, p, u, v, _, h, _, _, _, _, _, _, _ => by simp at h
  | x :: l, hd, i, j, o, p, u, v, hij, ho, hp, c1, c2, w1, w2, d1, d2 => by
    have hp' : l[j - 1]? = some p := by
      have : j = (j - 1) + 1 := by omega
      rw [this] at hp; simpa using hp
    have tail : distinctB (idsOf V l) = true := by
      simp only [idsOf] at hd
      split at hd
      · split at hd
        · split at hd
          · simp only [distinctB] at hd
            split at hd
            · exact hd
            · cases hd
          · exact hd
        · exact hd
      · exact hd
    cases i with
    | zero =>
      simp at ho; subst ho
      simp only [idsOf, c1, w1, d1, distinctB] at hd
      split at hd
      · rename_i hall
        have := List.all_eq_true.1 hall _ (idsOf_mem (List.mem_of_getElem? hp') c2 w2 d2)
        intro e
        rw [e, Nat.beq_refl] at this; cases this
      · cases hd
    | succ i => exact distinct_ok tail i (j - 1) o p u v (by omega) (by simpa using ho) hp' c1 c2 w1 w2 d1 d2

theorem compatN_ok {ops : Array Oper} {i m : Nat} : ∀ {l : List Nat}, (∀ e ∈ l, (Bef ops e i → Nat.testBit m e = true) ∧ (Bef ops i e → Nat.testBit m e = false)) → compatN (masks ops) i m l = true
  | [], _ => rfl
  | e :: l, h => by
    obtain ⟨h1, h2⟩ := h e (List.mem_cons_self ..)
    simp only [compatN]
    have ih := compatN_ok (ops := ops) (i := i) (m := m) (l := l) fun e' he' => h e' (List.mem_cons_of_mem _ he')
    cases hb1 : before (masks ops) e i <;> cases hb2 : before (masks ops) i e
    · simp only; exact ih
    · have := h2 (before_ok hb2); simp only [this, Bool.not_false]; exact ih
    · have := h1 (before_ok hb1); simp only [this]; exact ih
    · have e1 := h1 (before_ok hb1); have e2 := h2 (before_ok hb2); rw [e1] at e2; cases e2

theorem nodesB_ok {B effs : List Nat} {i : Nat} {f : St → Bool} : ∀ {l : List Node}, nodesB B effs i f l = true → ∀ a ∈ l, compatN B i a.mask effs = true → f a.st = true
  | [], _, a, h, _ => by cases h
  | b :: l, h, a, ha, hc => by
    simp only [nodesB] at h
    split at h
    · rename_i hb
      cases ha with
      | head => rw [hc] at hb; exact hb
      | tail _ ha => exact nodesB_ok h a ha hc
    · cases h

theorem coverB_ok {effs : List Nat} {B : List Nat} {edges : List Edg} {j : Nat} : ∀ {l : List Node} {k : Nat}, coverB effs B edges j l k = true → ∀ q a, l[q]? = some a → Nat.testBit a.mask j = false → compatN B j a.mask effs = true → ∃ x ∈ edges, x.frm = k + q ∧ x.idx = j
  | [], k, _, q, a, h, _, _ => by simp at h
  | b :: l, k, h, q, a, ha, hb, hc => by
    simp only [coverB] at h
    split at h
    · rename_i hh
      cases q with
      | zero =>
        simp at ha; subst ha
        rw [hb, hc] at hh
        simp only at hh
        obtain ⟨x, hx1, hx2⟩ := List.any_eq_true.1 hh
        simp only [Bool.and_eq_true] at hx2
        exact ⟨x, hx1, Nat.eq_of_beq_eq_true hx2.1, Nat.eq_of_beq_eq_true hx2.2⟩
      | succ q =>
        obtain ⟨x, h1, h2, h3⟩ := coverB_ok h q a (by simpa using ha) hb hc
        exact ⟨x, h1, by omega, h3⟩
    · cases h

structure GraphOk (V : Over) (s' : St) : Prop where
  start : ∃ a, V.nodes[0]? = some a ∧ a.mask = 0 ∧ Grow V.s0 a.st
  run : ∀ x ∈ V.edges, ∃ o a b, V.ops[x.idx]? = some o ∧ cls V.C.P o.op = 2 ∧ V.nodes[x.frm]? = some a ∧ V.nodes[x.to]? = some b ∧ b.mask = a.mask ||| 2 ^ x.idx ∧ Grow x.post b.st ∧
    ((aWanted V.d x.env V.ops o = true ∧ aStep V.C V.d x.env a.st o.op = some (x.v, x.post)) ∨ (aWanted V.d x.env V.ops o = false ∧ x.v = .undef ∧ x.post = a.st))
  final : ∀ a ∈ V.nodes, (∀ e ∈ effsOf V.C.P V.ops.toList 0, Nat.testBit a.mask e = true) → a.st = s'

theorem sameDst_ok {d : Nat} {env : T AV} {dst : Option Tmp} {v : AV} (h : sameDst d env dst v = true) : ∀ u, dst = some u → v = eget d env u := fun u hu => by
  subst hu; exact AV.beq_eq _ _ h

theorem eget_late {d : Nat} {env0 envF : T AV} : ∀ {l : List Nat} {u : Nat}, (∀ x ∈ l, x < 2 ^ d) → u < 2 ^ d → eget d (envLate d env0 envF l) u = if u ∈ l then eget d env0 u else eget d envF u
  | [], u, _, _ => by simp [envLate]
  | x :: l, u, hl, hu => by
    simp only [envLate]
    by_cases hxu : x = u
    · subst hxu; rw [eget_put_same, if_pos (List.mem_cons_self ..)]
    · rw [eget_put_other _ _ (hl x (List.mem_cons_self ..)) hu hxu, eget_late (fun y hy => hl y (List.mem_cons_of_mem _ hy)) hu]
      simp [Ne.symm hxu]

/-- What holds while the operations are on their way. -/
structure Inv (V : Over) (w0 : World) (n : Nat) (r0 : Ren) (dfs : List (AV × List AV)) (listed : Array Bool) (q : Nat) (a : Node) (r : Ren) (act : Act) (w : World) : Prop where
  size : listed.size = V.ops.size
  closed : Closed V.ops listed
  node : V.nodes[q]? = some a
  effs : ∀ e ∈ effsOf V.C.P V.ops.toList 0, (listed.getD e false = true ↔ Nat.testBit a.mask e = true)
  ren : r0.le r
  wrel : WRel w0 r a.st w
  tsize : act.tmps.size = n
  done : ∀ (i : Nat) o u, V.ops[i]? = some o → o.dst = some u → listed.getD i false = true → VRel r (eget V.d V.envF u) (act.tmps.getD u undef)
  todo : ∀ u, u < 2 ^ V.d → (∀ (i : Nat) o, V.ops[i]? = some o → o.dst = some u → listed.getD i false = false) → VRel r (eget V.d V.env0 u) (act.tmps.getD u undef)
  dfs : AllRel (DRel r) dfs act.defers
  ids : ∀ (i : Nat) o u, V.ops[i]? = some o → cls V.C.P o.op = 1 → aWanted V.d V.envF V.ops o = true → o.dst = some u → listed.getD i false = false → r (idOf (eget V.d V.envF u)) = none
end
end Go.X

/- A drawn region: each step keeps what holds; so every order comes to the same. -/
namespace Go.X
noncomputable section
set_option linter.unusedVariables false
set_option linter.unusedSimpArgs false

mutual
theorem AV.beq_refl : ∀ a : AV, AV.beq a a = true
  | .undef | .nilPtr | .nilSlice | .emptySl | .nilMap | .nilFunc | .nilIface => rfl
  | .bool b => by simp [AV.beq]
  | .int k n => by simp [AV.beq]
  | .str n x => by simp [AV.beq]
  | .ptr b o => by simp [AV.beq]
  | .slice b o l c => by simp [AV.beq]
  | .map b => by simp [AV.beq]
  | .func f a b => by simp [AV.beq, AV.beqL_refl a, AV.beqL_refl b]
  | .iface t a => by simp [AV.beq, AV.beq_refl a]
  | .agg l => by simp [AV.beq, AV.beqL_refl l]
  | .u8s n x => by simp [AV.beq]
  | .tup l => by simp [AV.beq, AV.beqL_refl l]
theorem AV.beqL_refl : ∀ l : List AV, AV.beqL l l = true
  | [] => rfl
  | a :: l => by simp [AV.beqL, AV.beq_refl a, AV.beqL_refl l]
end

theorem getD_set {listed : Array Bool} {j : Nat} (hj : j < listed.size) (i : Nat) (b : Bool) : (listed.setIfInBounds j true).getD i b = if i = j then true else listed.getD i b := by
  by_cases h : i = j
  · subst h; simp [hj]
  · rw [if_neg h]
    simp [Array.getElem?_setIfInBounds_ne (Ne.symm h)]

theorem DRel.monoW {r r' : Ren} (h : r.wle r') {x y} (hd : DRel r x y) : DRel r' x y := by
  obtain ⟨fv, vs, h1, h2, h3⟩ := hd
  exact ⟨fv, vs, VRel.monoW h _ h1, VsRel.monoW h _ h2, h3⟩

theorem onlyBefore_none {ops : Array Oper} {B : List Nat} {u j : Nat} : ∀ (l : List Oper) (i : Nat), (∀ p ∈ l, p.dst ≠ some u) → onlyBefore B u j l i = true
  | [], _, _ => rfl
  | o :: l, i, h => by
    have : dstIs o u = false := by
      have := h o (List.mem_cons_self ..)
      unfold dstIs
      split
      · rename_i t ht
        cases hb : Nat.beq t u with
        | false => rfl
        | true => exact absurd (by rw [ht, Nat.eq_of_beq_eq_true hb]) this
      · rfl
    simp only [onlyBefore, this]
    exact onlyBefore_none (ops := ops) l _ fun p hp => h p (List.mem_cons_of_mem _ hp)

section
variable {V : Over} {w0 : World} {n : Nat} {r0 : Ren} {dfs : List (AV × List AV)} {listed : Array Bool} {q : Nat} {a : Node} {r : Ren} {act : Act} {w : World}

/-- An operation that may come now. -/
structure Ready (V : Over) (listed : Array Bool) (j : Nat) (o : Oper) : Prop where
  op : V.ops[j]? = some o
  un : listed.getD j true = false
  deps : ∀ e ∈ o.after.toList, Region.binds .any e = true → listed.getD e.on false = true

theorem Ready.lt {j : Nat} {o : Oper} (h : Ready V listed j o) : j < V.ops.size := (Array.getElem?_eq_some_iff.1 h.op).1
theorem Ready.unF {j : Nat} {o : Oper} (h : Ready V listed j o) : listed.getD j false = false := by
  have := h.un
  cases hg : listed[j]? with
  | none => simp [hg] at this
  | some b => simp [hg] at this ⊢; exact this
theorem Ready.bef {j : Nat} {o : Oper} (h : Ready V listed j o) (hi : Inv V w0 n r0 dfs listed q a r act w) {e : Nat} (hb : Bef V.ops e j) : listed.getD e false = true :=
  hb.listed hi.size hi.closed fun o' ho' e' he' hb' => by
    rw [h.op] at ho'; injection ho' with ho'; subst ho'; exact h.deps e' he' hb'
theorem Ready.aft {j : Nat} {o : Oper} (h : Ready V listed j o) (hi : Inv V w0 n r0 dfs listed q a r act w) {e : Nat} (hb : Bef V.ops j e) : listed.getD e false = false := by
  cases hl : listed.getD e false with
  | false => rfl
  | true =>
    have : listed.getD j false = true := hb.listed hi.size hi.closed fun o' ho' e' he' hb' => hi.closed e o' ho' (by
      cases hg : listed[e]? with
      | none => simp [hg] at hl
      | some b => simp [hg] at hl ⊢; exact hl) e' he' hb'
    rw [h.unF] at this; cases this

theorem Ready.compat {j : Nat} {o : Oper} (h : Ready V listed j o) (hi : Inv V w0 n r0 dfs listed q a r act w) : compatN (masks V.ops) j a.mask (effsOf V.C.P V.ops.toList 0) = true :=
  compatN_ok fun e he => ⟨fun hb => (hi.effs e he).1 (h.bef hi hb), fun hb => by
    have := h.aft hi hb
    cases ht : Nat.testBit a.mask e with
    | false => rfl
    | true => rw [(hi.effs e he).2 ht] at this; cases this⟩

theorem Ready.orel {j : Nat} {o : Oper} (h : Ready V listed j o) (hi : Inv V w0 n r0 dfs listed q a r act w) (hst : Stat V.ops) (hn : n ≤ 2 ^ V.d) (hreg : ∀ o ∈ V.ops.toList, ∀ t, o.dst = some t → t < n)
    (hkeep : ∀ t, t < 2 ^ V.d → (∀ (i : Nat) o, V.ops[i]? = some o → o.dst ≠ some t) → eget V.d V.envF t = eget V.d V.env0 t) : ORel r V.d (V.env j o) act.eval o.op.operands.toList := by
  intro x hx v hv
  have hlate : ∀ u ∈ lateOf V.ops (masks V.ops) j o.op.operands.toList, u < 2 ^ V.d := fun u hu => by
    have h2 := (late_mem.1 hu).2
    apply Classical.byContradiction
    intro hlt
    rw [onlyBefore_none (ops := V.ops) V.ops.toList 0 fun p hp hpu => hlt (Nat.lt_of_lt_of_le (hreg p hp u hpu) hn)] at h2
    cases h2
  cases x with
  | const c => simp only [aEval] at hv; split at hv <;> cases hv; rename_i hb; exact ofValue_rel hb
  | global g => simp only [aEval] at hv; cases hv
  | func f => simp only [aEval] at hv; cases hv; simp only [VRel, Act.eval]; exact ⟨[], [], rfl, .nil, .nil⟩
  | tmp u =>
    simp only [aEval] at hv
    split at hv <;> cases hv
    rename_i hu
    have hu : u < 2 ^ V.d := Nat.le_of_ble_eq_true hu
    simp only [Over.env]
    rw [eget_late hlate hu]
    rcases hst.reads j o h.op u hx with ⟨hnl, hall⟩ | ⟨hl, hall⟩
    · rw [if_neg hnl]
      by_cases hw : ∃ (i : Nat) (p : Oper), V.ops[i]? = some p ∧ p.dst = some u
      · obtain ⟨i, p, hp, hpu⟩ := hw
        exact hi.done i p u hp hpu (h.bef hi (hall i p hp hpu))
      · rw [hkeep u hu fun i p hp hpu => hw ⟨i, p, hp, hpu⟩]
        exact hi.todo u hu fun i p hp hpu => absurd ⟨i, p, hp, hpu⟩ hw
    · rw [if_pos hl]
      exact hi.todo u hu fun i p hp hpu => h.aft hi (hall i p hp hpu)

theorem Ready.wanted {j : Nat} {o : Oper} (h : Ready V listed j o) (hi : Inv V w0 n r0 dfs listed q a r act w) (hst : Stat V.ops) (hn : n ≤ 2 ^ V.d) (hreg : ∀ o ∈ V.ops.toList, ∀ t, o.dst = some t → t < n) :
    Region.wanted o (yielded V.ops act.tmps) = aWanted V.d V.envF V.ops o := by
  unfold Region.wanted aWanted
  cases hg : o.guard with
  | none => rfl
  | some jw =>
    obtain ⟨g, want⟩ := jw
    simp only
    congr 1
    unfold yielded aYield
    cases ho : V.ops[g]? with
    | none => rfl
    | some p =>
      simp only [Option.bind_some]
      cases hu : p.dst with
      | none => rfl
      | some u =>
        have hb := h.bef hi (hst.guard j o g want h.op hg p u ho hu)
        have hv := hi.done g p u ho hu hb
        have hun := hreg p (Array.mem_toList_iff.2 (Array.mem_of_getElem? ho)) u hu
        have hts : u < act.tmps.size := by rw [hi.tsize]; exact hun
        have hgu : act.tmps[u]? = some (act.tmps.getD u undef) := by simp [hts]
        simp only [Option.bind_some, hgu]
        generalize act.tmps.getD u undef = z at hv
        cases hz : z with
        | bool b =>
          rw [hz] at hv
          rw [bool_shape hv]
        | _ =>
          cases he : eget V.d V.envF u <;> rw [he, hz] at hv <;> simp [VRel, Go.undef] at hv <;> rfl

/-- One operation more. -/
theorem Inv.next {j : Nat} {o : Oper} (hi : Inv V w0 n r0 dfs listed q a r act w) (h : Ready V listed j o) (hst : Stat V.ops) (hreg : ∀ o ∈ V.ops.toList, ∀ t, o.dst = some t → t < n) {v : AV} {u : Value} {r' : Ren} {w' : World} {q' : Nat} {a' : Node}
    (hs : sameDst V.d V.envF o.dst v = true) (hu : VRel r' v u) (hr : r.wle r') (hr0 : r0.le r') (hw : WRel w0 r' a'.st w') (hnode : V.nodes[q']? = some a')
    (heffs : ∀ e ∈ effsOf V.C.P V.ops.toList 0, ((if e = j then true else listed.getD e false) = true ↔ Nat.testBit a'.mask e = true))
    (hids : ∀ (i : Nat) p t, i ≠ j → V.ops[i]? = some p → cls V.C.P p.op = 1 → aWanted V.d V.envF V.ops p = true → p.dst = some t → listed.getD i false = false → r' (idOf (eget V.d V.envF t)) = none) :
    Inv V w0 n r0 dfs (listed.setIfInBounds j true) q' a' r' (act.put o.dst u) w' := by
  have hjs : j < listed.size := by rw [hi.size]; exact h.lt
  have hget := getD_set (listed := listed) hjs
  have hdst : ∀ t, o.dst = some t → t < n := hreg o (Array.mem_toList_iff.2 (Array.mem_of_getElem? h.op))
  have other : ∀ x, o.dst ≠ some x → (act.put o.dst u).tmps.getD x undef = act.tmps.getD x undef := fun x hx => by
    cases hd : o.dst with
    | none => rfl
    | some t =>
      have : t ≠ x := fun e => hx (by rw [hd, e])
      simp [Act.put, Array.getElem?_setIfInBounds_ne this]
  refine ⟨by simp [hi.size], ?_, hnode, fun e he => by rw [hget]; exact heffs e he, hr0, hw, ?_, fun i p x hp hpx hl => ?_, fun x hx hno => ?_, ?_, fun i p t hp hc hwn ht hl => ?_⟩
  · intro i p hp hl e he hb
    rw [hget] at hl ⊢
    by_cases hij : i = j
    · subst hij
      rw [h.op] at hp; injection hp with hp; subst hp
      split
      · rfl
      · exact h.deps e he hb
    · rw [if_neg hij] at hl
      split
      · rfl
      · exact hi.closed i p hp hl e he hb
  · cases o.dst <;> simp [Act.put, hi.tsize]
  · rw [hget] at hl
    by_cases hij : i = j
    · subst hij
      rw [h.op] at hp; injection hp with hp; subst hp
      have hvx := sameDst_ok hs x hpx
      rw [← hvx]
      have hxs : x < act.tmps.size := by rw [hi.tsize]; exact hdst x hpx
      have : (act.put o.dst u).tmps.getD x undef = u := by
        rw [hpx]; simp [Act.put, hxs]
      rw [this]; exact hu
    · rw [if_neg hij] at hl
      rw [other x fun hox => hij (hst.apart i j p o x hp h.op hpx hox)]
      exact VRel.monoW hr _ (hi.done i p x hp hpx hl)
  · have hox : o.dst ≠ some x := fun hox => by
      have := hno j o h.op hox
      rw [hget, if_pos rfl] at this; cases this
    rw [other x hox]
    refine VRel.monoW hr _ (hi.todo x hx fun i p hp hpx => ?_)
    have := hno i p hp hpx
    rw [hget] at this
    split at this
    · cases this
    · exact this
  · have : (act.put o.dst u).defers = act.defers := by cases o.dst <;> rfl
    rw [this]; exact hi.dfs.mono fun _ _ => DRel.monoW hr
  · rw [hget] at hl
    by_cases hij : i = j
    · rw [if_pos hij] at hl; cases hl
    · rw [if_neg hij] at hl; exact hids i p t hij hp hc hwn ht hl
end

/-! Counting what is left. -/
def left (listed : Array Bool) : Nat := (listed.toList.filter fun b => !b).length

theorem left_set {listed : Array Bool} {j : Nat} (h : listed.getD j true = false) : left (listed.setIfInBounds j true) + 1 = left listed := by
  have key : ∀ (l : List Bool) (j : Nat), l[j]? = some false → ((l.set j true).filter fun b => !b).length + 1 = (l.filter fun b => !b).length := by
    intro l
    induction l with
    | nil => intro j h; simp at h
    | cons b l ih =>
      intro j h
      cases j with
      | zero => simp at h; subst h; simp
      | succ j =>
        have := ih j (by simpa using h)
        cases b <;> simp_all
  have hj : listed.toList[j]? = some false := by
    rw [Array.getElem?_toList]
    cases hg : listed[j]? with
    | none => simp [hg] at h
    | some b => simp [hg] at h; rw [h]
  have := key listed.toList j hj
  simpa [left] using this

theorem left_zero {listed : Array Bool} (h : left listed = 0) : ∀ i, listed.getD i true = true := by
  intro i
  have h0 : (listed.toList.filter fun b => !b) = [] := List.length_eq_zero_iff.1 h
  cases hg : listed[i]? with
  | none => simp [hg]
  | some b =>
    simp [hg]
    have hm : b ∈ listed.toList := Array.mem_toList_iff.2 (Array.mem_of_getElem? hg)
    cases b with
    | true => rfl
    | false =>
      have : false ∈ listed.toList.filter fun b => !b := List.mem_filter.2 ⟨hm, rfl⟩
      rw [h0] at this; cases this

theorem left_start (n : Nat) : left (Array.replicate n false) = n := by simp [left]

/-- Every order. -/
theorem region_any {V : Over} {w0 : World} {n : Nat} {r0 : Ren} {dfs : List (AV × List AV)} {s' : St} (hC : CtxOk V.C w0) (hst : Stat V.ops) (hn : n ≤ 2 ^ V.d) (hreg : ∀ o ∈ V.ops.toList, ∀ t, o.dst = some t → t < n)
    (hkeep : ∀ t, t < 2 ^ V.d → (∀ (i : Nat) o, V.ops[i]? = some o → o.dst ≠ some t) → eget V.d V.envF t = eget V.d V.env0 t) (hG : GraphOk V s')
    (hall : allOk V (effsOf V.C.P V.ops.toList 0) V.ops.toList 0 = true) (hrec : V.edges.all (recOk V) = true) (hdist : distinctB (idsOf V V.ops.toList) = true) (hb0 : r0.bound = V.s0.next) {Q : Exit → Act → World → Prop}
    (hQ : ∀ r' a' w', r0.le r' → FRel r' V.d n ⟨V.envF, dfs⟩ a' → WRel w0 r' s' w' → Q .normal a' w') :
    ∀ (fuel : Nat) (listed : Array Bool) (q : Nat) (a : Node) (r : Ren) (act : Act) (w : World), Inv V w0 n r0 dfs listed q a r act w → left listed ≤ fuel → wpAny V.C.P .any V.ops Q fuel listed act w := by
  have opk := fun k p hp => allOk_ok (V := V) (effs := effsOf V.C.P V.ops.toList 0) V.ops.toList 0 rfl hall k p (Nat.zero_le _) hp
  have effm := fun e => effsOf_mem (P := V.C.P) (ops := V.ops) V.ops.toList 0 rfl e
  -- when all are done
  have fin : ∀ (listed : Array Bool) (q : Nat) (a : Node) (r : Ren) (act : Act) (w : World), Inv V w0 n r0 dfs listed q a r act w → (∀ (i : Nat), i < V.ops.size → listed.getD i false = true) → Q .normal act w := fun listed q a r act w hi hl => by
    have hs : a.st = s' := hG.final a (List.mem_of_getElem? hi.node) fun e he => (hi.effs e he).1 (by
      obtain ⟨_, o, ho, _⟩ := (effm e).1 he
      exact hl e (Array.getElem?_eq_some_iff.1 ho).1)
    refine hQ r act w hi.ren ⟨⟨hi.tsize, hn, fun t ht => ?_⟩, hi.dfs⟩ (hs ▸ hi.wrel)
    by_cases hw : ∃ (i : Nat) (p : Oper), V.ops[i]? = some p ∧ p.dst = some t
    · obtain ⟨i, p, hp, hpu⟩ := hw
      exact hi.done i p t hp hpu (hl i (Array.getElem?_eq_some_iff.1 hp).1)
    · simp only
      rw [hkeep t ht fun i p hp hpu => hw ⟨i, p, hp, hpu⟩]
      exact hi.todo t ht fun i p hp hpu => absurd ⟨i, p, hp, hpu⟩ hw
  have allDone : ∀ (listed : Array Bool), listed.size = V.ops.size → Region.ready .any V.ops listed = [] → ∀ (i : Nat), i < V.ops.size → listed.getD i false = true := fun listed hsz hr i => by
    induction i using Nat.strongRecOn with
    | _ i ih =>
      intro hi
      cases hl : listed.getD i false with
      | true => rfl
      | false =>
        exfalso
        have hun : listed.getD i true = false := by
          have : i < listed.size := by omega
          simp [this] at hl ⊢; exact hl
        have : i ∈ Region.ready .any V.ops listed := by
          rw [mem_ready]
          refine ⟨hun, V.ops[i], Array.getElem?_eq_getElem hi, fun e he hb => ?_⟩
          have := hst.down i _ (Array.getElem?_eq_getElem hi) e (Array.mem_toList_iff.2 he) hb
          exact ih e.on this (by omega)
        rw [hr] at this; cases this
  intro fuel
  induction fuel with
  | zero =>
    intro listed q a r act w hi hle
    have hz := left_zero (Nat.le_zero.1 hle)
    have hr : Region.ready .any V.ops listed = [] := by
      apply List.eq_nil_iff_forall_not_mem.2
      intro i hm
      have := (mem_ready.1 hm).1
      rw [hz i] at this; cases this
    exact ⟨hr, fin listed q a r act w hi (allDone listed hi.size hr)⟩
  | succ fuel ih =>
    intro listed q a r act w hi hle
    refine ⟨fun hr => fin listed q a r act w hi (allDone listed hi.size hr), fun j hj => ?_⟩
    obtain ⟨hun, o, ho, hdeps⟩ := mem_ready.1 hj
    have h : Ready V listed j o := ⟨ho, hun, fun e he hb => hdeps e (Array.mem_toList_iff.1 he) hb⟩
    have hleft : left (listed.setIfInBounds j true) ≤ fuel := by have := left_set hun; omega
    have hor := h.orel hi hst hn hreg hkeep
    have hwt := h.wanted hi hst hn hreg
    have hcomp := h.compat hi
    have hop := opk j o ho
    have hnode := hi.node
    have hamem := List.mem_of_getElem? hnode
    have noteff : cls V.C.P o.op ≠ 2 → ∀ e ∈ effsOf V.C.P V.ops.toList 0, ((if e = j then true else listed.getD e false) = true ↔ Nat.testBit a.mask e = true) := fun hne e he => by
      have : e ≠ j := fun hej => by
        subst hej
        obtain ⟨_, p, hp, hc⟩ := (effm e).1 he
        rw [ho] at hp; injection hp with hp; subst hp; exact hne hc
      rw [if_neg this]; exact hi.effs e he
    unfold wpOp
    simp only [ho]
    rw [hwt]
    unfold opOk at hop
    split at hop
    · -- it looks
      rename_i hcls
      have hne : cls V.C.P o.op ≠ 2 := by rw [hcls]; decide
      have hquiet : quiet V.C.P o.op = true := by
        unfold cls at hcls
        split at hcls
        · assumption
        · split at hcls <;> cases hcls
      split at hop
      · rename_i hw
        rw [hw]
        simp only [if_true]
        refine .inl ?_
        have hst' := nodesB_ok hop a hamem hcomp
        split at hst'
        · rename_i v s1 hstep
          obtain ⟨u, k1, k2⟩ := quiet_ok hi.wrel hquiet hor hstep
          unfold Oper.wp
          rw [k1, Oper.upon_value]
          exact ih _ q a r _ w (hi.next h hst hreg hst' k2 (Ren.wle_refl r) hi.ren hi.wrel hnode (noteff hne) fun i p t hij hp hc hwn ht hl => hi.ids i p t hp hc hwn ht hl) hleft
        · cases hst'
      · rename_i hw
        rw [hw]
        simp only [Bool.false_eq_true, if_false]
        exact ih _ q a r _ w (hi.next h hst hreg hop (v := .undef) (u := undef) (by simp only [VRel]) (Ren.wle_refl r) hi.ren hi.wrel hnode (noteff hne) fun i p t hij hp hc hwn ht hl => hi.ids i p t hp hc hwn ht hl) hleft
    · -- it makes an object
      rename_i hcls
      have hne : cls V.C.P o.op ≠ 2 := by rw [hcls]; decide
      split at hop
      · rename_i hw
        rw [hw]
        simp only [if_true]
        refine .inl ?_
        split at hop
        · rename_i u hdst
          unfold allocB at hop
          split at hop
          · rename_i ob mk hob
            simp only [Bool.and_eq_true] at hop
            obtain ⟨⟨⟨c1, c2⟩, c3⟩, c4⟩ := hop
            have c1 := AV.beq_eq _ _ c1
            have c2 := Nat.le_of_ble_eq_true c2
            have c3 := nodesB_ok c3 a hamem hcomp
            simp only [Bool.and_eq_true] at c3
            have c32 : idOf (eget V.d V.envF u) < a.st.next := Nat.le_of_ble_eq_true c3.2
            have c31 := c3.1
            split at c31
            · rename_i ob' hat
              have hobe := AObj.beq_eq c31
              subst hobe
              obtain ⟨x, z, k1, k2, k3⟩ := newObj_ok (P := V.C.P) (w := w) hor hob
              have hnone := hi.ids j o u ho hcls hw hdst h.unF
              have hborn := hi.wrel.born c32 hat hnone k2
              have hwle := Ren.setAt_wle hnone ⟨w.heap.size, 0, 0⟩
              unfold Oper.wp
              rw [k1, Oper.upon_value]
              refine ih _ q a (r.setAt (idOf (eget V.d V.envF u)) ⟨w.heap.size, 0, 0⟩) _ (w.alloc x) (hi.next h hst hreg (v := mk (idOf (eget V.d V.envF u))) ?_ (k3 _ _ (Ren.setAt_same ..)) hwle ⟨Ren.wle_trans hi.ren.wle hwle, fun b hb => ?_, hi.ren.bound⟩ hborn hnode (noteff hne)
                fun i p t hij hp hc hwn ht hl => ?_) hleft
              · rw [hdst, c1]
                simp only [sameDst]
                have : ∀ v : AV, AV.beq v v = true := AV.beq_refl
                exact this _
              · have hne' : b ≠ idOf (eget V.d V.envF u) := by rw [hb0] at hb; omega
                have := hi.ren.same b hb
                rw [← this]
                simp [Ren.setAt, hne']
              · have hidne : idOf (eget V.d V.envF t) ≠ idOf (eget V.d V.envF u) := by
                  rcases Nat.lt_or_gt_of_ne hij with hlt | hgt
                  · exact distinct_ok hdist i j p o t u hlt (by rw [Array.getElem?_toList]; exact hp) (by rw [Array.getElem?_toList]; exact ho) hc hcls hwn hw ht hdst
                  · exact fun e => distinct_ok hdist j i o p u t hgt (by rw [Array.getElem?_toList]; exact ho) (by rw [Array.getElem?_toList]; exact hp) hcls hc hw hwn hdst ht e.symm
                have := hi.ids i p t hp hc hwn ht hl
                simp only [Ren.setAt, hidne, if_false]
                exact this
            · cases c31
          · cases hop
        · cases hop
      · rename_i hw
        rw [hw]
        simp only [Bool.false_eq_true, if_false]
        exact ih _ q a r _ w (hi.next h hst hreg hop (v := .undef) (u := undef) (by simp only [VRel]) (Ren.wle_refl r) hi.ren hi.wrel hnode (noteff hne) fun i p t hij hp hc hwn ht hl => hi.ids i p t hp hc hwn ht hl) hleft
    · -- it acts
      rename_i hc0 hc1
      have hcls : cls V.C.P o.op = 2 := by
        rcases cls_cases V.C.P o.op with h | h | h
        · exact absurd h hc0
        · exact absurd h hc1
        · exact h
      have hje : j ∈ effsOf V.C.P V.ops.toList 0 := (effm j).2 ⟨Nat.zero_le _, o, ho, hcls⟩
      have hbit : Nat.testBit a.mask j = false := by
        cases ht : Nat.testBit a.mask j with
        | false => rfl
        | true => have := (hi.effs j hje).2 ht; rw [h.unF] at this; cases this
      obtain ⟨x, hx, hxf, hxi⟩ := coverB_ok hop q a hnode hbit hcomp
      rw [Nat.zero_add] at hxf
      obtain ⟨o2, a2, b, ho2, _, ha2, hbn, hmask, hgrow, hrun⟩ := hG.run x hx
      rw [hxi, ho] at ho2; injection ho2 with ho2; subst ho2
      rw [hxf, hnode] at ha2; injection ha2 with ha2; subst ha2
      have hrk := List.all_eq_true.1 hrec x hx
      unfold recOk at hrk
      rw [hxi, ho] at hrk
      simp only [Bool.and_eq_true] at hrk
      obtain ⟨⟨d1, d2⟩, d3⟩ := hrk
      have d2 : aWanted V.d x.env V.ops o = aWanted V.d V.envF V.ops o := by simpa using d2
      have hor2 : ORel r V.d x.env act.eval o.op.operands.toList := fun y hy v hv => by
        have hb := List.all_eq_true.1 d1 y hy
        rw [hv] at hb
        cases hF : aEval V.d (V.env j o) y with
        | none => rw [hF] at hb; cases hb
        | some v' =>
          rw [hF] at hb
          have := AV.beq_eq _ _ hb
          subst this
          exact hor y hy v hF
      have heffs : ∀ e ∈ effsOf V.C.P V.ops.toList 0, ((if e = j then true else listed.getD e false) = true ↔ Nat.testBit b.mask e = true) := fun e he => by
        rw [hmask, hxi, Nat.testBit_or, Nat.testBit_two_pow]
        by_cases hej : e = j
        · subst hej; simp
        · rw [if_neg hej]
          have : (decide (j = e)) = false := by simp [Ne.symm hej]
          rw [this, Bool.or_false]; exact hi.effs e he
      -- the numbers of those that come later
      have hidlt : ∀ (i : Nat) p t, V.ops[i]? = some p → cls V.C.P p.op = 1 → aWanted V.d V.envF V.ops p = true → p.dst = some t → idOf (eget V.d V.envF t) < a.st.next ∨ x.post.next ≤ idOf (eget V.d V.envF t) := fun i p t hp hc hwn ht => by
        have hpk := opk i p hp
        unfold opOk at hpk
        rw [hc, hwn, ht] at hpk
        simp only at hpk
        unfold allocB at hpk
        split at hpk
        · simp only [Bool.and_eq_true] at hpk
          have := List.all_eq_true.1 hpk.2 x hx
          rw [hxf, hnode] at this
          simp only [Bool.or_eq_true] at this
          exact this.imp Nat.le_of_ble_eq_true Nat.le_of_ble_eq_true
        · cases hpk
      have go : ∀ (r1 : Ren) (w1 : World) (u : Value), r.le r1 → VRel r1 x.v u → WRel w0 r1 x.post w1 → wpAny V.C.P .any V.ops Q fuel (listed.setIfInBounds j true) (act.put o.dst u) w1 := fun r1 w1 u g1 g2 g3 => by
        obtain ⟨r2, f1, f2, f3⟩ := hgrow.rel g3
        have hw2 : r1.wle r2 := fun b p hb => by show r2.f b = _; rw [f2]; exact hb
        have hle2 : r1.le r2 := ⟨hw2, fun b _ => by show r2.f b = r1.f b; rw [f2], f3⟩
        refine ih _ x.to b r2 _ w1 (hi.next h hst hreg d3 (VRel.monoW hw2 _ g2) (Ren.wle_trans g1.wle hw2) (Ren.le_trans hi.ren (Ren.le_trans g1 hle2)) f1 hbn heffs fun i p t hij hp hc hwn ht hl => ?_) hleft
        have hold := hi.ids i p t hp hc hwn ht hl
        show r2.f _ = none
        rw [f2]
        rcases hidlt i p t hp hc hwn ht with hlt | hge
        · exact (g1.same _ (by rw [hi.wrel.bound]; exact hlt)).trans hold
        · cases hh : r1.f (idOf (eget V.d V.envF t)) with
          | none => rfl
          | some pl =>
            have := g3.fresh _ _ hh
            omega
      rcases hrun with ⟨hw, hstep⟩ | ⟨hw, hv, hpost⟩
      · rw [← d2, hw]
        simp only [if_true]
        refine .inl (step_next (op_ok hC hi.wrel hor2 hstep) fun r1 w1 u g1 g2 g3 => go r1 w1 u g1 g2 g3)
      · rw [← d2, hw]
        simp only [Bool.false_eq_true, if_false]
        exact go r w undef (Ren.le_refl r) (by rw [hv]; simp only [VRel]) (by rw [hpost]; exact hi.wrel)

theorem traceGraph {C : Ctx} {d : Nat} {ops : Array Oper} {s' : St} : ∀ (tr : List Rec) (m k : Nat) (s : St) (ns : List Node) (es : List Edg), TraceOk C d ops tr s s' → graphOf tr m k s' = (ns, es) →
    (∃ a, ns[0]? = some a ∧ a.mask = m ∧ Grow s a.st) ∧ (∀ x ∈ es, k ≤ x.frm ∧ k ≤ x.to ∧ ∃ o a b, ops[x.idx]? = some o ∧ cls C.P o.op = 2 ∧ ns[x.frm - k]? = some a ∧ ns[x.to - k]? = some b ∧ b.mask = a.mask ||| 2 ^ x.idx ∧ Grow x.post b.st ∧
      ((aWanted d x.env ops o = true ∧ aStep C d x.env a.st o.op = some (x.v, x.post)) ∨ (aWanted d x.env ops o = false ∧ x.v = .undef ∧ x.post = a.st))) ∧ (∃ z, ns[tr.length]? = some z ∧ z.st = s') ∧
      ∀ (q : Nat) y, tr[q]? = some y → RunOk C d ops y ∧ ∃ a b, ns[q]? = some a ∧ ns[q + 1]? = some b ∧ a.st = y.pre ∧ b.mask = a.mask ||| 2 ^ y.idx ∧ Grow y.post b.st
  | [], m, k, s, ns, es, ht, h => by
    simp only [graphOf, Prod.mk.injEq] at h
    obtain ⟨rfl, rfl⟩ := h
    exact ⟨⟨⟨m, s'⟩, rfl, rfl, ht⟩, by simp, ⟨⟨m, s'⟩, rfl, rfl⟩, fun q y h => by simp at h⟩
  | x :: l, m, k, s, ns, es, ⟨hg, hr, ht⟩, h => by
    simp only [graphOf, forceN_eq] at h
    cases hgo : graphOf l (Nat.lor m (Nat.pow 2 x.idx)) (Nat.succ k) s' with
    | mk ns1 es1 =>
      rw [hgo] at h
      simp only [Prod.mk.injEq] at h
      obtain ⟨rfl, rfl⟩ := h
      obtain ⟨⟨a1, i1, i2, i3⟩, i4, ⟨z, i5, i6⟩, i7⟩ := traceGraph l _ _ _ _ _ ht hgo
      refine ⟨⟨⟨m, x.pre⟩, rfl, rfl, hg⟩, fun y hy => ?_, ⟨z, by simpa using i5, i6⟩, fun q y hy => ?_⟩
      · cases hy with
        | head =>
          obtain ⟨o, k1, k2, k3⟩ := hr
          refine ⟨Nat.le_refl _, Nat.le_succ _, o, ⟨m, x.pre⟩, a1, k1, k2, by simp, ?_, ?_, i3, k3⟩
          · simp only [Nat.succ_eq_add_one, Nat.add_sub_cancel_left]
            simpa using i1
          · exact i2
        | tail _ hy =>
          obtain ⟨j1, j2, o, a, b, j3, j4, j5, j6, j7⟩ := i4 y hy
          have e1 : y.frm - k = (y.frm - Nat.succ k) + 1 := by omega
          have e2 : y.to - k = (y.to - Nat.succ k) + 1 := by omega
          exact ⟨by omega, by omega, o, a, b, j3, j4, by rw [e1]; simpa using j5, by rw [e2]; simpa using j6, j7⟩
      · cases q with
        | zero =>
          simp at hy; subst hy
          exact ⟨hr, ⟨m, x.pre⟩, a1, rfl, by simpa using i1, rfl, i2, i3⟩
        | succ q =>
          obtain ⟨j1, a, b, j2, j3, j4⟩ := i7 q y (by simpa using hy)
          exact ⟨j1, a, b, by simpa using j2, by simpa using j3, j4⟩

theorem finalB_ok {effs : List Nat} {m : Nat} : ∀ {l : List Node} {k : Nat}, finalB effs m l k = true → ∀ q a, l[q]? = some a → (∀ e ∈ effs, Nat.testBit a.mask e = true) → k + q = m
  | [], _, _, q, a, h, _ => by simp at h
  | b :: l, k, h, q, a, ha, he => by
    simp only [finalB] at h
    split at h
    · rename_i hk
      cases q with
      | zero =>
        simp at ha; subst ha
        split at hk
        · rename_i hb; exact Nat.eq_of_beq_eq_true hb
        · exfalso
          rw [List.all_eq_true.2 he] at hk; cases hk
      | succ q =>
        have := finalB_ok h q a (by simpa using ha) he
        omega
    · cases h

theorem Grow.next_le {s s' : St} (h : Grow s s') : s.next ≤ s'.next := by
  induction h with
  | refl s => exact Nat.le_refl _
  | new o hn g ih => rw [St.new_next] at ih; omega
theorem Grow.eq {s s' : St} (h : Grow s s') (he : s.next = s'.next) : s = s' := by
  cases h with
  | refl => rfl
  | new o hn g => have := g.next_le; rw [St.new_next] at this; omega

theorem findPair_ok {B : List Nat} : ∀ {tr : List Rec} {k q : Nat} {x y : Rec}, findPair B tr k = some (q, x, y) → k ≤ q ∧ tr[q - k]? = some x ∧ tr[q - k + 1]? = some y
  | [], _, _, _, _, h => by simp [findPair] at h
  | [_], _, _, _, _, h => by simp [findPair] at h
  | a :: b :: l, k, q, x, y, h => by
    simp only [findPair] at h
    split at h
    · obtain ⟨h1, h2, h3⟩ := findPair_ok h
      have e : q - k = (q - Nat.succ k) + 1 := by omega
      exact ⟨by omega, by rw [e]; simpa using h2, by rw [e]; simpa using h3⟩
    · simp only [Option.some.injEq, Prod.mk.injEq] at h
      obtain ⟨rfl, rfl, rfl⟩ := h
      simp

theorem T.put1_same {α : Type} (t x y : T α) (i : Bool) : (t.put1 i x).put1 i y = t.put1 i y := by cases t <;> cases i <;> rfl
theorem T.put1_comm {α : Type} (t x y : T α) {i j : Bool} (h : i ≠ j) : (t.put1 i x).put1 j y = (t.put1 j y).put1 i x := by
  cases t <;> cases i <;> cases j <;> first | rfl | exact absurd rfl h

theorem T.set_comm {α : Type} : ∀ (p q : List Bool) (t x y : T α), p.length = q.length → p ≠ q → T.set q (T.set p t x) y = T.set p (T.set q t y) x
  | [], [], _, _, _, _, h => absurd rfl h
  | i :: p, j :: q, t, x, y, hl, h => by
    rw [T.set_cons, T.set_cons, T.set_cons, T.set_cons, T.br_put1, T.br_put1]
    by_cases hij : i = j
    · subst hij
      rw [if_pos rfl, if_pos rfl, T.put1_same, T.put1_same, T.set_comm p q _ _ _ (by simpa using hl) (fun e => h (by rw [e]))]
    · rw [if_neg hij, if_neg (Ne.symm hij), T.put1_comm _ _ _ hij]
  | [], _ :: _, _, _, _, hl, _ => by simp at hl
  | _ :: _, [], _, _, _, hl, _ => by simp at hl

theorem St.set_comm (s : St) {b b' : Nat} (hb : b < 2 ^ HD) (hb' : b' < 2 ^ HD) (h : b ≠ b') (o o' : AObj) : (s.set b o).set b' o' = (s.set b' o').set b o := by
  simp only [St.set_def]
  rw [T.set_comm _ _ _ _ _ (by rw [path_length, path_length]) (path_ne hb hb' h)]

theorem storeTo_form {C : Ctx} {d : Nat} {env : T AV} {op : Op} {b : Nat} (h : storeTo d env op = some b) {s s1 : St} {v : AV} (hs : aStep C d env s op = some (v, s1)) :
    ∃ f : AObj → Option AObj, ∃ obj obj', s.at b = some obj ∧ f obj = some obj' ∧ s1 = s.set b obj' ∧ v = .undef ∧ ∀ (t t1 : St) (u : AV), aStep C d env t op = some (u, t1) → ∃ ob ob', t.at b = some ob ∧ f ob = some ob' ∧ t1 = t.set b ob' ∧ u = .undef := by
  cases op <;> simp only [storeTo] at h <;> try (cases h; done)
  rename_i t x y
  split at h
  · rename_i b' o hx
    cases h
    have form : ∀ (s s1 : St) (v : AV), aStep C d env s (.store t x y) = some (v, s1) → ∃ z, aEval d env y = some z ∧ ∃ obj obj', s.at b = some obj ∧ aPut C.P t o obj z = some obj' ∧ s1 = s.set b obj' ∧ v = .undef := fun s s1 v hs => by
      unfold aStep at hs
      simp only [stepOf, sStore, hx] at hs
      split at hs
      · rename_i z hz
        refine ⟨z, hz, ?_⟩
        simp only [aStore, St.setS_eq] at hs
        cases hat : s.at b with
        | none => rw [hat] at hs; simp [unitSt] at hs
        | some obj =>
          rw [hat] at hs
          simp only at hs
          cases hp : aPut C.P t o obj z with
          | none => rw [hp] at hs; simp [unitSt] at hs
          | some obj' =>
            rw [hp] at hs
            simp only [unitSt, Option.some.injEq, Prod.mk.injEq] at hs
            exact ⟨obj, obj', rfl, hp, hs.2.symm, hs.1.symm⟩
      · cases hs
    obtain ⟨z, hz, obj, obj', k1, k2, k3, k4⟩ := form s s1 v hs
    refine ⟨fun ob => aPut C.P t o ob z, obj, obj', k1, k2, k3, k4, fun t' t1 u hu => ?_⟩
    obtain ⟨z', hz', ob, ob', j1, j2, j3, j4⟩ := form t' t1 u hu
    rw [hz] at hz'; cases hz'
    exact ⟨ob, ob', j1, j2, j3, j4⟩
  · cases h

/-- The graph with the other order of a pair. -/
theorem addPair_ok {C : Ctx} {d : Nat} {ops : Array Oper} {s0 s' : St} {env0 envF : T AV} {tr : List Rec} {ns : List Node} {es : List Edg} (htr : TraceOk C d ops tr s0 s') (hg : graphOf tr 0 0 s' = (ns, es)) {nodes : List Node} {edges : List Edg}
    (h : addPair C d ops (masks ops) tr ns es = (nodes, edges)) (hf : finalB (effsOf C.P ops.toList 0) tr.length nodes 0 = true) : GraphOk ⟨C, d, ops, s0, env0, envF, nodes, edges⟩ s' := by
  obtain ⟨⟨a, a1, a2, a3⟩, g1, ⟨z, z1, z2⟩, g2⟩ := traceGraph tr 0 0 s0 ns es htr hg
  have base : nodes = ns → edges = es → GraphOk ⟨C, d, ops, s0, env0, envF, nodes, edges⟩ s' := fun e1 e2 => by
    subst e1; subst e2
    refine ⟨⟨a, a1, a2, a3⟩, fun x hx => ?_, fun b hb he => ?_⟩
    · obtain ⟨_, _, o, a, b, j⟩ := g1 x hx
      exact ⟨o, a, b, by simpa using j⟩
    · obtain ⟨q, hq⟩ := List.mem_iff_getElem?.1 hb
      have := finalB_ok hf q b hq he
      rw [Nat.zero_add] at this; subst this
      rw [z1] at hq; cases hq; exact z2
  unfold addPair at h
  split at h
  · simp only [Prod.mk.injEq] at h; exact base h.1.symm h.2.symm
  · rename_i k x y hfp
    split at h
    · simp only [Prod.mk.injEq] at h; exact base h.1.symm h.2.symm
    · rename_i ox hox
      split at h
      · simp only [Prod.mk.injEq] at h; exact base h.1.symm h.2.symm
      · rename_i oy hoy
        split at h
        · simp only [Prod.mk.injEq] at h; exact base h.1.symm h.2.symm
        · rename_i hpk
          split at h
          · simp only [Prod.mk.injEq] at h; exact base h.1.symm h.2.symm
          · rename_i ak hak
            split at h
            · simp only [Prod.mk.injEq] at h; exact base h.1.symm h.2.symm
            · rename_i vy py hsy
              split at h
              · simp only [Prod.mk.injEq] at h; exact base h.1.symm h.2.symm
              · rename_i vx px hsx
                simp only [Prod.mk.injEq] at h
                obtain ⟨rfl, rfl⟩ := h
                obtain ⟨_, f2, f3⟩ := findPair_ok hfp
                rw [Nat.sub_zero] at f2 f3
                obtain ⟨⟨ox', rx1, rx2, rx3⟩, ax, bx, x1, x2, x3, x4, x5⟩ := g2 k x f2
                obtain ⟨⟨oy', ry1, ry2, ry3⟩, ay, by_, y1, y2, y3, y4, y5⟩ := g2 (k + 1) y f3
                rw [hox] at rx1; cases rx1
                rw [hoy] at ry1; cases ry1
                rw [hak] at x1; cases x1
                rw [x2] at y1; cases y1
                unfold pairOk at hpk
                split at hpk
                · rename_i b hb
                  split at hpk
                  · rename_i b' hb'
                    simp only [Bool.and_eq_true] at hpk
                    obtain ⟨⟨⟨⟨⟨p1, p2⟩, p3⟩, p4⟩, p5⟩, p6⟩ := hpk
                    have p1 : b ≠ b' := fun e => by rw [e, Nat.beq_refl] at p1; cases p1
                    have p2 : b < 2 ^ HD := Nat.le_of_ble_eq_true p2
                    have p3 : b' < 2 ^ HD := Nat.le_of_ble_eq_true p3
                    have p4 : x.post.next = y.pre.next := Nat.eq_of_beq_eq_true p4
                    have hxrun : aStep C d x.env x.pre ox.op = some (x.v, x.post) := by
                      rcases rx3 with ⟨_, h⟩ | ⟨h, _⟩
                      · exact h
                      · rw [p5] at h; cases h
                    have hyrun : aStep C d y.env y.pre oy.op = some (y.v, y.post) := by
                      rcases ry3 with ⟨_, h⟩ | ⟨h, _⟩
                      · exact h
                      · rw [p6] at h; cases h
                    have hpp : x.post = y.pre := by
                      rw [y3] at x5
                      exact x5.eq p4
                    -- the two stores
                    obtain ⟨fx, obx, obx', u1, u2, u3, u4, u5⟩ := storeTo_form hb hxrun
                    obtain ⟨fy, oby, oby', v1, v2, v3, v4, v5⟩ := storeTo_form hb' hyrun
                    obtain ⟨oby2, oby2', w1, w2, w3, w4⟩ := v5 _ _ _ hsy
                    obtain ⟨obx2, obx2', q1, q2, q3, q4⟩ := u5 _ _ _ hsx
                    have eob : oby = oby2 := by
                      rw [← hpp, u3, St.at_set_other _ _ p2 p3 p1, w1] at v1
                      cases v1; rfl
                    subst eob
                    rw [v2] at w2; cases w2
                    have eox : obx = obx2 := by
                      rw [w3, St.at_set_other _ _ p3 p2 (Ne.symm p1), u1] at q1
                      cases q1; rfl
                    subst eox
                    rw [u2] at q2; cases q2
                    have epost : px = y.post := by
                      rw [q3, w3, v3, ← hpp, u3, St.set_comm _ p2 p3 p1]
                    have look : ∀ q, q < ns.length → (ns ++ [(⟨Nat.lor ak.mask (Nat.pow 2 y.idx), py⟩ : Node)])[q]? = ns[q]? := fun q hq => List.getElem?_append_left hq
                    have lk : ∀ q c, ns[q]? = some c → (ns ++ [(⟨Nat.lor ak.mask (Nat.pow 2 y.idx), py⟩ : Node)])[q]? = some c := fun q c hc => by
                      rw [look q (List.getElem?_eq_some_iff.1 hc).1, hc]
                    have last : (ns ++ [(⟨Nat.lor ak.mask (Nat.pow 2 y.idx), py⟩ : Node)])[ns.length]? = some ⟨Nat.lor ak.mask (Nat.pow 2 y.idx), py⟩ := by simp
                    refine ⟨⟨a, lk _ _ a1, a2, a3⟩, fun e he => ?_, fun b hb he => ?_⟩
                    · rcases List.mem_append.1 he with he | he
                      · obtain ⟨_, _, o, a, b, j1, j2, j3, j4, j5⟩ := g1 e he
                        exact ⟨o, a, b, j1, j2, lk _ _ (by simpa using j3), lk _ _ (by simpa using j4), j5⟩
                      · simp only [List.mem_cons, List.not_mem_nil, or_false] at he
                        rcases he with rfl | rfl
                        · exact ⟨oy, ak, _, hoy, ry2, lk _ _ hak, last, rfl, .refl _, .inl ⟨p6, by rw [x3]; exact hsy⟩⟩
                        · refine ⟨ox, _, by_, hox, rx2, last, lk _ _ y2, ?_, by rw [epost]; exact y5, .inl ⟨p5, hsx⟩⟩
                          rw [y4, x4]
                          show (ak.mask ||| 2 ^ x.idx) ||| 2 ^ y.idx = (ak.mask ||| 2 ^ y.idx) ||| 2 ^ x.idx
                          rw [Nat.or_assoc, Nat.or_comm (2 ^ x.idx), ← Nat.or_assoc]
                    · obtain ⟨q, hq⟩ := List.mem_iff_getElem?.1 hb
                      have := finalB_ok hf q b hq he
                      rw [Nat.zero_add] at this; subst this
                      have hz := lk _ _ z1
                      simp only at hq
                      rw [hz] at hq; cases hq; exact z2
                  · cases hpk
                · cases hpk

/-- What the executor says of a drawn region is so. -/
theorem drawnRun_ok {P : Program} (hmix : P.follows .mixedOrders = true) {w0 : World} {C : Ctx} (hP : C.P = P) (hC : CtxOk C w0) (d n : Nat) (hn : n ≤ 2 ^ d) : DrawnOk P w0 d n (drawnRun C d n) := by
  intro id ops fr s fr' s' hreg h r act w hf hw
  subst hP
  unfold drawnRun at h
  split at h
  · rename_i hstat
    have hst := stat_ok hstat
    split at h
    · rename_i envF s1 tr hp1
      cases hg : graphOf tr 0 0 s1 with
      | mk ns es =>
        rw [hg] at h
        simp only at h
        cases hap : addPair C d ops (masks ops) tr ns es with
        | mk nodes edges =>
          rw [hap] at h
          simp only at h
          split at h
          · rename_i hv
            simp only [Option.some.injEq, Prod.mk.injEq] at h
            obtain ⟨rfl, rfl⟩ := h
            simp only [Bool.and_eq_true] at hv
            obtain ⟨⟨⟨v1, v2⟩, v3⟩, v4⟩ := hv
            have hregs := regOk_ok hreg
            obtain ⟨htr, hkeep⟩ := pass1_ok hn hregs _ _ _ _ _ _ hp1
            let V : Over := ⟨C, d, ops, s, fr.env, envF, nodes, edges⟩
            have hG : GraphOk V s1 := addPair_ok htr hg hap v3
            obtain ⟨a, a1, a2, a3⟩ := hG.start
            refine wp_region_any hmix ?_
            have hw' := hw.drew
            obtain ⟨r1, f1, f2, f3⟩ := a3.rel hw'
            have hle : r.le r1 := ⟨fun b p hb => by show r1.f b = _; rw [f2]; exact hb, fun b _ => by show r1.f b = r.f b; rw [f2], f3⟩
            have hfr := hf.mono hle
            refine region_any (V := V) (w0 := w0) (n := n) (r0 := r) (dfs := fr.dfs) (s' := s1) hC hst hn hregs hkeep hG v1 v2 v4 hw.bound (Q := EndAt w0 d n r .normal ⟨envF, fr.dfs⟩ s1) (fun r' a' w' h1 h2 h3 => ⟨rfl, r', h1, h2, h3⟩)
              ops.size (Array.replicate ops.size false) 0 a r1 act _ ?_ (by rw [left_start]; exact Nat.le_refl _)
            refine ⟨by simp [V], fun i o ho hl => ?_, a1, fun e he => ?_, hle, f1, hfr.env.size, fun i o u ho hu hl => ?_, fun u hu _ => hfr.env.at_ u hu, hfr.dfs, fun i o u ho hc hwn hu _ => ?_⟩
            · have : i < ops.size := (Array.getElem?_eq_some_iff.1 ho).1
              simp [this] at hl
            · have hz : (Array.replicate ops.size false).getD e false = false := by
                by_cases hlt : e < ops.size <;> simp [hlt]
              rw [a2, Nat.zero_testBit]
              exact ⟨fun h => (Bool.false_ne_true (hz.symm.trans h)).elim, fun h => (Bool.false_ne_true h).elim⟩
            · have : i < ops.size := (Array.getElem?_eq_some_iff.1 ho).1
              simp [this] at hl
            · have hk := allOk_ok (V := V) ops.toList 0 rfl v1 i o (Nat.zero_le _) ho
              unfold opOk at hk
              rw [hc, hwn, hu] at hk
              simp only at hk
              unfold allocB at hk
              split at hk
              · simp only [Bool.and_eq_true] at hk
                have hge : s.next ≤ idOf (eget d envF u) := Nat.le_of_ble_eq_true hk.1.1.2
                show r1.f _ = none
                rw [f2]
                cases hh : r.f (idOf (eget d envF u)) with
                | none => rfl
                | some pl => have := hw.fresh _ _ hh; omega
              · cases hk
          · cases h
    · cases h
  · cases h
end
end Go.X

/- Functions without a body. -/
namespace Go.X
noncomputable section
set_option linter.unusedVariables false
set_option linter.unusedSimpArgs false

/-- Which of the model's own functions. -/
inductive Xt where
  | add (k : IntKind)
  | load (k : IntKind)
  | store (k : IntKind)
  | cas (k : IntKind)
  | nop
  | mark
  | indexStr
  | count

/-- The cell of a number. -/
def cellAt (s : St) (x : AV) : Option (Nat × Nat × Nat × List AV × Nat × IntKind × Int) :=
  match x with
  | .ptr b o => match s.at b with
    | some (.cells e l opn) => match l[o]? with
      | some (.int k n) => some (b, o, e, l, opn, k, n)
      | _ => none
    | _ => none
  | _ => none

def idxByte (c : Nat) : Nat → Nat → Nat → Option Nat
  | 0, _, _ => none
  | n + 1, x, i => match Nat.beq (Nat.mod x 256) c with
    | true => some i
    | false => idxByte c n (Nat.div x 256) (Nat.succ i)

def cntByte (c : Nat) : Nat → Nat → Nat → Nat
  | 0, _, k => k
  | n + 1, x, k => match Nat.beq (Nat.mod x 256) c with
    | true => cntByte c n (Nat.div x 256) (Nat.succ k)
    | false => cntByte c n (Nat.div x 256) k

def Xt.run (t : Xt) (args : List AV) (s : St) : Option (AV × St) :=
  match t with
  | .add k => match args with
    | [x, .int k' y] => match cellAt s x with
      | some (b, o, e, l, opn, kk, n) => if kk = k ∧ k' = k then some (.int k (fwrap k (n + y)), s.set b (.cells e (l.set o (.int k (fwrap k (n + y)))) opn)) else none
      | none => none
    | _ => none
  | .load k => match args with
    | [x] => match cellAt s x with
      | some (b, o, e, l, opn, kk, n) => if kk = k then some (.int k n, s) else none
      | none => none
    | _ => none
  | .store k => match args with
    | [x, .int k' y] => match cellAt s x with
      | some (b, o, e, l, opn, kk, n) => if k' = k then some (.tup [], s.set b (.cells e (l.set o (.int k y)) opn)) else none
      | none => none
    | _ => none
  | .cas k => match args with
    | [x, .int k1 y, .int k2 z] => match cellAt s x with
      | some (b, o, e, l, opn, kk, n) => if kk = k ∧ k1 = k ∧ k2 = k then (match ieq n y with
          | true => some (.bool true, s.set b (.cells e (l.set o (.int k z)) opn))
          | false => some (.bool false, s)) else none
      | none => none
    | _ => none
  | .nop => match args with
    | [] => some (.tup [], s)
    | _ => none
  | .mark => match args with
    | [.ptr _ _] => some (.tup [], s)
    | _ => none
  | .indexStr => match args with
    | [.str n x, .int .u8 (.ofNat c)] => match Nat.blt c 256 with
      | true => match idxByte c n x 0 with
        | some i => some (.int .i64 (.ofNat i), s)
        | none => some (.int .i64 (.negSucc 0), s)
      | false => none
    | _ => none
  | .count => match args with
    | [.slice b o n _, .int .u8 (.ofNat c)] => match Nat.blt c 256 with
      | true => match s.at b with
        | some (.bytes _ m y _) => if Nat.ble (o + n) m = true then some (.int .i64 (.ofNat (cntByte c n (y / 256 ^ o % 256 ^ n) 0)), s) else none
        | _ => none
      | false => none
    | _ => none

/-- The model's function behind it. -/
def Xt.entry : Xt → Array Value → Sem Value
  | .add k => Extern.Atomic.update (Op.intArith .add) k true
  | .load k => Extern.Atomic.loadT (.int k)
  | .store _ => Extern.Atomic.storeT
  | .cas k => Extern.Atomic.casT (.int k)
  | .nop => fun _ => do Go.mark .disable; pure Extern.Race.none_
  | .mark => Extern.Race.marked .acquire
  | .indexStr => Extern.BytealgIndexByte.indexByte
  | .count => Extern.BytealgCount.count

section
variable {P : Program} {w w0 : World} {r : Ren} {s : St}

theorem cellAt_ok (hw : WRel w0 r s w) {x : AV} {b o e : Nat} {l : List AV} {opn : Nat} {k : IntKind} {n : Int} (h : cellAt s x = some (b, o, e, l, opn, k, n)) {u : Value} (hu : VRel r x u) :
    ∃ a, u = .pointer (some a) ∧ w.cell? a = some (.int k n) ∧ w.frozen? a = false ∧
      ∀ (k' : IntKind) (m : Int), WRel w0 r (s.set b (.cells e (l.set o (.int k' m)) opn)) (w.setCell a (.int k' m)) := by
  unfold cellAt at h
  split at h
  · rename_i b' o'
    split at h
    · rename_i e' l' opn' hb
      split at h
      · rename_i k' n' hl
        cases h
        simp only [VRel] at hu
        obtain ⟨p, hp, rfl⟩ := hu
        obtain ⟨pre, vs, post, fz, hx, hf, h3, h4, h5, h6, h7⟩ := (hw.own _ _ p hb hp).2
        obtain ⟨v, hv, hr⟩ := h6.get hl
        simp only [VRel] at hr; subst hr
        have hlt : o < vs.length := (List.getElem?_eq_some_iff.1 hv).1
        have hc : (pre ++ vs ++ post)[o + p.shift]? = some (.int k n) := by
          rw [Nat.add_comm, ← h3, List.append_assoc, List.getElem?_append_right (by omega), Nat.add_sub_cancel_left, List.getElem?_append_left hlt, hv]
        refine ⟨⟨p.blk, o + p.shift, none⟩, rfl, by rw [cell_row hx]; exact hc, frozen_row hx hf (by simp; omega), fun k' m => ?_⟩
        refine hw.wrote hb hp (setCell_wrote hx (.int k' m)) ?_
        have em : (pre ++ vs ++ post).set (o + p.shift) (.int k' m) = pre ++ vs.set o (.int k' m) ++ post := by
          refine List.ext_getElem? fun q => ?_
          simp only [List.getElem?_set, List.getElem?_append, List.length_append, List.length_set]
          grind
        refine ⟨pre, vs.set o (.int k' m), post, fz, by rw [em], by simpa using hf, h3, h4, h5, ?_, fun v hv => ?_⟩
        · refine .of_get (by simp [h6.length]) fun i a v ha hv' => ?_
          rw [List.getElem?_set] at ha hv'
          by_cases hio : o = i
          · subst hio
            rw [if_pos rfl] at ha hv'
            have hlo : o < l.length := by rw [← h6.length]; exact hlt
            rw [if_pos hlo] at ha
            rw [if_pos hlt] at hv'
            cases ha; cases hv'
            simp only [VRel]
          · rw [if_neg hio] at ha hv'
            obtain ⟨v2, hv2, hr2⟩ := h6.get ha
            rw [hv'] at hv2; cases hv2; exact hr2
        · rcases List.mem_or_eq_of_mem_set hv with h | h
          · exact h7 v h
          · rw [h]; rfl
      · cases h
    · cases h
  · cases h

theorem nbeq (a b : Nat) : (a == b) = Nat.beq a b := by
  rw [Bool.eq_iff_iff]; simp

theorem idxByte_spec (c : Nat) (hc : c < 256) : ∀ (n x i : Nat), idxByte c n x i = ((List.range n).find? fun j => byteAt x j == c).map (· + i)
  | 0, x, i => rfl
  | n + 1, x, i => by
    simp only [idxByte]
    rw [List.range_succ_eq_map, List.find?_cons]
    have e0 : byteAt x 0 = x % 256 := by simp [byteAt]
    have e1 : Nat.mod x 256 = x % 256 := rfl
    rw [e0, e1]
    cases hb : Nat.beq (x % 256) c with
    | true =>
      have := Nat.eq_of_beq_eq_true hb
      simp [this]
    | false =>
      have hne : (x % 256 == c) = false := by rw [nbeq]; exact hb
      rw [hne]
      simp only
      rw [idxByte_spec c hc n (Nat.div x 256) (Nat.succ i), List.find?_map]
      have e2 : ((fun j => byteAt x j == c) ∘ Nat.succ) = fun j => byteAt (Nat.div x 256) j == c := by
        funext j
        have := byteAt_div x 1 j
        simp only [Nat.pow_one] at this
        show (byteAt x (j + 1) == c) = (byteAt (x / 256) j == c)
        rw [this, Nat.add_comm]
      rw [e2, Option.map_map]
      congr 1
      funext j; show j + (i + 1) = (j + 1) + i; omega

theorem firstIdx_spec (c n x : Nat) (hc : c < 256) : firstIdx (strOf n x) (c.toUInt8) = match idxByte c n x 0 with | some i => (i : Int) | none => -1 := by
  unfold firstIdx
  rw [idxByte_spec c hc, strOf_size]
  have e : (List.range n).find? (fun i => (strOf n x)[i]! == c.toUInt8) = (List.range n).find? fun j => byteAt x j == c := by
    have key : ∀ (l : List Nat), (∀ j ∈ l, j < n) → l.find? (fun i => (strOf n x)[i]! == c.toUInt8) = l.find? fun j => byteAt x j == c := by
      intro l
      induction l with
      | nil => intro _; rfl
      | cons j l ih =>
        intro hl
        rw [List.find?_cons, List.find?_cons, ih fun k hk => hl k (List.mem_cons_of_mem _ hk)]
        have hj := hl j (List.mem_cons_self ..)
        have hg := strOf_get n x j hj
        have hg2 : (strOf n x)[j]! = UInt8.ofNat (byteAt x j) := by rw [getElem!_def, hg]
        have hb := byteAt_lt x j
        have : ((strOf n x)[j]! == c.toUInt8) = (byteAt x j == c) := by
          rw [hg2, Bool.eq_iff_iff]
          simp only [beq_iff_eq]
          constructor
          · intro h
            have := congrArg UInt8.toNat h
            simpa [Nat.mod_eq_of_lt hb, Nat.mod_eq_of_lt hc] using this
          · intro h; rw [h]
        rw [this]
    exact key _ fun j hj => List.mem_range.1 hj
  rw [e]
  cases (List.range n).find? fun j => byteAt x j == c <;> rfl

theorem cntByte_spec (c : Nat) : ∀ (n x k : Nat), cntByte c n x k = k + (bytesOf n x).count c
  | 0, x, k => rfl
  | n + 1, x, k => by
    rw [bytesOf_succ, List.count_cons]
    simp only [cntByte]
    have e1 : Nat.mod x 256 = x % 256 := rfl
    have e2 : Nat.div x 256 = x / 256 := rfl
    rw [e1, e2, nbeq]
    cases hb : Nat.beq (x % 256) c with
    | true => simp only; rw [cntByte_spec c n]; simp; omega
    | false => simp only; rw [cntByte_spec c n]; simp

theorem count_bytes (c : Nat) (hc : c < 256) : ∀ l : List Nat, (∀ b ∈ l, b < 256) → (l.map fun b => b.toUInt8).count c.toUInt8 = l.count c
  | [], _ => rfl
  | b :: l, h => by
    have hb := h b (List.mem_cons_self ..)
    rw [List.map_cons, List.count_cons, List.count_cons, count_bytes c hc l fun x hx => h x (List.mem_cons_of_mem _ hx)]
    congr 1
    have : (b.toUInt8 == c.toUInt8) = (b == c) := by
      rw [Bool.eq_iff_iff]
      simp only [beq_iff_eq]
      constructor
      · intro e
        have := congrArg UInt8.toNat e
        simpa [Nat.mod_eq_of_lt hb, Nat.mod_eq_of_lt hc] using this
      · intro e; rw [e]
    rw [this]

theorem run_loadBytes_row {g : Nat} {t : TypeId} {fz : Nat × Nat} {c : List Value} (h : w.heap[g]? = some (.cells c.toArray t fz)) : ∀ (bs : List Nat) (o : Nat) (acc : ByteArray), (∀ j b, bs[j]? = some b → c[o + j]? = some (.int .u8 (b : Nat))) →
    (Extern.Bytes.loadBytes ⟨g, o, none⟩ bs.length acc).run P w = .ok ⟨(acc.data.toList ++ bs.map fun b => b.toUInt8).toArray⟩ w
  | [], o, acc, _ => by simp [Extern.Bytes.loadBytes]
  | b :: bs, o, acc, hb => by
    have h0 := hb 0 b rfl
    have ih := run_loadBytes_row h bs (o + 1) (acc.push b.toUInt8) fun j b' hj => by
      have := hb (j + 1) b' (by simpa using hj)
      rw [show o + 1 + j = o + (j + 1) by omega]; exact this
    simp only [List.length_cons, Extern.Bytes.loadBytes, Sem.run_bind, run_load, cell_row h]
    rw [Nat.add_zero] at h0
    rw [h0]
    simp only [Result.andThen_ok, add_none]
    have e : ((b : Nat) : Int).toNat.toUInt8 = b.toUInt8 := rfl
    rw [e, ih]
    simp [ByteArray.push]

/-- A function without a body, known to the model. -/
structure IsExt (P : Program) (f : Nat) (e : Array Value → Sem Value) : Prop where
  is : ∃ fn, P.funcs[f]? = some fn ∧ (fn.name == "runtime.NumGoroutine") = false ∧ fn.body.isNone = true ∧ Extern.findNext fn = none ∧ Extern.find fn = some e

theorem nop_same (m : Mark) (P : Program) (args : Array Value) (w : World) : ((fun _ => do Go.mark m; pure Extern.Race.none_ : Array Value → Sem Value) args).run P w = .ok (.tuple #[]) w := rfl

theorem xt_ok {f : Nat} {t : Xt} (hf : IsExt P f t.entry ∨ (∃ m, t = .nop ∧ IsExt P f fun _ => do Go.mark m; pure Extern.Race.none_) ∨ ∃ m, t = .mark ∧ IsExt P f (Extern.Race.marked m)) {args : List AV} {v : AV} {s' : St} (h : t.run args s = some (v, s')) (hw : WRel w0 r s w) {vs : List Value} (ha : VsRel r args vs) :
    ∃ r' w' u, r.le r' ∧ (callFunc f vs.toArray).run P w = .ok (.value u) w' ∧ VRel r' v u ∧ WRel w0 r' s' w' := by
  have base : ∀ e, IsExt P f e → ∀ u w', (e vs.toArray).run P w = .ok u w' → VRel r v u → WRel w0 r s' w' → ∃ r' w' u, r.le r' ∧ (callFunc f vs.toArray).run P w = .ok (.value u) w' ∧ VRel r' v u ∧ WRel w0 r' s' w' := by
    rintro e ⟨fn, k1, k2, k3, k4, k5⟩ u w' hr hv hw'
    exact ⟨r, w', u, Ren.le_refl r, by rw [run_callFunc_extern k1 k2 k3 k4 k5, hr]; rfl, hv, hw'⟩
  have main : IsExt P f t.entry → ∃ r' w' u, r.le r' ∧ (callFunc f vs.toArray).run P w = .ok (.value u) w' ∧ VRel r' v u ∧ WRel w0 r' s' w' := fun hf => by
    obtain ⟨fn, k1, k2, k3, k4, k5⟩ := hf.is
    cases t with
    | nop =>
      simp only [Xt.run] at h
      split at h <;> cases h
      exact base _ hf _ w rfl undefTup hw
    | mark =>
      simp only [Xt.run] at h
      split at h <;> cases h
      obtain ⟨u, rfl, hu⟩ := ha.uno
      simp only [VRel] at hu; obtain ⟨p, hp, rfl⟩ := hu
      exact base _ hf _ w rfl undefTup hw
    | add k =>
      simp only [Xt.run] at h
      split at h
      · rename_i x k' y
        split at h
        · rename_i b o e l opn kk n hc
          split at h <;> cases h
          rename_i hk
          obtain ⟨rfl, rfl⟩ := hk
          obtain ⟨u, z, rfl, h1, h2⟩ := ha.two
          simp only [VRel] at h2; subst h2
          obtain ⟨a, rfl, c1, c2, c3⟩ := cellAt_ok hw hc h1
          refine ⟨r, _, _, Ren.le_refl r, run_call_add k1 k2 k3 k4 _ k5 c1 c2 rfl, by simp only [VRel, fwrap_eq], ?_⟩
          rw [fwrap_eq]; exact c3 _ _
        · cases h
      · cases h
    | load k =>
      simp only [Xt.run] at h
      split at h
      · rename_i x
        split at h
        · rename_i b o e l opn kk n hc
          split at h <;> cases h
          rename_i hk
          subst hk
          obtain ⟨u, rfl, h1⟩ := ha.uno
          obtain ⟨a, rfl, c1, c2, c3⟩ := cellAt_ok hw hc h1
          exact ⟨r, w, _, Ren.le_refl r, run_call_load k1 k2 k3 k4 _ k5 c1, by simp only [VRel], hw⟩
        · cases h
      · cases h
    | store k =>
      simp only [Xt.run] at h
      split at h
      · rename_i x k' y
        split at h
        · rename_i b o e l opn kk n hc
          split at h <;> cases h
          rename_i hk
          subst hk
          obtain ⟨u, z, rfl, h1, h2⟩ := ha.two
          simp only [VRel] at h2; subst h2
          obtain ⟨a, rfl, c1, c2, c3⟩ := cellAt_ok hw hc h1
          exact ⟨r, _, _, Ren.le_refl r, run_call_store k1 k2 k3 k4 k5 c1 c2, undefTup, c3 _ _⟩
        · cases h
      · cases h
    | cas k =>
      simp only [Xt.run] at h
      split at h
      · rename_i x ka y kb z
        split at h
        · rename_i b o e l opn kk n hc
          split at h
          · rename_i hk
            obtain ⟨rfl, rfl, rfl⟩ := hk
            simp only [VsRel] at ha
            obtain ⟨u, _, rfl, h1, u2, _, rfl, h2, u3, _, rfl, h3, rfl⟩ := ha
            simp only [VRel] at h2 h3; subst h2; subst h3
            obtain ⟨a, rfl, c1, c2, c3⟩ := cellAt_ok hw hc h1
            cases hi : ieq n y with
            | true =>
              rw [hi] at h; cases h
              rw [ieq_eq] at hi
              have : n = y := by simpa using hi
              subst this
              exact ⟨r, _, _, Ren.le_refl r, run_call_cas_hit k1 k2 k3 k4 _ k5 c1 c2, by simp only [VRel], c3 _ _⟩
            | false =>
              rw [hi] at h; cases h
              rw [ieq_eq] at hi
              have : ¬ n = y := by simpa using hi
              exact ⟨r, w, _, Ren.le_refl r, run_call_cas_miss k1 k2 k3 k4 _ k5 c1 c2 this, by simp only [VRel], hw⟩
          · cases h
        · cases h
      · cases h
    | indexStr =>
      simp only [Xt.run] at h
      split at h
      · rename_i n x c
        split at h
        · rename_i hc
          have hc : c < 256 := Nat.le_of_ble_eq_true hc
          obtain ⟨u, z, rfl, h1, h2⟩ := ha.two
          simp only [VRel] at h1 h2; obtain ⟨_, rfl⟩ := h1; subst h2
          have hr := run_indexByte_string (P := P) (strOf n x) (Int.ofNat c) w
          have e : (Int.ofNat c).toNat.toUInt8 = c.toUInt8 := rfl
          rw [e, firstIdx_spec c n x hc] at hr
          refine base _ hf _ w hr ?_ ?_
          · split at h
            · rename_i i hi; cases h; (try rw [hi]); simp only [VRel]; rfl
            · rename_i hi; cases h; (try rw [hi]); simp only [VRel]; rfl
          · split at h <;> cases h <;> exact hw
        · cases h
      · cases h
    | count =>
      simp only [Xt.run] at h
      split at h
      · rename_i b o n cap c
        split at h
        · rename_i hc
          have hc : c < 256 := Nat.le_of_ble_eq_true hc
          split at h
          · rename_i e m y opn hb
            split at h <;> cases h
            rename_i hle
            have hle := Nat.le_of_ble_eq_true hle
            obtain ⟨u, z, rfl, h1, h2⟩ := ha.two
            simp only [VRel] at h1 h2; obtain ⟨p, hp, rfl⟩ := h1; subst h2
            obtain ⟨pre, post, fz, hx, hfz, h3, h4, h5⟩ := (hw.own _ _ p hb hp).2
            have hbl := run_loadBytes_row (P := P) (w := w) hx (bytesOf n (y / 256 ^ o % 256 ^ n)) (o + p.shift) .empty fun j b' hj => by
              have hjn : j < n := by have := (List.getElem?_eq_some_iff.1 hj).1; rwa [bytesOf_length] at this
              rw [bytesOf_get hjn] at hj; cases hj
              rw [show o + p.shift + j = pre.length + (o + j) by omega, List.append_assoc, List.getElem?_append_right (by omega), Nat.add_sub_cancel_left, List.getElem?_append_left (by rw [u8Cells_length]; omega), u8Cells_get, if_pos (by omega),
                byteAt_mod hjn, byteAt_div]
            rw [bytesOf_length] at hbl
            refine base _ hf (goInt (cntByte c n (y / 256 ^ o % 256 ^ n) 0 : Nat)) w ?_ (by simp only [VRel]; rfl) hw
            show Sem.run P (do
              let b ← Extern.Bytes.bytesOf (.slice (some ⟨p.blk, o + p.shift, none⟩) n (cap + p.more))
              let c' ← Extern.Bytes.asByte (.int .u8 (Int.ofNat c))
              pure (goInt (b.foldl (fun n x => if x == c' then n + 1 else n) (0 : Nat)))) w = _
            simp only [Extern.Bytes.bytesOf, Extern.Bytes.asByte, Sem.run_bind, hbl, Result.andThen_ok, Sem.run_pure]
            have hcs := Lib.run_countString (P := P) ⟨(ByteArray.empty.data.toList ++ (bytesOf n (y / 256 ^ o % 256 ^ n)).map fun b => b.toUInt8).toArray⟩ (Int.ofNat c) w
            have hcs2 : (Sem.run P (do
              let b ← Extern.Bytes.bytesOf (.string ⟨(ByteArray.empty.data.toList ++ (bytesOf n (y / 256 ^ o % 256 ^ n)).map fun b => b.toUInt8).toArray⟩)
              let c' ← Extern.Bytes.asByte (.int .u8 (Int.ofNat c))
              pure (goInt (b.foldl (fun n x => if x == c' then n + 1 else n) (0 : Nat)))) w) = _ := hcs
            simp only [Extern.Bytes.bytesOf, Extern.Bytes.asByte, Sem.run_bind, Sem.run_pure, Result.andThen_ok] at hcs2
            rw [hcs2]
            congr 2
            have e : (Int.ofNat c).toNat.toUInt8 = c.toUInt8 := rfl
            rw [e, cntByte_spec, Nat.zero_add]
            have := count_bytes c hc (bytesOf n (y / 256 ^ o % 256 ^ n)) fun b hb => bytesOf_lt hb
            rw [← this]; rfl
          · cases h
        · cases h
      · cases h
  rcases hf with hf | ⟨m, rfl, hf⟩ | ⟨m, rfl, hf⟩
  · exact main hf
  · simp only [Xt.run] at h
    split at h <;> cases h
    exact base _ hf _ w rfl undefTup hw
  · simp only [Xt.run] at h
    split at h <;> cases h
    obtain ⟨u, rfl, hu⟩ := ha.uno
    simp only [VRel] at hu; obtain ⟨p, hp, rfl⟩ := hu
    exact base _ hf _ w rfl undefTup hw
end
end
end Go.X
