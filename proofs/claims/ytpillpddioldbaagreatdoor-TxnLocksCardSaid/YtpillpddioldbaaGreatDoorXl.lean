/- The law itself: from what its long calls answer. -/
import Derived.Test.YtpillpddioldbaaGreatDoorXj
import Derived.Test.YtpillpddioldbaaGreatDoorXk
set_option linter.unusedVariables false
set_option linter.unusedSimpArgs false

namespace Go.X
noncomputable section
open Go.Proofs Go.RowKit
set_option linter.unusedVariables false
set_option linter.unusedSimpArgs false
set_option maxRecDepth 100000

noncomputable def c3 : Code := (P0.funcs.getD 3 default).body.getD .skip
noncomputable def ops6 : Array Oper := match dropSeq 4 c3 with | .seq (.region _ o _) _ => o | _ => #[]
noncomputable def rest7 : Code := dropSeq 5 c3
theorem body3 : ∃ fn, P0.funcs[3]? = some fn ∧ fn.body = some c3 ∧ fn.ntmps = 194 ∧ fn.results = #[.tmp 2] := ⟨P0.funcs.getD 3 default, by kernel_rfl, by kernel_rfl, by kernel_rfl, by kernel_rfl⟩
theorem drop6 : dropSeq 4 c3 = .seq (.region 6 ops6 false) rest7 := by kernel_rfl
theorem ops6_is : (ops6.toList.map fun o => (o.dst, o.op, o.guard)) = [(some 32, .move (.tmp 0), none), (some 33, .convert 3 25 (.tmp 32), none), (some 34, .binOp .rem 25 (.tmp 33) (.const (.int .u64 3)) 25, none),
  (some 35, .convert 25 3 (.tmp 34), none), (some 4, .assign (.tmp 35), none), (some 5, .assign (.const (.int .i64 3)), none)] := by kernel_rfl
theorem reg6 : regOk 194 ops6 = true := by kernel_rfl

/-- One operation without a guard, that puts nothing off. -/
theorem aOps_one {C : Ctx} {d : Nat} {ops : Array Oper} {o : Oper} {l : List Oper} {fr : Fr} {s s' : St} {v : AV} (hg : o.guard = none) (hd : ∀ c, o.op ≠ .defer c) (hs : aStep C d fr.env s o.op = some (v, s')) :
    aOps C d ops (o :: l) fr s = aOps C d ops l ⟨put d fr.env o.dst v, fr.dfs⟩ s' := by
  have hw : aWanted d fr.env ops o = true := by unfold aWanted; rw [hg]
  conv => lhs; unfold aOps
  rw [hw]
  cases hop : o.op
  case defer c => exact absurd hop (hd c)
  all_goals (rw [hop] at hs; simp only [hs, AV.force_eq, St.force_eq, T.force_eq])

theorem six {α β : Type} {l : List α} {f : α → β} {b0 b1 b2 b3 b4 b5 : β} (h : l.map f = [b0, b1, b2, b3, b4, b5]) :
    ∃ a0 a1 a2 a3 a4 a5, l = [a0, a1, a2, a3, a4, a5] ∧ f a0 = b0 ∧ f a1 = b1 ∧ f a2 = b2 ∧ f a3 = b3 ∧ f a4 = b4 ∧ f a5 = b5 := by
  match l, h with
  | [a0, a1, a2, a3, a4, a5], h =>
    simp only [List.map_cons, List.map_nil, List.cons.injEq, and_true] at h
    exact ⟨a0, a1, a2, a3, a4, a5, rfl, h⟩

def after (env : T AV) (page : Int) (k : Nat) : T AV :=
  put 8 (put 8 (put 8 (put 8 (put 8 (put 8 env (some 32) (.int .i64 page)) (some 33) (.int .u64 (fwrap .u64 page))) (some 34) (.int .u64 (.ofNat k))) (some 35) (.int .i64 (.ofNat k))) (some 4) (.int .i64 (.ofNat k))) (some 5) (.int .i64 (.ofNat 3))

theorem conv1 (s : St) (page : Int) : aConvert P0 3 25 s (.int .i64 page) = some (.int .u64 (fwrap .u64 page), s) := by kernel_rfl
theorem conv2 (s : St) (n : Int) : aConvert P0 25 3 s (.int .u64 n) = some (.int .i64 (fwrap .i64 n), s) := by kernel_rfl
theorem rem3 (P : Program) (n : Int) : aBin P .rem 25 (.tmp 33) (.const (.int .u64 3)) (.int .u64 n) (.int .u64 (.ofNat 3)) = some (.int .u64 (n.tmod 3)) := rfl

theorem r6_ok {C : Ctx} (hP : C.P = P0) {ops : Array Oper} (hops : (ops.toList.map fun o => (o.dst, o.op, o.guard)) = [(some 32, .move (.tmp 0), none), (some 33, .convert 3 25 (.tmp 32), none), (some 34, .binOp .rem 25 (.tmp 33) (.const (.int .u64 3)) 25, none),
    (some 35, .convert 25 3 (.tmp 34), none), (some 4, .assign (.tmp 35), none), (some 5, .assign (.const (.int .i64 3)), none)]) {env : T AV} {s : St} {dfs : List (AV × List AV)} {page : Int} (h0 : eget 8 env 0 = .int .i64 page) :
    ∃ k : Nat, k < 3 ∧ aOps C 8 ops ops.toList ⟨env, dfs⟩ s = some (⟨after env page k, dfs⟩, s) := by
  obtain ⟨o0, o1, o2, o3, o4, o5, hl, q0, q1, q2, q3, q4, q5⟩ := six hops
  simp only [Prod.mk.injEq] at q0 q1 q2 q3 q4 q5
  obtain ⟨d0, p0, g0⟩ := q0
  obtain ⟨d1, p1, g1⟩ := q1
  obtain ⟨d2, p2, g2⟩ := q2
  obtain ⟨d3, p3, g3⟩ := q3
  obtain ⟨d4, p4, g4⟩ := q4
  obtain ⟨d5, p5, g5⟩ := q5
  rw [hl]
  have ev : ∀ (env : T AV) (t : Nat), t < 256 → aEval 8 env (.tmp t) = some (eget 8 env t) := fun env t ht => by
    simp only [aEval]; rw [if_pos]; exact Nat.ble_eq_true_of_le (show t + 1 ≤ 2 ^ 8 by omega)
  have same : ∀ (env : T AV) t v, eget 8 (put 8 env (some t) v) t = v := fun env t v => eget_put_same env t v
  have hm : (0 : Int) ≤ fwrap .u64 page ∧ fwrap .u64 page < 18446744073709551616 := by
    rw [fwrap_eq]; simp [IntKind.wrap, IntKind.bits, IntKind.signed]; omega
  obtain ⟨m, hmm⟩ : ∃ m : Nat, fwrap .u64 page = Int.ofNat m := ⟨(fwrap .u64 page).toNat, by simp; omega⟩
  have hr : (fwrap .u64 page).tmod 3 = Int.ofNat (m % 3) := by rw [hmm]; rfl
  have hlt : m % 3 < 3 := Nat.mod_lt _ (by omega)
  have hc : fwrap .i64 (Int.ofNat (m % 3)) = Int.ofNat (m % 3) := by
    have : ∀ j, j < 3 → fwrap .i64 (Int.ofNat j) = Int.ofNat j := by decide
    exact this _ hlt
  refine ⟨m % 3, hlt, ?_⟩
  rw [aOps_one g0 (by rw [p0]; simp) (v := .int .i64 page) (s' := s) (by rw [p0]; show pureSt s (aEval 8 env (.tmp 0)) = _; rw [ev _ 0 (by omega), h0]; rfl), d0]
  rw [aOps_one g1 (by rw [p1]; simp) (v := .int .u64 (fwrap .u64 page)) (s' := s) (by
    rw [p1]; show sConvert 3 25 (.tmp 32) C 8 _ s = _
    unfold sConvert; rw [ev _ 32 (by omega), same, hP]; exact conv1 s page), d1]
  rw [aOps_one g2 (by rw [p2]; simp) (v := .int .u64 (Int.ofNat (m % 3))) (s' := s) (by
    rw [p2]; show sBinOp .rem 25 (.tmp 33) (.const (.int .u64 3)) C 8 _ s = _
    unfold sBinOp; rw [ev _ 33 (by omega), same]
    show pureSt s (aBin C.P .rem 25 (.tmp 33) (.const (.int .u64 3)) (.int .u64 (fwrap .u64 page)) (.int .u64 (.ofNat 3))) = _
    rw [rem3, hr]; rfl), d2]
  rw [aOps_one g3 (by rw [p3]; simp) (v := .int .i64 (Int.ofNat (m % 3))) (s' := s) (by
    rw [p3]; show sConvert 25 3 (.tmp 34) C 8 _ s = _
    unfold sConvert; rw [ev _ 34 (by omega), same, hP]; show aConvert P0 25 3 s (.int .u64 (.ofNat (m % 3))) = _; rw [conv2, hc]), d3]
  rw [aOps_one g4 (by rw [p4]; simp) (v := .int .i64 (Int.ofNat (m % 3))) (s' := s) (by
    rw [p4]; show pureSt s (aEval 8 _ (.tmp 35)) = _; rw [ev _ 35 (by omega), same]; rfl), d4]
  rw [aOps_one g5 (by rw [p5]; simp) (v := .int .i64 (Int.ofNat 3)) (s' := s) (by rw [p5]; rfl), d5]
  rfl

/-- The law's frame; what is known of its calls. -/
noncomputable def ctx (known : Nat → Option Fun) : Ctx := ⟨P0, aCall P0 ext0 known drawnRun fuel0 60 false, aCall P0 ext0 known drawnRun fuel0 60 true, ext0⟩
noncomputable def env3 (known : Nat → Option Fun) : Env := ⟨ctx known, 8, 194, drawnRun (ctx known) 8 194⟩
def fr3 (page : Int) : Fr := ⟨enter 8 [.int .i64 page] 0 .e, []⟩
/-- The whole law, at a page that is k more than a multiple of three. -/
noncomputable def whole (known : Nat → Option Fun) (page : Int) (k : Nat) : Bool :=
  match headRun (env3 known) fuel0 4 c3 (fr3 page) ⟨.e, 0⟩ with
  | some (fr, s) => match exec (env3 known) fuel0 rest7 ⟨after fr.env page k, []⟩ s with
    | some (x, fr', s') => match x with
      | .exit _ => false
      | _ => match fr'.dfs with
        | [] => match eget 8 fr'.env 2 with
          | .bool true => true
          | _ => false
        | _ => false
    | none => false
  | none => false
/-- What the first parts leave as it was. -/
noncomputable def heads (known : Nat → Option Fun) (page : Int) : Option (AV × Nat) :=
  match headRun (env3 known) fuel0 4 c3 (fr3 page) ⟨.e, 0⟩ with
  | some (fr, s) => some (eget 8 fr.env 0, fr.dfs.length)
  | none => none

theorem ctx_ok {known : Nat → Option Fun} (hK : ∀ w0, KnownOk P0 w0 known) (w0 : World) : CtxOk (ctx known) w0 := ⟨fun f args s v s' h r w vs hw hv => by
    obtain ⟨k1, k2, _⟩ := aCall_ok names0 (ext0_ok w0) (hK w0) (drawn0 w0) 60 false f args s v s' h r w vs hw hv
    exact ⟨k1, k2⟩, fun f e hfe => ext0_ok w0 f e hfe⟩

theorem start_rel0 (w : World) : WRel w ⟨fun _ => none, 0⟩ ⟨.e, 0⟩ w :=
  ⟨Below.refl _ _, rfl, by decide, fun b p h => (nomatch h), fun b o p h hr => (nomatch hr), fun b b' o o' p p' h1 h2 h3 => (nomatch h3)⟩

noncomputable def KD : Nat → Option Fun := withCuts P0 ext0 K0 drawnRun fuel0 cuts3

theorem locks_ok {K : Nat → Option Fun} (hK : ∀ w0, KnownOk P0 w0 K) {page : Int} (hH : heads K page = some (.int .i64 page, 0)) (hW : ∀ k, k < 3 → whole K page k = true) (w : World) :
    Calls P0 3 #[.int .i64 page] w fun e w' => e = .returned (.bool true) ∧ Below w.heap.size w w' := by
  obtain ⟨fn, hfn, hc, hn, hres⟩ := body3
  have hC := ctx_ok hK w
  have hD : DrawnOk (env3 K).C.P w (env3 K).d (env3 K).n (env3 K).drawn := drawn0 w (ctx K) rfl hC 8 194
  have hs : FRel ⟨fun _ => none, 0⟩ 8 194 (fr3 page) { tmps := #[Value.int .i64 page] ++ Array.replicate (fn.ntmps - (#[Value.int .i64 page] : Array Value).size) undef, defers := [] } := by
    rw [hn]
    exact start_rel (n := 194) (by decide) (args := [.int .i64 page]) (vs := [.int .i64 page]) (VsRel.cons (by simp only [VRel]) VsRel.nil) (by simp)
  unfold heads at hH
  split at hH
  case h_2 => cases hH
  rename_i fr1 s1 hrun
  simp only [Option.some.injEq, Prod.mk.injEq] at hH
  obtain ⟨h0, hd0⟩ := hH
  have hd0 : fr1.dfs = [] := List.eq_nil_of_length_eq_zero hd0
  refine calls_of_wp_defers hfn hc (headRun_ok (E := env3 K) hC hD 4 c3 (fr3 page) ⟨.e, 0⟩ fr1 s1 hrun _ _ w hs (start_rel0 w) fun r1 a1 w1 g1 g2 g3 => ?_)
  rw [drop6]
  obtain ⟨k, hk, hops⟩ := r6_ok (C := ctx K) rfl ops6_is (s := s1) (dfs := fr1.dfs) h0
  have hex : exec (env3 K) 1 (.region 6 ops6 false) fr1 s1 = some (.normal, ⟨after fr1.env page k, fr1.dfs⟩, s1) := by
    have e : exec (env3 K) 1 (.region 6 ops6 false) fr1 s1 = (match regOk 194 ops6 with
      | true => match aOps (ctx K) 8 ops6 ops6.toList fr1 s1 with
        | some (fr, s) => some (.normal, fr, s)
        | none => none
      | false => none) := rfl
    rw [e, reg6]
    simp only
    rw [show fr1 = ⟨fr1.env, fr1.dfs⟩ from rfl, hops]
  refine wp_seq (wp_mono (exec_ok (E := env3 K) hC hD 1 _ fr1 s1 _ _ _ hex r1 a1 w1 g2 g3) fun e a2 w2 he => ?_)
  obtain ⟨rfl, r2, i1, i2, i3⟩ := he
  have hw := hW k hk
  unfold whole at hw
  rw [hrun] at hw
  simp only at hw
  rw [hd0] at i2
  split at hw
  case h_2 => cases hw
  rename_i x fr' s' hx
  refine wp_mono (exec_ok (E := env3 K) hC hD fuel0 rest7 _ s1 x fr' s' hx r2 a2 w2 i2 i3) fun e a3 w3 he => ?_
  obtain ⟨rfl, r3, j1, j2, j3⟩ := he
  split at hw
  · cases hw
  rename_i hne
  split at hw
  case h_2 => cases hw
  rename_i hdf
  split at hw
  case h_2 => cases hw
  rename_i hret
  have hds : a3.defers = [] := by
    have := j2.dfs
    rw [hdf] at this
    cases hh : a3.defers with
    | nil => rfl
    | cons _ _ => rw [hh] at this; exact this.elim
  have hl : aResult P0 8 fr'.env s' fn.results.toList = some [.bool true] := by
    rw [hres]
    show (if Nat.blt 2 (2 ^ 8) = true then some (eget 8 fr'.env 2 :: []) else none) = _
    rw [if_pos (by decide), hret]
  obtain ⟨z, z1, z2⟩ := results_ok (P := P0) (fn := fn) j3 j2.env hl
  have hz : z = .bool true := by simpa only [tupled, VRel] using z2
  have hDk : DOk ⟨P0, fun _ _ _ => none, fun _ _ _ => none, ext0⟩ w := ⟨fun _ _ _ _ _ h => by cases h⟩
  have := leaves_ok (C := ⟨P0, fun _ _ _ => none, fun _ _ _ => none, ext0⟩) hDk (fn := fn) (a := a3) (R := fun e w' => e = .returned (.bool true) ∧ Below w.heap.size w w') (s' := s') [] [] s' r3 w3 rfl trivial j3
    fun r' w' q1 q2 => by
      obtain ⟨z', z1', z2'⟩ := results_ok (P := P0) (fn := fn) q2 (j2.env.mono q1) hl
      exact ⟨z', z1', by rw [show z' = .bool true by simpa only [tupled, VRel] using z2'], q2.below⟩
  rw [← hds] at this
  cases x with
  | exit id => exact (hne id rfl).elim
  | normal => exact this
  | ret => exact this
end
end Go.X

/- What is known, with cuts. -/
namespace Go.X
noncomputable section
noncomputable def KA : Nat → Option Fun := withCuts P0 ext0 K0 drawnRun fuel0 cuts1
noncomputable def KB : Nat → Option Fun := withCuts P0 ext0 K0 drawnRun fuel0 cuts2
end
end Go.X
