/- The program, and what is known of its functions without their code. -/
import Derived.Test.YtbnldlojlbbgbaaGreatDoorXh
import Derived.Test.YtbnldlojlbbgbaaGreatDoorXi
import Derived.KernelRfl
set_option linter.unusedVariables false
set_option linter.unusedSimpArgs false

namespace Go.X
noncomputable section
open Go.Proofs
set_option linter.unusedVariables false

noncomputable def P0 : Program := Tryz.prog
def fuel0 : Nat := 20000

def ext0 (f : Nat) : Option Fun :=
  match Nat.blt f 115 with
  | true => none
  | false => match Nat.beq f 313 with
  | true => some (Xt.run (.cas .i32))
  | false => match Nat.beq f 318 with
  | true => some (Xt.run (.add .i32))
  | false => match Nat.beq f 312 with
  | true => some (Xt.run .nop)
  | false => match Nat.beq f 314 with
  | true => some (Xt.run .nop)
  | false => match Nat.beq f 315 with
  | true => some (Xt.run .mark)
  | false => match Nat.beq f 317 with
  | true => some (Xt.run .mark)
  | false => match Nat.beq f 115 with
  | true => some (Xt.run (.add .i64))
  | false => match Nat.beq f 228 with
  | true => some (Xt.run (.load .u32))
  | false => match Nat.beq f 283 with
  | true => some (Xt.run (.store .u32))
  | false => match Nat.beq f 297 with
  | true => some (Xt.run .indexStr)
  | false => match Nat.beq f 224 with
  | true => some (Xt.run .count)
  | false => none

noncomputable def viaM (f : Nat) : Fun := viaB ⟨P0, aCall P0 ext0 (fun _ => none) drawnRun fuel0 30 false, aCall P0 ext0 (fun _ => none) drawnRun fuel0 30 true, ext0⟩ drawnRun fuel0 f

noncomputable def K0 (f : Nat) : Option Fun :=
  match Nat.beq f 91 with
  | true => some kCheck
  | false => match Nat.beq f 84 with
  | true => some kSettle
  | false => match Nat.beq f 100 with
  | true => some (kIs 29)
  | false => match Nat.beq f 142 with
  | true => some (viaM 142)
  | false => match Nat.beq f 71 with
  | true => some (viaM 71)
  | false => none
end
end Go.X

/- Part of the proof. -/
namespace Go.X
noncomputable section
open Go.Proofs
set_option maxRecDepth 100000
theorem namesB : (Tryz.prog.funcs.toList.all fun fn => !(fn.name == "runtime.NumGoroutine")) = true := by kernel_rfl
theorem names0 : NamesOk P0 := by
  intro f fn hf e
  have h := List.all_eq_true.1 namesB fn (by
    have : Tryz.prog.funcs[f]? = some fn := hf
    exact Array.mem_toList_iff.2 (Array.mem_of_getElem? this))
  rw [e] at h
  simp at h
theorem mixed0 : P0.follows .mixedOrders = true := by kernel_rfl

theorem x115 : IsExt P0 115 (Xt.entry (.add .i64)) := ⟨⟨P0.funcs.getD 115 default, by kernel_rfl, by kernel_rfl, by kernel_rfl, by kernel_rfl, by kernel_rfl⟩⟩
theorem x318 : IsExt P0 318 (Xt.entry (.add .i32)) := ⟨⟨P0.funcs.getD 318 default, by kernel_rfl, by kernel_rfl, by kernel_rfl, by kernel_rfl, by kernel_rfl⟩⟩
theorem x313 : IsExt P0 313 (Xt.entry (.cas .i32)) := ⟨⟨P0.funcs.getD 313 default, by kernel_rfl, by kernel_rfl, by kernel_rfl, by kernel_rfl, by kernel_rfl⟩⟩
theorem x228 : IsExt P0 228 (Xt.entry (.load .u32)) := ⟨⟨P0.funcs.getD 228 default, by kernel_rfl, by kernel_rfl, by kernel_rfl, by kernel_rfl, by kernel_rfl⟩⟩
theorem x283 : IsExt P0 283 (Xt.entry (.store .u32)) := ⟨⟨P0.funcs.getD 283 default, by kernel_rfl, by kernel_rfl, by kernel_rfl, by kernel_rfl, by kernel_rfl⟩⟩
theorem x297 : IsExt P0 297 (Xt.entry .indexStr) := ⟨⟨P0.funcs.getD 297 default, by kernel_rfl, by kernel_rfl, by kernel_rfl, by kernel_rfl, by kernel_rfl⟩⟩
theorem x224 : IsExt P0 224 (Xt.entry .count) := ⟨⟨P0.funcs.getD 224 default, by kernel_rfl, by kernel_rfl, by kernel_rfl, by kernel_rfl, by kernel_rfl⟩⟩
theorem x312 : IsExt P0 312 (fun _ => do Go.mark .disable; pure Extern.Race.none_) := ⟨⟨P0.funcs.getD 312 default, by kernel_rfl, by kernel_rfl, by kernel_rfl, by kernel_rfl, by kernel_rfl⟩⟩
theorem x314 : IsExt P0 314 (fun _ => do Go.mark .enable; pure Extern.Race.none_) := ⟨⟨P0.funcs.getD 314 default, by kernel_rfl, by kernel_rfl, by kernel_rfl, by kernel_rfl, by kernel_rfl⟩⟩
theorem x315 : IsExt P0 315 (Extern.Race.marked .acquire) := ⟨⟨P0.funcs.getD 315 default, by kernel_rfl, by kernel_rfl, by kernel_rfl, by kernel_rfl, by kernel_rfl⟩⟩
theorem x317 : IsExt P0 317 (Extern.Race.marked .releaseMerge) := ⟨⟨P0.funcs.getD 317 default, by kernel_rfl, by kernel_rfl, by kernel_rfl, by kernel_rfl, by kernel_rfl⟩⟩

theorem ext0_ok (w0 : World) : ExtOk P0 w0 ext0 := by
  intro f e he args s v s' h r w vs hw hv
  unfold ext0 at he
  have go : ∀ {n : Nat} {t : Xt}, Nat.beq f n = true → (IsExt P0 n t.entry ∨ (∃ m, t = .nop ∧ IsExt P0 n fun _ => do Go.mark m; pure Extern.Race.none_) ∨ ∃ m, t = .mark ∧ IsExt P0 n (Extern.Race.marked m)) → t.run = e →
      ∃ r' w' u, r.le r' ∧ (callFunc f vs.toArray).run P0 w = .ok (.value u) w' ∧ VRel r' v u ∧ WRel w0 r' s' w' := by
    intro n t hn hx ht
    have := Nat.eq_of_beq_eq_true hn; subst this
    subst ht
    exact xt_ok hx h hw hv
  repeat' split at he
  all_goals first | (cases he; done) | skip
  all_goals (injection he with he)
  · exact go ‹_› (.inl x313) he
  · exact go ‹_› (.inl x318) he
  · exact go ‹_› (.inr (.inl ⟨_, rfl, x312⟩)) he
  · exact go ‹_› (.inr (.inl ⟨_, rfl, x314⟩)) he
  · exact go ‹_› (.inr (.inr ⟨_, rfl, x315⟩)) he
  · exact go ‹_› (.inr (.inr ⟨_, rfl, x317⟩)) he
  · exact go ‹_› (.inl x115) he
  · exact go ‹_› (.inl x228) he
  · exact go ‹_› (.inl x283) he
  · exact go ‹_› (.inl x297) he
  · exact go ‹_› (.inl x224) he

theorem drawn0 (w0 : World) (C : Ctx) (hP : C.P = P0) (hC : CtxOk C w0) (d n : Nat) : DrawnOk P0 w0 d n (drawnRun C d n) :=
  fun id ops fr s fr' s' h1 h2 r a w hf hw => drawnRun_ok mixed0 hP hC d n hf.env.le id ops fr s fr' s' h1 h2 r a w hf hw

theorem none_ok (w0 : World) : KnownOk P0 w0 (fun _ => none) := by
  intro f k hk; cases hk

theorem runs {f : Nat} (h : ∃ fn c, P0.funcs[f]? = some fn ∧ fn.body = some c) (args : Array Value) (w : World) : (callFunc f args).run P0 w = .ok (.enter f args) w := by
  obtain ⟨fn, c, h1, h2⟩ := h
  exact callFunc_run names0 h1 h2 args w
theorem b91 : ∃ fn c, P0.funcs[91]? = some fn ∧ fn.body = some c := ⟨P0.funcs.getD 91 default, (P0.funcs.getD 91 default).body.getD .skip, by kernel_rfl, by kernel_rfl⟩
theorem b84 : ∃ fn c, P0.funcs[84]? = some fn ∧ fn.body = some c := ⟨P0.funcs.getD 84 default, (P0.funcs.getD 84 default).body.getD .skip, by kernel_rfl, by kernel_rfl⟩
theorem b100 : ∃ fn c, P0.funcs[100]? = some fn ∧ fn.body = some c := ⟨P0.funcs.getD 100 default, (P0.funcs.getD 100 default).body.getD .skip, by kernel_rfl, by kernel_rfl⟩

theorem via_ok {w0 : World} {f : Nat} {args : List AV} {s : St} {v : AV} {s' : St} (h : viaM f args s = some (v, s')) {r : Ren} {w : World} {vs : List Value} (hw : WRel w0 r s w) (hv : VsRel r args vs) :
    (callFunc f vs.toArray).run P0 w = .ok (.enter f vs.toArray) w ∧ Calls P0 f vs.toArray w (CallPost w0 r v s') := by
  have hC : CtxOk ⟨P0, aCall P0 ext0 (fun _ => none) drawnRun fuel0 30 false, aCall P0 ext0 (fun _ => none) drawnRun fuel0 30 true, ext0⟩ w0 := ⟨fun f args s v s' h r w vs hw hv => by
    obtain ⟨k1, k2, _⟩ := aCall_ok names0 (ext0_ok w0) (none_ok w0) (drawn0 w0) 30 false f args s v s' h r w vs hw hv
    exact ⟨k1, k2⟩, fun f e hfe => ext0_ok w0 f e hfe⟩
  exact viaB_ok (C := ⟨P0, aCall P0 ext0 (fun _ => none) drawnRun fuel0 30 false, aCall P0 ext0 (fun _ => none) drawnRun fuel0 30 true, ext0⟩) names0 hC (fun d n => drawn0 w0 _ rfl hC d n) h hw hv

theorem K0_ok (w0 : World) : KnownOk P0 w0 K0 := by
  intro f k hk args s v s' h r w vs hw hv
  unfold K0 at hk
  split at hk
  · rename_i hf; have := Nat.eq_of_beq_eq_true hf; subst this; cases hk
    exact ⟨runs b91 _ w, kCheck_ok h hw hv⟩
  split at hk
  · rename_i hf; have := Nat.eq_of_beq_eq_true hf; subst this; cases hk
    exact ⟨runs b84 _ w, kSettle_ok h hw hv⟩
  split at hk
  · rename_i hf; have := Nat.eq_of_beq_eq_true hf; subst this; cases hk
    exact ⟨runs b100 _ w, kIs_ok h hw hv⟩
  split at hk
  · rename_i hf; have := Nat.eq_of_beq_eq_true hf; subst this; cases hk
    exact via_ok h hw hv
  split at hk
  · rename_i hf; have := Nat.eq_of_beq_eq_true hf; subst this; cases hk
    exact via_ok h hw hv
  cases hk

theorem cut0 {f : Nat} {c : Cut} (h : cutRun P0 ext0 K0 drawnRun fuel0 f c = true) : CutOk P0 f c := cutRun_ok names0 ext0_ok K0_ok drawn0 h
theorem with0 {cuts : Nat → List Cut} (hc : ∀ f, ∀ c ∈ cuts f, CutOk P0 f c) (w0 : World) : KnownOk P0 w0 (withCuts P0 ext0 K0 drawnRun fuel0 cuts) := withCuts_ok names0 ext0_ok K0_ok drawn0 hc w0
theorem cut1 {cuts : Nat → List Cut} (hc : ∀ f, ∀ c ∈ cuts f, CutOk P0 f c) {f : Nat} {c : Cut} (h : cutRun P0 ext0 (withCuts P0 ext0 K0 drawnRun fuel0 cuts) drawnRun fuel0 f c = true) : CutOk P0 f c := cutRun_ok names0 ext0_ok (with0 hc) drawn0 h
end
end Go.X
