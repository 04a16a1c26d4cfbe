/- A law without a loop of its own: from what its long calls answer. -/
import Derived.Test.YtbnldlojlbbgbaaGreatDoorXj
import Derived.Test.YtbnldlojlbbgbaaGreatDoorXCd0
import Derived.Test.YtbnldlojlbbgbaaGreatDoorXCd1
import Derived.Test.YtbnldlojlbbgbaaGreatDoorXCd2
set_option linter.unusedVariables false
set_option linter.unusedSimpArgs false

namespace Go.X
noncomputable section
open Go.Proofs Go.RowKit
set_option linter.unusedVariables false

/-- Does the whole call answer true? -/
noncomputable def topRun (K : Nat → Option Fun) (f : Nat) (args : List AV) : Bool :=
  match aCall P0 ext0 K drawnRun fuel0 60 false f args ⟨.e, 0⟩ with
  | some (v, _) => match v with
    | .bool true => true
    | _ => false
  | none => false

theorem start_rel0 (w : World) : WRel w ⟨fun _ => none, 0⟩ ⟨.e, 0⟩ w :=
  ⟨Below.refl _ _, rfl, by decide, fun b p h => (nomatch h), fun b o p h hr => (nomatch hr), fun b b' o o' p p' h1 h2 h3 => (nomatch h3)⟩

theorem top_ok {K : Nat → Option Fun} (hK : ∀ w0, KnownOk P0 w0 K) {f : Nat} {args : List AV} {vs : List Value} (h : topRun K f args = true) (hv : VsRel ⟨fun _ => none, 0⟩ args vs) (w : World) :
    Calls P0 f vs.toArray w fun e w' => e = .returned (.bool true) ∧ Below w.heap.size w w' := by
  unfold topRun at h
  split at h
  · rename_i v s hc
    split at h
    · obtain ⟨_, k, _⟩ := aCall_ok names0 (ext0_ok w) (hK w) (drawn0 w) 60 false f args _ _ s hc _ w vs (start_rel0 w) hv
      refine k.mono fun e w' he => ?_
      cases e with
      | returned z =>
        obtain ⟨r', _, i2, i3⟩ := he
        exact ⟨by rw [show z = .bool true by simpa only [VRel] using i2], i3.below⟩
      | panicked c => exact he.elim
      | outgrown => exact he.elim
    · cases h
  · cases h
end
end Go.X

/- What is known, with cuts. -/
namespace Go.X
noncomputable section
def cuts1 (f : Nat) : List Cut := (match Nat.beq f 24 with | true => [c4] | false => (match Nat.beq f 27 with | true => [c9178, c9503, c9894, c10287, c10941] | false => (match Nat.beq f 34 with | true => [c15960, c16102, c16240, c16382, c16520] | false => (match Nat.beq f 139 with | true => [c14718, c14936] | false => (match Nat.beq f 148 with | true => [c11601, c12722, c13886] | false => (match Nat.beq f 263 with | true => [c13858, c14699, c14917] | false => []))))))
noncomputable def KL1 : Nat → Option Fun := withCuts P0 ext0 K0 drawnRun fuel0 cuts1
def cuts2 (f : Nat) : List Cut := (match Nat.beq f 13 with | true => [c15957] | false => (match Nat.beq f 22 with | true => [c14886, c15135, c15314, c15455, c15626, c15767] | false => (match Nat.beq f 24 with | true => [c4] | false => (match Nat.beq f 27 with | true => [c9178, c9503, c9894, c10287, c10941] | false => (match Nat.beq f 34 with | true => [c15960, c16102, c16240, c16382, c16520] | false => (match Nat.beq f 38 with | true => [c11468, c12689, c13830] | false => (match Nat.beq f 39 with | true => [c12384, c13506, c14670] | false => (match Nat.beq f 139 with | true => [c14718, c14936] | false => (match Nat.beq f 148 with | true => [c11601, c12722, c13886] | false => (match Nat.beq f 263 with | true => [c13858, c14699, c14917] | false => []))))))))))
noncomputable def KL2 : Nat → Option Fun := withCuts P0 ext0 K0 drawnRun fuel0 cuts2
def cuts3 (f : Nat) : List Cut := (match Nat.beq f 13 with | true => [c15957] | false => (match Nat.beq f 14 with | true => [c11432, c12657, c13795] | false => (match Nat.beq f 22 with | true => [c14886, c15135, c15314, c15455, c15626, c15767] | false => (match Nat.beq f 24 with | true => [c4] | false => (match Nat.beq f 27 with | true => [c9178, c9503, c9894, c10287, c10941] | false => (match Nat.beq f 34 with | true => [c15960, c16102, c16240, c16382, c16520] | false => (match Nat.beq f 38 with | true => [c11468, c12689, c13830] | false => (match Nat.beq f 39 with | true => [c12384, c13506, c14670] | false => (match Nat.beq f 139 with | true => [c14718, c14936] | false => (match Nat.beq f 148 with | true => [c11601, c12722, c13886] | false => (match Nat.beq f 263 with | true => [c13858, c14699, c14917] | false => [])))))))))))
noncomputable def KL3 : Nat → Option Fun := withCuts P0 ext0 K0 drawnRun fuel0 cuts3
def cuts4 (f : Nat) : List Cut := (match Nat.beq f 8 with | true => [c13762, c15600] | false => (match Nat.beq f 12 with | true => [c2] | false => (match Nat.beq f 13 with | true => [c15957] | false => (match Nat.beq f 14 with | true => [c11432, c12657, c13795] | false => (match Nat.beq f 22 with | true => [c14886, c15135, c15314, c15455, c15626, c15767] | false => (match Nat.beq f 24 with | true => [c4] | false => (match Nat.beq f 27 with | true => [c9178, c9503, c9894, c10287, c10941] | false => (match Nat.beq f 34 with | true => [c15960, c16102, c16240, c16382, c16520] | false => (match Nat.beq f 38 with | true => [c11468, c12689, c13830] | false => (match Nat.beq f 39 with | true => [c12384, c13506, c14670] | false => (match Nat.beq f 139 with | true => [c14718, c14936] | false => (match Nat.beq f 148 with | true => [c11601, c12722, c13886] | false => (match Nat.beq f 263 with | true => [c13858, c14699, c14917] | false => [])))))))))))))
noncomputable def KL4 : Nat → Option Fun := withCuts P0 ext0 K0 drawnRun fuel0 cuts4
def cuts5 (f : Nat) : List Cut := (match Nat.beq f 4 with | true => [c1] | false => (match Nat.beq f 8 with | true => [c13762, c15600] | false => (match Nat.beq f 12 with | true => [c2] | false => (match Nat.beq f 13 with | true => [c15957] | false => (match Nat.beq f 14 with | true => [c11432, c12657, c13795] | false => (match Nat.beq f 22 with | true => [c14886, c15135, c15314, c15455, c15626, c15767] | false => (match Nat.beq f 24 with | true => [c4] | false => (match Nat.beq f 27 with | true => [c9178, c9503, c9894, c10287, c10941] | false => (match Nat.beq f 34 with | true => [c15960, c16102, c16240, c16382, c16520] | false => (match Nat.beq f 38 with | true => [c11468, c12689, c13830] | false => (match Nat.beq f 39 with | true => [c12384, c13506, c14670] | false => (match Nat.beq f 139 with | true => [c14718, c14936] | false => (match Nat.beq f 148 with | true => [c11601, c12722, c13886] | false => (match Nat.beq f 263 with | true => [c13858, c14699, c14917] | false => []))))))))))))))
noncomputable def KL5 : Nat → Option Fun := withCuts P0 ext0 K0 drawnRun fuel0 cuts5
def cuts0 (f : Nat) : List Cut := (match Nat.beq f 24 with | true => [c4] | false => (match Nat.beq f 148 with | true => [c11601, c12722, c13886] | false => []))
noncomputable def KL0 : Nat → Option Fun := withCuts P0 ext0 K0 drawnRun fuel0 cuts0
end
end Go.X
