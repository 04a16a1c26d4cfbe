/- Three long calls that read a counter, run. -/
import Derived.Test.YtbnldlojlbbgbaaGreatDoorXl
import Derived.KernelRfl
set_option linter.unusedVariables false
set_option linter.unusedSimpArgs false

namespace Go.X
noncomputable section
set_option maxRecDepth 100000
def ext1 (f : Nat) : Option Fun := match Nat.beq f 326 with
  | true => some (Xt.run (.load .i64))
  | false => ext0 f
theorem x326 : IsExt P0 326 (Xt.entry (.load .i64)) := ⟨⟨P0.funcs.getD 326 default, by kernel_rfl, by kernel_rfl, by kernel_rfl, by kernel_rfl, by kernel_rfl⟩⟩
theorem ext1_ok (w0 : World) : ExtOk P0 w0 ext1 := by
  intro f e he args s v s' h r w vs hw hv
  unfold ext1 at he
  split at he
  · rename_i hf
    have := Nat.eq_of_beq_eq_true hf
    subst this
    injection he with he
    subst he
    exact xt_ok (.inl x326) h hw hv
  · exact ext0_ok w0 f e he args s v s' h r w vs hw hv
theorem c13830_run : cutRun P0 ext1 KL1 drawnRun fuel0 38 c13830 = true := by kernel_rfl
theorem c14670_run : cutRun P0 ext1 KL1 drawnRun fuel0 39 c14670 = true := by kernel_rfl
theorem c14886_run : cutRun P0 ext1 KL1 drawnRun fuel0 22 c14886 = true := by kernel_rfl
end
end Go.X
