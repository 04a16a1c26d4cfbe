/- The law ArrayNone: for every root and index the calls without a space answer that it is dead, and the arguments read behind the call as they read before; the package variables that the row lists are tied to the program's text. No condition beyond the row's own. -/
import Derived.Test.YtbnldlojlbbgbaaGreatDoorXW
import Derived.Test.YtbnldlojlbbgbaaGreatDoorXQ
import Derived.Test.YtbnldlojlbbgbaaGreatDoorXLp4
import Derived.Test.YtbnldlojlbbgbaaGreatDoorXLp11601
import Derived.Test.YtbnldlojlbbgbaaGreatDoorXLp12722
import Derived.Test.YtbnldlojlbbgbaaGreatDoorXLp13886
import Derived.Test.YtbnldlojlbbgbaaGreatDoorXCr0
import Derived.Test.YtbnldlojlbbgbaaGreatDoorXCr1
import Derived.Test.YtbnldlojlbbgbaaGreatDoorXCr2
import Derived.Test.YtbnldlojlbbgbaaGreatDoorXCr3
import Derived.Test.YtbnldlojlbbgbaaGreatDoorXCr4
import Derived.Test.YtbnldlojlbbgbaaGreatDoorXCr5
import Derived.Test.YtbnldlojlbbgbaaGreatDoorXCr6
import Derived.Test.YtbnldlojlbbgbaaGreatDoorXCr7
import Derived.Test.YtbnldlojlbbgbaaGreatDoorXCr8
import Derived.Test.YtbnldlojlbbgbaaGreatDoorXCr9
import Derived.Test.YtbnldlojlbbgbaaGreatDoorXCr10
import Derived.Test.YtbnldlojlbbgbaaGreatDoorXCr11
import Derived.Test.YtbnldlojlbbgbaaGreatDoorXCr12
import Derived.Test.YtbnldlojlbbgbaaGreatDoorXCr13
import Derived.Test.YtbnldlojlbbgbaaGreatDoorXCr14
import Derived.Test.YtbnldlojlbbgbaaGreatDoorXCr15
import Derived.Test.YtbnldlojlbbgbaaGreatDoorXCr16
import Derived.Test.YtbnldlojlbbgbaaGreatDoorXCr17
import Derived.Test.YtbnldlojlbbgbaaGreatDoorRows
import Derived.Test.YtbnldlojlbbgbaaGreatDoorTie
import Derived.Test.YtbnldlojlbbgbaaGreatDoorCards
import Derived.ProofKit
import Derived.LaidMore
import Derived.OpenShut
import Derived.Stop.Joined
import Derived.SizedLaws
import Derived.ChangeOld
import Derived.SevenTiedAt
import Derived.Test.YtbnldlojlbbgbaaGreatDoorXy
set_option linter.unusedVariables false
set_option linter.unusedSimpArgs false

namespace Go.X
open Go.Proofs Go.RowKit
set_option linter.unusedVariables false
theorem ok4 : CutOk P0 24 c4 := by
  obtain ⟨fn, hfn, hc, hn, hres⟩ := lfn4
  obtain ⟨fr, s, fr', s', l, h1, h2, h3, h4, h5, h6⟩ := loopEnd_ok lend4
  have ch : Chain lenv4 lb4 (.exit 0, fr, s) (fuel0 + 1) (p4x30.fr lenv4.d) p4x30.st := .last h1
  have ch := batch_ok b4x29 ch
  have ch := batch_ok b4x28 ch
  have ch := batch_ok b4x27 ch
  have ch := batch_ok b4x26 ch
  have ch := batch_ok b4x25 ch
  have ch := batch_ok b4x24 ch
  have ch := batch_ok b4x23 ch
  have ch := batch_ok b4x22 ch
  have ch := batch_ok b4x21 ch
  have ch := batch_ok b4x20 ch
  have ch := batch_ok b4x19 ch
  have ch := batch_ok b4x18 ch
  have ch := batch_ok b4x17 ch
  have ch := batch_ok b4x16 ch
  have ch := batch_ok b4x15 ch
  have ch := batch_ok b4x14 ch
  have ch := batch_ok b4x13 ch
  have ch := batch_ok b4x12 ch
  have ch := batch_ok b4x11 ch
  have ch := batch_ok b4x10 ch
  have ch := batch_ok b4x9 ch
  have ch := batch_ok b4x8 ch
  have ch := batch_ok b4x7 ch
  have ch := batch_ok b4x6 ch
  have ch := batch_ok b4x5 ch
  have ch := batch_ok b4x4 ch
  have ch := batch_ok b4x3 ch
  have ch := batch_ok b4x2 ch
  have ch := batch_ok b4x1 ch
  have ch := batch_ok b4x0 ch
  exact loopCut_ok (E := lenv4) (known := K0) (fuel' := fuel0) (d := 6) (a := (some la4)) names0 ext0_ok K0_ok drawn0 hfn hc (by rw [hn]; rfl) (by rw [hn]; exact Nat.le_of_ble_eq_true rfl) (by rw [hn]; decide) lcode4 (by rw [hn]; rfl) lhead4 ch rfl h2 h3 (by rw [hres]; exact h4) h5 h6
theorem ok11601 : CutOk P0 148 c11601 := by
  obtain ⟨fn, hfn, hc, hn, hres⟩ := lfn11601
  obtain ⟨fr, s, fr', s', l, h1, h2, h3, h4, h5, h6⟩ := loopEnd_ok lend11601
  have ch : Chain lenv11601 lb11601 (.exit 0, fr, s) (fuel0 + 1) (p11601x2.fr lenv11601.d) p11601x2.st := .last h1
  have ch := batch_ok b11601x1 ch
  have ch := batch_ok b11601x0 ch
  exact loopCut_ok (E := lenv11601) (known := K0) (fuel' := fuel0) (d := 6) (a := .none) names0 ext0_ok K0_ok drawn0 hfn hc (by rw [hn]; rfl) (by rw [hn]; exact Nat.le_of_ble_eq_true rfl) (by rw [hn]; decide) lcode11601 (by rw [hn]; rfl) lhead11601 ch rfl h2 h3 (by rw [hres]; exact h4) h5 h6
theorem ok12722 : CutOk P0 148 c12722 := by
  obtain ⟨fn, hfn, hc, hn, hres⟩ := lfn12722
  obtain ⟨fr, s, fr', s', l, h1, h2, h3, h4, h5, h6⟩ := loopEnd_ok lend12722
  have ch : Chain lenv12722 lb12722 (.exit 0, fr, s) (fuel0 + 1) (p12722x2.fr lenv12722.d) p12722x2.st := .last h1
  have ch := batch_ok b12722x1 ch
  have ch := batch_ok b12722x0 ch
  exact loopCut_ok (E := lenv12722) (known := K0) (fuel' := fuel0) (d := 6) (a := .none) names0 ext0_ok K0_ok drawn0 hfn hc (by rw [hn]; rfl) (by rw [hn]; exact Nat.le_of_ble_eq_true rfl) (by rw [hn]; decide) lcode12722 (by rw [hn]; rfl) lhead12722 ch rfl h2 h3 (by rw [hres]; exact h4) h5 h6
theorem ok13886 : CutOk P0 148 c13886 := by
  obtain ⟨fn, hfn, hc, hn, hres⟩ := lfn13886
  obtain ⟨fr, s, fr', s', l, h1, h2, h3, h4, h5, h6⟩ := loopEnd_ok lend13886
  have ch : Chain lenv13886 lb13886 (.exit 0, fr, s) (fuel0 + 1) (p13886x2.fr lenv13886.d) p13886x2.st := .last h1
  have ch := batch_ok b13886x1 ch
  have ch := batch_ok b13886x0 ch
  exact loopCut_ok (E := lenv13886) (known := K0) (fuel' := fuel0) (d := 6) (a := .none) names0 ext0_ok K0_ok drawn0 hfn hc (by rw [hn]; rfl) (by rw [hn]; exact Nat.le_of_ble_eq_true rfl) (by rw [hn]; decide) lcode13886 (by rw [hn]; rfl) lhead13886 ch rfl h2 h3 (by rw [hres]; exact h4) h5 h6
theorem cuts0_ok : ∀ f, ∀ c ∈ cuts0 f, CutOk P0 f c := by
  intro f c hc
  unfold cuts0 at hc
  split at hc
  · rename_i hf; have := Nat.eq_of_beq_eq_true hf; subst this
    simp only [List.mem_cons, List.not_mem_nil, or_false] at hc
    rcases hc with rfl
    · exact ok4
  split at hc
  · rename_i hf; have := Nat.eq_of_beq_eq_true hf; subst this
    simp only [List.mem_cons, List.not_mem_nil, or_false] at hc
    rcases hc with rfl | rfl | rfl
    · exact ok11601
    · exact ok12722
    · exact ok13886
  · cases hc
theorem ok9178 : CutOk P0 27 c9178 := cut1 cuts0_ok c9178_run
theorem ok9503 : CutOk P0 27 c9503 := cut1 cuts0_ok c9503_run
theorem ok9894 : CutOk P0 27 c9894 := cut1 cuts0_ok c9894_run
theorem ok10287 : CutOk P0 27 c10287 := cut1 cuts0_ok c10287_run
theorem ok10941 : CutOk P0 27 c10941 := cut1 cuts0_ok c10941_run
theorem ok13858 : CutOk P0 263 c13858 := cut1 cuts0_ok c13858_run
theorem ok14699 : CutOk P0 263 c14699 := cut1 cuts0_ok c14699_run
theorem ok14917 : CutOk P0 263 c14917 := cut1 cuts0_ok c14917_run
theorem ok14718 : CutOk P0 139 c14718 := cut1 cuts0_ok c14718_run
theorem ok14936 : CutOk P0 139 c14936 := cut1 cuts0_ok c14936_run
theorem ok15960 : CutOk P0 34 c15960 := cut1 cuts0_ok c15960_run
theorem ok16102 : CutOk P0 34 c16102 := cut1 cuts0_ok c16102_run
theorem ok16240 : CutOk P0 34 c16240 := cut1 cuts0_ok c16240_run
theorem ok16382 : CutOk P0 34 c16382 := cut1 cuts0_ok c16382_run
theorem ok16520 : CutOk P0 34 c16520 := cut1 cuts0_ok c16520_run
theorem cuts1_ok : ∀ f, ∀ c ∈ cuts1 f, CutOk P0 f c := by
  intro f c hc
  unfold cuts1 at hc
  split at hc
  · rename_i hf; have := Nat.eq_of_beq_eq_true hf; subst this
    simp only [List.mem_cons, List.not_mem_nil, or_false] at hc
    rcases hc with rfl
    · exact ok4
  split at hc
  · rename_i hf; have := Nat.eq_of_beq_eq_true hf; subst this
    simp only [List.mem_cons, List.not_mem_nil, or_false] at hc
    rcases hc with rfl | rfl | rfl | rfl | rfl
    · exact ok9178
    · exact ok9503
    · exact ok9894
    · exact ok10287
    · exact ok10941
  split at hc
  · rename_i hf; have := Nat.eq_of_beq_eq_true hf; subst this
    simp only [List.mem_cons, List.not_mem_nil, or_false] at hc
    rcases hc with rfl | rfl | rfl | rfl | rfl
    · exact ok15960
    · exact ok16102
    · exact ok16240
    · exact ok16382
    · exact ok16520
  split at hc
  · rename_i hf; have := Nat.eq_of_beq_eq_true hf; subst this
    simp only [List.mem_cons, List.not_mem_nil, or_false] at hc
    rcases hc with rfl | rfl
    · exact ok14718
    · exact ok14936
  split at hc
  · rename_i hf; have := Nat.eq_of_beq_eq_true hf; subst this
    simp only [List.mem_cons, List.not_mem_nil, or_false] at hc
    rcases hc with rfl | rfl | rfl
    · exact ok11601
    · exact ok12722
    · exact ok13886
  split at hc
  · rename_i hf; have := Nat.eq_of_beq_eq_true hf; subst this
    simp only [List.mem_cons, List.not_mem_nil, or_false] at hc
    rcases hc with rfl | rfl | rfl
    · exact ok13858
    · exact ok14699
    · exact ok14917
  · cases hc
theorem ok15957 : CutOk P0 13 c15957 := cut1 cuts1_ok c15957_run
theorem ok11468 : CutOk P0 38 c11468 := cut1 cuts1_ok c11468_run
theorem ok12689 : CutOk P0 38 c12689 := cut1 cuts1_ok c12689_run
theorem ok13830 : CutOk P0 38 c13830 := cutRun_ok names0 ext1_ok (with0 cuts1_ok) drawn0 c13830_run
theorem ok12384 : CutOk P0 39 c12384 := cut1 cuts1_ok c12384_run
theorem ok13506 : CutOk P0 39 c13506 := cut1 cuts1_ok c13506_run
theorem ok14670 : CutOk P0 39 c14670 := cutRun_ok names0 ext1_ok (with0 cuts1_ok) drawn0 c14670_run
theorem ok14886 : CutOk P0 22 c14886 := cutRun_ok names0 ext1_ok (with0 cuts1_ok) drawn0 c14886_run
theorem ok15135 : CutOk P0 22 c15135 := cut1 cuts1_ok c15135_run
theorem ok15314 : CutOk P0 22 c15314 := cut1 cuts1_ok c15314_run
theorem ok15455 : CutOk P0 22 c15455 := cut1 cuts1_ok c15455_run
theorem ok15626 : CutOk P0 22 c15626 := cut1 cuts1_ok c15626_run
theorem ok15767 : CutOk P0 22 c15767 := cut1 cuts1_ok c15767_run
theorem cuts2_ok : ∀ f, ∀ c ∈ cuts2 f, CutOk P0 f c := by
  intro f c hc
  unfold cuts2 at hc
  split at hc
  · rename_i hf; have := Nat.eq_of_beq_eq_true hf; subst this
    simp only [List.mem_cons, List.not_mem_nil, or_false] at hc
    rcases hc with rfl
    · exact ok15957
  split at hc
  · rename_i hf; have := Nat.eq_of_beq_eq_true hf; subst this
    simp only [List.mem_cons, List.not_mem_nil, or_false] at hc
    rcases hc with rfl | rfl | rfl | rfl | rfl | rfl
    · exact ok14886
    · exact ok15135
    · exact ok15314
    · exact ok15455
    · exact ok15626
    · exact ok15767
  split at hc
  · rename_i hf; have := Nat.eq_of_beq_eq_true hf; subst this
    simp only [List.mem_cons, List.not_mem_nil, or_false] at hc
    rcases hc with rfl
    · exact ok4
  split at hc
  · rename_i hf; have := Nat.eq_of_beq_eq_true hf; subst this
    simp only [List.mem_cons, List.not_mem_nil, or_false] at hc
    rcases hc with rfl | rfl | rfl | rfl | rfl
    · exact ok9178
    · exact ok9503
    · exact ok9894
    · exact ok10287
    · exact ok10941
  split at hc
  · rename_i hf; have := Nat.eq_of_beq_eq_true hf; subst this
    simp only [List.mem_cons, List.not_mem_nil, or_false] at hc
    rcases hc with rfl | rfl | rfl | rfl | rfl
    · exact ok15960
    · exact ok16102
    · exact ok16240
    · exact ok16382
    · exact ok16520
  split at hc
  · rename_i hf; have := Nat.eq_of_beq_eq_true hf; subst this
    simp only [List.mem_cons, List.not_mem_nil, or_false] at hc
    rcases hc with rfl | rfl | rfl
    · exact ok11468
    · exact ok12689
    · exact ok13830
  split at hc
  · rename_i hf; have := Nat.eq_of_beq_eq_true hf; subst this
    simp only [List.mem_cons, List.not_mem_nil, or_false] at hc
    rcases hc with rfl | rfl | rfl
    · exact ok12384
    · exact ok13506
    · exact ok14670
  split at hc
  · rename_i hf; have := Nat.eq_of_beq_eq_true hf; subst this
    simp only [List.mem_cons, List.not_mem_nil, or_false] at hc
    rcases hc with rfl | rfl
    · exact ok14718
    · exact ok14936
  split at hc
  · rename_i hf; have := Nat.eq_of_beq_eq_true hf; subst this
    simp only [List.mem_cons, List.not_mem_nil, or_false] at hc
    rcases hc with rfl | rfl | rfl
    · exact ok11601
    · exact ok12722
    · exact ok13886
  split at hc
  · rename_i hf; have := Nat.eq_of_beq_eq_true hf; subst this
    simp only [List.mem_cons, List.not_mem_nil, or_false] at hc
    rcases hc with rfl | rfl | rfl
    · exact ok13858
    · exact ok14699
    · exact ok14917
  · cases hc
theorem ok11432 : CutOk P0 14 c11432 := cut1 cuts2_ok c11432_run
theorem ok12657 : CutOk P0 14 c12657 := cut1 cuts2_ok c12657_run
theorem ok13795 : CutOk P0 14 c13795 := cut1 cuts2_ok c13795_run
theorem cuts3_ok : ∀ f, ∀ c ∈ cuts3 f, CutOk P0 f c := by
  intro f c hc
  unfold cuts3 at hc
  split at hc
  · rename_i hf; have := Nat.eq_of_beq_eq_true hf; subst this
    simp only [List.mem_cons, List.not_mem_nil, or_false] at hc
    rcases hc with rfl
    · exact ok15957
  split at hc
  · rename_i hf; have := Nat.eq_of_beq_eq_true hf; subst this
    simp only [List.mem_cons, List.not_mem_nil, or_false] at hc
    rcases hc with rfl | rfl | rfl
    · exact ok11432
    · exact ok12657
    · exact ok13795
  split at hc
  · rename_i hf; have := Nat.eq_of_beq_eq_true hf; subst this
    simp only [List.mem_cons, List.not_mem_nil, or_false] at hc
    rcases hc with rfl | rfl | rfl | rfl | rfl | rfl
    · exact ok14886
    · exact ok15135
    · exact ok15314
    · exact ok15455
    · exact ok15626
    · exact ok15767
  split at hc
  · rename_i hf; have := Nat.eq_of_beq_eq_true hf; subst this
    simp only [List.mem_cons, List.not_mem_nil, or_false] at hc
    rcases hc with rfl
    · exact ok4
  split at hc
  · rename_i hf; have := Nat.eq_of_beq_eq_true hf; subst this
    simp only [List.mem_cons, List.not_mem_nil, or_false] at hc
    rcases hc with rfl | rfl | rfl | rfl | rfl
    · exact ok9178
    · exact ok9503
    · exact ok9894
    · exact ok10287
    · exact ok10941
  split at hc
  · rename_i hf; have := Nat.eq_of_beq_eq_true hf; subst this
    simp only [List.mem_cons, List.not_mem_nil, or_false] at hc
    rcases hc with rfl | rfl | rfl | rfl | rfl
    · exact ok15960
    · exact ok16102
    · exact ok16240
    · exact ok16382
    · exact ok16520
  split at hc
  · rename_i hf; have := Nat.eq_of_beq_eq_true hf; subst this
    simp only [List.mem_cons, List.not_mem_nil, or_false] at hc
    rcases hc with rfl | rfl | rfl
    · exact ok11468
    · exact ok12689
    · exact ok13830
  split at hc
  · rename_i hf; have := Nat.eq_of_beq_eq_true hf; subst this
    simp only [List.mem_cons, List.not_mem_nil, or_false] at hc
    rcases hc with rfl | rfl | rfl
    · exact ok12384
    · exact ok13506
    · exact ok14670
  split at hc
  · rename_i hf; have := Nat.eq_of_beq_eq_true hf; subst this
    simp only [List.mem_cons, List.not_mem_nil, or_false] at hc
    rcases hc with rfl | rfl
    · exact ok14718
    · exact ok14936
  split at hc
  · rename_i hf; have := Nat.eq_of_beq_eq_true hf; subst this
    simp only [List.mem_cons, List.not_mem_nil, or_false] at hc
    rcases hc with rfl | rfl | rfl
    · exact ok11601
    · exact ok12722
    · exact ok13886
  split at hc
  · rename_i hf; have := Nat.eq_of_beq_eq_true hf; subst this
    simp only [List.mem_cons, List.not_mem_nil, or_false] at hc
    rcases hc with rfl | rfl | rfl
    · exact ok13858
    · exact ok14699
    · exact ok14917
  · cases hc
theorem ok2 : CutOk P0 12 c2 := cut1 cuts3_ok c2_run
theorem ok13762 : CutOk P0 8 c13762 := cut1 cuts3_ok c13762_run
theorem ok15600 : CutOk P0 8 c15600 := cut1 cuts3_ok c15600_run
theorem cuts4_ok : ∀ f, ∀ c ∈ cuts4 f, CutOk P0 f c := by
  intro f c hc
  unfold cuts4 at hc
  split at hc
  · rename_i hf; have := Nat.eq_of_beq_eq_true hf; subst this
    simp only [List.mem_cons, List.not_mem_nil, or_false] at hc
    rcases hc with rfl | rfl
    · exact ok13762
    · exact ok15600
  split at hc
  · rename_i hf; have := Nat.eq_of_beq_eq_true hf; subst this
    simp only [List.mem_cons, List.not_mem_nil, or_false] at hc
    rcases hc with rfl
    · exact ok2
  split at hc
  · rename_i hf; have := Nat.eq_of_beq_eq_true hf; subst this
    simp only [List.mem_cons, List.not_mem_nil, or_false] at hc
    rcases hc with rfl
    · exact ok15957
  split at hc
  · rename_i hf; have := Nat.eq_of_beq_eq_true hf; subst this
    simp only [List.mem_cons, List.not_mem_nil, or_false] at hc
    rcases hc with rfl | rfl | rfl
    · exact ok11432
    · exact ok12657
    · exact ok13795
  split at hc
  · rename_i hf; have := Nat.eq_of_beq_eq_true hf; subst this
    simp only [List.mem_cons, List.not_mem_nil, or_false] at hc
    rcases hc with rfl | rfl | rfl | rfl | rfl | rfl
    · exact ok14886
    · exact ok15135
    · exact ok15314
    · exact ok15455
    · exact ok15626
    · exact ok15767
  split at hc
  · rename_i hf; have := Nat.eq_of_beq_eq_true hf; subst this
    simp only [List.mem_cons, List.not_mem_nil, or_false] at hc
    rcases hc with rfl
    · exact ok4
  split at hc
  · rename_i hf; have := Nat.eq_of_beq_eq_true hf; subst this
    simp only [List.mem_cons, List.not_mem_nil, or_false] at hc
    rcases hc with rfl | rfl | rfl | rfl | rfl
    · exact ok9178
    · exact ok9503
    · exact ok9894
    · exact ok10287
    · exact ok10941
  split at hc
  · rename_i hf; have := Nat.eq_of_beq_eq_true hf; subst this
    simp only [List.mem_cons, List.not_mem_nil, or_false] at hc
    rcases hc with rfl | rfl | rfl | rfl | rfl
    · exact ok15960
    · exact ok16102
    · exact ok16240
    · exact ok16382
    · exact ok16520
  split at hc
  · rename_i hf; have := Nat.eq_of_beq_eq_true hf; subst this
    simp only [List.mem_cons, List.not_mem_nil, or_false] at hc
    rcases hc with rfl | rfl | rfl
    · exact ok11468
    · exact ok12689
    · exact ok13830
  split at hc
  · rename_i hf; have := Nat.eq_of_beq_eq_true hf; subst this
    simp only [List.mem_cons, List.not_mem_nil, or_false] at hc
    rcases hc with rfl | rfl | rfl
    · exact ok12384
    · exact ok13506
    · exact ok14670
  split at hc
  · rename_i hf; have := Nat.eq_of_beq_eq_true hf; subst this
    simp only [List.mem_cons, List.not_mem_nil, or_false] at hc
    rcases hc with rfl | rfl
    · exact ok14718
    · exact ok14936
  split at hc
  · rename_i hf; have := Nat.eq_of_beq_eq_true hf; subst this
    simp only [List.mem_cons, List.not_mem_nil, or_false] at hc
    rcases hc with rfl | rfl | rfl
    · exact ok11601
    · exact ok12722
    · exact ok13886
  split at hc
  · rename_i hf; have := Nat.eq_of_beq_eq_true hf; subst this
    simp only [List.mem_cons, List.not_mem_nil, or_false] at hc
    rcases hc with rfl | rfl | rfl
    · exact ok13858
    · exact ok14699
    · exact ok14917
  · cases hc
theorem ok1 : CutOk P0 4 c1 := cut1 cuts4_ok c1_run
theorem cuts5_ok : ∀ f, ∀ c ∈ cuts5 f, CutOk P0 f c := by
  intro f c hc
  unfold cuts5 at hc
  split at hc
  · rename_i hf; have := Nat.eq_of_beq_eq_true hf; subst this
    simp only [List.mem_cons, List.not_mem_nil, or_false] at hc
    rcases hc with rfl
    · exact ok1
  split at hc
  · rename_i hf; have := Nat.eq_of_beq_eq_true hf; subst this
    simp only [List.mem_cons, List.not_mem_nil, or_false] at hc
    rcases hc with rfl | rfl
    · exact ok13762
    · exact ok15600
  split at hc
  · rename_i hf; have := Nat.eq_of_beq_eq_true hf; subst this
    simp only [List.mem_cons, List.not_mem_nil, or_false] at hc
    rcases hc with rfl
    · exact ok2
  split at hc
  · rename_i hf; have := Nat.eq_of_beq_eq_true hf; subst this
    simp only [List.mem_cons, List.not_mem_nil, or_false] at hc
    rcases hc with rfl
    · exact ok15957
  split at hc
  · rename_i hf; have := Nat.eq_of_beq_eq_true hf; subst this
    simp only [List.mem_cons, List.not_mem_nil, or_false] at hc
    rcases hc with rfl | rfl | rfl
    · exact ok11432
    · exact ok12657
    · exact ok13795
  split at hc
  · rename_i hf; have := Nat.eq_of_beq_eq_true hf; subst this
    simp only [List.mem_cons, List.not_mem_nil, or_false] at hc
    rcases hc with rfl | rfl | rfl | rfl | rfl | rfl
    · exact ok14886
    · exact ok15135
    · exact ok15314
    · exact ok15455
    · exact ok15626
    · exact ok15767
  split at hc
  · rename_i hf; have := Nat.eq_of_beq_eq_true hf; subst this
    simp only [List.mem_cons, List.not_mem_nil, or_false] at hc
    rcases hc with rfl
    · exact ok4
  split at hc
  · rename_i hf; have := Nat.eq_of_beq_eq_true hf; subst this
    simp only [List.mem_cons, List.not_mem_nil, or_false] at hc
    rcases hc with rfl | rfl | rfl | rfl | rfl
    · exact ok9178
    · exact ok9503
    · exact ok9894
    · exact ok10287
    · exact ok10941
  split at hc
  · rename_i hf; have := Nat.eq_of_beq_eq_true hf; subst this
    simp only [List.mem_cons, List.not_mem_nil, or_false] at hc
    rcases hc with rfl | rfl | rfl | rfl | rfl
    · exact ok15960
    · exact ok16102
    · exact ok16240
    · exact ok16382
    · exact ok16520
  split at hc
  · rename_i hf; have := Nat.eq_of_beq_eq_true hf; subst this
    simp only [List.mem_cons, List.not_mem_nil, or_false] at hc
    rcases hc with rfl | rfl | rfl
    · exact ok11468
    · exact ok12689
    · exact ok13830
  split at hc
  · rename_i hf; have := Nat.eq_of_beq_eq_true hf; subst this
    simp only [List.mem_cons, List.not_mem_nil, or_false] at hc
    rcases hc with rfl | rfl | rfl
    · exact ok12384
    · exact ok13506
    · exact ok14670
  split at hc
  · rename_i hf; have := Nat.eq_of_beq_eq_true hf; subst this
    simp only [List.mem_cons, List.not_mem_nil, or_false] at hc
    rcases hc with rfl | rfl
    · exact ok14718
    · exact ok14936
  split at hc
  · rename_i hf; have := Nat.eq_of_beq_eq_true hf; subst this
    simp only [List.mem_cons, List.not_mem_nil, or_false] at hc
    rcases hc with rfl | rfl | rfl
    · exact ok11601
    · exact ok12722
    · exact ok13886
  split at hc
  · rename_i hf; have := Nat.eq_of_beq_eq_true hf; subst this
    simp only [List.mem_cons, List.not_mem_nil, or_false] at hc
    rcases hc with rfl | rfl | rfl
    · exact ok13858
    · exact ok14699
    · exact ok14917
  · cases hc
theorem law_walk (root i : Int) (w : World) : Calls P0 3 #[.int .i64 root, .int .i64 i] w fun e w' => e = .returned (.bool true) ∧ Below w.heap.size w w' :=
  top_ok (K := KL5) (fun w0 => with0 cuts5_ok w0) (f := 3) (args := [.int .i64 root, .int .i64 i]) (vs := [.int .i64 root, .int .i64 i]) (whole root i) (VsRel.cons (by simp only [VRel]) (VsRel.cons (by simp only [VRel]) VsRel.nil)) w
#print axioms law_walk
end Go.X

/- The row of the law ArrayNone, and its card. -/
namespace Go.Proofs.YtbnldlojlbbgbaaGreatDoor
open Go.ChangeShapes Go.WideShapes Go.ChangeAt Go.RowKit
set_option linter.unusedVariables false
theorem own : ownKnob Tryz.prog.godebug = Option.none := by kernel_rfl
set_option maxRecDepth 100000

/-- The door's own heap meets the condition. -/
theorem door_met (os : Os) (args : Array Value) : laidMetH Tryz.prog Rows.arrayNoneRow.laid ((World.doorLaid Tryz.prog 62 os).forCall (fun _ _ => 0) ⟨#[], args, []⟩).memory :=
  laidMetH_of_parts3 (fuel := 8) (laidMet_of_run' 8 (by kernel_rfl) (by kernel_rfl)) (by kernel_rfl) (by kernel_rfl)

theorem lifted (os : Os) (started : os.Started) (H : Type) (enc : TypeId × Value → H) :
    ReturnsInHanded {} Tryz.checked os 3 .any (fun w args => (Rows.arrayNoneSpec.pre enc Tryz.prog Tryz.f3 [] false w args ∧ laidMetH Tryz.prog Rows.arrayNoneRow.laid w) ∧ sizedMet enc Tryz.prog Tryz.f3 (OpenSpec.ofChange Rows.arrayNoneSpec) false w args)
      (Rows.arrayNoneSpec.post enc Tryz.prog Tryz.f3 false true false false) := by
  refine returnsInHanded_of_change_and (C := Tryz.checked) (X := fun w _ => laidMetH Tryz.prog Rows.arrayNoneRow.laid w) (fun _ _ _ hh h => h.of_heap hh) own started (by kernel_rfl) Tryz.func3
    (ChangeSpec.witness_shaped (enc := enc) (C := Tryz.checked) (os := os) (X := fun w _ => laidMetH Tryz.prog Rows.arrayNoneRow.laid w) false (World.doorLaid Tryz.prog 62 os) #[.int .i64 0, .int .i64 0] 8 rfl (World.shaped_of_RefB (by kernel_rfl) (by kernel_rfl)) (by kernel_rfl) (by kernel_rfl) (by kernel_rfl) (door_met os _)) ?_
  intro W base args ds gs before hval0 hW _ _ hL _
  have hval : ∀ (j : Nat) t v, Tryz.f3.params[j]? = some t → args[j]? = some v → Value.okWide Tryz.prog W .any base t v := hval0
  have hW' := hW
  obtain ⟨p, q, hA0, hV, rfl, hfz, hnd⟩ := hW
  have hA : DataW.TrodAll enc Tryz.prog W 0 (fun _ => true) true Tryz.f3.params.toList args.toList ds p := hA0
  rw [Tryz.params3] at hA hval
  obtain ⟨v0, vs0, d0, ds0, p0, q0, hargs, rfl, rfl, h0, r_0⟩ := trodAll_cons hA
  obtain ⟨v1, vs1, d1, ds1, p1, q1, rfl, rfl, rfl, h1, r_1⟩ := trodAll_cons r_0
  obtain ⟨rfl, rfl, rfl⟩ := trodAll_nil r_1
  obtain rfl : args = #[v0, v1] := by cases args; simp_all
  obtain ⟨rfl, rfl⟩ := trodVars_none hV
  obtain ⟨a0, rfl, rfl, rfl, w0⟩ := open_int Tryz.underlying3 (hval 0 3 v0 rfl rfl) h0
  obtain ⟨a1, rfl, rfl, rfl, w1⟩ := open_int Tryz.underlying3 (hval 1 3 v1 rfl rfl) h1
  clear hA0 hval0
  refine (Go.X.law_walk a0 a1 W).mono fun e W' ⟨he, bel⟩ => ?_
  subst he
  exact ⟨_, rfl, _, _, _, [], _, [], hW', trodAll_mk1 (shut_bool Tryz.underlying4 _), (trodAll_cons_mk (shut_int Tryz.underlying3 w0) (trodAll_cons_mk (shut_int Tryz.underlying3 w1) trodAll_mk0)), rfl, bel.frame _, fun h => by cases h⟩

theorem and2 {a b : Bool} (h : a = true) (k : b = true) : (a && b) = true := by rw [h, k]; rfl
theorem in_place : (Rows.arrayNoneRow.inPlace == Tryz.prog.inPlace 3) = true := by
  unfold Program.inPlace
  rw [clo_is]
  exact k_ip
theorem un_followed : Tryz.prog.unfollowed 3 = true := by
  unfold Program.unfollowed
  rw [clo_is]
  exact k_uf
theorem un_followed' : (Rows.arrayNoneRow.unfollowed == Tryz.prog.unfollowed 3) = true := by rw [un_followed]; rfl
theorem re_curses : (Rows.arrayNoneRow.recurses == Tryz.prog.recurses 3) = true := by
  unfold Program.recurses
  rw [un_followed]
  rfl
theorem vars_named : (Rows.arrayNoneRow.named == Tryz.prog.varsNamed 3) = true := by
  unfold Program.varsNamed
  rw [clo_is]
  exact k_vn
theorem closed : joinedFacts Tryz.prog 3 Tryz.f3 Rows.arrayNoneSpec Rows.arrayNoneRow = true := by
  unfold joinedFacts
  exact (and2 (and2 (and2 (and2 (and2 (and2 (and2 (and2 (and2 (and2 (and2 (and2 (and2 (and2 (and2 (and2 (and2 (and2 (and2 (and2 (and2 (and2 (and2 (and2 (and2 (and2 (and2 (and2 (and2 (and2 (and2 k_wf k_lo) k_mr) k_rr) k_nt) (by as_aux_lemma => kernel_rfl)) k_st) (by as_aux_lemma => kernel_rfl)) k_sk) in_place) un_followed') re_curses) vars_named) (by as_aux_lemma => kernel_rfl)) (by as_aux_lemma => kernel_rfl)) (by as_aux_lemma => kernel_rfl)) (by as_aux_lemma => kernel_rfl)) (by as_aux_lemma => kernel_rfl)) (by as_aux_lemma => kernel_rfl)) (by as_aux_lemma => kernel_rfl)) (by as_aux_lemma => kernel_rfl)) (by as_aux_lemma => kernel_rfl)) k_pk) (by as_aux_lemma => kernel_rfl)) k_sh) k_me) k_lf) (by as_aux_lemma => kernel_rfl)) (by as_aux_lemma => kernel_rfl)) k_pb) (by as_aux_lemma => kernel_rfl)) k_vf)
theorem over : Rows.ArrayNoneSaid :=
  OpenClaim.holds_of_wide 3 Tryz.f3 rfl rfl rfl rfl rfl rfl rfl ⟨rfl, rfl, rfl, rfl, rfl⟩ rfl rfl rfl rfl rfl (by kernel_rfl) Tryz.func3 closed
    (of_decide_eq_true (by kernel_rfl)) (by unfold Func.isWrapper; first | (rw [if_pos (by decide +kernel)]; kernel_rfl) | (rw [if_neg (by decide +kernel)]; exact ⟨rfl, rfl⟩))
    (fun os started H enc _ => lifted os started H enc)

/-- The law, and its listed variables tied to the program's text. -/
theorem arrayNoneCard_holds : Rows.ArrayNoneCardSaid :=
  Claim7.holds_tied_plain_at .later [] [.data, .data, .data, .sentinel, .sentinel] true (true, "291aad06e3341f257dee0b3699a703cf5ded0476ab2246d3220319107e140432") true
    over (fun _ h => by cases h) k_wt (fun _ h => by cases h) arrayNone_row_tie rfl ⟨rfl, rfl⟩ k_mi rfl
    (fun f fn hf hfn => by
      obtain rfl : f = 3 := Option.some.inj ((show Tryz.prog.funcNamed "palimpsest/palimpsestlaw21.ArrayNone" = some 3 by kernel_rfl).symm.trans hf) |>.symm
      obtain rfl : fn = Tryz.f3 := (Option.some.inj (Tryz.func3.symm.trans hfn)).symm
      exact ⟨k_lk, fun j t ht => by
        rw [Tryz.params3] at ht
        have hm : t ∈ [3, 3] := by simpa using Array.mem_of_getElem? ht
        have hall : ([3, 3].all fun u => !Tryz.prog.wantsStandIn u) = true := by kernel_rfl
        exact (show Tryz.prog.wantsStandIn t = false by simpa using List.all_eq_true.1 hall t hm)⟩)
    k_gb
#print axioms arrayNoneCard_holds
end Go.Proofs.YtbnldlojlbbgbaaGreatDoor
