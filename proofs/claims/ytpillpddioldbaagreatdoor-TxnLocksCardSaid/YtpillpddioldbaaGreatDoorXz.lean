/- The law TxnLocks: for every page it answers true, and its argument reads behind the call as it read before; the package variables that the row lists are tied to the program's text. No condition beyond the row's own. -/
import Derived.Test.YtpillpddioldbaaGreatDoorXl
import Derived.Test.YtpillpddioldbaaGreatDoorXCr1
import Derived.Test.YtpillpddioldbaaGreatDoorXCr2
import Derived.Test.YtpillpddioldbaaGreatDoorXCr3
import Derived.Test.YtpillpddioldbaaGreatDoorXCr4
import Derived.Test.YtpillpddioldbaaGreatDoorXCr5
import Derived.Test.YtpillpddioldbaaGreatDoorXCr6
import Derived.Test.YtpillpddioldbaaGreatDoorXCr7
import Derived.Test.YtpillpddioldbaaGreatDoorXCr8
import Derived.Test.YtpillpddioldbaaGreatDoorXCr90
import Derived.Test.YtpillpddioldbaaGreatDoorXCr91
import Derived.Test.YtpillpddioldbaaGreatDoorXCr92
import Derived.Test.YtpillpddioldbaaGreatDoorXW0
import Derived.Test.YtpillpddioldbaaGreatDoorXW1
import Derived.Test.YtpillpddioldbaaGreatDoorXW2
import Derived.Test.YtpillpddioldbaaGreatDoorRows
import Derived.Test.YtpillpddioldbaaGreatDoorTie
import Derived.Test.YtpillpddioldbaaGreatDoorCards
import Derived.ProofKit
import Derived.LaidMore
import Derived.OpenShut
import Derived.Stop.Joined
import Derived.SizedLaws
import Derived.ChangeOld
import Derived.SevenTiedAt
import Derived.Test.YtpillpddioldbaaGreatDoorXy
set_option linter.unusedVariables false
set_option linter.unusedSimpArgs false

namespace Go.X
open Go.Proofs Go.RowKit
theorem cuts1_ok : ∀ f, ∀ c ∈ cuts1 f, CutOk P0 f c := by
  intro f c hc
  unfold cuts1 at hc
  split at hc
  · rename_i hf; have := Nat.eq_of_beq_eq_true hf; subst this
    simp only [List.mem_cons, List.not_mem_nil, or_false] at hc
    rcases hc with rfl | rfl | rfl
    · exact cut0 c2041_run
    · exact cut0 c3547_run
    · exact cut0 c4968_run
  split at hc
  · rename_i hf; have := Nat.eq_of_beq_eq_true hf; subst this
    simp only [List.mem_cons, List.not_mem_nil, or_false] at hc
    rcases hc with rfl | rfl | rfl | rfl | rfl | rfl
    · exact cut0 c297_run
    · exact cut0 c690_run
    · exact cut0 c1081_run
    · exact cut0 c6579_run
    · exact cut0 c6972_run
    · exact cut0 c7363_run
  · cases hc
theorem cuts2_ok : ∀ f, ∀ c ∈ cuts2 f, CutOk P0 f c := by
  intro f c hc
  unfold cuts2 at hc
  split at hc
  · rename_i hf; have := Nat.eq_of_beq_eq_true hf; subst this
    simp only [List.mem_cons, List.not_mem_nil, or_false] at hc
    rcases hc with rfl
    · exact cut1 cuts1_ok c2_run
  split at hc
  · rename_i hf; have := Nat.eq_of_beq_eq_true hf; subst this
    simp only [List.mem_cons, List.not_mem_nil, or_false] at hc
    rcases hc with rfl | rfl
    · exact cut0 c1414_run
    · exact cut0 c1618_run
  split at hc
  · rename_i hf; have := Nat.eq_of_beq_eq_true hf; subst this
    simp only [List.mem_cons, List.not_mem_nil, or_false] at hc
    rcases hc with rfl
    · exact cut0 c1750_run
  · cases hc
theorem cuts3_ok : ∀ f, ∀ c ∈ cuts3 f, CutOk P0 f c := by
  intro f c hc
  unfold cuts3 at hc
  split at hc
  · rename_i hf; have := Nat.eq_of_beq_eq_true hf; subst this
    simp only [List.mem_cons, List.not_mem_nil, or_false] at hc
    rcases hc with rfl
    · exact cut1 cuts2_ok c1_run
  split at hc
  · rename_i hf; have := Nat.eq_of_beq_eq_true hf; subst this
    simp only [List.mem_cons, List.not_mem_nil, or_false] at hc
    rcases hc with rfl
    · exact cut1 cuts1_ok c2040_run
  split at hc
  · rename_i hf; have := Nat.eq_of_beq_eq_true hf; subst this
    simp only [List.mem_cons, List.not_mem_nil, or_false] at hc
    rcases hc with rfl
    · exact cut1 cuts1_ok c6044_run
  split at hc
  · rename_i hf; have := Nat.eq_of_beq_eq_true hf; subst this
    simp only [List.mem_cons, List.not_mem_nil, or_false] at hc
    rcases hc with rfl | rfl | rfl | rfl | rfl | rfl | rfl | rfl | rfl
    · exact cut0 q0_7698_run
    · exact cut0 q0_7902_run
    · exact cut0 q0_8051_run
    · exact cut0 q1_7698_run
    · exact cut0 q1_7902_run
    · exact cut0 q1_8051_run
    · exact cut0 q2_7698_run
    · exact cut0 q2_7902_run
    · exact cut0 q2_8051_run
  split at hc
  · rename_i hf; have := Nat.eq_of_beq_eq_true hf; subst this
    simp only [List.mem_cons, List.not_mem_nil, or_false] at hc
    rcases hc with rfl | rfl | rfl
    · exact cut0 q0_8304_run
    · exact cut0 q1_8304_run
    · exact cut0 q2_8304_run
  · cases hc
theorem locks_walk (page : Int) (w : World) : Calls P0 3 #[.int .i64 page] w fun e w' => e = .returned (.bool true) ∧ Below w.heap.size w w' :=
  locks_ok (K := KD) (fun w0 => with0 cuts3_ok w0) (heads_is page) (fun k hk => by
    match k, hk with
    | 0, _ => exact whole_0 page
    | 1, _ => exact whole_1 page
    | 2, _ => exact whole_2 page) w
#print axioms locks_walk
end Go.X

/- The row of the law TxnLocks, and its card. -/
namespace Go.Proofs.YtpillpddioldbaaGreatDoor
open Go.ChangeShapes Go.WideShapes Go.ChangeAt Go.RowKit
set_option linter.unusedVariables false
theorem own : ownKnob Tryz.prog.godebug = Option.none := by kernel_rfl
set_option maxRecDepth 100000

/-- The door's own heap meets the condition. -/
theorem door_met (os : Os) (args : Array Value) : laidMetH Tryz.prog Rows.txnLocksRow.laid ((World.doorLaid Tryz.prog 62 os).forCall (fun _ _ => 0) ⟨#[], args, []⟩).memory :=
  laidMetH_of_parts3 (fuel := 8) (laidMet_of_run' 8 (by kernel_rfl) (by kernel_rfl)) (by kernel_rfl) (by kernel_rfl)

theorem lifted (os : Os) (started : os.Started) (H : Type) (enc : TypeId × Value → H) :
    ReturnsInHanded {} Tryz.checked os 3 .any (fun w args => (Rows.txnLocksSpec.pre enc Tryz.prog Tryz.f3 [] false w args ∧ laidMetH Tryz.prog Rows.txnLocksRow.laid w) ∧ sizedMet enc Tryz.prog Tryz.f3 (OpenSpec.ofChange Rows.txnLocksSpec) false w args)
      (Rows.txnLocksSpec.post enc Tryz.prog Tryz.f3 false true false false) := by
  refine returnsInHanded_of_change_and (C := Tryz.checked) (X := fun w _ => laidMetH Tryz.prog Rows.txnLocksRow.laid w) (fun _ _ _ hh h => h.of_heap hh) own started (by kernel_rfl) Tryz.func3
    (ChangeSpec.witness_shaped (enc := enc) (C := Tryz.checked) (os := os) (X := fun w _ => laidMetH Tryz.prog Rows.txnLocksRow.laid w) false (World.doorLaid Tryz.prog 62 os) #[.int .i64 0] 8 rfl (World.shaped_of_RefB (by kernel_rfl) (by kernel_rfl)) (by kernel_rfl) (by kernel_rfl) (by kernel_rfl) (door_met os _)) ?_
  intro W base args ds gs before hval0 hW _ _ hL _
  have hval : ∀ (j : Nat) t v, Tryz.f3.params[j]? = some t → args[j]? = some v → Value.okWide Tryz.prog W .any base t v := hval0
  have hW' := hW
  obtain ⟨p, q, hA0, hV, rfl, hfz, hnd⟩ := hW
  have hA : DataW.TrodAll enc Tryz.prog W 0 (fun _ => true) true Tryz.f3.params.toList args.toList ds p := hA0
  rw [Tryz.params3] at hA hval
  obtain ⟨v0, d0, rfl, rfl, h0⟩ := trodAll_one hA
  obtain ⟨rfl, rfl⟩ := trodVars_none hV
  obtain ⟨a0, rfl, rfl, rfl, w0⟩ := open_int Tryz.underlying3 (hval 0 3 v0 rfl rfl) h0
  clear hA0 hval0
  refine (Go.X.locks_walk a0 W).mono fun e W' ⟨he, bel⟩ => ?_
  subst he
  exact ⟨_, rfl, _, _, _, [], _, [], hW', trodAll_mk1 (shut_bool Tryz.underlying4 _), trodAll_mk1 (shut_int Tryz.underlying3 w0), rfl, bel.frame _, fun h => by cases h⟩

theorem and2 {a b : Bool} (h : a = true) (k : b = true) : (a && b) = true := by rw [h, k]; rfl
theorem in_place : (Rows.txnLocksRow.inPlace == Tryz.prog.inPlace 3) = true := by
  unfold Program.inPlace
  rw [clo_is]
  exact k_ip
theorem un_followed : Tryz.prog.unfollowed 3 = true := by
  unfold Program.unfollowed
  rw [clo_is]
  exact k_uf
theorem un_followed' : (Rows.txnLocksRow.unfollowed == Tryz.prog.unfollowed 3) = true := by rw [un_followed]; rfl
theorem re_curses : (Rows.txnLocksRow.recurses == Tryz.prog.recurses 3) = true := by
  unfold Program.recurses
  rw [un_followed]
  rfl
theorem vars_named : (Rows.txnLocksRow.named == Tryz.prog.varsNamed 3) = true := by
  unfold Program.varsNamed
  rw [clo_is]
  exact k_vn
theorem closed : joinedFacts Tryz.prog 3 Tryz.f3 Rows.txnLocksSpec Rows.txnLocksRow = true := by
  unfold joinedFacts
  exact (and2 (and2 (and2 (and2 (and2 (and2 (and2 (and2 (and2 (and2 (and2 (and2 (and2 (and2 (and2 (and2 (and2 (and2 (and2 (and2 (and2 (and2 (and2 (and2 (and2 (and2 (and2 (and2 (and2 (and2 (and2 k_wf k_lo) k_mr) k_rr) k_nt) (by as_aux_lemma => kernel_rfl)) k_st) (by as_aux_lemma => kernel_rfl)) k_sk) in_place) un_followed') re_curses) vars_named) (by as_aux_lemma => kernel_rfl)) (by as_aux_lemma => kernel_rfl)) (by as_aux_lemma => kernel_rfl)) (by as_aux_lemma => kernel_rfl)) (by as_aux_lemma => kernel_rfl)) (by as_aux_lemma => kernel_rfl)) (by as_aux_lemma => kernel_rfl)) (by as_aux_lemma => kernel_rfl)) (by as_aux_lemma => kernel_rfl)) k_pk) (by as_aux_lemma => kernel_rfl)) k_sh) k_me) k_lf) (by as_aux_lemma => kernel_rfl)) (by as_aux_lemma => kernel_rfl)) k_pb) (by as_aux_lemma => kernel_rfl)) k_vf)
theorem over : Rows.TxnLocksSaid :=
  OpenClaim.holds_of_wide 3 Tryz.f3 rfl rfl rfl rfl rfl rfl rfl ⟨rfl, rfl, rfl, rfl, rfl⟩ rfl rfl rfl rfl rfl (by kernel_rfl) Tryz.func3 closed
    (of_decide_eq_true (by kernel_rfl)) (by unfold Func.isWrapper; first | (rw [if_pos (by decide +kernel)]; kernel_rfl) | (rw [if_neg (by decide +kernel)]; exact ⟨rfl, rfl⟩))
    (fun os started H enc _ => lifted os started H enc)

/-- The law, and its listed variables tied to the program's text. -/
theorem txnLocksCard_holds : Rows.TxnLocksCardSaid :=
  Claim7.holds_tied_plain_at .later [] [.data, .data, .data, .sentinel, .sentinel] true (true, "e8dc2976ebbc5c7e5c2c8641b706a4c0861a2905910314a3bb988ce130924a0d") true
    over (fun _ h => by cases h) k_wt (fun _ h => by cases h) txnLocks_row_tie rfl ⟨rfl, rfl⟩ k_mi rfl
    (fun f fn hf hfn => by
      obtain rfl : f = 3 := Option.some.inj ((show Tryz.prog.funcNamed "palimpsest/palimpsestlaw17.TxnLocks" = some 3 by kernel_rfl).symm.trans hf) |>.symm
      obtain rfl : fn = Tryz.f3 := (Option.some.inj (Tryz.func3.symm.trans hfn)).symm
      exact ⟨k_lk, fun j t ht => by
        rw [Tryz.params3] at ht
        have hm : t ∈ [3] := by simpa using Array.mem_of_getElem? ht
        have hall : ([3].all fun u => !Tryz.prog.wantsStandIn u) = true := by kernel_rfl
        exact (show Tryz.prog.wantsStandIn t = false by simpa using List.all_eq_true.1 hall t hm)⟩)
    k_gb
#print axioms txnLocksCard_holds
end Go.Proofs.YtpillpddioldbaaGreatDoor
