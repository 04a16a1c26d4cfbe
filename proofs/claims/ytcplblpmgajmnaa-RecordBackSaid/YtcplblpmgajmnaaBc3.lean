/-
  Joined by wip/prune.py out of: AxF19, Pure1, HSaid1, HSaid2, HSaid3, HSaid5, HCheck, HClone, AxF43.
-/
import Derived.Test.YtcplblpmgajmnaaBc2
import Derived.Lib.Hide
import Derived.Outline
import Derived.BigRegion
import Derived.Lib.SliceRun
namespace Go.Proofs.Ytcplblpmgajmnaa.A
open Go.RowKit Go.Proofs.YtcplblpmgajmnaaW.PrintWords Go.Proofs.YtcplblpmgajmnaaW.PrintLast Go.Proofs.YtcplblpmgajmnaaW.PrintMore
attribute [local go_sem] max2_int min2_int max_two min_two max_three min_three max_four min_four   -- for this text's walks alone
set_option linter.unusedVariables false
set_option linter.unusedSimpArgs false
def record_Same.f (k : Nat) (a0_0 : Int) (a0_1 : Int) (a0_2 : Int) (a0_3 : Int) (a0_4 : Int) (l0_5 : List Int) (l0_6 : List (S52)) (a0_7 : Int) (l0_8 : List (S54)) (l0_9 : List (S56)) (a1_0 : Int) (a1_1 : Int) (a1_2 : Int) (a1_3 : Int) (a1_4 : Int) (l1_5 : List Int) (l1_6 : List (S52)) (a1_7 : Int) (l1_8 : List (S54)) (l1_9 : List (S56)) : Option (Bool) := if a0_0 = a1_0 then (if a0_1 = a1_1 then (if a0_2 = a1_2 then (if a0_3 = a1_3 then (if a0_4 = a1_4 then (if a0_7 = a1_7 then ((slices_Equal_int_int.f k l0_5 l1_5).bind fun t111 => (if t111 = true then ((api_Image_32.f k l0_6 l1_6).bind fun t112 => (if t112 = true then ((api_Dirty_33.f k l0_8 l1_8).bind fun t113 => (if t113 = true then ((api_Active_34.f k l0_9 l1_9).bind fun t114 => (some t114)) else (some false))) else (some false))) else (some false))) else (some false)) else (some false)) else (some false)) else (some false)) else (some false)) else (some false)
theorem record_Same.mono : ∀ a0 a1 a2 a3 a4 a5 a6 a7 a8 a9 a10 a11 a12 a13 a14 a15 a16 a17 a18 a19 k, LeO (record_Same.f k a0 a1 a2 a3 a4 a5 a6 a7 a8 a9 a10 a11 a12 a13 a14 a15 a16 a17 a18 a19) (record_Same.f (k + 1) a0 a1 a2 a3 a4 a5 a6 a7 a8 a9 a10 a11 a12 a13 a14 a15 a16 a17 a18 a19) := by
  intro a0 a1 a2 a3 a4 a5 a6 a7 a8 a9 a10 a11 a12 a13 a14 a15 a16 a17 a18 a19 k
  unfold record_Same.f
  repeat' first
      | (with_reducible exact api_Active_34.mono _ _ _)
      | (with_reducible exact api_Dirty_33.mono _ _ _)
      | (with_reducible exact api_Image_32.mono _ _ _)
      | (with_reducible exact slices_Equal_int_int.mono _ _ _)
      | (with_reducible exact LeO.refl _)
      | (with_reducible exact LeO.none _)
      | (with_reducible refine LeO.ite ?_ ?_)
      | (with_reducible refine LeO.bind ?_ (fun _ => ?_))
      | exact api_Active_34.mono _ _ _
      | exact api_Dirty_33.mono _ _ _
      | exact api_Image_32.mono _ _ _
      | exact slices_Equal_int_int.mono _ _ _
      | exact LeO.none _
      | refine LeO.ite ?_ ?_
      | refine LeO.bind ?_ (fun _ => ?_)
set_option maxHeartbeats 8000000 in
set_option maxRecDepth 100000 in
theorem record_Same.calls (k : Nat) (a0_0 : Int) (a0_1 : Int) (a0_2 : Int) (a0_3 : Int) (a0_4 : Int) (A0_5 : Option Addr) (c0_5 : Nat) (l0_5 : List Int) (A0_6 : Option Addr) (c0_6 : Nat) (l0_6 : List (S52)) (a0_7 : Int) (A0_8 : Option Addr) (c0_8 : Nat) (l0_8 : List (S54)) (A0_9 : Option Addr) (c0_9 : Nat) (l0_9 : List (S56)) (a1_0 : Int) (a1_1 : Int) (a1_2 : Int) (a1_3 : Int) (a1_4 : Int) (A1_5 : Option Addr) (c1_5 : Nat) (l1_5 : List Int) (A1_6 : Option Addr) (c1_6 : Nat) (l1_6 : List (S52)) (a1_7 : Int) (A1_8 : Option Addr) (c1_8 : Nat) (l1_8 : List (S54)) (A1_9 : Option Addr) (c1_9 : Nat) (l1_9 : List (S56)) (r : Bool) (w : World) (hr0_5 : Kd.C (Kd.int .i64) w A0_5 l0_5.length l0_5) (hc0_5 : l0_5.length ≤ c0_5) (hr0_6 : Kd.C k52 w A0_6 l0_6.length l0_6) (hc0_6 : l0_6.length ≤ c0_6) (hr0_8 : Kd.C k54 w A0_8 l0_8.length l0_8) (hc0_8 : l0_8.length ≤ c0_8) (hr0_9 : Kd.C k56 w A0_9 l0_9.length l0_9) (hc0_9 : l0_9.length ≤ c0_9) (hr1_5 : Kd.C (Kd.int .i64) w A1_5 l1_5.length l1_5) (hc1_5 : l1_5.length ≤ c1_5) (hr1_6 : Kd.C k52 w A1_6 l1_6.length l1_6) (hc1_6 : l1_6.length ≤ c1_6) (hr1_8 : Kd.C k54 w A1_8 l1_8.length l1_8) (hc1_8 : l1_8.length ≤ c1_8) (hr1_9 : Kd.C k56 w A1_9 l1_9.length l1_9) (hc1_9 : l1_9.length ≤ c1_9) (h : record_Same.f k a0_0 a0_1 a0_2 a0_3 a0_4 l0_5 l0_6 a0_7 l0_8 l0_9 a1_0 a1_1 a1_2 a1_3 a1_4 l1_5 l1_6 a1_7 l1_8 l1_9 = some r) :
    Calls Try.prog 19 #[.agg #[.int .i64 a0_0, .int .i64 a0_1, .int .i64 a0_2, .int .i64 a0_3, .int .i64 a0_4, .slice A0_5 l0_5.length c0_5, .slice A0_6 l0_6.length c0_6, .int .i64 a0_7, .slice A0_8 l0_8.length c0_8, .slice A0_9 l0_9.length c0_9], .agg #[.int .i64 a1_0, .int .i64 a1_1, .int .i64 a1_2, .int .i64 a1_3, .int .i64 a1_4, .slice A1_5 l1_5.length c1_5, .slice A1_6 l1_6.length c1_6, .int .i64 a1_7, .slice A1_8 l1_8.length c1_8, .slice A1_9 l1_9.length c1_9]] w fun e w' => e = .returned (.bool r) ∧ Below w.heap.size w w' := by
  have hu30 := Try.underlying30
  have HR0_5 := Aside0.mk hr0_5
  have HC0_5 := Aside0.mk hc0_5
  clear hr0_5 hc0_5
  have HR0_6 := Aside0.mk hr0_6
  have HC0_6 := Aside0.mk hc0_6
  clear hr0_6 hc0_6
  have HR0_8 := Aside0.mk hr0_8
  have HC0_8 := Aside0.mk hc0_8
  clear hr0_8 hc0_8
  have HR0_9 := Aside0.mk hr0_9
  have HC0_9 := Aside0.mk hc0_9
  clear hr0_9 hc0_9
  have HR1_5 := Aside0.mk hr1_5
  have HC1_5 := Aside0.mk hc1_5
  clear hr1_5 hc1_5
  have HR1_6 := Aside0.mk hr1_6
  have HC1_6 := Aside0.mk hc1_6
  clear hr1_6 hc1_6
  have HR1_8 := Aside0.mk hr1_8
  have HC1_8 := Aside0.mk hc1_8
  clear hr1_8 hc1_8
  have HR1_9 := Aside0.mk hr1_9
  have HC1_9 := Aside0.mk hc1_9
  clear hr1_9 hc1_9
  have HB := Aside0.mk (Below.refl w.heap.size w)
  have H : (if a0_0 = a1_0 then (if a0_1 = a1_1 then (if a0_2 = a1_2 then (if a0_3 = a1_3 then (if a0_4 = a1_4 then (if a0_7 = a1_7 then ((slices_Equal_int_int.f k l0_5 l1_5).bind fun t111 => (if t111 = true then ((api_Image_32.f k l0_6 l1_6).bind fun t112 => (if t112 = true then ((api_Dirty_33.f k l0_8 l1_8).bind fun t113 => (if t113 = true then ((api_Active_34.f k l0_9 l1_9).bind fun t114 => (some t114)) else (some false))) else (some false))) else (some false))) else (some false)) else (some false)) else (some false)) else (some false)) else (some false)) else (some false)) = some r := h
  clear h
  by_cases c3 : a0_0 = a1_0
  · rw [if_pos c3] at H
    have c3b0 : (a0_0 == a1_0) = true := beq_iff_eq.mpr c3
    have c3b1 : (a0_0 != a1_0) = false := bne_eq_false_iff_eq.mpr c3
    clear c3
    by_cases c4 : a0_1 = a1_1
    · rw [if_pos c4] at H
      have c4b0 : (a0_1 == a1_1) = true := beq_iff_eq.mpr c4
      have c4b1 : (a0_1 != a1_1) = false := bne_eq_false_iff_eq.mpr c4
      clear c4
      by_cases c5 : a0_2 = a1_2
      · rw [if_pos c5] at H
        have c5b0 : (a0_2 == a1_2) = true := beq_iff_eq.mpr c5
        have c5b1 : (a0_2 != a1_2) = false := bne_eq_false_iff_eq.mpr c5
        clear c5
        by_cases c6 : a0_3 = a1_3
        · rw [if_pos c6] at H
          have c6b0 : (a0_3 == a1_3) = true := beq_iff_eq.mpr c6
          have c6b1 : (a0_3 != a1_3) = false := bne_eq_false_iff_eq.mpr c6
          clear c6
          by_cases c7 : a0_4 = a1_4
          · rw [if_pos c7] at H
            have c7b0 : (a0_4 == a1_4) = true := beq_iff_eq.mpr c7
            have c7b1 : (a0_4 != a1_4) = false := bne_eq_false_iff_eq.mpr c7
            clear c7
            by_cases c8 : a0_7 = a1_7
            · rw [if_pos c8] at H
              have c8b0 : (a0_7 == a1_7) = true := beq_iff_eq.mpr c8
              have c8b1 : (a0_7 != a1_7) = false := bne_eq_false_iff_eq.mpr c8
              clear c8
              replace H := Option.bind_eq_some_iff.mp H
              obtain ⟨t111, A90, H⟩ := H
              replace H : (if t111 = true then ((api_Image_32.f k l0_6 l1_6).bind fun t112 => (if t112 = true then ((api_Dirty_33.f k l0_8 l1_8).bind fun t113 => (if t113 = true then ((api_Active_34.f k l0_9 l1_9).bind fun t114 => (some t114)) else (some false))) else (some false))) else (some false)) = some r := H
              have A9 := Aside0.mk A90
              clear A90
              by_cases c10 : t111 = true
              · subst c10
                have H1 : ((api_Image_32.f k l0_6 l1_6).bind fun t112 => (if t112 = true then ((api_Dirty_33.f k l0_8 l1_8).bind fun t113 => (if t113 = true then ((api_Active_34.f k l0_9 l1_9).bind fun t114 => (some t114)) else (some false))) else (some false))) = some r := by rw [if_pos rfl] at H; exact H
                clear H
                have H := H1
                clear H1
                replace H := Option.bind_eq_some_iff.mp H
                obtain ⟨t112, A110, H⟩ := H
                replace H : (if t112 = true then ((api_Dirty_33.f k l0_8 l1_8).bind fun t113 => (if t113 = true then ((api_Active_34.f k l0_9 l1_9).bind fun t114 => (some t114)) else (some false))) else (some false)) = some r := H
                have A11 := Aside0.mk A110
                clear A110
                by_cases c12 : t112 = true
                · subst c12
                  have H1 : ((api_Dirty_33.f k l0_8 l1_8).bind fun t113 => (if t113 = true then ((api_Active_34.f k l0_9 l1_9).bind fun t114 => (some t114)) else (some false))) = some r := by rw [if_pos rfl] at H; exact H
                  clear H
                  have H := H1
                  clear H1
                  replace H := Option.bind_eq_some_iff.mp H
                  obtain ⟨t113, A130, H⟩ := H
                  replace H : (if t113 = true then ((api_Active_34.f k l0_9 l1_9).bind fun t114 => (some t114)) else (some false)) = some r := H
                  have A13 := Aside0.mk A130
                  clear A130
                  by_cases c14 : t113 = true
                  · subst c14
                    have H1 : ((api_Active_34.f k l0_9 l1_9).bind fun t114 => (some t114)) = some r := by rw [if_pos rfl] at H; exact H
                    clear H
                    have H := H1
                    clear H1
                    replace H := Option.bind_eq_some_iff.mp H
                    obtain ⟨t114, A150, H⟩ := H
                    replace H : (some t114) = some r := H
                    have A15 := Aside0.mk A150
                    clear A150
                    obtain rfl := Option.some.inj H
                    go_enter Try.func19, Try.ntmps19
                    go_wp2_with (first | ((with_reducible refine gate_dst (N := 2) rfl ?_); refine box_event ?hg (N := 2) ?hd (cs := #[.int .i64 a0_0, .int .i64 a0_1, .int .i64 a0_2, .int .i64 a0_3, .int .i64 a0_4, .slice A0_5 l0_5.length c0_5, .slice A0_6 l0_6.length c0_6, .int .i64 a0_7, .slice A0_8 l0_8.length c0_8, .slice A0_9 l0_9.length c0_9]) (t := 30) ?hr ?_; (case hd => rfl); (case hg => rfl); (case hr => first | (go_simp; done) | (go_simp; rfl)); intro gb109 hg w16 hbox hb; have n0_ := Aside0.mk (below_step (by repeat (first | (with_reducible first | exact HB.out | apply below_alloc | apply pw_below_drewN | apply below_drew1) | exact HB.out)) hb); have n1_ := Aside0.mk (hbox); have n2_ := Aside0.mk ((by rw [hg]; exact (below_size (by repeat (first | (with_reducible first | exact HB.out | apply below_alloc | apply pw_below_drewN | apply below_drew1) | exact HB.out))) : w.heap.size ≤ gb109)); have n3_ := Aside0.mk ((by rw [hg]; exact (below_size (by repeat (first | (with_reducible first | exact HB.out | apply below_alloc | apply pw_below_drewN | apply below_drew1) | exact HB.out))) : w.heap.size ≤ gb109)); clear HB; have HB := n0_; have BK109 := n1_; have GW109 := n2_; have GE109 := n3_; clear n0_ n1_ n2_ n3_; clear hb hbox hg) | ((with_reducible refine gate_dst (N := 3) rfl ?_); refine box_event ?hg (N := 3) ?hd (cs := #[.int .i64 a1_0, .int .i64 a1_1, .int .i64 a1_2, .int .i64 a1_3, .int .i64 a1_4, .slice A1_5 l1_5.length c1_5, .slice A1_6 l1_6.length c1_6, .int .i64 a1_7, .slice A1_8 l1_8.length c1_8, .slice A1_9 l1_9.length c1_9]) (t := 30) ?hr ?_; (case hd => rfl); (case hg => rfl); (case hr => first | (go_simp; done) | (go_simp; rfl)); intro gb110 hg w17 hbox hb; have n0_ := Aside0.mk (blk_below (g := gb109) (o := .cells #[.int .i64 a0_0, .int .i64 a0_1, .int .i64 a0_2, .int .i64 a0_3, .int .i64 a0_4, .slice A0_5 l0_5.length c0_5, .slice A0_6 l0_6.length c0_6, .int .i64 a0_7, .slice A0_8 l0_8.length c0_8, .slice A0_9 l0_9.length c0_9] 30 (0, 0)) (by (with_reducible repeat (first | refine blk_drewN ?_ _ | refine blk_drew ?_ | refine blk_alloc ?_ _)); exact BK109.out) hb); have n1_ := Aside0.mk (below_step (by repeat (first | (with_reducible first | exact HB.out | apply below_alloc | apply pw_below_drewN | apply below_drew1 | refine below_set ?_ GE109.out) | exact HB.out)) hb); have n2_ := Aside0.mk (hbox); have n3_ := Aside0.mk ((by rw [hg]; exact (below_size (by repeat (first | (with_reducible first | exact HB.out | apply below_alloc | apply pw_below_drewN | apply below_drew1 | refine below_set ?_ GE109.out) | exact HB.out))) : w.heap.size ≤ gb110)); have n4_ := Aside0.mk ((by rw [hg]; exact (below_size (by repeat (first | (with_reducible first | exact HB.out | apply below_alloc | apply pw_below_drewN | apply below_drew1 | refine below_set ?_ GE109.out) | exact HB.out))) : w.heap.size ≤ gb110)); have n5_ := Aside0.mk ((by rw [hg]; exact Nat.ne_of_lt (blk_lt (g := gb109) (o := .cells #[.int .i64 a0_0, .int .i64 a0_1, .int .i64 a0_2, .int .i64 a0_3, .int .i64 a0_4, .slice A0_5 l0_5.length c0_5, .slice A0_6 l0_6.length c0_6, .int .i64 a0_7, .slice A0_8 l0_8.length c0_8, .slice A0_9 l0_9.length c0_9] 30 (0, 0)) (by (with_reducible repeat (first | refine blk_drewN ?_ _ | refine blk_drew ?_ | refine blk_alloc ?_ _)); exact BK109.out)) : gb109 ≠ gb110)); have n6_ := Aside0.mk ((by rw [hg]; exact Nat.ne_of_gt (blk_lt (g := gb109) (o := .cells #[.int .i64 a0_0, .int .i64 a0_1, .int .i64 a0_2, .int .i64 a0_3, .int .i64 a0_4, .slice A0_5 l0_5.length c0_5, .slice A0_6 l0_6.length c0_6, .int .i64 a0_7, .slice A0_8 l0_8.length c0_8, .slice A0_9 l0_9.length c0_9] 30 (0, 0)) (by (with_reducible repeat (first | refine blk_drewN ?_ _ | refine blk_drew ?_ | refine blk_alloc ?_ _)); exact BK109.out)) : gb110 ≠ gb109)); clear BK109; clear HB; have BK109 := n0_; have HB := n1_; have BK110 := n2_; have GW110 := n3_; have GE110 := n4_; have NB109_110 := n5_; have NB110_109 := n6_; clear n0_ n1_ n2_ n3_ n4_ n5_ n6_; clear hb hbox hg; have hnb18 := NB109_110.out; have hnc18 := NB110_109.out; have hcz19_0 : w17.cell? ⟨gb109, 0, none⟩ = some (.int .i64 a0_0) := (blk_cell BK109.out 0).trans rfl; have hcz19_1 : w17.cell? ⟨gb109, 1, none⟩ = some (.int .i64 a0_1) := (blk_cell BK109.out 1).trans rfl; have hcz19_2 : w17.cell? ⟨gb109, 2, none⟩ = some (.int .i64 a0_2) := (blk_cell BK109.out 2).trans rfl; have hcz19_3 : w17.cell? ⟨gb109, 3, none⟩ = some (.int .i64 a0_3) := (blk_cell BK109.out 3).trans rfl; have hcz19_4 : w17.cell? ⟨gb109, 4, none⟩ = some (.int .i64 a0_4) := (blk_cell BK109.out 4).trans rfl; have hcz19_5 : w17.cell? ⟨gb109, 5, none⟩ = some (.slice A0_5 l0_5.length c0_5) := (blk_cell BK109.out 5).trans rfl; have hcz19_6 : w17.cell? ⟨gb109, 6, none⟩ = some (.slice A0_6 l0_6.length c0_6) := (blk_cell BK109.out 6).trans rfl; have hcz19_7 : w17.cell? ⟨gb109, 7, none⟩ = some (.int .i64 a0_7) := (blk_cell BK109.out 7).trans rfl; have hcz19_8 : w17.cell? ⟨gb109, 8, none⟩ = some (.slice A0_8 l0_8.length c0_8) := (blk_cell BK109.out 8).trans rfl; have hcz19_9 : w17.cell? ⟨gb109, 9, none⟩ = some (.slice A0_9 l0_9.length c0_9) := (blk_cell BK109.out 9).trans rfl; have hfz19_0 := blk_frozen BK109.out 0; have hfz19_1 := blk_frozen BK109.out 1; have hfz19_2 := blk_frozen BK109.out 2; have hfz19_3 := blk_frozen BK109.out 3; have hfz19_4 := blk_frozen BK109.out 4; have hfz19_5 := blk_frozen BK109.out 5; have hfz19_6 := blk_frozen BK109.out 6; have hfz19_7 := blk_frozen BK109.out 7; have hfz19_8 := blk_frozen BK109.out 8; have hfz19_9 := blk_frozen BK109.out 9; have hcz20_0 : w17.cell? ⟨gb110, 0, none⟩ = some (.int .i64 a1_0) := (blk_cell BK110.out 0).trans rfl; have hcz20_1 : w17.cell? ⟨gb110, 1, none⟩ = some (.int .i64 a1_1) := (blk_cell BK110.out 1).trans rfl; have hcz20_2 : w17.cell? ⟨gb110, 2, none⟩ = some (.int .i64 a1_2) := (blk_cell BK110.out 2).trans rfl; have hcz20_3 : w17.cell? ⟨gb110, 3, none⟩ = some (.int .i64 a1_3) := (blk_cell BK110.out 3).trans rfl; have hcz20_4 : w17.cell? ⟨gb110, 4, none⟩ = some (.int .i64 a1_4) := (blk_cell BK110.out 4).trans rfl; have hcz20_5 : w17.cell? ⟨gb110, 5, none⟩ = some (.slice A1_5 l1_5.length c1_5) := (blk_cell BK110.out 5).trans rfl; have hcz20_6 : w17.cell? ⟨gb110, 6, none⟩ = some (.slice A1_6 l1_6.length c1_6) := (blk_cell BK110.out 6).trans rfl; have hcz20_7 : w17.cell? ⟨gb110, 7, none⟩ = some (.int .i64 a1_7) := (blk_cell BK110.out 7).trans rfl; have hcz20_8 : w17.cell? ⟨gb110, 8, none⟩ = some (.slice A1_8 l1_8.length c1_8) := (blk_cell BK110.out 8).trans rfl; have hcz20_9 : w17.cell? ⟨gb110, 9, none⟩ = some (.slice A1_9 l1_9.length c1_9) := (blk_cell BK110.out 9).trans rfl; have hfz20_0 := blk_frozen BK110.out 0; have hfz20_1 := blk_frozen BK110.out 1; have hfz20_2 := blk_frozen BK110.out 2; have hfz20_3 := blk_frozen BK110.out 3; have hfz20_4 := blk_frozen BK110.out 4; have hfz20_5 := blk_frozen BK110.out 5; have hfz20_6 := blk_frozen BK110.out 6; have hfz20_7 := blk_frozen BK110.out 7; have hfz20_8 := blk_frozen BK110.out 8; have hfz20_9 := blk_frozen BK110.out 9) | (go_at_call 31; (with_reducible refine (slices_Equal_int_int.calls k _ _ l0_5 _ _ l1_5 true _ ?side1 ?side2 ?side3 ?side4 A9.out).mono ?_); (case side1 => repeat (first | exact (Kd.C_below HR0_5.out HB.out) | (with_reducible refine Kd.C_alloc ?_ _) | (with_reducible refine Kd.C_drewN ?_ _) | (with_reducible refine Kd.C_drew ?_))); (case side2 => exact HC0_5.out); (case side3 => repeat (first | exact (Kd.C_below HR1_5.out HB.out) | (with_reducible refine Kd.C_alloc ?_ _) | (with_reducible refine Kd.C_drewN ?_ _) | (with_reducible refine Kd.C_drew ?_))); (case side4 => exact HC1_5.out); rintro e w' ⟨rfl, ⟨nd, rfl⟩⟩) | (go_at_call 32; (with_reducible refine (api_Image_32.calls k _ _ l0_6 _ _ l1_6 true _ ?side1 ?side2 ?side3 ?side4 A11.out).mono ?_); (case side1 => repeat (first | exact (Kd.C_below HR0_6.out (by repeat (first | (with_reducible first | exact HB.out | apply below_alloc | apply pw_below_drewN | apply below_drew1 | refine below_set ?_ GE109.out | refine below_set ?_ GE110.out) | exact HB.out))) | (with_reducible refine Kd.C_alloc ?_ _) | (with_reducible refine Kd.C_drewN ?_ _) | (with_reducible refine Kd.C_drew ?_))); (case side2 => exact HC0_6.out); (case side3 => repeat (first | exact (Kd.C_below HR1_6.out (by repeat (first | (with_reducible first | exact HB.out | apply below_alloc | apply pw_below_drewN | apply below_drew1 | refine below_set ?_ GE109.out | refine below_set ?_ GE110.out) | exact HB.out))) | (with_reducible refine Kd.C_alloc ?_ _) | (with_reducible refine Kd.C_drewN ?_ _) | (with_reducible refine Kd.C_drew ?_))); (case side4 => exact HC1_6.out); rintro e w' ⟨rfl, ⟨nd, rfl⟩⟩) | (go_at_call 33; (with_reducible refine (api_Dirty_33.calls k _ _ l0_8 _ _ l1_8 true _ ?side1 ?side2 ?side3 ?side4 A13.out).mono ?_); (case side1 => repeat (first | exact (Kd.C_below HR0_8.out (by repeat (first | (with_reducible first | exact HB.out | apply below_alloc | apply pw_below_drewN | apply below_drew1 | refine below_set ?_ GE109.out | refine below_set ?_ GE110.out) | exact HB.out))) | (with_reducible refine Kd.C_alloc ?_ _) | (with_reducible refine Kd.C_drewN ?_ _) | (with_reducible refine Kd.C_drew ?_))); (case side2 => exact HC0_8.out); (case side3 => repeat (first | exact (Kd.C_below HR1_8.out (by repeat (first | (with_reducible first | exact HB.out | apply below_alloc | apply pw_below_drewN | apply below_drew1 | refine below_set ?_ GE109.out | refine below_set ?_ GE110.out) | exact HB.out))) | (with_reducible refine Kd.C_alloc ?_ _) | (with_reducible refine Kd.C_drewN ?_ _) | (with_reducible refine Kd.C_drew ?_))); (case side4 => exact HC1_8.out); rintro e w' ⟨rfl, ⟨nd, rfl⟩⟩) | (go_at_call 34; (with_reducible refine (api_Active_34.calls k _ _ l0_9 _ _ l1_9 t114 _ ?side1 ?side2 ?side3 ?side4 A15.out).mono ?_); (case side1 => repeat (first | exact (Kd.C_below HR0_9.out (by repeat (first | (with_reducible first | exact HB.out | apply below_alloc | apply pw_below_drewN | apply below_drew1 | refine below_set ?_ GE109.out | refine below_set ?_ GE110.out) | exact HB.out))) | (with_reducible refine Kd.C_alloc ?_ _) | (with_reducible refine Kd.C_drewN ?_ _) | (with_reducible refine Kd.C_drew ?_))); (case side2 => exact HC0_9.out); (case side3 => repeat (first | exact (Kd.C_below HR1_9.out (by repeat (first | (with_reducible first | exact HB.out | apply below_alloc | apply pw_below_drewN | apply below_drew1 | refine below_set ?_ GE109.out | refine below_set ?_ GE110.out) | exact HB.out))) | (with_reducible refine Kd.C_alloc ?_ _) | (with_reducible refine Kd.C_drewN ?_ _) | (with_reducible refine Kd.C_drew ?_))); (case side4 => exact HC1_9.out); rintro e w' ⟨rfl, ⟨nd, rfl⟩⟩))
                    go_ret
                    exact ⟨by first | rfl | (simp [errW_none, errW_some] <;> rfl) | (simp [*, errW_none, errW_some] <;> rfl), by repeat (first | (with_reducible first | exact HB.out | apply below_alloc | apply pw_below_drewN | apply below_drew1 | refine below_set ?_ GE109.out | refine below_set ?_ GE110.out) | exact HB.out)⟩
                  · replace c14 := Bool.eq_false_iff.mpr c14
                    subst c14
                    have H1 : (some false) = some r := by rw [if_neg (show ¬ (false = true) by decide)] at H; exact H
                    clear H
                    have H := H1
                    clear H1
                    obtain rfl := Option.some.inj H
                    go_enter Try.func19, Try.ntmps19
                    go_wp2_with (first | ((with_reducible refine gate_dst (N := 2) rfl ?_); refine box_event ?hg (N := 2) ?hd (cs := #[.int .i64 a0_0, .int .i64 a0_1, .int .i64 a0_2, .int .i64 a0_3, .int .i64 a0_4, .slice A0_5 l0_5.length c0_5, .slice A0_6 l0_6.length c0_6, .int .i64 a0_7, .slice A0_8 l0_8.length c0_8, .slice A0_9 l0_9.length c0_9]) (t := 30) ?hr ?_; (case hd => rfl); (case hg => rfl); (case hr => first | (go_simp; done) | (go_simp; rfl)); intro gb109 hg w21 hbox hb; have n0_ := Aside0.mk (below_step (by repeat (first | (with_reducible first | exact HB.out | apply below_alloc | apply pw_below_drewN | apply below_drew1) | exact HB.out)) hb); have n1_ := Aside0.mk (hbox); have n2_ := Aside0.mk ((by rw [hg]; exact (below_size (by repeat (first | (with_reducible first | exact HB.out | apply below_alloc | apply pw_below_drewN | apply below_drew1) | exact HB.out))) : w.heap.size ≤ gb109)); have n3_ := Aside0.mk ((by rw [hg]; exact (below_size (by repeat (first | (with_reducible first | exact HB.out | apply below_alloc | apply pw_below_drewN | apply below_drew1) | exact HB.out))) : w.heap.size ≤ gb109)); clear HB; have HB := n0_; have BK109 := n1_; have GW109 := n2_; have GE109 := n3_; clear n0_ n1_ n2_ n3_; clear hb hbox hg) | ((with_reducible refine gate_dst (N := 3) rfl ?_); refine box_event ?hg (N := 3) ?hd (cs := #[.int .i64 a1_0, .int .i64 a1_1, .int .i64 a1_2, .int .i64 a1_3, .int .i64 a1_4, .slice A1_5 l1_5.length c1_5, .slice A1_6 l1_6.length c1_6, .int .i64 a1_7, .slice A1_8 l1_8.length c1_8, .slice A1_9 l1_9.length c1_9]) (t := 30) ?hr ?_; (case hd => rfl); (case hg => rfl); (case hr => first | (go_simp; done) | (go_simp; rfl)); intro gb110 hg w22 hbox hb; have n0_ := Aside0.mk (blk_below (g := gb109) (o := .cells #[.int .i64 a0_0, .int .i64 a0_1, .int .i64 a0_2, .int .i64 a0_3, .int .i64 a0_4, .slice A0_5 l0_5.length c0_5, .slice A0_6 l0_6.length c0_6, .int .i64 a0_7, .slice A0_8 l0_8.length c0_8, .slice A0_9 l0_9.length c0_9] 30 (0, 0)) (by (with_reducible repeat (first | refine blk_drewN ?_ _ | refine blk_drew ?_ | refine blk_alloc ?_ _)); exact BK109.out) hb); have n1_ := Aside0.mk (below_step (by repeat (first | (with_reducible first | exact HB.out | apply below_alloc | apply pw_below_drewN | apply below_drew1 | refine below_set ?_ GE109.out) | exact HB.out)) hb); have n2_ := Aside0.mk (hbox); have n3_ := Aside0.mk ((by rw [hg]; exact (below_size (by repeat (first | (with_reducible first | exact HB.out | apply below_alloc | apply pw_below_drewN | apply below_drew1 | refine below_set ?_ GE109.out) | exact HB.out))) : w.heap.size ≤ gb110)); have n4_ := Aside0.mk ((by rw [hg]; exact (below_size (by repeat (first | (with_reducible first | exact HB.out | apply below_alloc | apply pw_below_drewN | apply below_drew1 | refine below_set ?_ GE109.out) | exact HB.out))) : w.heap.size ≤ gb110)); have n5_ := Aside0.mk ((by rw [hg]; exact Nat.ne_of_lt (blk_lt (g := gb109) (o := .cells #[.int .i64 a0_0, .int .i64 a0_1, .int .i64 a0_2, .int .i64 a0_3, .int .i64 a0_4, .slice A0_5 l0_5.length c0_5, .slice A0_6 l0_6.length c0_6, .int .i64 a0_7, .slice A0_8 l0_8.length c0_8, .slice A0_9 l0_9.length c0_9] 30 (0, 0)) (by (with_reducible repeat (first | refine blk_drewN ?_ _ | refine blk_drew ?_ | refine blk_alloc ?_ _)); exact BK109.out)) : gb109 ≠ gb110)); have n6_ := Aside0.mk ((by rw [hg]; exact Nat.ne_of_gt (blk_lt (g := gb109) (o := .cells #[.int .i64 a0_0, .int .i64 a0_1, .int .i64 a0_2, .int .i64 a0_3, .int .i64 a0_4, .slice A0_5 l0_5.length c0_5, .slice A0_6 l0_6.length c0_6, .int .i64 a0_7, .slice A0_8 l0_8.length c0_8, .slice A0_9 l0_9.length c0_9] 30 (0, 0)) (by (with_reducible repeat (first | refine blk_drewN ?_ _ | refine blk_drew ?_ | refine blk_alloc ?_ _)); exact BK109.out)) : gb110 ≠ gb109)); clear BK109; clear HB; have BK109 := n0_; have HB := n1_; have BK110 := n2_; have GW110 := n3_; have GE110 := n4_; have NB109_110 := n5_; have NB110_109 := n6_; clear n0_ n1_ n2_ n3_ n4_ n5_ n6_; clear hb hbox hg; have hnb23 := NB109_110.out; have hnc23 := NB110_109.out; have hcz24_0 : w22.cell? ⟨gb109, 0, none⟩ = some (.int .i64 a0_0) := (blk_cell BK109.out 0).trans rfl; have hcz24_1 : w22.cell? ⟨gb109, 1, none⟩ = some (.int .i64 a0_1) := (blk_cell BK109.out 1).trans rfl; have hcz24_2 : w22.cell? ⟨gb109, 2, none⟩ = some (.int .i64 a0_2) := (blk_cell BK109.out 2).trans rfl; have hcz24_3 : w22.cell? ⟨gb109, 3, none⟩ = some (.int .i64 a0_3) := (blk_cell BK109.out 3).trans rfl; have hcz24_4 : w22.cell? ⟨gb109, 4, none⟩ = some (.int .i64 a0_4) := (blk_cell BK109.out 4).trans rfl; have hcz24_5 : w22.cell? ⟨gb109, 5, none⟩ = some (.slice A0_5 l0_5.length c0_5) := (blk_cell BK109.out 5).trans rfl; have hcz24_6 : w22.cell? ⟨gb109, 6, none⟩ = some (.slice A0_6 l0_6.length c0_6) := (blk_cell BK109.out 6).trans rfl; have hcz24_7 : w22.cell? ⟨gb109, 7, none⟩ = some (.int .i64 a0_7) := (blk_cell BK109.out 7).trans rfl; have hcz24_8 : w22.cell? ⟨gb109, 8, none⟩ = some (.slice A0_8 l0_8.length c0_8) := (blk_cell BK109.out 8).trans rfl; have hcz24_9 : w22.cell? ⟨gb109, 9, none⟩ = some (.slice A0_9 l0_9.length c0_9) := (blk_cell BK109.out 9).trans rfl; have hfz24_0 := blk_frozen BK109.out 0; have hfz24_1 := blk_frozen BK109.out 1; have hfz24_2 := blk_frozen BK109.out 2; have hfz24_3 := blk_frozen BK109.out 3; have hfz24_4 := blk_frozen BK109.out 4; have hfz24_5 := blk_frozen BK109.out 5; have hfz24_6 := blk_frozen BK109.out 6; have hfz24_7 := blk_frozen BK109.out 7; have hfz24_8 := blk_frozen BK109.out 8; have hfz24_9 := blk_frozen BK109.out 9; have hcz25_0 : w22.cell? ⟨gb110, 0, none⟩ = some (.int .i64 a1_0) := (blk_cell BK110.out 0).trans rfl; have hcz25_1 : w22.cell? ⟨gb110, 1, none⟩ = some (.int .i64 a1_1) := (blk_cell BK110.out 1).trans rfl; have hcz25_2 : w22.cell? ⟨gb110, 2, none⟩ = some (.int .i64 a1_2) := (blk_cell BK110.out 2).trans rfl; have hcz25_3 : w22.cell? ⟨gb110, 3, none⟩ = some (.int .i64 a1_3) := (blk_cell BK110.out 3).trans rfl; have hcz25_4 : w22.cell? ⟨gb110, 4, none⟩ = some (.int .i64 a1_4) := (blk_cell BK110.out 4).trans rfl; have hcz25_5 : w22.cell? ⟨gb110, 5, none⟩ = some (.slice A1_5 l1_5.length c1_5) := (blk_cell BK110.out 5).trans rfl; have hcz25_6 : w22.cell? ⟨gb110, 6, none⟩ = some (.slice A1_6 l1_6.length c1_6) := (blk_cell BK110.out 6).trans rfl; have hcz25_7 : w22.cell? ⟨gb110, 7, none⟩ = some (.int .i64 a1_7) := (blk_cell BK110.out 7).trans rfl; have hcz25_8 : w22.cell? ⟨gb110, 8, none⟩ = some (.slice A1_8 l1_8.length c1_8) := (blk_cell BK110.out 8).trans rfl; have hcz25_9 : w22.cell? ⟨gb110, 9, none⟩ = some (.slice A1_9 l1_9.length c1_9) := (blk_cell BK110.out 9).trans rfl; have hfz25_0 := blk_frozen BK110.out 0; have hfz25_1 := blk_frozen BK110.out 1; have hfz25_2 := blk_frozen BK110.out 2; have hfz25_3 := blk_frozen BK110.out 3; have hfz25_4 := blk_frozen BK110.out 4; have hfz25_5 := blk_frozen BK110.out 5; have hfz25_6 := blk_frozen BK110.out 6; have hfz25_7 := blk_frozen BK110.out 7; have hfz25_8 := blk_frozen BK110.out 8; have hfz25_9 := blk_frozen BK110.out 9) | (go_at_call 31; (with_reducible refine (slices_Equal_int_int.calls k _ _ l0_5 _ _ l1_5 true _ ?side1 ?side2 ?side3 ?side4 A9.out).mono ?_); (case side1 => repeat (first | exact (Kd.C_below HR0_5.out HB.out) | (with_reducible refine Kd.C_alloc ?_ _) | (with_reducible refine Kd.C_drewN ?_ _) | (with_reducible refine Kd.C_drew ?_))); (case side2 => exact HC0_5.out); (case side3 => repeat (first | exact (Kd.C_below HR1_5.out HB.out) | (with_reducible refine Kd.C_alloc ?_ _) | (with_reducible refine Kd.C_drewN ?_ _) | (with_reducible refine Kd.C_drew ?_))); (case side4 => exact HC1_5.out); rintro e w' ⟨rfl, ⟨nd, rfl⟩⟩) | (go_at_call 32; (with_reducible refine (api_Image_32.calls k _ _ l0_6 _ _ l1_6 true _ ?side1 ?side2 ?side3 ?side4 A11.out).mono ?_); (case side1 => repeat (first | exact (Kd.C_below HR0_6.out (by repeat (first | (with_reducible first | exact HB.out | apply below_alloc | apply pw_below_drewN | apply below_drew1 | refine below_set ?_ GE109.out | refine below_set ?_ GE110.out) | exact HB.out))) | (with_reducible refine Kd.C_alloc ?_ _) | (with_reducible refine Kd.C_drewN ?_ _) | (with_reducible refine Kd.C_drew ?_))); (case side2 => exact HC0_6.out); (case side3 => repeat (first | exact (Kd.C_below HR1_6.out (by repeat (first | (with_reducible first | exact HB.out | apply below_alloc | apply pw_below_drewN | apply below_drew1 | refine below_set ?_ GE109.out | refine below_set ?_ GE110.out) | exact HB.out))) | (with_reducible refine Kd.C_alloc ?_ _) | (with_reducible refine Kd.C_drewN ?_ _) | (with_reducible refine Kd.C_drew ?_))); (case side4 => exact HC1_6.out); rintro e w' ⟨rfl, ⟨nd, rfl⟩⟩) | (go_at_call 33; (with_reducible refine (api_Dirty_33.calls k _ _ l0_8 _ _ l1_8 false _ ?side1 ?side2 ?side3 ?side4 A13.out).mono ?_); (case side1 => repeat (first | exact (Kd.C_below HR0_8.out (by repeat (first | (with_reducible first | exact HB.out | apply below_alloc | apply pw_below_drewN | apply below_drew1 | refine below_set ?_ GE109.out | refine below_set ?_ GE110.out) | exact HB.out))) | (with_reducible refine Kd.C_alloc ?_ _) | (with_reducible refine Kd.C_drewN ?_ _) | (with_reducible refine Kd.C_drew ?_))); (case side2 => exact HC0_8.out); (case side3 => repeat (first | exact (Kd.C_below HR1_8.out (by repeat (first | (with_reducible first | exact HB.out | apply below_alloc | apply pw_below_drewN | apply below_drew1 | refine below_set ?_ GE109.out | refine below_set ?_ GE110.out) | exact HB.out))) | (with_reducible refine Kd.C_alloc ?_ _) | (with_reducible refine Kd.C_drewN ?_ _) | (with_reducible refine Kd.C_drew ?_))); (case side4 => exact HC1_8.out); rintro e w' ⟨rfl, ⟨nd, rfl⟩⟩))
                    go_ret
                    exact ⟨by first | rfl | (simp [errW_none, errW_some] <;> rfl) | (simp [*, errW_none, errW_some] <;> rfl), by repeat (first | (with_reducible first | exact HB.out | apply below_alloc | apply pw_below_drewN | apply below_drew1 | refine below_set ?_ GE109.out | refine below_set ?_ GE110.out) | exact HB.out)⟩
                · replace c12 := Bool.eq_false_iff.mpr c12
                  subst c12
                  have H1 : (some false) = some r := by rw [if_neg (show ¬ (false = true) by decide)] at H; exact H
                  clear H
                  have H := H1
                  clear H1
                  obtain rfl := Option.some.inj H
                  go_enter Try.func19, Try.ntmps19
                  go_wp2_with (first | ((with_reducible refine gate_dst (N := 2) rfl ?_); refine box_event ?hg (N := 2) ?hd (cs := #[.int .i64 a0_0, .int .i64 a0_1, .int .i64 a0_2, .int .i64 a0_3, .int .i64 a0_4, .slice A0_5 l0_5.length c0_5, .slice A0_6 l0_6.length c0_6, .int .i64 a0_7, .slice A0_8 l0_8.length c0_8, .slice A0_9 l0_9.length c0_9]) (t := 30) ?hr ?_; (case hd => rfl); (case hg => rfl); (case hr => first | (go_simp; done) | (go_simp; rfl)); intro gb109 hg w26 hbox hb; have n0_ := Aside0.mk (below_step (by repeat (first | (with_reducible first | exact HB.out | apply below_alloc | apply pw_below_drewN | apply below_drew1) | exact HB.out)) hb); have n1_ := Aside0.mk (hbox); have n2_ := Aside0.mk ((by rw [hg]; exact (below_size (by repeat (first | (with_reducible first | exact HB.out | apply below_alloc | apply pw_below_drewN | apply below_drew1) | exact HB.out))) : w.heap.size ≤ gb109)); have n3_ := Aside0.mk ((by rw [hg]; exact (below_size (by repeat (first | (with_reducible first | exact HB.out | apply below_alloc | apply pw_below_drewN | apply below_drew1) | exact HB.out))) : w.heap.size ≤ gb109)); clear HB; have HB := n0_; have BK109 := n1_; have GW109 := n2_; have GE109 := n3_; clear n0_ n1_ n2_ n3_; clear hb hbox hg) | ((with_reducible refine gate_dst (N := 3) rfl ?_); refine box_event ?hg (N := 3) ?hd (cs := #[.int .i64 a1_0, .int .i64 a1_1, .int .i64 a1_2, .int .i64 a1_3, .int .i64 a1_4, .slice A1_5 l1_5.length c1_5, .slice A1_6 l1_6.length c1_6, .int .i64 a1_7, .slice A1_8 l1_8.length c1_8, .slice A1_9 l1_9.length c1_9]) (t := 30) ?hr ?_; (case hd => rfl); (case hg => rfl); (case hr => first | (go_simp; done) | (go_simp; rfl)); intro gb110 hg w27 hbox hb; have n0_ := Aside0.mk (blk_below (g := gb109) (o := .cells #[.int .i64 a0_0, .int .i64 a0_1, .int .i64 a0_2, .int .i64 a0_3, .int .i64 a0_4, .slice A0_5 l0_5.length c0_5, .slice A0_6 l0_6.length c0_6, .int .i64 a0_7, .slice A0_8 l0_8.length c0_8, .slice A0_9 l0_9.length c0_9] 30 (0, 0)) (by (with_reducible repeat (first | refine blk_drewN ?_ _ | refine blk_drew ?_ | refine blk_alloc ?_ _)); exact BK109.out) hb); have n1_ := Aside0.mk (below_step (by repeat (first | (with_reducible first | exact HB.out | apply below_alloc | apply pw_below_drewN | apply below_drew1 | refine below_set ?_ GE109.out) | exact HB.out)) hb); have n2_ := Aside0.mk (hbox); have n3_ := Aside0.mk ((by rw [hg]; exact (below_size (by repeat (first | (with_reducible first | exact HB.out | apply below_alloc | apply pw_below_drewN | apply below_drew1 | refine below_set ?_ GE109.out) | exact HB.out))) : w.heap.size ≤ gb110)); have n4_ := Aside0.mk ((by rw [hg]; exact (below_size (by repeat (first | (with_reducible first | exact HB.out | apply below_alloc | apply pw_below_drewN | apply below_drew1 | refine below_set ?_ GE109.out) | exact HB.out))) : w.heap.size ≤ gb110)); have n5_ := Aside0.mk ((by rw [hg]; exact Nat.ne_of_lt (blk_lt (g := gb109) (o := .cells #[.int .i64 a0_0, .int .i64 a0_1, .int .i64 a0_2, .int .i64 a0_3, .int .i64 a0_4, .slice A0_5 l0_5.length c0_5, .slice A0_6 l0_6.length c0_6, .int .i64 a0_7, .slice A0_8 l0_8.length c0_8, .slice A0_9 l0_9.length c0_9] 30 (0, 0)) (by (with_reducible repeat (first | refine blk_drewN ?_ _ | refine blk_drew ?_ | refine blk_alloc ?_ _)); exact BK109.out)) : gb109 ≠ gb110)); have n6_ := Aside0.mk ((by rw [hg]; exact Nat.ne_of_gt (blk_lt (g := gb109) (o := .cells #[.int .i64 a0_0, .int .i64 a0_1, .int .i64 a0_2, .int .i64 a0_3, .int .i64 a0_4, .slice A0_5 l0_5.length c0_5, .slice A0_6 l0_6.length c0_6, .int .i64 a0_7, .slice A0_8 l0_8.length c0_8, .slice A0_9 l0_9.length c0_9] 30 (0, 0)) (by (with_reducible repeat (first | refine blk_drewN ?_ _ | refine blk_drew ?_ | refine blk_alloc ?_ _)); exact BK109.out)) : gb110 ≠ gb109)); clear BK109; clear HB; have BK109 := n0_; have HB := n1_; have BK110 := n2_; have GW110 := n3_; have GE110 := n4_; have NB109_110 := n5_; have NB110_109 := n6_; clear n0_ n1_ n2_ n3_ n4_ n5_ n6_; clear hb hbox hg; have hnb28 := NB109_110.out; have hnc28 := NB110_109.out; have hcz29_0 : w27.cell? ⟨gb109, 0, none⟩ = some (.int .i64 a0_0) := (blk_cell BK109.out 0).trans rfl; have hcz29_1 : w27.cell? ⟨gb109, 1, none⟩ = some (.int .i64 a0_1) := (blk_cell BK109.out 1).trans rfl; have hcz29_2 : w27.cell? ⟨gb109, 2, none⟩ = some (.int .i64 a0_2) := (blk_cell BK109.out 2).trans rfl; have hcz29_3 : w27.cell? ⟨gb109, 3, none⟩ = some (.int .i64 a0_3) := (blk_cell BK109.out 3).trans rfl; have hcz29_4 : w27.cell? ⟨gb109, 4, none⟩ = some (.int .i64 a0_4) := (blk_cell BK109.out 4).trans rfl; have hcz29_5 : w27.cell? ⟨gb109, 5, none⟩ = some (.slice A0_5 l0_5.length c0_5) := (blk_cell BK109.out 5).trans rfl; have hcz29_6 : w27.cell? ⟨gb109, 6, none⟩ = some (.slice A0_6 l0_6.length c0_6) := (blk_cell BK109.out 6).trans rfl; have hcz29_7 : w27.cell? ⟨gb109, 7, none⟩ = some (.int .i64 a0_7) := (blk_cell BK109.out 7).trans rfl; have hcz29_8 : w27.cell? ⟨gb109, 8, none⟩ = some (.slice A0_8 l0_8.length c0_8) := (blk_cell BK109.out 8).trans rfl; have hcz29_9 : w27.cell? ⟨gb109, 9, none⟩ = some (.slice A0_9 l0_9.length c0_9) := (blk_cell BK109.out 9).trans rfl; have hfz29_0 := blk_frozen BK109.out 0; have hfz29_1 := blk_frozen BK109.out 1; have hfz29_2 := blk_frozen BK109.out 2; have hfz29_3 := blk_frozen BK109.out 3; have hfz29_4 := blk_frozen BK109.out 4; have hfz29_5 := blk_frozen BK109.out 5; have hfz29_6 := blk_frozen BK109.out 6; have hfz29_7 := blk_frozen BK109.out 7; have hfz29_8 := blk_frozen BK109.out 8; have hfz29_9 := blk_frozen BK109.out 9; have hcz30_0 : w27.cell? ⟨gb110, 0, none⟩ = some (.int .i64 a1_0) := (blk_cell BK110.out 0).trans rfl; have hcz30_1 : w27.cell? ⟨gb110, 1, none⟩ = some (.int .i64 a1_1) := (blk_cell BK110.out 1).trans rfl; have hcz30_2 : w27.cell? ⟨gb110, 2, none⟩ = some (.int .i64 a1_2) := (blk_cell BK110.out 2).trans rfl; have hcz30_3 : w27.cell? ⟨gb110, 3, none⟩ = some (.int .i64 a1_3) := (blk_cell BK110.out 3).trans rfl; have hcz30_4 : w27.cell? ⟨gb110, 4, none⟩ = some (.int .i64 a1_4) := (blk_cell BK110.out 4).trans rfl; have hcz30_5 : w27.cell? ⟨gb110, 5, none⟩ = some (.slice A1_5 l1_5.length c1_5) := (blk_cell BK110.out 5).trans rfl; have hcz30_6 : w27.cell? ⟨gb110, 6, none⟩ = some (.slice A1_6 l1_6.length c1_6) := (blk_cell BK110.out 6).trans rfl; have hcz30_7 : w27.cell? ⟨gb110, 7, none⟩ = some (.int .i64 a1_7) := (blk_cell BK110.out 7).trans rfl; have hcz30_8 : w27.cell? ⟨gb110, 8, none⟩ = some (.slice A1_8 l1_8.length c1_8) := (blk_cell BK110.out 8).trans rfl; have hcz30_9 : w27.cell? ⟨gb110, 9, none⟩ = some (.slice A1_9 l1_9.length c1_9) := (blk_cell BK110.out 9).trans rfl; have hfz30_0 := blk_frozen BK110.out 0; have hfz30_1 := blk_frozen BK110.out 1; have hfz30_2 := blk_frozen BK110.out 2; have hfz30_3 := blk_frozen BK110.out 3; have hfz30_4 := blk_frozen BK110.out 4; have hfz30_5 := blk_frozen BK110.out 5; have hfz30_6 := blk_frozen BK110.out 6; have hfz30_7 := blk_frozen BK110.out 7; have hfz30_8 := blk_frozen BK110.out 8; have hfz30_9 := blk_frozen BK110.out 9) | (go_at_call 31; (with_reducible refine (slices_Equal_int_int.calls k _ _ l0_5 _ _ l1_5 true _ ?side1 ?side2 ?side3 ?side4 A9.out).mono ?_); (case side1 => repeat (first | exact (Kd.C_below HR0_5.out HB.out) | (with_reducible refine Kd.C_alloc ?_ _) | (with_reducible refine Kd.C_drewN ?_ _) | (with_reducible refine Kd.C_drew ?_))); (case side2 => exact HC0_5.out); (case side3 => repeat (first | exact (Kd.C_below HR1_5.out HB.out) | (with_reducible refine Kd.C_alloc ?_ _) | (with_reducible refine Kd.C_drewN ?_ _) | (with_reducible refine Kd.C_drew ?_))); (case side4 => exact HC1_5.out); rintro e w' ⟨rfl, ⟨nd, rfl⟩⟩) | (go_at_call 32; (with_reducible refine (api_Image_32.calls k _ _ l0_6 _ _ l1_6 false _ ?side1 ?side2 ?side3 ?side4 A11.out).mono ?_); (case side1 => repeat (first | exact (Kd.C_below HR0_6.out (by repeat (first | (with_reducible first | exact HB.out | apply below_alloc | apply pw_below_drewN | apply below_drew1 | refine below_set ?_ GE109.out | refine below_set ?_ GE110.out) | exact HB.out))) | (with_reducible refine Kd.C_alloc ?_ _) | (with_reducible refine Kd.C_drewN ?_ _) | (with_reducible refine Kd.C_drew ?_))); (case side2 => exact HC0_6.out); (case side3 => repeat (first | exact (Kd.C_below HR1_6.out (by repeat (first | (with_reducible first | exact HB.out | apply below_alloc | apply pw_below_drewN | apply below_drew1 | refine below_set ?_ GE109.out | refine below_set ?_ GE110.out) | exact HB.out))) | (with_reducible refine Kd.C_alloc ?_ _) | (with_reducible refine Kd.C_drewN ?_ _) | (with_reducible refine Kd.C_drew ?_))); (case side4 => exact HC1_6.out); rintro e w' ⟨rfl, ⟨nd, rfl⟩⟩))
                  go_ret
                  exact ⟨by first | rfl | (simp [errW_none, errW_some] <;> rfl) | (simp [*, errW_none, errW_some] <;> rfl), by repeat (first | (with_reducible first | exact HB.out | apply below_alloc | apply pw_below_drewN | apply below_drew1 | refine below_set ?_ GE109.out | refine below_set ?_ GE110.out) | exact HB.out)⟩
              · replace c10 := Bool.eq_false_iff.mpr c10
                subst c10
                have H1 : (some false) = some r := by rw [if_neg (show ¬ (false = true) by decide)] at H; exact H
                clear H
                have H := H1
                clear H1
                obtain rfl := Option.some.inj H
                go_enter Try.func19, Try.ntmps19
                go_wp2_with (first | ((with_reducible refine gate_dst (N := 2) rfl ?_); refine box_event ?hg (N := 2) ?hd (cs := #[.int .i64 a0_0, .int .i64 a0_1, .int .i64 a0_2, .int .i64 a0_3, .int .i64 a0_4, .slice A0_5 l0_5.length c0_5, .slice A0_6 l0_6.length c0_6, .int .i64 a0_7, .slice A0_8 l0_8.length c0_8, .slice A0_9 l0_9.length c0_9]) (t := 30) ?hr ?_; (case hd => rfl); (case hg => rfl); (case hr => first | (go_simp; done) | (go_simp; rfl)); intro gb109 hg w31 hbox hb; have n0_ := Aside0.mk (below_step (by repeat (first | (with_reducible first | exact HB.out | apply below_alloc | apply pw_below_drewN | apply below_drew1) | exact HB.out)) hb); have n1_ := Aside0.mk (hbox); have n2_ := Aside0.mk ((by rw [hg]; exact (below_size (by repeat (first | (with_reducible first | exact HB.out | apply below_alloc | apply pw_below_drewN | apply below_drew1) | exact HB.out))) : w.heap.size ≤ gb109)); have n3_ := Aside0.mk ((by rw [hg]; exact (below_size (by repeat (first | (with_reducible first | exact HB.out | apply below_alloc | apply pw_below_drewN | apply below_drew1) | exact HB.out))) : w.heap.size ≤ gb109)); clear HB; have HB := n0_; have BK109 := n1_; have GW109 := n2_; have GE109 := n3_; clear n0_ n1_ n2_ n3_; clear hb hbox hg) | ((with_reducible refine gate_dst (N := 3) rfl ?_); refine box_event ?hg (N := 3) ?hd (cs := #[.int .i64 a1_0, .int .i64 a1_1, .int .i64 a1_2, .int .i64 a1_3, .int .i64 a1_4, .slice A1_5 l1_5.length c1_5, .slice A1_6 l1_6.length c1_6, .int .i64 a1_7, .slice A1_8 l1_8.length c1_8, .slice A1_9 l1_9.length c1_9]) (t := 30) ?hr ?_; (case hd => rfl); (case hg => rfl); (case hr => first | (go_simp; done) | (go_simp; rfl)); intro gb110 hg w32 hbox hb; have n0_ := Aside0.mk (blk_below (g := gb109) (o := .cells #[.int .i64 a0_0, .int .i64 a0_1, .int .i64 a0_2, .int .i64 a0_3, .int .i64 a0_4, .slice A0_5 l0_5.length c0_5, .slice A0_6 l0_6.length c0_6, .int .i64 a0_7, .slice A0_8 l0_8.length c0_8, .slice A0_9 l0_9.length c0_9] 30 (0, 0)) (by (with_reducible repeat (first | refine blk_drewN ?_ _ | refine blk_drew ?_ | refine blk_alloc ?_ _)); exact BK109.out) hb); have n1_ := Aside0.mk (below_step (by repeat (first | (with_reducible first | exact HB.out | apply below_alloc | apply pw_below_drewN | apply below_drew1 | refine below_set ?_ GE109.out) | exact HB.out)) hb); have n2_ := Aside0.mk (hbox); have n3_ := Aside0.mk ((by rw [hg]; exact (below_size (by repeat (first | (with_reducible first | exact HB.out | apply below_alloc | apply pw_below_drewN | apply below_drew1 | refine below_set ?_ GE109.out) | exact HB.out))) : w.heap.size ≤ gb110)); have n4_ := Aside0.mk ((by rw [hg]; exact (below_size (by repeat (first | (with_reducible first | exact HB.out | apply below_alloc | apply pw_below_drewN | apply below_drew1 | refine below_set ?_ GE109.out) | exact HB.out))) : w.heap.size ≤ gb110)); have n5_ := Aside0.mk ((by rw [hg]; exact Nat.ne_of_lt (blk_lt (g := gb109) (o := .cells #[.int .i64 a0_0, .int .i64 a0_1, .int .i64 a0_2, .int .i64 a0_3, .int .i64 a0_4, .slice A0_5 l0_5.length c0_5, .slice A0_6 l0_6.length c0_6, .int .i64 a0_7, .slice A0_8 l0_8.length c0_8, .slice A0_9 l0_9.length c0_9] 30 (0, 0)) (by (with_reducible repeat (first | refine blk_drewN ?_ _ | refine blk_drew ?_ | refine blk_alloc ?_ _)); exact BK109.out)) : gb109 ≠ gb110)); have n6_ := Aside0.mk ((by rw [hg]; exact Nat.ne_of_gt (blk_lt (g := gb109) (o := .cells #[.int .i64 a0_0, .int .i64 a0_1, .int .i64 a0_2, .int .i64 a0_3, .int .i64 a0_4, .slice A0_5 l0_5.length c0_5, .slice A0_6 l0_6.length c0_6, .int .i64 a0_7, .slice A0_8 l0_8.length c0_8, .slice A0_9 l0_9.length c0_9] 30 (0, 0)) (by (with_reducible repeat (first | refine blk_drewN ?_ _ | refine blk_drew ?_ | refine blk_alloc ?_ _)); exact BK109.out)) : gb110 ≠ gb109)); clear BK109; clear HB; have BK109 := n0_; have HB := n1_; have BK110 := n2_; have GW110 := n3_; have GE110 := n4_; have NB109_110 := n5_; have NB110_109 := n6_; clear n0_ n1_ n2_ n3_ n4_ n5_ n6_; clear hb hbox hg; have hnb33 := NB109_110.out; have hnc33 := NB110_109.out; have hcz34_0 : w32.cell? ⟨gb109, 0, none⟩ = some (.int .i64 a0_0) := (blk_cell BK109.out 0).trans rfl; have hcz34_1 : w32.cell? ⟨gb109, 1, none⟩ = some (.int .i64 a0_1) := (blk_cell BK109.out 1).trans rfl; have hcz34_2 : w32.cell? ⟨gb109, 2, none⟩ = some (.int .i64 a0_2) := (blk_cell BK109.out 2).trans rfl; have hcz34_3 : w32.cell? ⟨gb109, 3, none⟩ = some (.int .i64 a0_3) := (blk_cell BK109.out 3).trans rfl; have hcz34_4 : w32.cell? ⟨gb109, 4, none⟩ = some (.int .i64 a0_4) := (blk_cell BK109.out 4).trans rfl; have hcz34_5 : w32.cell? ⟨gb109, 5, none⟩ = some (.slice A0_5 l0_5.length c0_5) := (blk_cell BK109.out 5).trans rfl; have hcz34_6 : w32.cell? ⟨gb109, 6, none⟩ = some (.slice A0_6 l0_6.length c0_6) := (blk_cell BK109.out 6).trans rfl; have hcz34_7 : w32.cell? ⟨gb109, 7, none⟩ = some (.int .i64 a0_7) := (blk_cell BK109.out 7).trans rfl; have hcz34_8 : w32.cell? ⟨gb109, 8, none⟩ = some (.slice A0_8 l0_8.length c0_8) := (blk_cell BK109.out 8).trans rfl; have hcz34_9 : w32.cell? ⟨gb109, 9, none⟩ = some (.slice A0_9 l0_9.length c0_9) := (blk_cell BK109.out 9).trans rfl; have hfz34_0 := blk_frozen BK109.out 0; have hfz34_1 := blk_frozen BK109.out 1; have hfz34_2 := blk_frozen BK109.out 2; have hfz34_3 := blk_frozen BK109.out 3; have hfz34_4 := blk_frozen BK109.out 4; have hfz34_5 := blk_frozen BK109.out 5; have hfz34_6 := blk_frozen BK109.out 6; have hfz34_7 := blk_frozen BK109.out 7; have hfz34_8 := blk_frozen BK109.out 8; have hfz34_9 := blk_frozen BK109.out 9; have hcz35_0 : w32.cell? ⟨gb110, 0, none⟩ = some (.int .i64 a1_0) := (blk_cell BK110.out 0).trans rfl; have hcz35_1 : w32.cell? ⟨gb110, 1, none⟩ = some (.int .i64 a1_1) := (blk_cell BK110.out 1).trans rfl; have hcz35_2 : w32.cell? ⟨gb110, 2, none⟩ = some (.int .i64 a1_2) := (blk_cell BK110.out 2).trans rfl; have hcz35_3 : w32.cell? ⟨gb110, 3, none⟩ = some (.int .i64 a1_3) := (blk_cell BK110.out 3).trans rfl; have hcz35_4 : w32.cell? ⟨gb110, 4, none⟩ = some (.int .i64 a1_4) := (blk_cell BK110.out 4).trans rfl; have hcz35_5 : w32.cell? ⟨gb110, 5, none⟩ = some (.slice A1_5 l1_5.length c1_5) := (blk_cell BK110.out 5).trans rfl; have hcz35_6 : w32.cell? ⟨gb110, 6, none⟩ = some (.slice A1_6 l1_6.length c1_6) := (blk_cell BK110.out 6).trans rfl; have hcz35_7 : w32.cell? ⟨gb110, 7, none⟩ = some (.int .i64 a1_7) := (blk_cell BK110.out 7).trans rfl; have hcz35_8 : w32.cell? ⟨gb110, 8, none⟩ = some (.slice A1_8 l1_8.length c1_8) := (blk_cell BK110.out 8).trans rfl; have hcz35_9 : w32.cell? ⟨gb110, 9, none⟩ = some (.slice A1_9 l1_9.length c1_9) := (blk_cell BK110.out 9).trans rfl; have hfz35_0 := blk_frozen BK110.out 0; have hfz35_1 := blk_frozen BK110.out 1; have hfz35_2 := blk_frozen BK110.out 2; have hfz35_3 := blk_frozen BK110.out 3; have hfz35_4 := blk_frozen BK110.out 4; have hfz35_5 := blk_frozen BK110.out 5; have hfz35_6 := blk_frozen BK110.out 6; have hfz35_7 := blk_frozen BK110.out 7; have hfz35_8 := blk_frozen BK110.out 8; have hfz35_9 := blk_frozen BK110.out 9) | (go_at_call 31; (with_reducible refine (slices_Equal_int_int.calls k _ _ l0_5 _ _ l1_5 false _ ?side1 ?side2 ?side3 ?side4 A9.out).mono ?_); (case side1 => repeat (first | exact (Kd.C_below HR0_5.out HB.out) | (with_reducible refine Kd.C_alloc ?_ _) | (with_reducible refine Kd.C_drewN ?_ _) | (with_reducible refine Kd.C_drew ?_))); (case side2 => exact HC0_5.out); (case side3 => repeat (first | exact (Kd.C_below HR1_5.out HB.out) | (with_reducible refine Kd.C_alloc ?_ _) | (with_reducible refine Kd.C_drewN ?_ _) | (with_reducible refine Kd.C_drew ?_))); (case side4 => exact HC1_5.out); rintro e w' ⟨rfl, ⟨nd, rfl⟩⟩))
                go_ret
                exact ⟨by first | rfl | (simp [errW_none, errW_some] <;> rfl) | (simp [*, errW_none, errW_some] <;> rfl), by repeat (first | (with_reducible first | exact HB.out | apply below_alloc | apply pw_below_drewN | apply below_drew1 | refine below_set ?_ GE109.out | refine below_set ?_ GE110.out) | exact HB.out)⟩
            · rw [if_neg c8] at H
              have c8b0 : (a0_7 == a1_7) = false := beq_eq_false_iff_ne.mpr c8
              have c8b1 : (a0_7 != a1_7) = true := bne_iff_ne.mpr c8
              obtain rfl := Option.some.inj H
              go_enter Try.func19, Try.ntmps19
              go_wp2_with (first | ((with_reducible refine gate_dst (N := 2) rfl ?_); refine box_event ?hg (N := 2) ?hd (cs := #[.int .i64 a0_0, .int .i64 a0_1, .int .i64 a0_2, .int .i64 a0_3, .int .i64 a0_4, .slice A0_5 l0_5.length c0_5, .slice A0_6 l0_6.length c0_6, .int .i64 a0_7, .slice A0_8 l0_8.length c0_8, .slice A0_9 l0_9.length c0_9]) (t := 30) ?hr ?_; (case hd => rfl); (case hg => rfl); (case hr => first | (go_simp; done) | (go_simp; rfl)); intro gb109 hg w36 hbox hb; have n0_ := Aside0.mk (below_step (by repeat (first | (with_reducible first | exact HB.out | apply below_alloc | apply pw_below_drewN | apply below_drew1) | exact HB.out)) hb); have n1_ := Aside0.mk (hbox); have n2_ := Aside0.mk ((by rw [hg]; exact (below_size (by repeat (first | (with_reducible first | exact HB.out | apply below_alloc | apply pw_below_drewN | apply below_drew1) | exact HB.out))) : w.heap.size ≤ gb109)); have n3_ := Aside0.mk ((by rw [hg]; exact (below_size (by repeat (first | (with_reducible first | exact HB.out | apply below_alloc | apply pw_below_drewN | apply below_drew1) | exact HB.out))) : w.heap.size ≤ gb109)); clear HB; have HB := n0_; have BK109 := n1_; have GW109 := n2_; have GE109 := n3_; clear n0_ n1_ n2_ n3_; clear hb hbox hg) | ((with_reducible refine gate_dst (N := 3) rfl ?_); refine box_event ?hg (N := 3) ?hd (cs := #[.int .i64 a1_0, .int .i64 a1_1, .int .i64 a1_2, .int .i64 a1_3, .int .i64 a1_4, .slice A1_5 l1_5.length c1_5, .slice A1_6 l1_6.length c1_6, .int .i64 a1_7, .slice A1_8 l1_8.length c1_8, .slice A1_9 l1_9.length c1_9]) (t := 30) ?hr ?_; (case hd => rfl); (case hg => rfl); (case hr => first | (go_simp; done) | (go_simp; rfl)); intro gb110 hg w37 hbox hb; have n0_ := Aside0.mk (blk_below (g := gb109) (o := .cells #[.int .i64 a0_0, .int .i64 a0_1, .int .i64 a0_2, .int .i64 a0_3, .int .i64 a0_4, .slice A0_5 l0_5.length c0_5, .slice A0_6 l0_6.length c0_6, .int .i64 a0_7, .slice A0_8 l0_8.length c0_8, .slice A0_9 l0_9.length c0_9] 30 (0, 0)) (by (with_reducible repeat (first | refine blk_drewN ?_ _ | refine blk_drew ?_ | refine blk_alloc ?_ _)); exact BK109.out) hb); have n1_ := Aside0.mk (below_step (by repeat (first | (with_reducible first | exact HB.out | apply below_alloc | apply pw_below_drewN | apply below_drew1 | refine below_set ?_ GE109.out) | exact HB.out)) hb); have n2_ := Aside0.mk (hbox); have n3_ := Aside0.mk ((by rw [hg]; exact (below_size (by repeat (first | (with_reducible first | exact HB.out | apply below_alloc | apply pw_below_drewN | apply below_drew1 | refine below_set ?_ GE109.out) | exact HB.out))) : w.heap.size ≤ gb110)); have n4_ := Aside0.mk ((by rw [hg]; exact (below_size (by repeat (first | (with_reducible first | exact HB.out | apply below_alloc | apply pw_below_drewN | apply below_drew1 | refine below_set ?_ GE109.out) | exact HB.out))) : w.heap.size ≤ gb110)); have n5_ := Aside0.mk ((by rw [hg]; exact Nat.ne_of_lt (blk_lt (g := gb109) (o := .cells #[.int .i64 a0_0, .int .i64 a0_1, .int .i64 a0_2, .int .i64 a0_3, .int .i64 a0_4, .slice A0_5 l0_5.length c0_5, .slice A0_6 l0_6.length c0_6, .int .i64 a0_7, .slice A0_8 l0_8.length c0_8, .slice A0_9 l0_9.length c0_9] 30 (0, 0)) (by (with_reducible repeat (first | refine blk_drewN ?_ _ | refine blk_drew ?_ | refine blk_alloc ?_ _)); exact BK109.out)) : gb109 ≠ gb110)); have n6_ := Aside0.mk ((by rw [hg]; exact Nat.ne_of_gt (blk_lt (g := gb109) (o := .cells #[.int .i64 a0_0, .int .i64 a0_1, .int .i64 a0_2, .int .i64 a0_3, .int .i64 a0_4, .slice A0_5 l0_5.length c0_5, .slice A0_6 l0_6.length c0_6, .int .i64 a0_7, .slice A0_8 l0_8.length c0_8, .slice A0_9 l0_9.length c0_9] 30 (0, 0)) (by (with_reducible repeat (first | refine blk_drewN ?_ _ | refine blk_drew ?_ | refine blk_alloc ?_ _)); exact BK109.out)) : gb110 ≠ gb109)); clear BK109; clear HB; have BK109 := n0_; have HB := n1_; have BK110 := n2_; have GW110 := n3_; have GE110 := n4_; have NB109_110 := n5_; have NB110_109 := n6_; clear n0_ n1_ n2_ n3_ n4_ n5_ n6_; clear hb hbox hg; have hnb38 := NB109_110.out; have hnc38 := NB110_109.out; have hcz39_0 : w37.cell? ⟨gb109, 0, none⟩ = some (.int .i64 a0_0) := (blk_cell BK109.out 0).trans rfl; have hcz39_1 : w37.cell? ⟨gb109, 1, none⟩ = some (.int .i64 a0_1) := (blk_cell BK109.out 1).trans rfl; have hcz39_2 : w37.cell? ⟨gb109, 2, none⟩ = some (.int .i64 a0_2) := (blk_cell BK109.out 2).trans rfl; have hcz39_3 : w37.cell? ⟨gb109, 3, none⟩ = some (.int .i64 a0_3) := (blk_cell BK109.out 3).trans rfl; have hcz39_4 : w37.cell? ⟨gb109, 4, none⟩ = some (.int .i64 a0_4) := (blk_cell BK109.out 4).trans rfl; have hcz39_5 : w37.cell? ⟨gb109, 5, none⟩ = some (.slice A0_5 l0_5.length c0_5) := (blk_cell BK109.out 5).trans rfl; have hcz39_6 : w37.cell? ⟨gb109, 6, none⟩ = some (.slice A0_6 l0_6.length c0_6) := (blk_cell BK109.out 6).trans rfl; have hcz39_7 : w37.cell? ⟨gb109, 7, none⟩ = some (.int .i64 a0_7) := (blk_cell BK109.out 7).trans rfl; have hcz39_8 : w37.cell? ⟨gb109, 8, none⟩ = some (.slice A0_8 l0_8.length c0_8) := (blk_cell BK109.out 8).trans rfl; have hcz39_9 : w37.cell? ⟨gb109, 9, none⟩ = some (.slice A0_9 l0_9.length c0_9) := (blk_cell BK109.out 9).trans rfl; have hfz39_0 := blk_frozen BK109.out 0; have hfz39_1 := blk_frozen BK109.out 1; have hfz39_2 := blk_frozen BK109.out 2; have hfz39_3 := blk_frozen BK109.out 3; have hfz39_4 := blk_frozen BK109.out 4; have hfz39_5 := blk_frozen BK109.out 5; have hfz39_6 := blk_frozen BK109.out 6; have hfz39_7 := blk_frozen BK109.out 7; have hfz39_8 := blk_frozen BK109.out 8; have hfz39_9 := blk_frozen BK109.out 9; have hcz40_0 : w37.cell? ⟨gb110, 0, none⟩ = some (.int .i64 a1_0) := (blk_cell BK110.out 0).trans rfl; have hcz40_1 : w37.cell? ⟨gb110, 1, none⟩ = some (.int .i64 a1_1) := (blk_cell BK110.out 1).trans rfl; have hcz40_2 : w37.cell? ⟨gb110, 2, none⟩ = some (.int .i64 a1_2) := (blk_cell BK110.out 2).trans rfl; have hcz40_3 : w37.cell? ⟨gb110, 3, none⟩ = some (.int .i64 a1_3) := (blk_cell BK110.out 3).trans rfl; have hcz40_4 : w37.cell? ⟨gb110, 4, none⟩ = some (.int .i64 a1_4) := (blk_cell BK110.out 4).trans rfl; have hcz40_5 : w37.cell? ⟨gb110, 5, none⟩ = some (.slice A1_5 l1_5.length c1_5) := (blk_cell BK110.out 5).trans rfl; have hcz40_6 : w37.cell? ⟨gb110, 6, none⟩ = some (.slice A1_6 l1_6.length c1_6) := (blk_cell BK110.out 6).trans rfl; have hcz40_7 : w37.cell? ⟨gb110, 7, none⟩ = some (.int .i64 a1_7) := (blk_cell BK110.out 7).trans rfl; have hcz40_8 : w37.cell? ⟨gb110, 8, none⟩ = some (.slice A1_8 l1_8.length c1_8) := (blk_cell BK110.out 8).trans rfl; have hcz40_9 : w37.cell? ⟨gb110, 9, none⟩ = some (.slice A1_9 l1_9.length c1_9) := (blk_cell BK110.out 9).trans rfl; have hfz40_0 := blk_frozen BK110.out 0; have hfz40_1 := blk_frozen BK110.out 1; have hfz40_2 := blk_frozen BK110.out 2; have hfz40_3 := blk_frozen BK110.out 3; have hfz40_4 := blk_frozen BK110.out 4; have hfz40_5 := blk_frozen BK110.out 5; have hfz40_6 := blk_frozen BK110.out 6; have hfz40_7 := blk_frozen BK110.out 7; have hfz40_8 := blk_frozen BK110.out 8; have hfz40_9 := blk_frozen BK110.out 9))
              go_ret
              exact ⟨by first | rfl | (simp [errW_none, errW_some] <;> rfl) | (simp [*, errW_none, errW_some] <;> rfl), by repeat (first | (with_reducible first | exact HB.out | apply below_alloc | apply pw_below_drewN | apply below_drew1 | refine below_set ?_ GE109.out | refine below_set ?_ GE110.out) | exact HB.out)⟩
          · rw [if_neg c7] at H
            have c7b0 : (a0_4 == a1_4) = false := beq_eq_false_iff_ne.mpr c7
            have c7b1 : (a0_4 != a1_4) = true := bne_iff_ne.mpr c7
            obtain rfl := Option.some.inj H
            go_enter Try.func19, Try.ntmps19
            go_wp2_with (first | ((with_reducible refine gate_dst (N := 2) rfl ?_); refine box_event ?hg (N := 2) ?hd (cs := #[.int .i64 a0_0, .int .i64 a0_1, .int .i64 a0_2, .int .i64 a0_3, .int .i64 a0_4, .slice A0_5 l0_5.length c0_5, .slice A0_6 l0_6.length c0_6, .int .i64 a0_7, .slice A0_8 l0_8.length c0_8, .slice A0_9 l0_9.length c0_9]) (t := 30) ?hr ?_; (case hd => rfl); (case hg => rfl); (case hr => first | (go_simp; done) | (go_simp; rfl)); intro gb109 hg w41 hbox hb; have n0_ := Aside0.mk (below_step (by repeat (first | (with_reducible first | exact HB.out | apply below_alloc | apply pw_below_drewN | apply below_drew1) | exact HB.out)) hb); have n1_ := Aside0.mk (hbox); have n2_ := Aside0.mk ((by rw [hg]; exact (below_size (by repeat (first | (with_reducible first | exact HB.out | apply below_alloc | apply pw_below_drewN | apply below_drew1) | exact HB.out))) : w.heap.size ≤ gb109)); have n3_ := Aside0.mk ((by rw [hg]; exact (below_size (by repeat (first | (with_reducible first | exact HB.out | apply below_alloc | apply pw_below_drewN | apply below_drew1) | exact HB.out))) : w.heap.size ≤ gb109)); clear HB; have HB := n0_; have BK109 := n1_; have GW109 := n2_; have GE109 := n3_; clear n0_ n1_ n2_ n3_; clear hb hbox hg) | ((with_reducible refine gate_dst (N := 3) rfl ?_); refine box_event ?hg (N := 3) ?hd (cs := #[.int .i64 a1_0, .int .i64 a1_1, .int .i64 a1_2, .int .i64 a1_3, .int .i64 a1_4, .slice A1_5 l1_5.length c1_5, .slice A1_6 l1_6.length c1_6, .int .i64 a1_7, .slice A1_8 l1_8.length c1_8, .slice A1_9 l1_9.length c1_9]) (t := 30) ?hr ?_; (case hd => rfl); (case hg => rfl); (case hr => first | (go_simp; done) | (go_simp; rfl)); intro gb110 hg w42 hbox hb; have n0_ := Aside0.mk (blk_below (g := gb109) (o := .cells #[.int .i64 a0_0, .int .i64 a0_1, .int .i64 a0_2, .int .i64 a0_3, .int .i64 a0_4, .slice A0_5 l0_5.length c0_5, .slice A0_6 l0_6.length c0_6, .int .i64 a0_7, .slice A0_8 l0_8.length c0_8, .slice A0_9 l0_9.length c0_9] 30 (0, 0)) (by (with_reducible repeat (first | refine blk_drewN ?_ _ | refine blk_drew ?_ | refine blk_alloc ?_ _)); exact BK109.out) hb); have n1_ := Aside0.mk (below_step (by repeat (first | (with_reducible first | exact HB.out | apply below_alloc | apply pw_below_drewN | apply below_drew1 | refine below_set ?_ GE109.out) | exact HB.out)) hb); have n2_ := Aside0.mk (hbox); have n3_ := Aside0.mk ((by rw [hg]; exact (below_size (by repeat (first | (with_reducible first | exact HB.out | apply below_alloc | apply pw_below_drewN | apply below_drew1 | refine below_set ?_ GE109.out) | exact HB.out))) : w.heap.size ≤ gb110)); have n4_ := Aside0.mk ((by rw [hg]; exact (below_size (by repeat (first | (with_reducible first | exact HB.out | apply below_alloc | apply pw_below_drewN | apply below_drew1 | refine below_set ?_ GE109.out) | exact HB.out))) : w.heap.size ≤ gb110)); have n5_ := Aside0.mk ((by rw [hg]; exact Nat.ne_of_lt (blk_lt (g := gb109) (o := .cells #[.int .i64 a0_0, .int .i64 a0_1, .int .i64 a0_2, .int .i64 a0_3, .int .i64 a0_4, .slice A0_5 l0_5.length c0_5, .slice A0_6 l0_6.length c0_6, .int .i64 a0_7, .slice A0_8 l0_8.length c0_8, .slice A0_9 l0_9.length c0_9] 30 (0, 0)) (by (with_reducible repeat (first | refine blk_drewN ?_ _ | refine blk_drew ?_ | refine blk_alloc ?_ _)); exact BK109.out)) : gb109 ≠ gb110)); have n6_ := Aside0.mk ((by rw [hg]; exact Nat.ne_of_gt (blk_lt (g := gb109) (o := .cells #[.int .i64 a0_0, .int .i64 a0_1, .int .i64 a0_2, .int .i64 a0_3, .int .i64 a0_4, .slice A0_5 l0_5.length c0_5, .slice A0_6 l0_6.length c0_6, .int .i64 a0_7, .slice A0_8 l0_8.length c0_8, .slice A0_9 l0_9.length c0_9] 30 (0, 0)) (by (with_reducible repeat (first | refine blk_drewN ?_ _ | refine blk_drew ?_ | refine blk_alloc ?_ _)); exact BK109.out)) : gb110 ≠ gb109)); clear BK109; clear HB; have BK109 := n0_; have HB := n1_; have BK110 := n2_; have GW110 := n3_; have GE110 := n4_; have NB109_110 := n5_; have NB110_109 := n6_; clear n0_ n1_ n2_ n3_ n4_ n5_ n6_; clear hb hbox hg; have hnb43 := NB109_110.out; have hnc43 := NB110_109.out; have hcz44_0 : w42.cell? ⟨gb109, 0, none⟩ = some (.int .i64 a0_0) := (blk_cell BK109.out 0).trans rfl; have hcz44_1 : w42.cell? ⟨gb109, 1, none⟩ = some (.int .i64 a0_1) := (blk_cell BK109.out 1).trans rfl; have hcz44_2 : w42.cell? ⟨gb109, 2, none⟩ = some (.int .i64 a0_2) := (blk_cell BK109.out 2).trans rfl; have hcz44_3 : w42.cell? ⟨gb109, 3, none⟩ = some (.int .i64 a0_3) := (blk_cell BK109.out 3).trans rfl; have hcz44_4 : w42.cell? ⟨gb109, 4, none⟩ = some (.int .i64 a0_4) := (blk_cell BK109.out 4).trans rfl; have hcz44_5 : w42.cell? ⟨gb109, 5, none⟩ = some (.slice A0_5 l0_5.length c0_5) := (blk_cell BK109.out 5).trans rfl; have hcz44_6 : w42.cell? ⟨gb109, 6, none⟩ = some (.slice A0_6 l0_6.length c0_6) := (blk_cell BK109.out 6).trans rfl; have hcz44_7 : w42.cell? ⟨gb109, 7, none⟩ = some (.int .i64 a0_7) := (blk_cell BK109.out 7).trans rfl; have hcz44_8 : w42.cell? ⟨gb109, 8, none⟩ = some (.slice A0_8 l0_8.length c0_8) := (blk_cell BK109.out 8).trans rfl; have hcz44_9 : w42.cell? ⟨gb109, 9, none⟩ = some (.slice A0_9 l0_9.length c0_9) := (blk_cell BK109.out 9).trans rfl; have hfz44_0 := blk_frozen BK109.out 0; have hfz44_1 := blk_frozen BK109.out 1; have hfz44_2 := blk_frozen BK109.out 2; have hfz44_3 := blk_frozen BK109.out 3; have hfz44_4 := blk_frozen BK109.out 4; have hfz44_5 := blk_frozen BK109.out 5; have hfz44_6 := blk_frozen BK109.out 6; have hfz44_7 := blk_frozen BK109.out 7; have hfz44_8 := blk_frozen BK109.out 8; have hfz44_9 := blk_frozen BK109.out 9; have hcz45_0 : w42.cell? ⟨gb110, 0, none⟩ = some (.int .i64 a1_0) := (blk_cell BK110.out 0).trans rfl; have hcz45_1 : w42.cell? ⟨gb110, 1, none⟩ = some (.int .i64 a1_1) := (blk_cell BK110.out 1).trans rfl; have hcz45_2 : w42.cell? ⟨gb110, 2, none⟩ = some (.int .i64 a1_2) := (blk_cell BK110.out 2).trans rfl; have hcz45_3 : w42.cell? ⟨gb110, 3, none⟩ = some (.int .i64 a1_3) := (blk_cell BK110.out 3).trans rfl; have hcz45_4 : w42.cell? ⟨gb110, 4, none⟩ = some (.int .i64 a1_4) := (blk_cell BK110.out 4).trans rfl; have hcz45_5 : w42.cell? ⟨gb110, 5, none⟩ = some (.slice A1_5 l1_5.length c1_5) := (blk_cell BK110.out 5).trans rfl; have hcz45_6 : w42.cell? ⟨gb110, 6, none⟩ = some (.slice A1_6 l1_6.length c1_6) := (blk_cell BK110.out 6).trans rfl; have hcz45_7 : w42.cell? ⟨gb110, 7, none⟩ = some (.int .i64 a1_7) := (blk_cell BK110.out 7).trans rfl; have hcz45_8 : w42.cell? ⟨gb110, 8, none⟩ = some (.slice A1_8 l1_8.length c1_8) := (blk_cell BK110.out 8).trans rfl; have hcz45_9 : w42.cell? ⟨gb110, 9, none⟩ = some (.slice A1_9 l1_9.length c1_9) := (blk_cell BK110.out 9).trans rfl; have hfz45_0 := blk_frozen BK110.out 0; have hfz45_1 := blk_frozen BK110.out 1; have hfz45_2 := blk_frozen BK110.out 2; have hfz45_3 := blk_frozen BK110.out 3; have hfz45_4 := blk_frozen BK110.out 4; have hfz45_5 := blk_frozen BK110.out 5; have hfz45_6 := blk_frozen BK110.out 6; have hfz45_7 := blk_frozen BK110.out 7; have hfz45_8 := blk_frozen BK110.out 8; have hfz45_9 := blk_frozen BK110.out 9))
            go_ret
            exact ⟨by first | rfl | (simp [errW_none, errW_some] <;> rfl) | (simp [*, errW_none, errW_some] <;> rfl), by repeat (first | (with_reducible first | exact HB.out | apply below_alloc | apply pw_below_drewN | apply below_drew1 | refine below_set ?_ GE109.out | refine below_set ?_ GE110.out) | exact HB.out)⟩
        · rw [if_neg c6] at H
          have c6b0 : (a0_3 == a1_3) = false := beq_eq_false_iff_ne.mpr c6
          have c6b1 : (a0_3 != a1_3) = true := bne_iff_ne.mpr c6
          obtain rfl := Option.some.inj H
          go_enter Try.func19, Try.ntmps19
          go_wp2_with (first | ((with_reducible refine gate_dst (N := 2) rfl ?_); refine box_event ?hg (N := 2) ?hd (cs := #[.int .i64 a0_0, .int .i64 a0_1, .int .i64 a0_2, .int .i64 a0_3, .int .i64 a0_4, .slice A0_5 l0_5.length c0_5, .slice A0_6 l0_6.length c0_6, .int .i64 a0_7, .slice A0_8 l0_8.length c0_8, .slice A0_9 l0_9.length c0_9]) (t := 30) ?hr ?_; (case hd => rfl); (case hg => rfl); (case hr => first | (go_simp; done) | (go_simp; rfl)); intro gb109 hg w46 hbox hb; have n0_ := Aside0.mk (below_step (by repeat (first | (with_reducible first | exact HB.out | apply below_alloc | apply pw_below_drewN | apply below_drew1) | exact HB.out)) hb); have n1_ := Aside0.mk (hbox); have n2_ := Aside0.mk ((by rw [hg]; exact (below_size (by repeat (first | (with_reducible first | exact HB.out | apply below_alloc | apply pw_below_drewN | apply below_drew1) | exact HB.out))) : w.heap.size ≤ gb109)); have n3_ := Aside0.mk ((by rw [hg]; exact (below_size (by repeat (first | (with_reducible first | exact HB.out | apply below_alloc | apply pw_below_drewN | apply below_drew1) | exact HB.out))) : w.heap.size ≤ gb109)); clear HB; have HB := n0_; have BK109 := n1_; have GW109 := n2_; have GE109 := n3_; clear n0_ n1_ n2_ n3_; clear hb hbox hg) | ((with_reducible refine gate_dst (N := 3) rfl ?_); refine box_event ?hg (N := 3) ?hd (cs := #[.int .i64 a1_0, .int .i64 a1_1, .int .i64 a1_2, .int .i64 a1_3, .int .i64 a1_4, .slice A1_5 l1_5.length c1_5, .slice A1_6 l1_6.length c1_6, .int .i64 a1_7, .slice A1_8 l1_8.length c1_8, .slice A1_9 l1_9.length c1_9]) (t := 30) ?hr ?_; (case hd => rfl); (case hg => rfl); (case hr => first | (go_simp; done) | (go_simp; rfl)); intro gb110 hg w47 hbox hb; have n0_ := Aside0.mk (blk_below (g := gb109) (o := .cells #[.int .i64 a0_0, .int .i64 a0_1, .int .i64 a0_2, .int .i64 a0_3, .int .i64 a0_4, .slice A0_5 l0_5.length c0_5, .slice A0_6 l0_6.length c0_6, .int .i64 a0_7, .slice A0_8 l0_8.length c0_8, .slice A0_9 l0_9.length c0_9] 30 (0, 0)) (by (with_reducible repeat (first | refine blk_drewN ?_ _ | refine blk_drew ?_ | refine blk_alloc ?_ _)); exact BK109.out) hb); have n1_ := Aside0.mk (below_step (by repeat (first | (with_reducible first | exact HB.out | apply below_alloc | apply pw_below_drewN | apply below_drew1 | refine below_set ?_ GE109.out) | exact HB.out)) hb); have n2_ := Aside0.mk (hbox); have n3_ := Aside0.mk ((by rw [hg]; exact (below_size (by repeat (first | (with_reducible first | exact HB.out | apply below_alloc | apply pw_below_drewN | apply below_drew1 | refine below_set ?_ GE109.out) | exact HB.out))) : w.heap.size ≤ gb110)); have n4_ := Aside0.mk ((by rw [hg]; exact (below_size (by repeat (first | (with_reducible first | exact HB.out | apply below_alloc | apply pw_below_drewN | apply below_drew1 | refine below_set ?_ GE109.out) | exact HB.out))) : w.heap.size ≤ gb110)); have n5_ := Aside0.mk ((by rw [hg]; exact Nat.ne_of_lt (blk_lt (g := gb109) (o := .cells #[.int .i64 a0_0, .int .i64 a0_1, .int .i64 a0_2, .int .i64 a0_3, .int .i64 a0_4, .slice A0_5 l0_5.length c0_5, .slice A0_6 l0_6.length c0_6, .int .i64 a0_7, .slice A0_8 l0_8.length c0_8, .slice A0_9 l0_9.length c0_9] 30 (0, 0)) (by (with_reducible repeat (first | refine blk_drewN ?_ _ | refine blk_drew ?_ | refine blk_alloc ?_ _)); exact BK109.out)) : gb109 ≠ gb110)); have n6_ := Aside0.mk ((by rw [hg]; exact Nat.ne_of_gt (blk_lt (g := gb109) (o := .cells #[.int .i64 a0_0, .int .i64 a0_1, .int .i64 a0_2, .int .i64 a0_3, .int .i64 a0_4, .slice A0_5 l0_5.length c0_5, .slice A0_6 l0_6.length c0_6, .int .i64 a0_7, .slice A0_8 l0_8.length c0_8, .slice A0_9 l0_9.length c0_9] 30 (0, 0)) (by (with_reducible repeat (first | refine blk_drewN ?_ _ | refine blk_drew ?_ | refine blk_alloc ?_ _)); exact BK109.out)) : gb110 ≠ gb109)); clear BK109; clear HB; have BK109 := n0_; have HB := n1_; have BK110 := n2_; have GW110 := n3_; have GE110 := n4_; have NB109_110 := n5_; have NB110_109 := n6_; clear n0_ n1_ n2_ n3_ n4_ n5_ n6_; clear hb hbox hg; have hnb48 := NB109_110.out; have hnc48 := NB110_109.out; have hcz49_0 : w47.cell? ⟨gb109, 0, none⟩ = some (.int .i64 a0_0) := (blk_cell BK109.out 0).trans rfl; have hcz49_1 : w47.cell? ⟨gb109, 1, none⟩ = some (.int .i64 a0_1) := (blk_cell BK109.out 1).trans rfl; have hcz49_2 : w47.cell? ⟨gb109, 2, none⟩ = some (.int .i64 a0_2) := (blk_cell BK109.out 2).trans rfl; have hcz49_3 : w47.cell? ⟨gb109, 3, none⟩ = some (.int .i64 a0_3) := (blk_cell BK109.out 3).trans rfl; have hcz49_4 : w47.cell? ⟨gb109, 4, none⟩ = some (.int .i64 a0_4) := (blk_cell BK109.out 4).trans rfl; have hcz49_5 : w47.cell? ⟨gb109, 5, none⟩ = some (.slice A0_5 l0_5.length c0_5) := (blk_cell BK109.out 5).trans rfl; have hcz49_6 : w47.cell? ⟨gb109, 6, none⟩ = some (.slice A0_6 l0_6.length c0_6) := (blk_cell BK109.out 6).trans rfl; have hcz49_7 : w47.cell? ⟨gb109, 7, none⟩ = some (.int .i64 a0_7) := (blk_cell BK109.out 7).trans rfl; have hcz49_8 : w47.cell? ⟨gb109, 8, none⟩ = some (.slice A0_8 l0_8.length c0_8) := (blk_cell BK109.out 8).trans rfl; have hcz49_9 : w47.cell? ⟨gb109, 9, none⟩ = some (.slice A0_9 l0_9.length c0_9) := (blk_cell BK109.out 9).trans rfl; have hfz49_0 := blk_frozen BK109.out 0; have hfz49_1 := blk_frozen BK109.out 1; have hfz49_2 := blk_frozen BK109.out 2; have hfz49_3 := blk_frozen BK109.out 3; have hfz49_4 := blk_frozen BK109.out 4; have hfz49_5 := blk_frozen BK109.out 5; have hfz49_6 := blk_frozen BK109.out 6; have hfz49_7 := blk_frozen BK109.out 7; have hfz49_8 := blk_frozen BK109.out 8; have hfz49_9 := blk_frozen BK109.out 9; have hcz50_0 : w47.cell? ⟨gb110, 0, none⟩ = some (.int .i64 a1_0) := (blk_cell BK110.out 0).trans rfl; have hcz50_1 : w47.cell? ⟨gb110, 1, none⟩ = some (.int .i64 a1_1) := (blk_cell BK110.out 1).trans rfl; have hcz50_2 : w47.cell? ⟨gb110, 2, none⟩ = some (.int .i64 a1_2) := (blk_cell BK110.out 2).trans rfl; have hcz50_3 : w47.cell? ⟨gb110, 3, none⟩ = some (.int .i64 a1_3) := (blk_cell BK110.out 3).trans rfl; have hcz50_4 : w47.cell? ⟨gb110, 4, none⟩ = some (.int .i64 a1_4) := (blk_cell BK110.out 4).trans rfl; have hcz50_5 : w47.cell? ⟨gb110, 5, none⟩ = some (.slice A1_5 l1_5.length c1_5) := (blk_cell BK110.out 5).trans rfl; have hcz50_6 : w47.cell? ⟨gb110, 6, none⟩ = some (.slice A1_6 l1_6.length c1_6) := (blk_cell BK110.out 6).trans rfl; have hcz50_7 : w47.cell? ⟨gb110, 7, none⟩ = some (.int .i64 a1_7) := (blk_cell BK110.out 7).trans rfl; have hcz50_8 : w47.cell? ⟨gb110, 8, none⟩ = some (.slice A1_8 l1_8.length c1_8) := (blk_cell BK110.out 8).trans rfl; have hcz50_9 : w47.cell? ⟨gb110, 9, none⟩ = some (.slice A1_9 l1_9.length c1_9) := (blk_cell BK110.out 9).trans rfl; have hfz50_0 := blk_frozen BK110.out 0; have hfz50_1 := blk_frozen BK110.out 1; have hfz50_2 := blk_frozen BK110.out 2; have hfz50_3 := blk_frozen BK110.out 3; have hfz50_4 := blk_frozen BK110.out 4; have hfz50_5 := blk_frozen BK110.out 5; have hfz50_6 := blk_frozen BK110.out 6; have hfz50_7 := blk_frozen BK110.out 7; have hfz50_8 := blk_frozen BK110.out 8; have hfz50_9 := blk_frozen BK110.out 9))
          go_ret
          exact ⟨by first | rfl | (simp [errW_none, errW_some] <;> rfl) | (simp [*, errW_none, errW_some] <;> rfl), by repeat (first | (with_reducible first | exact HB.out | apply below_alloc | apply pw_below_drewN | apply below_drew1 | refine below_set ?_ GE109.out | refine below_set ?_ GE110.out) | exact HB.out)⟩
      · rw [if_neg c5] at H
        have c5b0 : (a0_2 == a1_2) = false := beq_eq_false_iff_ne.mpr c5
        have c5b1 : (a0_2 != a1_2) = true := bne_iff_ne.mpr c5
        obtain rfl := Option.some.inj H
        go_enter Try.func19, Try.ntmps19
        go_wp2_with (first | ((with_reducible refine gate_dst (N := 2) rfl ?_); refine box_event ?hg (N := 2) ?hd (cs := #[.int .i64 a0_0, .int .i64 a0_1, .int .i64 a0_2, .int .i64 a0_3, .int .i64 a0_4, .slice A0_5 l0_5.length c0_5, .slice A0_6 l0_6.length c0_6, .int .i64 a0_7, .slice A0_8 l0_8.length c0_8, .slice A0_9 l0_9.length c0_9]) (t := 30) ?hr ?_; (case hd => rfl); (case hg => rfl); (case hr => first | (go_simp; done) | (go_simp; rfl)); intro gb109 hg w51 hbox hb; have n0_ := Aside0.mk (below_step (by repeat (first | (with_reducible first | exact HB.out | apply below_alloc | apply pw_below_drewN | apply below_drew1) | exact HB.out)) hb); have n1_ := Aside0.mk (hbox); have n2_ := Aside0.mk ((by rw [hg]; exact (below_size (by repeat (first | (with_reducible first | exact HB.out | apply below_alloc | apply pw_below_drewN | apply below_drew1) | exact HB.out))) : w.heap.size ≤ gb109)); have n3_ := Aside0.mk ((by rw [hg]; exact (below_size (by repeat (first | (with_reducible first | exact HB.out | apply below_alloc | apply pw_below_drewN | apply below_drew1) | exact HB.out))) : w.heap.size ≤ gb109)); clear HB; have HB := n0_; have BK109 := n1_; have GW109 := n2_; have GE109 := n3_; clear n0_ n1_ n2_ n3_; clear hb hbox hg) | ((with_reducible refine gate_dst (N := 3) rfl ?_); refine box_event ?hg (N := 3) ?hd (cs := #[.int .i64 a1_0, .int .i64 a1_1, .int .i64 a1_2, .int .i64 a1_3, .int .i64 a1_4, .slice A1_5 l1_5.length c1_5, .slice A1_6 l1_6.length c1_6, .int .i64 a1_7, .slice A1_8 l1_8.length c1_8, .slice A1_9 l1_9.length c1_9]) (t := 30) ?hr ?_; (case hd => rfl); (case hg => rfl); (case hr => first | (go_simp; done) | (go_simp; rfl)); intro gb110 hg w52 hbox hb; have n0_ := Aside0.mk (blk_below (g := gb109) (o := .cells #[.int .i64 a0_0, .int .i64 a0_1, .int .i64 a0_2, .int .i64 a0_3, .int .i64 a0_4, .slice A0_5 l0_5.length c0_5, .slice A0_6 l0_6.length c0_6, .int .i64 a0_7, .slice A0_8 l0_8.length c0_8, .slice A0_9 l0_9.length c0_9] 30 (0, 0)) (by (with_reducible repeat (first | refine blk_drewN ?_ _ | refine blk_drew ?_ | refine blk_alloc ?_ _)); exact BK109.out) hb); have n1_ := Aside0.mk (below_step (by repeat (first | (with_reducible first | exact HB.out | apply below_alloc | apply pw_below_drewN | apply below_drew1 | refine below_set ?_ GE109.out) | exact HB.out)) hb); have n2_ := Aside0.mk (hbox); have n3_ := Aside0.mk ((by rw [hg]; exact (below_size (by repeat (first | (with_reducible first | exact HB.out | apply below_alloc | apply pw_below_drewN | apply below_drew1 | refine below_set ?_ GE109.out) | exact HB.out))) : w.heap.size ≤ gb110)); have n4_ := Aside0.mk ((by rw [hg]; exact (below_size (by repeat (first | (with_reducible first | exact HB.out | apply below_alloc | apply pw_below_drewN | apply below_drew1 | refine below_set ?_ GE109.out) | exact HB.out))) : w.heap.size ≤ gb110)); have n5_ := Aside0.mk ((by rw [hg]; exact Nat.ne_of_lt (blk_lt (g := gb109) (o := .cells #[.int .i64 a0_0, .int .i64 a0_1, .int .i64 a0_2, .int .i64 a0_3, .int .i64 a0_4, .slice A0_5 l0_5.length c0_5, .slice A0_6 l0_6.length c0_6, .int .i64 a0_7, .slice A0_8 l0_8.length c0_8, .slice A0_9 l0_9.length c0_9] 30 (0, 0)) (by (with_reducible repeat (first | refine blk_drewN ?_ _ | refine blk_drew ?_ | refine blk_alloc ?_ _)); exact BK109.out)) : gb109 ≠ gb110)); have n6_ := Aside0.mk ((by rw [hg]; exact Nat.ne_of_gt (blk_lt (g := gb109) (o := .cells #[.int .i64 a0_0, .int .i64 a0_1, .int .i64 a0_2, .int .i64 a0_3, .int .i64 a0_4, .slice A0_5 l0_5.length c0_5, .slice A0_6 l0_6.length c0_6, .int .i64 a0_7, .slice A0_8 l0_8.length c0_8, .slice A0_9 l0_9.length c0_9] 30 (0, 0)) (by (with_reducible repeat (first | refine blk_drewN ?_ _ | refine blk_drew ?_ | refine blk_alloc ?_ _)); exact BK109.out)) : gb110 ≠ gb109)); clear BK109; clear HB; have BK109 := n0_; have HB := n1_; have BK110 := n2_; have GW110 := n3_; have GE110 := n4_; have NB109_110 := n5_; have NB110_109 := n6_; clear n0_ n1_ n2_ n3_ n4_ n5_ n6_; clear hb hbox hg; have hnb53 := NB109_110.out; have hnc53 := NB110_109.out; have hcz54_0 : w52.cell? ⟨gb109, 0, none⟩ = some (.int .i64 a0_0) := (blk_cell BK109.out 0).trans rfl; have hcz54_1 : w52.cell? ⟨gb109, 1, none⟩ = some (.int .i64 a0_1) := (blk_cell BK109.out 1).trans rfl; have hcz54_2 : w52.cell? ⟨gb109, 2, none⟩ = some (.int .i64 a0_2) := (blk_cell BK109.out 2).trans rfl; have hcz54_3 : w52.cell? ⟨gb109, 3, none⟩ = some (.int .i64 a0_3) := (blk_cell BK109.out 3).trans rfl; have hcz54_4 : w52.cell? ⟨gb109, 4, none⟩ = some (.int .i64 a0_4) := (blk_cell BK109.out 4).trans rfl; have hcz54_5 : w52.cell? ⟨gb109, 5, none⟩ = some (.slice A0_5 l0_5.length c0_5) := (blk_cell BK109.out 5).trans rfl; have hcz54_6 : w52.cell? ⟨gb109, 6, none⟩ = some (.slice A0_6 l0_6.length c0_6) := (blk_cell BK109.out 6).trans rfl; have hcz54_7 : w52.cell? ⟨gb109, 7, none⟩ = some (.int .i64 a0_7) := (blk_cell BK109.out 7).trans rfl; have hcz54_8 : w52.cell? ⟨gb109, 8, none⟩ = some (.slice A0_8 l0_8.length c0_8) := (blk_cell BK109.out 8).trans rfl; have hcz54_9 : w52.cell? ⟨gb109, 9, none⟩ = some (.slice A0_9 l0_9.length c0_9) := (blk_cell BK109.out 9).trans rfl; have hfz54_0 := blk_frozen BK109.out 0; have hfz54_1 := blk_frozen BK109.out 1; have hfz54_2 := blk_frozen BK109.out 2; have hfz54_3 := blk_frozen BK109.out 3; have hfz54_4 := blk_frozen BK109.out 4; have hfz54_5 := blk_frozen BK109.out 5; have hfz54_6 := blk_frozen BK109.out 6; have hfz54_7 := blk_frozen BK109.out 7; have hfz54_8 := blk_frozen BK109.out 8; have hfz54_9 := blk_frozen BK109.out 9; have hcz55_0 : w52.cell? ⟨gb110, 0, none⟩ = some (.int .i64 a1_0) := (blk_cell BK110.out 0).trans rfl; have hcz55_1 : w52.cell? ⟨gb110, 1, none⟩ = some (.int .i64 a1_1) := (blk_cell BK110.out 1).trans rfl; have hcz55_2 : w52.cell? ⟨gb110, 2, none⟩ = some (.int .i64 a1_2) := (blk_cell BK110.out 2).trans rfl; have hcz55_3 : w52.cell? ⟨gb110, 3, none⟩ = some (.int .i64 a1_3) := (blk_cell BK110.out 3).trans rfl; have hcz55_4 : w52.cell? ⟨gb110, 4, none⟩ = some (.int .i64 a1_4) := (blk_cell BK110.out 4).trans rfl; have hcz55_5 : w52.cell? ⟨gb110, 5, none⟩ = some (.slice A1_5 l1_5.length c1_5) := (blk_cell BK110.out 5).trans rfl; have hcz55_6 : w52.cell? ⟨gb110, 6, none⟩ = some (.slice A1_6 l1_6.length c1_6) := (blk_cell BK110.out 6).trans rfl; have hcz55_7 : w52.cell? ⟨gb110, 7, none⟩ = some (.int .i64 a1_7) := (blk_cell BK110.out 7).trans rfl; have hcz55_8 : w52.cell? ⟨gb110, 8, none⟩ = some (.slice A1_8 l1_8.length c1_8) := (blk_cell BK110.out 8).trans rfl; have hcz55_9 : w52.cell? ⟨gb110, 9, none⟩ = some (.slice A1_9 l1_9.length c1_9) := (blk_cell BK110.out 9).trans rfl; have hfz55_0 := blk_frozen BK110.out 0; have hfz55_1 := blk_frozen BK110.out 1; have hfz55_2 := blk_frozen BK110.out 2; have hfz55_3 := blk_frozen BK110.out 3; have hfz55_4 := blk_frozen BK110.out 4; have hfz55_5 := blk_frozen BK110.out 5; have hfz55_6 := blk_frozen BK110.out 6; have hfz55_7 := blk_frozen BK110.out 7; have hfz55_8 := blk_frozen BK110.out 8; have hfz55_9 := blk_frozen BK110.out 9))
        go_ret
        exact ⟨by first | rfl | (simp [errW_none, errW_some] <;> rfl) | (simp [*, errW_none, errW_some] <;> rfl), by repeat (first | (with_reducible first | exact HB.out | apply below_alloc | apply pw_below_drewN | apply below_drew1 | refine below_set ?_ GE109.out | refine below_set ?_ GE110.out) | exact HB.out)⟩
    · rw [if_neg c4] at H
      have c4b0 : (a0_1 == a1_1) = false := beq_eq_false_iff_ne.mpr c4
      have c4b1 : (a0_1 != a1_1) = true := bne_iff_ne.mpr c4
      obtain rfl := Option.some.inj H
      go_enter Try.func19, Try.ntmps19
      go_wp2_with (first | ((with_reducible refine gate_dst (N := 2) rfl ?_); refine box_event ?hg (N := 2) ?hd (cs := #[.int .i64 a0_0, .int .i64 a0_1, .int .i64 a0_2, .int .i64 a0_3, .int .i64 a0_4, .slice A0_5 l0_5.length c0_5, .slice A0_6 l0_6.length c0_6, .int .i64 a0_7, .slice A0_8 l0_8.length c0_8, .slice A0_9 l0_9.length c0_9]) (t := 30) ?hr ?_; (case hd => rfl); (case hg => rfl); (case hr => first | (go_simp; done) | (go_simp; rfl)); intro gb109 hg w56 hbox hb; have n0_ := Aside0.mk (below_step (by repeat (first | (with_reducible first | exact HB.out | apply below_alloc | apply pw_below_drewN | apply below_drew1) | exact HB.out)) hb); have n1_ := Aside0.mk (hbox); have n2_ := Aside0.mk ((by rw [hg]; exact (below_size (by repeat (first | (with_reducible first | exact HB.out | apply below_alloc | apply pw_below_drewN | apply below_drew1) | exact HB.out))) : w.heap.size ≤ gb109)); have n3_ := Aside0.mk ((by rw [hg]; exact (below_size (by repeat (first | (with_reducible first | exact HB.out | apply below_alloc | apply pw_below_drewN | apply below_drew1) | exact HB.out))) : w.heap.size ≤ gb109)); clear HB; have HB := n0_; have BK109 := n1_; have GW109 := n2_; have GE109 := n3_; clear n0_ n1_ n2_ n3_; clear hb hbox hg) | ((with_reducible refine gate_dst (N := 3) rfl ?_); refine box_event ?hg (N := 3) ?hd (cs := #[.int .i64 a1_0, .int .i64 a1_1, .int .i64 a1_2, .int .i64 a1_3, .int .i64 a1_4, .slice A1_5 l1_5.length c1_5, .slice A1_6 l1_6.length c1_6, .int .i64 a1_7, .slice A1_8 l1_8.length c1_8, .slice A1_9 l1_9.length c1_9]) (t := 30) ?hr ?_; (case hd => rfl); (case hg => rfl); (case hr => first | (go_simp; done) | (go_simp; rfl)); intro gb110 hg w57 hbox hb; have n0_ := Aside0.mk (blk_below (g := gb109) (o := .cells #[.int .i64 a0_0, .int .i64 a0_1, .int .i64 a0_2, .int .i64 a0_3, .int .i64 a0_4, .slice A0_5 l0_5.length c0_5, .slice A0_6 l0_6.length c0_6, .int .i64 a0_7, .slice A0_8 l0_8.length c0_8, .slice A0_9 l0_9.length c0_9] 30 (0, 0)) (by (with_reducible repeat (first | refine blk_drewN ?_ _ | refine blk_drew ?_ | refine blk_alloc ?_ _)); exact BK109.out) hb); have n1_ := Aside0.mk (below_step (by repeat (first | (with_reducible first | exact HB.out | apply below_alloc | apply pw_below_drewN | apply below_drew1 | refine below_set ?_ GE109.out) | exact HB.out)) hb); have n2_ := Aside0.mk (hbox); have n3_ := Aside0.mk ((by rw [hg]; exact (below_size (by repeat (first | (with_reducible first | exact HB.out | apply below_alloc | apply pw_below_drewN | apply below_drew1 | refine below_set ?_ GE109.out) | exact HB.out))) : w.heap.size ≤ gb110)); have n4_ := Aside0.mk ((by rw [hg]; exact (below_size (by repeat (first | (with_reducible first | exact HB.out | apply below_alloc | apply pw_below_drewN | apply below_drew1 | refine below_set ?_ GE109.out) | exact HB.out))) : w.heap.size ≤ gb110)); have n5_ := Aside0.mk ((by rw [hg]; exact Nat.ne_of_lt (blk_lt (g := gb109) (o := .cells #[.int .i64 a0_0, .int .i64 a0_1, .int .i64 a0_2, .int .i64 a0_3, .int .i64 a0_4, .slice A0_5 l0_5.length c0_5, .slice A0_6 l0_6.length c0_6, .int .i64 a0_7, .slice A0_8 l0_8.length c0_8, .slice A0_9 l0_9.length c0_9] 30 (0, 0)) (by (with_reducible repeat (first | refine blk_drewN ?_ _ | refine blk_drew ?_ | refine blk_alloc ?_ _)); exact BK109.out)) : gb109 ≠ gb110)); have n6_ := Aside0.mk ((by rw [hg]; exact Nat.ne_of_gt (blk_lt (g := gb109) (o := .cells #[.int .i64 a0_0, .int .i64 a0_1, .int .i64 a0_2, .int .i64 a0_3, .int .i64 a0_4, .slice A0_5 l0_5.length c0_5, .slice A0_6 l0_6.length c0_6, .int .i64 a0_7, .slice A0_8 l0_8.length c0_8, .slice A0_9 l0_9.length c0_9] 30 (0, 0)) (by (with_reducible repeat (first | refine blk_drewN ?_ _ | refine blk_drew ?_ | refine blk_alloc ?_ _)); exact BK109.out)) : gb110 ≠ gb109)); clear BK109; clear HB; have BK109 := n0_; have HB := n1_; have BK110 := n2_; have GW110 := n3_; have GE110 := n4_; have NB109_110 := n5_; have NB110_109 := n6_; clear n0_ n1_ n2_ n3_ n4_ n5_ n6_; clear hb hbox hg; have hnb58 := NB109_110.out; have hnc58 := NB110_109.out; have hcz59_0 : w57.cell? ⟨gb109, 0, none⟩ = some (.int .i64 a0_0) := (blk_cell BK109.out 0).trans rfl; have hcz59_1 : w57.cell? ⟨gb109, 1, none⟩ = some (.int .i64 a0_1) := (blk_cell BK109.out 1).trans rfl; have hcz59_2 : w57.cell? ⟨gb109, 2, none⟩ = some (.int .i64 a0_2) := (blk_cell BK109.out 2).trans rfl; have hcz59_3 : w57.cell? ⟨gb109, 3, none⟩ = some (.int .i64 a0_3) := (blk_cell BK109.out 3).trans rfl; have hcz59_4 : w57.cell? ⟨gb109, 4, none⟩ = some (.int .i64 a0_4) := (blk_cell BK109.out 4).trans rfl; have hcz59_5 : w57.cell? ⟨gb109, 5, none⟩ = some (.slice A0_5 l0_5.length c0_5) := (blk_cell BK109.out 5).trans rfl; have hcz59_6 : w57.cell? ⟨gb109, 6, none⟩ = some (.slice A0_6 l0_6.length c0_6) := (blk_cell BK109.out 6).trans rfl; have hcz59_7 : w57.cell? ⟨gb109, 7, none⟩ = some (.int .i64 a0_7) := (blk_cell BK109.out 7).trans rfl; have hcz59_8 : w57.cell? ⟨gb109, 8, none⟩ = some (.slice A0_8 l0_8.length c0_8) := (blk_cell BK109.out 8).trans rfl; have hcz59_9 : w57.cell? ⟨gb109, 9, none⟩ = some (.slice A0_9 l0_9.length c0_9) := (blk_cell BK109.out 9).trans rfl; have hfz59_0 := blk_frozen BK109.out 0; have hfz59_1 := blk_frozen BK109.out 1; have hfz59_2 := blk_frozen BK109.out 2; have hfz59_3 := blk_frozen BK109.out 3; have hfz59_4 := blk_frozen BK109.out 4; have hfz59_5 := blk_frozen BK109.out 5; have hfz59_6 := blk_frozen BK109.out 6; have hfz59_7 := blk_frozen BK109.out 7; have hfz59_8 := blk_frozen BK109.out 8; have hfz59_9 := blk_frozen BK109.out 9; have hcz60_0 : w57.cell? ⟨gb110, 0, none⟩ = some (.int .i64 a1_0) := (blk_cell BK110.out 0).trans rfl; have hcz60_1 : w57.cell? ⟨gb110, 1, none⟩ = some (.int .i64 a1_1) := (blk_cell BK110.out 1).trans rfl; have hcz60_2 : w57.cell? ⟨gb110, 2, none⟩ = some (.int .i64 a1_2) := (blk_cell BK110.out 2).trans rfl; have hcz60_3 : w57.cell? ⟨gb110, 3, none⟩ = some (.int .i64 a1_3) := (blk_cell BK110.out 3).trans rfl; have hcz60_4 : w57.cell? ⟨gb110, 4, none⟩ = some (.int .i64 a1_4) := (blk_cell BK110.out 4).trans rfl; have hcz60_5 : w57.cell? ⟨gb110, 5, none⟩ = some (.slice A1_5 l1_5.length c1_5) := (blk_cell BK110.out 5).trans rfl; have hcz60_6 : w57.cell? ⟨gb110, 6, none⟩ = some (.slice A1_6 l1_6.length c1_6) := (blk_cell BK110.out 6).trans rfl; have hcz60_7 : w57.cell? ⟨gb110, 7, none⟩ = some (.int .i64 a1_7) := (blk_cell BK110.out 7).trans rfl; have hcz60_8 : w57.cell? ⟨gb110, 8, none⟩ = some (.slice A1_8 l1_8.length c1_8) := (blk_cell BK110.out 8).trans rfl; have hcz60_9 : w57.cell? ⟨gb110, 9, none⟩ = some (.slice A1_9 l1_9.length c1_9) := (blk_cell BK110.out 9).trans rfl; have hfz60_0 := blk_frozen BK110.out 0; have hfz60_1 := blk_frozen BK110.out 1; have hfz60_2 := blk_frozen BK110.out 2; have hfz60_3 := blk_frozen BK110.out 3; have hfz60_4 := blk_frozen BK110.out 4; have hfz60_5 := blk_frozen BK110.out 5; have hfz60_6 := blk_frozen BK110.out 6; have hfz60_7 := blk_frozen BK110.out 7; have hfz60_8 := blk_frozen BK110.out 8; have hfz60_9 := blk_frozen BK110.out 9))
      go_ret
      exact ⟨by first | rfl | (simp [errW_none, errW_some] <;> rfl) | (simp [*, errW_none, errW_some] <;> rfl), by repeat (first | (with_reducible first | exact HB.out | apply below_alloc | apply pw_below_drewN | apply below_drew1 | refine below_set ?_ GE109.out | refine below_set ?_ GE110.out) | exact HB.out)⟩
  · rw [if_neg c3] at H
    have c3b0 : (a0_0 == a1_0) = false := beq_eq_false_iff_ne.mpr c3
    have c3b1 : (a0_0 != a1_0) = true := bne_iff_ne.mpr c3
    obtain rfl := Option.some.inj H
    go_enter Try.func19, Try.ntmps19
    go_wp2_with (first | ((with_reducible refine gate_dst (N := 2) rfl ?_); refine box_event ?hg (N := 2) ?hd (cs := #[.int .i64 a0_0, .int .i64 a0_1, .int .i64 a0_2, .int .i64 a0_3, .int .i64 a0_4, .slice A0_5 l0_5.length c0_5, .slice A0_6 l0_6.length c0_6, .int .i64 a0_7, .slice A0_8 l0_8.length c0_8, .slice A0_9 l0_9.length c0_9]) (t := 30) ?hr ?_; (case hd => rfl); (case hg => rfl); (case hr => first | (go_simp; done) | (go_simp; rfl)); intro gb109 hg w61 hbox hb; have n0_ := Aside0.mk (below_step (by repeat (first | (with_reducible first | exact HB.out | apply below_alloc | apply pw_below_drewN | apply below_drew1) | exact HB.out)) hb); have n1_ := Aside0.mk (hbox); have n2_ := Aside0.mk ((by rw [hg]; exact (below_size (by repeat (first | (with_reducible first | exact HB.out | apply below_alloc | apply pw_below_drewN | apply below_drew1) | exact HB.out))) : w.heap.size ≤ gb109)); have n3_ := Aside0.mk ((by rw [hg]; exact (below_size (by repeat (first | (with_reducible first | exact HB.out | apply below_alloc | apply pw_below_drewN | apply below_drew1) | exact HB.out))) : w.heap.size ≤ gb109)); clear HB; have HB := n0_; have BK109 := n1_; have GW109 := n2_; have GE109 := n3_; clear n0_ n1_ n2_ n3_; clear hb hbox hg) | ((with_reducible refine gate_dst (N := 3) rfl ?_); refine box_event ?hg (N := 3) ?hd (cs := #[.int .i64 a1_0, .int .i64 a1_1, .int .i64 a1_2, .int .i64 a1_3, .int .i64 a1_4, .slice A1_5 l1_5.length c1_5, .slice A1_6 l1_6.length c1_6, .int .i64 a1_7, .slice A1_8 l1_8.length c1_8, .slice A1_9 l1_9.length c1_9]) (t := 30) ?hr ?_; (case hd => rfl); (case hg => rfl); (case hr => first | (go_simp; done) | (go_simp; rfl)); intro gb110 hg w62 hbox hb; have n0_ := Aside0.mk (blk_below (g := gb109) (o := .cells #[.int .i64 a0_0, .int .i64 a0_1, .int .i64 a0_2, .int .i64 a0_3, .int .i64 a0_4, .slice A0_5 l0_5.length c0_5, .slice A0_6 l0_6.length c0_6, .int .i64 a0_7, .slice A0_8 l0_8.length c0_8, .slice A0_9 l0_9.length c0_9] 30 (0, 0)) (by (with_reducible repeat (first | refine blk_drewN ?_ _ | refine blk_drew ?_ | refine blk_alloc ?_ _)); exact BK109.out) hb); have n1_ := Aside0.mk (below_step (by repeat (first | (with_reducible first | exact HB.out | apply below_alloc | apply pw_below_drewN | apply below_drew1 | refine below_set ?_ GE109.out) | exact HB.out)) hb); have n2_ := Aside0.mk (hbox); have n3_ := Aside0.mk ((by rw [hg]; exact (below_size (by repeat (first | (with_reducible first | exact HB.out | apply below_alloc | apply pw_below_drewN | apply below_drew1 | refine below_set ?_ GE109.out) | exact HB.out))) : w.heap.size ≤ gb110)); have n4_ := Aside0.mk ((by rw [hg]; exact (below_size (by repeat (first | (with_reducible first | exact HB.out | apply below_alloc | apply pw_below_drewN | apply below_drew1 | refine below_set ?_ GE109.out) | exact HB.out))) : w.heap.size ≤ gb110)); have n5_ := Aside0.mk ((by rw [hg]; exact Nat.ne_of_lt (blk_lt (g := gb109) (o := .cells #[.int .i64 a0_0, .int .i64 a0_1, .int .i64 a0_2, .int .i64 a0_3, .int .i64 a0_4, .slice A0_5 l0_5.length c0_5, .slice A0_6 l0_6.length c0_6, .int .i64 a0_7, .slice A0_8 l0_8.length c0_8, .slice A0_9 l0_9.length c0_9] 30 (0, 0)) (by (with_reducible repeat (first | refine blk_drewN ?_ _ | refine blk_drew ?_ | refine blk_alloc ?_ _)); exact BK109.out)) : gb109 ≠ gb110)); have n6_ := Aside0.mk ((by rw [hg]; exact Nat.ne_of_gt (blk_lt (g := gb109) (o := .cells #[.int .i64 a0_0, .int .i64 a0_1, .int .i64 a0_2, .int .i64 a0_3, .int .i64 a0_4, .slice A0_5 l0_5.length c0_5, .slice A0_6 l0_6.length c0_6, .int .i64 a0_7, .slice A0_8 l0_8.length c0_8, .slice A0_9 l0_9.length c0_9] 30 (0, 0)) (by (with_reducible repeat (first | refine blk_drewN ?_ _ | refine blk_drew ?_ | refine blk_alloc ?_ _)); exact BK109.out)) : gb110 ≠ gb109)); clear BK109; clear HB; have BK109 := n0_; have HB := n1_; have BK110 := n2_; have GW110 := n3_; have GE110 := n4_; have NB109_110 := n5_; have NB110_109 := n6_; clear n0_ n1_ n2_ n3_ n4_ n5_ n6_; clear hb hbox hg; have hnb63 := NB109_110.out; have hnc63 := NB110_109.out; have hcz64_0 : w62.cell? ⟨gb109, 0, none⟩ = some (.int .i64 a0_0) := (blk_cell BK109.out 0).trans rfl; have hcz64_1 : w62.cell? ⟨gb109, 1, none⟩ = some (.int .i64 a0_1) := (blk_cell BK109.out 1).trans rfl; have hcz64_2 : w62.cell? ⟨gb109, 2, none⟩ = some (.int .i64 a0_2) := (blk_cell BK109.out 2).trans rfl; have hcz64_3 : w62.cell? ⟨gb109, 3, none⟩ = some (.int .i64 a0_3) := (blk_cell BK109.out 3).trans rfl; have hcz64_4 : w62.cell? ⟨gb109, 4, none⟩ = some (.int .i64 a0_4) := (blk_cell BK109.out 4).trans rfl; have hcz64_5 : w62.cell? ⟨gb109, 5, none⟩ = some (.slice A0_5 l0_5.length c0_5) := (blk_cell BK109.out 5).trans rfl; have hcz64_6 : w62.cell? ⟨gb109, 6, none⟩ = some (.slice A0_6 l0_6.length c0_6) := (blk_cell BK109.out 6).trans rfl; have hcz64_7 : w62.cell? ⟨gb109, 7, none⟩ = some (.int .i64 a0_7) := (blk_cell BK109.out 7).trans rfl; have hcz64_8 : w62.cell? ⟨gb109, 8, none⟩ = some (.slice A0_8 l0_8.length c0_8) := (blk_cell BK109.out 8).trans rfl; have hcz64_9 : w62.cell? ⟨gb109, 9, none⟩ = some (.slice A0_9 l0_9.length c0_9) := (blk_cell BK109.out 9).trans rfl; have hfz64_0 := blk_frozen BK109.out 0; have hfz64_1 := blk_frozen BK109.out 1; have hfz64_2 := blk_frozen BK109.out 2; have hfz64_3 := blk_frozen BK109.out 3; have hfz64_4 := blk_frozen BK109.out 4; have hfz64_5 := blk_frozen BK109.out 5; have hfz64_6 := blk_frozen BK109.out 6; have hfz64_7 := blk_frozen BK109.out 7; have hfz64_8 := blk_frozen BK109.out 8; have hfz64_9 := blk_frozen BK109.out 9; have hcz65_0 : w62.cell? ⟨gb110, 0, none⟩ = some (.int .i64 a1_0) := (blk_cell BK110.out 0).trans rfl; have hcz65_1 : w62.cell? ⟨gb110, 1, none⟩ = some (.int .i64 a1_1) := (blk_cell BK110.out 1).trans rfl; have hcz65_2 : w62.cell? ⟨gb110, 2, none⟩ = some (.int .i64 a1_2) := (blk_cell BK110.out 2).trans rfl; have hcz65_3 : w62.cell? ⟨gb110, 3, none⟩ = some (.int .i64 a1_3) := (blk_cell BK110.out 3).trans rfl; have hcz65_4 : w62.cell? ⟨gb110, 4, none⟩ = some (.int .i64 a1_4) := (blk_cell BK110.out 4).trans rfl; have hcz65_5 : w62.cell? ⟨gb110, 5, none⟩ = some (.slice A1_5 l1_5.length c1_5) := (blk_cell BK110.out 5).trans rfl; have hcz65_6 : w62.cell? ⟨gb110, 6, none⟩ = some (.slice A1_6 l1_6.length c1_6) := (blk_cell BK110.out 6).trans rfl; have hcz65_7 : w62.cell? ⟨gb110, 7, none⟩ = some (.int .i64 a1_7) := (blk_cell BK110.out 7).trans rfl; have hcz65_8 : w62.cell? ⟨gb110, 8, none⟩ = some (.slice A1_8 l1_8.length c1_8) := (blk_cell BK110.out 8).trans rfl; have hcz65_9 : w62.cell? ⟨gb110, 9, none⟩ = some (.slice A1_9 l1_9.length c1_9) := (blk_cell BK110.out 9).trans rfl; have hfz65_0 := blk_frozen BK110.out 0; have hfz65_1 := blk_frozen BK110.out 1; have hfz65_2 := blk_frozen BK110.out 2; have hfz65_3 := blk_frozen BK110.out 3; have hfz65_4 := blk_frozen BK110.out 4; have hfz65_5 := blk_frozen BK110.out 5; have hfz65_6 := blk_frozen BK110.out 6; have hfz65_7 := blk_frozen BK110.out 7; have hfz65_8 := blk_frozen BK110.out 8; have hfz65_9 := blk_frozen BK110.out 9))
    go_ret
    exact ⟨by first | rfl | (simp [errW_none, errW_some] <;> rfl) | (simp [*, errW_none, errW_some] <;> rfl), by repeat (first | (with_reducible first | exact HB.out | apply below_alloc | apply pw_below_drewN | apply below_drew1 | refine below_set ?_ GE109.out | refine below_set ?_ GE110.out) | exact HB.out)⟩
end Go.Proofs.Ytcplblpmgajmnaa.A
namespace Go.Proofs.Ytcplblpmgajmnaa.A
open Go.RowKit Go.Proofs.YtcplblpmgajmnaaW.PrintWords Go.Proofs.YtcplblpmgajmnaaW.PrintLast Go.Proofs.YtcplblpmgajmnaaW.PrintMore
set_option linter.unusedVariables false
set_option linter.unusedSimpArgs false
theorem wr_succ {i n : Nat} (h : i < n) (hn : n ≤ 9223372036854775807) : wrap64 ((i : Int) + 1) = ((i + 1 : Nat) : Int) := by
  unfold wrap64
  omega
theorem wr_pred {i n : Nat} (h0 : 0 < i) (h : i < n) (hn : n ≤ 9223372036854775807) : wrap64 ((i : Int) - 1) = ((i - 1 : Nat) : Int) := by
  unfold wrap64
  omega
def risAt {α : Type} (num : α → Int) (z : α) (most : Int) (l : List α) (i : Nat) : Prop :=
  0 ≤ num (l.getD i z) ∧ num (l.getD i z) < most ∧ (0 < i → num (l.getD (i - 1) z) < num (l.getD i z))
instance {α : Type} (num : α → Int) (z : α) (most : Int) (l : List α) (i : Nat) : Decidable (risAt num z most l i) := by
  unfold risAt; infer_instance
def Ris {α : Type} (num : α → Int) (z : α) (most : Int) (l : List α) : Prop := ∀ i, i < l.length → risAt num z most l i
instance {α : Type} (num : α → Int) (z : α) (most : Int) (l : List α) : Decidable (Ris num z most l) := by
  unfold Ris; infer_instance
theorem api_Dirty_44_l0 (l : List S54) (most : Int) (hl : l.length ≤ 9223372036854775807) : ∀ (d i k : Nat), i + d = l.length → d < k →
    (∀ j, j < i → risAt (fun x => x.f0) z54 most l j) → api_Dirty_44.l0 k l most l (l.length : Int) (i : Int) = some (decide (Ris (fun x => x.f0) z54 most l)) := by
  intro d
  induction d with
  | zero =>
    intro i k hd hk hp
    obtain ⟨k, rfl⟩ : ∃ m, k = m + 1 := ⟨k - 1, by omega⟩
    rw [api_Dirty_44.l0, if_neg (by omega), decide_eq_true (show Ris (fun x => x.f0) z54 most l from fun j hj => hp j (by omega))]
  | succ d ih =>
    intro i k hd hk hp
    obtain ⟨k, rfl⟩ : ∃ m, k = m + 1 := ⟨k - 1, by omega⟩
    have hlt : i < l.length := by omega
    rw [api_Dirty_44.l0, if_pos (by omega), if_pos (by omega), if_pos (by omega)]
    simp only [record_said_1.f, Option.bind_some, wr_succ hlt hl]
    by_cases h1 : (rd_T54 l (i : Int)).f0 < 0
    · rw [if_pos h1, decide_eq_false]
      intro hR
      exact absurd (show 0 ≤ (rd_T54 l (i : Int)).f0 from (hR i hlt).1) (by omega)
    · rw [if_neg h1]
      by_cases h2 : (rd_T54 l (i : Int)).f0 ≥ most
      · rw [if_pos h2, decide_eq_false]
        intro hR
        exact absurd (show (rd_T54 l (i : Int)).f0 < most from (hR i hlt).2.1) (by omega)
      · rw [if_neg h2]
        by_cases h3 : (i : Int) > 0
        · have h0 : 0 < i := by omega
          rw [if_pos h3, wr_pred h0 hlt hl, if_pos (by omega), if_pos (by omega)]
          by_cases h4 : (rd_T54 l ((i - 1 : Nat) : Int)).f0 ≥ (rd_T54 l (i : Int)).f0
          · rw [if_pos h4, decide_eq_false]
            intro hR
            exact absurd (show (rd_T54 l ((i - 1 : Nat) : Int)).f0 < (rd_T54 l (i : Int)).f0 from (hR i hlt).2.2 h0) (by omega)
          · rw [if_neg h4]
            refine ih (i + 1) k (by omega) (by omega) fun j hj => ?_
            rcases Nat.lt_or_ge j i with h | h
            · exact hp j h
            · obtain rfl : i = j := by omega
              exact ⟨show 0 ≤ (rd_T54 l (i : Int)).f0 by omega, show (rd_T54 l (i : Int)).f0 < most by omega, fun _ => show (rd_T54 l ((i - 1 : Nat) : Int)).f0 < (rd_T54 l (i : Int)).f0 by omega⟩
        · rw [if_neg h3]
          refine ih (i + 1) k (by omega) (by omega) fun j hj => ?_
          rcases Nat.lt_or_ge j i with h | h
          · exact hp j h
          · obtain rfl : i = j := by omega
            exact ⟨show 0 ≤ (rd_T54 l (i : Int)).f0 by omega, show (rd_T54 l (i : Int)).f0 < most by omega, fun h => by omega⟩
theorem api_Dirty_44_f (l : List S54) (most : Int) (hl : l.length ≤ 9223372036854775807) (k : Nat) (hk : l.length < k) : api_Dirty_44.f k l most = some (decide (Ris (fun x => x.f0) z54 most l)) := by
  unfold api_Dirty_44.f
  exact api_Dirty_44_l0 l most hl l.length 0 k (by omega) hk (fun j hj => by omega)
theorem api_Active_46_l0 (l : List S56) (most : Int) (hl : l.length ≤ 9223372036854775807) : ∀ (d i k : Nat), i + d = l.length → d < k →
    (∀ j, j < i → risAt (fun x => wrap64 (x.f0 - 1)) z56 most l j) → api_Active_46.l0 k l most l (l.length : Int) (i : Int) = some (decide (Ris (fun x => wrap64 (x.f0 - 1)) z56 most l)) := by
  intro d
  induction d with
  | zero =>
    intro i k hd hk hp
    obtain ⟨k, rfl⟩ : ∃ m, k = m + 1 := ⟨k - 1, by omega⟩
    rw [api_Active_46.l0, if_neg (by omega), decide_eq_true (show Ris (fun x => wrap64 (x.f0 - 1)) z56 most l from fun j hj => hp j (by omega))]
  | succ d ih =>
    intro i k hd hk hp
    obtain ⟨k, rfl⟩ : ∃ m, k = m + 1 := ⟨k - 1, by omega⟩
    have hlt : i < l.length := by omega
    rw [api_Active_46.l0, if_pos (by omega), if_pos (by omega), if_pos (by omega)]
    simp only [record_said_2.f, Option.bind_some, wr_succ hlt hl]
    by_cases h1 : wrap64 ((rd_T56 l (i : Int)).f0 - 1) < 0
    · rw [if_pos h1, decide_eq_false]
      intro hR
      exact absurd (show 0 ≤ wrap64 ((rd_T56 l (i : Int)).f0 - 1) from (hR i hlt).1) (by omega)
    · rw [if_neg h1]
      by_cases h2 : wrap64 ((rd_T56 l (i : Int)).f0 - 1) ≥ most
      · rw [if_pos h2, decide_eq_false]
        intro hR
        exact absurd (show wrap64 ((rd_T56 l (i : Int)).f0 - 1) < most from (hR i hlt).2.1) (by omega)
      · rw [if_neg h2]
        by_cases h3 : (i : Int) > 0
        · have h0 : 0 < i := by omega
          rw [if_pos h3, wr_pred h0 hlt hl, if_pos (by omega), if_pos (by omega)]
          by_cases h4 : wrap64 ((rd_T56 l ((i - 1 : Nat) : Int)).f0 - 1) ≥ wrap64 ((rd_T56 l (i : Int)).f0 - 1)
          · rw [if_pos h4, decide_eq_false]
            intro hR
            exact absurd (show wrap64 ((rd_T56 l ((i - 1 : Nat) : Int)).f0 - 1) < wrap64 ((rd_T56 l (i : Int)).f0 - 1) from (hR i hlt).2.2 h0) (by omega)
          · rw [if_neg h4]
            refine ih (i + 1) k (by omega) (by omega) fun j hj => ?_
            rcases Nat.lt_or_ge j i with h | h
            · exact hp j h
            · obtain rfl : i = j := by omega
              exact ⟨show 0 ≤ wrap64 ((rd_T56 l (i : Int)).f0 - 1) by omega, show wrap64 ((rd_T56 l (i : Int)).f0 - 1) < most by omega, fun _ => show wrap64 ((rd_T56 l ((i - 1 : Nat) : Int)).f0 - 1) < wrap64 ((rd_T56 l (i : Int)).f0 - 1) by omega⟩
        · rw [if_neg h3]
          refine ih (i + 1) k (by omega) (by omega) fun j hj => ?_
          rcases Nat.lt_or_ge j i with h | h
          · exact hp j h
          · obtain rfl : i = j := by omega
            exact ⟨show 0 ≤ wrap64 ((rd_T56 l (i : Int)).f0 - 1) by omega, show wrap64 ((rd_T56 l (i : Int)).f0 - 1) < most by omega, fun h => by omega⟩
theorem api_Active_46_f (l : List S56) (most : Int) (hl : l.length ≤ 9223372036854775807) (k : Nat) (hk : l.length < k) : api_Active_46.f k l most = some (decide (Ris (fun x => wrap64 (x.f0 - 1)) z56 most l)) := by
  unfold api_Active_46.f
  exact api_Active_46_l0 l most hl l.length 0 k (by omega) hk (fun j hj => by omega)
theorem api_Image_55_l0 (l : List S52) (most : Int) (hl : l.length ≤ 9223372036854775807) : ∀ (d i k : Nat), i + d = l.length → d < k →
    (∀ j, j < i → risAt (fun x => x.f0) z52 most l j) → api_Image_55.l0 k l most l (l.length : Int) (i : Int) = some (decide (Ris (fun x => x.f0) z52 most l)) := by
  intro d
  induction d with
  | zero =>
    intro i k hd hk hp
    obtain ⟨k, rfl⟩ : ∃ m, k = m + 1 := ⟨k - 1, by omega⟩
    rw [api_Image_55.l0, if_neg (by omega), decide_eq_true (show Ris (fun x => x.f0) z52 most l from fun j hj => hp j (by omega))]
  | succ d ih =>
    intro i k hd hk hp
    obtain ⟨k, rfl⟩ : ∃ m, k = m + 1 := ⟨k - 1, by omega⟩
    have hlt : i < l.length := by omega
    rw [api_Image_55.l0, if_pos (by omega), if_pos (by omega), if_pos (by omega)]
    simp only [record_images_1.f, Option.bind_some, wr_succ hlt hl]
    by_cases h1 : (rd_T52 l (i : Int)).f0 < 0
    · rw [if_pos h1, decide_eq_false]
      intro hR
      exact absurd (show 0 ≤ (rd_T52 l (i : Int)).f0 from (hR i hlt).1) (by omega)
    · rw [if_neg h1]
      by_cases h2 : (rd_T52 l (i : Int)).f0 ≥ most
      · rw [if_pos h2, decide_eq_false]
        intro hR
        exact absurd (show (rd_T52 l (i : Int)).f0 < most from (hR i hlt).2.1) (by omega)
      · rw [if_neg h2]
        by_cases h3 : (i : Int) > 0
        · have h0 : 0 < i := by omega
          rw [if_pos h3, wr_pred h0 hlt hl, if_pos (by omega), if_pos (by omega)]
          by_cases h4 : (rd_T52 l ((i - 1 : Nat) : Int)).f0 ≥ (rd_T52 l (i : Int)).f0
          · rw [if_pos h4, decide_eq_false]
            intro hR
            exact absurd (show (rd_T52 l ((i - 1 : Nat) : Int)).f0 < (rd_T52 l (i : Int)).f0 from (hR i hlt).2.2 h0) (by omega)
          · rw [if_neg h4]
            refine ih (i + 1) k (by omega) (by omega) fun j hj => ?_
            rcases Nat.lt_or_ge j i with h | h
            · exact hp j h
            · obtain rfl : i = j := by omega
              exact ⟨show 0 ≤ (rd_T52 l (i : Int)).f0 by omega, show (rd_T52 l (i : Int)).f0 < most by omega, fun _ => show (rd_T52 l ((i - 1 : Nat) : Int)).f0 < (rd_T52 l (i : Int)).f0 by omega⟩
        · rw [if_neg h3]
          refine ih (i + 1) k (by omega) (by omega) fun j hj => ?_
          rcases Nat.lt_or_ge j i with h | h
          · exact hp j h
          · obtain rfl : i = j := by omega
            exact ⟨show 0 ≤ (rd_T52 l (i : Int)).f0 by omega, show (rd_T52 l (i : Int)).f0 < most by omega, fun h => by omega⟩
theorem api_Image_55_f (l : List S52) (most : Int) (hl : l.length ≤ 9223372036854775807) (k : Nat) (hk : l.length < k) : api_Image_55.f k l most = some (decide (Ris (fun x => x.f0) z52 most l)) := by
  unfold api_Image_55.f
  exact api_Image_55_l0 l most hl l.length 0 k (by omega) hk (fun j hj => by omega)

deriving instance DecidableEq for S52

deriving instance DecidableEq for S54

deriving instance DecidableEq for S56
theorem slices_Equal_int_int_l0 (x y : List Int) (hn : x.length = y.length) (hl : x.length ≤ 9223372036854775807) : ∀ (d i k : Nat), i + d = x.length → d < k →
    (∀ j, j < i → x.getD j 0 = y.getD j 0) → slices_Equal_int_int.l0 k x y (x.length : Int) (i : Int) = some (decide (x = y)) := by
  intro d
  induction d with
  | zero =>
    intro i k hd hk hp
    obtain ⟨k, rfl⟩ : ∃ m, k = m + 1 := ⟨k - 1, by omega⟩
    rw [slices_Equal_int_int.l0, if_neg (by omega), decide_eq_true]
    refine List.ext_getElem hn fun j h1 h2 => ?_
    have := hp j (by omega)
    simpa [List.getD_eq_getElem?_getD, List.getElem?_eq_getElem h1, List.getElem?_eq_getElem h2] using this
  | succ d ih =>
    intro i k hd hk hp
    obtain ⟨k, rfl⟩ : ∃ m, k = m + 1 := ⟨k - 1, by omega⟩
    have hlt : i < x.length := by omega
    rw [slices_Equal_int_int.l0, if_pos (by omega), if_pos (by omega), if_pos (by omega), if_pos (by omega)]
    simp only [wr_succ hlt hl]
    have ex : rd x (i : Int) = x.getD i 0 := rfl
    have ey : rd y (i : Int) = y.getD i 0 := rfl
    by_cases h1 : x.getD i 0 = y.getD i 0
    · rw [if_pos (show rd x (i : Int) = rd y (i : Int) from h1)]
      refine ih (i + 1) k (by omega) (by omega) fun j hj => ?_
      rcases Nat.lt_or_ge j i with h | h
      · exact hp j h
      · obtain rfl : i = j := by omega
        exact h1
    · rw [if_neg (show ¬ rd x (i : Int) = rd y (i : Int) from h1), decide_eq_false]
      rintro rfl
      exact h1 rfl
theorem slices_Equal_int_int_f (x y : List Int) (hl : x.length ≤ 9223372036854775807) (k : Nat) (hk : x.length < k) : slices_Equal_int_int.f k x y = some (decide (x = y)) := by
  unfold slices_Equal_int_int.f
  by_cases hn : (x.length : Int) = (y.length : Int)
  · rw [if_pos hn]
    exact slices_Equal_int_int_l0 x y (by omega) hl x.length 0 k (by omega) hk (fun j hj => by omega)
  · rw [if_neg hn, decide_eq_false]
    rintro rfl
    exact hn rfl
theorem ne_S52 {a b : S52} (h : ¬ a = b) : (!(a.f0 == b.f0) || (!(a.f1 == b.f1))) = true := by
  obtain ⟨a0, a1⟩ := a
  obtain ⟨b0, b1⟩ := b
  simp only [S52.mk.injEq, Classical.not_and_iff_not_or_not] at h
  simpa using h
theorem api_Image_32_l0 (x y : List S52) (hn : x.length = y.length) (hl : x.length ≤ 9223372036854775807) : ∀ (d i k : Nat), i + d = x.length → d < k →
    (∀ j, j < i → x.getD j z52 = y.getD j z52) → api_Image_32.l0 k x y (x.length : Int) (i : Int) = some (decide (x = y)) := by
  intro d
  induction d with
  | zero =>
    intro i k hd hk hp
    obtain ⟨k, rfl⟩ : ∃ m, k = m + 1 := ⟨k - 1, by omega⟩
    rw [api_Image_32.l0, if_neg (by omega), decide_eq_true]
    refine List.ext_getElem hn fun j h1 h2 => ?_
    have := hp j (by omega)
    simpa [List.getD_eq_getElem?_getD, List.getElem?_eq_getElem h1, List.getElem?_eq_getElem h2] using this
  | succ d ih =>
    intro i k hd hk hp
    obtain ⟨k, rfl⟩ : ∃ m, k = m + 1 := ⟨k - 1, by omega⟩
    have hlt : i < x.length := by omega
    rw [api_Image_32.l0, if_pos (by omega), if_pos (by omega), if_pos (by omega), if_pos (by omega)]
    simp only [wr_succ hlt hl]
    have ex : rd_T52 x (i : Int) = x.getD i z52 := rfl
    have ey : rd_T52 y (i : Int) = y.getD i z52 := rfl
    by_cases h1 : x.getD i z52 = y.getD i z52
    · rw [if_neg (by rw [ex, ey, h1]; simp)]
      refine ih (i + 1) k (by omega) (by omega) fun j hj => ?_
      rcases Nat.lt_or_ge j i with h | h
      · exact hp j h
      · obtain rfl : i = j := by omega
        exact h1
    · rw [if_pos (by rw [ex, ey]; exact ne_S52 h1), decide_eq_false]
      rintro rfl
      exact h1 rfl
theorem api_Image_32_f (x y : List S52) (hl : x.length ≤ 9223372036854775807) (k : Nat) (hk : x.length < k) : api_Image_32.f k x y = some (decide (x = y)) := by
  unfold api_Image_32.f
  by_cases hn : (x.length : Int) = (y.length : Int)
  · rw [if_pos hn]
    exact api_Image_32_l0 x y (by omega) hl x.length 0 k (by omega) hk (fun j hj => by omega)
  · rw [if_neg hn, decide_eq_false]
    rintro rfl
    exact hn rfl
theorem ne_S54 {a b : S54} (h : ¬ a = b) : (!(a.f0 == b.f0) || (!(a.f1 == b.f1))) = true := by
  obtain ⟨a0, a1⟩ := a
  obtain ⟨b0, b1⟩ := b
  simp only [S54.mk.injEq, Classical.not_and_iff_not_or_not] at h
  simpa using h
theorem api_Dirty_33_l0 (x y : List S54) (hn : x.length = y.length) (hl : x.length ≤ 9223372036854775807) : ∀ (d i k : Nat), i + d = x.length → d < k →
    (∀ j, j < i → x.getD j z54 = y.getD j z54) → api_Dirty_33.l0 k x y (x.length : Int) (i : Int) = some (decide (x = y)) := by
  intro d
  induction d with
  | zero =>
    intro i k hd hk hp
    obtain ⟨k, rfl⟩ : ∃ m, k = m + 1 := ⟨k - 1, by omega⟩
    rw [api_Dirty_33.l0, if_neg (by omega), decide_eq_true]
    refine List.ext_getElem hn fun j h1 h2 => ?_
    have := hp j (by omega)
    simpa [List.getD_eq_getElem?_getD, List.getElem?_eq_getElem h1, List.getElem?_eq_getElem h2] using this
  | succ d ih =>
    intro i k hd hk hp
    obtain ⟨k, rfl⟩ : ∃ m, k = m + 1 := ⟨k - 1, by omega⟩
    have hlt : i < x.length := by omega
    rw [api_Dirty_33.l0, if_pos (by omega), if_pos (by omega), if_pos (by omega), if_pos (by omega)]
    simp only [wr_succ hlt hl]
    have ex : rd_T54 x (i : Int) = x.getD i z54 := rfl
    have ey : rd_T54 y (i : Int) = y.getD i z54 := rfl
    by_cases h1 : x.getD i z54 = y.getD i z54
    · rw [if_neg (by rw [ex, ey, h1]; simp)]
      refine ih (i + 1) k (by omega) (by omega) fun j hj => ?_
      rcases Nat.lt_or_ge j i with h | h
      · exact hp j h
      · obtain rfl : i = j := by omega
        exact h1
    · rw [if_pos (by rw [ex, ey]; exact ne_S54 h1), decide_eq_false]
      rintro rfl
      exact h1 rfl
theorem api_Dirty_33_f (x y : List S54) (hl : x.length ≤ 9223372036854775807) (k : Nat) (hk : x.length < k) : api_Dirty_33.f k x y = some (decide (x = y)) := by
  unfold api_Dirty_33.f
  by_cases hn : (x.length : Int) = (y.length : Int)
  · rw [if_pos hn]
    exact api_Dirty_33_l0 x y (by omega) hl x.length 0 k (by omega) hk (fun j hj => by omega)
  · rw [if_neg hn, decide_eq_false]
    rintro rfl
    exact hn rfl
theorem ne_S56 {a b : S56} (h : ¬ a = b) : (!(a.f0 == b.f0) || (!(a.f1 == b.f1) || (!(a.f2 == b.f2) || (!(a.f3 == b.f3))))) = true := by
  obtain ⟨a0, a1, a2, a3⟩ := a
  obtain ⟨b0, b1, b2, b3⟩ := b
  simp only [S56.mk.injEq, Classical.not_and_iff_not_or_not] at h
  simpa using h
theorem api_Active_34_l0 (x y : List S56) (hn : x.length = y.length) (hl : x.length ≤ 9223372036854775807) : ∀ (d i k : Nat), i + d = x.length → d < k →
    (∀ j, j < i → x.getD j z56 = y.getD j z56) → api_Active_34.l0 k x y (x.length : Int) (i : Int) = some (decide (x = y)) := by
  intro d
  induction d with
  | zero =>
    intro i k hd hk hp
    obtain ⟨k, rfl⟩ : ∃ m, k = m + 1 := ⟨k - 1, by omega⟩
    rw [api_Active_34.l0, if_neg (by omega), decide_eq_true]
    refine List.ext_getElem hn fun j h1 h2 => ?_
    have := hp j (by omega)
    simpa [List.getD_eq_getElem?_getD, List.getElem?_eq_getElem h1, List.getElem?_eq_getElem h2] using this
  | succ d ih =>
    intro i k hd hk hp
    obtain ⟨k, rfl⟩ : ∃ m, k = m + 1 := ⟨k - 1, by omega⟩
    have hlt : i < x.length := by omega
    rw [api_Active_34.l0, if_pos (by omega), if_pos (by omega), if_pos (by omega), if_pos (by omega)]
    simp only [wr_succ hlt hl]
    have ex : rd_T56 x (i : Int) = x.getD i z56 := rfl
    have ey : rd_T56 y (i : Int) = y.getD i z56 := rfl
    by_cases h1 : x.getD i z56 = y.getD i z56
    · rw [if_neg (by rw [ex, ey, h1]; simp)]
      refine ih (i + 1) k (by omega) (by omega) fun j hj => ?_
      rcases Nat.lt_or_ge j i with h | h
      · exact hp j h
      · obtain rfl : i = j := by omega
        exact h1
    · rw [if_pos (by rw [ex, ey]; exact ne_S56 h1), decide_eq_false]
      rintro rfl
      exact h1 rfl
theorem api_Active_34_f (x y : List S56) (hl : x.length ≤ 9223372036854775807) (k : Nat) (hk : x.length < k) : api_Active_34.f k x y = some (decide (x = y)) := by
  unfold api_Active_34.f
  by_cases hn : (x.length : Int) = (y.length : Int)
  · rw [if_pos hn]
    exact api_Active_34_l0 x y (by omega) hl x.length 0 k (by omega) hk (fun j hj => by omega)
  · rw [if_neg hn, decide_eq_false]
    rintro rfl
    exact hn rfl
def ImgOk (l : List S52) : Prop := Ris (fun x => x.f0) z52 60 l
instance (l : List S52) : Decidable (ImgOk l) := by unfold ImgOk; infer_instance
theorem images_f (l : List S52) (hl : l.length ≤ 9223372036854775807) (k : Nat) (hk : l.length < k) : record_images.f k l = some (decide (ImgOk l)) := by
  unfold record_images.f
  rw [api_Image_55_f l 60 hl k hk]
  rfl
def OnPage (page op : Int) (args : List Int) (imgs : List S52) (either : Bool) : Prop :=
  (0 ≤ page ∧ page < 1024 ∧ 0 ≤ op ∧ op ≤ 16 ∧ args.length ≤ 8 ∧ ImgOk imgs) ∧
    if either = true then (0 < op ∧ imgs.length = 0) ∨ (op = 0 ∧ args.length = 0) else 0 < op
instance (page op : Int) (args : List Int) (imgs : List S52) (either : Bool) : Decidable (OnPage page op args imgs either) := by unfold OnPage; infer_instance
theorem onPage_f (a0 a1 a2 page op : Int) (args : List Int) (imgs : List S52) (a7 : Int) (di : List S54) (ac : List S56) (either : Bool) (hl : imgs.length ≤ 9223372036854775807) (k : Nat) (hk : imgs.length < k) :
    record_onPage.f k a0 a1 a2 page op args imgs a7 di ac either = some (decide (OnPage page op args imgs either)) := by
  obtain ⟨k, rfl⟩ : ∃ m, k = m + 1 := ⟨k - 1, by omega⟩
  have hj : record_onPage.j0 (k + 1) either true a0 a1 a2 page op args imgs a7 di ac = some false := by rw [record_onPage.j0, if_pos rfl]
  unfold record_onPage.f
  by_cases h1 : page < 0
  · rw [if_pos h1, hj, decide_eq_false]; exact fun h => absurd h.1.1 (by omega)
  by_cases h2 : page ≥ 1024
  · rw [if_neg h1, if_pos h2, hj, decide_eq_false]; exact fun h => absurd h.1.2.1 (by omega)
  by_cases h3 : op < 0
  · rw [if_neg h1, if_neg h2, if_pos h3, hj, decide_eq_false]; exact fun h => absurd h.1.2.2.1 (by omega)
  by_cases h4 : op > 16
  · rw [if_neg h1, if_neg h2, if_neg h3, if_pos h4, hj, decide_eq_false]; exact fun h => absurd h.1.2.2.2.1 (by omega)
  by_cases h5 : (args.length : Int) > 8
  · rw [if_neg h1, if_neg h2, if_neg h3, if_neg h4, if_pos h5, hj, decide_eq_false]; exact fun h => absurd h.1.2.2.2.2.1 (by omega)
  rw [if_neg h1, if_neg h2, if_neg h3, if_neg h4, if_neg h5, images_f imgs hl (k + 1) hk, Option.bind_some]
  by_cases h6 : ImgOk imgs
  · have hb : 0 ≤ page ∧ page < 1024 ∧ 0 ≤ op ∧ op ≤ 16 ∧ args.length ≤ 8 ∧ ImgOk imgs := ⟨by omega, by omega, by omega, by omega, by omega, h6⟩
    rw [record_onPage.j0, decide_eq_true h6, if_neg (by simp)]
    unfold OnPage
    simp only [hb, true_and]
    cases either with
    | false => simp
    | true =>
      simp only [if_true]
      by_cases o1 : op > 0
      · rw [if_pos o1]
        by_cases o2 : (imgs.length : Int) = 0
        · rw [if_pos o2, decide_eq_true]; exact .inl ⟨o1, by omega⟩
        · rw [if_neg o2, if_neg (by omega), decide_eq_false]; omega
      · rw [if_neg o1]
        by_cases o3 : op = 0
        · rw [if_pos o3]
          by_cases o4 : args.length = 0
          · rw [decide_eq_true (p := _ ∨ _) (.inr ⟨o3, o4⟩)]; simp [o4]
          · rw [decide_eq_false (p := _ ∨ _) (by omega)]; simp; intro h; exact o4 (by simp [h])
        · rw [if_neg o3, decide_eq_false]; omega
  · rw [record_onPage.j0, decide_eq_false h6, if_pos (by simp), decide_eq_false]
    exact fun h => h6 h.1.2.2.2.2.2
theorem same_f (a0 a1 a2 a3 a4 : Int) (a5 : List Int) (a6 : List S52) (a7 : Int) (a8 : List S54) (a9 : List S56) (b0 b1 b2 b3 b4 : Int) (b5 : List Int) (b6 : List S52) (b7 : Int) (b8 : List S54) (b9 : List S56)
    (h5 : a5.length ≤ 9223372036854775807) (h6 : a6.length ≤ 9223372036854775807) (h8 : a8.length ≤ 9223372036854775807) (h9 : a9.length ≤ 9223372036854775807)
    (k : Nat) (k5 : a5.length < k) (k6 : a6.length < k) (k8 : a8.length < k) (k9 : a9.length < k) :
    record_Same.f k a0 a1 a2 a3 a4 a5 a6 a7 a8 a9 b0 b1 b2 b3 b4 b5 b6 b7 b8 b9 = some (decide (a0 = b0 ∧ a1 = b1 ∧ a2 = b2 ∧ a3 = b3 ∧ a4 = b4 ∧ a5 = b5 ∧ a6 = b6 ∧ a7 = b7 ∧ a8 = b8 ∧ a9 = b9)) := by
  unfold record_Same.f
  rw [slices_Equal_int_int_f a5 b5 h5 k k5, api_Image_32_f a6 b6 h6 k k6, api_Dirty_33_f a8 b8 h8 k k8, api_Active_34_f a9 b9 h9 k k9]
  simp only [Option.bind_some]
  by_cases c0 : a0 = b0
  · by_cases c1 : a1 = b1
    · by_cases c2 : a2 = b2
      · by_cases c3 : a3 = b3
        · by_cases c4 : a4 = b4
          · by_cases c7 : a7 = b7
            · by_cases c5 : a5 = b5
              · by_cases c6 : a6 = b6
                · by_cases c8 : a8 = b8
                  · simp [c0, c1, c2, c3, c4, c5, c6, c7, c8]
                  · simp [c8]
                · simp [c6]
              · simp [c5]
            · simp [c7]
          · simp [c4]
        · simp [c3]
      · simp [c2]
    · simp [c1]
  · simp [c0]
end Go.Proofs.Ytcplblpmgajmnaa.A
namespace Go.Proofs.Ytcplblpmgajmnaa.A
open Go.RowKit Go.Proofs.YtcplblpmgajmnaaW.PrintWords Go.Proofs.YtcplblpmgajmnaaW.PrintLast Go.Proofs.YtcplblpmgajmnaaW.PrintMore
set_option linter.unusedVariables false
set_option linter.unusedSimpArgs false
set_option maxHeartbeats 4000000 in
set_option maxRecDepth 100000 in
theorem said_1 (a0_1 : Int) (a0_2 : Int) (a0_3 : Int) (a0_4 : Int) (A0_5 : Option Addr) (c0_5 : Nat) (l0_5 : List Int) (A0_6 : Option Addr) (c0_6 : Nat) (l0_6 : List (S52)) (a0_7 : Int) (A0_8 : Option Addr) (c0_8 : Nat) (l0_8 : List (S54)) (A0_9 : Option Addr) (c0_9 : Nat) (l0_9 : List (S56)) (w : World)
    (hr0_5 : Kd.C (Kd.int .i64) w A0_5 l0_5.length l0_5) (hc0_5 : l0_5.length ≤ c0_5) (hr0_6 : Kd.C k52 w A0_6 l0_6.length l0_6) (hc0_6 : l0_6.length ≤ c0_6) (hr0_8 : Kd.C k54 w A0_8 l0_8.length l0_8) (hc0_8 : l0_8.length ≤ c0_8) (hr0_9 : Kd.C k56 w A0_9 l0_9.length l0_9) (hc0_9 : l0_9.length ≤ c0_9)
    (b : Bool) (hb : decide (1 ≤ a0_1 ∧ 0 ≤ a0_2 ∧ OnPage a0_3 a0_4 l0_5 l0_6 false) = b) :
    Calls Try.prog 35 #[.agg #[.int .i64 1, .int .i64 a0_1, .int .i64 a0_2, .int .i64 a0_3, .int .i64 a0_4, .slice A0_5 l0_5.length c0_5, .slice A0_6 l0_6.length c0_6, .int .i64 a0_7, .slice A0_8 l0_8.length c0_8, .slice A0_9 l0_9.length c0_9]] w fun e w' => e = .returned (.tuple #[.agg #[.int .i64 1, .int .i64 a0_1, .int .i64 a0_2, .int .i64 a0_3, .int .i64 a0_4, .slice A0_5 l0_5.length c0_5, .slice A0_6 l0_6.length c0_6, .int .i64 0, .slice none 0 0, .slice none 0 0], .bool b]) ∧ Below w.heap.size w w' := by
  have hu30 := Try.underlying30
  have HR5 := Aside0.mk hr0_5
  have HR6 := Aside0.mk hr0_6
  have HR8 := Aside0.mk hr0_8
  have HR9 := Aside0.mk hr0_9
  have Hon := Aside0.mk (onPage_f 1 a0_1 a0_2 a0_3 a0_4 l0_5 l0_6 a0_7 l0_8 l0_9 false (Kd.C_max hr0_6) (l0_6.length + 1) (by omega))
  clear hr0_5 hr0_6 hr0_8 hr0_9
  have Hb := Aside0.mk hb
  clear hb
  go_enter Try.func35, Try.ntmps35
  go_wp2
  go_region
  go_upto_region 23 with (fail)
  go_cut [10] (fun v10 wc => ∃ g0 : Bool, v10 = .bool g0 ∧ Hid (g0 = decide (1 ≤ a0_1 ∧ 0 ≤ a0_2)) ∧ wc.heap[w.heap.size]? = some (.cells #[.int .i64 1, .int .i64 a0_1, .int .i64 a0_2, .int .i64 a0_3, .int .i64 a0_4, .slice A0_5 l0_5.length c0_5, .slice A0_6 l0_6.length c0_6, .int .i64 a0_7, .slice A0_8 l0_8.length c0_8, .slice A0_9 l0_9.length c0_9] 30 (0, 0)) ∧ wc.heap[w.heap.size + 1]? = some (.cells #[.int .i64 0, .int .i64 0, .int .i64 0, .int .i64 0, .int .i64 0, .slice none 0 0, .slice none 0 0, .int .i64 0, .slice none 0 0, .slice none 0 0] 30 (0, 0)) ∧ wc.heap[w.heap.size + 1 + 1]? = some (.cells #[.int .i64 1, .int .i64 a0_1, .int .i64 a0_2, .int .i64 0, .int .i64 0, .slice none 0 0, .slice none 0 0, .int .i64 0, .slice none 0 0, .slice none 0 0] 30 (0, 0)) ∧ Below w.heap.size w wc)
  case first =>
    by_cases h1 : 1 ≤ a0_1
    · by_cases h2 : 0 ≤ a0_2
      · go_wp2
        go_meet
        case rel => exact ⟨_, rfl, Lib.hid (decide_eq_true ⟨h1, h2⟩).symm, three_of _ rfl⟩
      · go_wp2
        go_meet
        case rel => exact ⟨_, rfl, Lib.hid (decide_eq_false fun h => by omega).symm, three_of _ rfl⟩
    · go_wp2
      go_meet
      case rel => exact ⟨_, rfl, Lib.hid (decide_eq_false fun h => by omega).symm, three_of _ rfl⟩
  case rest =>
    obtain ⟨g0, rfl, Hg, BK1, BK2, BK4, HB⟩ := hcut
    obtain ⟨d_0, d_1, d_2, d_3, d_4, d_5, d_6, d_7, d_8, d_9⟩ := ten_cells BK1
    obtain ⟨e_0, e_1, e_2, e_3, e_4, e_5, e_6, e_7, e_8, e_9⟩ := ten_cells BK4
    have hfr := ten_free BK4
    replace BK1 := Lib.hid BK1
    replace BK2 := Lib.hid BK2
    replace BK4 := Lib.hid BK4
    replace HB := Lib.hid HB
    go_wp2
    go_upto_region 25 with (fail)
    go_cut [3] (fun v3 wc => v3 = .bool false ∧ wc.heap[w.heap.size]? = some (.cells #[.int .i64 1, .int .i64 a0_1, .int .i64 a0_2, .int .i64 a0_3, .int .i64 a0_4, .slice A0_5 l0_5.length c0_5, .slice A0_6 l0_6.length c0_6, .int .i64 a0_7, .slice A0_8 l0_8.length c0_8, .slice A0_9 l0_9.length c0_9] 30 (0, 0)) ∧ wc.heap[w.heap.size + 1]? = some (.cells #[.int .i64 0, .int .i64 0, .int .i64 0, .int .i64 0, .int .i64 0, .slice none 0 0, .slice none 0 0, .int .i64 0, .slice none 0 0, .slice none 0 0] 30 (0, 0)) ∧ wc.heap[w.heap.size + 1 + 1]? = some (.cells #[.int .i64 1, .int .i64 a0_1, .int .i64 a0_2, .int .i64 a0_3, .int .i64 a0_4, .slice A0_5 l0_5.length c0_5, .slice A0_6 l0_6.length c0_6, .int .i64 0, .slice none 0 0, .slice none 0 0] 30 (0, 0)) ∧ Below w.heap.size w wc)
    case first =>
      go_region
      go_wp2
      go_meet
      have s0 := blk_put (cs' := #[.int .i64 1, .int .i64 a0_1, .int .i64 a0_2, .int .i64 a0_3, .int .i64 0, .slice none 0 0, .slice none 0 0, .int .i64 0, .slice none 0 0, .slice none 0 0]) BK4.out 3 (.int .i64 a0_3) rfl
      have s1 := blk_put (cs' := #[.int .i64 1, .int .i64 a0_1, .int .i64 a0_2, .int .i64 a0_3, .int .i64 a0_4, .slice none 0 0, .slice none 0 0, .int .i64 0, .slice none 0 0, .slice none 0 0]) s0 4 (.int .i64 a0_4) rfl
      have s2 := blk_put (cs' := #[.int .i64 1, .int .i64 a0_1, .int .i64 a0_2, .int .i64 a0_3, .int .i64 a0_4, .slice A0_5 l0_5.length c0_5, .slice none 0 0, .int .i64 0, .slice none 0 0, .slice none 0 0]) s1 5 (.slice A0_5 l0_5.length c0_5) rfl
      have s3 := blk_put (cs' := #[.int .i64 1, .int .i64 a0_1, .int .i64 a0_2, .int .i64 a0_3, .int .i64 a0_4, .slice A0_5 l0_5.length c0_5, .slice A0_6 l0_6.length c0_6, .int .i64 0, .slice none 0 0, .slice none 0 0]) s2 6 (.slice A0_6 l0_6.length c0_6) rfl
      case rel => exact ⟨rfl, by (with_reducible repeat (first | refine blk_drew ?_ | refine blk_far ?_ (by dsimp only; omega) _)); exact BK1.out, by (with_reducible repeat (first | refine blk_drew ?_ | refine blk_far ?_ (by dsimp only; omega) _)); exact BK2.out, by (with_reducible repeat (refine blk_drew ?_)); exact s3, by (with_reducible repeat (first | refine below_drew1 ?_ | refine below_set ?_ (by omega))); exact HB.out⟩
    case rest =>
      clear BK1 BK2 BK4 HB
      clear d_0 d_1 d_2 d_3 d_4 d_5 d_6 d_7 d_8 d_9 e_0 e_1 e_2 e_3 e_4 e_5 e_6 e_7 e_8 e_9 hfr
      obtain ⟨rfl, BK1, BK2, BK4, HB⟩ := hcut
      obtain ⟨d_0, d_1, d_2, d_3, d_4, d_5, d_6, d_7, d_8, d_9⟩ := ten_cells BK1
      obtain ⟨e_0, e_1, e_2, e_3, e_4, e_5, e_6, e_7, e_8, e_9⟩ := ten_cells BK4
      have hfr := ten_free BK4
      replace BK1 := Lib.hid BK1
      replace BK2 := Lib.hid BK2
      replace BK4 := Lib.hid BK4
      replace HB := Lib.hid HB
      have hg := Hg.out
      cases g0 with
      | true =>
        have hg' : 1 ≤ a0_1 ∧ 0 ≤ a0_2 := of_decide_eq_true hg.symm
        obtain rfl : decide (OnPage a0_3 a0_4 l0_5 l0_6 false) = b := by rw [← Hb.out]; simp [hg'.1, hg'.2]
        clear Hb Hg hg hg'
        go_wp2_with fail
        refine (record_onPage.calls (l0_6.length + 1) 1 a0_1 a0_2 a0_3 a0_4 _ _ l0_5 _ _ l0_6 a0_7 _ _ l0_8 _ _ l0_9 false _ _ (Kd.C_below HR5.out HB.out) hc0_5 (Kd.C_below HR6.out HB.out) hc0_6 (Kd.C_below HR8.out HB.out) hc0_8 (Kd.C_below HR9.out HB.out) hc0_9 Hon.out).mono ?_
        rintro e w1 ⟨rfl, hb⟩
        have BK2 := blk_below BK2.out hb
        have BK4 := blk_below BK4.out hb
        have HB := below_then HB.out (Nat.le_trans (Nat.le_of_lt (blk_lt BK1.out)) (Nat.le_refl _)) hb
        clear hb
        obtain ⟨x_0, x_1, x_2, x_3, x_4, x_5, x_6, x_7, x_8, x_9⟩ := ten_cells BK2
        obtain ⟨y_0, y_1, y_2, y_3, y_4, y_5, y_6, y_7, y_8, y_9⟩ := ten_cells BK4
        have hfx := ten_free BK2
        replace BK2 := Lib.hid BK2
        replace BK4 := Lib.hid BK4
        replace HB := Lib.hid HB
        go_wp2
        refine bodyPost_ret (results_ct rfl _ _ (w.heap.size + 1) 30 #[.int .i64 1, .int .i64 a0_1, .int .i64 a0_2, .int .i64 a0_3, .int .i64 a0_4, .slice A0_5 l0_5.length c0_5, .slice A0_6 l0_6.length c0_6, .int .i64 0, .slice none 0 0, .slice none 0 0] (0, 0) _ rfl (by with_reducible exact blk_put10 BK2.out _ _ _ _ _ _ _ _ _ _) Try.underlying30 rfl (by kernel_rfl)) rfl ⟨rfl, by (with_reducible repeat (refine below_set ?_ (by omega))); exact HB.out⟩
      | false =>
        have hg' : ¬ (1 ≤ a0_1 ∧ 0 ≤ a0_2) := of_decide_eq_false hg.symm
        obtain rfl : false = b := by rw [← Hb.out, decide_eq_false]; exact fun h => hg' ⟨h.1, h.2.1⟩
        clear Hb Hg hg hg'
        obtain ⟨x_0, x_1, x_2, x_3, x_4, x_5, x_6, x_7, x_8, x_9⟩ := ten_cells BK2.out
        have hfx := ten_free BK2.out
        go_wp2
        refine bodyPost_ret (results_ct rfl _ _ (w.heap.size + 1) 30 #[.int .i64 1, .int .i64 a0_1, .int .i64 a0_2, .int .i64 a0_3, .int .i64 a0_4, .slice A0_5 l0_5.length c0_5, .slice A0_6 l0_6.length c0_6, .int .i64 0, .slice none 0 0, .slice none 0 0] (0, 0) _ rfl (by with_reducible exact blk_put10 BK2.out _ _ _ _ _ _ _ _ _ _) Try.underlying30 rfl (by kernel_rfl)) rfl ⟨rfl, by (with_reducible repeat (refine below_set ?_ (by omega))); exact HB.out⟩
end Go.Proofs.Ytcplblpmgajmnaa.A
namespace Go.Proofs.Ytcplblpmgajmnaa.A
open Go.RowKit Go.Proofs.YtcplblpmgajmnaaW.PrintWords Go.Proofs.YtcplblpmgajmnaaW.PrintLast Go.Proofs.YtcplblpmgajmnaaW.PrintMore
set_option linter.unusedVariables false
set_option linter.unusedSimpArgs false
set_option maxHeartbeats 4000000 in
set_option maxRecDepth 100000 in
theorem said_2 (a0_1 : Int) (a0_2 : Int) (a0_3 : Int) (a0_4 : Int) (A0_5 : Option Addr) (c0_5 : Nat) (l0_5 : List Int) (A0_6 : Option Addr) (c0_6 : Nat) (l0_6 : List (S52)) (a0_7 : Int) (A0_8 : Option Addr) (c0_8 : Nat) (l0_8 : List (S54)) (A0_9 : Option Addr) (c0_9 : Nat) (l0_9 : List (S56)) (w : World)
    (hr0_5 : Kd.C (Kd.int .i64) w A0_5 l0_5.length l0_5) (hc0_5 : l0_5.length ≤ c0_5) (hr0_6 : Kd.C k52 w A0_6 l0_6.length l0_6) (hc0_6 : l0_6.length ≤ c0_6) (hr0_8 : Kd.C k54 w A0_8 l0_8.length l0_8) (hc0_8 : l0_8.length ≤ c0_8) (hr0_9 : Kd.C k56 w A0_9 l0_9.length l0_9) (hc0_9 : l0_9.length ≤ c0_9)
    (b : Bool) (hb : decide (1 ≤ a0_1 ∧ 0 ≤ a0_2 ∧ 0 ≤ a0_7 ∧ ((a0_3 = -1 ∧ a0_4 = 0 ∧ l0_5.length = 0 ∧ l0_6.length = 0) ∨ OnPage a0_3 a0_4 l0_5 l0_6 true)) = b) :
    Calls Try.prog 35 #[.agg #[.int .i64 2, .int .i64 a0_1, .int .i64 a0_2, .int .i64 a0_3, .int .i64 a0_4, .slice A0_5 l0_5.length c0_5, .slice A0_6 l0_6.length c0_6, .int .i64 a0_7, .slice A0_8 l0_8.length c0_8, .slice A0_9 l0_9.length c0_9]] w fun e w' => e = .returned (.tuple #[.agg #[.int .i64 2, .int .i64 a0_1, .int .i64 a0_2, .int .i64 a0_3, .int .i64 a0_4, .slice A0_5 l0_5.length c0_5, .slice A0_6 l0_6.length c0_6, .int .i64 a0_7, .slice none 0 0, .slice none 0 0], .bool b]) ∧ Below w.heap.size w w' := by
  have hu30 := Try.underlying30
  have HR5 := Aside0.mk hr0_5
  have HR6 := Aside0.mk hr0_6
  have HR8 := Aside0.mk hr0_8
  have HR9 := Aside0.mk hr0_9
  have Hon := Aside0.mk (onPage_f 2 a0_1 a0_2 a0_3 a0_4 l0_5 l0_6 a0_7 l0_8 l0_9 true (Kd.C_max hr0_6) (l0_6.length + 1) (by omega))
  have m5 := Kd.C_max hr0_5
  have m6 := Kd.C_max hr0_6
  clear hr0_5 hr0_6 hr0_8 hr0_9
  have Hb := Aside0.mk hb
  clear hb
  go_enter Try.func35, Try.ntmps35
  go_wp2
  go_region
  go_upto_region 23 with (fail)
  go_cut [10] (fun v10 wc => ∃ g0 : Bool, v10 = .bool g0 ∧ Hid (g0 = decide (1 ≤ a0_1 ∧ 0 ≤ a0_2)) ∧ wc.heap[w.heap.size]? = some (.cells #[.int .i64 2, .int .i64 a0_1, .int .i64 a0_2, .int .i64 a0_3, .int .i64 a0_4, .slice A0_5 l0_5.length c0_5, .slice A0_6 l0_6.length c0_6, .int .i64 a0_7, .slice A0_8 l0_8.length c0_8, .slice A0_9 l0_9.length c0_9] 30 (0, 0)) ∧ wc.heap[w.heap.size + 1]? = some (.cells #[.int .i64 0, .int .i64 0, .int .i64 0, .int .i64 0, .int .i64 0, .slice none 0 0, .slice none 0 0, .int .i64 0, .slice none 0 0, .slice none 0 0] 30 (0, 0)) ∧ wc.heap[w.heap.size + 1 + 1]? = some (.cells #[.int .i64 2, .int .i64 a0_1, .int .i64 a0_2, .int .i64 0, .int .i64 0, .slice none 0 0, .slice none 0 0, .int .i64 0, .slice none 0 0, .slice none 0 0] 30 (0, 0)) ∧ Below w.heap.size w wc)
  case first =>
    by_cases h1 : 1 ≤ a0_1
    · by_cases h2 : 0 ≤ a0_2
      · go_wp2
        go_meet
        case rel => exact ⟨_, rfl, Lib.hid (decide_eq_true ⟨h1, h2⟩).symm, three_of _ rfl⟩
      · go_wp2
        go_meet
        case rel => exact ⟨_, rfl, Lib.hid (decide_eq_false fun h => by omega).symm, three_of _ rfl⟩
    · go_wp2
      go_meet
      case rel => exact ⟨_, rfl, Lib.hid (decide_eq_false fun h => by omega).symm, three_of _ rfl⟩
  case rest =>
    obtain ⟨g0, rfl, Hg, BK1, BK2, BK4, HB⟩ := hcut
    obtain ⟨d_0, d_1, d_2, d_3, d_4, d_5, d_6, d_7, d_8, d_9⟩ := ten_cells BK1
    obtain ⟨e_0, e_1, e_2, e_3, e_4, e_5, e_6, e_7, e_8, e_9⟩ := ten_cells BK4
    have hfr := ten_free BK4
    replace BK1 := Lib.hid BK1
    replace BK2 := Lib.hid BK2
    replace BK4 := Lib.hid BK4
    replace HB := Lib.hid HB
    go_wp2
    go_upto_region 25 with (fail)
    go_cut [3] (fun v3 wc => v3 = .bool false ∧ wc.heap[w.heap.size]? = some (.cells #[.int .i64 2, .int .i64 a0_1, .int .i64 a0_2, .int .i64 a0_3, .int .i64 a0_4, .slice A0_5 l0_5.length c0_5, .slice A0_6 l0_6.length c0_6, .int .i64 a0_7, .slice A0_8 l0_8.length c0_8, .slice A0_9 l0_9.length c0_9] 30 (0, 0)) ∧ wc.heap[w.heap.size + 1]? = some (.cells #[.int .i64 0, .int .i64 0, .int .i64 0, .int .i64 0, .int .i64 0, .slice none 0 0, .slice none 0 0, .int .i64 0, .slice none 0 0, .slice none 0 0] 30 (0, 0)) ∧ wc.heap[w.heap.size + 1 + 1]? = some (.cells #[.int .i64 2, .int .i64 a0_1, .int .i64 a0_2, .int .i64 a0_3, .int .i64 a0_4, .slice A0_5 l0_5.length c0_5, .slice A0_6 l0_6.length c0_6, .int .i64 0, .slice none 0 0, .slice none 0 0] 30 (0, 0)) ∧ Below w.heap.size w wc)
    case first =>
      go_region
      go_wp2
      go_meet
      have s0 := blk_put (cs' := #[.int .i64 2, .int .i64 a0_1, .int .i64 a0_2, .int .i64 a0_3, .int .i64 0, .slice none 0 0, .slice none 0 0, .int .i64 0, .slice none 0 0, .slice none 0 0]) BK4.out 3 (.int .i64 a0_3) rfl
      have s1 := blk_put (cs' := #[.int .i64 2, .int .i64 a0_1, .int .i64 a0_2, .int .i64 a0_3, .int .i64 a0_4, .slice none 0 0, .slice none 0 0, .int .i64 0, .slice none 0 0, .slice none 0 0]) s0 4 (.int .i64 a0_4) rfl
      have s2 := blk_put (cs' := #[.int .i64 2, .int .i64 a0_1, .int .i64 a0_2, .int .i64 a0_3, .int .i64 a0_4, .slice A0_5 l0_5.length c0_5, .slice none 0 0, .int .i64 0, .slice none 0 0, .slice none 0 0]) s1 5 (.slice A0_5 l0_5.length c0_5) rfl
      have s3 := blk_put (cs' := #[.int .i64 2, .int .i64 a0_1, .int .i64 a0_2, .int .i64 a0_3, .int .i64 a0_4, .slice A0_5 l0_5.length c0_5, .slice A0_6 l0_6.length c0_6, .int .i64 0, .slice none 0 0, .slice none 0 0]) s2 6 (.slice A0_6 l0_6.length c0_6) rfl
      case rel => exact ⟨rfl, by (with_reducible repeat (first | refine blk_drew ?_ | refine blk_far ?_ (by dsimp only; omega) _)); exact BK1.out, by (with_reducible repeat (first | refine blk_drew ?_ | refine blk_far ?_ (by dsimp only; omega) _)); exact BK2.out, by (with_reducible repeat (refine blk_drew ?_)); exact s3, by (with_reducible repeat (first | refine below_drew1 ?_ | refine below_set ?_ (by omega))); exact HB.out⟩
    case rest =>
      clear BK1 BK2 BK4 HB
      clear d_0 d_1 d_2 d_3 d_4 d_5 d_6 d_7 d_8 d_9 e_0 e_1 e_2 e_3 e_4 e_5 e_6 e_7 e_8 e_9 hfr
      obtain ⟨rfl, BK1, BK2, BK4, HB⟩ := hcut
      obtain ⟨d_0, d_1, d_2, d_3, d_4, d_5, d_6, d_7, d_8, d_9⟩ := ten_cells BK1
      obtain ⟨e_0, e_1, e_2, e_3, e_4, e_5, e_6, e_7, e_8, e_9⟩ := ten_cells BK4
      have hfr := ten_free BK4
      replace BK1 := Lib.hid BK1
      replace BK2 := Lib.hid BK2
      replace BK4 := Lib.hid BK4
      replace HB := Lib.hid HB
      go_upto_region 30 with (fail)
      go_cut [3] (fun v3 wc => v3 = .bool false ∧ wc.heap[w.heap.size]? = some (.cells #[.int .i64 2, .int .i64 a0_1, .int .i64 a0_2, .int .i64 a0_3, .int .i64 a0_4, .slice A0_5 l0_5.length c0_5, .slice A0_6 l0_6.length c0_6, .int .i64 a0_7, .slice A0_8 l0_8.length c0_8, .slice A0_9 l0_9.length c0_9] 30 (0, 0)) ∧ wc.heap[w.heap.size + 1]? = some (.cells #[.int .i64 0, .int .i64 0, .int .i64 0, .int .i64 0, .int .i64 0, .slice none 0 0, .slice none 0 0, .int .i64 0, .slice none 0 0, .slice none 0 0] 30 (0, 0)) ∧ wc.heap[w.heap.size + 1 + 1]? = some (.cells #[.int .i64 2, .int .i64 a0_1, .int .i64 a0_2, .int .i64 a0_3, .int .i64 a0_4, .slice A0_5 l0_5.length c0_5, .slice A0_6 l0_6.length c0_6, .int .i64 a0_7, .slice none 0 0, .slice none 0 0] 30 (0, 0)) ∧ Below w.heap.size w wc)
      case first =>
        skip
        go_wp2
        go_meet
        have s0 := blk_put (cs' := #[.int .i64 2, .int .i64 a0_1, .int .i64 a0_2, .int .i64 a0_3, .int .i64 a0_4, .slice A0_5 l0_5.length c0_5, .slice A0_6 l0_6.length c0_6, .int .i64 a0_7, .slice none 0 0, .slice none 0 0]) BK4.out 7 (.int .i64 a0_7) rfl
        case rel => exact ⟨rfl, by (with_reducible repeat (first | refine blk_drew ?_ | refine blk_far ?_ (by dsimp only; omega) _)); exact BK1.out, by (with_reducible repeat (first | refine blk_drew ?_ | refine blk_far ?_ (by dsimp only; omega) _)); exact BK2.out, by (with_reducible repeat (refine blk_drew ?_)); exact s0, by (with_reducible repeat (first | refine below_drew1 ?_ | refine below_set ?_ (by omega))); exact HB.out⟩
      case rest =>
        clear BK1 BK2 BK4 HB
        clear d_0 d_1 d_2 d_3 d_4 d_5 d_6 d_7 d_8 d_9 e_0 e_1 e_2 e_3 e_4 e_5 e_6 e_7 e_8 e_9 hfr
        obtain ⟨rfl, BK1, BK2, BK4, HB⟩ := hcut
        obtain ⟨d_0, d_1, d_2, d_3, d_4, d_5, d_6, d_7, d_8, d_9⟩ := ten_cells BK1
        obtain ⟨e_0, e_1, e_2, e_3, e_4, e_5, e_6, e_7, e_8, e_9⟩ := ten_cells BK4
        have hfr := ten_free BK4
        replace BK1 := Lib.hid BK1
        replace BK2 := Lib.hid BK2
        replace BK4 := Lib.hid BK4
        replace HB := Lib.hid HB
        go_upto_region 31 with (fail)
        go_cut [11] (fun v11 wb => ∃ n : Bool, v11 = .bool n ∧ Hid (n = decide (a0_3 = -1 ∧ a0_4 = 0 ∧ l0_5.length = 0 ∧ l0_6.length = 0)) ∧ wb = wc)
        case first =>
          by_cases p1 : a0_3 = -1
          · have q1 : (a0_3 == -1) = true := beq_iff_eq.2 p1
            have P1 := Lib.hid p1
            clear p1
            by_cases p2 : a0_4 = 0
            · have q2 : (a0_4 == 0) = true := beq_iff_eq.2 p2
              have P2 := Lib.hid p2
              clear p2
              by_cases p3 : (l0_5.length : Int) = 0
              · have q3 : ((l0_5.length : Int) == 0) = true := beq_iff_eq.2 p3
                have P3 := Lib.hid p3
                clear p3
                by_cases p4 : (l0_6.length : Int) = 0
                · have q4 : ((l0_6.length : Int) == 0) = true := beq_iff_eq.2 p4
                  have P4 := Lib.hid p4
                  clear p4
                  go_wp2
                  go_meet
                  case rel => exact ⟨_, rfl, Lib.hid (by have z1 := P1.out; have z2 := P2.out; have z3 := P3.out; have z4 := P4.out; exact (decide_eq_true (by omega)).symm), rfl⟩
                · have q4 : ((l0_6.length : Int) == 0) = false := beq_eq_false_iff_ne.2 p4
                  have P4 := Lib.hid p4
                  clear p4
                  go_wp2
                  go_meet
                  case rel => exact ⟨_, rfl, Lib.hid (by have z := P4.out; exact (decide_eq_false (by omega)).symm), rfl⟩
              · have q3 : ((l0_5.length : Int) == 0) = false := beq_eq_false_iff_ne.2 p3
                have P3 := Lib.hid p3
                clear p3
                go_wp2
                go_meet
                case rel => exact ⟨_, rfl, Lib.hid (by have z := P3.out; exact (decide_eq_false (by omega)).symm), rfl⟩
            · have q2 : (a0_4 == 0) = false := beq_eq_false_iff_ne.2 p2
              have P2 := Lib.hid p2
              clear p2
              go_wp2
              go_meet
              case rel => exact ⟨_, rfl, Lib.hid (by have z := P2.out; exact (decide_eq_false (by omega)).symm), rfl⟩
          · have q1 : (a0_3 == -1) = false := beq_eq_false_iff_ne.2 p1
            have P1 := Lib.hid p1
            clear p1
            go_wp2
            go_meet
            case rel => exact ⟨_, rfl, Lib.hid (by have z := P1.out; exact (decide_eq_false (by omega)).symm), rfl⟩
        case rest =>
          obtain ⟨n, rfl, Hn, rfl⟩ := hcut
          have hg := Hg.out
          have hn := Hn.out
          by_cases h7 : 0 ≤ a0_7
          · cases g0 with
            | true =>
              have hg' : 1 ≤ a0_1 ∧ 0 ≤ a0_2 := of_decide_eq_true hg.symm
              cases n with
              | true =>
                have hn' : (a0_3 = -1 ∧ a0_4 = 0 ∧ l0_5.length = 0 ∧ l0_6.length = 0) := of_decide_eq_true hn.symm
                obtain rfl : true = b := by rw [← Hb.out]; exact (decide_eq_true ⟨hg'.1, hg'.2, h7, .inl hn'⟩).symm
                clear Hb Hg hg hg' Hn hn hn'
                obtain ⟨x_0, x_1, x_2, x_3, x_4, x_5, x_6, x_7, x_8, x_9⟩ := ten_cells BK2.out
                have hfx := ten_free BK2.out
                go_wp2
                refine bodyPost_ret (results_ct rfl _ _ (w.heap.size + 1) 30 #[.int .i64 2, .int .i64 a0_1, .int .i64 a0_2, .int .i64 a0_3, .int .i64 a0_4, .slice A0_5 l0_5.length c0_5, .slice A0_6 l0_6.length c0_6, .int .i64 a0_7, .slice none 0 0, .slice none 0 0] (0, 0) _ rfl (by with_reducible exact blk_put10 BK2.out _ _ _ _ _ _ _ _ _ _) Try.underlying30 rfl (by kernel_rfl)) rfl ⟨rfl, by (with_reducible repeat (refine below_set ?_ (by omega))); exact HB.out⟩
              | false =>
                have hn' : ¬ (a0_3 = -1 ∧ a0_4 = 0 ∧ l0_5.length = 0 ∧ l0_6.length = 0) := of_decide_eq_false hn.symm
                obtain rfl : decide (OnPage a0_3 a0_4 l0_5 l0_6 true) = b := by rw [← Hb.out]; exact decide_eq_decide.2 ⟨fun h => ⟨hg'.1, hg'.2, h7, .inr h⟩, fun h => h.2.2.2.resolve_left hn'⟩
                clear Hb Hg hg hg' Hn hn hn'
                go_wp2_with fail
                refine (record_onPage.calls (l0_6.length + 1) 2 a0_1 a0_2 a0_3 a0_4 _ _ l0_5 _ _ l0_6 a0_7 _ _ l0_8 _ _ l0_9 true _ _ (Kd.C_below HR5.out HB.out) hc0_5 (Kd.C_below HR6.out HB.out) hc0_6 (Kd.C_below HR8.out HB.out) hc0_8 (Kd.C_below HR9.out HB.out) hc0_9 Hon.out).mono ?_
                rintro e w1 ⟨rfl, hb⟩
                have BK2 := blk_below BK2.out hb
                have BK4 := blk_below BK4.out hb
                have HB := below_then HB.out (Nat.le_trans (Nat.le_of_lt (blk_lt BK1.out)) (Nat.le_refl _)) hb
                clear hb
                obtain ⟨x_0, x_1, x_2, x_3, x_4, x_5, x_6, x_7, x_8, x_9⟩ := ten_cells BK2
                obtain ⟨y_0, y_1, y_2, y_3, y_4, y_5, y_6, y_7, y_8, y_9⟩ := ten_cells BK4
                have hfx := ten_free BK2
                replace BK2 := Lib.hid BK2
                replace BK4 := Lib.hid BK4
                replace HB := Lib.hid HB
                go_wp2
                refine bodyPost_ret (results_ct rfl _ _ (w.heap.size + 1) 30 #[.int .i64 2, .int .i64 a0_1, .int .i64 a0_2, .int .i64 a0_3, .int .i64 a0_4, .slice A0_5 l0_5.length c0_5, .slice A0_6 l0_6.length c0_6, .int .i64 a0_7, .slice none 0 0, .slice none 0 0] (0, 0) _ rfl (by with_reducible exact blk_put10 BK2.out _ _ _ _ _ _ _ _ _ _) Try.underlying30 rfl (by kernel_rfl)) rfl ⟨rfl, by (with_reducible repeat (refine below_set ?_ (by omega))); exact HB.out⟩
            | false =>
              have hg' : ¬ (1 ≤ a0_1 ∧ 0 ≤ a0_2) := of_decide_eq_false hg.symm
              obtain rfl : false = b := by rw [← Hb.out, decide_eq_false]; exact fun h => hg' ⟨h.1, h.2.1⟩
              clear Hb Hg hg hg' Hn hn
              obtain ⟨x_0, x_1, x_2, x_3, x_4, x_5, x_6, x_7, x_8, x_9⟩ := ten_cells BK2.out
              have hfx := ten_free BK2.out
              go_wp2
              refine bodyPost_ret (results_ct rfl _ _ (w.heap.size + 1) 30 #[.int .i64 2, .int .i64 a0_1, .int .i64 a0_2, .int .i64 a0_3, .int .i64 a0_4, .slice A0_5 l0_5.length c0_5, .slice A0_6 l0_6.length c0_6, .int .i64 a0_7, .slice none 0 0, .slice none 0 0] (0, 0) _ rfl (by with_reducible exact blk_put10 BK2.out _ _ _ _ _ _ _ _ _ _) Try.underlying30 rfl (by kernel_rfl)) rfl ⟨rfl, by (with_reducible repeat (refine below_set ?_ (by omega))); exact HB.out⟩
          · obtain rfl : false = b := by rw [← Hb.out, decide_eq_false]; exact fun h => h7 h.2.2.1
            clear Hb Hg hg Hn hn
            cases g0 with
            | true =>
              obtain ⟨x_0, x_1, x_2, x_3, x_4, x_5, x_6, x_7, x_8, x_9⟩ := ten_cells BK2.out
              have hfx := ten_free BK2.out
              go_wp2
              refine bodyPost_ret (results_ct rfl _ _ (w.heap.size + 1) 30 #[.int .i64 2, .int .i64 a0_1, .int .i64 a0_2, .int .i64 a0_3, .int .i64 a0_4, .slice A0_5 l0_5.length c0_5, .slice A0_6 l0_6.length c0_6, .int .i64 a0_7, .slice none 0 0, .slice none 0 0] (0, 0) _ rfl (by with_reducible exact blk_put10 BK2.out _ _ _ _ _ _ _ _ _ _) Try.underlying30 rfl (by kernel_rfl)) rfl ⟨rfl, by (with_reducible repeat (refine below_set ?_ (by omega))); exact HB.out⟩
            | false =>
              obtain ⟨x_0, x_1, x_2, x_3, x_4, x_5, x_6, x_7, x_8, x_9⟩ := ten_cells BK2.out
              have hfx := ten_free BK2.out
              go_wp2
              refine bodyPost_ret (results_ct rfl _ _ (w.heap.size + 1) 30 #[.int .i64 2, .int .i64 a0_1, .int .i64 a0_2, .int .i64 a0_3, .int .i64 a0_4, .slice A0_5 l0_5.length c0_5, .slice A0_6 l0_6.length c0_6, .int .i64 a0_7, .slice none 0 0, .slice none 0 0] (0, 0) _ rfl (by with_reducible exact blk_put10 BK2.out _ _ _ _ _ _ _ _ _ _) Try.underlying30 rfl (by kernel_rfl)) rfl ⟨rfl, by (with_reducible repeat (refine below_set ?_ (by omega))); exact HB.out⟩
end Go.Proofs.Ytcplblpmgajmnaa.A
namespace Go.Proofs.Ytcplblpmgajmnaa.A
open Go.RowKit Go.Proofs.YtcplblpmgajmnaaW.PrintWords Go.Proofs.YtcplblpmgajmnaaW.PrintLast Go.Proofs.YtcplblpmgajmnaaW.PrintMore
set_option linter.unusedVariables false
set_option linter.unusedSimpArgs false
set_option maxHeartbeats 4000000 in
set_option maxRecDepth 100000 in
theorem said_3 (a0_1 : Int) (a0_2 : Int) (a0_3 : Int) (a0_4 : Int) (A0_5 : Option Addr) (c0_5 : Nat) (l0_5 : List Int) (A0_6 : Option Addr) (c0_6 : Nat) (l0_6 : List (S52)) (a0_7 : Int) (A0_8 : Option Addr) (c0_8 : Nat) (l0_8 : List (S54)) (A0_9 : Option Addr) (c0_9 : Nat) (l0_9 : List (S56)) (w : World)
    (hr0_5 : Kd.C (Kd.int .i64) w A0_5 l0_5.length l0_5) (hc0_5 : l0_5.length ≤ c0_5) (hr0_6 : Kd.C k52 w A0_6 l0_6.length l0_6) (hc0_6 : l0_6.length ≤ c0_6) (hr0_8 : Kd.C k54 w A0_8 l0_8.length l0_8) (hc0_8 : l0_8.length ≤ c0_8) (hr0_9 : Kd.C k56 w A0_9 l0_9.length l0_9) (hc0_9 : l0_9.length ≤ c0_9)
    (b : Bool) (hb : decide (1 ≤ a0_1 ∧ 0 ≤ a0_2) = b) :
    Calls Try.prog 35 #[.agg #[.int .i64 3, .int .i64 a0_1, .int .i64 a0_2, .int .i64 a0_3, .int .i64 a0_4, .slice A0_5 l0_5.length c0_5, .slice A0_6 l0_6.length c0_6, .int .i64 a0_7, .slice A0_8 l0_8.length c0_8, .slice A0_9 l0_9.length c0_9]] w fun e w' => e = .returned (.tuple #[.agg #[.int .i64 3, .int .i64 a0_1, .int .i64 a0_2, .int .i64 0, .int .i64 0, .slice none 0 0, .slice none 0 0, .int .i64 0, .slice none 0 0, .slice none 0 0], .bool b]) ∧ Below w.heap.size w w' := by
  have hu30 := Try.underlying30
  have HR5 := Aside0.mk hr0_5
  have HR6 := Aside0.mk hr0_6
  have HR8 := Aside0.mk hr0_8
  have HR9 := Aside0.mk hr0_9
  clear hr0_5 hr0_6 hr0_8 hr0_9
  have Hb := Aside0.mk hb
  clear hb
  go_enter Try.func35, Try.ntmps35
  go_wp2
  go_region
  go_upto_region 23 with (fail)
  go_cut [10] (fun v10 wc => ∃ g0 : Bool, v10 = .bool g0 ∧ Hid (g0 = decide (1 ≤ a0_1 ∧ 0 ≤ a0_2)) ∧ wc.heap[w.heap.size]? = some (.cells #[.int .i64 3, .int .i64 a0_1, .int .i64 a0_2, .int .i64 a0_3, .int .i64 a0_4, .slice A0_5 l0_5.length c0_5, .slice A0_6 l0_6.length c0_6, .int .i64 a0_7, .slice A0_8 l0_8.length c0_8, .slice A0_9 l0_9.length c0_9] 30 (0, 0)) ∧ wc.heap[w.heap.size + 1]? = some (.cells #[.int .i64 0, .int .i64 0, .int .i64 0, .int .i64 0, .int .i64 0, .slice none 0 0, .slice none 0 0, .int .i64 0, .slice none 0 0, .slice none 0 0] 30 (0, 0)) ∧ wc.heap[w.heap.size + 1 + 1]? = some (.cells #[.int .i64 3, .int .i64 a0_1, .int .i64 a0_2, .int .i64 0, .int .i64 0, .slice none 0 0, .slice none 0 0, .int .i64 0, .slice none 0 0, .slice none 0 0] 30 (0, 0)) ∧ Below w.heap.size w wc)
  case first =>
    by_cases h1 : 1 ≤ a0_1
    · by_cases h2 : 0 ≤ a0_2
      · go_wp2
        go_meet
        case rel => exact ⟨_, rfl, Lib.hid (decide_eq_true ⟨h1, h2⟩).symm, three_of _ rfl⟩
      · go_wp2
        go_meet
        case rel => exact ⟨_, rfl, Lib.hid (decide_eq_false fun h => by omega).symm, three_of _ rfl⟩
    · go_wp2
      go_meet
      case rel => exact ⟨_, rfl, Lib.hid (decide_eq_false fun h => by omega).symm, three_of _ rfl⟩
  case rest =>
    obtain ⟨g0, rfl, Hg, BK1, BK2, BK4, HB⟩ := hcut
    obtain rfl : g0 = b := Hg.out.trans Hb.out
    clear Hg Hb
    obtain ⟨d_0, d_1, d_2, d_3, d_4, d_5, d_6, d_7, d_8, d_9⟩ := ten_cells BK1
    obtain ⟨e_0, e_1, e_2, e_3, e_4, e_5, e_6, e_7, e_8, e_9⟩ := ten_cells BK4
    have hfr := ten_free BK4
    replace BK1 := Lib.hid BK1
    replace BK2 := Lib.hid BK2
    replace BK4 := Lib.hid BK4
    replace HB := Lib.hid HB
    replace BK2 := BK2
    obtain ⟨x_0, x_1, x_2, x_3, x_4, x_5, x_6, x_7, x_8, x_9⟩ := ten_cells BK2.out
    have hfx := ten_free BK2.out
    go_wp2
    refine bodyPost_ret (results_ct rfl _ _ (w.heap.size + 1) 30 #[.int .i64 3, .int .i64 a0_1, .int .i64 a0_2, .int .i64 0, .int .i64 0, .slice none 0 0, .slice none 0 0, .int .i64 0, .slice none 0 0, .slice none 0 0] (0, 0) _ rfl (by with_reducible exact blk_put10 BK2.out _ _ _ _ _ _ _ _ _ _) Try.underlying30 rfl (by kernel_rfl)) rfl ⟨rfl, by (with_reducible repeat (refine below_set ?_ (by omega))); exact HB.out⟩
set_option maxHeartbeats 4000000 in
set_option maxRecDepth 100000 in
theorem said_4 (a0_1 : Int) (a0_2 : Int) (a0_3 : Int) (a0_4 : Int) (A0_5 : Option Addr) (c0_5 : Nat) (l0_5 : List Int) (A0_6 : Option Addr) (c0_6 : Nat) (l0_6 : List (S52)) (a0_7 : Int) (A0_8 : Option Addr) (c0_8 : Nat) (l0_8 : List (S54)) (A0_9 : Option Addr) (c0_9 : Nat) (l0_9 : List (S56)) (w : World)
    (hr0_5 : Kd.C (Kd.int .i64) w A0_5 l0_5.length l0_5) (hc0_5 : l0_5.length ≤ c0_5) (hr0_6 : Kd.C k52 w A0_6 l0_6.length l0_6) (hc0_6 : l0_6.length ≤ c0_6) (hr0_8 : Kd.C k54 w A0_8 l0_8.length l0_8) (hc0_8 : l0_8.length ≤ c0_8) (hr0_9 : Kd.C k56 w A0_9 l0_9.length l0_9) (hc0_9 : l0_9.length ≤ c0_9)
    (b : Bool) (hb : decide (1 ≤ a0_1 ∧ 0 ≤ a0_2) = b) :
    Calls Try.prog 35 #[.agg #[.int .i64 4, .int .i64 a0_1, .int .i64 a0_2, .int .i64 a0_3, .int .i64 a0_4, .slice A0_5 l0_5.length c0_5, .slice A0_6 l0_6.length c0_6, .int .i64 a0_7, .slice A0_8 l0_8.length c0_8, .slice A0_9 l0_9.length c0_9]] w fun e w' => e = .returned (.tuple #[.agg #[.int .i64 4, .int .i64 a0_1, .int .i64 a0_2, .int .i64 0, .int .i64 0, .slice none 0 0, .slice none 0 0, .int .i64 0, .slice none 0 0, .slice none 0 0], .bool b]) ∧ Below w.heap.size w w' := by
  have hu30 := Try.underlying30
  have HR5 := Aside0.mk hr0_5
  have HR6 := Aside0.mk hr0_6
  have HR8 := Aside0.mk hr0_8
  have HR9 := Aside0.mk hr0_9
  clear hr0_5 hr0_6 hr0_8 hr0_9
  have Hb := Aside0.mk hb
  clear hb
  go_enter Try.func35, Try.ntmps35
  go_wp2
  go_region
  go_upto_region 23 with (fail)
  go_cut [10] (fun v10 wc => ∃ g0 : Bool, v10 = .bool g0 ∧ Hid (g0 = decide (1 ≤ a0_1 ∧ 0 ≤ a0_2)) ∧ wc.heap[w.heap.size]? = some (.cells #[.int .i64 4, .int .i64 a0_1, .int .i64 a0_2, .int .i64 a0_3, .int .i64 a0_4, .slice A0_5 l0_5.length c0_5, .slice A0_6 l0_6.length c0_6, .int .i64 a0_7, .slice A0_8 l0_8.length c0_8, .slice A0_9 l0_9.length c0_9] 30 (0, 0)) ∧ wc.heap[w.heap.size + 1]? = some (.cells #[.int .i64 0, .int .i64 0, .int .i64 0, .int .i64 0, .int .i64 0, .slice none 0 0, .slice none 0 0, .int .i64 0, .slice none 0 0, .slice none 0 0] 30 (0, 0)) ∧ wc.heap[w.heap.size + 1 + 1]? = some (.cells #[.int .i64 4, .int .i64 a0_1, .int .i64 a0_2, .int .i64 0, .int .i64 0, .slice none 0 0, .slice none 0 0, .int .i64 0, .slice none 0 0, .slice none 0 0] 30 (0, 0)) ∧ Below w.heap.size w wc)
  case first =>
    by_cases h1 : 1 ≤ a0_1
    · by_cases h2 : 0 ≤ a0_2
      · go_wp2
        go_meet
        case rel => exact ⟨_, rfl, Lib.hid (decide_eq_true ⟨h1, h2⟩).symm, three_of _ rfl⟩
      · go_wp2
        go_meet
        case rel => exact ⟨_, rfl, Lib.hid (decide_eq_false fun h => by omega).symm, three_of _ rfl⟩
    · go_wp2
      go_meet
      case rel => exact ⟨_, rfl, Lib.hid (decide_eq_false fun h => by omega).symm, three_of _ rfl⟩
  case rest =>
    obtain ⟨g0, rfl, Hg, BK1, BK2, BK4, HB⟩ := hcut
    obtain rfl : g0 = b := Hg.out.trans Hb.out
    clear Hg Hb
    obtain ⟨d_0, d_1, d_2, d_3, d_4, d_5, d_6, d_7, d_8, d_9⟩ := ten_cells BK1
    obtain ⟨e_0, e_1, e_2, e_3, e_4, e_5, e_6, e_7, e_8, e_9⟩ := ten_cells BK4
    have hfr := ten_free BK4
    replace BK1 := Lib.hid BK1
    replace BK2 := Lib.hid BK2
    replace BK4 := Lib.hid BK4
    replace HB := Lib.hid HB
    replace BK2 := BK2
    obtain ⟨x_0, x_1, x_2, x_3, x_4, x_5, x_6, x_7, x_8, x_9⟩ := ten_cells BK2.out
    have hfx := ten_free BK2.out
    go_wp2
    refine bodyPost_ret (results_ct rfl _ _ (w.heap.size + 1) 30 #[.int .i64 4, .int .i64 a0_1, .int .i64 a0_2, .int .i64 0, .int .i64 0, .slice none 0 0, .slice none 0 0, .int .i64 0, .slice none 0 0, .slice none 0 0] (0, 0) _ rfl (by with_reducible exact blk_put10 BK2.out _ _ _ _ _ _ _ _ _ _) Try.underlying30 rfl (by kernel_rfl)) rfl ⟨rfl, by (with_reducible repeat (refine below_set ?_ (by omega))); exact HB.out⟩
end Go.Proofs.Ytcplblpmgajmnaa.A
namespace Go.Proofs.Ytcplblpmgajmnaa.A
open Go.RowKit Go.Proofs.YtcplblpmgajmnaaW.PrintWords Go.Proofs.YtcplblpmgajmnaaW.PrintLast Go.Proofs.YtcplblpmgajmnaaW.PrintMore
set_option linter.unusedVariables false
set_option linter.unusedSimpArgs false
set_option maxHeartbeats 4000000 in
set_option maxRecDepth 100000 in
theorem said_5 (a0_1 : Int) (a0_2 : Int) (a0_3 : Int) (a0_4 : Int) (A0_5 : Option Addr) (c0_5 : Nat) (l0_5 : List Int) (A0_6 : Option Addr) (c0_6 : Nat) (l0_6 : List (S52)) (a0_7 : Int) (A0_8 : Option Addr) (c0_8 : Nat) (l0_8 : List (S54)) (A0_9 : Option Addr) (c0_9 : Nat) (l0_9 : List (S56)) (w : World)
    (hr0_5 : Kd.C (Kd.int .i64) w A0_5 l0_5.length l0_5) (hc0_5 : l0_5.length ≤ c0_5) (hr0_6 : Kd.C k52 w A0_6 l0_6.length l0_6) (hc0_6 : l0_6.length ≤ c0_6) (hr0_8 : Kd.C k54 w A0_8 l0_8.length l0_8) (hc0_8 : l0_8.length ≤ c0_8) (hr0_9 : Kd.C k56 w A0_9 l0_9.length l0_9) (hc0_9 : l0_9.length ≤ c0_9)
    (b : Bool) (hb : decide ((l0_8.length ≤ 64 ∧ l0_9.length ≤ 64 ∧ Ris (fun x => x.f0) z54 1024 l0_8 ∧ Ris (fun x => wrap64 (x.f0 - 1)) z56 4611686018427387904 l0_9) ∧ (∀ j, j < l0_8.length → 0 ≤ (l0_8.getD j z54).f1) ∧ (∀ j, j < l0_9.length → 0 ≤ (l0_9.getD j z56).f1 ∧ 0 ≤ (l0_9.getD j z56).f2 ∧ 0 ≤ (l0_9.getD j z56).f3)) = b) :
    Calls Try.prog 35 #[.agg #[.int .i64 5, .int .i64 a0_1, .int .i64 a0_2, .int .i64 a0_3, .int .i64 a0_4, .slice A0_5 l0_5.length c0_5, .slice A0_6 l0_6.length c0_6, .int .i64 a0_7, .slice A0_8 l0_8.length c0_8, .slice A0_9 l0_9.length c0_9]] w fun e w' => e = .returned (.tuple #[.agg #[.int .i64 5, .int .i64 0, .int .i64 0, .int .i64 0, .int .i64 0, .slice none 0 0, .slice none 0 0, .int .i64 0, .slice A0_8 l0_8.length c0_8, .slice A0_9 l0_9.length c0_9], .bool b]) ∧ Below w.heap.size w w' := by
  have hu30 := Try.underlying30
  have HR5 := Aside0.mk hr0_5
  have HR6 := Aside0.mk hr0_6
  have HR8 := Aside0.mk hr0_8
  have HR9 := Aside0.mk hr0_9
  have Hd := Aside0.mk (api_Dirty_44_f l0_8 1024 (Kd.C_max hr0_8) (l0_8.length + 1) (by omega))
  have Ha := Aside0.mk (api_Active_46_f l0_9 4611686018427387904 (Kd.C_max hr0_9) (l0_9.length + 1) (by omega))
  have m8 := Kd.C_max hr0_8
  have m9 := Kd.C_max hr0_9
  clear hr0_5 hr0_6 hr0_8 hr0_9
  have Hb := Aside0.mk hb
  clear hb
  go_enter Try.func35, Try.ntmps35
  go_wp2
  go_upto_region 5 with (fail)
  go_cut [3] (fun v3 wc => v3 = .bool false ∧ wc.heap[w.heap.size]? = some (.cells #[.int .i64 5, .int .i64 a0_1, .int .i64 a0_2, .int .i64 a0_3, .int .i64 a0_4, .slice A0_5 l0_5.length c0_5, .slice A0_6 l0_6.length c0_6, .int .i64 a0_7, .slice A0_8 l0_8.length c0_8, .slice A0_9 l0_9.length c0_9] 30 (0, 0)) ∧ wc.heap[w.heap.size + 1]? = some (.cells #[.int .i64 0, .int .i64 0, .int .i64 0, .int .i64 0, .int .i64 0, .slice none 0 0, .slice none 0 0, .int .i64 0, .slice none 0 0, .slice none 0 0] 30 (0, 0)) ∧ wc.heap[w.heap.size + 1 + 1]? = some (.cells #[.int .i64 5, .int .i64 0, .int .i64 0, .int .i64 0, .int .i64 0, .slice none 0 0, .slice none 0 0, .int .i64 0, .slice A0_8 l0_8.length c0_8, .slice A0_9 l0_9.length c0_9] 30 (0, 0)) ∧ Below w.heap.size w wc)
  case first =>
    go_region
    go_wp2
    go_meet
    case rel => exact ⟨rfl, three_of _ rfl⟩
  case rest =>
    obtain ⟨rfl, BK1, BK2, BK4, HB⟩ := hcut
    obtain ⟨d_0, d_1, d_2, d_3, d_4, d_5, d_6, d_7, d_8, d_9⟩ := ten_cells BK1
    obtain ⟨e_0, e_1, e_2, e_3, e_4, e_5, e_6, e_7, e_8, e_9⟩ := ten_cells BK4
    have hfr := ten_free BK4
    replace BK1 := Lib.hid BK1
    replace BK2 := Lib.hid BK2
    replace BK4 := Lib.hid BK4
    replace HB := Lib.hid HB
    go_upto_region 6 with (fail)
    go_cut [5] (fun v5 wb => ∃ g0 : Bool, v5 = .bool g0 ∧ Hid (g0 = decide (l0_8.length ≤ 64 ∧ l0_9.length ≤ 64 ∧ Ris (fun x => x.f0) z54 1024 l0_8 ∧ Ris (fun x => wrap64 (x.f0 - 1)) z56 4611686018427387904 l0_9)) ∧ wb.heap[w.heap.size]? = some (.cells #[.int .i64 5, .int .i64 a0_1, .int .i64 a0_2, .int .i64 a0_3, .int .i64 a0_4, .slice A0_5 l0_5.length c0_5, .slice A0_6 l0_6.length c0_6, .int .i64 a0_7, .slice A0_8 l0_8.length c0_8, .slice A0_9 l0_9.length c0_9] 30 (0, 0)) ∧ wb.heap[w.heap.size + 1]? = some (.cells #[.int .i64 0, .int .i64 0, .int .i64 0, .int .i64 0, .int .i64 0, .slice none 0 0, .slice none 0 0, .int .i64 0, .slice none 0 0, .slice none 0 0] 30 (0, 0)) ∧ wb.heap[w.heap.size + 1 + 1]? = some (.cells #[.int .i64 5, .int .i64 0, .int .i64 0, .int .i64 0, .int .i64 0, .slice none 0 0, .slice none 0 0, .int .i64 0, .slice A0_8 l0_8.length c0_8, .slice A0_9 l0_9.length c0_9] 30 (0, 0)) ∧ Below w.heap.size w wb)
    case first =>
      by_cases p1 : l0_8.length ≤ 64
      · by_cases p2 : l0_9.length ≤ 64
        · go_wp2_with fail
          refine (api_Dirty_44.calls (l0_8.length + 1) _ _ l0_8 1024 _ _ (Kd.C_below HR8.out HB.out) hc0_8 Hd.out).mono ?_
          rintro e w1 ⟨rfl, hb⟩
          have BK1' := Lib.hid (blk_below BK1.out hb)
          have BK2' := Lib.hid (blk_below BK2.out hb)
          have BK4' := Lib.hid (blk_below BK4.out hb)
          have HB' := Lib.hid (below_then HB.out (Nat.le_of_lt (blk_lt BK1.out)) hb)
          clear hb
          obtain ⟨x_0, x_1, x_2, x_3, x_4, x_5, x_6, x_7, x_8, x_9⟩ := ten_cells BK1'.out
          by_cases p3 : Ris (fun x => x.f0) z54 1024 l0_8
          · have P3 := Lib.hid p3
            rw [decide_eq_true p3]
            clear p3
            go_wp2_with fail
            refine (api_Active_46.calls (l0_9.length + 1) _ _ l0_9 4611686018427387904 _ _ (Kd.C_below HR9.out HB'.out) hc0_9 Ha.out).mono ?_
            rintro e w2 ⟨rfl, hb⟩
            have BK1'' := Lib.hid (blk_below BK1'.out hb)
            have BK2'' := Lib.hid (blk_below BK2'.out hb)
            have BK4'' := Lib.hid (blk_below BK4'.out hb)
            have HB'' := Lib.hid (below_then HB'.out (Nat.le_of_lt (blk_lt BK1'.out)) hb)
            clear hb
            go_wp2
            go_meet
            case rel => exact ⟨_, rfl, Lib.hid (decide_eq_decide.2 ⟨fun h => ⟨p1, p2, P3.out, h⟩, fun h => h.2.2.2⟩), BK1''.out, BK2''.out, BK4''.out, HB''.out⟩
          · rw [decide_eq_false p3]
            have P3 := Lib.hid p3
            clear p3
            go_wp2
            go_meet
            case rel => exact ⟨_, rfl, Lib.hid (decide_eq_false fun h => P3.out h.2.2.1).symm, BK1'.out, BK2'.out, BK4'.out, HB'.out⟩
        · go_wp2
          go_meet
          case rel => exact ⟨_, rfl, Lib.hid (decide_eq_false fun h => by omega).symm, BK1.out, BK2.out, BK4.out, HB.out⟩
      · go_wp2
        go_meet
        case rel => exact ⟨_, rfl, Lib.hid (decide_eq_false fun h => by omega).symm, BK1.out, BK2.out, BK4.out, HB.out⟩
    case rest =>
      clear BK1 BK2 BK4 HB
      clear d_0 d_1 d_2 d_3 d_4 d_5 d_6 d_7 d_8 d_9 e_0 e_1 e_2 e_3 e_4 e_5 e_6 e_7 e_8 e_9 hfr
      obtain ⟨g0, rfl, Hg, BK1, BK2, BK4, HB⟩ := hcut
      obtain ⟨d_0, d_1, d_2, d_3, d_4, d_5, d_6, d_7, d_8, d_9⟩ := ten_cells BK1
      obtain ⟨e_0, e_1, e_2, e_3, e_4, e_5, e_6, e_7, e_8, e_9⟩ := ten_cells BK4
      have hfr := ten_free BK4
      replace BK1 := Lib.hid BK1
      replace BK2 := Lib.hid BK2
      replace BK4 := Lib.hid BK4
      replace HB := Lib.hid HB
      go_wp2
      go_loopw [5, 49] (fun v5 v49 wr => ∃ (g : Bool) (k : Nat), v5 = .bool g ∧ v49 = .int .i64 k ∧ k ≤ l0_8.length ∧ Hid (g = decide ((l0_8.length ≤ 64 ∧ l0_9.length ≤ 64 ∧ Ris (fun x => x.f0) z54 1024 l0_8 ∧ Ris (fun x => wrap64 (x.f0 - 1)) z56 4611686018427387904 l0_9) ∧ ∀ j, j < k → 0 ≤ (l0_8.getD j z54).f1)) ∧ Hid (wr.heap[w.heap.size]? = some (.cells #[.int .i64 5, .int .i64 a0_1, .int .i64 a0_2, .int .i64 a0_3, .int .i64 a0_4, .slice A0_5 l0_5.length c0_5, .slice A0_6 l0_6.length c0_6, .int .i64 a0_7, .slice A0_8 l0_8.length c0_8, .slice A0_9 l0_9.length c0_9] 30 (0, 0)) ∧ wr.heap[w.heap.size + 1]? = some (.cells #[.int .i64 0, .int .i64 0, .int .i64 0, .int .i64 0, .int .i64 0, .slice none 0 0, .slice none 0 0, .int .i64 0, .slice none 0 0, .slice none 0 0] 30 (0, 0)) ∧ wr.heap[w.heap.size + 1 + 1]? = some (.cells #[.int .i64 5, .int .i64 0, .int .i64 0, .int .i64 0, .int .i64 0, .slice none 0 0, .slice none 0 0, .int .i64 0, .slice A0_8 l0_8.length c0_8, .slice A0_9 l0_9.length c0_9] 30 (0, 0)) ∧ Below w.heap.size w wr)) (fun _ v49 _ => l0_8.length - (intOf v49).toNat)
      case atStart => exact ⟨g0, 0, rfl, rfl, Nat.zero_le _, Lib.hid (Hg.out.trans (decide_eq_decide.2 ⟨fun h => ⟨h, fun j hj => absurd hj (Nat.not_lt_zero j)⟩, fun h => h.1⟩)), Lib.hid ⟨BK1.out, BK2.out, BK4.out, HB.out⟩⟩
      case round =>
        clear BK1 BK2 BK4 HB Hg
        clear d_0 d_1 d_2 d_3 d_4 d_5 d_6 d_7 d_8 d_9 e_0 e_1 e_2 e_3 e_4 e_5 e_6 e_7 e_8 e_9 hfr
        obtain ⟨g, k, rfl, rfl, hk, Hg, HW⟩ := hrel
        have HB := Lib.hid HW.out.2.2.2
        by_cases hlt : k < l0_8.length
        · obtain ⟨ad, eA, hx0, hx1⟩ := at_T54 (Kd.C_below HR8.out HB.out) (k : Int) (by omega) (by omega)
          subst eA
          rw [show ((k : Int)).toNat = k from rfl] at hx0 hx1
          have HR8' := HR8
          obtain ⟨e0, e1⟩ : (rd_T54 l0_8 (k : Int)).f0 = (l0_8.getD k z54).f0 ∧ (rd_T54 l0_8 (k : Int)).f1 = (l0_8.getD k z54).f1 := ⟨rfl, rfl⟩
          rw [e0] at hx0
          rw [e1] at hx1
          clear e0 e1
          obtain ⟨el, Hel⟩ : ∃ el, Hid (l0_8.getD k z54 = el) := ⟨_, Lib.hid rfl⟩
          rw [Hel.out] at hx0 hx1
          cases g
          all_goals
            go_wp2
            go_roundw
            case rel => exact ⟨_, k + 1, rfl, by go_num, by omega, Lib.hid (all_step Hg.out (by rw [Hel.out]; first | rfl | simp)), Lib.hid ⟨blk_alloc HW.out.1 _, blk_alloc HW.out.2.1 _, blk_alloc HW.out.2.2.1 _, below_alloc HB.out _⟩⟩
            case measure => simp [intOf]; omega
        · obtain rfl : k = l0_8.length := by omega
          obtain ⟨BK1, BK2, BK4, _⟩ := HW.out
          clear HW
          obtain ⟨d_0, d_1, d_2, d_3, d_4, d_5, d_6, d_7, d_8, d_9⟩ := ten_cells BK1
          obtain ⟨e_0, e_1, e_2, e_3, e_4, e_5, e_6, e_7, e_8, e_9⟩ := ten_cells BK4
          have hfr := ten_free BK4
          replace BK1 := Lib.hid BK1
          replace BK2 := Lib.hid BK2
          replace BK4 := Lib.hid BK4
          skip
          go_wp2
          go_loopw [5, 63] (fun v5 v63 wr => ∃ (g : Bool) (k : Nat), v5 = .bool g ∧ v63 = .int .i64 k ∧ k ≤ l0_9.length ∧ Hid (g = decide (((l0_8.length ≤ 64 ∧ l0_9.length ≤ 64 ∧ Ris (fun x => x.f0) z54 1024 l0_8 ∧ Ris (fun x => wrap64 (x.f0 - 1)) z56 4611686018427387904 l0_9) ∧ (∀ j, j < l0_8.length → 0 ≤ (l0_8.getD j z54).f1)) ∧ ∀ j, j < k → 0 ≤ (l0_9.getD j z56).f1 ∧ 0 ≤ (l0_9.getD j z56).f2 ∧ 0 ≤ (l0_9.getD j z56).f3)) ∧ Hid (wr.heap[w.heap.size]? = some (.cells #[.int .i64 5, .int .i64 a0_1, .int .i64 a0_2, .int .i64 a0_3, .int .i64 a0_4, .slice A0_5 l0_5.length c0_5, .slice A0_6 l0_6.length c0_6, .int .i64 a0_7, .slice A0_8 l0_8.length c0_8, .slice A0_9 l0_9.length c0_9] 30 (0, 0)) ∧ wr.heap[w.heap.size + 1]? = some (.cells #[.int .i64 0, .int .i64 0, .int .i64 0, .int .i64 0, .int .i64 0, .slice none 0 0, .slice none 0 0, .int .i64 0, .slice none 0 0, .slice none 0 0] 30 (0, 0)) ∧ wr.heap[w.heap.size + 1 + 1]? = some (.cells #[.int .i64 5, .int .i64 0, .int .i64 0, .int .i64 0, .int .i64 0, .slice none 0 0, .slice none 0 0, .int .i64 0, .slice A0_8 l0_8.length c0_8, .slice A0_9 l0_9.length c0_9] 30 (0, 0)) ∧ Below w.heap.size w wr)) (fun _ v63 _ => l0_9.length - (intOf v63).toNat)
          case atStart => exact ⟨g, 0, rfl, rfl, Nat.zero_le _, Lib.hid (Hg.out.trans (decide_eq_decide.2 ⟨fun h => ⟨h, fun j hj => absurd hj (Nat.not_lt_zero j)⟩, fun h => h.1⟩)), Lib.hid ⟨BK1.out, BK2.out, BK4.out, HB.out⟩⟩
          case round =>
            clear BK1 BK2 BK4 HB Hg hlt hk
            clear d_0 d_1 d_2 d_3 d_4 d_5 d_6 d_7 d_8 d_9 e_0 e_1 e_2 e_3 e_4 e_5 e_6 e_7 e_8 e_9 hfr
            obtain ⟨g, k, rfl, rfl, hk, Hg, HW⟩ := hrel
            have HB := Lib.hid HW.out.2.2.2
            by_cases hlt : k < l0_9.length
            · obtain ⟨ad, eA, hx0, hx1, hx2, hx3⟩ := at_T56 (Kd.C_below HR9.out HB.out) (k : Int) (by omega) (by omega)
              subst eA
              rw [show ((k : Int)).toNat = k from rfl] at hx0 hx1 hx2 hx3
              obtain ⟨el, Hel⟩ : ∃ el, Hid (l0_9.getD k z56 = el) := ⟨_, Lib.hid rfl⟩
              rw [show (rd_T56 l0_9 (k : Int)) = (l0_9.getD k z56) from rfl, Hel.out] at hx0 hx1 hx2 hx3
              cases g
              · go_wp2
                go_roundw
                case rel => exact ⟨_, k + 1, rfl, by go_num, by omega, Lib.hid (all_step Hg.out (by rw [Hel.out]; first | rfl | simp)), Lib.hid ⟨blk_alloc HW.out.1 _, blk_alloc HW.out.2.1 _, blk_alloc HW.out.2.2.1 _, below_alloc HB.out _⟩⟩
                case measure => simp [intOf]; omega
              · by_cases s1 : 0 ≤ el.f1
                · by_cases s2 : 0 ≤ el.f2
                  all_goals
                    go_wp2
                    go_roundw
                    case rel => exact ⟨_, k + 1, rfl, by go_num, by omega, Lib.hid (all_step Hg.out (by rw [Hel.out]; first | rfl | simp [s1, s2])), Lib.hid ⟨blk_alloc HW.out.1 _, blk_alloc HW.out.2.1 _, blk_alloc HW.out.2.2.1 _, below_alloc HB.out _⟩⟩
                    case measure => simp [intOf]; omega
                · go_wp2
                  go_roundw
                  case rel => exact ⟨_, k + 1, rfl, by go_num, by omega, Lib.hid (all_step Hg.out (by rw [Hel.out]; first | rfl | simp [s1])), Lib.hid ⟨blk_alloc HW.out.1 _, blk_alloc HW.out.2.1 _, blk_alloc HW.out.2.2.1 _, below_alloc HB.out _⟩⟩
                  case measure => simp [intOf]; omega
            · obtain rfl : k = l0_9.length := by omega
              obtain ⟨BK1, BK2, BK4, _⟩ := HW.out
              clear HW
              obtain rfl : g = b := by rw [← Hb.out, Hg.out]; exact decide_eq_decide.2 ⟨fun h => ⟨h.1.1, h.1.2, h.2⟩, fun h => ⟨⟨h.1, h.2.1⟩, h.2.2⟩⟩
              clear Hg Hb
              obtain ⟨d_0, d_1, d_2, d_3, d_4, d_5, d_6, d_7, d_8, d_9⟩ := ten_cells BK1
              obtain ⟨e_0, e_1, e_2, e_3, e_4, e_5, e_6, e_7, e_8, e_9⟩ := ten_cells BK4
              have hfr := ten_free BK4
              replace BK1 := Lib.hid BK1
              replace BK2 := Lib.hid BK2
              replace BK4 := Lib.hid BK4
              skip
              obtain ⟨x_0, x_1, x_2, x_3, x_4, x_5, x_6, x_7, x_8, x_9⟩ := ten_cells BK2.out
              have hfx := ten_free BK2.out
              go_wp2
              refine bodyPost_ret (results_ct rfl _ _ (w.heap.size + 1) 30 #[.int .i64 5, .int .i64 0, .int .i64 0, .int .i64 0, .int .i64 0, .slice none 0 0, .slice none 0 0, .int .i64 0, .slice A0_8 l0_8.length c0_8, .slice A0_9 l0_9.length c0_9] (0, 0) _ rfl (by with_reducible exact blk_put10 BK2.out _ _ _ _ _ _ _ _ _ _) Try.underlying30 rfl (by kernel_rfl)) rfl ⟨rfl, by (with_reducible repeat (refine below_set ?_ (by omega))); exact HB.out⟩
end Go.Proofs.Ytcplblpmgajmnaa.A
namespace Go.Proofs.Ytcplblpmgajmnaa.A
open Go.RowKit Go.Proofs.YtcplblpmgajmnaaW.PrintWords Go.Proofs.YtcplblpmgajmnaaW.PrintLast Go.Proofs.YtcplblpmgajmnaaW.PrintMore
set_option linter.unusedVariables false
set_option linter.unusedSimpArgs false
set_option maxHeartbeats 4000000 in
set_option maxRecDepth 100000 in
theorem check_1 (a0_1 : Int) (a0_2 : Int) (a0_3 : Int) (a0_4 : Int) (A0_5 : Option Addr) (c0_5 : Nat) (l0_5 : List Int) (A0_6 : Option Addr) (c0_6 : Nat) (l0_6 : List (S52)) (a0_7 : Int) (A0_8 : Option Addr) (c0_8 : Nat) (l0_8 : List (S54)) (A0_9 : Option Addr) (c0_9 : Nat) (l0_9 : List (S56)) (w : World)
    (hr0_5 : Kd.C (Kd.int .i64) w A0_5 l0_5.length l0_5) (hc0_5 : l0_5.length ≤ c0_5) (hr0_6 : Kd.C k52 w A0_6 l0_6.length l0_6) (hc0_6 : l0_6.length ≤ c0_6) (hr0_8 : Kd.C k54 w A0_8 l0_8.length l0_8) (hc0_8 : l0_8.length ≤ c0_8) (hr0_9 : Kd.C k56 w A0_9 l0_9.length l0_9) (hc0_9 : l0_9.length ≤ c0_9) :
    Calls Try.prog 20 #[.agg #[.int .i64 1, .int .i64 a0_1, .int .i64 a0_2, .int .i64 a0_3, .int .i64 a0_4, .slice A0_5 l0_5.length c0_5, .slice A0_6 l0_6.length c0_6, .int .i64 a0_7, .slice A0_8 l0_8.length c0_8, .slice A0_9 l0_9.length c0_9]] w fun e w' => e = .returned (errW (if (1 ≤ a0_1 ∧ 0 ≤ a0_2 ∧ OnPage a0_3 a0_4 l0_5 l0_6 false) ∧ (a0_7 = 0 ∧ l0_8 = [] ∧ l0_9 = []) then none else some 2)) ∧ Below w.heap.size w w' := by
  have hu30 := Try.underlying30
  have hu32 := Try.underlying32
  have hu44 := Try.underlying44
  have HR5 := Aside0.mk hr0_5
  have HR6 := Aside0.mk hr0_6
  have HR8 := Aside0.mk hr0_8
  have HR9 := Aside0.mk hr0_9
  have Hs := Aside0.mk (same_f 1 a0_1 a0_2 a0_3 a0_4 l0_5 l0_6 a0_7 l0_8 l0_9 1 a0_1 a0_2 a0_3 a0_4 l0_5 l0_6 0 [] [] (Kd.C_max hr0_5) (Kd.C_max hr0_6) (Kd.C_max hr0_8) (Kd.C_max hr0_9) (l0_5.length + l0_6.length + l0_8.length + l0_9.length + 1) (by omega) (by omega) (by omega) (by omega))
  clear hr0_5 hr0_6 hr0_8 hr0_9
  by_cases g : 1 ≤ a0_1 ∧ 0 ≤ a0_2 ∧ OnPage a0_3 a0_4 l0_5 l0_6 false
  · have Hd := Aside0.mk (decide_eq_true g)
    by_cases v : a0_7 = 0 ∧ l0_8 = [] ∧ l0_9 = []
    · have Hv := Aside0.mk (Hs.out.trans (congrArg some (decide_eq_true (show _ from by simp [v]))))
      rw [if_pos ⟨g, v⟩]
      clear g v Hs
      go_enter Try.func20, Try.ntmps20
      go_wp2_with fail
      refine (said_1 a0_1 a0_2 a0_3 a0_4 A0_5 c0_5 l0_5 A0_6 c0_6 l0_6 a0_7 A0_8 c0_8 l0_8 A0_9 c0_9 l0_9 _ (Kd.C_alloc HR5.out _) hc0_5 (Kd.C_alloc HR6.out _) hc0_6 (Kd.C_alloc HR8.out _) hc0_8 (Kd.C_alloc HR9.out _) hc0_9 _ Hd.out).mono ?_
      rintro e w1 ⟨rfl, hb⟩
      have BK1 := Lib.hid (blk_below (heap_alloc_new w _) hb)
      have HB := Lib.hid (below_then (below_alloc (Below.refl w.heap.size w) _) (by rw [World.size_alloc]; omega) hb)
      clear hb
      obtain ⟨d_0, d_1, d_2, d_3, d_4, d_5, d_6, d_7, d_8, d_9⟩ := ten_cells BK1.out
      have hz : w.heap.size < w1.heap.size := blk_lt BK1.out
      have hz' : ¬ w.heap.size = w1.heap.size := by omega
      go_wp2_with fail
      refine (record_Same.calls (l0_5.length + l0_6.length + l0_8.length + l0_9.length + 1) 1 a0_1 a0_2 a0_3 a0_4 _ _ l0_5 _ _ l0_6 a0_7 _ _ l0_8 _ _ l0_9 1 a0_1 a0_2 a0_3 a0_4 _ _ l0_5 _ _ l0_6 0 _ _ [] _ _ [] _ _ (Kd.C_alloc (Kd.C_below HR5.out HB.out) _) hc0_5 (Kd.C_alloc (Kd.C_below HR6.out HB.out) _) hc0_6 (Kd.C_alloc (Kd.C_below HR8.out HB.out) _) hc0_8 (Kd.C_alloc (Kd.C_below HR9.out HB.out) _) hc0_9 (Kd.C_alloc (Kd.C_below HR5.out HB.out) _) hc0_5 (Kd.C_alloc (Kd.C_below HR6.out HB.out) _) hc0_6 (Kd.C_nil _ _) (Nat.le_refl 0) (Kd.C_nil _ _) (Nat.le_refl 0) Hv.out).mono ?_
      rintro e w2 ⟨rfl, hb⟩
      have HB2 := Lib.hid (below_then (below_alloc HB.out _) (by rw [World.size_alloc]; omega) hb)
      clear hb
      go_wp2
      go_ret
      exact ⟨rfl, HB2.out⟩
    · have Hv := Aside0.mk (Hs.out.trans (congrArg some (decide_eq_false (show ¬ _ from fun h => v (by simpa using h)))))
      rw [if_neg fun h => v h.2]
      clear g v Hs
      go_enter Try.func20, Try.ntmps20
      go_wp2_with fail
      refine (said_1 a0_1 a0_2 a0_3 a0_4 A0_5 c0_5 l0_5 A0_6 c0_6 l0_6 a0_7 A0_8 c0_8 l0_8 A0_9 c0_9 l0_9 _ (Kd.C_alloc HR5.out _) hc0_5 (Kd.C_alloc HR6.out _) hc0_6 (Kd.C_alloc HR8.out _) hc0_8 (Kd.C_alloc HR9.out _) hc0_9 _ Hd.out).mono ?_
      rintro e w1 ⟨rfl, hb⟩
      have BK1 := Lib.hid (blk_below (heap_alloc_new w _) hb)
      have HB := Lib.hid (below_then (below_alloc (Below.refl w.heap.size w) _) (by rw [World.size_alloc]; omega) hb)
      clear hb
      obtain ⟨d_0, d_1, d_2, d_3, d_4, d_5, d_6, d_7, d_8, d_9⟩ := ten_cells BK1.out
      have hz : w.heap.size < w1.heap.size := blk_lt BK1.out
      have hz' : ¬ w.heap.size = w1.heap.size := by omega
      go_wp2_with fail
      refine (record_Same.calls (l0_5.length + l0_6.length + l0_8.length + l0_9.length + 1) 1 a0_1 a0_2 a0_3 a0_4 _ _ l0_5 _ _ l0_6 a0_7 _ _ l0_8 _ _ l0_9 1 a0_1 a0_2 a0_3 a0_4 _ _ l0_5 _ _ l0_6 0 _ _ [] _ _ [] _ _ (Kd.C_alloc (Kd.C_below HR5.out HB.out) _) hc0_5 (Kd.C_alloc (Kd.C_below HR6.out HB.out) _) hc0_6 (Kd.C_alloc (Kd.C_below HR8.out HB.out) _) hc0_8 (Kd.C_alloc (Kd.C_below HR9.out HB.out) _) hc0_9 (Kd.C_alloc (Kd.C_below HR5.out HB.out) _) hc0_5 (Kd.C_alloc (Kd.C_below HR6.out HB.out) _) hc0_6 (Kd.C_nil _ _) (Nat.le_refl 0) (Kd.C_nil _ _) (Nat.le_refl 0) Hv.out).mono ?_
      rintro e w2 ⟨rfl, hb⟩
      have HB2 := Lib.hid (below_then (below_alloc HB.out _) (by rw [World.size_alloc]; omega) hb)
      clear hb
      go_wp2
      go_ret
      exact ⟨rfl, HB2.out⟩
  · have Hd := Aside0.mk (decide_eq_false g)
    rw [if_neg fun h => g h.1]
    clear g Hs
    go_enter Try.func20, Try.ntmps20
    go_wp2_with fail
    refine (said_1 a0_1 a0_2 a0_3 a0_4 A0_5 c0_5 l0_5 A0_6 c0_6 l0_6 a0_7 A0_8 c0_8 l0_8 A0_9 c0_9 l0_9 _ (Kd.C_alloc HR5.out _) hc0_5 (Kd.C_alloc HR6.out _) hc0_6 (Kd.C_alloc HR8.out _) hc0_8 (Kd.C_alloc HR9.out _) hc0_9 _ Hd.out).mono ?_
    rintro e w1 ⟨rfl, hb⟩
    have BK1 := Lib.hid (blk_below (heap_alloc_new w _) hb)
    have HB := Lib.hid (below_then (below_alloc (Below.refl w.heap.size w) _) (by rw [World.size_alloc]; omega) hb)
    clear hb
    obtain ⟨d_0, d_1, d_2, d_3, d_4, d_5, d_6, d_7, d_8, d_9⟩ := ten_cells BK1.out
    have hz : w.heap.size < w1.heap.size := blk_lt BK1.out
    have hz' : ¬ w.heap.size = w1.heap.size := by omega
    go_wp2
    go_ret
    exact ⟨rfl, below_alloc HB.out _⟩
set_option maxHeartbeats 4000000 in
set_option maxRecDepth 100000 in
theorem check_2 (a0_1 : Int) (a0_2 : Int) (a0_3 : Int) (a0_4 : Int) (A0_5 : Option Addr) (c0_5 : Nat) (l0_5 : List Int) (A0_6 : Option Addr) (c0_6 : Nat) (l0_6 : List (S52)) (a0_7 : Int) (A0_8 : Option Addr) (c0_8 : Nat) (l0_8 : List (S54)) (A0_9 : Option Addr) (c0_9 : Nat) (l0_9 : List (S56)) (w : World)
    (hr0_5 : Kd.C (Kd.int .i64) w A0_5 l0_5.length l0_5) (hc0_5 : l0_5.length ≤ c0_5) (hr0_6 : Kd.C k52 w A0_6 l0_6.length l0_6) (hc0_6 : l0_6.length ≤ c0_6) (hr0_8 : Kd.C k54 w A0_8 l0_8.length l0_8) (hc0_8 : l0_8.length ≤ c0_8) (hr0_9 : Kd.C k56 w A0_9 l0_9.length l0_9) (hc0_9 : l0_9.length ≤ c0_9) :
    Calls Try.prog 20 #[.agg #[.int .i64 2, .int .i64 a0_1, .int .i64 a0_2, .int .i64 a0_3, .int .i64 a0_4, .slice A0_5 l0_5.length c0_5, .slice A0_6 l0_6.length c0_6, .int .i64 a0_7, .slice A0_8 l0_8.length c0_8, .slice A0_9 l0_9.length c0_9]] w fun e w' => e = .returned (errW (if (1 ≤ a0_1 ∧ 0 ≤ a0_2 ∧ 0 ≤ a0_7 ∧ ((a0_3 = -1 ∧ a0_4 = 0 ∧ l0_5.length = 0 ∧ l0_6.length = 0) ∨ OnPage a0_3 a0_4 l0_5 l0_6 true)) ∧ (l0_8 = [] ∧ l0_9 = []) then none else some 2)) ∧ Below w.heap.size w w' := by
  have hu30 := Try.underlying30
  have hu32 := Try.underlying32
  have hu44 := Try.underlying44
  have HR5 := Aside0.mk hr0_5
  have HR6 := Aside0.mk hr0_6
  have HR8 := Aside0.mk hr0_8
  have HR9 := Aside0.mk hr0_9
  have Hs := Aside0.mk (same_f 2 a0_1 a0_2 a0_3 a0_4 l0_5 l0_6 a0_7 l0_8 l0_9 2 a0_1 a0_2 a0_3 a0_4 l0_5 l0_6 a0_7 [] [] (Kd.C_max hr0_5) (Kd.C_max hr0_6) (Kd.C_max hr0_8) (Kd.C_max hr0_9) (l0_5.length + l0_6.length + l0_8.length + l0_9.length + 1) (by omega) (by omega) (by omega) (by omega))
  clear hr0_5 hr0_6 hr0_8 hr0_9
  by_cases g : 1 ≤ a0_1 ∧ 0 ≤ a0_2 ∧ 0 ≤ a0_7 ∧ ((a0_3 = -1 ∧ a0_4 = 0 ∧ l0_5.length = 0 ∧ l0_6.length = 0) ∨ OnPage a0_3 a0_4 l0_5 l0_6 true)
  · have Hd := Aside0.mk (decide_eq_true g)
    by_cases v : l0_8 = [] ∧ l0_9 = []
    · have Hv := Aside0.mk (Hs.out.trans (congrArg some (decide_eq_true (show _ from by simp [v]))))
      rw [if_pos ⟨g, v⟩]
      clear g v Hs
      go_enter Try.func20, Try.ntmps20
      go_wp2_with fail
      refine (said_2 a0_1 a0_2 a0_3 a0_4 A0_5 c0_5 l0_5 A0_6 c0_6 l0_6 a0_7 A0_8 c0_8 l0_8 A0_9 c0_9 l0_9 _ (Kd.C_alloc HR5.out _) hc0_5 (Kd.C_alloc HR6.out _) hc0_6 (Kd.C_alloc HR8.out _) hc0_8 (Kd.C_alloc HR9.out _) hc0_9 _ Hd.out).mono ?_
      rintro e w1 ⟨rfl, hb⟩
      have BK1 := Lib.hid (blk_below (heap_alloc_new w _) hb)
      have HB := Lib.hid (below_then (below_alloc (Below.refl w.heap.size w) _) (by rw [World.size_alloc]; omega) hb)
      clear hb
      obtain ⟨d_0, d_1, d_2, d_3, d_4, d_5, d_6, d_7, d_8, d_9⟩ := ten_cells BK1.out
      have hz : w.heap.size < w1.heap.size := blk_lt BK1.out
      have hz' : ¬ w.heap.size = w1.heap.size := by omega
      go_wp2_with fail
      refine (record_Same.calls (l0_5.length + l0_6.length + l0_8.length + l0_9.length + 1) 2 a0_1 a0_2 a0_3 a0_4 _ _ l0_5 _ _ l0_6 a0_7 _ _ l0_8 _ _ l0_9 2 a0_1 a0_2 a0_3 a0_4 _ _ l0_5 _ _ l0_6 a0_7 _ _ [] _ _ [] _ _ (Kd.C_alloc (Kd.C_below HR5.out HB.out) _) hc0_5 (Kd.C_alloc (Kd.C_below HR6.out HB.out) _) hc0_6 (Kd.C_alloc (Kd.C_below HR8.out HB.out) _) hc0_8 (Kd.C_alloc (Kd.C_below HR9.out HB.out) _) hc0_9 (Kd.C_alloc (Kd.C_below HR5.out HB.out) _) hc0_5 (Kd.C_alloc (Kd.C_below HR6.out HB.out) _) hc0_6 (Kd.C_nil _ _) (Nat.le_refl 0) (Kd.C_nil _ _) (Nat.le_refl 0) Hv.out).mono ?_
      rintro e w2 ⟨rfl, hb⟩
      have HB2 := Lib.hid (below_then (below_alloc HB.out _) (by rw [World.size_alloc]; omega) hb)
      clear hb
      go_wp2
      go_ret
      exact ⟨rfl, HB2.out⟩
    · have Hv := Aside0.mk (Hs.out.trans (congrArg some (decide_eq_false (show ¬ _ from fun h => v (by simpa using h)))))
      rw [if_neg fun h => v h.2]
      clear g v Hs
      go_enter Try.func20, Try.ntmps20
      go_wp2_with fail
      refine (said_2 a0_1 a0_2 a0_3 a0_4 A0_5 c0_5 l0_5 A0_6 c0_6 l0_6 a0_7 A0_8 c0_8 l0_8 A0_9 c0_9 l0_9 _ (Kd.C_alloc HR5.out _) hc0_5 (Kd.C_alloc HR6.out _) hc0_6 (Kd.C_alloc HR8.out _) hc0_8 (Kd.C_alloc HR9.out _) hc0_9 _ Hd.out).mono ?_
      rintro e w1 ⟨rfl, hb⟩
      have BK1 := Lib.hid (blk_below (heap_alloc_new w _) hb)
      have HB := Lib.hid (below_then (below_alloc (Below.refl w.heap.size w) _) (by rw [World.size_alloc]; omega) hb)
      clear hb
      obtain ⟨d_0, d_1, d_2, d_3, d_4, d_5, d_6, d_7, d_8, d_9⟩ := ten_cells BK1.out
      have hz : w.heap.size < w1.heap.size := blk_lt BK1.out
      have hz' : ¬ w.heap.size = w1.heap.size := by omega
      go_wp2_with fail
      refine (record_Same.calls (l0_5.length + l0_6.length + l0_8.length + l0_9.length + 1) 2 a0_1 a0_2 a0_3 a0_4 _ _ l0_5 _ _ l0_6 a0_7 _ _ l0_8 _ _ l0_9 2 a0_1 a0_2 a0_3 a0_4 _ _ l0_5 _ _ l0_6 a0_7 _ _ [] _ _ [] _ _ (Kd.C_alloc (Kd.C_below HR5.out HB.out) _) hc0_5 (Kd.C_alloc (Kd.C_below HR6.out HB.out) _) hc0_6 (Kd.C_alloc (Kd.C_below HR8.out HB.out) _) hc0_8 (Kd.C_alloc (Kd.C_below HR9.out HB.out) _) hc0_9 (Kd.C_alloc (Kd.C_below HR5.out HB.out) _) hc0_5 (Kd.C_alloc (Kd.C_below HR6.out HB.out) _) hc0_6 (Kd.C_nil _ _) (Nat.le_refl 0) (Kd.C_nil _ _) (Nat.le_refl 0) Hv.out).mono ?_
      rintro e w2 ⟨rfl, hb⟩
      have HB2 := Lib.hid (below_then (below_alloc HB.out _) (by rw [World.size_alloc]; omega) hb)
      clear hb
      go_wp2
      go_ret
      exact ⟨rfl, HB2.out⟩
  · have Hd := Aside0.mk (decide_eq_false g)
    rw [if_neg fun h => g h.1]
    clear g Hs
    go_enter Try.func20, Try.ntmps20
    go_wp2_with fail
    refine (said_2 a0_1 a0_2 a0_3 a0_4 A0_5 c0_5 l0_5 A0_6 c0_6 l0_6 a0_7 A0_8 c0_8 l0_8 A0_9 c0_9 l0_9 _ (Kd.C_alloc HR5.out _) hc0_5 (Kd.C_alloc HR6.out _) hc0_6 (Kd.C_alloc HR8.out _) hc0_8 (Kd.C_alloc HR9.out _) hc0_9 _ Hd.out).mono ?_
    rintro e w1 ⟨rfl, hb⟩
    have BK1 := Lib.hid (blk_below (heap_alloc_new w _) hb)
    have HB := Lib.hid (below_then (below_alloc (Below.refl w.heap.size w) _) (by rw [World.size_alloc]; omega) hb)
    clear hb
    obtain ⟨d_0, d_1, d_2, d_3, d_4, d_5, d_6, d_7, d_8, d_9⟩ := ten_cells BK1.out
    have hz : w.heap.size < w1.heap.size := blk_lt BK1.out
    have hz' : ¬ w.heap.size = w1.heap.size := by omega
    go_wp2
    go_ret
    exact ⟨rfl, below_alloc HB.out _⟩
set_option maxHeartbeats 4000000 in
set_option maxRecDepth 100000 in
theorem check_3 (a0_1 : Int) (a0_2 : Int) (a0_3 : Int) (a0_4 : Int) (A0_5 : Option Addr) (c0_5 : Nat) (l0_5 : List Int) (A0_6 : Option Addr) (c0_6 : Nat) (l0_6 : List (S52)) (a0_7 : Int) (A0_8 : Option Addr) (c0_8 : Nat) (l0_8 : List (S54)) (A0_9 : Option Addr) (c0_9 : Nat) (l0_9 : List (S56)) (w : World)
    (hr0_5 : Kd.C (Kd.int .i64) w A0_5 l0_5.length l0_5) (hc0_5 : l0_5.length ≤ c0_5) (hr0_6 : Kd.C k52 w A0_6 l0_6.length l0_6) (hc0_6 : l0_6.length ≤ c0_6) (hr0_8 : Kd.C k54 w A0_8 l0_8.length l0_8) (hc0_8 : l0_8.length ≤ c0_8) (hr0_9 : Kd.C k56 w A0_9 l0_9.length l0_9) (hc0_9 : l0_9.length ≤ c0_9) :
    Calls Try.prog 20 #[.agg #[.int .i64 3, .int .i64 a0_1, .int .i64 a0_2, .int .i64 a0_3, .int .i64 a0_4, .slice A0_5 l0_5.length c0_5, .slice A0_6 l0_6.length c0_6, .int .i64 a0_7, .slice A0_8 l0_8.length c0_8, .slice A0_9 l0_9.length c0_9]] w fun e w' => e = .returned (errW (if (1 ≤ a0_1 ∧ 0 ≤ a0_2) ∧ (a0_3 = 0 ∧ a0_4 = 0 ∧ l0_5 = [] ∧ l0_6 = [] ∧ a0_7 = 0 ∧ l0_8 = [] ∧ l0_9 = []) then none else some 2)) ∧ Below w.heap.size w w' := by
  have hu30 := Try.underlying30
  have hu32 := Try.underlying32
  have hu44 := Try.underlying44
  have HR5 := Aside0.mk hr0_5
  have HR6 := Aside0.mk hr0_6
  have HR8 := Aside0.mk hr0_8
  have HR9 := Aside0.mk hr0_9
  have Hs := Aside0.mk (same_f 3 a0_1 a0_2 a0_3 a0_4 l0_5 l0_6 a0_7 l0_8 l0_9 3 a0_1 a0_2 0 0 [] [] 0 [] [] (Kd.C_max hr0_5) (Kd.C_max hr0_6) (Kd.C_max hr0_8) (Kd.C_max hr0_9) (l0_5.length + l0_6.length + l0_8.length + l0_9.length + 1) (by omega) (by omega) (by omega) (by omega))
  clear hr0_5 hr0_6 hr0_8 hr0_9
  by_cases g : 1 ≤ a0_1 ∧ 0 ≤ a0_2
  · have Hd := Aside0.mk (decide_eq_true g)
    by_cases v : a0_3 = 0 ∧ a0_4 = 0 ∧ l0_5 = [] ∧ l0_6 = [] ∧ a0_7 = 0 ∧ l0_8 = [] ∧ l0_9 = []
    · have Hv := Aside0.mk (Hs.out.trans (congrArg some (decide_eq_true (show _ from by simp [v]))))
      rw [if_pos ⟨g, v⟩]
      clear g v Hs
      go_enter Try.func20, Try.ntmps20
      go_wp2_with fail
      refine (said_3 a0_1 a0_2 a0_3 a0_4 A0_5 c0_5 l0_5 A0_6 c0_6 l0_6 a0_7 A0_8 c0_8 l0_8 A0_9 c0_9 l0_9 _ (Kd.C_alloc HR5.out _) hc0_5 (Kd.C_alloc HR6.out _) hc0_6 (Kd.C_alloc HR8.out _) hc0_8 (Kd.C_alloc HR9.out _) hc0_9 _ Hd.out).mono ?_
      rintro e w1 ⟨rfl, hb⟩
      have BK1 := Lib.hid (blk_below (heap_alloc_new w _) hb)
      have HB := Lib.hid (below_then (below_alloc (Below.refl w.heap.size w) _) (by rw [World.size_alloc]; omega) hb)
      clear hb
      obtain ⟨d_0, d_1, d_2, d_3, d_4, d_5, d_6, d_7, d_8, d_9⟩ := ten_cells BK1.out
      have hz : w.heap.size < w1.heap.size := blk_lt BK1.out
      have hz' : ¬ w.heap.size = w1.heap.size := by omega
      go_wp2_with fail
      refine (record_Same.calls (l0_5.length + l0_6.length + l0_8.length + l0_9.length + 1) 3 a0_1 a0_2 a0_3 a0_4 _ _ l0_5 _ _ l0_6 a0_7 _ _ l0_8 _ _ l0_9 3 a0_1 a0_2 0 0 _ _ [] _ _ [] 0 _ _ [] _ _ [] _ _ (Kd.C_alloc (Kd.C_below HR5.out HB.out) _) hc0_5 (Kd.C_alloc (Kd.C_below HR6.out HB.out) _) hc0_6 (Kd.C_alloc (Kd.C_below HR8.out HB.out) _) hc0_8 (Kd.C_alloc (Kd.C_below HR9.out HB.out) _) hc0_9 (Kd.C_nil _ _) (Nat.le_refl 0) (Kd.C_nil _ _) (Nat.le_refl 0) (Kd.C_nil _ _) (Nat.le_refl 0) (Kd.C_nil _ _) (Nat.le_refl 0) Hv.out).mono ?_
      rintro e w2 ⟨rfl, hb⟩
      have HB2 := Lib.hid (below_then (below_alloc HB.out _) (by rw [World.size_alloc]; omega) hb)
      clear hb
      go_wp2
      go_ret
      exact ⟨rfl, HB2.out⟩
    · have Hv := Aside0.mk (Hs.out.trans (congrArg some (decide_eq_false (show ¬ _ from fun h => v (by simpa using h)))))
      rw [if_neg fun h => v h.2]
      clear g v Hs
      go_enter Try.func20, Try.ntmps20
      go_wp2_with fail
      refine (said_3 a0_1 a0_2 a0_3 a0_4 A0_5 c0_5 l0_5 A0_6 c0_6 l0_6 a0_7 A0_8 c0_8 l0_8 A0_9 c0_9 l0_9 _ (Kd.C_alloc HR5.out _) hc0_5 (Kd.C_alloc HR6.out _) hc0_6 (Kd.C_alloc HR8.out _) hc0_8 (Kd.C_alloc HR9.out _) hc0_9 _ Hd.out).mono ?_
      rintro e w1 ⟨rfl, hb⟩
      have BK1 := Lib.hid (blk_below (heap_alloc_new w _) hb)
      have HB := Lib.hid (below_then (below_alloc (Below.refl w.heap.size w) _) (by rw [World.size_alloc]; omega) hb)
      clear hb
      obtain ⟨d_0, d_1, d_2, d_3, d_4, d_5, d_6, d_7, d_8, d_9⟩ := ten_cells BK1.out
      have hz : w.heap.size < w1.heap.size := blk_lt BK1.out
      have hz' : ¬ w.heap.size = w1.heap.size := by omega
      go_wp2_with fail
      refine (record_Same.calls (l0_5.length + l0_6.length + l0_8.length + l0_9.length + 1) 3 a0_1 a0_2 a0_3 a0_4 _ _ l0_5 _ _ l0_6 a0_7 _ _ l0_8 _ _ l0_9 3 a0_1 a0_2 0 0 _ _ [] _ _ [] 0 _ _ [] _ _ [] _ _ (Kd.C_alloc (Kd.C_below HR5.out HB.out) _) hc0_5 (Kd.C_alloc (Kd.C_below HR6.out HB.out) _) hc0_6 (Kd.C_alloc (Kd.C_below HR8.out HB.out) _) hc0_8 (Kd.C_alloc (Kd.C_below HR9.out HB.out) _) hc0_9 (Kd.C_nil _ _) (Nat.le_refl 0) (Kd.C_nil _ _) (Nat.le_refl 0) (Kd.C_nil _ _) (Nat.le_refl 0) (Kd.C_nil _ _) (Nat.le_refl 0) Hv.out).mono ?_
      rintro e w2 ⟨rfl, hb⟩
      have HB2 := Lib.hid (below_then (below_alloc HB.out _) (by rw [World.size_alloc]; omega) hb)
      clear hb
      go_wp2
      go_ret
      exact ⟨rfl, HB2.out⟩
  · have Hd := Aside0.mk (decide_eq_false g)
    rw [if_neg fun h => g h.1]
    clear g Hs
    go_enter Try.func20, Try.ntmps20
    go_wp2_with fail
    refine (said_3 a0_1 a0_2 a0_3 a0_4 A0_5 c0_5 l0_5 A0_6 c0_6 l0_6 a0_7 A0_8 c0_8 l0_8 A0_9 c0_9 l0_9 _ (Kd.C_alloc HR5.out _) hc0_5 (Kd.C_alloc HR6.out _) hc0_6 (Kd.C_alloc HR8.out _) hc0_8 (Kd.C_alloc HR9.out _) hc0_9 _ Hd.out).mono ?_
    rintro e w1 ⟨rfl, hb⟩
    have BK1 := Lib.hid (blk_below (heap_alloc_new w _) hb)
    have HB := Lib.hid (below_then (below_alloc (Below.refl w.heap.size w) _) (by rw [World.size_alloc]; omega) hb)
    clear hb
    obtain ⟨d_0, d_1, d_2, d_3, d_4, d_5, d_6, d_7, d_8, d_9⟩ := ten_cells BK1.out
    have hz : w.heap.size < w1.heap.size := blk_lt BK1.out
    have hz' : ¬ w.heap.size = w1.heap.size := by omega
    go_wp2
    go_ret
    exact ⟨rfl, below_alloc HB.out _⟩
set_option maxHeartbeats 4000000 in
set_option maxRecDepth 100000 in
theorem check_4 (a0_1 : Int) (a0_2 : Int) (a0_3 : Int) (a0_4 : Int) (A0_5 : Option Addr) (c0_5 : Nat) (l0_5 : List Int) (A0_6 : Option Addr) (c0_6 : Nat) (l0_6 : List (S52)) (a0_7 : Int) (A0_8 : Option Addr) (c0_8 : Nat) (l0_8 : List (S54)) (A0_9 : Option Addr) (c0_9 : Nat) (l0_9 : List (S56)) (w : World)
    (hr0_5 : Kd.C (Kd.int .i64) w A0_5 l0_5.length l0_5) (hc0_5 : l0_5.length ≤ c0_5) (hr0_6 : Kd.C k52 w A0_6 l0_6.length l0_6) (hc0_6 : l0_6.length ≤ c0_6) (hr0_8 : Kd.C k54 w A0_8 l0_8.length l0_8) (hc0_8 : l0_8.length ≤ c0_8) (hr0_9 : Kd.C k56 w A0_9 l0_9.length l0_9) (hc0_9 : l0_9.length ≤ c0_9) :
    Calls Try.prog 20 #[.agg #[.int .i64 4, .int .i64 a0_1, .int .i64 a0_2, .int .i64 a0_3, .int .i64 a0_4, .slice A0_5 l0_5.length c0_5, .slice A0_6 l0_6.length c0_6, .int .i64 a0_7, .slice A0_8 l0_8.length c0_8, .slice A0_9 l0_9.length c0_9]] w fun e w' => e = .returned (errW (if (1 ≤ a0_1 ∧ 0 ≤ a0_2) ∧ (a0_3 = 0 ∧ a0_4 = 0 ∧ l0_5 = [] ∧ l0_6 = [] ∧ a0_7 = 0 ∧ l0_8 = [] ∧ l0_9 = []) then none else some 2)) ∧ Below w.heap.size w w' := by
  have hu30 := Try.underlying30
  have hu32 := Try.underlying32
  have hu44 := Try.underlying44
  have HR5 := Aside0.mk hr0_5
  have HR6 := Aside0.mk hr0_6
  have HR8 := Aside0.mk hr0_8
  have HR9 := Aside0.mk hr0_9
  have Hs := Aside0.mk (same_f 4 a0_1 a0_2 a0_3 a0_4 l0_5 l0_6 a0_7 l0_8 l0_9 4 a0_1 a0_2 0 0 [] [] 0 [] [] (Kd.C_max hr0_5) (Kd.C_max hr0_6) (Kd.C_max hr0_8) (Kd.C_max hr0_9) (l0_5.length + l0_6.length + l0_8.length + l0_9.length + 1) (by omega) (by omega) (by omega) (by omega))
  clear hr0_5 hr0_6 hr0_8 hr0_9
  by_cases g : 1 ≤ a0_1 ∧ 0 ≤ a0_2
  · have Hd := Aside0.mk (decide_eq_true g)
    by_cases v : a0_3 = 0 ∧ a0_4 = 0 ∧ l0_5 = [] ∧ l0_6 = [] ∧ a0_7 = 0 ∧ l0_8 = [] ∧ l0_9 = []
    · have Hv := Aside0.mk (Hs.out.trans (congrArg some (decide_eq_true (show _ from by simp [v]))))
      rw [if_pos ⟨g, v⟩]
      clear g v Hs
      go_enter Try.func20, Try.ntmps20
      go_wp2_with fail
      refine (said_4 a0_1 a0_2 a0_3 a0_4 A0_5 c0_5 l0_5 A0_6 c0_6 l0_6 a0_7 A0_8 c0_8 l0_8 A0_9 c0_9 l0_9 _ (Kd.C_alloc HR5.out _) hc0_5 (Kd.C_alloc HR6.out _) hc0_6 (Kd.C_alloc HR8.out _) hc0_8 (Kd.C_alloc HR9.out _) hc0_9 _ Hd.out).mono ?_
      rintro e w1 ⟨rfl, hb⟩
      have BK1 := Lib.hid (blk_below (heap_alloc_new w _) hb)
      have HB := Lib.hid (below_then (below_alloc (Below.refl w.heap.size w) _) (by rw [World.size_alloc]; omega) hb)
      clear hb
      obtain ⟨d_0, d_1, d_2, d_3, d_4, d_5, d_6, d_7, d_8, d_9⟩ := ten_cells BK1.out
      have hz : w.heap.size < w1.heap.size := blk_lt BK1.out
      have hz' : ¬ w.heap.size = w1.heap.size := by omega
      go_wp2_with fail
      refine (record_Same.calls (l0_5.length + l0_6.length + l0_8.length + l0_9.length + 1) 4 a0_1 a0_2 a0_3 a0_4 _ _ l0_5 _ _ l0_6 a0_7 _ _ l0_8 _ _ l0_9 4 a0_1 a0_2 0 0 _ _ [] _ _ [] 0 _ _ [] _ _ [] _ _ (Kd.C_alloc (Kd.C_below HR5.out HB.out) _) hc0_5 (Kd.C_alloc (Kd.C_below HR6.out HB.out) _) hc0_6 (Kd.C_alloc (Kd.C_below HR8.out HB.out) _) hc0_8 (Kd.C_alloc (Kd.C_below HR9.out HB.out) _) hc0_9 (Kd.C_nil _ _) (Nat.le_refl 0) (Kd.C_nil _ _) (Nat.le_refl 0) (Kd.C_nil _ _) (Nat.le_refl 0) (Kd.C_nil _ _) (Nat.le_refl 0) Hv.out).mono ?_
      rintro e w2 ⟨rfl, hb⟩
      have HB2 := Lib.hid (below_then (below_alloc HB.out _) (by rw [World.size_alloc]; omega) hb)
      clear hb
      go_wp2
      go_ret
      exact ⟨rfl, HB2.out⟩
    · have Hv := Aside0.mk (Hs.out.trans (congrArg some (decide_eq_false (show ¬ _ from fun h => v (by simpa using h)))))
      rw [if_neg fun h => v h.2]
      clear g v Hs
      go_enter Try.func20, Try.ntmps20
      go_wp2_with fail
      refine (said_4 a0_1 a0_2 a0_3 a0_4 A0_5 c0_5 l0_5 A0_6 c0_6 l0_6 a0_7 A0_8 c0_8 l0_8 A0_9 c0_9 l0_9 _ (Kd.C_alloc HR5.out _) hc0_5 (Kd.C_alloc HR6.out _) hc0_6 (Kd.C_alloc HR8.out _) hc0_8 (Kd.C_alloc HR9.out _) hc0_9 _ Hd.out).mono ?_
      rintro e w1 ⟨rfl, hb⟩
      have BK1 := Lib.hid (blk_below (heap_alloc_new w _) hb)
      have HB := Lib.hid (below_then (below_alloc (Below.refl w.heap.size w) _) (by rw [World.size_alloc]; omega) hb)
      clear hb
      obtain ⟨d_0, d_1, d_2, d_3, d_4, d_5, d_6, d_7, d_8, d_9⟩ := ten_cells BK1.out
      have hz : w.heap.size < w1.heap.size := blk_lt BK1.out
      have hz' : ¬ w.heap.size = w1.heap.size := by omega
      go_wp2_with fail
      refine (record_Same.calls (l0_5.length + l0_6.length + l0_8.length + l0_9.length + 1) 4 a0_1 a0_2 a0_3 a0_4 _ _ l0_5 _ _ l0_6 a0_7 _ _ l0_8 _ _ l0_9 4 a0_1 a0_2 0 0 _ _ [] _ _ [] 0 _ _ [] _ _ [] _ _ (Kd.C_alloc (Kd.C_below HR5.out HB.out) _) hc0_5 (Kd.C_alloc (Kd.C_below HR6.out HB.out) _) hc0_6 (Kd.C_alloc (Kd.C_below HR8.out HB.out) _) hc0_8 (Kd.C_alloc (Kd.C_below HR9.out HB.out) _) hc0_9 (Kd.C_nil _ _) (Nat.le_refl 0) (Kd.C_nil _ _) (Nat.le_refl 0) (Kd.C_nil _ _) (Nat.le_refl 0) (Kd.C_nil _ _) (Nat.le_refl 0) Hv.out).mono ?_
      rintro e w2 ⟨rfl, hb⟩
      have HB2 := Lib.hid (below_then (below_alloc HB.out _) (by rw [World.size_alloc]; omega) hb)
      clear hb
      go_wp2
      go_ret
      exact ⟨rfl, HB2.out⟩
  · have Hd := Aside0.mk (decide_eq_false g)
    rw [if_neg fun h => g h.1]
    clear g Hs
    go_enter Try.func20, Try.ntmps20
    go_wp2_with fail
    refine (said_4 a0_1 a0_2 a0_3 a0_4 A0_5 c0_5 l0_5 A0_6 c0_6 l0_6 a0_7 A0_8 c0_8 l0_8 A0_9 c0_9 l0_9 _ (Kd.C_alloc HR5.out _) hc0_5 (Kd.C_alloc HR6.out _) hc0_6 (Kd.C_alloc HR8.out _) hc0_8 (Kd.C_alloc HR9.out _) hc0_9 _ Hd.out).mono ?_
    rintro e w1 ⟨rfl, hb⟩
    have BK1 := Lib.hid (blk_below (heap_alloc_new w _) hb)
    have HB := Lib.hid (below_then (below_alloc (Below.refl w.heap.size w) _) (by rw [World.size_alloc]; omega) hb)
    clear hb
    obtain ⟨d_0, d_1, d_2, d_3, d_4, d_5, d_6, d_7, d_8, d_9⟩ := ten_cells BK1.out
    have hz : w.heap.size < w1.heap.size := blk_lt BK1.out
    have hz' : ¬ w.heap.size = w1.heap.size := by omega
    go_wp2
    go_ret
    exact ⟨rfl, below_alloc HB.out _⟩
set_option maxHeartbeats 4000000 in
set_option maxRecDepth 100000 in
theorem check_5 (a0_1 : Int) (a0_2 : Int) (a0_3 : Int) (a0_4 : Int) (A0_5 : Option Addr) (c0_5 : Nat) (l0_5 : List Int) (A0_6 : Option Addr) (c0_6 : Nat) (l0_6 : List (S52)) (a0_7 : Int) (A0_8 : Option Addr) (c0_8 : Nat) (l0_8 : List (S54)) (A0_9 : Option Addr) (c0_9 : Nat) (l0_9 : List (S56)) (w : World)
    (hr0_5 : Kd.C (Kd.int .i64) w A0_5 l0_5.length l0_5) (hc0_5 : l0_5.length ≤ c0_5) (hr0_6 : Kd.C k52 w A0_6 l0_6.length l0_6) (hc0_6 : l0_6.length ≤ c0_6) (hr0_8 : Kd.C k54 w A0_8 l0_8.length l0_8) (hc0_8 : l0_8.length ≤ c0_8) (hr0_9 : Kd.C k56 w A0_9 l0_9.length l0_9) (hc0_9 : l0_9.length ≤ c0_9) :
    Calls Try.prog 20 #[.agg #[.int .i64 5, .int .i64 a0_1, .int .i64 a0_2, .int .i64 a0_3, .int .i64 a0_4, .slice A0_5 l0_5.length c0_5, .slice A0_6 l0_6.length c0_6, .int .i64 a0_7, .slice A0_8 l0_8.length c0_8, .slice A0_9 l0_9.length c0_9]] w fun e w' => e = .returned (errW (if ((l0_8.length ≤ 64 ∧ l0_9.length ≤ 64 ∧ Ris (fun x => x.f0) z54 1024 l0_8 ∧ Ris (fun x => wrap64 (x.f0 - 1)) z56 4611686018427387904 l0_9) ∧ (∀ j, j < l0_8.length → 0 ≤ (l0_8.getD j z54).f1) ∧ (∀ j, j < l0_9.length → 0 ≤ (l0_9.getD j z56).f1 ∧ 0 ≤ (l0_9.getD j z56).f2 ∧ 0 ≤ (l0_9.getD j z56).f3)) ∧ (a0_1 = 0 ∧ a0_2 = 0 ∧ a0_3 = 0 ∧ a0_4 = 0 ∧ l0_5 = [] ∧ l0_6 = [] ∧ a0_7 = 0) then none else some 2)) ∧ Below w.heap.size w w' := by
  have hu30 := Try.underlying30
  have hu32 := Try.underlying32
  have hu44 := Try.underlying44
  have HR5 := Aside0.mk hr0_5
  have HR6 := Aside0.mk hr0_6
  have HR8 := Aside0.mk hr0_8
  have HR9 := Aside0.mk hr0_9
  have Hs := Aside0.mk (same_f 5 a0_1 a0_2 a0_3 a0_4 l0_5 l0_6 a0_7 l0_8 l0_9 5 0 0 0 0 [] [] 0 l0_8 l0_9 (Kd.C_max hr0_5) (Kd.C_max hr0_6) (Kd.C_max hr0_8) (Kd.C_max hr0_9) (l0_5.length + l0_6.length + l0_8.length + l0_9.length + 1) (by omega) (by omega) (by omega) (by omega))
  clear hr0_5 hr0_6 hr0_8 hr0_9
  by_cases g : (l0_8.length ≤ 64 ∧ l0_9.length ≤ 64 ∧ Ris (fun x => x.f0) z54 1024 l0_8 ∧ Ris (fun x => wrap64 (x.f0 - 1)) z56 4611686018427387904 l0_9) ∧ (∀ j, j < l0_8.length → 0 ≤ (l0_8.getD j z54).f1) ∧ (∀ j, j < l0_9.length → 0 ≤ (l0_9.getD j z56).f1 ∧ 0 ≤ (l0_9.getD j z56).f2 ∧ 0 ≤ (l0_9.getD j z56).f3)
  · have Hd := Aside0.mk (decide_eq_true g)
    by_cases v : a0_1 = 0 ∧ a0_2 = 0 ∧ a0_3 = 0 ∧ a0_4 = 0 ∧ l0_5 = [] ∧ l0_6 = [] ∧ a0_7 = 0
    · have Hv := Aside0.mk (Hs.out.trans (congrArg some (decide_eq_true (show _ from by simp [v]))))
      rw [if_pos ⟨g, v⟩]
      clear g v Hs
      go_enter Try.func20, Try.ntmps20
      go_wp2_with fail
      refine (said_5 a0_1 a0_2 a0_3 a0_4 A0_5 c0_5 l0_5 A0_6 c0_6 l0_6 a0_7 A0_8 c0_8 l0_8 A0_9 c0_9 l0_9 _ (Kd.C_alloc HR5.out _) hc0_5 (Kd.C_alloc HR6.out _) hc0_6 (Kd.C_alloc HR8.out _) hc0_8 (Kd.C_alloc HR9.out _) hc0_9 _ Hd.out).mono ?_
      rintro e w1 ⟨rfl, hb⟩
      have BK1 := Lib.hid (blk_below (heap_alloc_new w _) hb)
      have HB := Lib.hid (below_then (below_alloc (Below.refl w.heap.size w) _) (by rw [World.size_alloc]; omega) hb)
      clear hb
      obtain ⟨d_0, d_1, d_2, d_3, d_4, d_5, d_6, d_7, d_8, d_9⟩ := ten_cells BK1.out
      have hz : w.heap.size < w1.heap.size := blk_lt BK1.out
      have hz' : ¬ w.heap.size = w1.heap.size := by omega
      go_wp2_with fail
      refine (record_Same.calls (l0_5.length + l0_6.length + l0_8.length + l0_9.length + 1) 5 a0_1 a0_2 a0_3 a0_4 _ _ l0_5 _ _ l0_6 a0_7 _ _ l0_8 _ _ l0_9 5 0 0 0 0 _ _ [] _ _ [] 0 _ _ l0_8 _ _ l0_9 _ _ (Kd.C_alloc (Kd.C_below HR5.out HB.out) _) hc0_5 (Kd.C_alloc (Kd.C_below HR6.out HB.out) _) hc0_6 (Kd.C_alloc (Kd.C_below HR8.out HB.out) _) hc0_8 (Kd.C_alloc (Kd.C_below HR9.out HB.out) _) hc0_9 (Kd.C_nil _ _) (Nat.le_refl 0) (Kd.C_nil _ _) (Nat.le_refl 0) (Kd.C_alloc (Kd.C_below HR8.out HB.out) _) hc0_8 (Kd.C_alloc (Kd.C_below HR9.out HB.out) _) hc0_9 Hv.out).mono ?_
      rintro e w2 ⟨rfl, hb⟩
      have HB2 := Lib.hid (below_then (below_alloc HB.out _) (by rw [World.size_alloc]; omega) hb)
      clear hb
      go_wp2
      go_ret
      exact ⟨rfl, HB2.out⟩
    · have Hv := Aside0.mk (Hs.out.trans (congrArg some (decide_eq_false (show ¬ _ from fun h => v (by simpa using h)))))
      rw [if_neg fun h => v h.2]
      clear g v Hs
      go_enter Try.func20, Try.ntmps20
      go_wp2_with fail
      refine (said_5 a0_1 a0_2 a0_3 a0_4 A0_5 c0_5 l0_5 A0_6 c0_6 l0_6 a0_7 A0_8 c0_8 l0_8 A0_9 c0_9 l0_9 _ (Kd.C_alloc HR5.out _) hc0_5 (Kd.C_alloc HR6.out _) hc0_6 (Kd.C_alloc HR8.out _) hc0_8 (Kd.C_alloc HR9.out _) hc0_9 _ Hd.out).mono ?_
      rintro e w1 ⟨rfl, hb⟩
      have BK1 := Lib.hid (blk_below (heap_alloc_new w _) hb)
      have HB := Lib.hid (below_then (below_alloc (Below.refl w.heap.size w) _) (by rw [World.size_alloc]; omega) hb)
      clear hb
      obtain ⟨d_0, d_1, d_2, d_3, d_4, d_5, d_6, d_7, d_8, d_9⟩ := ten_cells BK1.out
      have hz : w.heap.size < w1.heap.size := blk_lt BK1.out
      have hz' : ¬ w.heap.size = w1.heap.size := by omega
      go_wp2_with fail
      refine (record_Same.calls (l0_5.length + l0_6.length + l0_8.length + l0_9.length + 1) 5 a0_1 a0_2 a0_3 a0_4 _ _ l0_5 _ _ l0_6 a0_7 _ _ l0_8 _ _ l0_9 5 0 0 0 0 _ _ [] _ _ [] 0 _ _ l0_8 _ _ l0_9 _ _ (Kd.C_alloc (Kd.C_below HR5.out HB.out) _) hc0_5 (Kd.C_alloc (Kd.C_below HR6.out HB.out) _) hc0_6 (Kd.C_alloc (Kd.C_below HR8.out HB.out) _) hc0_8 (Kd.C_alloc (Kd.C_below HR9.out HB.out) _) hc0_9 (Kd.C_nil _ _) (Nat.le_refl 0) (Kd.C_nil _ _) (Nat.le_refl 0) (Kd.C_alloc (Kd.C_below HR8.out HB.out) _) hc0_8 (Kd.C_alloc (Kd.C_below HR9.out HB.out) _) hc0_9 Hv.out).mono ?_
      rintro e w2 ⟨rfl, hb⟩
      have HB2 := Lib.hid (below_then (below_alloc HB.out _) (by rw [World.size_alloc]; omega) hb)
      clear hb
      go_wp2
      go_ret
      exact ⟨rfl, HB2.out⟩
  · have Hd := Aside0.mk (decide_eq_false g)
    rw [if_neg fun h => g h.1]
    clear g Hs
    go_enter Try.func20, Try.ntmps20
    go_wp2_with fail
    refine (said_5 a0_1 a0_2 a0_3 a0_4 A0_5 c0_5 l0_5 A0_6 c0_6 l0_6 a0_7 A0_8 c0_8 l0_8 A0_9 c0_9 l0_9 _ (Kd.C_alloc HR5.out _) hc0_5 (Kd.C_alloc HR6.out _) hc0_6 (Kd.C_alloc HR8.out _) hc0_8 (Kd.C_alloc HR9.out _) hc0_9 _ Hd.out).mono ?_
    rintro e w1 ⟨rfl, hb⟩
    have BK1 := Lib.hid (blk_below (heap_alloc_new w _) hb)
    have HB := Lib.hid (below_then (below_alloc (Below.refl w.heap.size w) _) (by rw [World.size_alloc]; omega) hb)
    clear hb
    obtain ⟨d_0, d_1, d_2, d_3, d_4, d_5, d_6, d_7, d_8, d_9⟩ := ten_cells BK1.out
    have hz : w.heap.size < w1.heap.size := blk_lt BK1.out
    have hz' : ¬ w.heap.size = w1.heap.size := by omega
    go_wp2
    go_ret
    exact ⟨rfl, below_alloc HB.out _⟩
set_option maxHeartbeats 4000000 in
set_option maxRecDepth 100000 in
theorem said_0 (a0_0 : Int) (a0_1 : Int) (a0_2 : Int) (a0_3 : Int) (a0_4 : Int) (A0_5 : Option Addr) (c0_5 : Nat) (l0_5 : List Int) (A0_6 : Option Addr) (c0_6 : Nat) (l0_6 : List (S52)) (a0_7 : Int) (A0_8 : Option Addr) (c0_8 : Nat) (l0_8 : List (S54)) (A0_9 : Option Addr) (c0_9 : Nat) (l0_9 : List (S56)) (w : World)
    (hr0_5 : Kd.C (Kd.int .i64) w A0_5 l0_5.length l0_5) (hc0_5 : l0_5.length ≤ c0_5) (hr0_6 : Kd.C k52 w A0_6 l0_6.length l0_6) (hc0_6 : l0_6.length ≤ c0_6) (hr0_8 : Kd.C k54 w A0_8 l0_8.length l0_8) (hc0_8 : l0_8.length ≤ c0_8) (hr0_9 : Kd.C k56 w A0_9 l0_9.length l0_9) (hc0_9 : l0_9.length ≤ c0_9) (hk : ¬ (1 ≤ a0_0 ∧ a0_0 ≤ 5)) :
    Calls Try.prog 35 #[.agg #[.int .i64 a0_0, .int .i64 a0_1, .int .i64 a0_2, .int .i64 a0_3, .int .i64 a0_4, .slice A0_5 l0_5.length c0_5, .slice A0_6 l0_6.length c0_6, .int .i64 a0_7, .slice A0_8 l0_8.length c0_8, .slice A0_9 l0_9.length c0_9]] w fun e w' => e = .returned (.tuple #[.agg #[.int .i64 a0_0, .int .i64 0, .int .i64 0, .int .i64 0, .int .i64 0, .slice none 0 0, .slice none 0 0, .int .i64 0, .slice none 0 0, .slice none 0 0], .bool false]) ∧ Below w.heap.size w w' := by
  have hu30 := Try.underlying30
  have q1 : (a0_0 == 1) = false := beq_eq_false_iff_ne.2 (by omega)
  have q2 : (a0_0 == 2) = false := beq_eq_false_iff_ne.2 (by omega)
  have q3 : (a0_0 == 3) = false := beq_eq_false_iff_ne.2 (by omega)
  have q4 : (a0_0 == 4) = false := beq_eq_false_iff_ne.2 (by omega)
  have q5 : (a0_0 == 5) = false := beq_eq_false_iff_ne.2 (by omega)
  clear hk hr0_5 hr0_6 hr0_8 hr0_9
  go_enter Try.func35, Try.ntmps35
  go_wp2
  exact bodyPost_ret (v := .tuple #[.agg #[.int .i64 a0_0, .int .i64 0, .int .i64 0, .int .i64 0, .int .i64 0, .slice none 0 0, .slice none 0 0, .int .i64 0, .slice none 0 0, .slice none 0 0], .bool false]) (by simp [results, Try.results35, go_sem]) rfl ⟨rfl, below_alloc (below_alloc (below_alloc (Below.refl _ _) _) _) _⟩
set_option maxHeartbeats 4000000 in
set_option maxRecDepth 100000 in
theorem check_0 (a0_0 : Int) (a0_1 : Int) (a0_2 : Int) (a0_3 : Int) (a0_4 : Int) (A0_5 : Option Addr) (c0_5 : Nat) (l0_5 : List Int) (A0_6 : Option Addr) (c0_6 : Nat) (l0_6 : List (S52)) (a0_7 : Int) (A0_8 : Option Addr) (c0_8 : Nat) (l0_8 : List (S54)) (A0_9 : Option Addr) (c0_9 : Nat) (l0_9 : List (S56)) (w : World)
    (hr0_5 : Kd.C (Kd.int .i64) w A0_5 l0_5.length l0_5) (hc0_5 : l0_5.length ≤ c0_5) (hr0_6 : Kd.C k52 w A0_6 l0_6.length l0_6) (hc0_6 : l0_6.length ≤ c0_6) (hr0_8 : Kd.C k54 w A0_8 l0_8.length l0_8) (hc0_8 : l0_8.length ≤ c0_8) (hr0_9 : Kd.C k56 w A0_9 l0_9.length l0_9) (hc0_9 : l0_9.length ≤ c0_9) (hk : ¬ (1 ≤ a0_0 ∧ a0_0 ≤ 5)) :
    Calls Try.prog 20 #[.agg #[.int .i64 a0_0, .int .i64 a0_1, .int .i64 a0_2, .int .i64 a0_3, .int .i64 a0_4, .slice A0_5 l0_5.length c0_5, .slice A0_6 l0_6.length c0_6, .int .i64 a0_7, .slice A0_8 l0_8.length c0_8, .slice A0_9 l0_9.length c0_9]] w fun e w' => e = .returned (errW (some 2)) ∧ Below w.heap.size w w' := by
  have hu30 := Try.underlying30
  have hu32 := Try.underlying32
  have hu44 := Try.underlying44
  have HR5 := Aside0.mk hr0_5
  have HR6 := Aside0.mk hr0_6
  have HR8 := Aside0.mk hr0_8
  have HR9 := Aside0.mk hr0_9
  have Hk := Aside0.mk hk
  clear hr0_5 hr0_6 hr0_8 hr0_9 hk
  go_enter Try.func20, Try.ntmps20
  go_wp2_with fail
  refine (said_0 a0_0 a0_1 a0_2 a0_3 a0_4 A0_5 c0_5 l0_5 A0_6 c0_6 l0_6 a0_7 A0_8 c0_8 l0_8 A0_9 c0_9 l0_9 _ (Kd.C_alloc HR5.out _) hc0_5 (Kd.C_alloc HR6.out _) hc0_6 (Kd.C_alloc HR8.out _) hc0_8 (Kd.C_alloc HR9.out _) hc0_9 Hk.out).mono ?_
  rintro e w1 ⟨rfl, hb⟩
  have BK1 := Lib.hid (blk_below (heap_alloc_new w _) hb)
  have HB := Lib.hid (below_then (below_alloc (Below.refl w.heap.size w) _) (by rw [World.size_alloc]; omega) hb)
  clear hb
  obtain ⟨d_0, d_1, d_2, d_3, d_4, d_5, d_6, d_7, d_8, d_9⟩ := ten_cells BK1.out
  have hz : w.heap.size < w1.heap.size := blk_lt BK1.out
  have hz' : ¬ w.heap.size = w1.heap.size := by omega
  go_wp2
  go_ret
  exact ⟨rfl, below_alloc HB.out _⟩
theorem if_congr_ {p q : Prop} [Decidable p] [Decidable q] {a b : Option Int} (h : p ↔ q) : (if p then a else b) = if q then a else b := by
  by_cases hp : p
  · rw [if_pos hp, if_pos (h.1 hp)]
  · rw [if_neg hp, if_neg fun hq => hp (h.2 hq)]
def Form (a0_0 a0_1 a0_2 a0_3 a0_4 : Int) (l0_5 : List Int) (l0_6 : List S52) (a0_7 : Int) (l0_8 : List S54) (l0_9 : List S56) : Prop :=
  (a0_0 = 1 ∧ (1 ≤ a0_1 ∧ 0 ≤ a0_2 ∧ OnPage a0_3 a0_4 l0_5 l0_6 false) ∧ (a0_7 = 0 ∧ l0_8 = [] ∧ l0_9 = [])) ∨ (a0_0 = 2 ∧ (1 ≤ a0_1 ∧ 0 ≤ a0_2 ∧ 0 ≤ a0_7 ∧ ((a0_3 = -1 ∧ a0_4 = 0 ∧ l0_5.length = 0 ∧ l0_6.length = 0) ∨ OnPage a0_3 a0_4 l0_5 l0_6 true)) ∧ (l0_8 = [] ∧ l0_9 = [])) ∨ ((a0_0 = 3 ∨ a0_0 = 4) ∧ (1 ≤ a0_1 ∧ 0 ≤ a0_2) ∧ (a0_3 = 0 ∧ a0_4 = 0 ∧ l0_5 = [] ∧ l0_6 = [] ∧ a0_7 = 0 ∧ l0_8 = [] ∧ l0_9 = [])) ∨ (a0_0 = 5 ∧ ((l0_8.length ≤ 64 ∧ l0_9.length ≤ 64 ∧ Ris (fun x => x.f0) z54 1024 l0_8 ∧ Ris (fun x => wrap64 (x.f0 - 1)) z56 4611686018427387904 l0_9) ∧ (∀ j, j < l0_8.length → 0 ≤ (l0_8.getD j z54).f1) ∧ (∀ j, j < l0_9.length → 0 ≤ (l0_9.getD j z56).f1 ∧ 0 ≤ (l0_9.getD j z56).f2 ∧ 0 ≤ (l0_9.getD j z56).f3)) ∧ (a0_1 = 0 ∧ a0_2 = 0 ∧ a0_3 = 0 ∧ a0_4 = 0 ∧ l0_5 = [] ∧ l0_6 = [] ∧ a0_7 = 0))
instance (a0_0 a0_1 a0_2 a0_3 a0_4 : Int) (l0_5 : List Int) (l0_6 : List S52) (a0_7 : Int) (l0_8 : List S54) (l0_9 : List S56) : Decidable (Form a0_0 a0_1 a0_2 a0_3 a0_4 l0_5 l0_6 a0_7 l0_8 l0_9) := by unfold Form; infer_instance
def record_Check.f (a0_0 a0_1 a0_2 a0_3 a0_4 : Int) (l0_5 : List Int) (l0_6 : List S52) (a0_7 : Int) (l0_8 : List S54) (l0_9 : List S56) : Option (Option Int) :=
  some (if Form a0_0 a0_1 a0_2 a0_3 a0_4 l0_5 l0_6 a0_7 l0_8 l0_9 then none else some 2)
theorem record_Check.calls (a0_0 : Int) (a0_1 : Int) (a0_2 : Int) (a0_3 : Int) (a0_4 : Int) (A0_5 : Option Addr) (c0_5 : Nat) (l0_5 : List Int) (A0_6 : Option Addr) (c0_6 : Nat) (l0_6 : List (S52)) (a0_7 : Int) (A0_8 : Option Addr) (c0_8 : Nat) (l0_8 : List (S54)) (A0_9 : Option Addr) (c0_9 : Nat) (l0_9 : List (S56))  (r : Option Int) (w : World)     (hr0_5 : Kd.C (Kd.int .i64) w A0_5 l0_5.length l0_5) (hc0_5 : l0_5.length ≤ c0_5) (hr0_6 : Kd.C k52 w A0_6 l0_6.length l0_6) (hc0_6 : l0_6.length ≤ c0_6) (hr0_8 : Kd.C k54 w A0_8 l0_8.length l0_8) (hc0_8 : l0_8.length ≤ c0_8) (hr0_9 : Kd.C k56 w A0_9 l0_9.length l0_9) (hc0_9 : l0_9.length ≤ c0_9) (h : record_Check.f a0_0 a0_1 a0_2 a0_3 a0_4 l0_5 l0_6 a0_7 l0_8 l0_9 = some r) :
    Calls Try.prog 20 #[.agg #[.int .i64 a0_0, .int .i64 a0_1, .int .i64 a0_2, .int .i64 a0_3, .int .i64 a0_4, .slice A0_5 l0_5.length c0_5, .slice A0_6 l0_6.length c0_6, .int .i64 a0_7, .slice A0_8 l0_8.length c0_8, .slice A0_9 l0_9.length c0_9]] w fun e w' => e = .returned (errW r) ∧ Below w.heap.size w w' := by
  obtain rfl := Option.some.inj h
  by_cases hk : 1 ≤ a0_0 ∧ a0_0 ≤ 5
  · rcases (show a0_0 = 1 ∨ a0_0 = 2 ∨ a0_0 = 3 ∨ a0_0 = 4 ∨ a0_0 = 5 by omega) with rfl | rfl | rfl | rfl | rfl
    · rw [show (if Form 1 a0_1 a0_2 a0_3 a0_4 l0_5 l0_6 a0_7 l0_8 l0_9 then none else some 2 : Option Int) = if (1 ≤ a0_1 ∧ 0 ≤ a0_2 ∧ OnPage a0_3 a0_4 l0_5 l0_6 false) ∧ (a0_7 = 0 ∧ l0_8 = [] ∧ l0_9 = []) then none else some 2 from if_congr_ (by unfold Form; constructor <;> intro h <;> simpa using h)]
      exact check_1 a0_1 a0_2 a0_3 a0_4 A0_5 c0_5 l0_5 A0_6 c0_6 l0_6 a0_7 A0_8 c0_8 l0_8 A0_9 c0_9 l0_9 w hr0_5 hc0_5 hr0_6 hc0_6 hr0_8 hc0_8 hr0_9 hc0_9
    · rw [show (if Form 2 a0_1 a0_2 a0_3 a0_4 l0_5 l0_6 a0_7 l0_8 l0_9 then none else some 2 : Option Int) = if (1 ≤ a0_1 ∧ 0 ≤ a0_2 ∧ 0 ≤ a0_7 ∧ ((a0_3 = -1 ∧ a0_4 = 0 ∧ l0_5.length = 0 ∧ l0_6.length = 0) ∨ OnPage a0_3 a0_4 l0_5 l0_6 true)) ∧ (l0_8 = [] ∧ l0_9 = []) then none else some 2 from if_congr_ (by unfold Form; constructor <;> intro h <;> simpa using h)]
      exact check_2 a0_1 a0_2 a0_3 a0_4 A0_5 c0_5 l0_5 A0_6 c0_6 l0_6 a0_7 A0_8 c0_8 l0_8 A0_9 c0_9 l0_9 w hr0_5 hc0_5 hr0_6 hc0_6 hr0_8 hc0_8 hr0_9 hc0_9
    · rw [show (if Form 3 a0_1 a0_2 a0_3 a0_4 l0_5 l0_6 a0_7 l0_8 l0_9 then none else some 2 : Option Int) = if (1 ≤ a0_1 ∧ 0 ≤ a0_2) ∧ (a0_3 = 0 ∧ a0_4 = 0 ∧ l0_5 = [] ∧ l0_6 = [] ∧ a0_7 = 0 ∧ l0_8 = [] ∧ l0_9 = []) then none else some 2 from if_congr_ (by unfold Form; constructor <;> intro h <;> simpa using h)]
      exact check_3 a0_1 a0_2 a0_3 a0_4 A0_5 c0_5 l0_5 A0_6 c0_6 l0_6 a0_7 A0_8 c0_8 l0_8 A0_9 c0_9 l0_9 w hr0_5 hc0_5 hr0_6 hc0_6 hr0_8 hc0_8 hr0_9 hc0_9
    · rw [show (if Form 4 a0_1 a0_2 a0_3 a0_4 l0_5 l0_6 a0_7 l0_8 l0_9 then none else some 2 : Option Int) = if (1 ≤ a0_1 ∧ 0 ≤ a0_2) ∧ (a0_3 = 0 ∧ a0_4 = 0 ∧ l0_5 = [] ∧ l0_6 = [] ∧ a0_7 = 0 ∧ l0_8 = [] ∧ l0_9 = []) then none else some 2 from if_congr_ (by unfold Form; constructor <;> intro h <;> simpa using h)]
      exact check_4 a0_1 a0_2 a0_3 a0_4 A0_5 c0_5 l0_5 A0_6 c0_6 l0_6 a0_7 A0_8 c0_8 l0_8 A0_9 c0_9 l0_9 w hr0_5 hc0_5 hr0_6 hc0_6 hr0_8 hc0_8 hr0_9 hc0_9
    · rw [show (if Form 5 a0_1 a0_2 a0_3 a0_4 l0_5 l0_6 a0_7 l0_8 l0_9 then none else some 2 : Option Int) = if ((l0_8.length ≤ 64 ∧ l0_9.length ≤ 64 ∧ Ris (fun x => x.f0) z54 1024 l0_8 ∧ Ris (fun x => wrap64 (x.f0 - 1)) z56 4611686018427387904 l0_9) ∧ (∀ j, j < l0_8.length → 0 ≤ (l0_8.getD j z54).f1) ∧ (∀ j, j < l0_9.length → 0 ≤ (l0_9.getD j z56).f1 ∧ 0 ≤ (l0_9.getD j z56).f2 ∧ 0 ≤ (l0_9.getD j z56).f3)) ∧ (a0_1 = 0 ∧ a0_2 = 0 ∧ a0_3 = 0 ∧ a0_4 = 0 ∧ l0_5 = [] ∧ l0_6 = [] ∧ a0_7 = 0) then none else some 2 from if_congr_ (by unfold Form; constructor <;> intro h <;> simpa using h)]
      exact check_5 a0_1 a0_2 a0_3 a0_4 A0_5 c0_5 l0_5 A0_6 c0_6 l0_6 a0_7 A0_8 c0_8 l0_8 A0_9 c0_9 l0_9 w hr0_5 hc0_5 hr0_6 hc0_6 hr0_8 hc0_8 hr0_9 hc0_9
  · rw [if_neg (by unfold Form; omega)]
    exact check_0 a0_0 a0_1 a0_2 a0_3 a0_4 A0_5 c0_5 l0_5 A0_6 c0_6 l0_6 a0_7 A0_8 c0_8 l0_8 A0_9 c0_9 l0_9 w hr0_5 hc0_5 hr0_6 hc0_6 hr0_8 hc0_8 hr0_9 hc0_9 hk
end Go.Proofs.Ytcplblpmgajmnaa.A
namespace Go.Proofs.Ytcplblpmgajmnaa.A
open Go.RowKit Go.Proofs.YtcplblpmgajmnaaW.PrintWords Go.Proofs.YtcplblpmgajmnaaW.PrintLast Go.Proofs.YtcplblpmgajmnaaW.PrintMore
attribute [local go_sem] max2_int min2_int max_two min_two max_three min_three max_four min_four   -- for this text's walks alone
set_option linter.unusedVariables false
set_option linter.unusedSimpArgs false
def slices_Clone_byte_byte.f (l0 : List Int) : Option (List Int) := if l0.length < 140737488355328 then some l0 else none
def slices_Clone_byte_byte.g (l0 : List Int) : Option (List Int) := (some (([] : List Int) : List Int)).bind fun y147 => (if y147.length + l0.length < 140737488355328 then (some (y147 ++ l0)) else (none))
theorem slices_Clone_byte_byte.fg (l0 : List Int) : slices_Clone_byte_byte.f l0 = slices_Clone_byte_byte.g l0 := by
  simp [slices_Clone_byte_byte.f, slices_Clone_byte_byte.g]
set_option maxHeartbeats 8000000 in
set_option maxRecDepth 100000 in
theorem slices_Clone_byte_byte.calls_some (ad0 : Addr) (c0 : Nat) (l0 : List Int) (r : List Int) (w : World) (hr0 : Kd.C (Kd.int .u8) w (some ad0) l0.length l0) (hc0 : l0.length ≤ c0) (h : slices_Clone_byte_byte.g l0 = some r) :
    Calls Try.prog 51 #[.slice (some ad0) l0.length c0] w fun e w' => ∃ v0_ : Value, e = .returned (v0_) ∧ Kd.R (Kd.int .u8) 5 w' w.heap.size (fun _ => True) v0_ r ∧ Below w.heap.size w w' := by
  have HR0 := Aside0.mk hr0
  have HC0 := Aside0.mk hc0
  clear hr0 hc0
  have HB := Aside0.mk (Below.refl w.heap.size w)
  have H : ((some (([] : List Int) : List Int)).bind fun y147 => (if y147.length + l0.length < 140737488355328 then (some (y147 ++ l0)) else (none))) = some r := h
  clear h
  obtain ⟨y147, hy147⟩ : ∃ y_ : List Int, y_ = (([] : List Int)) := ⟨_, rfl⟩
  replace H : (if y147.length + l0.length < 140737488355328 then (some (y147 ++ l0)) else (none)) = some r := by first | (rw [hy147]; with_reducible exact H) | (have H2_ := (Option.bind_some _ _).symm.trans H; rw [hy147]; with_reducible exact H2_) | (have H2_ := (Option.bind_some _ _).symm.trans H; with_reducible exact H2_) | with_reducible exact H | (rw [hy147]; exact H) | exact H
  have Ny147 := Aside0.mk hy147
  clear hy147
  by_cases c2 : y147.length + l0.length < 140737488355328
  · rw [if_pos c2] at H
    have LMc2 := Aside0.mk c2
    clear c2
    obtain ⟨y150, hy150⟩ : ∃ y_ : List Int, y_ = (y147 ++ l0) := ⟨_, rfl⟩
    replace H : (some y150) = some r := by first | (rw [hy150]; with_reducible exact H) | (have H2_ := (Option.bind_some _ _).symm.trans H; rw [hy150]; with_reducible exact H2_) | (have H2_ := (Option.bind_some _ _).symm.trans H; with_reducible exact H2_) | with_reducible exact H | (rw [hy150]; exact H) | exact H
    have Ny150 := Aside0.mk hy150
    clear hy150
    obtain rfl := Option.some.inj H
    have hnil := fun (w : World) => Lib.run_eql_slice_nil w 22 5 (some ad0) l0.length c0 0 0 Try.underlying22
    go_enter Try.func51, Try.ntmps51
    go_wp2_with (first | ((with_reducible refine gate_dst (N := 5) rfl ?_); refine Kd.R_lit (Kd.int .u8) _ 5 ?hg (N := 5) ?hd (xs := ([] : List Int)) (inner := []) (ok := fun _ => True) (okp := fun _ => True) ?hr ?hp (fun _ hk => hk) trivial (Below.refl _ _) (Nat.le_refl _) (by simp) ?_; (case hd => rfl); (case hg => rfl); (case hr => first | (go_simp; done) | (go_simp; rfl)); (case hp => exact (Reps.none _ _)); intro v148 w3 ho4 hb hg_ hnew_; clear hg_ hnew_; (first | rw [← Ny147.out] at ho4 | (simp only [Int.reduceToNat] at ho4; rw [← Ny147.out] at ho4)); have n0_ := Aside0.mk (Kd.R_lower ho4 (below_size (by repeat (first | (with_reducible first | exact HB.out | apply below_alloc | apply pw_below_drewN | apply below_drew1) | exact HB.out)))); have n1_ := Aside0.mk (below_step (by repeat (first | (with_reducible first | exact HB.out | apply below_alloc | apply pw_below_drewN | apply below_drew1) | exact HB.out)) hb); clear HB; have HO149 := n0_; have HB := n1_; clear n0_ n1_; clear hb ho4) | ((with_reducible refine gate_builtin (b := .append) (xs := #[.tmp 5, .tmp 6]) rfl ?_); at_builtin; refine Kd.R_append_rows (Kd.int .u8) (w0 := w) w.heap.size rfl (.tmp 5) (.tmp 6) 22 5 (.int .u8 0) 1 rfl Try.underlying22 info5 rfl (by decide) (by omega) v148 y147 l0 _ _ _ (fun _ => True) (fun _ => False) rfl rfl ?aO ?aR (fun _ _ h => h) (fun _ h => h.elim) ?aF ?aB ?aS ?aL ?_; (case aR => repeat (first | exact (Kd.C_below HR0.out HB.out) | (with_reducible refine Kd.C_alloc ?_ _) | (with_reducible refine Kd.C_drewN ?_ _) | (with_reducible refine Kd.C_drew ?_))); (case aB => exact (by repeat (first | (with_reducible first | exact HB.out | apply below_alloc | apply pw_below_drewN | apply below_drew1) | exact HB.out))); (case aF => exact (fun _ _ => trivial)); (case aO => exact (by (with_reducible repeat (first | apply Kd.R_alloc | apply Kd.R_drewN | apply Kd.R_drew)); exact HO149.out)); (case aS => exact (below_size (by repeat (first | (with_reducible first | exact HB.out | apply below_alloc | apply pw_below_drewN | apply below_drew1) | exact HB.out)))); (case aL => have := LMc2.out; omega); intro v151 w5 ho hb hg hat; rw [← Ny150.out] at ho; have n0_ := Aside0.mk (hb); have n1_ := Aside0.mk (ho); clear HB; clear HO149; have HB := n0_; have HO152 := n1_; clear n0_ n1_; clear ho hb hg hat))
    go_ret
    exact ⟨_, by first | rfl | (simp [errW_none, errW_some] <;> rfl) | (simp [*, errW_none, errW_some] <;> rfl), by (with_reducible repeat (first | apply Kd.R_alloc | apply Kd.R_drewN | apply Kd.R_drew)); exact HO152.out, by repeat (first | (with_reducible first | exact HB.out | apply below_alloc | apply pw_below_drewN | apply below_drew1) | exact HB.out)⟩
  · rw [if_neg c2] at H
    exact absurd H (by simp)
theorem slices_Clone_byte_byte.calls_none (c0 n : Nat) (w : World) :
    Calls Try.prog 51 #[.slice none n c0] w fun e w' => e = .returned (.slice none 0 0) ∧ w = w' := by
  have hnil := fun (w : World) => Lib.run_eql_slice_nil (P := Try.prog) w 22 5 none n c0 0 0 Try.underlying22
  go_enter Try.func51, Try.ntmps51
  go_wp2
  go_ret
  exact ⟨rfl, rfl⟩
theorem slices_Clone_byte_byte.calls (A0 : Option Addr) (c0 : Nat) (l0 : List Int) (r : List Int) (w : World) (hr0 : Kd.C (Kd.int .u8) w A0 l0.length l0) (hc0 : l0.length ≤ c0) (h : slices_Clone_byte_byte.f l0 = some r) :
    Calls Try.prog 51 #[.slice A0 l0.length c0] w fun e w' => ∃ v0_ : Value, e = .returned (v0_) ∧ Kd.R (Kd.int .u8) 5 w' w.heap.size (fun _ => True) v0_ r ∧ Below w.heap.size w w' := by
  cases A0 with
  | some ad0 => exact slices_Clone_byte_byte.calls_some ad0 c0 l0 r w hr0 hc0 (slices_Clone_byte_byte.fg l0 ▸ h)
  | none =>
    have hl : l0 = [] := by
      rcases Nat.eq_zero_or_pos l0.length with h0 | h0
      · exact List.eq_nil_of_length_eq_zero h0
      · obtain ⟨ad, e, _⟩ := Kd.at_int hr0 0 (by omega) (by omega)
        cases e
    subst hl
    have hr : r = [] := by simpa [slices_Clone_byte_byte.f] using h.symm
    subst hr
    refine (slices_Clone_byte_byte.calls_none c0 _ w).mono ?_
    rintro e w' ⟨rfl, rfl⟩
    exact ⟨_, rfl, Kd.R_nil _ _ _ _ _, Below.refl _ _⟩
end Go.Proofs.Ytcplblpmgajmnaa.A
namespace Go.Proofs.Ytcplblpmgajmnaa.A
open Go.RowKit Go.Proofs.YtcplblpmgajmnaaW.PrintWords Go.Proofs.YtcplblpmgajmnaaW.PrintLast Go.Proofs.YtcplblpmgajmnaaW.PrintMore
attribute [local go_sem] max2_int min2_int max_two min_two max_three min_three max_four min_four   -- for this text's walks alone
set_option linter.unusedVariables false
set_option linter.unusedSimpArgs false
def wire_Put.f (k : Nat) (l0 : List Int) (l1 : List Int) : Option (List Int) := (slices_Clone_byte_byte.f l0).bind fun t154 => ((wire_put.f k t154 l1).bind fun t157 => (some t157))
theorem wire_Put.mono : ∀ a0 a1 k, LeO (wire_Put.f k a0 a1) (wire_Put.f (k + 1) a0 a1) := by
  intro a0 a1 k
  unfold wire_Put.f
  repeat' first
      | (with_reducible exact wire_put.mono _ _ _)
      | (with_reducible exact LeO.refl _)
      | (with_reducible exact LeO.none _)
      | (with_reducible refine LeO.ite ?_ ?_)
      | (with_reducible refine LeO.bind ?_ (fun _ => ?_))
      | exact wire_put.mono _ _ _
      | exact LeO.none _
      | refine LeO.ite ?_ ?_
      | refine LeO.bind ?_ (fun _ => ?_)
set_option maxHeartbeats 8000000 in
set_option maxRecDepth 100000 in
theorem wire_Put.calls (k : Nat) (A0 : Option Addr) (c0 : Nat) (l0 : List Int) (A1 : Option Addr) (c1 : Nat) (l1 : List Int) (r : List Int) (w : World) (hr0 : Kd.C (Kd.int .u8) w A0 l0.length l0) (hc0 : l0.length ≤ c0) (hr1 : Kd.C (Kd.int .i64) w A1 l1.length l1) (hc1 : l1.length ≤ c1) (h : wire_Put.f k l0 l1 = some r) :
    Calls Try.prog 43 #[.slice A0 l0.length c0, .slice A1 l1.length c1] w fun e w' => ∃ v0_ : Value, e = .returned (v0_) ∧ Kd.R (Kd.int .u8) 5 w' w.heap.size (fun _ => True) v0_ r ∧ Below w.heap.size w w' := by
  have HR0 := Aside0.mk hr0
  have HC0 := Aside0.mk hc0
  clear hr0 hc0
  have HR1 := Aside0.mk hr1
  have HC1 := Aside0.mk hc1
  clear hr1 hc1
  have HB := Aside0.mk (Below.refl w.heap.size w)
  have H : ((slices_Clone_byte_byte.f l0).bind fun t154 => ((wire_put.f k t154 l1).bind fun t157 => (some t157))) = some r := h
  clear h
  replace H := Option.bind_eq_some_iff.mp H
  obtain ⟨t154, A30, H⟩ := H
  replace H : ((wire_put.f k t154 l1).bind fun t157 => (some t157)) = some r := H
  have A3 := Aside0.mk A30
  clear A30
  replace H := Option.bind_eq_some_iff.mp H
  obtain ⟨t157, A40, H⟩ := H
  replace H : (some t157) = some r := H
  have A4 := Aside0.mk A40
  clear A40
  obtain rfl := Option.some.inj H
  go_enter Try.func43, Try.ntmps43
  go_wp2_with (first | ((with_reducible refine gate_callee (f := 51) rfl ?_); refine goesL_ (some 6) rfl rfl Try.func51 (by kernel_rfl) rfl #[.slice A0 l0.length c0] rfl (by (try simp only [List.map_toArray, List.map_cons, List.map_nil]); first | done | rfl | (simp only [List.length_drop, List.length_take]; rfl)) ?_; (with_reducible refine (slices_Clone_byte_byte.calls _ _ l0 t154 _ ?side1 ?side2 A3.out).mono ?_); (case side1 => repeat (first | exact HR0.out | (with_reducible refine Kd.C_alloc ?_ _) | (with_reducible refine Kd.C_drewN ?_ _) | (with_reducible refine Kd.C_drew ?_))); (case side2 => exact HC0.out); rintro e w5 ⟨v155, rfl, ho0, hb⟩; refine ⟨_, rfl, ?_⟩; have n0_ := Aside0.mk (Kd.R_lower ho0 (below_size (by repeat (first | (with_reducible first | exact HB.out | apply below_alloc | apply pw_below_drewN | apply below_drew1) | exact HB.out)))); have n1_ := Aside0.mk (below_step (by repeat (first | (with_reducible first | exact HB.out | apply below_alloc | apply pw_below_drewN | apply below_drew1) | exact HB.out)) hb); clear HB; have HO156 := n0_; have HB := n1_; clear n0_ n1_; (try clear hb); (try clear hb2); (try clear hk); (try clear hi); (try clear ho0); obtain ⟨Ao6, co6, eo6⟩ := Kd.R_slice HO156.out; subst eo6) | ((with_reducible refine gate_callee (f := 52) rfl ?_); refine goesL_ (some 8) rfl rfl Try.func52 (by kernel_rfl) rfl #[.slice Ao6 t154.length co6, .slice A1 l1.length c1] rfl (by (try simp only [List.map_toArray, List.map_cons, List.map_nil]); first | done | rfl | (simp only [List.length_drop, List.length_take]; rfl)) ?_; (with_reducible refine (wire_put.calls k (fun k_ => some k_ = (.slice Ao6 t154.length co6 : Value).ownBlock) (.slice Ao6 t154.length co6) t154 _ _ l1 t157 w _ ?side1 ?side2 ?side3 ?side4 A4.out).mono ?_); (case side1 => repeat (first | (with_reducible first | exact HB.out | apply below_alloc | apply pw_below_drewN | apply below_drew1) | exact HB.out)); (case side2 => exact Kd.R_tight rfl HO156.out); (case side3 => exact Kd.C_kept_came (Kd.heap_int .i64) HR1.out (by repeat (first | (with_reducible first | exact HB.out | apply below_alloc | apply pw_below_drewN | apply below_drew1) | exact HB.out)) (fun k_ hs_ => (fun e_ => Kd.R_base HO156.out k_ e_.symm) hs_)); (case side4 => exact HC1.out); rintro e w7 ⟨v158, rfl, ho0, hb, hkp⟩; refine ⟨_, rfl, ?_⟩; have n0_ := Aside0.mk (Kd.R_mono (ok' := fun k_ => True) ho0 (fun k_ hk_ => trivial)); have n1_ := Aside0.mk (hb); clear HB; clear HO156; have HO159 := n0_; have HB := n1_; clear n0_ n1_; (try clear hb); (try clear hkp); (try clear ho0)))
  go_ret
  exact ⟨_, by first | rfl | (simp [errW_none, errW_some] <;> rfl) | (simp [*, errW_none, errW_some] <;> rfl), by (with_reducible repeat (first | apply Kd.R_alloc | apply Kd.R_drewN | apply Kd.R_drew)); exact HO159.out, by repeat (first | (with_reducible first | exact HB.out | apply below_alloc | apply pw_below_drewN | apply below_drew1) | exact HB.out)⟩
end Go.Proofs.Ytcplblpmgajmnaa.A
