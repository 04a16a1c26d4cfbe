/-
  Joined by wip/prune.py out of: HSaid1, HSaid2, HSaid3, HSaid5, HCheck, HClone, AxF43, AxF30, AxF18, PureD.
-/
import Derived.Test.YtcplblpmgajmnaaBe2
import Derived.Lib.Hide
import Derived.Outline
import Derived.BigRegion
import Derived.Lib.SliceRun
namespace Go.Proofs.Ytcplblpmgajmnaa.A
open Go.RowKit Go.Proofs.YtcplblpmgajmnaaW.PrintWords Go.Proofs.YtcplblpmgajmnaaW.PrintLast Go.Proofs.YtcplblpmgajmnaaW.PrintMore
set_option linter.unusedVariables false
set_option linter.unusedSimpArgs false
set_option maxHeartbeats 4000000 in
set_option maxRecDepth 100000 in
theorem said_1 (a0_1 : Int) (a0_2 : Int) (a0_3 : Int) (a0_4 : Int) (A0_5 : Option Addr) (c0_5 : Nat) (l0_5 : List Int) (A0_6 : Option Addr) (c0_6 : Nat) (l0_6 : List (S52)) (a0_7 : Int) (A0_8 : Option Addr) (c0_8 : Nat) (l0_8 : List (S54)) (A0_9 : Option Addr) (c0_9 : Nat) (l0_9 : List (S56)) (w : World)
    (hr0_5 : Kd.C (Kd.int .i64) w A0_5 l0_5.length l0_5) (hc0_5 : l0_5.length ≤ c0_5) (hr0_6 : Kd.C k52 w A0_6 l0_6.length l0_6) (hc0_6 : l0_6.length ≤ c0_6) (hr0_8 : Kd.C k54 w A0_8 l0_8.length l0_8) (hc0_8 : l0_8.length ≤ c0_8) (hr0_9 : Kd.C k56 w A0_9 l0_9.length l0_9) (hc0_9 : l0_9.length ≤ c0_9)
    (b : Bool) (hb : decide (1 ≤ a0_1 ∧ 0 ≤ a0_2 ∧ OnPage a0_3 a0_4 l0_5 l0_6 false) = b) :
    Calls Try.prog 35 #[.agg #[.int .i64 1, .int .i64 a0_1, .int .i64 a0_2, .int .i64 a0_3, .int .i64 a0_4, .slice A0_5 l0_5.length c0_5, .slice A0_6 l0_6.length c0_6, .int .i64 a0_7, .slice A0_8 l0_8.length c0_8, .slice A0_9 l0_9.length c0_9]] w fun e w' => e = .returned (.tuple #[.agg #[.int .i64 1, .int .i64 a0_1, .int .i64 a0_2, .int .i64 a0_3, .int .i64 a0_4, .slice A0_5 l0_5.length c0_5, .slice A0_6 l0_6.length c0_6, .int .i64 0, .slice none 0 0, .slice none 0 0], .bool b]) ∧ Below w.heap.size w w' := by
  have hu30 := Try.underlying30
  have HR5 := Aside0.mk hr0_5
  have HR6 := Aside0.mk hr0_6
  have HR8 := Aside0.mk hr0_8
  have HR9 := Aside0.mk hr0_9
  have Hon := Aside0.mk (onPage_f 1 a0_1 a0_2 a0_3 a0_4 l0_5 l0_6 a0_7 l0_8 l0_9 false (Kd.C_max hr0_6) (l0_6.length + 1) (by omega))
  clear hr0_5 hr0_6 hr0_8 hr0_9
  have Hb := Aside0.mk hb
  clear hb
  go_enter Try.func35, Try.ntmps35
  go_wp2
  go_region
  go_upto_region 23 with (fail)
  go_cut [10] (fun v10 wc => ∃ g0 : Bool, v10 = .bool g0 ∧ Hid (g0 = decide (1 ≤ a0_1 ∧ 0 ≤ a0_2)) ∧ wc.heap[w.heap.size]? = some (.cells #[.int .i64 1, .int .i64 a0_1, .int .i64 a0_2, .int .i64 a0_3, .int .i64 a0_4, .slice A0_5 l0_5.length c0_5, .slice A0_6 l0_6.length c0_6, .int .i64 a0_7, .slice A0_8 l0_8.length c0_8, .slice A0_9 l0_9.length c0_9] 30 (0, 0)) ∧ wc.heap[w.heap.size + 1]? = some (.cells #[.int .i64 0, .int .i64 0, .int .i64 0, .int .i64 0, .int .i64 0, .slice none 0 0, .slice none 0 0, .int .i64 0, .slice none 0 0, .slice none 0 0] 30 (0, 0)) ∧ wc.heap[w.heap.size + 1 + 1]? = some (.cells #[.int .i64 1, .int .i64 a0_1, .int .i64 a0_2, .int .i64 0, .int .i64 0, .slice none 0 0, .slice none 0 0, .int .i64 0, .slice none 0 0, .slice none 0 0] 30 (0, 0)) ∧ Below w.heap.size w wc)
  case first =>
    by_cases h1 : 1 ≤ a0_1
    · by_cases h2 : 0 ≤ a0_2
      · go_wp2
        go_meet
        case rel => exact ⟨_, rfl, Lib.hid (decide_eq_true ⟨h1, h2⟩).symm, three_of _ rfl⟩
      · go_wp2
        go_meet
        case rel => exact ⟨_, rfl, Lib.hid (decide_eq_false fun h => by omega).symm, three_of _ rfl⟩
    · go_wp2
      go_meet
      case rel => exact ⟨_, rfl, Lib.hid (decide_eq_false fun h => by omega).symm, three_of _ rfl⟩
  case rest =>
    obtain ⟨g0, rfl, Hg, BK1, BK2, BK4, HB⟩ := hcut
    obtain ⟨d_0, d_1, d_2, d_3, d_4, d_5, d_6, d_7, d_8, d_9⟩ := ten_cells BK1
    obtain ⟨e_0, e_1, e_2, e_3, e_4, e_5, e_6, e_7, e_8, e_9⟩ := ten_cells BK4
    have hfr := ten_free BK4
    replace BK1 := Lib.hid BK1
    replace BK2 := Lib.hid BK2
    replace BK4 := Lib.hid BK4
    replace HB := Lib.hid HB
    go_wp2
    go_upto_region 25 with (fail)
    go_cut [3] (fun v3 wc => v3 = .bool false ∧ wc.heap[w.heap.size]? = some (.cells #[.int .i64 1, .int .i64 a0_1, .int .i64 a0_2, .int .i64 a0_3, .int .i64 a0_4, .slice A0_5 l0_5.length c0_5, .slice A0_6 l0_6.length c0_6, .int .i64 a0_7, .slice A0_8 l0_8.length c0_8, .slice A0_9 l0_9.length c0_9] 30 (0, 0)) ∧ wc.heap[w.heap.size + 1]? = some (.cells #[.int .i64 0, .int .i64 0, .int .i64 0, .int .i64 0, .int .i64 0, .slice none 0 0, .slice none 0 0, .int .i64 0, .slice none 0 0, .slice none 0 0] 30 (0, 0)) ∧ wc.heap[w.heap.size + 1 + 1]? = some (.cells #[.int .i64 1, .int .i64 a0_1, .int .i64 a0_2, .int .i64 a0_3, .int .i64 a0_4, .slice A0_5 l0_5.length c0_5, .slice A0_6 l0_6.length c0_6, .int .i64 0, .slice none 0 0, .slice none 0 0] 30 (0, 0)) ∧ Below w.heap.size w wc)
    case first =>
      go_region
      go_wp2
      go_meet
      have s0 := blk_put (cs' := #[.int .i64 1, .int .i64 a0_1, .int .i64 a0_2, .int .i64 a0_3, .int .i64 0, .slice none 0 0, .slice none 0 0, .int .i64 0, .slice none 0 0, .slice none 0 0]) BK4.out 3 (.int .i64 a0_3) rfl
      have s1 := blk_put (cs' := #[.int .i64 1, .int .i64 a0_1, .int .i64 a0_2, .int .i64 a0_3, .int .i64 a0_4, .slice none 0 0, .slice none 0 0, .int .i64 0, .slice none 0 0, .slice none 0 0]) s0 4 (.int .i64 a0_4) rfl
      have s2 := blk_put (cs' := #[.int .i64 1, .int .i64 a0_1, .int .i64 a0_2, .int .i64 a0_3, .int .i64 a0_4, .slice A0_5 l0_5.length c0_5, .slice none 0 0, .int .i64 0, .slice none 0 0, .slice none 0 0]) s1 5 (.slice A0_5 l0_5.length c0_5) rfl
      have s3 := blk_put (cs' := #[.int .i64 1, .int .i64 a0_1, .int .i64 a0_2, .int .i64 a0_3, .int .i64 a0_4, .slice A0_5 l0_5.length c0_5, .slice A0_6 l0_6.length c0_6, .int .i64 0, .slice none 0 0, .slice none 0 0]) s2 6 (.slice A0_6 l0_6.length c0_6) rfl
      case rel => exact ⟨rfl, by (with_reducible repeat (first | refine blk_drew ?_ | refine blk_far ?_ (by dsimp only; omega) _)); exact BK1.out, by (with_reducible repeat (first | refine blk_drew ?_ | refine blk_far ?_ (by dsimp only; omega) _)); exact BK2.out, by (with_reducible repeat (refine blk_drew ?_)); exact s3, by (with_reducible repeat (first | refine below_drew1 ?_ | refine below_set ?_ (by omega))); exact HB.out⟩
    case rest =>
      clear BK1 BK2 BK4 HB
      clear d_0 d_1 d_2 d_3 d_4 d_5 d_6 d_7 d_8 d_9 e_0 e_1 e_2 e_3 e_4 e_5 e_6 e_7 e_8 e_9 hfr
      obtain ⟨rfl, BK1, BK2, BK4, HB⟩ := hcut
      obtain ⟨d_0, d_1, d_2, d_3, d_4, d_5, d_6, d_7, d_8, d_9⟩ := ten_cells BK1
      obtain ⟨e_0, e_1, e_2, e_3, e_4, e_5, e_6, e_7, e_8, e_9⟩ := ten_cells BK4
      have hfr := ten_free BK4
      replace BK1 := Lib.hid BK1
      replace BK2 := Lib.hid BK2
      replace BK4 := Lib.hid BK4
      replace HB := Lib.hid HB
      have hg := Hg.out
      cases g0 with
      | true =>
        have hg' : 1 ≤ a0_1 ∧ 0 ≤ a0_2 := of_decide_eq_true hg.symm
        obtain rfl : decide (OnPage a0_3 a0_4 l0_5 l0_6 false) = b := by rw [← Hb.out]; simp [hg'.1, hg'.2]
        clear Hb Hg hg hg'
        go_wp2_with fail
        refine (record_onPage.calls (l0_6.length + 1) 1 a0_1 a0_2 a0_3 a0_4 _ _ l0_5 _ _ l0_6 a0_7 _ _ l0_8 _ _ l0_9 false _ _ (Kd.C_below HR5.out HB.out) hc0_5 (Kd.C_below HR6.out HB.out) hc0_6 (Kd.C_below HR8.out HB.out) hc0_8 (Kd.C_below HR9.out HB.out) hc0_9 Hon.out).mono ?_
        rintro e w1 ⟨rfl, hb⟩
        have BK2 := blk_below BK2.out hb
        have BK4 := blk_below BK4.out hb
        have HB := below_then HB.out (Nat.le_trans (Nat.le_of_lt (blk_lt BK1.out)) (Nat.le_refl _)) hb
        clear hb
        obtain ⟨x_0, x_1, x_2, x_3, x_4, x_5, x_6, x_7, x_8, x_9⟩ := ten_cells BK2
        obtain ⟨y_0, y_1, y_2, y_3, y_4, y_5, y_6, y_7, y_8, y_9⟩ := ten_cells BK4
        have hfx := ten_free BK2
        replace BK2 := Lib.hid BK2
        replace BK4 := Lib.hid BK4
        replace HB := Lib.hid HB
        go_wp2
        refine bodyPost_ret (results_ct rfl _ _ (w.heap.size + 1) 30 #[.int .i64 1, .int .i64 a0_1, .int .i64 a0_2, .int .i64 a0_3, .int .i64 a0_4, .slice A0_5 l0_5.length c0_5, .slice A0_6 l0_6.length c0_6, .int .i64 0, .slice none 0 0, .slice none 0 0] (0, 0) _ rfl (by with_reducible exact blk_put10 BK2.out _ _ _ _ _ _ _ _ _ _) Try.underlying30 rfl (by kernel_rfl)) rfl ⟨rfl, by (with_reducible repeat (refine below_set ?_ (by omega))); exact HB.out⟩
      | false =>
        have hg' : ¬ (1 ≤ a0_1 ∧ 0 ≤ a0_2) := of_decide_eq_false hg.symm
        obtain rfl : false = b := by rw [← Hb.out, decide_eq_false]; exact fun h => hg' ⟨h.1, h.2.1⟩
        clear Hb Hg hg hg'
        obtain ⟨x_0, x_1, x_2, x_3, x_4, x_5, x_6, x_7, x_8, x_9⟩ := ten_cells BK2.out
        have hfx := ten_free BK2.out
        go_wp2
        refine bodyPost_ret (results_ct rfl _ _ (w.heap.size + 1) 30 #[.int .i64 1, .int .i64 a0_1, .int .i64 a0_2, .int .i64 a0_3, .int .i64 a0_4, .slice A0_5 l0_5.length c0_5, .slice A0_6 l0_6.length c0_6, .int .i64 0, .slice none 0 0, .slice none 0 0] (0, 0) _ rfl (by with_reducible exact blk_put10 BK2.out _ _ _ _ _ _ _ _ _ _) Try.underlying30 rfl (by kernel_rfl)) rfl ⟨rfl, by (with_reducible repeat (refine below_set ?_ (by omega))); exact HB.out⟩
set_option maxHeartbeats 4000000 in
set_option maxRecDepth 100000 in
theorem said_2 (a0_1 : Int) (a0_2 : Int) (a0_3 : Int) (a0_4 : Int) (A0_5 : Option Addr) (c0_5 : Nat) (l0_5 : List Int) (A0_6 : Option Addr) (c0_6 : Nat) (l0_6 : List (S52)) (a0_7 : Int) (A0_8 : Option Addr) (c0_8 : Nat) (l0_8 : List (S54)) (A0_9 : Option Addr) (c0_9 : Nat) (l0_9 : List (S56)) (w : World)
    (hr0_5 : Kd.C (Kd.int .i64) w A0_5 l0_5.length l0_5) (hc0_5 : l0_5.length ≤ c0_5) (hr0_6 : Kd.C k52 w A0_6 l0_6.length l0_6) (hc0_6 : l0_6.length ≤ c0_6) (hr0_8 : Kd.C k54 w A0_8 l0_8.length l0_8) (hc0_8 : l0_8.length ≤ c0_8) (hr0_9 : Kd.C k56 w A0_9 l0_9.length l0_9) (hc0_9 : l0_9.length ≤ c0_9)
    (b : Bool) (hb : decide (1 ≤ a0_1 ∧ 0 ≤ a0_2 ∧ 0 ≤ a0_7 ∧ ((a0_3 = -1 ∧ a0_4 = 0 ∧ l0_5.length = 0 ∧ l0_6.length = 0) ∨ OnPage a0_3 a0_4 l0_5 l0_6 true)) = b) :
    Calls Try.prog 35 #[.agg #[.int .i64 2, .int .i64 a0_1, .int .i64 a0_2, .int .i64 a0_3, .int .i64 a0_4, .slice A0_5 l0_5.length c0_5, .slice A0_6 l0_6.length c0_6, .int .i64 a0_7, .slice A0_8 l0_8.length c0_8, .slice A0_9 l0_9.length c0_9]] w fun e w' => e = .returned (.tuple #[.agg #[.int .i64 2, .int .i64 a0_1, .int .i64 a0_2, .int .i64 a0_3, .int .i64 a0_4, .slice A0_5 l0_5.length c0_5, .slice A0_6 l0_6.length c0_6, .int .i64 a0_7, .slice none 0 0, .slice none 0 0], .bool b]) ∧ Below w.heap.size w w' := by
  have hu30 := Try.underlying30
  have HR5 := Aside0.mk hr0_5
  have HR6 := Aside0.mk hr0_6
  have HR8 := Aside0.mk hr0_8
  have HR9 := Aside0.mk hr0_9
  have Hon := Aside0.mk (onPage_f 2 a0_1 a0_2 a0_3 a0_4 l0_5 l0_6 a0_7 l0_8 l0_9 true (Kd.C_max hr0_6) (l0_6.length + 1) (by omega))
  have m5 := Kd.C_max hr0_5
  have m6 := Kd.C_max hr0_6
  clear hr0_5 hr0_6 hr0_8 hr0_9
  have Hb := Aside0.mk hb
  clear hb
  go_enter Try.func35, Try.ntmps35
  go_wp2
  go_region
  go_upto_region 23 with (fail)
  go_cut [10] (fun v10 wc => ∃ g0 : Bool, v10 = .bool g0 ∧ Hid (g0 = decide (1 ≤ a0_1 ∧ 0 ≤ a0_2)) ∧ wc.heap[w.heap.size]? = some (.cells #[.int .i64 2, .int .i64 a0_1, .int .i64 a0_2, .int .i64 a0_3, .int .i64 a0_4, .slice A0_5 l0_5.length c0_5, .slice A0_6 l0_6.length c0_6, .int .i64 a0_7, .slice A0_8 l0_8.length c0_8, .slice A0_9 l0_9.length c0_9] 30 (0, 0)) ∧ wc.heap[w.heap.size + 1]? = some (.cells #[.int .i64 0, .int .i64 0, .int .i64 0, .int .i64 0, .int .i64 0, .slice none 0 0, .slice none 0 0, .int .i64 0, .slice none 0 0, .slice none 0 0] 30 (0, 0)) ∧ wc.heap[w.heap.size + 1 + 1]? = some (.cells #[.int .i64 2, .int .i64 a0_1, .int .i64 a0_2, .int .i64 0, .int .i64 0, .slice none 0 0, .slice none 0 0, .int .i64 0, .slice none 0 0, .slice none 0 0] 30 (0, 0)) ∧ Below w.heap.size w wc)
  case first =>
    by_cases h1 : 1 ≤ a0_1
    · by_cases h2 : 0 ≤ a0_2
      · go_wp2
        go_meet
        case rel => exact ⟨_, rfl, Lib.hid (decide_eq_true ⟨h1, h2⟩).symm, three_of _ rfl⟩
      · go_wp2
        go_meet
        case rel => exact ⟨_, rfl, Lib.hid (decide_eq_false fun h => by omega).symm, three_of _ rfl⟩
    · go_wp2
      go_meet
      case rel => exact ⟨_, rfl, Lib.hid (decide_eq_false fun h => by omega).symm, three_of _ rfl⟩
  case rest =>
    obtain ⟨g0, rfl, Hg, BK1, BK2, BK4, HB⟩ := hcut
    obtain ⟨d_0, d_1, d_2, d_3, d_4, d_5, d_6, d_7, d_8, d_9⟩ := ten_cells BK1
    obtain ⟨e_0, e_1, e_2, e_3, e_4, e_5, e_6, e_7, e_8, e_9⟩ := ten_cells BK4
    have hfr := ten_free BK4
    replace BK1 := Lib.hid BK1
    replace BK2 := Lib.hid BK2
    replace BK4 := Lib.hid BK4
    replace HB := Lib.hid HB
    go_wp2
    go_upto_region 25 with (fail)
    go_cut [3] (fun v3 wc => v3 = .bool false ∧ wc.heap[w.heap.size]? = some (.cells #[.int .i64 2, .int .i64 a0_1, .int .i64 a0_2, .int .i64 a0_3, .int .i64 a0_4, .slice A0_5 l0_5.length c0_5, .slice A0_6 l0_6.length c0_6, .int .i64 a0_7, .slice A0_8 l0_8.length c0_8, .slice A0_9 l0_9.length c0_9] 30 (0, 0)) ∧ wc.heap[w.heap.size + 1]? = some (.cells #[.int .i64 0, .int .i64 0, .int .i64 0, .int .i64 0, .int .i64 0, .slice none 0 0, .slice none 0 0, .int .i64 0, .slice none 0 0, .slice none 0 0] 30 (0, 0)) ∧ wc.heap[w.heap.size + 1 + 1]? = some (.cells #[.int .i64 2, .int .i64 a0_1, .int .i64 a0_2, .int .i64 a0_3, .int .i64 a0_4, .slice A0_5 l0_5.length c0_5, .slice A0_6 l0_6.length c0_6, .int .i64 0, .slice none 0 0, .slice none 0 0] 30 (0, 0)) ∧ Below w.heap.size w wc)
    case first =>
      go_region
      go_wp2
      go_meet
      have s0 := blk_put (cs' := #[.int .i64 2, .int .i64 a0_1, .int .i64 a0_2, .int .i64 a0_3, .int .i64 0, .slice none 0 0, .slice none 0 0, .int .i64 0, .slice none 0 0, .slice none 0 0]) BK4.out 3 (.int .i64 a0_3) rfl
      have s1 := blk_put (cs' := #[.int .i64 2, .int .i64 a0_1, .int .i64 a0_2, .int .i64 a0_3, .int .i64 a0_4, .slice none 0 0, .slice none 0 0, .int .i64 0, .slice none 0 0, .slice none 0 0]) s0 4 (.int .i64 a0_4) rfl
      have s2 := blk_put (cs' := #[.int .i64 2, .int .i64 a0_1, .int .i64 a0_2, .int .i64 a0_3, .int .i64 a0_4, .slice A0_5 l0_5.length c0_5, .slice none 0 0, .int .i64 0, .slice none 0 0, .slice none 0 0]) s1 5 (.slice A0_5 l0_5.length c0_5) rfl
      have s3 := blk_put (cs' := #[.int .i64 2, .int .i64 a0_1, .int .i64 a0_2, .int .i64 a0_3, .int .i64 a0_4, .slice A0_5 l0_5.length c0_5, .slice A0_6 l0_6.length c0_6, .int .i64 0, .slice none 0 0, .slice none 0 0]) s2 6 (.slice A0_6 l0_6.length c0_6) rfl
      case rel => exact ⟨rfl, by (with_reducible repeat (first | refine blk_drew ?_ | refine blk_far ?_ (by dsimp only; omega) _)); exact BK1.out, by (with_reducible repeat (first | refine blk_drew ?_ | refine blk_far ?_ (by dsimp only; omega) _)); exact BK2.out, by (with_reducible repeat (refine blk_drew ?_)); exact s3, by (with_reducible repeat (first | refine below_drew1 ?_ | refine below_set ?_ (by omega))); exact HB.out⟩
    case rest =>
      clear BK1 BK2 BK4 HB
      clear d_0 d_1 d_2 d_3 d_4 d_5 d_6 d_7 d_8 d_9 e_0 e_1 e_2 e_3 e_4 e_5 e_6 e_7 e_8 e_9 hfr
      obtain ⟨rfl, BK1, BK2, BK4, HB⟩ := hcut
      obtain ⟨d_0, d_1, d_2, d_3, d_4, d_5, d_6, d_7, d_8, d_9⟩ := ten_cells BK1
      obtain ⟨e_0, e_1, e_2, e_3, e_4, e_5, e_6, e_7, e_8, e_9⟩ := ten_cells BK4
      have hfr := ten_free BK4
      replace BK1 := Lib.hid BK1
      replace BK2 := Lib.hid BK2
      replace BK4 := Lib.hid BK4
      replace HB := Lib.hid HB
      go_upto_region 30 with (fail)
      go_cut [3] (fun v3 wc => v3 = .bool false ∧ wc.heap[w.heap.size]? = some (.cells #[.int .i64 2, .int .i64 a0_1, .int .i64 a0_2, .int .i64 a0_3, .int .i64 a0_4, .slice A0_5 l0_5.length c0_5, .slice A0_6 l0_6.length c0_6, .int .i64 a0_7, .slice A0_8 l0_8.length c0_8, .slice A0_9 l0_9.length c0_9] 30 (0, 0)) ∧ wc.heap[w.heap.size + 1]? = some (.cells #[.int .i64 0, .int .i64 0, .int .i64 0, .int .i64 0, .int .i64 0, .slice none 0 0, .slice none 0 0, .int .i64 0, .slice none 0 0, .slice none 0 0] 30 (0, 0)) ∧ wc.heap[w.heap.size + 1 + 1]? = some (.cells #[.int .i64 2, .int .i64 a0_1, .int .i64 a0_2, .int .i64 a0_3, .int .i64 a0_4, .slice A0_5 l0_5.length c0_5, .slice A0_6 l0_6.length c0_6, .int .i64 a0_7, .slice none 0 0, .slice none 0 0] 30 (0, 0)) ∧ Below w.heap.size w wc)
      case first =>
        skip
        go_wp2
        go_meet
        have s0 := blk_put (cs' := #[.int .i64 2, .int .i64 a0_1, .int .i64 a0_2, .int .i64 a0_3, .int .i64 a0_4, .slice A0_5 l0_5.length c0_5, .slice A0_6 l0_6.length c0_6, .int .i64 a0_7, .slice none 0 0, .slice none 0 0]) BK4.out 7 (.int .i64 a0_7) rfl
        case rel => exact ⟨rfl, by (with_reducible repeat (first | refine blk_drew ?_ | refine blk_far ?_ (by dsimp only; omega) _)); exact BK1.out, by (with_reducible repeat (first | refine blk_drew ?_ | refine blk_far ?_ (by dsimp only; omega) _)); exact BK2.out, by (with_reducible repeat (refine blk_drew ?_)); exact s0, by (with_reducible repeat (first | refine below_drew1 ?_ | refine below_set ?_ (by omega))); exact HB.out⟩
      case rest =>
        clear BK1 BK2 BK4 HB
        clear d_0 d_1 d_2 d_3 d_4 d_5 d_6 d_7 d_8 d_9 e_0 e_1 e_2 e_3 e_4 e_5 e_6 e_7 e_8 e_9 hfr
        obtain ⟨rfl, BK1, BK2, BK4, HB⟩ := hcut
        obtain ⟨d_0, d_1, d_2, d_3, d_4, d_5, d_6, d_7, d_8, d_9⟩ := ten_cells BK1
        obtain ⟨e_0, e_1, e_2, e_3, e_4, e_5, e_6, e_7, e_8, e_9⟩ := ten_cells BK4
        have hfr := ten_free BK4
        replace BK1 := Lib.hid BK1
        replace BK2 := Lib.hid BK2
        replace BK4 := Lib.hid BK4
        replace HB := Lib.hid HB
        go_upto_region 31 with (fail)
        go_cut [11] (fun v11 wb => ∃ n : Bool, v11 = .bool n ∧ Hid (n = decide (a0_3 = -1 ∧ a0_4 = 0 ∧ l0_5.length = 0 ∧ l0_6.length = 0)) ∧ wb = wc)
        case first =>
          by_cases p1 : a0_3 = -1
          · have q1 : (a0_3 == -1) = true := beq_iff_eq.2 p1
            have P1 := Lib.hid p1
            clear p1
            by_cases p2 : a0_4 = 0
            · have q2 : (a0_4 == 0) = true := beq_iff_eq.2 p2
              have P2 := Lib.hid p2
              clear p2
              by_cases p3 : (l0_5.length : Int) = 0
              · have q3 : ((l0_5.length : Int) == 0) = true := beq_iff_eq.2 p3
                have P3 := Lib.hid p3
                clear p3
                by_cases p4 : (l0_6.length : Int) = 0
                · have q4 : ((l0_6.length : Int) == 0) = true := beq_iff_eq.2 p4
                  have P4 := Lib.hid p4
                  clear p4
                  go_wp2
                  go_meet
                  case rel => exact ⟨_, rfl, Lib.hid (by have z1 := P1.out; have z2 := P2.out; have z3 := P3.out; have z4 := P4.out; exact (decide_eq_true (by omega)).symm), rfl⟩
                · have q4 : ((l0_6.length : Int) == 0) = false := beq_eq_false_iff_ne.2 p4
                  have P4 := Lib.hid p4
                  clear p4
                  go_wp2
                  go_meet
                  case rel => exact ⟨_, rfl, Lib.hid (by have z := P4.out; exact (decide_eq_false (by omega)).symm), rfl⟩
              · have q3 : ((l0_5.length : Int) == 0) = false := beq_eq_false_iff_ne.2 p3
                have P3 := Lib.hid p3
                clear p3
                go_wp2
                go_meet
                case rel => exact ⟨_, rfl, Lib.hid (by have z := P3.out; exact (decide_eq_false (by omega)).symm), rfl⟩
            · have q2 : (a0_4 == 0) = false := beq_eq_false_iff_ne.2 p2
              have P2 := Lib.hid p2
              clear p2
              go_wp2
              go_meet
              case rel => exact ⟨_, rfl, Lib.hid (by have z := P2.out; exact (decide_eq_false (by omega)).symm), rfl⟩
          · have q1 : (a0_3 == -1) = false := beq_eq_false_iff_ne.2 p1
            have P1 := Lib.hid p1
            clear p1
            go_wp2
            go_meet
            case rel => exact ⟨_, rfl, Lib.hid (by have z := P1.out; exact (decide_eq_false (by omega)).symm), rfl⟩
        case rest =>
          obtain ⟨n, rfl, Hn, rfl⟩ := hcut
          have hg := Hg.out
          have hn := Hn.out
          by_cases h7 : 0 ≤ a0_7
          · cases g0 with
            | true =>
              have hg' : 1 ≤ a0_1 ∧ 0 ≤ a0_2 := of_decide_eq_true hg.symm
              cases n with
              | true =>
                have hn' : (a0_3 = -1 ∧ a0_4 = 0 ∧ l0_5.length = 0 ∧ l0_6.length = 0) := of_decide_eq_true hn.symm
                obtain rfl : true = b := by rw [← Hb.out]; exact (decide_eq_true ⟨hg'.1, hg'.2, h7, .inl hn'⟩).symm
                clear Hb Hg hg hg' Hn hn hn'
                obtain ⟨x_0, x_1, x_2, x_3, x_4, x_5, x_6, x_7, x_8, x_9⟩ := ten_cells BK2.out
                have hfx := ten_free BK2.out
                go_wp2
                refine bodyPost_ret (results_ct rfl _ _ (w.heap.size + 1) 30 #[.int .i64 2, .int .i64 a0_1, .int .i64 a0_2, .int .i64 a0_3, .int .i64 a0_4, .slice A0_5 l0_5.length c0_5, .slice A0_6 l0_6.length c0_6, .int .i64 a0_7, .slice none 0 0, .slice none 0 0] (0, 0) _ rfl (by with_reducible exact blk_put10 BK2.out _ _ _ _ _ _ _ _ _ _) Try.underlying30 rfl (by kernel_rfl)) rfl ⟨rfl, by (with_reducible repeat (refine below_set ?_ (by omega))); exact HB.out⟩
              | false =>
                have hn' : ¬ (a0_3 = -1 ∧ a0_4 = 0 ∧ l0_5.length = 0 ∧ l0_6.length = 0) := of_decide_eq_false hn.symm
                obtain rfl : decide (OnPage a0_3 a0_4 l0_5 l0_6 true) = b := by rw [← Hb.out]; exact decide_eq_decide.2 ⟨fun h => ⟨hg'.1, hg'.2, h7, .inr h⟩, fun h => h.2.2.2.resolve_left hn'⟩
                clear Hb Hg hg hg' Hn hn hn'
                go_wp2_with fail
                refine (record_onPage.calls (l0_6.length + 1) 2 a0_1 a0_2 a0_3 a0_4 _ _ l0_5 _ _ l0_6 a0_7 _ _ l0_8 _ _ l0_9 true _ _ (Kd.C_below HR5.out HB.out) hc0_5 (Kd.C_below HR6.out HB.out) hc0_6 (Kd.C_below HR8.out HB.out) hc0_8 (Kd.C_below HR9.out HB.out) hc0_9 Hon.out).mono ?_
                rintro e w1 ⟨rfl, hb⟩
                have BK2 := blk_below BK2.out hb
                have BK4 := blk_below BK4.out hb
                have HB := below_then HB.out (Nat.le_trans (Nat.le_of_lt (blk_lt BK1.out)) (Nat.le_refl _)) hb
                clear hb
                obtain ⟨x_0, x_1, x_2, x_3, x_4, x_5, x_6, x_7, x_8, x_9⟩ := ten_cells BK2
                obtain ⟨y_0, y_1, y_2, y_3, y_4, y_5, y_6, y_7, y_8, y_9⟩ := ten_cells BK4
                have hfx := ten_free BK2
                replace BK2 := Lib.hid BK2
                replace BK4 := Lib.hid BK4
                replace HB := Lib.hid HB
                go_wp2
                refine bodyPost_ret (results_ct rfl _ _ (w.heap.size + 1) 30 #[.int .i64 2, .int .i64 a0_1, .int .i64 a0_2, .int .i64 a0_3, .int .i64 a0_4, .slice A0_5 l0_5.length c0_5, .slice A0_6 l0_6.length c0_6, .int .i64 a0_7, .slice none 0 0, .slice none 0 0] (0, 0) _ rfl (by with_reducible exact blk_put10 BK2.out _ _ _ _ _ _ _ _ _ _) Try.underlying30 rfl (by kernel_rfl)) rfl ⟨rfl, by (with_reducible repeat (refine below_set ?_ (by omega))); exact HB.out⟩
            | false =>
              have hg' : ¬ (1 ≤ a0_1 ∧ 0 ≤ a0_2) := of_decide_eq_false hg.symm
              obtain rfl : false = b := by rw [← Hb.out, decide_eq_false]; exact fun h => hg' ⟨h.1, h.2.1⟩
              clear Hb Hg hg hg' Hn hn
              obtain ⟨x_0, x_1, x_2, x_3, x_4, x_5, x_6, x_7, x_8, x_9⟩ := ten_cells BK2.out
              have hfx := ten_free BK2.out
              go_wp2
              refine bodyPost_ret (results_ct rfl _ _ (w.heap.size + 1) 30 #[.int .i64 2, .int .i64 a0_1, .int .i64 a0_2, .int .i64 a0_3, .int .i64 a0_4, .slice A0_5 l0_5.length c0_5, .slice A0_6 l0_6.length c0_6, .int .i64 a0_7, .slice none 0 0, .slice none 0 0] (0, 0) _ rfl (by with_reducible exact blk_put10 BK2.out _ _ _ _ _ _ _ _ _ _) Try.underlying30 rfl (by kernel_rfl)) rfl ⟨rfl, by (with_reducible repeat (refine below_set ?_ (by omega))); exact HB.out⟩
          · obtain rfl : false = b := by rw [← Hb.out, decide_eq_false]; exact fun h => h7 h.2.2.1
            clear Hb Hg hg Hn hn
            cases g0 with
            | true =>
              obtain ⟨x_0, x_1, x_2, x_3, x_4, x_5, x_6, x_7, x_8, x_9⟩ := ten_cells BK2.out
              have hfx := ten_free BK2.out
              go_wp2
              refine bodyPost_ret (results_ct rfl _ _ (w.heap.size + 1) 30 #[.int .i64 2, .int .i64 a0_1, .int .i64 a0_2, .int .i64 a0_3, .int .i64 a0_4, .slice A0_5 l0_5.length c0_5, .slice A0_6 l0_6.length c0_6, .int .i64 a0_7, .slice none 0 0, .slice none 0 0] (0, 0) _ rfl (by with_reducible exact blk_put10 BK2.out _ _ _ _ _ _ _ _ _ _) Try.underlying30 rfl (by kernel_rfl)) rfl ⟨rfl, by (with_reducible repeat (refine below_set ?_ (by omega))); exact HB.out⟩
            | false =>
              obtain ⟨x_0, x_1, x_2, x_3, x_4, x_5, x_6, x_7, x_8, x_9⟩ := ten_cells BK2.out
              have hfx := ten_free BK2.out
              go_wp2
              refine bodyPost_ret (results_ct rfl _ _ (w.heap.size + 1) 30 #[.int .i64 2, .int .i64 a0_1, .int .i64 a0_2, .int .i64 a0_3, .int .i64 a0_4, .slice A0_5 l0_5.length c0_5, .slice A0_6 l0_6.length c0_6, .int .i64 a0_7, .slice none 0 0, .slice none 0 0] (0, 0) _ rfl (by with_reducible exact blk_put10 BK2.out _ _ _ _ _ _ _ _ _ _) Try.underlying30 rfl (by kernel_rfl)) rfl ⟨rfl, by (with_reducible repeat (refine below_set ?_ (by omega))); exact HB.out⟩
set_option maxHeartbeats 4000000 in
set_option maxRecDepth 100000 in
theorem said_3 (a0_1 : Int) (a0_2 : Int) (a0_3 : Int) (a0_4 : Int) (A0_5 : Option Addr) (c0_5 : Nat) (l0_5 : List Int) (A0_6 : Option Addr) (c0_6 : Nat) (l0_6 : List (S52)) (a0_7 : Int) (A0_8 : Option Addr) (c0_8 : Nat) (l0_8 : List (S54)) (A0_9 : Option Addr) (c0_9 : Nat) (l0_9 : List (S56)) (w : World)
    (hr0_5 : Kd.C (Kd.int .i64) w A0_5 l0_5.length l0_5) (hc0_5 : l0_5.length ≤ c0_5) (hr0_6 : Kd.C k52 w A0_6 l0_6.length l0_6) (hc0_6 : l0_6.length ≤ c0_6) (hr0_8 : Kd.C k54 w A0_8 l0_8.length l0_8) (hc0_8 : l0_8.length ≤ c0_8) (hr0_9 : Kd.C k56 w A0_9 l0_9.length l0_9) (hc0_9 : l0_9.length ≤ c0_9)
    (b : Bool) (hb : decide (1 ≤ a0_1 ∧ 0 ≤ a0_2) = b) :
    Calls Try.prog 35 #[.agg #[.int .i64 3, .int .i64 a0_1, .int .i64 a0_2, .int .i64 a0_3, .int .i64 a0_4, .slice A0_5 l0_5.length c0_5, .slice A0_6 l0_6.length c0_6, .int .i64 a0_7, .slice A0_8 l0_8.length c0_8, .slice A0_9 l0_9.length c0_9]] w fun e w' => e = .returned (.tuple #[.agg #[.int .i64 3, .int .i64 a0_1, .int .i64 a0_2, .int .i64 0, .int .i64 0, .slice none 0 0, .slice none 0 0, .int .i64 0, .slice none 0 0, .slice none 0 0], .bool b]) ∧ Below w.heap.size w w' := by
  have hu30 := Try.underlying30
  have HR5 := Aside0.mk hr0_5
  have HR6 := Aside0.mk hr0_6
  have HR8 := Aside0.mk hr0_8
  have HR9 := Aside0.mk hr0_9
  clear hr0_5 hr0_6 hr0_8 hr0_9
  have Hb := Aside0.mk hb
  clear hb
  go_enter Try.func35, Try.ntmps35
  go_wp2
  go_region
  go_upto_region 23 with (fail)
  go_cut [10] (fun v10 wc => ∃ g0 : Bool, v10 = .bool g0 ∧ Hid (g0 = decide (1 ≤ a0_1 ∧ 0 ≤ a0_2)) ∧ wc.heap[w.heap.size]? = some (.cells #[.int .i64 3, .int .i64 a0_1, .int .i64 a0_2, .int .i64 a0_3, .int .i64 a0_4, .slice A0_5 l0_5.length c0_5, .slice A0_6 l0_6.length c0_6, .int .i64 a0_7, .slice A0_8 l0_8.length c0_8, .slice A0_9 l0_9.length c0_9] 30 (0, 0)) ∧ wc.heap[w.heap.size + 1]? = some (.cells #[.int .i64 0, .int .i64 0, .int .i64 0, .int .i64 0, .int .i64 0, .slice none 0 0, .slice none 0 0, .int .i64 0, .slice none 0 0, .slice none 0 0] 30 (0, 0)) ∧ wc.heap[w.heap.size + 1 + 1]? = some (.cells #[.int .i64 3, .int .i64 a0_1, .int .i64 a0_2, .int .i64 0, .int .i64 0, .slice none 0 0, .slice none 0 0, .int .i64 0, .slice none 0 0, .slice none 0 0] 30 (0, 0)) ∧ Below w.heap.size w wc)
  case first =>
    by_cases h1 : 1 ≤ a0_1
    · by_cases h2 : 0 ≤ a0_2
      · go_wp2
        go_meet
        case rel => exact ⟨_, rfl, Lib.hid (decide_eq_true ⟨h1, h2⟩).symm, three_of _ rfl⟩
      · go_wp2
        go_meet
        case rel => exact ⟨_, rfl, Lib.hid (decide_eq_false fun h => by omega).symm, three_of _ rfl⟩
    · go_wp2
      go_meet
      case rel => exact ⟨_, rfl, Lib.hid (decide_eq_false fun h => by omega).symm, three_of _ rfl⟩
  case rest =>
    obtain ⟨g0, rfl, Hg, BK1, BK2, BK4, HB⟩ := hcut
    obtain rfl : g0 = b := Hg.out.trans Hb.out
    clear Hg Hb
    obtain ⟨d_0, d_1, d_2, d_3, d_4, d_5, d_6, d_7, d_8, d_9⟩ := ten_cells BK1
    obtain ⟨e_0, e_1, e_2, e_3, e_4, e_5, e_6, e_7, e_8, e_9⟩ := ten_cells BK4
    have hfr := ten_free BK4
    replace BK1 := Lib.hid BK1
    replace BK2 := Lib.hid BK2
    replace BK4 := Lib.hid BK4
    replace HB := Lib.hid HB
    replace BK2 := BK2
    obtain ⟨x_0, x_1, x_2, x_3, x_4, x_5, x_6, x_7, x_8, x_9⟩ := ten_cells BK2.out
    have hfx := ten_free BK2.out
    go_wp2
    refine bodyPost_ret (results_ct rfl _ _ (w.heap.size + 1) 30 #[.int .i64 3, .int .i64 a0_1, .int .i64 a0_2, .int .i64 0, .int .i64 0, .slice none 0 0, .slice none 0 0, .int .i64 0, .slice none 0 0, .slice none 0 0] (0, 0) _ rfl (by with_reducible exact blk_put10 BK2.out _ _ _ _ _ _ _ _ _ _) Try.underlying30 rfl (by kernel_rfl)) rfl ⟨rfl, by (with_reducible repeat (refine below_set ?_ (by omega))); exact HB.out⟩
set_option maxHeartbeats 4000000 in
set_option maxRecDepth 100000 in
theorem said_4 (a0_1 : Int) (a0_2 : Int) (a0_3 : Int) (a0_4 : Int) (A0_5 : Option Addr) (c0_5 : Nat) (l0_5 : List Int) (A0_6 : Option Addr) (c0_6 : Nat) (l0_6 : List (S52)) (a0_7 : Int) (A0_8 : Option Addr) (c0_8 : Nat) (l0_8 : List (S54)) (A0_9 : Option Addr) (c0_9 : Nat) (l0_9 : List (S56)) (w : World)
    (hr0_5 : Kd.C (Kd.int .i64) w A0_5 l0_5.length l0_5) (hc0_5 : l0_5.length ≤ c0_5) (hr0_6 : Kd.C k52 w A0_6 l0_6.length l0_6) (hc0_6 : l0_6.length ≤ c0_6) (hr0_8 : Kd.C k54 w A0_8 l0_8.length l0_8) (hc0_8 : l0_8.length ≤ c0_8) (hr0_9 : Kd.C k56 w A0_9 l0_9.length l0_9) (hc0_9 : l0_9.length ≤ c0_9)
    (b : Bool) (hb : decide (1 ≤ a0_1 ∧ 0 ≤ a0_2) = b) :
    Calls Try.prog 35 #[.agg #[.int .i64 4, .int .i64 a0_1, .int .i64 a0_2, .int .i64 a0_3, .int .i64 a0_4, .slice A0_5 l0_5.length c0_5, .slice A0_6 l0_6.length c0_6, .int .i64 a0_7, .slice A0_8 l0_8.length c0_8, .slice A0_9 l0_9.length c0_9]] w fun e w' => e = .returned (.tuple #[.agg #[.int .i64 4, .int .i64 a0_1, .int .i64 a0_2, .int .i64 0, .int .i64 0, .slice none 0 0, .slice none 0 0, .int .i64 0, .slice none 0 0, .slice none 0 0], .bool b]) ∧ Below w.heap.size w w' := by
  have hu30 := Try.underlying30
  have HR5 := Aside0.mk hr0_5
  have HR6 := Aside0.mk hr0_6
  have HR8 := Aside0.mk hr0_8
  have HR9 := Aside0.mk hr0_9
  clear hr0_5 hr0_6 hr0_8 hr0_9
  have Hb := Aside0.mk hb
  clear hb
  go_enter Try.func35, Try.ntmps35
  go_wp2
  go_region
  go_upto_region 23 with (fail)
  go_cut [10] (fun v10 wc => ∃ g0 : Bool, v10 = .bool g0 ∧ Hid (g0 = decide (1 ≤ a0_1 ∧ 0 ≤ a0_2)) ∧ wc.heap[w.heap.size]? = some (.cells #[.int .i64 4, .int .i64 a0_1, .int .i64 a0_2, .int .i64 a0_3, .int .i64 a0_4, .slice A0_5 l0_5.length c0_5, .slice A0_6 l0_6.length c0_6, .int .i64 a0_7, .slice A0_8 l0_8.length c0_8, .slice A0_9 l0_9.length c0_9] 30 (0, 0)) ∧ wc.heap[w.heap.size + 1]? = some (.cells #[.int .i64 0, .int .i64 0, .int .i64 0, .int .i64 0, .int .i64 0, .slice none 0 0, .slice none 0 0, .int .i64 0, .slice none 0 0, .slice none 0 0] 30 (0, 0)) ∧ wc.heap[w.heap.size + 1 + 1]? = some (.cells #[.int .i64 4, .int .i64 a0_1, .int .i64 a0_2, .int .i64 0, .int .i64 0, .slice none 0 0, .slice none 0 0, .int .i64 0, .slice none 0 0, .slice none 0 0] 30 (0, 0)) ∧ Below w.heap.size w wc)
  case first =>
    by_cases h1 : 1 ≤ a0_1
    · by_cases h2 : 0 ≤ a0_2
      · go_wp2
        go_meet
        case rel => exact ⟨_, rfl, Lib.hid (decide_eq_true ⟨h1, h2⟩).symm, three_of _ rfl⟩
      · go_wp2
        go_meet
        case rel => exact ⟨_, rfl, Lib.hid (decide_eq_false fun h => by omega).symm, three_of _ rfl⟩
    · go_wp2
      go_meet
      case rel => exact ⟨_, rfl, Lib.hid (decide_eq_false fun h => by omega).symm, three_of _ rfl⟩
  case rest =>
    obtain ⟨g0, rfl, Hg, BK1, BK2, BK4, HB⟩ := hcut
    obtain rfl : g0 = b := Hg.out.trans Hb.out
    clear Hg Hb
    obtain ⟨d_0, d_1, d_2, d_3, d_4, d_5, d_6, d_7, d_8, d_9⟩ := ten_cells BK1
    obtain ⟨e_0, e_1, e_2, e_3, e_4, e_5, e_6, e_7, e_8, e_9⟩ := ten_cells BK4
    have hfr := ten_free BK4
    replace BK1 := Lib.hid BK1
    replace BK2 := Lib.hid BK2
    replace BK4 := Lib.hid BK4
    replace HB := Lib.hid HB
    replace BK2 := BK2
    obtain ⟨x_0, x_1, x_2, x_3, x_4, x_5, x_6, x_7, x_8, x_9⟩ := ten_cells BK2.out
    have hfx := ten_free BK2.out
    go_wp2
    refine bodyPost_ret (results_ct rfl _ _ (w.heap.size + 1) 30 #[.int .i64 4, .int .i64 a0_1, .int .i64 a0_2, .int .i64 0, .int .i64 0, .slice none 0 0, .slice none 0 0, .int .i64 0, .slice none 0 0, .slice none 0 0] (0, 0) _ rfl (by with_reducible exact blk_put10 BK2.out _ _ _ _ _ _ _ _ _ _) Try.underlying30 rfl (by kernel_rfl)) rfl ⟨rfl, by (with_reducible repeat (refine below_set ?_ (by omega))); exact HB.out⟩
set_option maxHeartbeats 4000000 in
set_option maxRecDepth 100000 in
theorem said_5 (a0_1 : Int) (a0_2 : Int) (a0_3 : Int) (a0_4 : Int) (A0_5 : Option Addr) (c0_5 : Nat) (l0_5 : List Int) (A0_6 : Option Addr) (c0_6 : Nat) (l0_6 : List (S52)) (a0_7 : Int) (A0_8 : Option Addr) (c0_8 : Nat) (l0_8 : List (S54)) (A0_9 : Option Addr) (c0_9 : Nat) (l0_9 : List (S56)) (w : World)
    (hr0_5 : Kd.C (Kd.int .i64) w A0_5 l0_5.length l0_5) (hc0_5 : l0_5.length ≤ c0_5) (hr0_6 : Kd.C k52 w A0_6 l0_6.length l0_6) (hc0_6 : l0_6.length ≤ c0_6) (hr0_8 : Kd.C k54 w A0_8 l0_8.length l0_8) (hc0_8 : l0_8.length ≤ c0_8) (hr0_9 : Kd.C k56 w A0_9 l0_9.length l0_9) (hc0_9 : l0_9.length ≤ c0_9)
    (b : Bool) (hb : decide ((l0_8.length ≤ 64 ∧ l0_9.length ≤ 64 ∧ Ris (fun x => x.f0) z54 1024 l0_8 ∧ Ris (fun x => wrap64 (x.f0 - 1)) z56 4611686018427387904 l0_9) ∧ (∀ j, j < l0_8.length → 0 ≤ (l0_8.getD j z54).f1) ∧ (∀ j, j < l0_9.length → 0 ≤ (l0_9.getD j z56).f1 ∧ 0 ≤ (l0_9.getD j z56).f2 ∧ 0 ≤ (l0_9.getD j z56).f3)) = b) :
    Calls Try.prog 35 #[.agg #[.int .i64 5, .int .i64 a0_1, .int .i64 a0_2, .int .i64 a0_3, .int .i64 a0_4, .slice A0_5 l0_5.length c0_5, .slice A0_6 l0_6.length c0_6, .int .i64 a0_7, .slice A0_8 l0_8.length c0_8, .slice A0_9 l0_9.length c0_9]] w fun e w' => e = .returned (.tuple #[.agg #[.int .i64 5, .int .i64 0, .int .i64 0, .int .i64 0, .int .i64 0, .slice none 0 0, .slice none 0 0, .int .i64 0, .slice A0_8 l0_8.length c0_8, .slice A0_9 l0_9.length c0_9], .bool b]) ∧ Below w.heap.size w w' := by
  have hu30 := Try.underlying30
  have HR5 := Aside0.mk hr0_5
  have HR6 := Aside0.mk hr0_6
  have HR8 := Aside0.mk hr0_8
  have HR9 := Aside0.mk hr0_9
  have Hd := Aside0.mk (api_Dirty_44_f l0_8 1024 (Kd.C_max hr0_8) (l0_8.length + 1) (by omega))
  have Ha := Aside0.mk (api_Active_46_f l0_9 4611686018427387904 (Kd.C_max hr0_9) (l0_9.length + 1) (by omega))
  have m8 := Kd.C_max hr0_8
  have m9 := Kd.C_max hr0_9
  clear hr0_5 hr0_6 hr0_8 hr0_9
  have Hb := Aside0.mk hb
  clear hb
  go_enter Try.func35, Try.ntmps35
  go_wp2
  go_upto_region 5 with (fail)
  go_cut [3] (fun v3 wc => v3 = .bool false ∧ wc.heap[w.heap.size]? = some (.cells #[.int .i64 5, .int .i64 a0_1, .int .i64 a0_2, .int .i64 a0_3, .int .i64 a0_4, .slice A0_5 l0_5.length c0_5, .slice A0_6 l0_6.length c0_6, .int .i64 a0_7, .slice A0_8 l0_8.length c0_8, .slice A0_9 l0_9.length c0_9] 30 (0, 0)) ∧ wc.heap[w.heap.size + 1]? = some (.cells #[.int .i64 0, .int .i64 0, .int .i64 0, .int .i64 0, .int .i64 0, .slice none 0 0, .slice none 0 0, .int .i64 0, .slice none 0 0, .slice none 0 0] 30 (0, 0)) ∧ wc.heap[w.heap.size + 1 + 1]? = some (.cells #[.int .i64 5, .int .i64 0, .int .i64 0, .int .i64 0, .int .i64 0, .slice none 0 0, .slice none 0 0, .int .i64 0, .slice A0_8 l0_8.length c0_8, .slice A0_9 l0_9.length c0_9] 30 (0, 0)) ∧ Below w.heap.size w wc)
  case first =>
    go_region
    go_wp2
    go_meet
    case rel => exact ⟨rfl, three_of _ rfl⟩
  case rest =>
    obtain ⟨rfl, BK1, BK2, BK4, HB⟩ := hcut
    obtain ⟨d_0, d_1, d_2, d_3, d_4, d_5, d_6, d_7, d_8, d_9⟩ := ten_cells BK1
    obtain ⟨e_0, e_1, e_2, e_3, e_4, e_5, e_6, e_7, e_8, e_9⟩ := ten_cells BK4
    have hfr := ten_free BK4
    replace BK1 := Lib.hid BK1
    replace BK2 := Lib.hid BK2
    replace BK4 := Lib.hid BK4
    replace HB := Lib.hid HB
    go_upto_region 6 with (fail)
    go_cut [5] (fun v5 wb => ∃ g0 : Bool, v5 = .bool g0 ∧ Hid (g0 = decide (l0_8.length ≤ 64 ∧ l0_9.length ≤ 64 ∧ Ris (fun x => x.f0) z54 1024 l0_8 ∧ Ris (fun x => wrap64 (x.f0 - 1)) z56 4611686018427387904 l0_9)) ∧ wb.heap[w.heap.size]? = some (.cells #[.int .i64 5, .int .i64 a0_1, .int .i64 a0_2, .int .i64 a0_3, .int .i64 a0_4, .slice A0_5 l0_5.length c0_5, .slice A0_6 l0_6.length c0_6, .int .i64 a0_7, .slice A0_8 l0_8.length c0_8, .slice A0_9 l0_9.length c0_9] 30 (0, 0)) ∧ wb.heap[w.heap.size + 1]? = some (.cells #[.int .i64 0, .int .i64 0, .int .i64 0, .int .i64 0, .int .i64 0, .slice none 0 0, .slice none 0 0, .int .i64 0, .slice none 0 0, .slice none 0 0] 30 (0, 0)) ∧ wb.heap[w.heap.size + 1 + 1]? = some (.cells #[.int .i64 5, .int .i64 0, .int .i64 0, .int .i64 0, .int .i64 0, .slice none 0 0, .slice none 0 0, .int .i64 0, .slice A0_8 l0_8.length c0_8, .slice A0_9 l0_9.length c0_9] 30 (0, 0)) ∧ Below w.heap.size w wb)
    case first =>
      by_cases p1 : l0_8.length ≤ 64
      · by_cases p2 : l0_9.length ≤ 64
        · go_wp2_with fail
          refine (api_Dirty_44.calls (l0_8.length + 1) _ _ l0_8 1024 _ _ (Kd.C_below HR8.out HB.out) hc0_8 Hd.out).mono ?_
          rintro e w1 ⟨rfl, hb⟩
          have BK1' := Lib.hid (blk_below BK1.out hb)
          have BK2' := Lib.hid (blk_below BK2.out hb)
          have BK4' := Lib.hid (blk_below BK4.out hb)
          have HB' := Lib.hid (below_then HB.out (Nat.le_of_lt (blk_lt BK1.out)) hb)
          clear hb
          obtain ⟨x_0, x_1, x_2, x_3, x_4, x_5, x_6, x_7, x_8, x_9⟩ := ten_cells BK1'.out
          by_cases p3 : Ris (fun x => x.f0) z54 1024 l0_8
          · have P3 := Lib.hid p3
            rw [decide_eq_true p3]
            clear p3
            go_wp2_with fail
            refine (api_Active_46.calls (l0_9.length + 1) _ _ l0_9 4611686018427387904 _ _ (Kd.C_below HR9.out HB'.out) hc0_9 Ha.out).mono ?_
            rintro e w2 ⟨rfl, hb⟩
            have BK1'' := Lib.hid (blk_below BK1'.out hb)
            have BK2'' := Lib.hid (blk_below BK2'.out hb)
            have BK4'' := Lib.hid (blk_below BK4'.out hb)
            have HB'' := Lib.hid (below_then HB'.out (Nat.le_of_lt (blk_lt BK1'.out)) hb)
            clear hb
            go_wp2
            go_meet
            case rel => exact ⟨_, rfl, Lib.hid (decide_eq_decide.2 ⟨fun h => ⟨p1, p2, P3.out, h⟩, fun h => h.2.2.2⟩), BK1''.out, BK2''.out, BK4''.out, HB''.out⟩
          · rw [decide_eq_false p3]
            have P3 := Lib.hid p3
            clear p3
            go_wp2
            go_meet
            case rel => exact ⟨_, rfl, Lib.hid (decide_eq_false fun h => P3.out h.2.2.1).symm, BK1'.out, BK2'.out, BK4'.out, HB'.out⟩
        · go_wp2
          go_meet
          case rel => exact ⟨_, rfl, Lib.hid (decide_eq_false fun h => by omega).symm, BK1.out, BK2.out, BK4.out, HB.out⟩
      · go_wp2
        go_meet
        case rel => exact ⟨_, rfl, Lib.hid (decide_eq_false fun h => by omega).symm, BK1.out, BK2.out, BK4.out, HB.out⟩
    case rest =>
      clear BK1 BK2 BK4 HB
      clear d_0 d_1 d_2 d_3 d_4 d_5 d_6 d_7 d_8 d_9 e_0 e_1 e_2 e_3 e_4 e_5 e_6 e_7 e_8 e_9 hfr
      obtain ⟨g0, rfl, Hg, BK1, BK2, BK4, HB⟩ := hcut
      obtain ⟨d_0, d_1, d_2, d_3, d_4, d_5, d_6, d_7, d_8, d_9⟩ := ten_cells BK1
      obtain ⟨e_0, e_1, e_2, e_3, e_4, e_5, e_6, e_7, e_8, e_9⟩ := ten_cells BK4
      have hfr := ten_free BK4
      replace BK1 := Lib.hid BK1
      replace BK2 := Lib.hid BK2
      replace BK4 := Lib.hid BK4
      replace HB := Lib.hid HB
      go_wp2
      go_loopw [5, 49] (fun v5 v49 wr => ∃ (g : Bool) (k : Nat), v5 = .bool g ∧ v49 = .int .i64 k ∧ k ≤ l0_8.length ∧ Hid (g = decide ((l0_8.length ≤ 64 ∧ l0_9.length ≤ 64 ∧ Ris (fun x => x.f0) z54 1024 l0_8 ∧ Ris (fun x => wrap64 (x.f0 - 1)) z56 4611686018427387904 l0_9) ∧ ∀ j, j < k → 0 ≤ (l0_8.getD j z54).f1)) ∧ Hid (wr.heap[w.heap.size]? = some (.cells #[.int .i64 5, .int .i64 a0_1, .int .i64 a0_2, .int .i64 a0_3, .int .i64 a0_4, .slice A0_5 l0_5.length c0_5, .slice A0_6 l0_6.length c0_6, .int .i64 a0_7, .slice A0_8 l0_8.length c0_8, .slice A0_9 l0_9.length c0_9] 30 (0, 0)) ∧ wr.heap[w.heap.size + 1]? = some (.cells #[.int .i64 0, .int .i64 0, .int .i64 0, .int .i64 0, .int .i64 0, .slice none 0 0, .slice none 0 0, .int .i64 0, .slice none 0 0, .slice none 0 0] 30 (0, 0)) ∧ wr.heap[w.heap.size + 1 + 1]? = some (.cells #[.int .i64 5, .int .i64 0, .int .i64 0, .int .i64 0, .int .i64 0, .slice none 0 0, .slice none 0 0, .int .i64 0, .slice A0_8 l0_8.length c0_8, .slice A0_9 l0_9.length c0_9] 30 (0, 0)) ∧ Below w.heap.size w wr)) (fun _ v49 _ => l0_8.length - (intOf v49).toNat)
      case atStart => exact ⟨g0, 0, rfl, rfl, Nat.zero_le _, Lib.hid (Hg.out.trans (decide_eq_decide.2 ⟨fun h => ⟨h, fun j hj => absurd hj (Nat.not_lt_zero j)⟩, fun h => h.1⟩)), Lib.hid ⟨BK1.out, BK2.out, BK4.out, HB.out⟩⟩
      case round =>
        clear BK1 BK2 BK4 HB Hg
        clear d_0 d_1 d_2 d_3 d_4 d_5 d_6 d_7 d_8 d_9 e_0 e_1 e_2 e_3 e_4 e_5 e_6 e_7 e_8 e_9 hfr
        obtain ⟨g, k, rfl, rfl, hk, Hg, HW⟩ := hrel
        have HB := Lib.hid HW.out.2.2.2
        by_cases hlt : k < l0_8.length
        · obtain ⟨ad, eA, hx0, hx1⟩ := at_T54 (Kd.C_below HR8.out HB.out) (k : Int) (by omega) (by omega)
          subst eA
          rw [show ((k : Int)).toNat = k from rfl] at hx0 hx1
          have HR8' := HR8
          obtain ⟨e0, e1⟩ : (rd_T54 l0_8 (k : Int)).f0 = (l0_8.getD k z54).f0 ∧ (rd_T54 l0_8 (k : Int)).f1 = (l0_8.getD k z54).f1 := ⟨rfl, rfl⟩
          rw [e0] at hx0
          rw [e1] at hx1
          clear e0 e1
          obtain ⟨el, Hel⟩ : ∃ el, Hid (l0_8.getD k z54 = el) := ⟨_, Lib.hid rfl⟩
          rw [Hel.out] at hx0 hx1
          cases g
          all_goals
            go_wp2
            go_roundw
            case rel => exact ⟨_, k + 1, rfl, by go_num, by omega, Lib.hid (all_step Hg.out (by rw [Hel.out]; first | rfl | simp)), Lib.hid ⟨blk_alloc HW.out.1 _, blk_alloc HW.out.2.1 _, blk_alloc HW.out.2.2.1 _, below_alloc HB.out _⟩⟩
            case measure => simp [intOf]; omega
        · obtain rfl : k = l0_8.length := by omega
          obtain ⟨BK1, BK2, BK4, _⟩ := HW.out
          clear HW
          obtain ⟨d_0, d_1, d_2, d_3, d_4, d_5, d_6, d_7, d_8, d_9⟩ := ten_cells BK1
          obtain ⟨e_0, e_1, e_2, e_3, e_4, e_5, e_6, e_7, e_8, e_9⟩ := ten_cells BK4
          have hfr := ten_free BK4
          replace BK1 := Lib.hid BK1
          replace BK2 := Lib.hid BK2
          replace BK4 := Lib.hid BK4
          skip
          go_wp2
          go_loopw [5, 63] (fun v5 v63 wr => ∃ (g : Bool) (k : Nat), v5 = .bool g ∧ v63 = .int .i64 k ∧ k ≤ l0_9.length ∧ Hid (g = decide (((l0_8.length ≤ 64 ∧ l0_9.length ≤ 64 ∧ Ris (fun x => x.f0) z54 1024 l0_8 ∧ Ris (fun x => wrap64 (x.f0 - 1)) z56 4611686018427387904 l0_9) ∧ (∀ j, j < l0_8.length → 0 ≤ (l0_8.getD j z54).f1)) ∧ ∀ j, j < k → 0 ≤ (l0_9.getD j z56).f1 ∧ 0 ≤ (l0_9.getD j z56).f2 ∧ 0 ≤ (l0_9.getD j z56).f3)) ∧ Hid (wr.heap[w.heap.size]? = some (.cells #[.int .i64 5, .int .i64 a0_1, .int .i64 a0_2, .int .i64 a0_3, .int .i64 a0_4, .slice A0_5 l0_5.length c0_5, .slice A0_6 l0_6.length c0_6, .int .i64 a0_7, .slice A0_8 l0_8.length c0_8, .slice A0_9 l0_9.length c0_9] 30 (0, 0)) ∧ wr.heap[w.heap.size + 1]? = some (.cells #[.int .i64 0, .int .i64 0, .int .i64 0, .int .i64 0, .int .i64 0, .slice none 0 0, .slice none 0 0, .int .i64 0, .slice none 0 0, .slice none 0 0] 30 (0, 0)) ∧ wr.heap[w.heap.size + 1 + 1]? = some (.cells #[.int .i64 5, .int .i64 0, .int .i64 0, .int .i64 0, .int .i64 0, .slice none 0 0, .slice none 0 0, .int .i64 0, .slice A0_8 l0_8.length c0_8, .slice A0_9 l0_9.length c0_9] 30 (0, 0)) ∧ Below w.heap.size w wr)) (fun _ v63 _ => l0_9.length - (intOf v63).toNat)
          case atStart => exact ⟨g, 0, rfl, rfl, Nat.zero_le _, Lib.hid (Hg.out.trans (decide_eq_decide.2 ⟨fun h => ⟨h, fun j hj => absurd hj (Nat.not_lt_zero j)⟩, fun h => h.1⟩)), Lib.hid ⟨BK1.out, BK2.out, BK4.out, HB.out⟩⟩
          case round =>
            clear BK1 BK2 BK4 HB Hg hlt hk
            clear d_0 d_1 d_2 d_3 d_4 d_5 d_6 d_7 d_8 d_9 e_0 e_1 e_2 e_3 e_4 e_5 e_6 e_7 e_8 e_9 hfr
            obtain ⟨g, k, rfl, rfl, hk, Hg, HW⟩ := hrel
            have HB := Lib.hid HW.out.2.2.2
            by_cases hlt : k < l0_9.length
            · obtain ⟨ad, eA, hx0, hx1, hx2, hx3⟩ := at_T56 (Kd.C_below HR9.out HB.out) (k : Int) (by omega) (by omega)
              subst eA
              rw [show ((k : Int)).toNat = k from rfl] at hx0 hx1 hx2 hx3
              obtain ⟨el, Hel⟩ : ∃ el, Hid (l0_9.getD k z56 = el) := ⟨_, Lib.hid rfl⟩
              rw [show (rd_T56 l0_9 (k : Int)) = (l0_9.getD k z56) from rfl, Hel.out] at hx0 hx1 hx2 hx3
              cases g
              · go_wp2
                go_roundw
                case rel => exact ⟨_, k + 1, rfl, by go_num, by omega, Lib.hid (all_step Hg.out (by rw [Hel.out]; first | rfl | simp)), Lib.hid ⟨blk_alloc HW.out.1 _, blk_alloc HW.out.2.1 _, blk_alloc HW.out.2.2.1 _, below_alloc HB.out _⟩⟩
                case measure => simp [intOf]; omega
              · by_cases s1 : 0 ≤ el.f1
                · by_cases s2 : 0 ≤ el.f2
                  all_goals
                    go_wp2
                    go_roundw
                    case rel => exact ⟨_, k + 1, rfl, by go_num, by omega, Lib.hid (all_step Hg.out (by rw [Hel.out]; first | rfl | simp [s1, s2])), Lib.hid ⟨blk_alloc HW.out.1 _, blk_alloc HW.out.2.1 _, blk_alloc HW.out.2.2.1 _, below_alloc HB.out _⟩⟩
                    case measure => simp [intOf]; omega
                · go_wp2
                  go_roundw
                  case rel => exact ⟨_, k + 1, rfl, by go_num, by omega, Lib.hid (all_step Hg.out (by rw [Hel.out]; first | rfl | simp [s1])), Lib.hid ⟨blk_alloc HW.out.1 _, blk_alloc HW.out.2.1 _, blk_alloc HW.out.2.2.1 _, below_alloc HB.out _⟩⟩
                  case measure => simp [intOf]; omega
            · obtain rfl : k = l0_9.length := by omega
              obtain ⟨BK1, BK2, BK4, _⟩ := HW.out
              clear HW
              obtain rfl : g = b := by rw [← Hb.out, Hg.out]; exact decide_eq_decide.2 ⟨fun h => ⟨h.1.1, h.1.2, h.2⟩, fun h => ⟨⟨h.1, h.2.1⟩, h.2.2⟩⟩
              clear Hg Hb
              obtain ⟨d_0, d_1, d_2, d_3, d_4, d_5, d_6, d_7, d_8, d_9⟩ := ten_cells BK1
              obtain ⟨e_0, e_1, e_2, e_3, e_4, e_5, e_6, e_7, e_8, e_9⟩ := ten_cells BK4
              have hfr := ten_free BK4
              replace BK1 := Lib.hid BK1
              replace BK2 := Lib.hid BK2
              replace BK4 := Lib.hid BK4
              skip
              obtain ⟨x_0, x_1, x_2, x_3, x_4, x_5, x_6, x_7, x_8, x_9⟩ := ten_cells BK2.out
              have hfx := ten_free BK2.out
              go_wp2
              refine bodyPost_ret (results_ct rfl _ _ (w.heap.size + 1) 30 #[.int .i64 5, .int .i64 0, .int .i64 0, .int .i64 0, .int .i64 0, .slice none 0 0, .slice none 0 0, .int .i64 0, .slice A0_8 l0_8.length c0_8, .slice A0_9 l0_9.length c0_9] (0, 0) _ rfl (by with_reducible exact blk_put10 BK2.out _ _ _ _ _ _ _ _ _ _) Try.underlying30 rfl (by kernel_rfl)) rfl ⟨rfl, by (with_reducible repeat (refine below_set ?_ (by omega))); exact HB.out⟩
set_option maxHeartbeats 4000000 in
set_option maxRecDepth 100000 in
theorem check_1 (a0_1 : Int) (a0_2 : Int) (a0_3 : Int) (a0_4 : Int) (A0_5 : Option Addr) (c0_5 : Nat) (l0_5 : List Int) (A0_6 : Option Addr) (c0_6 : Nat) (l0_6 : List (S52)) (a0_7 : Int) (A0_8 : Option Addr) (c0_8 : Nat) (l0_8 : List (S54)) (A0_9 : Option Addr) (c0_9 : Nat) (l0_9 : List (S56)) (w : World)
    (hr0_5 : Kd.C (Kd.int .i64) w A0_5 l0_5.length l0_5) (hc0_5 : l0_5.length ≤ c0_5) (hr0_6 : Kd.C k52 w A0_6 l0_6.length l0_6) (hc0_6 : l0_6.length ≤ c0_6) (hr0_8 : Kd.C k54 w A0_8 l0_8.length l0_8) (hc0_8 : l0_8.length ≤ c0_8) (hr0_9 : Kd.C k56 w A0_9 l0_9.length l0_9) (hc0_9 : l0_9.length ≤ c0_9) :
    Calls Try.prog 20 #[.agg #[.int .i64 1, .int .i64 a0_1, .int .i64 a0_2, .int .i64 a0_3, .int .i64 a0_4, .slice A0_5 l0_5.length c0_5, .slice A0_6 l0_6.length c0_6, .int .i64 a0_7, .slice A0_8 l0_8.length c0_8, .slice A0_9 l0_9.length c0_9]] w fun e w' => e = .returned (errW (if (1 ≤ a0_1 ∧ 0 ≤ a0_2 ∧ OnPage a0_3 a0_4 l0_5 l0_6 false) ∧ (a0_7 = 0 ∧ l0_8 = [] ∧ l0_9 = []) then none else some 2)) ∧ Below w.heap.size w w' := by
  have hu30 := Try.underlying30
  have hu32 := Try.underlying32
  have hu44 := Try.underlying44
  have HR5 := Aside0.mk hr0_5
  have HR6 := Aside0.mk hr0_6
  have HR8 := Aside0.mk hr0_8
  have HR9 := Aside0.mk hr0_9
  have Hs := Aside0.mk (same_f 1 a0_1 a0_2 a0_3 a0_4 l0_5 l0_6 a0_7 l0_8 l0_9 1 a0_1 a0_2 a0_3 a0_4 l0_5 l0_6 0 [] [] (Kd.C_max hr0_5) (Kd.C_max hr0_6) (Kd.C_max hr0_8) (Kd.C_max hr0_9) (l0_5.length + l0_6.length + l0_8.length + l0_9.length + 1) (by omega) (by omega) (by omega) (by omega))
  clear hr0_5 hr0_6 hr0_8 hr0_9
  by_cases g : 1 ≤ a0_1 ∧ 0 ≤ a0_2 ∧ OnPage a0_3 a0_4 l0_5 l0_6 false
  · have Hd := Aside0.mk (decide_eq_true g)
    by_cases v : a0_7 = 0 ∧ l0_8 = [] ∧ l0_9 = []
    · have Hv := Aside0.mk (Hs.out.trans (congrArg some (decide_eq_true (show _ from by simp [v]))))
      rw [if_pos ⟨g, v⟩]
      clear g v Hs
      go_enter Try.func20, Try.ntmps20
      go_wp2_with fail
      refine (said_1 a0_1 a0_2 a0_3 a0_4 A0_5 c0_5 l0_5 A0_6 c0_6 l0_6 a0_7 A0_8 c0_8 l0_8 A0_9 c0_9 l0_9 _ (Kd.C_alloc HR5.out _) hc0_5 (Kd.C_alloc HR6.out _) hc0_6 (Kd.C_alloc HR8.out _) hc0_8 (Kd.C_alloc HR9.out _) hc0_9 _ Hd.out).mono ?_
      rintro e w1 ⟨rfl, hb⟩
      have BK1 := Lib.hid (blk_below (heap_alloc_new w _) hb)
      have HB := Lib.hid (below_then (below_alloc (Below.refl w.heap.size w) _) (by rw [World.size_alloc]; omega) hb)
      clear hb
      obtain ⟨d_0, d_1, d_2, d_3, d_4, d_5, d_6, d_7, d_8, d_9⟩ := ten_cells BK1.out
      have hz : w.heap.size < w1.heap.size := blk_lt BK1.out
      have hz' : ¬ w.heap.size = w1.heap.size := by omega
      go_wp2_with fail
      refine (record_Same.calls (l0_5.length + l0_6.length + l0_8.length + l0_9.length + 1) 1 a0_1 a0_2 a0_3 a0_4 _ _ l0_5 _ _ l0_6 a0_7 _ _ l0_8 _ _ l0_9 1 a0_1 a0_2 a0_3 a0_4 _ _ l0_5 _ _ l0_6 0 _ _ [] _ _ [] _ _ (Kd.C_alloc (Kd.C_below HR5.out HB.out) _) hc0_5 (Kd.C_alloc (Kd.C_below HR6.out HB.out) _) hc0_6 (Kd.C_alloc (Kd.C_below HR8.out HB.out) _) hc0_8 (Kd.C_alloc (Kd.C_below HR9.out HB.out) _) hc0_9 (Kd.C_alloc (Kd.C_below HR5.out HB.out) _) hc0_5 (Kd.C_alloc (Kd.C_below HR6.out HB.out) _) hc0_6 (Kd.C_nil _ _) (Nat.le_refl 0) (Kd.C_nil _ _) (Nat.le_refl 0) Hv.out).mono ?_
      rintro e w2 ⟨rfl, hb⟩
      have HB2 := Lib.hid (below_then (below_alloc HB.out _) (by rw [World.size_alloc]; omega) hb)
      clear hb
      go_wp2
      go_ret
      exact ⟨rfl, HB2.out⟩
    · have Hv := Aside0.mk (Hs.out.trans (congrArg some (decide_eq_false (show ¬ _ from fun h => v (by simpa using h)))))
      rw [if_neg fun h => v h.2]
      clear g v Hs
      go_enter Try.func20, Try.ntmps20
      go_wp2_with fail
      refine (said_1 a0_1 a0_2 a0_3 a0_4 A0_5 c0_5 l0_5 A0_6 c0_6 l0_6 a0_7 A0_8 c0_8 l0_8 A0_9 c0_9 l0_9 _ (Kd.C_alloc HR5.out _) hc0_5 (Kd.C_alloc HR6.out _) hc0_6 (Kd.C_alloc HR8.out _) hc0_8 (Kd.C_alloc HR9.out _) hc0_9 _ Hd.out).mono ?_
      rintro e w1 ⟨rfl, hb⟩
      have BK1 := Lib.hid (blk_below (heap_alloc_new w _) hb)
      have HB := Lib.hid (below_then (below_alloc (Below.refl w.heap.size w) _) (by rw [World.size_alloc]; omega) hb)
      clear hb
      obtain ⟨d_0, d_1, d_2, d_3, d_4, d_5, d_6, d_7, d_8, d_9⟩ := ten_cells BK1.out
      have hz : w.heap.size < w1.heap.size := blk_lt BK1.out
      have hz' : ¬ w.heap.size = w1.heap.size := by omega
      go_wp2_with fail
      refine (record_Same.calls (l0_5.length + l0_6.length + l0_8.length + l0_9.length + 1) 1 a0_1 a0_2 a0_3 a0_4 _ _ l0_5 _ _ l0_6 a0_7 _ _ l0_8 _ _ l0_9 1 a0_1 a0_2 a0_3 a0_4 _ _ l0_5 _ _ l0_6 0 _ _ [] _ _ [] _ _ (Kd.C_alloc (Kd.C_below HR5.out HB.out) _) hc0_5 (Kd.C_alloc (Kd.C_below HR6.out HB.out) _) hc0_6 (Kd.C_alloc (Kd.C_below HR8.out HB.out) _) hc0_8 (Kd.C_alloc (Kd.C_below HR9.out HB.out) _) hc0_9 (Kd.C_alloc (Kd.C_below HR5.out HB.out) _) hc0_5 (Kd.C_alloc (Kd.C_below HR6.out HB.out) _) hc0_6 (Kd.C_nil _ _) (Nat.le_refl 0) (Kd.C_nil _ _) (Nat.le_refl 0) Hv.out).mono ?_
      rintro e w2 ⟨rfl, hb⟩
      have HB2 := Lib.hid (below_then (below_alloc HB.out _) (by rw [World.size_alloc]; omega) hb)
      clear hb
      go_wp2
      go_ret
      exact ⟨rfl, HB2.out⟩
  · have Hd := Aside0.mk (decide_eq_false g)
    rw [if_neg fun h => g h.1]
    clear g Hs
    go_enter Try.func20, Try.ntmps20
    go_wp2_with fail
    refine (said_1 a0_1 a0_2 a0_3 a0_4 A0_5 c0_5 l0_5 A0_6 c0_6 l0_6 a0_7 A0_8 c0_8 l0_8 A0_9 c0_9 l0_9 _ (Kd.C_alloc HR5.out _) hc0_5 (Kd.C_alloc HR6.out _) hc0_6 (Kd.C_alloc HR8.out _) hc0_8 (Kd.C_alloc HR9.out _) hc0_9 _ Hd.out).mono ?_
    rintro e w1 ⟨rfl, hb⟩
    have BK1 := Lib.hid (blk_below (heap_alloc_new w _) hb)
    have HB := Lib.hid (below_then (below_alloc (Below.refl w.heap.size w) _) (by rw [World.size_alloc]; omega) hb)
    clear hb
    obtain ⟨d_0, d_1, d_2, d_3, d_4, d_5, d_6, d_7, d_8, d_9⟩ := ten_cells BK1.out
    have hz : w.heap.size < w1.heap.size := blk_lt BK1.out
    have hz' : ¬ w.heap.size = w1.heap.size := by omega
    go_wp2
    go_ret
    exact ⟨rfl, below_alloc HB.out _⟩
set_option maxHeartbeats 4000000 in
set_option maxRecDepth 100000 in
theorem check_2 (a0_1 : Int) (a0_2 : Int) (a0_3 : Int) (a0_4 : Int) (A0_5 : Option Addr) (c0_5 : Nat) (l0_5 : List Int) (A0_6 : Option Addr) (c0_6 : Nat) (l0_6 : List (S52)) (a0_7 : Int) (A0_8 : Option Addr) (c0_8 : Nat) (l0_8 : List (S54)) (A0_9 : Option Addr) (c0_9 : Nat) (l0_9 : List (S56)) (w : World)
    (hr0_5 : Kd.C (Kd.int .i64) w A0_5 l0_5.length l0_5) (hc0_5 : l0_5.length ≤ c0_5) (hr0_6 : Kd.C k52 w A0_6 l0_6.length l0_6) (hc0_6 : l0_6.length ≤ c0_6) (hr0_8 : Kd.C k54 w A0_8 l0_8.length l0_8) (hc0_8 : l0_8.length ≤ c0_8) (hr0_9 : Kd.C k56 w A0_9 l0_9.length l0_9) (hc0_9 : l0_9.length ≤ c0_9) :
    Calls Try.prog 20 #[.agg #[.int .i64 2, .int .i64 a0_1, .int .i64 a0_2, .int .i64 a0_3, .int .i64 a0_4, .slice A0_5 l0_5.length c0_5, .slice A0_6 l0_6.length c0_6, .int .i64 a0_7, .slice A0_8 l0_8.length c0_8, .slice A0_9 l0_9.length c0_9]] w fun e w' => e = .returned (errW (if (1 ≤ a0_1 ∧ 0 ≤ a0_2 ∧ 0 ≤ a0_7 ∧ ((a0_3 = -1 ∧ a0_4 = 0 ∧ l0_5.length = 0 ∧ l0_6.length = 0) ∨ OnPage a0_3 a0_4 l0_5 l0_6 true)) ∧ (l0_8 = [] ∧ l0_9 = []) then none else some 2)) ∧ Below w.heap.size w w' := by
  have hu30 := Try.underlying30
  have hu32 := Try.underlying32
  have hu44 := Try.underlying44
  have HR5 := Aside0.mk hr0_5
  have HR6 := Aside0.mk hr0_6
  have HR8 := Aside0.mk hr0_8
  have HR9 := Aside0.mk hr0_9
  have Hs := Aside0.mk (same_f 2 a0_1 a0_2 a0_3 a0_4 l0_5 l0_6 a0_7 l0_8 l0_9 2 a0_1 a0_2 a0_3 a0_4 l0_5 l0_6 a0_7 [] [] (Kd.C_max hr0_5) (Kd.C_max hr0_6) (Kd.C_max hr0_8) (Kd.C_max hr0_9) (l0_5.length + l0_6.length + l0_8.length + l0_9.length + 1) (by omega) (by omega) (by omega) (by omega))
  clear hr0_5 hr0_6 hr0_8 hr0_9
  by_cases g : 1 ≤ a0_1 ∧ 0 ≤ a0_2 ∧ 0 ≤ a0_7 ∧ ((a0_3 = -1 ∧ a0_4 = 0 ∧ l0_5.length = 0 ∧ l0_6.length = 0) ∨ OnPage a0_3 a0_4 l0_5 l0_6 true)
  · have Hd := Aside0.mk (decide_eq_true g)
    by_cases v : l0_8 = [] ∧ l0_9 = []
    · have Hv := Aside0.mk (Hs.out.trans (congrArg some (decide_eq_true (show _ from by simp [v]))))
      rw [if_pos ⟨g, v⟩]
      clear g v Hs
      go_enter Try.func20, Try.ntmps20
      go_wp2_with fail
      refine (said_2 a0_1 a0_2 a0_3 a0_4 A0_5 c0_5 l0_5 A0_6 c0_6 l0_6 a0_7 A0_8 c0_8 l0_8 A0_9 c0_9 l0_9 _ (Kd.C_alloc HR5.out _) hc0_5 (Kd.C_alloc HR6.out _) hc0_6 (Kd.C_alloc HR8.out _) hc0_8 (Kd.C_alloc HR9.out _) hc0_9 _ Hd.out).mono ?_
      rintro e w1 ⟨rfl, hb⟩
      have BK1 := Lib.hid (blk_below (heap_alloc_new w _) hb)
      have HB := Lib.hid (below_then (below_alloc (Below.refl w.heap.size w) _) (by rw [World.size_alloc]; omega) hb)
      clear hb
      obtain ⟨d_0, d_1, d_2, d_3, d_4, d_5, d_6, d_7, d_8, d_9⟩ := ten_cells BK1.out
      have hz : w.heap.size < w1.heap.size := blk_lt BK1.out
      have hz' : ¬ w.heap.size = w1.heap.size := by omega
      go_wp2_with fail
      refine (record_Same.calls (l0_5.length + l0_6.length + l0_8.length + l0_9.length + 1) 2 a0_1 a0_2 a0_3 a0_4 _ _ l0_5 _ _ l0_6 a0_7 _ _ l0_8 _ _ l0_9 2 a0_1 a0_2 a0_3 a0_4 _ _ l0_5 _ _ l0_6 a0_7 _ _ [] _ _ [] _ _ (Kd.C_alloc (Kd.C_below HR5.out HB.out) _) hc0_5 (Kd.C_alloc (Kd.C_below HR6.out HB.out) _) hc0_6 (Kd.C_alloc (Kd.C_below HR8.out HB.out) _) hc0_8 (Kd.C_alloc (Kd.C_below HR9.out HB.out) _) hc0_9 (Kd.C_alloc (Kd.C_below HR5.out HB.out) _) hc0_5 (Kd.C_alloc (Kd.C_below HR6.out HB.out) _) hc0_6 (Kd.C_nil _ _) (Nat.le_refl 0) (Kd.C_nil _ _) (Nat.le_refl 0) Hv.out).mono ?_
      rintro e w2 ⟨rfl, hb⟩
      have HB2 := Lib.hid (below_then (below_alloc HB.out _) (by rw [World.size_alloc]; omega) hb)
      clear hb
      go_wp2
      go_ret
      exact ⟨rfl, HB2.out⟩
    · have Hv := Aside0.mk (Hs.out.trans (congrArg some (decide_eq_false (show ¬ _ from fun h => v (by simpa using h)))))
      rw [if_neg fun h => v h.2]
      clear g v Hs
      go_enter Try.func20, Try.ntmps20
      go_wp2_with fail
      refine (said_2 a0_1 a0_2 a0_3 a0_4 A0_5 c0_5 l0_5 A0_6 c0_6 l0_6 a0_7 A0_8 c0_8 l0_8 A0_9 c0_9 l0_9 _ (Kd.C_alloc HR5.out _) hc0_5 (Kd.C_alloc HR6.out _) hc0_6 (Kd.C_alloc HR8.out _) hc0_8 (Kd.C_alloc HR9.out _) hc0_9 _ Hd.out).mono ?_
      rintro e w1 ⟨rfl, hb⟩
      have BK1 := Lib.hid (blk_below (heap_alloc_new w _) hb)
      have HB := Lib.hid (below_then (below_alloc (Below.refl w.heap.size w) _) (by rw [World.size_alloc]; omega) hb)
      clear hb
      obtain ⟨d_0, d_1, d_2, d_3, d_4, d_5, d_6, d_7, d_8, d_9⟩ := ten_cells BK1.out
      have hz : w.heap.size < w1.heap.size := blk_lt BK1.out
      have hz' : ¬ w.heap.size = w1.heap.size := by omega
      go_wp2_with fail
      refine (record_Same.calls (l0_5.length + l0_6.length + l0_8.length + l0_9.length + 1) 2 a0_1 a0_2 a0_3 a0_4 _ _ l0_5 _ _ l0_6 a0_7 _ _ l0_8 _ _ l0_9 2 a0_1 a0_2 a0_3 a0_4 _ _ l0_5 _ _ l0_6 a0_7 _ _ [] _ _ [] _ _ (Kd.C_alloc (Kd.C_below HR5.out HB.out) _) hc0_5 (Kd.C_alloc (Kd.C_below HR6.out HB.out) _) hc0_6 (Kd.C_alloc (Kd.C_below HR8.out HB.out) _) hc0_8 (Kd.C_alloc (Kd.C_below HR9.out HB.out) _) hc0_9 (Kd.C_alloc (Kd.C_below HR5.out HB.out) _) hc0_5 (Kd.C_alloc (Kd.C_below HR6.out HB.out) _) hc0_6 (Kd.C_nil _ _) (Nat.le_refl 0) (Kd.C_nil _ _) (Nat.le_refl 0) Hv.out).mono ?_
      rintro e w2 ⟨rfl, hb⟩
      have HB2 := Lib.hid (below_then (below_alloc HB.out _) (by rw [World.size_alloc]; omega) hb)
      clear hb
      go_wp2
      go_ret
      exact ⟨rfl, HB2.out⟩
  · have Hd := Aside0.mk (decide_eq_false g)
    rw [if_neg fun h => g h.1]
    clear g Hs
    go_enter Try.func20, Try.ntmps20
    go_wp2_with fail
    refine (said_2 a0_1 a0_2 a0_3 a0_4 A0_5 c0_5 l0_5 A0_6 c0_6 l0_6 a0_7 A0_8 c0_8 l0_8 A0_9 c0_9 l0_9 _ (Kd.C_alloc HR5.out _) hc0_5 (Kd.C_alloc HR6.out _) hc0_6 (Kd.C_alloc HR8.out _) hc0_8 (Kd.C_alloc HR9.out _) hc0_9 _ Hd.out).mono ?_
    rintro e w1 ⟨rfl, hb⟩
    have BK1 := Lib.hid (blk_below (heap_alloc_new w _) hb)
    have HB := Lib.hid (below_then (below_alloc (Below.refl w.heap.size w) _) (by rw [World.size_alloc]; omega) hb)
    clear hb
    obtain ⟨d_0, d_1, d_2, d_3, d_4, d_5, d_6, d_7, d_8, d_9⟩ := ten_cells BK1.out
    have hz : w.heap.size < w1.heap.size := blk_lt BK1.out
    have hz' : ¬ w.heap.size = w1.heap.size := by omega
    go_wp2
    go_ret
    exact ⟨rfl, below_alloc HB.out _⟩
set_option maxHeartbeats 4000000 in
set_option maxRecDepth 100000 in
theorem check_3 (a0_1 : Int) (a0_2 : Int) (a0_3 : Int) (a0_4 : Int) (A0_5 : Option Addr) (c0_5 : Nat) (l0_5 : List Int) (A0_6 : Option Addr) (c0_6 : Nat) (l0_6 : List (S52)) (a0_7 : Int) (A0_8 : Option Addr) (c0_8 : Nat) (l0_8 : List (S54)) (A0_9 : Option Addr) (c0_9 : Nat) (l0_9 : List (S56)) (w : World)
    (hr0_5 : Kd.C (Kd.int .i64) w A0_5 l0_5.length l0_5) (hc0_5 : l0_5.length ≤ c0_5) (hr0_6 : Kd.C k52 w A0_6 l0_6.length l0_6) (hc0_6 : l0_6.length ≤ c0_6) (hr0_8 : Kd.C k54 w A0_8 l0_8.length l0_8) (hc0_8 : l0_8.length ≤ c0_8) (hr0_9 : Kd.C k56 w A0_9 l0_9.length l0_9) (hc0_9 : l0_9.length ≤ c0_9) :
    Calls Try.prog 20 #[.agg #[.int .i64 3, .int .i64 a0_1, .int .i64 a0_2, .int .i64 a0_3, .int .i64 a0_4, .slice A0_5 l0_5.length c0_5, .slice A0_6 l0_6.length c0_6, .int .i64 a0_7, .slice A0_8 l0_8.length c0_8, .slice A0_9 l0_9.length c0_9]] w fun e w' => e = .returned (errW (if (1 ≤ a0_1 ∧ 0 ≤ a0_2) ∧ (a0_3 = 0 ∧ a0_4 = 0 ∧ l0_5 = [] ∧ l0_6 = [] ∧ a0_7 = 0 ∧ l0_8 = [] ∧ l0_9 = []) then none else some 2)) ∧ Below w.heap.size w w' := by
  have hu30 := Try.underlying30
  have hu32 := Try.underlying32
  have hu44 := Try.underlying44
  have HR5 := Aside0.mk hr0_5
  have HR6 := Aside0.mk hr0_6
  have HR8 := Aside0.mk hr0_8
  have HR9 := Aside0.mk hr0_9
  have Hs := Aside0.mk (same_f 3 a0_1 a0_2 a0_3 a0_4 l0_5 l0_6 a0_7 l0_8 l0_9 3 a0_1 a0_2 0 0 [] [] 0 [] [] (Kd.C_max hr0_5) (Kd.C_max hr0_6) (Kd.C_max hr0_8) (Kd.C_max hr0_9) (l0_5.length + l0_6.length + l0_8.length + l0_9.length + 1) (by omega) (by omega) (by omega) (by omega))
  clear hr0_5 hr0_6 hr0_8 hr0_9
  by_cases g : 1 ≤ a0_1 ∧ 0 ≤ a0_2
  · have Hd := Aside0.mk (decide_eq_true g)
    by_cases v : a0_3 = 0 ∧ a0_4 = 0 ∧ l0_5 = [] ∧ l0_6 = [] ∧ a0_7 = 0 ∧ l0_8 = [] ∧ l0_9 = []
    · have Hv := Aside0.mk (Hs.out.trans (congrArg some (decide_eq_true (show _ from by simp [v]))))
      rw [if_pos ⟨g, v⟩]
      clear g v Hs
      go_enter Try.func20, Try.ntmps20
      go_wp2_with fail
      refine (said_3 a0_1 a0_2 a0_3 a0_4 A0_5 c0_5 l0_5 A0_6 c0_6 l0_6 a0_7 A0_8 c0_8 l0_8 A0_9 c0_9 l0_9 _ (Kd.C_alloc HR5.out _) hc0_5 (Kd.C_alloc HR6.out _) hc0_6 (Kd.C_alloc HR8.out _) hc0_8 (Kd.C_alloc HR9.out _) hc0_9 _ Hd.out).mono ?_
      rintro e w1 ⟨rfl, hb⟩
      have BK1 := Lib.hid (blk_below (heap_alloc_new w _) hb)
      have HB := Lib.hid (below_then (below_alloc (Below.refl w.heap.size w) _) (by rw [World.size_alloc]; omega) hb)
      clear hb
      obtain ⟨d_0, d_1, d_2, d_3, d_4, d_5, d_6, d_7, d_8, d_9⟩ := ten_cells BK1.out
      have hz : w.heap.size < w1.heap.size := blk_lt BK1.out
      have hz' : ¬ w.heap.size = w1.heap.size := by omega
      go_wp2_with fail
      refine (record_Same.calls (l0_5.length + l0_6.length + l0_8.length + l0_9.length + 1) 3 a0_1 a0_2 a0_3 a0_4 _ _ l0_5 _ _ l0_6 a0_7 _ _ l0_8 _ _ l0_9 3 a0_1 a0_2 0 0 _ _ [] _ _ [] 0 _ _ [] _ _ [] _ _ (Kd.C_alloc (Kd.C_below HR5.out HB.out) _) hc0_5 (Kd.C_alloc (Kd.C_below HR6.out HB.out) _) hc0_6 (Kd.C_alloc (Kd.C_below HR8.out HB.out) _) hc0_8 (Kd.C_alloc (Kd.C_below HR9.out HB.out) _) hc0_9 (Kd.C_nil _ _) (Nat.le_refl 0) (Kd.C_nil _ _) (Nat.le_refl 0) (Kd.C_nil _ _) (Nat.le_refl 0) (Kd.C_nil _ _) (Nat.le_refl 0) Hv.out).mono ?_
      rintro e w2 ⟨rfl, hb⟩
      have HB2 := Lib.hid (below_then (below_alloc HB.out _) (by rw [World.size_alloc]; omega) hb)
      clear hb
      go_wp2
      go_ret
      exact ⟨rfl, HB2.out⟩
    · have Hv := Aside0.mk (Hs.out.trans (congrArg some (decide_eq_false (show ¬ _ from fun h => v (by simpa using h)))))
      rw [if_neg fun h => v h.2]
      clear g v Hs
      go_enter Try.func20, Try.ntmps20
      go_wp2_with fail
      refine (said_3 a0_1 a0_2 a0_3 a0_4 A0_5 c0_5 l0_5 A0_6 c0_6 l0_6 a0_7 A0_8 c0_8 l0_8 A0_9 c0_9 l0_9 _ (Kd.C_alloc HR5.out _) hc0_5 (Kd.C_alloc HR6.out _) hc0_6 (Kd.C_alloc HR8.out _) hc0_8 (Kd.C_alloc HR9.out _) hc0_9 _ Hd.out).mono ?_
      rintro e w1 ⟨rfl, hb⟩
      have BK1 := Lib.hid (blk_below (heap_alloc_new w _) hb)
      have HB := Lib.hid (below_then (below_alloc (Below.refl w.heap.size w) _) (by rw [World.size_alloc]; omega) hb)
      clear hb
      obtain ⟨d_0, d_1, d_2, d_3, d_4, d_5, d_6, d_7, d_8, d_9⟩ := ten_cells BK1.out
      have hz : w.heap.size < w1.heap.size := blk_lt BK1.out
      have hz' : ¬ w.heap.size = w1.heap.size := by omega
      go_wp2_with fail
      refine (record_Same.calls (l0_5.length + l0_6.length + l0_8.length + l0_9.length + 1) 3 a0_1 a0_2 a0_3 a0_4 _ _ l0_5 _ _ l0_6 a0_7 _ _ l0_8 _ _ l0_9 3 a0_1 a0_2 0 0 _ _ [] _ _ [] 0 _ _ [] _ _ [] _ _ (Kd.C_alloc (Kd.C_below HR5.out HB.out) _) hc0_5 (Kd.C_alloc (Kd.C_below HR6.out HB.out) _) hc0_6 (Kd.C_alloc (Kd.C_below HR8.out HB.out) _) hc0_8 (Kd.C_alloc (Kd.C_below HR9.out HB.out) _) hc0_9 (Kd.C_nil _ _) (Nat.le_refl 0) (Kd.C_nil _ _) (Nat.le_refl 0) (Kd.C_nil _ _) (Nat.le_refl 0) (Kd.C_nil _ _) (Nat.le_refl 0) Hv.out).mono ?_
      rintro e w2 ⟨rfl, hb⟩
      have HB2 := Lib.hid (below_then (below_alloc HB.out _) (by rw [World.size_alloc]; omega) hb)
      clear hb
      go_wp2
      go_ret
      exact ⟨rfl, HB2.out⟩
  · have Hd := Aside0.mk (decide_eq_false g)
    rw [if_neg fun h => g h.1]
    clear g Hs
    go_enter Try.func20, Try.ntmps20
    go_wp2_with fail
    refine (said_3 a0_1 a0_2 a0_3 a0_4 A0_5 c0_5 l0_5 A0_6 c0_6 l0_6 a0_7 A0_8 c0_8 l0_8 A0_9 c0_9 l0_9 _ (Kd.C_alloc HR5.out _) hc0_5 (Kd.C_alloc HR6.out _) hc0_6 (Kd.C_alloc HR8.out _) hc0_8 (Kd.C_alloc HR9.out _) hc0_9 _ Hd.out).mono ?_
    rintro e w1 ⟨rfl, hb⟩
    have BK1 := Lib.hid (blk_below (heap_alloc_new w _) hb)
    have HB := Lib.hid (below_then (below_alloc (Below.refl w.heap.size w) _) (by rw [World.size_alloc]; omega) hb)
    clear hb
    obtain ⟨d_0, d_1, d_2, d_3, d_4, d_5, d_6, d_7, d_8, d_9⟩ := ten_cells BK1.out
    have hz : w.heap.size < w1.heap.size := blk_lt BK1.out
    have hz' : ¬ w.heap.size = w1.heap.size := by omega
    go_wp2
    go_ret
    exact ⟨rfl, below_alloc HB.out _⟩
set_option maxHeartbeats 4000000 in
set_option maxRecDepth 100000 in
theorem check_4 (a0_1 : Int) (a0_2 : Int) (a0_3 : Int) (a0_4 : Int) (A0_5 : Option Addr) (c0_5 : Nat) (l0_5 : List Int) (A0_6 : Option Addr) (c0_6 : Nat) (l0_6 : List (S52)) (a0_7 : Int) (A0_8 : Option Addr) (c0_8 : Nat) (l0_8 : List (S54)) (A0_9 : Option Addr) (c0_9 : Nat) (l0_9 : List (S56)) (w : World)
    (hr0_5 : Kd.C (Kd.int .i64) w A0_5 l0_5.length l0_5) (hc0_5 : l0_5.length ≤ c0_5) (hr0_6 : Kd.C k52 w A0_6 l0_6.length l0_6) (hc0_6 : l0_6.length ≤ c0_6) (hr0_8 : Kd.C k54 w A0_8 l0_8.length l0_8) (hc0_8 : l0_8.length ≤ c0_8) (hr0_9 : Kd.C k56 w A0_9 l0_9.length l0_9) (hc0_9 : l0_9.length ≤ c0_9) :
    Calls Try.prog 20 #[.agg #[.int .i64 4, .int .i64 a0_1, .int .i64 a0_2, .int .i64 a0_3, .int .i64 a0_4, .slice A0_5 l0_5.length c0_5, .slice A0_6 l0_6.length c0_6, .int .i64 a0_7, .slice A0_8 l0_8.length c0_8, .slice A0_9 l0_9.length c0_9]] w fun e w' => e = .returned (errW (if (1 ≤ a0_1 ∧ 0 ≤ a0_2) ∧ (a0_3 = 0 ∧ a0_4 = 0 ∧ l0_5 = [] ∧ l0_6 = [] ∧ a0_7 = 0 ∧ l0_8 = [] ∧ l0_9 = []) then none else some 2)) ∧ Below w.heap.size w w' := by
  have hu30 := Try.underlying30
  have hu32 := Try.underlying32
  have hu44 := Try.underlying44
  have HR5 := Aside0.mk hr0_5
  have HR6 := Aside0.mk hr0_6
  have HR8 := Aside0.mk hr0_8
  have HR9 := Aside0.mk hr0_9
  have Hs := Aside0.mk (same_f 4 a0_1 a0_2 a0_3 a0_4 l0_5 l0_6 a0_7 l0_8 l0_9 4 a0_1 a0_2 0 0 [] [] 0 [] [] (Kd.C_max hr0_5) (Kd.C_max hr0_6) (Kd.C_max hr0_8) (Kd.C_max hr0_9) (l0_5.length + l0_6.length + l0_8.length + l0_9.length + 1) (by omega) (by omega) (by omega) (by omega))
  clear hr0_5 hr0_6 hr0_8 hr0_9
  by_cases g : 1 ≤ a0_1 ∧ 0 ≤ a0_2
  · have Hd := Aside0.mk (decide_eq_true g)
    by_cases v : a0_3 = 0 ∧ a0_4 = 0 ∧ l0_5 = [] ∧ l0_6 = [] ∧ a0_7 = 0 ∧ l0_8 = [] ∧ l0_9 = []
    · have Hv := Aside0.mk (Hs.out.trans (congrArg some (decide_eq_true (show _ from by simp [v]))))
      rw [if_pos ⟨g, v⟩]
      clear g v Hs
      go_enter Try.func20, Try.ntmps20
      go_wp2_with fail
      refine (said_4 a0_1 a0_2 a0_3 a0_4 A0_5 c0_5 l0_5 A0_6 c0_6 l0_6 a0_7 A0_8 c0_8 l0_8 A0_9 c0_9 l0_9 _ (Kd.C_alloc HR5.out _) hc0_5 (Kd.C_alloc HR6.out _) hc0_6 (Kd.C_alloc HR8.out _) hc0_8 (Kd.C_alloc HR9.out _) hc0_9 _ Hd.out).mono ?_
      rintro e w1 ⟨rfl, hb⟩
      have BK1 := Lib.hid (blk_below (heap_alloc_new w _) hb)
      have HB := Lib.hid (below_then (below_alloc (Below.refl w.heap.size w) _) (by rw [World.size_alloc]; omega) hb)
      clear hb
      obtain ⟨d_0, d_1, d_2, d_3, d_4, d_5, d_6, d_7, d_8, d_9⟩ := ten_cells BK1.out
      have hz : w.heap.size < w1.heap.size := blk_lt BK1.out
      have hz' : ¬ w.heap.size = w1.heap.size := by omega
      go_wp2_with fail
      refine (record_Same.calls (l0_5.length + l0_6.length + l0_8.length + l0_9.length + 1) 4 a0_1 a0_2 a0_3 a0_4 _ _ l0_5 _ _ l0_6 a0_7 _ _ l0_8 _ _ l0_9 4 a0_1 a0_2 0 0 _ _ [] _ _ [] 0 _ _ [] _ _ [] _ _ (Kd.C_alloc (Kd.C_below HR5.out HB.out) _) hc0_5 (Kd.C_alloc (Kd.C_below HR6.out HB.out) _) hc0_6 (Kd.C_alloc (Kd.C_below HR8.out HB.out) _) hc0_8 (Kd.C_alloc (Kd.C_below HR9.out HB.out) _) hc0_9 (Kd.C_nil _ _) (Nat.le_refl 0) (Kd.C_nil _ _) (Nat.le_refl 0) (Kd.C_nil _ _) (Nat.le_refl 0) (Kd.C_nil _ _) (Nat.le_refl 0) Hv.out).mono ?_
      rintro e w2 ⟨rfl, hb⟩
      have HB2 := Lib.hid (below_then (below_alloc HB.out _) (by rw [World.size_alloc]; omega) hb)
      clear hb
      go_wp2
      go_ret
      exact ⟨rfl, HB2.out⟩
    · have Hv := Aside0.mk (Hs.out.trans (congrArg some (decide_eq_false (show ¬ _ from fun h => v (by simpa using h)))))
      rw [if_neg fun h => v h.2]
      clear g v Hs
      go_enter Try.func20, Try.ntmps20
      go_wp2_with fail
      refine (said_4 a0_1 a0_2 a0_3 a0_4 A0_5 c0_5 l0_5 A0_6 c0_6 l0_6 a0_7 A0_8 c0_8 l0_8 A0_9 c0_9 l0_9 _ (Kd.C_alloc HR5.out _) hc0_5 (Kd.C_alloc HR6.out _) hc0_6 (Kd.C_alloc HR8.out _) hc0_8 (Kd.C_alloc HR9.out _) hc0_9 _ Hd.out).mono ?_
      rintro e w1 ⟨rfl, hb⟩
      have BK1 := Lib.hid (blk_below (heap_alloc_new w _) hb)
      have HB := Lib.hid (below_then (below_alloc (Below.refl w.heap.size w) _) (by rw [World.size_alloc]; omega) hb)
      clear hb
      obtain ⟨d_0, d_1, d_2, d_3, d_4, d_5, d_6, d_7, d_8, d_9⟩ := ten_cells BK1.out
      have hz : w.heap.size < w1.heap.size := blk_lt BK1.out
      have hz' : ¬ w.heap.size = w1.heap.size := by omega
      go_wp2_with fail
      refine (record_Same.calls (l0_5.length + l0_6.length + l0_8.length + l0_9.length + 1) 4 a0_1 a0_2 a0_3 a0_4 _ _ l0_5 _ _ l0_6 a0_7 _ _ l0_8 _ _ l0_9 4 a0_1 a0_2 0 0 _ _ [] _ _ [] 0 _ _ [] _ _ [] _ _ (Kd.C_alloc (Kd.C_below HR5.out HB.out) _) hc0_5 (Kd.C_alloc (Kd.C_below HR6.out HB.out) _) hc0_6 (Kd.C_alloc (Kd.C_below HR8.out HB.out) _) hc0_8 (Kd.C_alloc (Kd.C_below HR9.out HB.out) _) hc0_9 (Kd.C_nil _ _) (Nat.le_refl 0) (Kd.C_nil _ _) (Nat.le_refl 0) (Kd.C_nil _ _) (Nat.le_refl 0) (Kd.C_nil _ _) (Nat.le_refl 0) Hv.out).mono ?_
      rintro e w2 ⟨rfl, hb⟩
      have HB2 := Lib.hid (below_then (below_alloc HB.out _) (by rw [World.size_alloc]; omega) hb)
      clear hb
      go_wp2
      go_ret
      exact ⟨rfl, HB2.out⟩
  · have Hd := Aside0.mk (decide_eq_false g)
    rw [if_neg fun h => g h.1]
    clear g Hs
    go_enter Try.func20, Try.ntmps20
    go_wp2_with fail
    refine (said_4 a0_1 a0_2 a0_3 a0_4 A0_5 c0_5 l0_5 A0_6 c0_6 l0_6 a0_7 A0_8 c0_8 l0_8 A0_9 c0_9 l0_9 _ (Kd.C_alloc HR5.out _) hc0_5 (Kd.C_alloc HR6.out _) hc0_6 (Kd.C_alloc HR8.out _) hc0_8 (Kd.C_alloc HR9.out _) hc0_9 _ Hd.out).mono ?_
    rintro e w1 ⟨rfl, hb⟩
    have BK1 := Lib.hid (blk_below (heap_alloc_new w _) hb)
    have HB := Lib.hid (below_then (below_alloc (Below.refl w.heap.size w) _) (by rw [World.size_alloc]; omega) hb)
    clear hb
    obtain ⟨d_0, d_1, d_2, d_3, d_4, d_5, d_6, d_7, d_8, d_9⟩ := ten_cells BK1.out
    have hz : w.heap.size < w1.heap.size := blk_lt BK1.out
    have hz' : ¬ w.heap.size = w1.heap.size := by omega
    go_wp2
    go_ret
    exact ⟨rfl, below_alloc HB.out _⟩
set_option maxHeartbeats 4000000 in
set_option maxRecDepth 100000 in
theorem check_5 (a0_1 : Int) (a0_2 : Int) (a0_3 : Int) (a0_4 : Int) (A0_5 : Option Addr) (c0_5 : Nat) (l0_5 : List Int) (A0_6 : Option Addr) (c0_6 : Nat) (l0_6 : List (S52)) (a0_7 : Int) (A0_8 : Option Addr) (c0_8 : Nat) (l0_8 : List (S54)) (A0_9 : Option Addr) (c0_9 : Nat) (l0_9 : List (S56)) (w : World)
    (hr0_5 : Kd.C (Kd.int .i64) w A0_5 l0_5.length l0_5) (hc0_5 : l0_5.length ≤ c0_5) (hr0_6 : Kd.C k52 w A0_6 l0_6.length l0_6) (hc0_6 : l0_6.length ≤ c0_6) (hr0_8 : Kd.C k54 w A0_8 l0_8.length l0_8) (hc0_8 : l0_8.length ≤ c0_8) (hr0_9 : Kd.C k56 w A0_9 l0_9.length l0_9) (hc0_9 : l0_9.length ≤ c0_9) :
    Calls Try.prog 20 #[.agg #[.int .i64 5, .int .i64 a0_1, .int .i64 a0_2, .int .i64 a0_3, .int .i64 a0_4, .slice A0_5 l0_5.length c0_5, .slice A0_6 l0_6.length c0_6, .int .i64 a0_7, .slice A0_8 l0_8.length c0_8, .slice A0_9 l0_9.length c0_9]] w fun e w' => e = .returned (errW (if ((l0_8.length ≤ 64 ∧ l0_9.length ≤ 64 ∧ Ris (fun x => x.f0) z54 1024 l0_8 ∧ Ris (fun x => wrap64 (x.f0 - 1)) z56 4611686018427387904 l0_9) ∧ (∀ j, j < l0_8.length → 0 ≤ (l0_8.getD j z54).f1) ∧ (∀ j, j < l0_9.length → 0 ≤ (l0_9.getD j z56).f1 ∧ 0 ≤ (l0_9.getD j z56).f2 ∧ 0 ≤ (l0_9.getD j z56).f3)) ∧ (a0_1 = 0 ∧ a0_2 = 0 ∧ a0_3 = 0 ∧ a0_4 = 0 ∧ l0_5 = [] ∧ l0_6 = [] ∧ a0_7 = 0) then none else some 2)) ∧ Below w.heap.size w w' := by
  have hu30 := Try.underlying30
  have hu32 := Try.underlying32
  have hu44 := Try.underlying44
  have HR5 := Aside0.mk hr0_5
  have HR6 := Aside0.mk hr0_6
  have HR8 := Aside0.mk hr0_8
  have HR9 := Aside0.mk hr0_9
  have Hs := Aside0.mk (same_f 5 a0_1 a0_2 a0_3 a0_4 l0_5 l0_6 a0_7 l0_8 l0_9 5 0 0 0 0 [] [] 0 l0_8 l0_9 (Kd.C_max hr0_5) (Kd.C_max hr0_6) (Kd.C_max hr0_8) (Kd.C_max hr0_9) (l0_5.length + l0_6.length + l0_8.length + l0_9.length + 1) (by omega) (by omega) (by omega) (by omega))
  clear hr0_5 hr0_6 hr0_8 hr0_9
  by_cases g : (l0_8.length ≤ 64 ∧ l0_9.length ≤ 64 ∧ Ris (fun x => x.f0) z54 1024 l0_8 ∧ Ris (fun x => wrap64 (x.f0 - 1)) z56 4611686018427387904 l0_9) ∧ (∀ j, j < l0_8.length → 0 ≤ (l0_8.getD j z54).f1) ∧ (∀ j, j < l0_9.length → 0 ≤ (l0_9.getD j z56).f1 ∧ 0 ≤ (l0_9.getD j z56).f2 ∧ 0 ≤ (l0_9.getD j z56).f3)
  · have Hd := Aside0.mk (decide_eq_true g)
    by_cases v : a0_1 = 0 ∧ a0_2 = 0 ∧ a0_3 = 0 ∧ a0_4 = 0 ∧ l0_5 = [] ∧ l0_6 = [] ∧ a0_7 = 0
    · have Hv := Aside0.mk (Hs.out.trans (congrArg some (decide_eq_true (show _ from by simp [v]))))
      rw [if_pos ⟨g, v⟩]
      clear g v Hs
      go_enter Try.func20, Try.ntmps20
      go_wp2_with fail
      refine (said_5 a0_1 a0_2 a0_3 a0_4 A0_5 c0_5 l0_5 A0_6 c0_6 l0_6 a0_7 A0_8 c0_8 l0_8 A0_9 c0_9 l0_9 _ (Kd.C_alloc HR5.out _) hc0_5 (Kd.C_alloc HR6.out _) hc0_6 (Kd.C_alloc HR8.out _) hc0_8 (Kd.C_alloc HR9.out _) hc0_9 _ Hd.out).mono ?_
      rintro e w1 ⟨rfl, hb⟩
      have BK1 := Lib.hid (blk_below (heap_alloc_new w _) hb)
      have HB := Lib.hid (below_then (below_alloc (Below.refl w.heap.size w) _) (by rw [World.size_alloc]; omega) hb)
      clear hb
      obtain ⟨d_0, d_1, d_2, d_3, d_4, d_5, d_6, d_7, d_8, d_9⟩ := ten_cells BK1.out
      have hz : w.heap.size < w1.heap.size := blk_lt BK1.out
      have hz' : ¬ w.heap.size = w1.heap.size := by omega
      go_wp2_with fail
      refine (record_Same.calls (l0_5.length + l0_6.length + l0_8.length + l0_9.length + 1) 5 a0_1 a0_2 a0_3 a0_4 _ _ l0_5 _ _ l0_6 a0_7 _ _ l0_8 _ _ l0_9 5 0 0 0 0 _ _ [] _ _ [] 0 _ _ l0_8 _ _ l0_9 _ _ (Kd.C_alloc (Kd.C_below HR5.out HB.out) _) hc0_5 (Kd.C_alloc (Kd.C_below HR6.out HB.out) _) hc0_6 (Kd.C_alloc (Kd.C_below HR8.out HB.out) _) hc0_8 (Kd.C_alloc (Kd.C_below HR9.out HB.out) _) hc0_9 (Kd.C_nil _ _) (Nat.le_refl 0) (Kd.C_nil _ _) (Nat.le_refl 0) (Kd.C_alloc (Kd.C_below HR8.out HB.out) _) hc0_8 (Kd.C_alloc (Kd.C_below HR9.out HB.out) _) hc0_9 Hv.out).mono ?_
      rintro e w2 ⟨rfl, hb⟩
      have HB2 := Lib.hid (below_then (below_alloc HB.out _) (by rw [World.size_alloc]; omega) hb)
      clear hb
      go_wp2
      go_ret
      exact ⟨rfl, HB2.out⟩
    · have Hv := Aside0.mk (Hs.out.trans (congrArg some (decide_eq_false (show ¬ _ from fun h => v (by simpa using h)))))
      rw [if_neg fun h => v h.2]
      clear g v Hs
      go_enter Try.func20, Try.ntmps20
      go_wp2_with fail
      refine (said_5 a0_1 a0_2 a0_3 a0_4 A0_5 c0_5 l0_5 A0_6 c0_6 l0_6 a0_7 A0_8 c0_8 l0_8 A0_9 c0_9 l0_9 _ (Kd.C_alloc HR5.out _) hc0_5 (Kd.C_alloc HR6.out _) hc0_6 (Kd.C_alloc HR8.out _) hc0_8 (Kd.C_alloc HR9.out _) hc0_9 _ Hd.out).mono ?_
      rintro e w1 ⟨rfl, hb⟩
      have BK1 := Lib.hid (blk_below (heap_alloc_new w _) hb)
      have HB := Lib.hid (below_then (below_alloc (Below.refl w.heap.size w) _) (by rw [World.size_alloc]; omega) hb)
      clear hb
      obtain ⟨d_0, d_1, d_2, d_3, d_4, d_5, d_6, d_7, d_8, d_9⟩ := ten_cells BK1.out
      have hz : w.heap.size < w1.heap.size := blk_lt BK1.out
      have hz' : ¬ w.heap.size = w1.heap.size := by omega
      go_wp2_with fail
      refine (record_Same.calls (l0_5.length + l0_6.length + l0_8.length + l0_9.length + 1) 5 a0_1 a0_2 a0_3 a0_4 _ _ l0_5 _ _ l0_6 a0_7 _ _ l0_8 _ _ l0_9 5 0 0 0 0 _ _ [] _ _ [] 0 _ _ l0_8 _ _ l0_9 _ _ (Kd.C_alloc (Kd.C_below HR5.out HB.out) _) hc0_5 (Kd.C_alloc (Kd.C_below HR6.out HB.out) _) hc0_6 (Kd.C_alloc (Kd.C_below HR8.out HB.out) _) hc0_8 (Kd.C_alloc (Kd.C_below HR9.out HB.out) _) hc0_9 (Kd.C_nil _ _) (Nat.le_refl 0) (Kd.C_nil _ _) (Nat.le_refl 0) (Kd.C_alloc (Kd.C_below HR8.out HB.out) _) hc0_8 (Kd.C_alloc (Kd.C_below HR9.out HB.out) _) hc0_9 Hv.out).mono ?_
      rintro e w2 ⟨rfl, hb⟩
      have HB2 := Lib.hid (below_then (below_alloc HB.out _) (by rw [World.size_alloc]; omega) hb)
      clear hb
      go_wp2
      go_ret
      exact ⟨rfl, HB2.out⟩
  · have Hd := Aside0.mk (decide_eq_false g)
    rw [if_neg fun h => g h.1]
    clear g Hs
    go_enter Try.func20, Try.ntmps20
    go_wp2_with fail
    refine (said_5 a0_1 a0_2 a0_3 a0_4 A0_5 c0_5 l0_5 A0_6 c0_6 l0_6 a0_7 A0_8 c0_8 l0_8 A0_9 c0_9 l0_9 _ (Kd.C_alloc HR5.out _) hc0_5 (Kd.C_alloc HR6.out _) hc0_6 (Kd.C_alloc HR8.out _) hc0_8 (Kd.C_alloc HR9.out _) hc0_9 _ Hd.out).mono ?_
    rintro e w1 ⟨rfl, hb⟩
    have BK1 := Lib.hid (blk_below (heap_alloc_new w _) hb)
    have HB := Lib.hid (below_then (below_alloc (Below.refl w.heap.size w) _) (by rw [World.size_alloc]; omega) hb)
    clear hb
    obtain ⟨d_0, d_1, d_2, d_3, d_4, d_5, d_6, d_7, d_8, d_9⟩ := ten_cells BK1.out
    have hz : w.heap.size < w1.heap.size := blk_lt BK1.out
    have hz' : ¬ w.heap.size = w1.heap.size := by omega
    go_wp2
    go_ret
    exact ⟨rfl, below_alloc HB.out _⟩
set_option maxHeartbeats 4000000 in
set_option maxRecDepth 100000 in
theorem said_0 (a0_0 : Int) (a0_1 : Int) (a0_2 : Int) (a0_3 : Int) (a0_4 : Int) (A0_5 : Option Addr) (c0_5 : Nat) (l0_5 : List Int) (A0_6 : Option Addr) (c0_6 : Nat) (l0_6 : List (S52)) (a0_7 : Int) (A0_8 : Option Addr) (c0_8 : Nat) (l0_8 : List (S54)) (A0_9 : Option Addr) (c0_9 : Nat) (l0_9 : List (S56)) (w : World)
    (hr0_5 : Kd.C (Kd.int .i64) w A0_5 l0_5.length l0_5) (hc0_5 : l0_5.length ≤ c0_5) (hr0_6 : Kd.C k52 w A0_6 l0_6.length l0_6) (hc0_6 : l0_6.length ≤ c0_6) (hr0_8 : Kd.C k54 w A0_8 l0_8.length l0_8) (hc0_8 : l0_8.length ≤ c0_8) (hr0_9 : Kd.C k56 w A0_9 l0_9.length l0_9) (hc0_9 : l0_9.length ≤ c0_9) (hk : ¬ (1 ≤ a0_0 ∧ a0_0 ≤ 5)) :
    Calls Try.prog 35 #[.agg #[.int .i64 a0_0, .int .i64 a0_1, .int .i64 a0_2, .int .i64 a0_3, .int .i64 a0_4, .slice A0_5 l0_5.length c0_5, .slice A0_6 l0_6.length c0_6, .int .i64 a0_7, .slice A0_8 l0_8.length c0_8, .slice A0_9 l0_9.length c0_9]] w fun e w' => e = .returned (.tuple #[.agg #[.int .i64 a0_0, .int .i64 0, .int .i64 0, .int .i64 0, .int .i64 0, .slice none 0 0, .slice none 0 0, .int .i64 0, .slice none 0 0, .slice none 0 0], .bool false]) ∧ Below w.heap.size w w' := by
  have hu30 := Try.underlying30
  have q1 : (a0_0 == 1) = false := beq_eq_false_iff_ne.2 (by omega)
  have q2 : (a0_0 == 2) = false := beq_eq_false_iff_ne.2 (by omega)
  have q3 : (a0_0 == 3) = false := beq_eq_false_iff_ne.2 (by omega)
  have q4 : (a0_0 == 4) = false := beq_eq_false_iff_ne.2 (by omega)
  have q5 : (a0_0 == 5) = false := beq_eq_false_iff_ne.2 (by omega)
  clear hk hr0_5 hr0_6 hr0_8 hr0_9
  go_enter Try.func35, Try.ntmps35
  go_wp2
  exact bodyPost_ret (v := .tuple #[.agg #[.int .i64 a0_0, .int .i64 0, .int .i64 0, .int .i64 0, .int .i64 0, .slice none 0 0, .slice none 0 0, .int .i64 0, .slice none 0 0, .slice none 0 0], .bool false]) (by simp [results, Try.results35, go_sem]) rfl ⟨rfl, below_alloc (below_alloc (below_alloc (Below.refl _ _) _) _) _⟩
set_option maxHeartbeats 4000000 in
set_option maxRecDepth 100000 in
theorem check_0 (a0_0 : Int) (a0_1 : Int) (a0_2 : Int) (a0_3 : Int) (a0_4 : Int) (A0_5 : Option Addr) (c0_5 : Nat) (l0_5 : List Int) (A0_6 : Option Addr) (c0_6 : Nat) (l0_6 : List (S52)) (a0_7 : Int) (A0_8 : Option Addr) (c0_8 : Nat) (l0_8 : List (S54)) (A0_9 : Option Addr) (c0_9 : Nat) (l0_9 : List (S56)) (w : World)
    (hr0_5 : Kd.C (Kd.int .i64) w A0_5 l0_5.length l0_5) (hc0_5 : l0_5.length ≤ c0_5) (hr0_6 : Kd.C k52 w A0_6 l0_6.length l0_6) (hc0_6 : l0_6.length ≤ c0_6) (hr0_8 : Kd.C k54 w A0_8 l0_8.length l0_8) (hc0_8 : l0_8.length ≤ c0_8) (hr0_9 : Kd.C k56 w A0_9 l0_9.length l0_9) (hc0_9 : l0_9.length ≤ c0_9) (hk : ¬ (1 ≤ a0_0 ∧ a0_0 ≤ 5)) :
    Calls Try.prog 20 #[.agg #[.int .i64 a0_0, .int .i64 a0_1, .int .i64 a0_2, .int .i64 a0_3, .int .i64 a0_4, .slice A0_5 l0_5.length c0_5, .slice A0_6 l0_6.length c0_6, .int .i64 a0_7, .slice A0_8 l0_8.length c0_8, .slice A0_9 l0_9.length c0_9]] w fun e w' => e = .returned (errW (some 2)) ∧ Below w.heap.size w w' := by
  have hu30 := Try.underlying30
  have hu32 := Try.underlying32
  have hu44 := Try.underlying44
  have HR5 := Aside0.mk hr0_5
  have HR6 := Aside0.mk hr0_6
  have HR8 := Aside0.mk hr0_8
  have HR9 := Aside0.mk hr0_9
  have Hk := Aside0.mk hk
  clear hr0_5 hr0_6 hr0_8 hr0_9 hk
  go_enter Try.func20, Try.ntmps20
  go_wp2_with fail
  refine (said_0 a0_0 a0_1 a0_2 a0_3 a0_4 A0_5 c0_5 l0_5 A0_6 c0_6 l0_6 a0_7 A0_8 c0_8 l0_8 A0_9 c0_9 l0_9 _ (Kd.C_alloc HR5.out _) hc0_5 (Kd.C_alloc HR6.out _) hc0_6 (Kd.C_alloc HR8.out _) hc0_8 (Kd.C_alloc HR9.out _) hc0_9 Hk.out).mono ?_
  rintro e w1 ⟨rfl, hb⟩
  have BK1 := Lib.hid (blk_below (heap_alloc_new w _) hb)
  have HB := Lib.hid (below_then (below_alloc (Below.refl w.heap.size w) _) (by rw [World.size_alloc]; omega) hb)
  clear hb
  obtain ⟨d_0, d_1, d_2, d_3, d_4, d_5, d_6, d_7, d_8, d_9⟩ := ten_cells BK1.out
  have hz : w.heap.size < w1.heap.size := blk_lt BK1.out
  have hz' : ¬ w.heap.size = w1.heap.size := by omega
  go_wp2
  go_ret
  exact ⟨rfl, below_alloc HB.out _⟩
theorem if_congr_ {p q : Prop} [Decidable p] [Decidable q] {a b : Option Int} (h : p ↔ q) : (if p then a else b) = if q then a else b := by
  by_cases hp : p
  · rw [if_pos hp, if_pos (h.1 hp)]
  · rw [if_neg hp, if_neg fun hq => hp (h.2 hq)]
def Form (a0_0 a0_1 a0_2 a0_3 a0_4 : Int) (l0_5 : List Int) (l0_6 : List S52) (a0_7 : Int) (l0_8 : List S54) (l0_9 : List S56) : Prop :=
  (a0_0 = 1 ∧ (1 ≤ a0_1 ∧ 0 ≤ a0_2 ∧ OnPage a0_3 a0_4 l0_5 l0_6 false) ∧ (a0_7 = 0 ∧ l0_8 = [] ∧ l0_9 = [])) ∨ (a0_0 = 2 ∧ (1 ≤ a0_1 ∧ 0 ≤ a0_2 ∧ 0 ≤ a0_7 ∧ ((a0_3 = -1 ∧ a0_4 = 0 ∧ l0_5.length = 0 ∧ l0_6.length = 0) ∨ OnPage a0_3 a0_4 l0_5 l0_6 true)) ∧ (l0_8 = [] ∧ l0_9 = [])) ∨ ((a0_0 = 3 ∨ a0_0 = 4) ∧ (1 ≤ a0_1 ∧ 0 ≤ a0_2) ∧ (a0_3 = 0 ∧ a0_4 = 0 ∧ l0_5 = [] ∧ l0_6 = [] ∧ a0_7 = 0 ∧ l0_8 = [] ∧ l0_9 = [])) ∨ (a0_0 = 5 ∧ ((l0_8.length ≤ 64 ∧ l0_9.length ≤ 64 ∧ Ris (fun x => x.f0) z54 1024 l0_8 ∧ Ris (fun x => wrap64 (x.f0 - 1)) z56 4611686018427387904 l0_9) ∧ (∀ j, j < l0_8.length → 0 ≤ (l0_8.getD j z54).f1) ∧ (∀ j, j < l0_9.length → 0 ≤ (l0_9.getD j z56).f1 ∧ 0 ≤ (l0_9.getD j z56).f2 ∧ 0 ≤ (l0_9.getD j z56).f3)) ∧ (a0_1 = 0 ∧ a0_2 = 0 ∧ a0_3 = 0 ∧ a0_4 = 0 ∧ l0_5 = [] ∧ l0_6 = [] ∧ a0_7 = 0))
instance (a0_0 a0_1 a0_2 a0_3 a0_4 : Int) (l0_5 : List Int) (l0_6 : List S52) (a0_7 : Int) (l0_8 : List S54) (l0_9 : List S56) : Decidable (Form a0_0 a0_1 a0_2 a0_3 a0_4 l0_5 l0_6 a0_7 l0_8 l0_9) := by unfold Form; infer_instance
def record_Check.f (a0_0 a0_1 a0_2 a0_3 a0_4 : Int) (l0_5 : List Int) (l0_6 : List S52) (a0_7 : Int) (l0_8 : List S54) (l0_9 : List S56) : Option (Option Int) :=
  some (if Form a0_0 a0_1 a0_2 a0_3 a0_4 l0_5 l0_6 a0_7 l0_8 l0_9 then none else some 2)
theorem record_Check.calls (a0_0 : Int) (a0_1 : Int) (a0_2 : Int) (a0_3 : Int) (a0_4 : Int) (A0_5 : Option Addr) (c0_5 : Nat) (l0_5 : List Int) (A0_6 : Option Addr) (c0_6 : Nat) (l0_6 : List (S52)) (a0_7 : Int) (A0_8 : Option Addr) (c0_8 : Nat) (l0_8 : List (S54)) (A0_9 : Option Addr) (c0_9 : Nat) (l0_9 : List (S56))  (r : Option Int) (w : World)     (hr0_5 : Kd.C (Kd.int .i64) w A0_5 l0_5.length l0_5) (hc0_5 : l0_5.length ≤ c0_5) (hr0_6 : Kd.C k52 w A0_6 l0_6.length l0_6) (hc0_6 : l0_6.length ≤ c0_6) (hr0_8 : Kd.C k54 w A0_8 l0_8.length l0_8) (hc0_8 : l0_8.length ≤ c0_8) (hr0_9 : Kd.C k56 w A0_9 l0_9.length l0_9) (hc0_9 : l0_9.length ≤ c0_9) (h : record_Check.f a0_0 a0_1 a0_2 a0_3 a0_4 l0_5 l0_6 a0_7 l0_8 l0_9 = some r) :
    Calls Try.prog 20 #[.agg #[.int .i64 a0_0, .int .i64 a0_1, .int .i64 a0_2, .int .i64 a0_3, .int .i64 a0_4, .slice A0_5 l0_5.length c0_5, .slice A0_6 l0_6.length c0_6, .int .i64 a0_7, .slice A0_8 l0_8.length c0_8, .slice A0_9 l0_9.length c0_9]] w fun e w' => e = .returned (errW r) ∧ Below w.heap.size w w' := by
  obtain rfl := Option.some.inj h
  by_cases hk : 1 ≤ a0_0 ∧ a0_0 ≤ 5
  · rcases (show a0_0 = 1 ∨ a0_0 = 2 ∨ a0_0 = 3 ∨ a0_0 = 4 ∨ a0_0 = 5 by omega) with rfl | rfl | rfl | rfl | rfl
    · rw [show (if Form 1 a0_1 a0_2 a0_3 a0_4 l0_5 l0_6 a0_7 l0_8 l0_9 then none else some 2 : Option Int) = if (1 ≤ a0_1 ∧ 0 ≤ a0_2 ∧ OnPage a0_3 a0_4 l0_5 l0_6 false) ∧ (a0_7 = 0 ∧ l0_8 = [] ∧ l0_9 = []) then none else some 2 from if_congr_ (by unfold Form; constructor <;> intro h <;> simpa using h)]
      exact check_1 a0_1 a0_2 a0_3 a0_4 A0_5 c0_5 l0_5 A0_6 c0_6 l0_6 a0_7 A0_8 c0_8 l0_8 A0_9 c0_9 l0_9 w hr0_5 hc0_5 hr0_6 hc0_6 hr0_8 hc0_8 hr0_9 hc0_9
    · rw [show (if Form 2 a0_1 a0_2 a0_3 a0_4 l0_5 l0_6 a0_7 l0_8 l0_9 then none else some 2 : Option Int) = if (1 ≤ a0_1 ∧ 0 ≤ a0_2 ∧ 0 ≤ a0_7 ∧ ((a0_3 = -1 ∧ a0_4 = 0 ∧ l0_5.length = 0 ∧ l0_6.length = 0) ∨ OnPage a0_3 a0_4 l0_5 l0_6 true)) ∧ (l0_8 = [] ∧ l0_9 = []) then none else some 2 from if_congr_ (by unfold Form; constructor <;> intro h <;> simpa using h)]
      exact check_2 a0_1 a0_2 a0_3 a0_4 A0_5 c0_5 l0_5 A0_6 c0_6 l0_6 a0_7 A0_8 c0_8 l0_8 A0_9 c0_9 l0_9 w hr0_5 hc0_5 hr0_6 hc0_6 hr0_8 hc0_8 hr0_9 hc0_9
    · rw [show (if Form 3 a0_1 a0_2 a0_3 a0_4 l0_5 l0_6 a0_7 l0_8 l0_9 then none else some 2 : Option Int) = if (1 ≤ a0_1 ∧ 0 ≤ a0_2) ∧ (a0_3 = 0 ∧ a0_4 = 0 ∧ l0_5 = [] ∧ l0_6 = [] ∧ a0_7 = 0 ∧ l0_8 = [] ∧ l0_9 = []) then none else some 2 from if_congr_ (by unfold Form; constructor <;> intro h <;> simpa using h)]
      exact check_3 a0_1 a0_2 a0_3 a0_4 A0_5 c0_5 l0_5 A0_6 c0_6 l0_6 a0_7 A0_8 c0_8 l0_8 A0_9 c0_9 l0_9 w hr0_5 hc0_5 hr0_6 hc0_6 hr0_8 hc0_8 hr0_9 hc0_9
    · rw [show (if Form 4 a0_1 a0_2 a0_3 a0_4 l0_5 l0_6 a0_7 l0_8 l0_9 then none else some 2 : Option Int) = if (1 ≤ a0_1 ∧ 0 ≤ a0_2) ∧ (a0_3 = 0 ∧ a0_4 = 0 ∧ l0_5 = [] ∧ l0_6 = [] ∧ a0_7 = 0 ∧ l0_8 = [] ∧ l0_9 = []) then none else some 2 from if_congr_ (by unfold Form; constructor <;> intro h <;> simpa using h)]
      exact check_4 a0_1 a0_2 a0_3 a0_4 A0_5 c0_5 l0_5 A0_6 c0_6 l0_6 a0_7 A0_8 c0_8 l0_8 A0_9 c0_9 l0_9 w hr0_5 hc0_5 hr0_6 hc0_6 hr0_8 hc0_8 hr0_9 hc0_9
    · rw [show (if Form 5 a0_1 a0_2 a0_3 a0_4 l0_5 l0_6 a0_7 l0_8 l0_9 then none else some 2 : Option Int) = if ((l0_8.length ≤ 64 ∧ l0_9.length ≤ 64 ∧ Ris (fun x => x.f0) z54 1024 l0_8 ∧ Ris (fun x => wrap64 (x.f0 - 1)) z56 4611686018427387904 l0_9) ∧ (∀ j, j < l0_8.length → 0 ≤ (l0_8.getD j z54).f1) ∧ (∀ j, j < l0_9.length → 0 ≤ (l0_9.getD j z56).f1 ∧ 0 ≤ (l0_9.getD j z56).f2 ∧ 0 ≤ (l0_9.getD j z56).f3)) ∧ (a0_1 = 0 ∧ a0_2 = 0 ∧ a0_3 = 0 ∧ a0_4 = 0 ∧ l0_5 = [] ∧ l0_6 = [] ∧ a0_7 = 0) then none else some 2 from if_congr_ (by unfold Form; constructor <;> intro h <;> simpa using h)]
      exact check_5 a0_1 a0_2 a0_3 a0_4 A0_5 c0_5 l0_5 A0_6 c0_6 l0_6 a0_7 A0_8 c0_8 l0_8 A0_9 c0_9 l0_9 w hr0_5 hc0_5 hr0_6 hc0_6 hr0_8 hc0_8 hr0_9 hc0_9
  · rw [if_neg (by unfold Form; omega)]
    exact check_0 a0_0 a0_1 a0_2 a0_3 a0_4 A0_5 c0_5 l0_5 A0_6 c0_6 l0_6 a0_7 A0_8 c0_8 l0_8 A0_9 c0_9 l0_9 w hr0_5 hc0_5 hr0_6 hc0_6 hr0_8 hc0_8 hr0_9 hc0_9 hk
end Go.Proofs.Ytcplblpmgajmnaa.A
namespace Go.Proofs.Ytcplblpmgajmnaa.A
open Go.RowKit Go.Proofs.YtcplblpmgajmnaaW.PrintWords Go.Proofs.YtcplblpmgajmnaaW.PrintLast Go.Proofs.YtcplblpmgajmnaaW.PrintMore
attribute [local go_sem] max2_int min2_int max_two min_two max_three min_three max_four min_four
set_option linter.unusedVariables false
set_option linter.unusedSimpArgs false
def slices_Clone_byte_byte.f (l0 : List Int) : Option (List Int) := if l0.length < 140737488355328 then some l0 else none
def slices_Clone_byte_byte.g (l0 : List Int) : Option (List Int) := (some (([] : List Int) : List Int)).bind fun y147 => (if y147.length + l0.length < 140737488355328 then (some (y147 ++ l0)) else (none))
theorem slices_Clone_byte_byte.fg (l0 : List Int) : slices_Clone_byte_byte.f l0 = slices_Clone_byte_byte.g l0 := by
  simp [slices_Clone_byte_byte.f, slices_Clone_byte_byte.g]
set_option maxHeartbeats 8000000 in
set_option maxRecDepth 100000 in
theorem slices_Clone_byte_byte.calls_some (ad0 : Addr) (c0 : Nat) (l0 : List Int) (r : List Int) (w : World) (hr0 : Kd.C (Kd.int .u8) w (some ad0) l0.length l0) (hc0 : l0.length ≤ c0) (h : slices_Clone_byte_byte.g l0 = some r) :
    Calls Try.prog 51 #[.slice (some ad0) l0.length c0] w fun e w' => ∃ v0_ : Value, e = .returned (v0_) ∧ Kd.R (Kd.int .u8) 5 w' w.heap.size (fun _ => True) v0_ r ∧ Below w.heap.size w w' := by
  have HR0 := Aside0.mk hr0
  have HC0 := Aside0.mk hc0
  clear hr0 hc0
  have HB := Aside0.mk (Below.refl w.heap.size w)
  have H : ((some (([] : List Int) : List Int)).bind fun y147 => (if y147.length + l0.length < 140737488355328 then (some (y147 ++ l0)) else (none))) = some r := h
  clear h
  obtain ⟨y147, hy147⟩ : ∃ y_ : List Int, y_ = (([] : List Int)) := ⟨_, rfl⟩
  replace H : (if y147.length + l0.length < 140737488355328 then (some (y147 ++ l0)) else (none)) = some r := by first | (rw [hy147]; with_reducible exact H) | (have H2_ := (Option.bind_some _ _).symm.trans H; rw [hy147]; with_reducible exact H2_) | (have H2_ := (Option.bind_some _ _).symm.trans H; with_reducible exact H2_) | with_reducible exact H | (rw [hy147]; exact H) | exact H
  have Ny147 := Aside0.mk hy147
  clear hy147
  by_cases c2 : y147.length + l0.length < 140737488355328
  · rw [if_pos c2] at H
    have LMc2 := Aside0.mk c2
    clear c2
    obtain ⟨y150, hy150⟩ : ∃ y_ : List Int, y_ = (y147 ++ l0) := ⟨_, rfl⟩
    replace H : (some y150) = some r := by first | (rw [hy150]; with_reducible exact H) | (have H2_ := (Option.bind_some _ _).symm.trans H; rw [hy150]; with_reducible exact H2_) | (have H2_ := (Option.bind_some _ _).symm.trans H; with_reducible exact H2_) | with_reducible exact H | (rw [hy150]; exact H) | exact H
    have Ny150 := Aside0.mk hy150
    clear hy150
    obtain rfl := Option.some.inj H
    have hnil := fun (w : World) => Lib.run_eql_slice_nil w 22 5 (some ad0) l0.length c0 0 0 Try.underlying22
    go_enter Try.func51, Try.ntmps51
    go_wp2_with (first | ((with_reducible refine gate_dst (N := 5) rfl ?_); refine Kd.R_lit (Kd.int .u8) _ 5 ?hg (N := 5) ?hd (xs := ([] : List Int)) (inner := []) (ok := fun _ => True) (okp := fun _ => True) ?hr ?hp (fun _ hk => hk) trivial (Below.refl _ _) (Nat.le_refl _) (by simp) ?_; (case hd => rfl); (case hg => rfl); (case hr => first | (go_simp; done) | (go_simp; rfl)); (case hp => exact (Reps.none _ _)); intro v148 w3 ho4 hb hg_ hnew_; clear hg_ hnew_; (first | rw [← Ny147.out] at ho4 | (simp only [Int.reduceToNat] at ho4; rw [← Ny147.out] at ho4)); have n0_ := Aside0.mk (Kd.R_lower ho4 (below_size (by repeat (first | (with_reducible first | exact HB.out | apply below_alloc | apply pw_below_drewN | apply below_drew1) | exact HB.out)))); have n1_ := Aside0.mk (below_step (by repeat (first | (with_reducible first | exact HB.out | apply below_alloc | apply pw_below_drewN | apply below_drew1) | exact HB.out)) hb); clear HB; have HO149 := n0_; have HB := n1_; clear n0_ n1_; clear hb ho4) | ((with_reducible refine gate_builtin (b := .append) (xs := #[.tmp 5, .tmp 6]) rfl ?_); at_builtin; refine Kd.R_append_rows (Kd.int .u8) (w0 := w) w.heap.size rfl (.tmp 5) (.tmp 6) 22 5 (.int .u8 0) 1 rfl Try.underlying22 info5 rfl (by decide) (by omega) v148 y147 l0 _ _ _ (fun _ => True) (fun _ => False) rfl rfl ?aO ?aR (fun _ _ h => h) (fun _ h => h.elim) ?aF ?aB ?aS ?aL ?_; (case aR => repeat (first | exact (Kd.C_below HR0.out HB.out) | (with_reducible refine Kd.C_alloc ?_ _) | (with_reducible refine Kd.C_drewN ?_ _) | (with_reducible refine Kd.C_drew ?_))); (case aB => exact (by repeat (first | (with_reducible first | exact HB.out | apply below_alloc | apply pw_below_drewN | apply below_drew1) | exact HB.out))); (case aF => exact (fun _ _ => trivial)); (case aO => exact (by (with_reducible repeat (first | apply Kd.R_alloc | apply Kd.R_drewN | apply Kd.R_drew)); exact HO149.out)); (case aS => exact (below_size (by repeat (first | (with_reducible first | exact HB.out | apply below_alloc | apply pw_below_drewN | apply below_drew1) | exact HB.out)))); (case aL => have := LMc2.out; omega); intro v151 w5 ho hb hg hat; rw [← Ny150.out] at ho; have n0_ := Aside0.mk (hb); have n1_ := Aside0.mk (ho); clear HB; clear HO149; have HB := n0_; have HO152 := n1_; clear n0_ n1_; clear ho hb hg hat))
    go_ret
    exact ⟨_, by first | rfl | (simp [errW_none, errW_some] <;> rfl) | (simp [*, errW_none, errW_some] <;> rfl), by (with_reducible repeat (first | apply Kd.R_alloc | apply Kd.R_drewN | apply Kd.R_drew)); exact HO152.out, by repeat (first | (with_reducible first | exact HB.out | apply below_alloc | apply pw_below_drewN | apply below_drew1) | exact HB.out)⟩
  · rw [if_neg c2] at H
    exact absurd H (by simp)
theorem slices_Clone_byte_byte.calls_none (c0 n : Nat) (w : World) :
    Calls Try.prog 51 #[.slice none n c0] w fun e w' => e = .returned (.slice none 0 0) ∧ w = w' := by
  have hnil := fun (w : World) => Lib.run_eql_slice_nil (P := Try.prog) w 22 5 none n c0 0 0 Try.underlying22
  go_enter Try.func51, Try.ntmps51
  go_wp2
  go_ret
  exact ⟨rfl, rfl⟩
theorem slices_Clone_byte_byte.calls (A0 : Option Addr) (c0 : Nat) (l0 : List Int) (r : List Int) (w : World) (hr0 : Kd.C (Kd.int .u8) w A0 l0.length l0) (hc0 : l0.length ≤ c0) (h : slices_Clone_byte_byte.f l0 = some r) :
    Calls Try.prog 51 #[.slice A0 l0.length c0] w fun e w' => ∃ v0_ : Value, e = .returned (v0_) ∧ Kd.R (Kd.int .u8) 5 w' w.heap.size (fun _ => True) v0_ r ∧ Below w.heap.size w w' := by
  cases A0 with
  | some ad0 => exact slices_Clone_byte_byte.calls_some ad0 c0 l0 r w hr0 hc0 (slices_Clone_byte_byte.fg l0 ▸ h)
  | none =>
    have hl : l0 = [] := by
      rcases Nat.eq_zero_or_pos l0.length with h0 | h0
      · exact List.eq_nil_of_length_eq_zero h0
      · obtain ⟨ad, e, _⟩ := Kd.at_int hr0 0 (by omega) (by omega)
        cases e
    subst hl
    have hr : r = [] := by simpa [slices_Clone_byte_byte.f] using h.symm
    subst hr
    refine (slices_Clone_byte_byte.calls_none c0 _ w).mono ?_
    rintro e w' ⟨rfl, rfl⟩
    exact ⟨_, rfl, Kd.R_nil _ _ _ _ _, Below.refl _ _⟩
def wire_Put.f (k : Nat) (l0 : List Int) (l1 : List Int) : Option (List Int) := (slices_Clone_byte_byte.f l0).bind fun t154 => ((wire_put.f k t154 l1).bind fun t157 => (some t157))
set_option maxHeartbeats 8000000 in
set_option maxRecDepth 100000 in
theorem wire_Put.calls (k : Nat) (A0 : Option Addr) (c0 : Nat) (l0 : List Int) (A1 : Option Addr) (c1 : Nat) (l1 : List Int) (r : List Int) (w : World) (hr0 : Kd.C (Kd.int .u8) w A0 l0.length l0) (hc0 : l0.length ≤ c0) (hr1 : Kd.C (Kd.int .i64) w A1 l1.length l1) (hc1 : l1.length ≤ c1) (h : wire_Put.f k l0 l1 = some r) :
  Calls Try.prog 43 #[.slice A0 l0.length c0, .slice A1 l1.length c1] w fun e w' => ∃ v0_ : Value, e = .returned (v0_) ∧ Kd.R (Kd.int .u8) 5 w' w.heap.size (fun _ => True) v0_ r ∧ Below w.heap.size w w' := by
 have HR0 := Aside0.mk hr0
 have HC0 := Aside0.mk hc0
 clear hr0 hc0
 have HR1 := Aside0.mk hr1
 have HC1 := Aside0.mk hc1
 clear hr1 hc1
 have HB := Aside0.mk (Below.refl w.heap.size w)
 have H : ((slices_Clone_byte_byte.f l0).bind fun t154 => ((wire_put.f k t154 l1).bind fun t157 => (some t157))) = some r := h
 clear h
 replace H := Option.bind_eq_some_iff.mp H
 obtain ⟨t154, A30, H⟩ := H
 replace H : ((wire_put.f k t154 l1).bind fun t157 => (some t157)) = some r := H
 have A3 := Aside0.mk A30
 clear A30
 replace H := Option.bind_eq_some_iff.mp H
 obtain ⟨t157, A40, H⟩ := H
 replace H : (some t157) = some r := H
 have A4 := Aside0.mk A40
 clear A40
 obtain rfl := Option.some.inj H
 go_enter Try.func43, Try.ntmps43
 go_wp2_with (first | ((with_reducible refine gate_callee (f := 51) rfl ?_); refine goesL_ (some 6) rfl rfl Try.func51 (by kernel_rfl) rfl #[.slice A0 l0.length c0] rfl (by (try simp only [List.map_toArray, List.map_cons, List.map_nil]); first | done | rfl | (simp only [List.length_drop, List.length_take]; rfl)) ?_; (with_reducible refine (slices_Clone_byte_byte.calls _ _ l0 t154 _ ?side1 ?side2 A3.out).mono ?_); (case side1 => repeat (first | exact HR0.out | (with_reducible refine qA ?_ _) | (with_reducible refine qN ?_ _) | (with_reducible refine qZ ?_))); (case side2 => exact HC0.out); rintro e w5 ⟨v155, rfl, ho0, hb⟩; refine ⟨_, rfl, ?_⟩; have n0_ := Aside0.mk (Kd.R_lower ho0 (below_size (by repeat (first | (with_reducible first | exact HB.out | apply bA | apply bN | apply bD) | exact HB.out)))); have n1_ := Aside0.mk (below_step (by repeat (first | (with_reducible first | exact HB.out | apply bA | apply bN | apply bD) | exact HB.out)) hb); clear HB; have HO156 := n0_; have HB := n1_; clear n0_ n1_; (try clear hb); (try clear hb2); (try clear hk); (try clear hi); (try clear ho0); obtain ⟨Ao6, co6, eo6⟩ := Kd.R_slice HO156.out; subst eo6) | ((with_reducible refine gate_callee (f := 52) rfl ?_); refine goesL_ (some 8) rfl rfl Try.func52 (by kernel_rfl) rfl #[.slice Ao6 t154.length co6, .slice A1 l1.length c1] rfl (by (try simp only [List.map_toArray, List.map_cons, List.map_nil]); first | done | rfl | (simp only [List.length_drop, List.length_take]; rfl)) ?_; (with_reducible refine (wire_put.calls k (fun k_ => some k_ = (.slice Ao6 t154.length co6 : Value).ownBlock) (.slice Ao6 t154.length co6) t154 _ _ l1 t157 w _ ?side1 ?side2 ?side3 ?side4 A4.out).mono ?_); (case side1 => repeat (first | (with_reducible first | exact HB.out | apply bA | apply bN | apply bD) | exact HB.out)); (case side2 => exact Kd.R_tight rfl HO156.out); (case side3 => exact Kd.C_kept_came (Kd.heap_int .i64) HR1.out (by repeat (first | (with_reducible first | exact HB.out | apply bA | apply bN | apply bD) | exact HB.out)) (fun k_ hs_ => (fun e_ => Kd.R_base HO156.out k_ e_.symm) hs_)); (case side4 => exact HC1.out); rintro e w7 ⟨v158, rfl, ho0, hb, hkp⟩; refine ⟨_, rfl, ?_⟩; have n0_ := Aside0.mk (Kd.R_mono (ok' := fun k_ => True) ho0 (fun k_ hk_ => trivial)); have n1_ := Aside0.mk (hb); clear HB; clear HO156; have HO159 := n0_; have HB := n1_; clear n0_ n1_; (try clear hb); (try clear hkp); (try clear ho0)))
 go_ret
 exact ⟨_, by first | rfl | (simp [errW_none, errW_some] <;> rfl) | (simp [*, errW_none, errW_some] <;> rfl), by (with_reducible repeat (first | apply rA | apply rN | apply rZ)); exact HO159.out, by repeat (first | (with_reducible first | exact HB.out | apply bA | apply bN | apply bD) | exact HB.out)⟩
mutual
def record_write.j2 : Nat → List Int → Int → Int → Int → Int → Int → List Int → List (S52) → Int → List (S54) → List (S56) → Option (List Int)
 | 0, _, _, _, _, _, _, _, _, _, _, _ => none
 | k + 1, x3, x161000, x161001, x161002, x161003, x161004, x161005, x161006, x161007, x161008, x161009 => if x161000 = 1 then (record_write.j3 k x3 true x161000 x161001 x161002 x161003 x161004 x161005 x161006 x161007 x161008 x161009) else (record_write.j3 k x3 (x161000 == 2) x161000 x161001 x161002 x161003 x161004 x161005 x161006 x161007 x161008 x161009)
def record_write.j3 : Nat → List Int → Bool → Int → Int → Int → Int → Int → List Int → List (S52) → Int → List (S54) → List (S56) → Option (List Int)
 | 0, _, _, _, _, _, _, _, _, _, _, _, _ => none
 | k + 1, x3, x90, x161000, x161001, x161002, x161003, x161004, x161005, x161006, x161007, x161008, x161009 => if x90 = true then ((some (([x161003, x161004, (x161005.length : Int)] : List Int) : List Int)).bind fun y207 => (if x3.length + y207.length < 17592186044416 then ((some (x3 ++ y207 : List Int)).bind fun y210 => (if y210.length + x161005.length < 17592186044416 then ((some (y210 ++ x161005 : List Int)).bind fun y213 => ((some (([(x161006.length : Int)] : List Int) : List Int)).bind fun y216 => (if y213.length + y216.length < 17592186044416 then (record_write.l2 k (y213 ++ y216) x161006 (x161006.length : Int) 0) else (none)))) else (none))) else (none))) else ((wire_Put.f k ([] : List Int) x3).bind fun t233 => (some t233))
def record_write.l2 : Nat → List Int → List (S52) → Int → Int → Option (List Int)
 | 0, _, _, _, _ => none
 | k + 1, x3, x111, x112, x113 => if x113 < x112 then (if 0 ≤ x113 then (if x113 < (x111.length : Int) then ((some (([(rd_T52 x111 x113).f0, (rd_T52 x111 x113).f1] : List Int) : List Int)).bind fun y224 => (if x3.length + y224.length < 17592186044416 then (record_write.l2 k (x3 ++ y224) x111 x112 (wrap64 (x113 + 1))) else (none))) else (none)) else (none)) else ((wire_Put.f k ([] : List Int) x3).bind fun t230 => (some t230))
def record_write.l0 : Nat → List Int → List (S54) → Int → Int → Int → Int → Int → Int → Int → List Int → List (S52) → Int → List (S54) → List (S56) → Option (List Int)
 | 0, _, _, _, _, _, _, _, _, _, _, _, _, _, _ => none
 | k + 1, x3, x31, x32, x33, x161000, x161001, x161002, x161003, x161004, x161005, x161006, x161007, x161008, x161009 => if x33 < x32 then (if 0 ≤ x33 then (if x33 < (x31.length : Int) then ((some (([(rd_T54 x31 x33).f0, (rd_T54 x31 x33).f1] : List Int) : List Int)).bind fun y172 => (if x3.length + y172.length < 17592186044416 then (record_write.l0 k (x3 ++ y172) x31 x32 (wrap64 (x33 + 1)) x161000 x161001 x161002 x161003 x161004 x161005 x161006 x161007 x161008 x161009) else (none))) else (none)) else (none)) else ((some (([(x161009.length : Int)] : List Int) : List Int)).bind fun y178 => (if x3.length + y178.length < 17592186044416 then (record_write.l1 k (x3 ++ y178) x161009 (x161009.length : Int) 0) else (none)))
def record_write.l1 : Nat → List Int → List (S56) → Int → Int → Option (List Int)
 | 0, _, _, _, _ => none
 | k + 1, x3, x52, x53, x54 => if x54 < x53 then (if 0 ≤ x54 then (if x54 < (x52.length : Int) then ((some (([(rd_T56 x52 x54).f0, (rd_T56 x52 x54).f1, (rd_T56 x52 x54).f2, (rd_T56 x52 x54).f3] : List Int) : List Int)).bind fun y186 => (if x3.length + y186.length < 17592186044416 then (record_write.l1 k (x3 ++ y186) x52 x53 (wrap64 (x54 + 1))) else (none))) else (none)) else (none)) else ((wire_Put.f k ([] : List Int) x3).bind fun t192 => (some t192))
end
def record_write.f (k : Nat) (a0_0 : Int) (a0_1 : Int) (a0_2 : Int) (a0_3 : Int) (a0_4 : Int) (l0_5 : List Int) (l0_6 : List (S52)) (a0_7 : Int) (l0_8 : List (S54)) (l0_9 : List (S56)) : Option (List Int) := (some (([a0_0] : List Int) : List Int)).bind fun y161 => (if a0_0 = 5 then ((some (([(l0_8.length : Int)] : List Int) : List Int)).bind fun y164 => (if y161.length + y164.length < 17592186044416 then (record_write.l0 k (y161 ++ y164) l0_8 (l0_8.length : Int) 0 a0_0 a0_1 a0_2 a0_3 a0_4 l0_5 l0_6 a0_7 l0_8 l0_9) else (none))) else (if a0_0 = 2 then ((some (([a0_1, a0_2, a0_7] : List Int) : List Int)).bind fun y195 => (if y161.length + y195.length < 17592186044416 then (record_write.j2 k (y161 ++ y195) a0_0 a0_1 a0_2 a0_3 a0_4 l0_5 l0_6 a0_7 l0_8 l0_9) else (none))) else ((some (([a0_1, a0_2] : List Int) : List Int)).bind fun y201 => (if y161.length + y201.length < 17592186044416 then (record_write.j2 k (y161 ++ y201) a0_0 a0_1 a0_2 a0_3 a0_4 l0_5 l0_6 a0_7 l0_8 l0_9) else (none)))))
def record_write.T22 : Bool × List (List Nat × List Nat) := (true, [([], []), ([], []), ([1], [1]), ([0, 2], [0, 2]), ([], []), ([4], [4]), ([5], [5]), ([6], [6]), ([3, 7, 3], [3, 7]), ([8, 8, 0, 1, 2, 3, 4, 5, 6, 7, 8], [0, 8])])
def record_write.B22 : List Nat := [0, 0, 2, 7, 0, 16, 48, 112, 255, 511]
theorem record_write.tab22 : rtab .any (opsOf Try.f30 22) = record_write.T22 := by kernel_rfl
theorem record_write.bits22 : waitsOk record_write.T22.2 record_write.B22 = true := by kernel_rfl
set_option maxHeartbeats 8000000 in
set_option maxRecDepth 100000 in
theorem record_write.calls (k : Nat) (a0_0 : Int) (a0_1 : Int) (a0_2 : Int) (a0_3 : Int) (a0_4 : Int) (A0_5 : Option Addr) (c0_5 : Nat) (l0_5 : List Int) (A0_6 : Option Addr) (c0_6 : Nat) (l0_6 : List (S52)) (a0_7 : Int) (A0_8 : Option Addr) (c0_8 : Nat) (l0_8 : List (S54)) (A0_9 : Option Addr) (c0_9 : Nat) (l0_9 : List (S56)) (r : List Int) (w : World) (hr0_5 : Kd.C (Kd.int .i64) w A0_5 l0_5.length l0_5) (hc0_5 : l0_5.length ≤ c0_5) (hr0_6 : Kd.C k52 w A0_6 l0_6.length l0_6) (hc0_6 : l0_6.length ≤ c0_6) (hr0_8 : Kd.C k54 w A0_8 l0_8.length l0_8) (hc0_8 : l0_8.length ≤ c0_8) (hr0_9 : Kd.C k56 w A0_9 l0_9.length l0_9) (hc0_9 : l0_9.length ≤ c0_9) (h : record_write.f k a0_0 a0_1 a0_2 a0_3 a0_4 l0_5 l0_6 a0_7 l0_8 l0_9 = some r) :
  Calls Try.prog 30 #[.agg #[.int .i64 a0_0, .int .i64 a0_1, .int .i64 a0_2, .int .i64 a0_3, .int .i64 a0_4, .slice A0_5 l0_5.length c0_5, .slice A0_6 l0_6.length c0_6, .int .i64 a0_7, .slice A0_8 l0_8.length c0_8, .slice A0_9 l0_9.length c0_9]] w fun e w' => ∃ v0_ : Value, e = .returned (v0_) ∧ Kd.R (Kd.int .u8) 5 w' w.heap.size (fun _ => True) v0_ r ∧ Below w.heap.size w w' := by
 have hu30 := Try.underlying30
 have hu54 := Try.underlying54
 have hu56 := Try.underlying56
 have hu52 := Try.underlying52
 have HR0_5 := Aside0.mk hr0_5
 have HC0_5 := Aside0.mk hc0_5
 clear hr0_5 hc0_5
 have HR0_6 := Aside0.mk hr0_6
 have HC0_6 := Aside0.mk hc0_6
 clear hr0_6 hc0_6
 have HR0_8 := Aside0.mk hr0_8
 have HC0_8 := Aside0.mk hc0_8
 clear hr0_8 hc0_8
 have HR0_9 := Aside0.mk hr0_9
 have HC0_9 := Aside0.mk hc0_9
 clear hr0_9 hc0_9
 have HB := Aside0.mk (Below.refl w.heap.size w)
 have H : ((some (([a0_0] : List Int) : List Int)).bind fun y161 => (if a0_0 = 5 then ((some (([(l0_8.length : Int)] : List Int) : List Int)).bind fun y164 => (if y161.length + y164.length < 17592186044416 then (record_write.l0 k (y161 ++ y164) l0_8 (l0_8.length : Int) 0 a0_0 a0_1 a0_2 a0_3 a0_4 l0_5 l0_6 a0_7 l0_8 l0_9) else (none))) else (if a0_0 = 2 then ((some (([a0_1, a0_2, a0_7] : List Int) : List Int)).bind fun y195 => (if y161.length + y195.length < 17592186044416 then (record_write.j2 k (y161 ++ y195) a0_0 a0_1 a0_2 a0_3 a0_4 l0_5 l0_6 a0_7 l0_8 l0_9) else (none))) else ((some (([a0_1, a0_2] : List Int) : List Int)).bind fun y201 => (if y161.length + y201.length < 17592186044416 then (record_write.j2 k (y161 ++ y201) a0_0 a0_1 a0_2 a0_3 a0_4 l0_5 l0_6 a0_7 l0_8 l0_9) else (none)))))) = some r := h
 clear h
 obtain ⟨y161, hy161⟩ : ∃ y_ : List Int, y_ = (([a0_0] : List Int)) := ⟨_, rfl⟩
 replace H : (if a0_0 = 5 then ((some (([(l0_8.length : Int)] : List Int) : List Int)).bind fun y164 => (if y161.length + y164.length < 17592186044416 then (record_write.l0 k (y161 ++ y164) l0_8 (l0_8.length : Int) 0 a0_0 a0_1 a0_2 a0_3 a0_4 l0_5 l0_6 a0_7 l0_8 l0_9) else (none))) else (if a0_0 = 2 then ((some (([a0_1, a0_2, a0_7] : List Int) : List Int)).bind fun y195 => (if y161.length + y195.length < 17592186044416 then (record_write.j2 k (y161 ++ y195) a0_0 a0_1 a0_2 a0_3 a0_4 l0_5 l0_6 a0_7 l0_8 l0_9) else (none))) else ((some (([a0_1, a0_2] : List Int) : List Int)).bind fun y201 => (if y161.length + y201.length < 17592186044416 then (record_write.j2 k (y161 ++ y201) a0_0 a0_1 a0_2 a0_3 a0_4 l0_5 l0_6 a0_7 l0_8 l0_9) else (none))))) = some r := by first | (rw [hy161]; with_reducible exact H) | (have H2_ := (Option.bind_some _ _).symm.trans H; rw [hy161]; with_reducible exact H2_) | (have H2_ := (Option.bind_some _ _).symm.trans H; with_reducible exact H2_) | with_reducible exact H | (rw [hy161]; exact H) | exact H
 have Ny161 := Aside0.mk hy161
 clear hy161
 have HC2 := Aside0.mk H
 clear H
 go_enter Try.func30, Try.ntmps30
 go_upto_block 0 with (first | ((with_reducible refine gate_dst (N := 1) rfl ?_); refine box_event ?hg (N := 1) ?hd (cs := #[.int .i64 a0_0, .int .i64 a0_1, .int .i64 a0_2, .int .i64 a0_3, .int .i64 a0_4, .slice A0_5 l0_5.length c0_5, .slice A0_6 l0_6.length c0_6, .int .i64 a0_7, .slice A0_8 l0_8.length c0_8, .slice A0_9 l0_9.length c0_9]) (t := 30) ?hr ?_; (case hd => rfl); (case hg => rfl); (case hr => first | (go_simp; done) | (go_simp; rfl)); intro gb160 hg w3 hbox hb; have n0_ := Aside0.mk (below_step (by repeat (first | (with_reducible first | exact HB.out | apply bA | apply bN | apply bD) | exact HB.out)) hb); have n1_ := Aside0.mk (hbox); have n2_ := Aside0.mk ((by rw [hg]; exact (below_size (by repeat (first | (with_reducible first | exact HB.out | apply bA | apply bN | apply bD) | exact HB.out))) : w.heap.size ≤ gb160)); have n3_ := Aside0.mk ((by rw [hg]; exact (below_size (by repeat (first | (with_reducible first | exact HB.out | apply bA | apply bN | apply bD) | exact HB.out))) : w.heap.size ≤ gb160)); clear HB; have HB := n0_; have BK160 := n1_; have GW160 := n2_; have GE160 := n3_; clear n0_ n1_ n2_ n3_; clear hb hbox hg; obtain ⟨hcz4_0, hcz4_1, hcz4_2, hcz4_3, hcz4_4, hcz4_5, hcz4_6, hcz4_7, hcz4_8, hcz4_9⟩ := ten_cells BK160.out; have hfz4 := ten_free BK160.out) | ((with_reducible refine gate_dst (N := 12) rfl ?_); refine Kd.R_lit (Kd.int .i64) _ 3 ?hg (N := 12) ?hd (xs := ([a0_0] : List Int)) (inner := [.int .i64 a0_0]) (ok := fun _ => True) (okp := fun _ => True) ?hr ?hp (fun _ hk => hk) trivial (Below.refl _ _) (Nat.le_refl _) (by simp) ?_; (case hd => rfl); (case hg => rfl); (case hr => first | (go_simp; done) | (go_simp; rfl)); (case hp => exact (Reps.one (show Kd.M (Kd.int .i64) _ _ _ a0_0 [.int .i64 a0_0] from rfl) (Reps.none _ _))); intro v162 w5 ho6 hb hg_ hnew_; clear hg_ hnew_; (first | rw [← Ny161.out] at ho6 | (simp only [Int.reduceToNat] at ho6; rw [← Ny161.out] at ho6)); have n0_ := Aside0.mk (Kd.R_lower ho6 (below_size (by repeat (first | (with_reducible first | exact HB.out | apply bA | apply bN | apply bD | refine bS ?_ GE160.out) | exact HB.out)))); have n1_ := Aside0.mk (blk_below (g := gb160) (o := .cells #[.int .i64 a0_0, .int .i64 a0_1, .int .i64 a0_2, .int .i64 a0_3, .int .i64 a0_4, .slice A0_5 l0_5.length c0_5, .slice A0_6 l0_6.length c0_6, .int .i64 a0_7, .slice A0_8 l0_8.length c0_8, .slice A0_9 l0_9.length c0_9] 30 (0, 0)) (by (with_reducible repeat (first | refine kN ?_ _ | refine kZ ?_ | refine kA ?_ _)); exact BK160.out) hb); have n2_ := Aside0.mk (below_step (by repeat (first | (with_reducible first | exact HB.out | apply bA | apply bN | apply bD | refine bS ?_ GE160.out) | exact HB.out)) hb); clear BK160; clear HB; have HO163 := n0_; have BK160 := n1_; have HB := n2_; clear n0_ n1_ n2_; clear hb ho6; obtain ⟨hcz7_0, hcz7_1, hcz7_2, hcz7_3, hcz7_4, hcz7_5, hcz7_6, hcz7_7, hcz7_8, hcz7_9⟩ := ten_cells BK160.out; have hfz7 := ten_free BK160.out))
 (try simp only [Act.put, List.setIfInBounds_toArray, List.set_cons_zero, List.set_cons_succ])
 go_cut [3] (fun v3 wc => ∃ (kq : Nat) (x3_1 : List Int), Aside0 (record_write.j2 kq x3_1 a0_0 a0_1 a0_2 a0_3 a0_4 l0_5 l0_6 a0_7 l0_8 l0_9 = some r) ∧ Aside0 (kq ≤ k) ∧ Aside0 (Kd.R (Kd.int .i64) 3 wc w.heap.size (fun _ => True) v3 x3_1) ∧ Aside0 (wc.heap[gb160]? = some (.cells #[.int .i64 a0_0, .int .i64 a0_1, .int .i64 a0_2, .int .i64 a0_3, .int .i64 a0_4, (.slice A0_5 l0_5.length c0_5), (.slice A0_6 l0_6.length c0_6), .int .i64 a0_7, (.slice A0_8 l0_8.length c0_8), (.slice A0_9 l0_9.length c0_9)] 30 (0, 0))) ∧ Aside0 (Below w.heap.size w wc))
 case first =>
  have H := HC2.out
  clear HC2
  by_cases c8 : a0_0 = 5
  ·rw [if_pos c8] at H
   have c8b0 : (a0_0 == 5) = true := beq_iff_eq.mpr c8
   have c8b1 : (a0_0 != 5) = false := bne_eq_false_iff_eq.mpr c8
   clear c8
   (first | rw [c8b0] | (simp only [i64_w, i32_w]; rw [c8b0]) | skip)
   obtain ⟨y164, hy164⟩ : ∃ y_ : List Int, y_ = (([(l0_8.length : Int)] : List Int)) := ⟨_, rfl⟩
   replace H : (if y161.length + y164.length < 17592186044416 then (record_write.l0 k (y161 ++ y164) l0_8 (l0_8.length : Int) 0 a0_0 a0_1 a0_2 a0_3 a0_4 l0_5 l0_6 a0_7 l0_8 l0_9) else (none)) = some r := by first | (rw [hy164]; with_reducible exact H) | (have H2_ := (Option.bind_some _ _).symm.trans H; rw [hy164]; with_reducible exact H2_) | (have H2_ := (Option.bind_some _ _).symm.trans H; with_reducible exact H2_) | with_reducible exact H | (rw [hy164]; exact H) | exact H
   have Ny164 := Aside0.mk hy164
   clear hy164
   by_cases c9 : y161.length + y164.length < 17592186044416
   ·rw [if_pos c9] at H
    have LMc9 := Aside0.mk c9
    clear c9
    obtain ⟨y167, hy167⟩ : ∃ y_ : List Int, y_ = (y161 ++ y164) := ⟨_, rfl⟩
    replace H : (record_write.l0 k y167 l0_8 (l0_8.length : Int) 0 a0_0 a0_1 a0_2 a0_3 a0_4 l0_5 l0_6 a0_7 l0_8 l0_9) = some r := by first | (rw [hy167]; with_reducible exact H) | (have H2_ := (Option.bind_some _ _).symm.trans H; rw [hy167]; with_reducible exact H2_) | (have H2_ := (Option.bind_some _ _).symm.trans H; with_reducible exact H2_) | with_reducible exact H | (rw [hy167]; exact H) | exact H
    have Ny167 := Aside0.mk hy167
    clear hy167
    have H' := Aside0.mk H
    clear H
    obtain ⟨hcz10_0, hcz10_1, hcz10_2, hcz10_3, hcz10_4, hcz10_5, hcz10_6, hcz10_7, hcz10_8, hcz10_9⟩ := ten_cells BK160.out
    have hfz10 := ten_free BK160.out
    go_wp2_with (first | ((with_reducible refine gate_dst (N := 28) rfl ?_); refine Kd.R_lit (Kd.int .i64) _ 3 ?hg (N := 28) ?hd (xs := ([(l0_8.length : Int)] : List Int)) (inner := [.int .i64 (l0_8.length : Int)]) (ok := fun _ => True) (okp := fun _ => True) ?hr ?hp (fun _ hk => hk) trivial (Below.refl _ _) (Nat.le_refl _) (by simp) ?_; (case hd => rfl); (case hg => rfl); (case hr => first | (go_simp; done) | (go_simp; rfl)); (case hp => exact (Reps.one (show Kd.M (Kd.int .i64) _ _ _ (l0_8.length : Int) [.int .i64 (l0_8.length : Int)] from rfl) (Reps.none _ _))); intro v165 w11 ho12 hb hg_ hnew_; clear hg_ hnew_; (first | rw [← Ny164.out] at ho12 | (simp only [Int.reduceToNat] at ho12; rw [← Ny164.out] at ho12)); have n0_ := Aside0.mk (Kd.R_elder' (by (with_reducible repeat (first | apply rA | apply rN | apply rZ)); exact HO163.out) (Kd.R_base ho12) hb); have n1_ := Aside0.mk (Kd.R_lower (Kd.R_new' ho12 (Kd.R_lt (by (with_reducible repeat (first | apply rA | apply rN | apply rZ)); exact HO163.out))) (below_size (by repeat (first | (with_reducible first | exact HB.out | apply bA | apply bN | apply bD | refine bS ?_ GE160.out) | exact HB.out)))); have n2_ := Aside0.mk (blk_below (g := gb160) (o := .cells #[.int .i64 a0_0, .int .i64 a0_1, .int .i64 a0_2, .int .i64 a0_3, .int .i64 a0_4, .slice A0_5 l0_5.length c0_5, .slice A0_6 l0_6.length c0_6, .int .i64 a0_7, .slice A0_8 l0_8.length c0_8, .slice A0_9 l0_9.length c0_9] 30 (0, 0)) (by (with_reducible repeat (first | refine kN ?_ _ | refine kZ ?_ | refine kA ?_ _)); exact BK160.out) hb); have n3_ := Aside0.mk (below_step (by repeat (first | (with_reducible first | exact HB.out | apply bA | apply bN | apply bD | refine bS ?_ GE160.out) | exact HB.out)) hb); clear HO163; clear BK160; clear HB; have HO163 := n0_; have HO166 := n1_; have BK160 := n2_; have HB := n3_; clear n0_ n1_ n2_ n3_; clear hb ho12; obtain ⟨Ao14, co14, eo14⟩ := Kd.R_slice HO166.out; subst eo14) | ((with_reducible refine gate_builtin (b := .append) (xs := #[.tmp 24, .tmp 28]) rfl ?_); at_builtin; refine Kd.R_append_rows (Kd.int .i64) (w0 := w) w.heap.size rfl (.tmp 24) (.tmp 28) 25 3 (.int .i64 0) 8 rfl Try.underlying25 info3 rfl (by decide) (by omega) v162 y161 y164 _ _ _ (fun k_ => some k_ ≠ (.slice Ao14 y164.length co14 : Value).ownBlock) (fun _ => False) rfl rfl ?aO ?aR (fun _ _ h => h) (fun _ h => h.elim) ?aF ?aB ?aS ?aL ?_; (case aR => repeat (first | exact (Kd.R_reads' HO166.out).2.2 | (with_reducible refine qA ?_ _) | (with_reducible refine qN ?_ _) | (with_reducible refine qZ ?_))); (case aB => exact (by repeat (first | (with_reducible first | exact HB.out | apply bA | apply bN | apply bD | refine bS ?_ GE160.out) | exact HB.out))); (case aF => exact (fun k_ hk => Kd.fresh' (Kd.R_lt (by (with_reducible repeat (first | apply rA | apply rN | apply rZ)); exact HO166.out)) k_ hk)); (case aO => exact (by (with_reducible repeat (first | apply rA | apply rN | apply rZ)); exact Kd.R_mono HO163.out (fun _ hk => hk.2))); (case aS => exact (below_size (by repeat (first | (with_reducible first | exact HB.out | apply bA | apply bN | apply bD | refine bS ?_ GE160.out) | exact HB.out)))); (case aL => have := LMc9.out; omega); intro v168 w13 ho hb hg hat; rw [← Ny167.out] at ho; have n0_ := Aside0.mk (blk_grown (g := gb160) (o := .cells #[.int .i64 a0_0, .int .i64 a0_1, .int .i64 a0_2, .int .i64 a0_3, .int .i64 a0_4, .slice A0_5 l0_5.length c0_5, .slice A0_6 l0_6.length c0_6, .int .i64 a0_7, .slice A0_8 l0_8.length c0_8, .slice A0_9 l0_9.length c0_9] 30 (0, 0)) (by (with_reducible repeat (first | refine kN ?_ _ | refine kZ ?_ | refine kA ?_ _)); exact BK160.out) hg (Kd.R_ne HO163.out BK160.out (by decide))); have n1_ := Aside0.mk (Kd.R_after (ok := (fun _ => True)) (by (with_reducible repeat (first | apply rA | apply rN | apply rZ)); exact HO166.out) hg hat); have n2_ := Aside0.mk (hb); have n3_ := Aside0.mk (ho); clear BK160; clear HO166; clear HB; clear HO163; have BK160 := n0_; have HO166 := n1_; have HB := n2_; have HO169 := n3_; clear n0_ n1_ n2_ n3_; clear ho hb hg hat; obtain ⟨hcz15_0, hcz15_1, hcz15_2, hcz15_3, hcz15_4, hcz15_5, hcz15_6, hcz15_7, hcz15_8, hcz15_9⟩ := ten_cells BK160.out; have hfz15 := ten_free BK160.out))
    go_loopg [3, 33] k (fun kq v3 v33 w' => ∃ (x3_1 : List Int) (x33_1 : Int), v33 = .int .i64 x33_1 ∧ Aside0 (record_write.l0 kq x3_1 l0_8 (l0_8.length : Int) x33_1 a0_0 a0_1 a0_2 a0_3 a0_4 l0_5 l0_6 a0_7 l0_8 l0_9 = some r) ∧ Aside0 (kq ≤ k) ∧ Aside0 (Kd.R (Kd.int .i64) 3 w' w.heap.size (fun _ => True) v3 x3_1) ∧ Aside0 (w'.heap[gb160]? = some (.cells #[.int .i64 a0_0, .int .i64 a0_1, .int .i64 a0_2, .int .i64 a0_3, .int .i64 a0_4, (.slice A0_5 l0_5.length c0_5), (.slice A0_6 l0_6.length c0_6), .int .i64 a0_7, (.slice A0_8 l0_8.length c0_8), (.slice A0_9 l0_9.length c0_9)] 30 (0, 0))) ∧ Aside0 (Below w.heap.size w w'))
    case atStart => exact ⟨(y167), (0), (by first | rfl | (simp; done) | (simp [*]; done)), H', ⟨Nat.le_refl _⟩, ⟨by (with_reducible repeat (first | apply rA | apply rN | apply rZ)); exact Kd.R_mono HO169.out (fun _ hk => trivial)⟩, ⟨by (with_reducible repeat (first | refine kN ?_ _ | refine kZ ?_ | refine kA ?_ _)); exact BK160.out⟩, ⟨by repeat (first | (with_reducible first | exact HB.out | apply bA | apply bN | apply bD | refine bS ?_ GE160.out) | exact HB.out)⟩⟩
    case round =>
     clear H'
     try clear p2
     try clear c3
     try clear c8
     try clear c8b0
     try clear c8b1
     try clear c9
     try clear hcz10_0 hcz10_1 hcz10_2 hcz10_3 hcz10_4 hcz10_5 hcz10_6 hcz10_7 hcz10_8 hcz10_9
     try clear hcz15_0 hcz15_1 hcz15_2 hcz15_3 hcz15_4 hcz15_5 hcz15_6 hcz15_7 hcz15_8 hcz15_9
     try clear hcz4_0 hcz4_1 hcz4_2 hcz4_3 hcz4_4 hcz4_5 hcz4_6 hcz4_7 hcz4_8 hcz4_9
     try clear hcz7_0 hcz7_1 hcz7_2 hcz7_3 hcz7_4 hcz7_5 hcz7_6 hcz7_7 hcz7_8 hcz7_9
     try clear hfz10
     try clear hfz15
     try clear hfz4
     try clear hfz7
     obtain ⟨x3_1, x33_1, rfl, HA, HK1, HO_3, BK160, HB⟩ := hrel
     cases gk with
     | zero => exact absurd HA.out (by simp [record_write.l0])
     | succ k1 =>
      have H := HA.out
      clear HA
      simp only [record_write.l0] at H
      by_cases c16 : x33_1 < (l0_8.length : Int)
      ·rw [if_pos c16] at H
       have c16b0 : decide (x33_1 < (l0_8.length : Int)) = true := decide_eq_true c16
       clear c16
       by_cases c17 : 0 ≤ x33_1
       ·rw [if_pos c17] at H
        have c17b0 : decide (0 ≤ x33_1) = true := decide_eq_true c17
        clear c17
        by_cases c18 : x33_1 < (l0_8.length : Int)
        ·rw [if_pos c18] at H
         have c18b0 : decide (x33_1 < (l0_8.length : Int)) = true := decide_eq_true c18
         clear c18
         obtain ⟨y172, hy172⟩ : ∃ y_ : List Int, y_ = (([(rd_T54 l0_8 x33_1).f0, (rd_T54 l0_8 x33_1).f1] : List Int)) := ⟨_, rfl⟩
         replace H : (if x3_1.length + y172.length < 17592186044416 then (record_write.l0 k1 (x3_1 ++ y172) l0_8 (l0_8.length : Int) (wrap64 (x33_1 + 1)) a0_0 a0_1 a0_2 a0_3 a0_4 l0_5 l0_6 a0_7 l0_8 l0_9) else (none)) = some r := by first | (rw [hy172]; with_reducible exact H) | (have H2_ := (Option.bind_some _ _).symm.trans H; rw [hy172]; with_reducible exact H2_) | (have H2_ := (Option.bind_some _ _).symm.trans H; with_reducible exact H2_) | with_reducible exact H | (rw [hy172]; exact H) | exact H
         have Ny172 := Aside0.mk hy172
         clear hy172
         by_cases c19 : x3_1.length + y172.length < 17592186044416
         ·rw [if_pos c19] at H
          have LMc19 := Aside0.mk c19
          clear c19
          obtain ⟨y175, hy175⟩ : ∃ y_ : List Int, y_ = (x3_1 ++ y172) := ⟨_, rfl⟩
          replace H : (record_write.l0 k1 y175 l0_8 (l0_8.length : Int) (wrap64 (x33_1 + 1)) a0_0 a0_1 a0_2 a0_3 a0_4 l0_5 l0_6 a0_7 l0_8 l0_9) = some r := by first | (rw [hy175]; with_reducible exact H) | (have H2_ := (Option.bind_some _ _).symm.trans H; rw [hy175]; with_reducible exact H2_) | (have H2_ := (Option.bind_some _ _).symm.trans H; with_reducible exact H2_) | with_reducible exact H | (rw [hy175]; exact H) | exact H
          have Ny175 := Aside0.mk hy175
          clear hy175
          have H' := Aside0.mk H
          clear H
          have p170 : 0 ≤ (x33_1 : Int) := of_decide_eq_true (by first | (with_reducible assumption) | assumption)
          have q170 : x33_1 < (l0_8.length : Int) := of_decide_eq_true (by first | (with_reducible assumption) | assumption)
          obtain ⟨ad170, e170, hx170_0, hx170_1⟩ := at_T54 HR0_8.out x33_1 p170 q170
          cases e170
          replace hx170_0 := (HB.out.cell (World.block_lt_of_cell? w _ hx170_0)).trans hx170_0
          replace hx170_1 := (HB.out.cell (World.block_lt_of_cell? w _ hx170_1)).trans hx170_1
          replace p170 := eq_true p170
          replace q170 := eq_true q170
          go_wp2_with (first | ((with_reducible refine gate_dst (N := 5) rfl ?_); refine box_event ?hg (N := 5) ?hd (cs := #[.int .i64 0, .int .i64 0]) (t := 54) ?hr ?_; (case hd => rfl); (case hg => rfl); (case hr => first | (go_simp; done) | (go_simp; rfl)); intro gb171 hg w20 hbox hb; have n0_ := Aside0.mk (Kd.R_below (by (with_reducible repeat (first | apply rA | apply rN | apply rZ)); exact HO_3.out) hb); have n1_ := Aside0.mk (blk_below (g := gb160) (o := .cells #[.int .i64 a0_0, .int .i64 a0_1, .int .i64 a0_2, .int .i64 a0_3, .int .i64 a0_4, .slice A0_5 l0_5.length c0_5, .slice A0_6 l0_6.length c0_6, .int .i64 a0_7, .slice (some ad170) l0_8.length c0_8, .slice A0_9 l0_9.length c0_9] 30 (0, 0)) (by (with_reducible repeat (first | refine kN ?_ _ | refine kZ ?_ | refine kA ?_ _)); exact BK160.out) hb); have n2_ := Aside0.mk (below_step (by repeat (first | (with_reducible first | exact HB.out | apply bA | apply bN | apply bD | refine bS ?_ GE160.out) | exact HB.out)) hb); have n3_ := Aside0.mk (hbox); have n4_ := Aside0.mk ((by rw [hg]; exact (below_size (by repeat (first | (with_reducible first | exact HB.out | apply bA | apply bN | apply bD | refine bS ?_ GE160.out) | exact HB.out))) : w.heap.size ≤ gb171)); have n5_ := Aside0.mk ((by rw [hg]; exact (below_size (by repeat (first | (with_reducible first | exact HB.out | apply bA | apply bN | apply bD | refine bS ?_ GE160.out) | exact HB.out))) : w.heap.size ≤ gb171)); have n6_ := Aside0.mk ((by rw [hg]; exact Nat.ne_of_lt (blk_lt (g := gb160) (o := .cells #[.int .i64 a0_0, .int .i64 a0_1, .int .i64 a0_2, .int .i64 a0_3, .int .i64 a0_4, .slice A0_5 l0_5.length c0_5, .slice A0_6 l0_6.length c0_6, .int .i64 a0_7, .slice (some ad170) l0_8.length c0_8, .slice A0_9 l0_9.length c0_9] 30 (0, 0)) (by (with_reducible repeat (first | refine kN ?_ _ | refine kZ ?_ | refine kA ?_ _)); exact BK160.out)) : gb160 ≠ gb171)); have n7_ := Aside0.mk ((by rw [hg]; exact Nat.ne_of_gt (blk_lt (g := gb160) (o := .cells #[.int .i64 a0_0, .int .i64 a0_1, .int .i64 a0_2, .int .i64 a0_3, .int .i64 a0_4, .slice A0_5 l0_5.length c0_5, .slice A0_6 l0_6.length c0_6, .int .i64 a0_7, .slice (some ad170) l0_8.length c0_8, .slice A0_9 l0_9.length c0_9] 30 (0, 0)) (by (with_reducible repeat (first | refine kN ?_ _ | refine kZ ?_ | refine kA ?_ _)); exact BK160.out)) : gb171 ≠ gb160)); clear HO_3; clear BK160; clear HB; have HO_3 := n0_; have BK160 := n1_; have HB := n2_; have BK171 := n3_; have GW171 := n4_; have GE171 := n5_; have NB160_171 := n6_; have NB171_160 := n7_; clear n0_ n1_ n2_ n3_ n4_ n5_ n6_ n7_; clear hb hbox hg; have hnb21 := NB171_160.out; have hnc21 := NB160_171.out; have hcz22_0 : w20.cell? ⟨gb171, 0, none⟩ = some (.int .i64 0) := (blk_cell BK171.out 0).trans rfl; have hcz22_1 : w20.cell? ⟨gb171, 1, none⟩ = some (.int .i64 0) := (blk_cell BK171.out 1).trans rfl; have hfz22_0 := blk_frozen BK171.out 0; have hfz22_1 := blk_frozen BK171.out 1) | ((with_reducible refine gate_dst (N := 42) rfl ?_); refine Kd.R_lit (Kd.int .i64) _ 3 ?hg (N := 42) ?hd (xs := ([(rd_T54 l0_8 x33_1).f0, (rd_T54 l0_8 x33_1).f1] : List Int)) (inner := [.int .i64 ((rd_T54 l0_8 x33_1).f0), .int .i64 ((rd_T54 l0_8 x33_1).f1)]) (ok := fun _ => True) (okp := fun _ => True) ?hr ?hp (fun _ hk => hk) trivial (Below.refl _ _) (Nat.le_refl _) (by simp) ?_; (case hd => rfl); (case hg => rfl); (case hr => first | (go_simp; done) | (go_simp; rfl)); (case hp => exact (Reps.one (show Kd.M (Kd.int .i64) _ _ _ ((rd_T54 l0_8 x33_1).f0) [.int .i64 ((rd_T54 l0_8 x33_1).f0)] from rfl) (Reps.one (show Kd.M (Kd.int .i64) _ _ _ ((rd_T54 l0_8 x33_1).f1) [.int .i64 ((rd_T54 l0_8 x33_1).f1)] from rfl) (Reps.none _ _)))); intro v173 w23 ho24 hb hg_ hnew_; clear hg_ hnew_; (first | rw [← Ny172.out] at ho24 | (simp only [Int.reduceToNat] at ho24; rw [← Ny172.out] at ho24)); have n0_ := Aside0.mk (Kd.R_elder' (by (with_reducible repeat (first | apply rA | apply rN | apply rZ)); exact (Kd.R_mono (Kd.R_far (p := ⟨gb171, 1, none⟩) (Kd.R_far (p := ⟨gb171, 0, none⟩) (Kd.R_types HO_3.out BK171.out (by decide)) (fun _ hk => hk.2) (.int .i64 ((rd_T54 l0_8 x33_1).f0))) (fun _ hk => hk.2) (.int .i64 ((rd_T54 l0_8 x33_1).f1))) (fun _ h_ => h_.1))) (Kd.R_base ho24) hb); have n1_ := Aside0.mk (Kd.R_lower (Kd.R_new' ho24 (Kd.R_lt (by (with_reducible repeat (first | apply rA | apply rN | apply rZ)); exact (Kd.R_mono (Kd.R_far (p := ⟨gb171, 1, none⟩) (Kd.R_far (p := ⟨gb171, 0, none⟩) (Kd.R_types HO_3.out BK171.out (by decide)) (fun _ hk => hk.2) (.int .i64 ((rd_T54 l0_8 x33_1).f0))) (fun _ hk => hk.2) (.int .i64 ((rd_T54 l0_8 x33_1).f1))) (fun _ h_ => h_.1))))) (below_size (by repeat (first | (with_reducible first | exact HB.out | apply bA | apply bN | apply bD | refine bS ?_ GE160.out | refine bS ?_ GE171.out) | exact HB.out)))); have n2_ := Aside0.mk (blk_below (g := gb160) (o := .cells #[.int .i64 a0_0, .int .i64 a0_1, .int .i64 a0_2, .int .i64 a0_3, .int .i64 a0_4, .slice A0_5 l0_5.length c0_5, .slice A0_6 l0_6.length c0_6, .int .i64 a0_7, .slice (some ad170) l0_8.length c0_8, .slice A0_9 l0_9.length c0_9] 30 (0, 0)) (by (with_reducible repeat (first | refine kN ?_ _ | refine kZ ?_ | refine kA ?_ _)); refine blk_far ?_ NB160_171.out _; (with_reducible repeat (first | refine kN ?_ _ | refine kZ ?_ | refine kA ?_ _)); refine blk_far ?_ NB160_171.out _; (with_reducible repeat (first | refine kN ?_ _ | refine kZ ?_ | refine kA ?_ _)); exact BK160.out) hb); have n3_ := Aside0.mk (blk_below (g := gb171) (o := .cells #[.int .i64 ((rd_T54 l0_8 x33_1).f0), .int .i64 ((rd_T54 l0_8 x33_1).f1)] 54 (0, 0)) (by (with_reducible repeat (first | refine kN ?_ _ | refine kZ ?_ | refine kA ?_ _)); refine blk_put (cs := #[.int .i64 ((rd_T54 l0_8 x33_1).f0), .int .i64 0]) ?_ 1 _ rfl; (with_reducible repeat (first | refine kN ?_ _ | refine kZ ?_ | refine kA ?_ _)); refine blk_put (cs := #[.int .i64 0, .int .i64 0]) ?_ 0 _ rfl; (with_reducible repeat (first | refine kN ?_ _ | refine kZ ?_ | refine kA ?_ _)); exact BK171.out) hb); have n4_ := Aside0.mk (below_step (by repeat (first | (with_reducible first | exact HB.out | apply bA | apply bN | apply bD | refine bS ?_ GE160.out | refine bS ?_ GE171.out) | exact HB.out)) hb); clear HO_3; clear BK160; clear BK171; clear HB; have HO_3 := n0_; have HO174 := n1_; have BK160 := n2_; have BK171 := n3_; have HB := n4_; clear n0_ n1_ n2_ n3_ n4_; clear hb ho24; obtain ⟨Ao26, co26, eo26⟩ := Kd.R_slice HO174.out; subst eo26) | ((with_reducible refine gate_builtin (b := .append) (xs := #[.tmp 37, .tmp 42]) rfl ?_); at_builtin; refine Kd.R_append_rows (Kd.int .i64) (w0 := w) w.heap.size rfl (.tmp 37) (.tmp 42) 25 3 (.int .i64 0) 8 rfl Try.underlying25 info3 rfl (by decide) (by omega) u3 x3_1 y172 _ _ _ (fun k_ => some k_ ≠ (.slice Ao26 y172.length co26 : Value).ownBlock) (fun _ => False) rfl rfl ?aO ?aR (fun _ _ h => h) (fun _ h => h.elim) ?aF ?aB ?aS ?aL ?_; (case aR => repeat (first | exact (Kd.R_reads' HO174.out).2.2 | (with_reducible refine qA ?_ _) | (with_reducible refine qN ?_ _) | (with_reducible refine qZ ?_))); (case aB => exact (by repeat (first | (with_reducible first | exact HB.out | apply bA | apply bN | apply bD | refine bS ?_ GE160.out | refine bS ?_ GE171.out) | exact HB.out))); (case aF => exact (fun k_ hk => Kd.fresh' (Kd.R_lt (by (with_reducible repeat (first | apply rA | apply rN | apply rZ)); exact HO174.out)) k_ hk)); (case aO => exact (by (with_reducible repeat (first | apply rA | apply rN | apply rZ)); exact Kd.R_mono HO_3.out (fun _ hk => hk.2))); (case aS => exact (below_size (by repeat (first | (with_reducible first | exact HB.out | apply bA | apply bN | apply bD | refine bS ?_ GE160.out | refine bS ?_ GE171.out) | exact HB.out)))); (case aL => have := LMc19.out; omega); intro v176 w25 ho hb hg hat; rw [← Ny175.out] at ho; have n0_ := Aside0.mk (blk_grown (g := gb160) (o := .cells #[.int .i64 a0_0, .int .i64 a0_1, .int .i64 a0_2, .int .i64 a0_3, .int .i64 a0_4, .slice A0_5 l0_5.length c0_5, .slice A0_6 l0_6.length c0_6, .int .i64 a0_7, .slice (some ad170) l0_8.length c0_8, .slice A0_9 l0_9.length c0_9] 30 (0, 0)) (by (with_reducible repeat (first | refine kN ?_ _ | refine kZ ?_ | refine kA ?_ _)); exact BK160.out) hg (Kd.R_ne HO_3.out BK160.out (by decide))); have n1_ := Aside0.mk (blk_grown (g := gb171) (o := .cells #[.int .i64 ((rd_T54 l0_8 x33_1).f0), .int .i64 ((rd_T54 l0_8 x33_1).f1)] 54 (0, 0)) (by (with_reducible repeat (first | refine kN ?_ _ | refine kZ ?_ | refine kA ?_ _)); exact BK171.out) hg (Kd.R_ne HO_3.out BK171.out (by decide))); have n2_ := Aside0.mk (Kd.R_after (ok := (fun _ => True)) (by (with_reducible repeat (first | apply rA | apply rN | apply rZ)); exact HO174.out) hg hat); have n3_ := Aside0.mk (hb); have n4_ := Aside0.mk (ho); clear BK160; clear BK171; clear HO174; clear HB; clear HO_3; have BK160 := n0_; have BK171 := n1_; have HO174 := n2_; have HB := n3_; have HO177 := n4_; clear n0_ n1_ n2_ n3_ n4_; clear ho hb hg hat))
          go_roundg k1
          case measure => have := HK1.out; omega
          case rel => exact ⟨(y175), (wrap64 (x33_1 + 1)), (by first | rfl | (simp; done) | (simp [*]; done)), H', ⟨by have := HK1.out; omega⟩, ⟨by (with_reducible repeat (first | apply rA | apply rN | apply rZ)); exact Kd.R_mono HO177.out (fun _ hk => trivial)⟩, ⟨by (with_reducible repeat (first | refine kN ?_ _ | refine kZ ?_ | refine kA ?_ _)); exact BK160.out⟩, ⟨by repeat (first | (with_reducible first | exact HB.out | apply bA | apply bN | apply bD | refine bS ?_ GE160.out | refine bS ?_ GE171.out) | exact HB.out)⟩⟩
         ·rw [if_neg c19] at H
          exact absurd H (by simp)
        ·rw [if_neg c18] at H
         exact absurd H (by simp)
       ·rw [if_neg c17] at H
        exact absurd H (by simp)
      ·rw [if_neg c16] at H
       have c16b0 : decide (x33_1 < (l0_8.length : Int)) = false := decide_eq_false c16
       clear c16
       obtain ⟨y178, hy178⟩ : ∃ y_ : List Int, y_ = (([(l0_9.length : Int)] : List Int)) := ⟨_, rfl⟩
       replace H : (if x3_1.length + y178.length < 17592186044416 then (record_write.l1 k1 (x3_1 ++ y178) l0_9 (l0_9.length : Int) 0) else (none)) = some r := by first | (rw [hy178]; with_reducible exact H) | (have H2_ := (Option.bind_some _ _).symm.trans H; rw [hy178]; with_reducible exact H2_) | (have H2_ := (Option.bind_some _ _).symm.trans H; with_reducible exact H2_) | with_reducible exact H | (rw [hy178]; exact H) | exact H
       have Ny178 := Aside0.mk hy178
       clear hy178
       by_cases c27 : x3_1.length + y178.length < 17592186044416
       ·rw [if_pos c27] at H
        have LMc27 := Aside0.mk c27
        clear c27
        obtain ⟨y181, hy181⟩ : ∃ y_ : List Int, y_ = (x3_1 ++ y178) := ⟨_, rfl⟩
        replace H : (record_write.l1 k1 y181 l0_9 (l0_9.length : Int) 0) = some r := by first | (rw [hy181]; with_reducible exact H) | (have H2_ := (Option.bind_some _ _).symm.trans H; rw [hy181]; with_reducible exact H2_) | (have H2_ := (Option.bind_some _ _).symm.trans H; with_reducible exact H2_) | with_reducible exact H | (rw [hy181]; exact H) | exact H
        have Ny181 := Aside0.mk hy181
        clear hy181
        have H' := Aside0.mk H
        clear H
        obtain ⟨hcz28_0, hcz28_1, hcz28_2, hcz28_3, hcz28_4, hcz28_5, hcz28_6, hcz28_7, hcz28_8, hcz28_9⟩ := ten_cells BK160.out
        have hfz28 := ten_free BK160.out
        go_wp2_with (first | ((with_reducible refine gate_dst (N := 49) rfl ?_); refine Kd.R_lit (Kd.int .i64) _ 3 ?hg (N := 49) ?hd (xs := ([(l0_9.length : Int)] : List Int)) (inner := [.int .i64 (l0_9.length : Int)]) (ok := fun _ => True) (okp := fun _ => True) ?hr ?hp (fun _ hk => hk) trivial (Below.refl _ _) (Nat.le_refl _) (by simp) ?_; (case hd => rfl); (case hg => rfl); (case hr => first | (go_simp; done) | (go_simp; rfl)); (case hp => exact (Reps.one (show Kd.M (Kd.int .i64) _ _ _ (l0_9.length : Int) [.int .i64 (l0_9.length : Int)] from rfl) (Reps.none _ _))); intro v179 w29 ho30 hb hg_ hnew_; clear hg_ hnew_; (first | rw [← Ny178.out] at ho30 | (simp only [Int.reduceToNat] at ho30; rw [← Ny178.out] at ho30)); have n0_ := Aside0.mk (Kd.R_elder' (by (with_reducible repeat (first | apply rA | apply rN | apply rZ)); exact HO_3.out) (Kd.R_base ho30) hb); have n1_ := Aside0.mk (Kd.R_lower (Kd.R_new' ho30 (Kd.R_lt (by (with_reducible repeat (first | apply rA | apply rN | apply rZ)); exact HO_3.out))) (below_size (by repeat (first | (with_reducible first | exact HB.out | apply bA | apply bN | apply bD | refine bS ?_ GE160.out) | exact HB.out)))); have n2_ := Aside0.mk (blk_below (g := gb160) (o := .cells #[.int .i64 a0_0, .int .i64 a0_1, .int .i64 a0_2, .int .i64 a0_3, .int .i64 a0_4, .slice A0_5 l0_5.length c0_5, .slice A0_6 l0_6.length c0_6, .int .i64 a0_7, .slice A0_8 l0_8.length c0_8, .slice A0_9 l0_9.length c0_9] 30 (0, 0)) (by (with_reducible repeat (first | refine kN ?_ _ | refine kZ ?_ | refine kA ?_ _)); exact BK160.out) hb); have n3_ := Aside0.mk (below_step (by repeat (first | (with_reducible first | exact HB.out | apply bA | apply bN | apply bD | refine bS ?_ GE160.out) | exact HB.out)) hb); clear HO_3; clear BK160; clear HB; have HO_3 := n0_; have HO180 := n1_; have BK160 := n2_; have HB := n3_; clear n0_ n1_ n2_ n3_; clear hb ho30; obtain ⟨Ao32, co32, eo32⟩ := Kd.R_slice HO180.out; subst eo32) | ((with_reducible refine gate_builtin (b := .append) (xs := #[.tmp 45, .tmp 49]) rfl ?_); at_builtin; refine Kd.R_append_rows (Kd.int .i64) (w0 := w) w.heap.size rfl (.tmp 45) (.tmp 49) 25 3 (.int .i64 0) 8 rfl Try.underlying25 info3 rfl (by decide) (by omega) u3 x3_1 y178 _ _ _ (fun k_ => some k_ ≠ (.slice Ao32 y178.length co32 : Value).ownBlock) (fun _ => False) rfl rfl ?aO ?aR (fun _ _ h => h) (fun _ h => h.elim) ?aF ?aB ?aS ?aL ?_; (case aR => repeat (first | exact (Kd.R_reads' HO180.out).2.2 | (with_reducible refine qA ?_ _) | (with_reducible refine qN ?_ _) | (with_reducible refine qZ ?_))); (case aB => exact (by repeat (first | (with_reducible first | exact HB.out | apply bA | apply bN | apply bD | refine bS ?_ GE160.out) | exact HB.out))); (case aF => exact (fun k_ hk => Kd.fresh' (Kd.R_lt (by (with_reducible repeat (first | apply rA | apply rN | apply rZ)); exact HO180.out)) k_ hk)); (case aO => exact (by (with_reducible repeat (first | apply rA | apply rN | apply rZ)); exact Kd.R_mono HO_3.out (fun _ hk => hk.2))); (case aS => exact (below_size (by repeat (first | (with_reducible first | exact HB.out | apply bA | apply bN | apply bD | refine bS ?_ GE160.out) | exact HB.out)))); (case aL => have := LMc27.out; omega); intro v182 w31 ho hb hg hat; rw [← Ny181.out] at ho; have n0_ := Aside0.mk (blk_grown (g := gb160) (o := .cells #[.int .i64 a0_0, .int .i64 a0_1, .int .i64 a0_2, .int .i64 a0_3, .int .i64 a0_4, .slice A0_5 l0_5.length c0_5, .slice A0_6 l0_6.length c0_6, .int .i64 a0_7, .slice A0_8 l0_8.length c0_8, .slice A0_9 l0_9.length c0_9] 30 (0, 0)) (by (with_reducible repeat (first | refine kN ?_ _ | refine kZ ?_ | refine kA ?_ _)); exact BK160.out) hg (Kd.R_ne HO_3.out BK160.out (by decide))); have n1_ := Aside0.mk (Kd.R_after (ok := (fun _ => True)) (by (with_reducible repeat (first | apply rA | apply rN | apply rZ)); exact HO180.out) hg hat); have n2_ := Aside0.mk (hb); have n3_ := Aside0.mk (ho); clear BK160; clear HO180; clear HB; clear HO_3; have BK160 := n0_; have HO180 := n1_; have HB := n2_; have HO183 := n3_; clear n0_ n1_ n2_ n3_; clear ho hb hg hat; obtain ⟨hcz33_0, hcz33_1, hcz33_2, hcz33_3, hcz33_4, hcz33_5, hcz33_6, hcz33_7, hcz33_8, hcz33_9⟩ := ten_cells BK160.out; have hfz33 := ten_free BK160.out))
        go_loopg [3, 54] k1 (fun kq v3 v54 w' => ∃ (x3_2 : List Int) (x54_2 : Int), v54 = .int .i64 x54_2 ∧ Aside0 (record_write.l1 kq x3_2 l0_9 (l0_9.length : Int) x54_2 = some r) ∧ Aside0 (kq ≤ k1) ∧ Aside0 (Kd.R (Kd.int .i64) 3 w' w.heap.size (fun _ => True) v3 x3_2) ∧ Aside0 (w'.heap[gb160]? = some (.cells #[.int .i64 a0_0, .int .i64 a0_1, .int .i64 a0_2, .int .i64 a0_3, .int .i64 a0_4, (.slice A0_5 l0_5.length c0_5), (.slice A0_6 l0_6.length c0_6), .int .i64 a0_7, (.slice A0_8 l0_8.length c0_8), (.slice A0_9 l0_9.length c0_9)] 30 (0, 0))) ∧ Aside0 (Below w.heap.size w w'))
        case atStart => exact ⟨(y181), (0), (by first | rfl | (simp; done) | (simp [*]; done)), H', ⟨Nat.le_refl _⟩, ⟨by (with_reducible repeat (first | apply rA | apply rN | apply rZ)); exact Kd.R_mono HO183.out (fun _ hk => trivial)⟩, ⟨by (with_reducible repeat (first | refine kN ?_ _ | refine kZ ?_ | refine kA ?_ _)); exact BK160.out⟩, ⟨by repeat (first | (with_reducible first | exact HB.out | apply bA | apply bN | apply bD | refine bS ?_ GE160.out) | exact HB.out)⟩⟩
        case round =>
         clear H'
         try clear c1
         try clear p1
         try clear q1
         try clear hx1
         try clear c2
         try clear p2
         try clear c3
         try clear p6
         try clear c8
         try clear c8b0
         try clear c8b1
         try clear c9
         try clear c16
         try clear c16b0
         try clear c17
         try clear c17b0
         try clear p17
         try clear q17
         try clear hx17
         try clear c18
         try clear c18b0
         try clear c19
         try clear c21
         try clear c27
         try clear c30
         try clear hcz10_0 hcz10_1 hcz10_2 hcz10_3 hcz10_4 hcz10_5 hcz10_6 hcz10_7 hcz10_8 hcz10_9
         try clear hcz15_0 hcz15_1 hcz15_2 hcz15_3 hcz15_4 hcz15_5 hcz15_6 hcz15_7 hcz15_8 hcz15_9
         try clear hcz22_0
         try clear hcz22_1
         try clear hcz28_0 hcz28_1 hcz28_2 hcz28_3 hcz28_4 hcz28_5 hcz28_6 hcz28_7 hcz28_8 hcz28_9
         try clear hcz33_0 hcz33_1 hcz33_2 hcz33_3 hcz33_4 hcz33_5 hcz33_6 hcz33_7 hcz33_8 hcz33_9
         try clear hcz4_0 hcz4_1 hcz4_2 hcz4_3 hcz4_4 hcz4_5 hcz4_6 hcz4_7 hcz4_8 hcz4_9
         try clear hcz7_0 hcz7_1 hcz7_2 hcz7_3 hcz7_4 hcz7_5 hcz7_6 hcz7_7 hcz7_8 hcz7_9
         try clear hfz10
         try clear hfz15
         try clear hfz22_0
         try clear hfz22_1
         try clear hfz28
         try clear hfz33
         try clear hfz4
         try clear hfz7
         try clear hx170_0
         try clear hx170_1
         try clear p170
         try clear p2
         try clear q170
         obtain ⟨x3_2, x54_2, rfl, HA, HK2, HO_3, BK160, HB⟩ := hrel
         cases gk with
         | zero => exact absurd HA.out (by simp [record_write.l1])
         | succ k2 =>
          have H := HA.out
          clear HA
          simp only [record_write.l1] at H
          by_cases c34 : x54_2 < (l0_9.length : Int)
          ·rw [if_pos c34] at H
           have c34b0 : decide (x54_2 < (l0_9.length : Int)) = true := decide_eq_true c34
           clear c34
           by_cases c35 : 0 ≤ x54_2
           ·rw [if_pos c35] at H
            have c35b0 : decide (0 ≤ x54_2) = true := decide_eq_true c35
            clear c35
            by_cases c36 : x54_2 < (l0_9.length : Int)
            ·rw [if_pos c36] at H
             have c36b0 : decide (x54_2 < (l0_9.length : Int)) = true := decide_eq_true c36
             clear c36
             obtain ⟨y186, hy186⟩ : ∃ y_ : List Int, y_ = (([(rd_T56 l0_9 x54_2).f0, (rd_T56 l0_9 x54_2).f1, (rd_T56 l0_9 x54_2).f2, (rd_T56 l0_9 x54_2).f3] : List Int)) := ⟨_, rfl⟩
             replace H : (if x3_2.length + y186.length < 17592186044416 then (record_write.l1 k2 (x3_2 ++ y186) l0_9 (l0_9.length : Int) (wrap64 (x54_2 + 1))) else (none)) = some r := by first | (rw [hy186]; with_reducible exact H) | (have H2_ := (Option.bind_some _ _).symm.trans H; rw [hy186]; with_reducible exact H2_) | (have H2_ := (Option.bind_some _ _).symm.trans H; with_reducible exact H2_) | with_reducible exact H | (rw [hy186]; exact H) | exact H
             have Ny186 := Aside0.mk hy186
             clear hy186
             by_cases c37 : x3_2.length + y186.length < 17592186044416
             ·rw [if_pos c37] at H
              have LMc37 := Aside0.mk c37
              clear c37
              obtain ⟨y189, hy189⟩ : ∃ y_ : List Int, y_ = (x3_2 ++ y186) := ⟨_, rfl⟩
              replace H : (record_write.l1 k2 y189 l0_9 (l0_9.length : Int) (wrap64 (x54_2 + 1))) = some r := by first | (rw [hy189]; with_reducible exact H) | (have H2_ := (Option.bind_some _ _).symm.trans H; rw [hy189]; with_reducible exact H2_) | (have H2_ := (Option.bind_some _ _).symm.trans H; with_reducible exact H2_) | with_reducible exact H | (rw [hy189]; exact H) | exact H
              have Ny189 := Aside0.mk hy189
              clear hy189
              have H' := Aside0.mk H
              clear H
              have p184 : 0 ≤ (x54_2 : Int) := of_decide_eq_true (by first | (with_reducible assumption) | assumption)
              have q184 : x54_2 < (l0_9.length : Int) := of_decide_eq_true (by first | (with_reducible assumption) | assumption)
              obtain ⟨ad184, e184, hx184_0, hx184_1, hx184_2, hx184_3⟩ := at_T56 HR0_9.out x54_2 p184 q184
              cases e184
              replace hx184_0 := (HB.out.cell (World.block_lt_of_cell? w _ hx184_0)).trans hx184_0
              replace hx184_1 := (HB.out.cell (World.block_lt_of_cell? w _ hx184_1)).trans hx184_1
              replace hx184_2 := (HB.out.cell (World.block_lt_of_cell? w _ hx184_2)).trans hx184_2
              replace hx184_3 := (HB.out.cell (World.block_lt_of_cell? w _ hx184_3)).trans hx184_3
              replace p184 := eq_true p184
              replace q184 := eq_true q184
              go_wp2_with (first | ((with_reducible refine gate_dst (N := 7) rfl ?_); refine box_event ?hg (N := 7) ?hd (cs := #[.int .i64 0, .int .i64 0, .int .i64 0, .int .i64 0]) (t := 56) ?hr ?_; (case hd => rfl); (case hg => rfl); (case hr => first | (go_simp; done) | (go_simp; rfl)); intro gb185 hg w38 hbox hb; have n0_ := Aside0.mk (Kd.R_below (by (with_reducible repeat (first | apply rA | apply rN | apply rZ)); exact HO_3.out) hb); have n1_ := Aside0.mk (blk_below (g := gb160) (o := .cells #[.int .i64 a0_0, .int .i64 a0_1, .int .i64 a0_2, .int .i64 a0_3, .int .i64 a0_4, .slice A0_5 l0_5.length c0_5, .slice A0_6 l0_6.length c0_6, .int .i64 a0_7, .slice A0_8 l0_8.length c0_8, .slice (some ad184) l0_9.length c0_9] 30 (0, 0)) (by (with_reducible repeat (first | refine kN ?_ _ | refine kZ ?_ | refine kA ?_ _)); exact BK160.out) hb); have n2_ := Aside0.mk (below_step (by repeat (first | (with_reducible first | exact HB.out | apply bA | apply bN | apply bD | refine bS ?_ GE160.out) | exact HB.out)) hb); have n3_ := Aside0.mk (hbox); have n4_ := Aside0.mk ((by rw [hg]; exact (below_size (by repeat (first | (with_reducible first | exact HB.out | apply bA | apply bN | apply bD | refine bS ?_ GE160.out) | exact HB.out))) : w.heap.size ≤ gb185)); have n5_ := Aside0.mk ((by rw [hg]; exact (below_size (by repeat (first | (with_reducible first | exact HB.out | apply bA | apply bN | apply bD | refine bS ?_ GE160.out) | exact HB.out))) : w.heap.size ≤ gb185)); have n6_ := Aside0.mk ((by rw [hg]; exact Nat.ne_of_lt (blk_lt (g := gb160) (o := .cells #[.int .i64 a0_0, .int .i64 a0_1, .int .i64 a0_2, .int .i64 a0_3, .int .i64 a0_4, .slice A0_5 l0_5.length c0_5, .slice A0_6 l0_6.length c0_6, .int .i64 a0_7, .slice A0_8 l0_8.length c0_8, .slice (some ad184) l0_9.length c0_9] 30 (0, 0)) (by (with_reducible repeat (first | refine kN ?_ _ | refine kZ ?_ | refine kA ?_ _)); exact BK160.out)) : gb160 ≠ gb185)); have n7_ := Aside0.mk ((by rw [hg]; exact Nat.ne_of_gt (blk_lt (g := gb160) (o := .cells #[.int .i64 a0_0, .int .i64 a0_1, .int .i64 a0_2, .int .i64 a0_3, .int .i64 a0_4, .slice A0_5 l0_5.length c0_5, .slice A0_6 l0_6.length c0_6, .int .i64 a0_7, .slice A0_8 l0_8.length c0_8, .slice (some ad184) l0_9.length c0_9] 30 (0, 0)) (by (with_reducible repeat (first | refine kN ?_ _ | refine kZ ?_ | refine kA ?_ _)); exact BK160.out)) : gb185 ≠ gb160)); clear HO_3; clear BK160; clear HB; have HO_3 := n0_; have BK160 := n1_; have HB := n2_; have BK185 := n3_; have GW185 := n4_; have GE185 := n5_; have NB160_185 := n6_; have NB185_160 := n7_; clear n0_ n1_ n2_ n3_ n4_ n5_ n6_ n7_; clear hb hbox hg; have hnb39 := NB185_160.out; have hnc39 := NB160_185.out; have hcz40_0 : w38.cell? ⟨gb185, 0, none⟩ = some (.int .i64 0) := (blk_cell BK185.out 0).trans rfl; have hcz40_1 : w38.cell? ⟨gb185, 1, none⟩ = some (.int .i64 0) := (blk_cell BK185.out 1).trans rfl; have hcz40_2 : w38.cell? ⟨gb185, 2, none⟩ = some (.int .i64 0) := (blk_cell BK185.out 2).trans rfl; have hcz40_3 : w38.cell? ⟨gb185, 3, none⟩ = some (.int .i64 0) := (blk_cell BK185.out 3).trans rfl; have hfz40_0 := blk_frozen BK185.out 0; have hfz40_1 := blk_frozen BK185.out 1; have hfz40_2 := blk_frozen BK185.out 2; have hfz40_3 := blk_frozen BK185.out 3) | ((with_reducible refine gate_dst (N := 67) rfl ?_); refine Kd.R_lit (Kd.int .i64) _ 3 ?hg (N := 67) ?hd (xs := ([(rd_T56 l0_9 x54_2).f0, (rd_T56 l0_9 x54_2).f1, (rd_T56 l0_9 x54_2).f2, (rd_T56 l0_9 x54_2).f3] : List Int)) (inner := [.int .i64 ((rd_T56 l0_9 x54_2).f0), .int .i64 ((rd_T56 l0_9 x54_2).f1), .int .i64 ((rd_T56 l0_9 x54_2).f2), .int .i64 ((rd_T56 l0_9 x54_2).f3)]) (ok := fun _ => True) (okp := fun _ => True) ?hr ?hp (fun _ hk => hk) trivial (Below.refl _ _) (Nat.le_refl _) (by simp) ?_; (case hd => rfl); (case hg => rfl); (case hr => first | (go_simp; done) | (go_simp; rfl)); (case hp => exact (Reps.one (show Kd.M (Kd.int .i64) _ _ _ ((rd_T56 l0_9 x54_2).f0) [.int .i64 ((rd_T56 l0_9 x54_2).f0)] from rfl) (Reps.one (show Kd.M (Kd.int .i64) _ _ _ ((rd_T56 l0_9 x54_2).f1) [.int .i64 ((rd_T56 l0_9 x54_2).f1)] from rfl) (Reps.one (show Kd.M (Kd.int .i64) _ _ _ ((rd_T56 l0_9 x54_2).f2) [.int .i64 ((rd_T56 l0_9 x54_2).f2)] from rfl) (Reps.one (show Kd.M (Kd.int .i64) _ _ _ ((rd_T56 l0_9 x54_2).f3) [.int .i64 ((rd_T56 l0_9 x54_2).f3)] from rfl) (Reps.none _ _)))))); intro v187 w41 ho42 hb hg_ hnew_; clear hg_ hnew_; (first | rw [← Ny186.out] at ho42 | (simp only [Int.reduceToNat] at ho42; rw [← Ny186.out] at ho42)); have n0_ := Aside0.mk (Kd.R_elder' (by (with_reducible repeat (first | apply rA | apply rN | apply rZ)); exact (Kd.R_mono (Kd.R_far (p := ⟨gb185, 3, none⟩) (Kd.R_far (p := ⟨gb185, 2, none⟩) (Kd.R_far (p := ⟨gb185, 1, none⟩) (Kd.R_far (p := ⟨gb185, 0, none⟩) (Kd.R_types HO_3.out BK185.out (by decide)) (fun _ hk => hk.2) (.int .i64 ((rd_T56 l0_9 x54_2).f0))) (fun _ hk => hk.2) (.int .i64 ((rd_T56 l0_9 x54_2).f1))) (fun _ hk => hk.2) (.int .i64 ((rd_T56 l0_9 x54_2).f2))) (fun _ hk => hk.2) (.int .i64 ((rd_T56 l0_9 x54_2).f3))) (fun _ h_ => h_.1))) (Kd.R_base ho42) hb); have n1_ := Aside0.mk (Kd.R_lower (Kd.R_new' ho42 (Kd.R_lt (by (with_reducible repeat (first | apply rA | apply rN | apply rZ)); exact (Kd.R_mono (Kd.R_far (p := ⟨gb185, 3, none⟩) (Kd.R_far (p := ⟨gb185, 2, none⟩) (Kd.R_far (p := ⟨gb185, 1, none⟩) (Kd.R_far (p := ⟨gb185, 0, none⟩) (Kd.R_types HO_3.out BK185.out (by decide)) (fun _ hk => hk.2) (.int .i64 ((rd_T56 l0_9 x54_2).f0))) (fun _ hk => hk.2) (.int .i64 ((rd_T56 l0_9 x54_2).f1))) (fun _ hk => hk.2) (.int .i64 ((rd_T56 l0_9 x54_2).f2))) (fun _ hk => hk.2) (.int .i64 ((rd_T56 l0_9 x54_2).f3))) (fun _ h_ => h_.1))))) (below_size (by repeat (first | (with_reducible first | exact HB.out | apply bA | apply bN | apply bD | refine bS ?_ GE160.out | refine bS ?_ GE185.out) | exact HB.out)))); have n2_ := Aside0.mk (blk_below (g := gb160) (o := .cells #[.int .i64 a0_0, .int .i64 a0_1, .int .i64 a0_2, .int .i64 a0_3, .int .i64 a0_4, .slice A0_5 l0_5.length c0_5, .slice A0_6 l0_6.length c0_6, .int .i64 a0_7, .slice A0_8 l0_8.length c0_8, .slice (some ad184) l0_9.length c0_9] 30 (0, 0)) (by (with_reducible repeat (first | refine kN ?_ _ | refine kZ ?_ | refine kA ?_ _)); refine blk_far ?_ NB160_185.out _; (with_reducible repeat (first | refine kN ?_ _ | refine kZ ?_ | refine kA ?_ _)); refine blk_far ?_ NB160_185.out _; (with_reducible repeat (first | refine kN ?_ _ | refine kZ ?_ | refine kA ?_ _)); refine blk_far ?_ NB160_185.out _; (with_reducible repeat (first | refine kN ?_ _ | refine kZ ?_ | refine kA ?_ _)); refine blk_far ?_ NB160_185.out _; (with_reducible repeat (first | refine kN ?_ _ | refine kZ ?_ | refine kA ?_ _)); exact BK160.out) hb); have n3_ := Aside0.mk (blk_below (g := gb185) (o := .cells #[.int .i64 ((rd_T56 l0_9 x54_2).f0), .int .i64 ((rd_T56 l0_9 x54_2).f1), .int .i64 ((rd_T56 l0_9 x54_2).f2), .int .i64 ((rd_T56 l0_9 x54_2).f3)] 56 (0, 0)) (by (with_reducible repeat (first | refine kN ?_ _ | refine kZ ?_ | refine kA ?_ _)); refine blk_put (cs := #[.int .i64 ((rd_T56 l0_9 x54_2).f0), .int .i64 ((rd_T56 l0_9 x54_2).f1), .int .i64 ((rd_T56 l0_9 x54_2).f2), .int .i64 0]) ?_ 3 _ rfl; (with_reducible repeat (first | refine kN ?_ _ | refine kZ ?_ | refine kA ?_ _)); refine blk_put (cs := #[.int .i64 ((rd_T56 l0_9 x54_2).f0), .int .i64 ((rd_T56 l0_9 x54_2).f1), .int .i64 0, .int .i64 0]) ?_ 2 _ rfl; (with_reducible repeat (first | refine kN ?_ _ | refine kZ ?_ | refine kA ?_ _)); refine blk_put (cs := #[.int .i64 ((rd_T56 l0_9 x54_2).f0), .int .i64 0, .int .i64 0, .int .i64 0]) ?_ 1 _ rfl; (with_reducible repeat (first | refine kN ?_ _ | refine kZ ?_ | refine kA ?_ _)); refine blk_put (cs := #[.int .i64 0, .int .i64 0, .int .i64 0, .int .i64 0]) ?_ 0 _ rfl; (with_reducible repeat (first | refine kN ?_ _ | refine kZ ?_ | refine kA ?_ _)); exact BK185.out) hb); have n4_ := Aside0.mk (below_step (by repeat (first | (with_reducible first | exact HB.out | apply bA | apply bN | apply bD | refine bS ?_ GE160.out | refine bS ?_ GE185.out) | exact HB.out)) hb); clear HO_3; clear BK160; clear BK185; clear HB; have HO_3 := n0_; have HO188 := n1_; have BK160 := n2_; have BK185 := n3_; have HB := n4_; clear n0_ n1_ n2_ n3_ n4_; clear hb ho42; obtain ⟨Ao44, co44, eo44⟩ := Kd.R_slice HO188.out; subst eo44) | ((with_reducible refine gate_builtin (b := .append) (xs := #[.tmp 58, .tmp 67]) rfl ?_); at_builtin; refine Kd.R_append_rows (Kd.int .i64) (w0 := w) w.heap.size rfl (.tmp 58) (.tmp 67) 25 3 (.int .i64 0) 8 rfl Try.underlying25 info3 rfl (by decide) (by omega) u3 x3_2 y186 _ _ _ (fun k_ => some k_ ≠ (.slice Ao44 y186.length co44 : Value).ownBlock) (fun _ => False) rfl rfl ?aO ?aR (fun _ _ h => h) (fun _ h => h.elim) ?aF ?aB ?aS ?aL ?_; (case aR => repeat (first | exact (Kd.R_reads' HO188.out).2.2 | (with_reducible refine qA ?_ _) | (with_reducible refine qN ?_ _) | (with_reducible refine qZ ?_))); (case aB => exact (by repeat (first | (with_reducible first | exact HB.out | apply bA | apply bN | apply bD | refine bS ?_ GE160.out | refine bS ?_ GE185.out) | exact HB.out))); (case aF => exact (fun k_ hk => Kd.fresh' (Kd.R_lt (by (with_reducible repeat (first | apply rA | apply rN | apply rZ)); exact HO188.out)) k_ hk)); (case aO => exact (by (with_reducible repeat (first | apply rA | apply rN | apply rZ)); exact Kd.R_mono HO_3.out (fun _ hk => hk.2))); (case aS => exact (below_size (by repeat (first | (with_reducible first | exact HB.out | apply bA | apply bN | apply bD | refine bS ?_ GE160.out | refine bS ?_ GE185.out) | exact HB.out)))); (case aL => have := LMc37.out; omega); intro v190 w43 ho hb hg hat; rw [← Ny189.out] at ho; have n0_ := Aside0.mk (blk_grown (g := gb160) (o := .cells #[.int .i64 a0_0, .int .i64 a0_1, .int .i64 a0_2, .int .i64 a0_3, .int .i64 a0_4, .slice A0_5 l0_5.length c0_5, .slice A0_6 l0_6.length c0_6, .int .i64 a0_7, .slice A0_8 l0_8.length c0_8, .slice (some ad184) l0_9.length c0_9] 30 (0, 0)) (by (with_reducible repeat (first | refine kN ?_ _ | refine kZ ?_ | refine kA ?_ _)); exact BK160.out) hg (Kd.R_ne HO_3.out BK160.out (by decide))); have n1_ := Aside0.mk (blk_grown (g := gb185) (o := .cells #[.int .i64 ((rd_T56 l0_9 x54_2).f0), .int .i64 ((rd_T56 l0_9 x54_2).f1), .int .i64 ((rd_T56 l0_9 x54_2).f2), .int .i64 ((rd_T56 l0_9 x54_2).f3)] 56 (0, 0)) (by (with_reducible repeat (first | refine kN ?_ _ | refine kZ ?_ | refine kA ?_ _)); exact BK185.out) hg (Kd.R_ne HO_3.out BK185.out (by decide))); have n2_ := Aside0.mk (Kd.R_after (ok := (fun _ => True)) (by (with_reducible repeat (first | apply rA | apply rN | apply rZ)); exact HO188.out) hg hat); have n3_ := Aside0.mk (hb); have n4_ := Aside0.mk (ho); clear BK160; clear BK185; clear HO188; clear HB; clear HO_3; have BK160 := n0_; have BK185 := n1_; have HO188 := n2_; have HB := n3_; have HO191 := n4_; clear n0_ n1_ n2_ n3_ n4_; clear ho hb hg hat))
              go_roundg k2
              case measure => have := HK1.out; have := HK2.out; omega
              case rel => exact ⟨(y189), (wrap64 (x54_2 + 1)), (by first | rfl | (simp; done) | (simp [*]; done)), H', ⟨by have := HK1.out; have := HK2.out; omega⟩, ⟨by (with_reducible repeat (first | apply rA | apply rN | apply rZ)); exact Kd.R_mono HO191.out (fun _ hk => trivial)⟩, ⟨by (with_reducible repeat (first | refine kN ?_ _ | refine kZ ?_ | refine kA ?_ _)); exact BK160.out⟩, ⟨by repeat (first | (with_reducible first | exact HB.out | apply bA | apply bN | apply bD | refine bS ?_ GE160.out | refine bS ?_ GE185.out) | exact HB.out)⟩⟩
             ·rw [if_neg c37] at H
              exact absurd H (by simp)
            ·rw [if_neg c36] at H
             exact absurd H (by simp)
           ·rw [if_neg c35] at H
            exact absurd H (by simp)
          ·rw [if_neg c34] at H
           have c34b0 : decide (x54_2 < (l0_9.length : Int)) = false := decide_eq_false c34
           clear c34
           replace H := Option.bind_eq_some_iff.mp H
           obtain ⟨t192, A450, H⟩ := H
           replace H : (some t192) = some r := H
           have A45 := Aside0.mk A450
           clear A450
           obtain rfl := Option.some.inj H
           obtain ⟨Ao46, co46, eo46⟩ := Kd.R_slice HO_3.out
           subst eo46
           go_wp2_with (first | ((with_reducible refine gate_callee (f := 43) rfl ?_); refine goesL_ (some 71) rfl rfl Try.func43 (by kernel_rfl) rfl #[.slice none 0 0, .slice Ao46 x3_2.length co46] rfl (by (try simp only [List.map_toArray, List.map_cons, List.map_nil]); first | done | rfl | (simp only [List.length_drop, List.length_take]; rfl)) ?_; (refine (wire_Put.calls k2 _ _ ([] : List Int) _ _ x3_2 t192 _ ?side1 ?side2 ?side3 ?side4 A45.out).mono ?_); (case side1 => exact Kd.C_nil _ _); (case side2 => exact Nat.le_refl _); (case side3 => repeat (first | exact (Kd.R_reads' HO_3.out).2.2 | (with_reducible refine qA ?_ _) | (with_reducible refine qN ?_ _) | (with_reducible refine qZ ?_))); (case side4 => exact (Kd.R_reads' HO_3.out).2.1); rintro e w47 ⟨v193, rfl, ho0, hb⟩; refine ⟨_, rfl, ?_⟩; have n0_ := Aside0.mk (Kd.R_below (by (with_reducible repeat (first | apply rA | apply rN | apply rZ)); exact HO_3.out) hb); have n1_ := Aside0.mk (Kd.R_lower ho0 (below_size (by repeat (first | (with_reducible first | exact HB.out | apply bA | apply bN | apply bD | refine bS ?_ GE160.out) | exact HB.out)))); have n2_ := Aside0.mk (blk_below (g := gb160) (o := .cells #[.int .i64 a0_0, .int .i64 a0_1, .int .i64 a0_2, .int .i64 a0_3, .int .i64 a0_4, .slice A0_5 l0_5.length c0_5, .slice A0_6 l0_6.length c0_6, .int .i64 a0_7, .slice A0_8 l0_8.length c0_8, .slice A0_9 l0_9.length c0_9] 30 (0, 0)) (by (with_reducible repeat (first | refine kN ?_ _ | refine kZ ?_ | refine kA ?_ _)); exact BK160.out) hb); have n3_ := Aside0.mk (below_step (by repeat (first | (with_reducible first | exact HB.out | apply bA | apply bN | apply bD | refine bS ?_ GE160.out) | exact HB.out)) hb); clear HO_3; clear BK160; clear HB; have HO_3 := n0_; have HO194 := n1_; have BK160 := n2_; have HB := n3_; clear n0_ n1_ n2_ n3_; (try clear hb); (try clear hb2); (try clear hk); (try clear hi); (try clear ho0)))
           go_ret
           exact ⟨_, by first | rfl | (simp [errW_none, errW_some] <;> rfl) | (simp [*, errW_none, errW_some] <;> rfl), by (with_reducible repeat (first | apply rA | apply rN | apply rZ)); exact HO194.out, by repeat (first | (with_reducible first | exact HB.out | apply bA | apply bN | apply bD | refine bS ?_ GE160.out) | exact HB.out)⟩
       ·rw [if_neg c27] at H
        exact absurd H (by simp)
   ·rw [if_neg c9] at H
    exact absurd H (by simp)
  ·rw [if_neg c8] at H
   have c8b0 : (a0_0 == 5) = false := beq_eq_false_iff_ne.mpr c8
   have c8b1 : (a0_0 != 5) = true := bne_iff_ne.mpr c8
   (first | rw [c8b0] | (simp only [i64_w, i32_w]; rw [c8b0]) | skip)
   by_cases c48 : a0_0 = 2
   ·rw [if_pos c48] at H
    have c48b0 : (a0_0 == 2) = true := beq_iff_eq.mpr c48
    have c48b1 : (a0_0 != 2) = false := bne_eq_false_iff_eq.mpr c48
    clear c48
    obtain ⟨y195, hy195⟩ : ∃ y_ : List Int, y_ = (([a0_1, a0_2, a0_7] : List Int)) := ⟨_, rfl⟩
    replace H : (if y161.length + y195.length < 17592186044416 then (record_write.j2 k (y161 ++ y195) a0_0 a0_1 a0_2 a0_3 a0_4 l0_5 l0_6 a0_7 l0_8 l0_9) else (none)) = some r := by first | (rw [hy195]; with_reducible exact H) | (have H2_ := (Option.bind_some _ _).symm.trans H; rw [hy195]; with_reducible exact H2_) | (have H2_ := (Option.bind_some _ _).symm.trans H; with_reducible exact H2_) | with_reducible exact H | (rw [hy195]; exact H) | exact H
    have Ny195 := Aside0.mk hy195
    clear hy195
    by_cases c49 : y161.length + y195.length < 17592186044416
    ·rw [if_pos c49] at H
     have LMc49 := Aside0.mk c49
     clear c49
     obtain ⟨y198, hy198⟩ : ∃ y_ : List Int, y_ = (y161 ++ y195) := ⟨_, rfl⟩
     replace H : (record_write.j2 k y198 a0_0 a0_1 a0_2 a0_3 a0_4 l0_5 l0_6 a0_7 l0_8 l0_9) = some r := by first | (rw [hy198]; with_reducible exact H) | (have H2_ := (Option.bind_some _ _).symm.trans H; rw [hy198]; with_reducible exact H2_) | (have H2_ := (Option.bind_some _ _).symm.trans H; with_reducible exact H2_) | with_reducible exact H | (rw [hy198]; exact H) | exact H
     have Ny198 := Aside0.mk hy198
     clear hy198
     have H' := Aside0.mk H
     clear H
     obtain ⟨hcz50_0, hcz50_1, hcz50_2, hcz50_3, hcz50_4, hcz50_5, hcz50_6, hcz50_7, hcz50_8, hcz50_9⟩ := ten_cells BK160.out
     have hfz50 := ten_free BK160.out
     go_wp2_with (first | ((with_reducible refine gate_dst (N := 81) rfl ?_); refine Kd.R_lit (Kd.int .i64) _ 3 ?hg (N := 81) ?hd (xs := ([a0_1, a0_2, a0_7] : List Int)) (inner := [.int .i64 a0_1, .int .i64 a0_2, .int .i64 a0_7]) (ok := fun _ => True) (okp := fun _ => True) ?hr ?hp (fun _ hk => hk) trivial (Below.refl _ _) (Nat.le_refl _) (by simp) ?_; (case hd => rfl); (case hg => rfl); (case hr => first | (go_simp; done) | (go_simp; rfl)); (case hp => exact (Reps.one (show Kd.M (Kd.int .i64) _ _ _ a0_1 [.int .i64 a0_1] from rfl) (Reps.one (show Kd.M (Kd.int .i64) _ _ _ a0_2 [.int .i64 a0_2] from rfl) (Reps.one (show Kd.M (Kd.int .i64) _ _ _ a0_7 [.int .i64 a0_7] from rfl) (Reps.none _ _))))); intro v196 w51 ho52 hb hg_ hnew_; clear hg_ hnew_; (first | rw [← Ny195.out] at ho52 | (simp only [Int.reduceToNat] at ho52; rw [← Ny195.out] at ho52)); have n0_ := Aside0.mk (Kd.R_elder' (by (with_reducible repeat (first | apply rA | apply rN | apply rZ)); exact HO163.out) (Kd.R_base ho52) hb); have n1_ := Aside0.mk (Kd.R_lower (Kd.R_new' ho52 (Kd.R_lt (by (with_reducible repeat (first | apply rA | apply rN | apply rZ)); exact HO163.out))) (below_size (by repeat (first | (with_reducible first | exact HB.out | apply bA | apply bN | apply bD | refine bS ?_ GE160.out) | exact HB.out)))); have n2_ := Aside0.mk (blk_below (g := gb160) (o := .cells #[.int .i64 a0_0, .int .i64 a0_1, .int .i64 a0_2, .int .i64 a0_3, .int .i64 a0_4, .slice A0_5 l0_5.length c0_5, .slice A0_6 l0_6.length c0_6, .int .i64 a0_7, .slice A0_8 l0_8.length c0_8, .slice A0_9 l0_9.length c0_9] 30 (0, 0)) (by (with_reducible repeat (first | refine kN ?_ _ | refine kZ ?_ | refine kA ?_ _)); exact BK160.out) hb); have n3_ := Aside0.mk (below_step (by repeat (first | (with_reducible first | exact HB.out | apply bA | apply bN | apply bD | refine bS ?_ GE160.out) | exact HB.out)) hb); clear HO163; clear BK160; clear HB; have HO163 := n0_; have HO197 := n1_; have BK160 := n2_; have HB := n3_; clear n0_ n1_ n2_ n3_; clear hb ho52; obtain ⟨Ao54, co54, eo54⟩ := Kd.R_slice HO197.out; subst eo54) | ((with_reducible refine gate_builtin (b := .append) (xs := #[.tmp 74, .tmp 81]) rfl ?_); at_builtin; refine Kd.R_append_rows (Kd.int .i64) (w0 := w) w.heap.size rfl (.tmp 74) (.tmp 81) 25 3 (.int .i64 0) 8 rfl Try.underlying25 info3 rfl (by decide) (by omega) v162 y161 y195 _ _ _ (fun k_ => some k_ ≠ (.slice Ao54 y195.length co54 : Value).ownBlock) (fun _ => False) rfl rfl ?aO ?aR (fun _ _ h => h) (fun _ h => h.elim) ?aF ?aB ?aS ?aL ?_; (case aR => repeat (first | exact (Kd.R_reads' HO197.out).2.2 | (with_reducible refine qA ?_ _) | (with_reducible refine qN ?_ _) | (with_reducible refine qZ ?_))); (case aB => exact (by repeat (first | (with_reducible first | exact HB.out | apply bA | apply bN | apply bD | refine bS ?_ GE160.out) | exact HB.out))); (case aF => exact (fun k_ hk => Kd.fresh' (Kd.R_lt (by (with_reducible repeat (first | apply rA | apply rN | apply rZ)); exact HO197.out)) k_ hk)); (case aO => exact (by (with_reducible repeat (first | apply rA | apply rN | apply rZ)); exact Kd.R_mono HO163.out (fun _ hk => hk.2))); (case aS => exact (below_size (by repeat (first | (with_reducible first | exact HB.out | apply bA | apply bN | apply bD | refine bS ?_ GE160.out) | exact HB.out)))); (case aL => have := LMc49.out; omega); intro v199 w53 ho hb hg hat; rw [← Ny198.out] at ho; have n0_ := Aside0.mk (blk_grown (g := gb160) (o := .cells #[.int .i64 a0_0, .int .i64 a0_1, .int .i64 a0_2, .int .i64 a0_3, .int .i64 a0_4, .slice A0_5 l0_5.length c0_5, .slice A0_6 l0_6.length c0_6, .int .i64 a0_7, .slice A0_8 l0_8.length c0_8, .slice A0_9 l0_9.length c0_9] 30 (0, 0)) (by (with_reducible repeat (first | refine kN ?_ _ | refine kZ ?_ | refine kA ?_ _)); exact BK160.out) hg (Kd.R_ne HO163.out BK160.out (by decide))); have n1_ := Aside0.mk (Kd.R_after (ok := (fun _ => True)) (by (with_reducible repeat (first | apply rA | apply rN | apply rZ)); exact HO197.out) hg hat); have n2_ := Aside0.mk (hb); have n3_ := Aside0.mk (ho); clear BK160; clear HO197; clear HB; clear HO163; have BK160 := n0_; have HO197 := n1_; have HB := n2_; have HO200 := n3_; clear n0_ n1_ n2_ n3_; clear ho hb hg hat))
     go_meet
     case rel => exact ⟨_, (y198), H', ⟨by first | omega | exact Nat.le_refl _⟩, ⟨by (with_reducible repeat (first | apply rA | apply rN | apply rZ)); exact Kd.R_mono HO200.out (fun _ hk => trivial)⟩, ⟨by (with_reducible repeat (first | refine kN ?_ _ | refine kZ ?_ | refine kA ?_ _)); exact BK160.out⟩, ⟨by repeat (first | (with_reducible first | exact HB.out | apply bA | apply bN | apply bD | refine bS ?_ GE160.out) | exact HB.out)⟩⟩
    ·rw [if_neg c49] at H
     exact absurd H (by simp)
   ·rw [if_neg c48] at H
    have c48b0 : (a0_0 == 2) = false := beq_eq_false_iff_ne.mpr c48
    have c48b1 : (a0_0 != 2) = true := bne_iff_ne.mpr c48
    obtain ⟨y201, hy201⟩ : ∃ y_ : List Int, y_ = (([a0_1, a0_2] : List Int)) := ⟨_, rfl⟩
    replace H : (if y161.length + y201.length < 17592186044416 then (record_write.j2 k (y161 ++ y201) a0_0 a0_1 a0_2 a0_3 a0_4 l0_5 l0_6 a0_7 l0_8 l0_9) else (none)) = some r := by first | (rw [hy201]; with_reducible exact H) | (have H2_ := (Option.bind_some _ _).symm.trans H; rw [hy201]; with_reducible exact H2_) | (have H2_ := (Option.bind_some _ _).symm.trans H; with_reducible exact H2_) | with_reducible exact H | (rw [hy201]; exact H) | exact H
    have Ny201 := Aside0.mk hy201
    clear hy201
    by_cases c55 : y161.length + y201.length < 17592186044416
    ·rw [if_pos c55] at H
     have LMc55 := Aside0.mk c55
     clear c55
     obtain ⟨y204, hy204⟩ : ∃ y_ : List Int, y_ = (y161 ++ y201) := ⟨_, rfl⟩
     replace H : (record_write.j2 k y204 a0_0 a0_1 a0_2 a0_3 a0_4 l0_5 l0_6 a0_7 l0_8 l0_9) = some r := by first | (rw [hy204]; with_reducible exact H) | (have H2_ := (Option.bind_some _ _).symm.trans H; rw [hy204]; with_reducible exact H2_) | (have H2_ := (Option.bind_some _ _).symm.trans H; with_reducible exact H2_) | with_reducible exact H | (rw [hy204]; exact H) | exact H
     have Ny204 := Aside0.mk hy204
     clear hy204
     have H' := Aside0.mk H
     clear H
     obtain ⟨hcz56_0, hcz56_1, hcz56_2, hcz56_3, hcz56_4, hcz56_5, hcz56_6, hcz56_7, hcz56_8, hcz56_9⟩ := ten_cells BK160.out
     have hfz56 := ten_free BK160.out
     go_wp2_with (first | ((with_reducible refine gate_dst (N := 20) rfl ?_); refine Kd.R_lit (Kd.int .i64) _ 3 ?hg (N := 20) ?hd (xs := ([a0_1, a0_2] : List Int)) (inner := [.int .i64 a0_1, .int .i64 a0_2]) (ok := fun _ => True) (okp := fun _ => True) ?hr ?hp (fun _ hk => hk) trivial (Below.refl _ _) (Nat.le_refl _) (by simp) ?_; (case hd => rfl); (case hg => rfl); (case hr => first | (go_simp; done) | (go_simp; rfl)); (case hp => exact (Reps.one (show Kd.M (Kd.int .i64) _ _ _ a0_1 [.int .i64 a0_1] from rfl) (Reps.one (show Kd.M (Kd.int .i64) _ _ _ a0_2 [.int .i64 a0_2] from rfl) (Reps.none _ _)))); intro v202 w57 ho58 hb hg_ hnew_; clear hg_ hnew_; (first | rw [← Ny201.out] at ho58 | (simp only [Int.reduceToNat] at ho58; rw [← Ny201.out] at ho58)); have n0_ := Aside0.mk (Kd.R_elder' (by (with_reducible repeat (first | apply rA | apply rN | apply rZ)); exact HO163.out) (Kd.R_base ho58) hb); have n1_ := Aside0.mk (Kd.R_lower (Kd.R_new' ho58 (Kd.R_lt (by (with_reducible repeat (first | apply rA | apply rN | apply rZ)); exact HO163.out))) (below_size (by repeat (first | (with_reducible first | exact HB.out | apply bA | apply bN | apply bD | refine bS ?_ GE160.out) | exact HB.out)))); have n2_ := Aside0.mk (blk_below (g := gb160) (o := .cells #[.int .i64 a0_0, .int .i64 a0_1, .int .i64 a0_2, .int .i64 a0_3, .int .i64 a0_4, .slice A0_5 l0_5.length c0_5, .slice A0_6 l0_6.length c0_6, .int .i64 a0_7, .slice A0_8 l0_8.length c0_8, .slice A0_9 l0_9.length c0_9] 30 (0, 0)) (by (with_reducible repeat (first | refine kN ?_ _ | refine kZ ?_ | refine kA ?_ _)); exact BK160.out) hb); have n3_ := Aside0.mk (below_step (by repeat (first | (with_reducible first | exact HB.out | apply bA | apply bN | apply bD | refine bS ?_ GE160.out) | exact HB.out)) hb); clear HO163; clear BK160; clear HB; have HO163 := n0_; have HO203 := n1_; have BK160 := n2_; have HB := n3_; clear n0_ n1_ n2_ n3_; clear hb ho58; obtain ⟨Ao60, co60, eo60⟩ := Kd.R_slice HO203.out; subst eo60) | ((with_reducible refine gate_builtin (b := .append) (xs := #[.tmp 15, .tmp 20]) rfl ?_); at_builtin; refine Kd.R_append_rows (Kd.int .i64) (w0 := w) w.heap.size rfl (.tmp 15) (.tmp 20) 25 3 (.int .i64 0) 8 rfl Try.underlying25 info3 rfl (by decide) (by omega) v162 y161 y201 _ _ _ (fun k_ => some k_ ≠ (.slice Ao60 y201.length co60 : Value).ownBlock) (fun _ => False) rfl rfl ?aO ?aR (fun _ _ h => h) (fun _ h => h.elim) ?aF ?aB ?aS ?aL ?_; (case aR => repeat (first | exact (Kd.R_reads' HO203.out).2.2 | (with_reducible refine qA ?_ _) | (with_reducible refine qN ?_ _) | (with_reducible refine qZ ?_))); (case aB => exact (by repeat (first | (with_reducible first | exact HB.out | apply bA | apply bN | apply bD | refine bS ?_ GE160.out) | exact HB.out))); (case aF => exact (fun k_ hk => Kd.fresh' (Kd.R_lt (by (with_reducible repeat (first | apply rA | apply rN | apply rZ)); exact HO203.out)) k_ hk)); (case aO => exact (by (with_reducible repeat (first | apply rA | apply rN | apply rZ)); exact Kd.R_mono HO163.out (fun _ hk => hk.2))); (case aS => exact (below_size (by repeat (first | (with_reducible first | exact HB.out | apply bA | apply bN | apply bD | refine bS ?_ GE160.out) | exact HB.out)))); (case aL => have := LMc55.out; omega); intro v205 w59 ho hb hg hat; rw [← Ny204.out] at ho; have n0_ := Aside0.mk (blk_grown (g := gb160) (o := .cells #[.int .i64 a0_0, .int .i64 a0_1, .int .i64 a0_2, .int .i64 a0_3, .int .i64 a0_4, .slice A0_5 l0_5.length c0_5, .slice A0_6 l0_6.length c0_6, .int .i64 a0_7, .slice A0_8 l0_8.length c0_8, .slice A0_9 l0_9.length c0_9] 30 (0, 0)) (by (with_reducible repeat (first | refine kN ?_ _ | refine kZ ?_ | refine kA ?_ _)); exact BK160.out) hg (Kd.R_ne HO163.out BK160.out (by decide))); have n1_ := Aside0.mk (Kd.R_after (ok := (fun _ => True)) (by (with_reducible repeat (first | apply rA | apply rN | apply rZ)); exact HO203.out) hg hat); have n2_ := Aside0.mk (hb); have n3_ := Aside0.mk (ho); clear BK160; clear HO203; clear HB; clear HO163; have BK160 := n0_; have HO203 := n1_; have HB := n2_; have HO206 := n3_; clear n0_ n1_ n2_ n3_; clear ho hb hg hat))
     go_meet
     case rel => exact ⟨_, (y204), H', ⟨by first | omega | exact Nat.le_refl _⟩, ⟨by (with_reducible repeat (first | apply rA | apply rN | apply rZ)); exact Kd.R_mono HO206.out (fun _ hk => trivial)⟩, ⟨by (with_reducible repeat (first | refine kN ?_ _ | refine kZ ?_ | refine kA ?_ _)); exact BK160.out⟩, ⟨by repeat (first | (with_reducible first | exact HB.out | apply bA | apply bN | apply bD | refine bS ?_ GE160.out) | exact HB.out)⟩⟩
    ·rw [if_neg c55] at H
     exact absurd H (by simp)
 case rest =>
  clear HC2
  try clear c1
  try clear p1
  try clear q1
  try clear hx1
  try clear c2
  try clear p2
  try clear c3
  try clear c4
  try clear c5
  try clear p6
  try clear c8
  try clear c8b0
  try clear c8b1
  try clear c9
  try clear c16
  try clear c16b0
  try clear c17
  try clear c17b0
  try clear p17
  try clear q17
  try clear hx17
  try clear c18
  try clear c18b0
  try clear p18
  try clear q18
  try clear hx18
  try clear c19
  try clear c21
  try clear c27
  try clear c30
  try clear c34
  try clear c34b0
  try clear c35
  try clear c35b0
  try clear c36
  try clear c36b0
  try clear c37
  try clear c39
  try clear c43
  try clear c48
  try clear c48b0
  try clear c48b1
  try clear c49
  try clear c55
  try clear hcz10_0 hcz10_1 hcz10_2 hcz10_3 hcz10_4 hcz10_5 hcz10_6 hcz10_7 hcz10_8 hcz10_9
  try clear hcz15_0 hcz15_1 hcz15_2 hcz15_3 hcz15_4 hcz15_5 hcz15_6 hcz15_7 hcz15_8 hcz15_9
  try clear hcz22_0
  try clear hcz22_1
  try clear hcz28_0 hcz28_1 hcz28_2 hcz28_3 hcz28_4 hcz28_5 hcz28_6 hcz28_7 hcz28_8 hcz28_9
  try clear hcz33_0 hcz33_1 hcz33_2 hcz33_3 hcz33_4 hcz33_5 hcz33_6 hcz33_7 hcz33_8 hcz33_9
  try clear hcz40_0
  try clear hcz40_1
  try clear hcz40_2
  try clear hcz40_3
  try clear hcz4_0 hcz4_1 hcz4_2 hcz4_3 hcz4_4 hcz4_5 hcz4_6 hcz4_7 hcz4_8 hcz4_9
  try clear hcz50_0 hcz50_1 hcz50_2 hcz50_3 hcz50_4 hcz50_5 hcz50_6 hcz50_7 hcz50_8 hcz50_9
  try clear hcz56_0 hcz56_1 hcz56_2 hcz56_3 hcz56_4 hcz56_5 hcz56_6 hcz56_7 hcz56_8 hcz56_9
  try clear hcz7_0 hcz7_1 hcz7_2 hcz7_3 hcz7_4 hcz7_5 hcz7_6 hcz7_7 hcz7_8 hcz7_9
  try clear hfz10
  try clear hfz15
  try clear hfz22_0
  try clear hfz22_1
  try clear hfz28
  try clear hfz33
  try clear hfz40_0
  try clear hfz40_1
  try clear hfz40_2
  try clear hfz40_3
  try clear hfz4
  try clear hfz50
  try clear hfz56
  try clear hfz7
  try clear hx170_0
  try clear hx170_1
  try clear hx184_0
  try clear hx184_1
  try clear hx184_2
  try clear hx184_3
  try clear p1
  try clear p17
  try clear p170
  try clear p184
  try clear p2
  try clear p6
  try clear q1
  try clear q17
  try clear q170
  try clear q184
  obtain ⟨kq, x3_1, HA, HJ1, HO_3, BK160, HB⟩ := hcut
  cases kq with
  | zero => exact absurd HA.out (by simp [record_write.j2])
  | succ kj1 =>
   have H := HA.out
   clear HA
   simp only [record_write.j2] at H
   have HC61 := Aside0.mk H
   clear H
   go_upto_region 20 with (fail)
   go_cut [90] (fun v90 wc => ∃ (kq : Nat) (x90_60 : Bool), v90 = .bool x90_60 ∧ Aside0 (record_write.j3 kq x3_1 x90_60 a0_0 a0_1 a0_2 a0_3 a0_4 l0_5 l0_6 a0_7 l0_8 l0_9 = some r) ∧ Aside0 (kq ≤ kj1) ∧ Aside0 (Kd.R (Kd.int .i64) 3 wc w.heap.size (fun _ => True) u3 x3_1) ∧ Aside0 (wc.heap[gb160]? = some (.cells #[.int .i64 a0_0, .int .i64 a0_1, .int .i64 a0_2, .int .i64 a0_3, .int .i64 a0_4, (.slice A0_5 l0_5.length c0_5), (.slice A0_6 l0_6.length c0_6), .int .i64 a0_7, (.slice A0_8 l0_8.length c0_8), (.slice A0_9 l0_9.length c0_9)] 30 (0, 0))) ∧ Aside0 (Below w.heap.size w wc))
   case first =>
    have H := HC61.out
    clear HC61
    by_cases c62 : a0_0 = 1
    ·rw [if_pos c62] at H
     have c62b0 : (a0_0 == 1) = true := beq_iff_eq.mpr c62
     have c62b1 : (a0_0 != 1) = false := bne_eq_false_iff_eq.mpr c62
     clear c62
     (first | rw [c62b0] | (simp only [i64_w, i32_w]; rw [c62b0]) | skip)
     have H' := Aside0.mk H
     clear H
     obtain ⟨hcz63_0, hcz63_1, hcz63_2, hcz63_3, hcz63_4, hcz63_5, hcz63_6, hcz63_7, hcz63_8, hcz63_9⟩ := ten_cells BK160.out
     have hfz63 := ten_free BK160.out
     go_wp2
     go_meet
     case rel => exact ⟨_, (true), (by first | rfl | (simp; done) | (simp [*]; done)), H', ⟨by have := HJ1.out; first | omega | exact Nat.le_refl _⟩, ⟨by (with_reducible repeat (first | apply rA | apply rN | apply rZ)); exact HO_3.out⟩, ⟨by (with_reducible repeat (first | refine kN ?_ _ | refine kZ ?_ | refine kA ?_ _)); exact BK160.out⟩, ⟨by repeat (first | (with_reducible first | exact HB.out | apply bA | apply bN | apply bD | refine bS ?_ GE160.out) | exact HB.out)⟩⟩
    ·rw [if_neg c62] at H
     have c62b0 : (a0_0 == 1) = false := beq_eq_false_iff_ne.mpr c62
     have c62b1 : (a0_0 != 1) = true := bne_iff_ne.mpr c62
     (first | rw [c62b0] | (simp only [i64_w, i32_w]; rw [c62b0]) | skip)
     have H' := Aside0.mk H
     clear H
     obtain ⟨hcz64_0, hcz64_1, hcz64_2, hcz64_3, hcz64_4, hcz64_5, hcz64_6, hcz64_7, hcz64_8, hcz64_9⟩ := ten_cells BK160.out
     have hfz64 := ten_free BK160.out
     go_wp2
     go_meet
     case rel => exact ⟨_, ((a0_0 == 2)), (by first | rfl | (simp; done) | (simp [*]; done)), H', ⟨by have := HJ1.out; first | omega | exact Nat.le_refl _⟩, ⟨by (with_reducible repeat (first | apply rA | apply rN | apply rZ)); exact HO_3.out⟩, ⟨by (with_reducible repeat (first | refine kN ?_ _ | refine kZ ?_ | refine kA ?_ _)); exact BK160.out⟩, ⟨by repeat (first | (with_reducible first | exact HB.out | apply bA | apply bN | apply bD | refine bS ?_ GE160.out) | exact HB.out)⟩⟩
   case rest =>
    clear HC61
    try clear c1
    try clear p1
    try clear q1
    try clear hx1
    try clear c2
    try clear p2
    try clear c3
    try clear c4
    try clear c5
    try clear c6
    try clear p6
    try clear c8
    try clear c8b0
    try clear c8b1
    try clear c9
    try clear c16
    try clear c16b0
    try clear c17
    try clear c17b0
    try clear p17
    try clear q17
    try clear hx17
    try clear c18
    try clear c18b0
    try clear p18
    try clear q18
    try clear hx18
    try clear c19
    try clear c21
    try clear c27
    try clear c30
    try clear c34
    try clear c34b0
    try clear c35
    try clear c35b0
    try clear c36
    try clear c36b0
    try clear c37
    try clear c39
    try clear c43
    try clear c48
    try clear c48b0
    try clear c48b1
    try clear c49
    try clear c55
    try clear c62
    try clear c62b0
    try clear c62b1
    try clear p64
    try clear hcz10_0 hcz10_1 hcz10_2 hcz10_3 hcz10_4 hcz10_5 hcz10_6 hcz10_7 hcz10_8 hcz10_9
    try clear hcz15_0 hcz15_1 hcz15_2 hcz15_3 hcz15_4 hcz15_5 hcz15_6 hcz15_7 hcz15_8 hcz15_9
    try clear hcz22_0
    try clear hcz22_1
    try clear hcz28_0 hcz28_1 hcz28_2 hcz28_3 hcz28_4 hcz28_5 hcz28_6 hcz28_7 hcz28_8 hcz28_9
    try clear hcz33_0 hcz33_1 hcz33_2 hcz33_3 hcz33_4 hcz33_5 hcz33_6 hcz33_7 hcz33_8 hcz33_9
    try clear hcz40_0
    try clear hcz40_1
    try clear hcz40_2
    try clear hcz40_3
    try clear hcz4_0 hcz4_1 hcz4_2 hcz4_3 hcz4_4 hcz4_5 hcz4_6 hcz4_7 hcz4_8 hcz4_9
    try clear hcz50_0 hcz50_1 hcz50_2 hcz50_3 hcz50_4 hcz50_5 hcz50_6 hcz50_7 hcz50_8 hcz50_9
    try clear hcz56_0 hcz56_1 hcz56_2 hcz56_3 hcz56_4 hcz56_5 hcz56_6 hcz56_7 hcz56_8 hcz56_9
    try clear hcz63_0 hcz63_1 hcz63_2 hcz63_3 hcz63_4 hcz63_5 hcz63_6 hcz63_7 hcz63_8 hcz63_9
    try clear hcz64_0 hcz64_1 hcz64_2 hcz64_3 hcz64_4 hcz64_5 hcz64_6 hcz64_7 hcz64_8 hcz64_9
    try clear hcz7_0 hcz7_1 hcz7_2 hcz7_3 hcz7_4 hcz7_5 hcz7_6 hcz7_7 hcz7_8 hcz7_9
    try clear hfz10
    try clear hfz15
    try clear hfz22_0
    try clear hfz22_1
    try clear hfz28
    try clear hfz33
    try clear hfz40_0
    try clear hfz40_1
    try clear hfz40_2
    try clear hfz40_3
    try clear hfz4
    try clear hfz50
    try clear hfz56
    try clear hfz63
    try clear hfz64
    try clear hfz7
    try clear hx170_0
    try clear hx170_1
    try clear hx184_0
    try clear hx184_1
    try clear hx184_2
    try clear hx184_3
    try clear p1
    try clear p17
    try clear p170
    try clear p18
    try clear p184
    try clear p2
    try clear p6
    try clear q1
    try clear q17
    try clear q170
    try clear q18
    try clear q184
    obtain ⟨kq, x90_60, rfl, HA, HJ60, HO_3, BK160, HB⟩ := hcut
    cases kq with
    | zero => exact absurd HA.out (by simp [record_write.j3])
    | succ kj60 =>
     have H := HA.out
     clear HA
     simp only [record_write.j3] at H
     by_cases c65 : x90_60 = true
     ·subst c65
      have H1 : ((some (([a0_3, a0_4, (l0_5.length : Int)] : List Int) : List Int)).bind fun y207 => (if x3_1.length + y207.length < 17592186044416 then ((some (x3_1 ++ y207 : List Int)).bind fun y210 => (if y210.length + l0_5.length < 17592186044416 then ((some (y210 ++ l0_5 : List Int)).bind fun y213 => ((some (([(l0_6.length : Int)] : List Int) : List Int)).bind fun y216 => (if y213.length + y216.length < 17592186044416 then (record_write.l2 kj60 (y213 ++ y216) l0_6 (l0_6.length : Int) 0) else (none)))) else (none))) else (none))) = some r := by rw [if_pos rfl] at H; exact H
      clear H
      have H := H1
      clear H1
      obtain ⟨y207, hy207⟩ : ∃ y_ : List Int, y_ = (([a0_3, a0_4, (l0_5.length : Int)] : List Int)) := ⟨_, rfl⟩
      replace H : (if x3_1.length + y207.length < 17592186044416 then ((some (x3_1 ++ y207 : List Int)).bind fun y210 => (if y210.length + l0_5.length < 17592186044416 then ((some (y210 ++ l0_5 : List Int)).bind fun y213 => ((some (([(l0_6.length : Int)] : List Int) : List Int)).bind fun y216 => (if y213.length + y216.length < 17592186044416 then (record_write.l2 kj60 (y213 ++ y216) l0_6 (l0_6.length : Int) 0) else (none)))) else (none))) else (none)) = some r := by first | (rw [hy207]; with_reducible exact H) | (have H2_ := (Option.bind_some _ _).symm.trans H; rw [hy207]; with_reducible exact H2_) | (have H2_ := (Option.bind_some _ _).symm.trans H; with_reducible exact H2_) | with_reducible exact H | (rw [hy207]; exact H) | exact H
      have Ny207 := Aside0.mk hy207
      clear hy207
      by_cases c66 : x3_1.length + y207.length < 17592186044416
      ·rw [if_pos c66] at H
       have LMc66 := Aside0.mk c66
       clear c66
       obtain ⟨y210, hy210⟩ : ∃ y_ : List Int, y_ = (x3_1 ++ y207) := ⟨_, rfl⟩
       replace H : (if y210.length + l0_5.length < 17592186044416 then ((some (y210 ++ l0_5 : List Int)).bind fun y213 => ((some (([(l0_6.length : Int)] : List Int) : List Int)).bind fun y216 => (if y213.length + y216.length < 17592186044416 then (record_write.l2 kj60 (y213 ++ y216) l0_6 (l0_6.length : Int) 0) else (none)))) else (none)) = some r := by first | (rw [hy210]; with_reducible exact H) | (have H2_ := (Option.bind_some _ _).symm.trans H; rw [hy210]; with_reducible exact H2_) | (have H2_ := (Option.bind_some _ _).symm.trans H; with_reducible exact H2_) | with_reducible exact H | (rw [hy210]; exact H) | exact H
       have Ny210 := Aside0.mk hy210
       clear hy210
       by_cases c67 : y210.length + l0_5.length < 17592186044416
       ·rw [if_pos c67] at H
        have LMc67 := Aside0.mk c67
        clear c67
        obtain ⟨y213, hy213⟩ : ∃ y_ : List Int, y_ = (y210 ++ l0_5) := ⟨_, rfl⟩
        replace H : ((some (([(l0_6.length : Int)] : List Int) : List Int)).bind fun y216 => (if y213.length + y216.length < 17592186044416 then (record_write.l2 kj60 (y213 ++ y216) l0_6 (l0_6.length : Int) 0) else (none))) = some r := by first | (rw [hy213]; with_reducible exact H) | (have H2_ := (Option.bind_some _ _).symm.trans H; rw [hy213]; with_reducible exact H2_) | (have H2_ := (Option.bind_some _ _).symm.trans H; with_reducible exact H2_) | with_reducible exact H | (rw [hy213]; exact H) | exact H
        have Ny213 := Aside0.mk hy213
        clear hy213
        obtain ⟨y216, hy216⟩ : ∃ y_ : List Int, y_ = (([(l0_6.length : Int)] : List Int)) := ⟨_, rfl⟩
        replace H : (if y213.length + y216.length < 17592186044416 then (record_write.l2 kj60 (y213 ++ y216) l0_6 (l0_6.length : Int) 0) else (none)) = some r := by first | (rw [hy216]; with_reducible exact H) | (have H2_ := (Option.bind_some _ _).symm.trans H; rw [hy216]; with_reducible exact H2_) | (have H2_ := (Option.bind_some _ _).symm.trans H; with_reducible exact H2_) | with_reducible exact H | (rw [hy216]; exact H) | exact H
        have Ny216 := Aside0.mk hy216
        clear hy216
        by_cases c68 : y213.length + y216.length < 17592186044416
        ·rw [if_pos c68] at H
         have LMc68 := Aside0.mk c68
         clear c68
         obtain ⟨y219, hy219⟩ : ∃ y_ : List Int, y_ = (y213 ++ y216) := ⟨_, rfl⟩
         replace H : (record_write.l2 kj60 y219 l0_6 (l0_6.length : Int) 0) = some r := by first | (rw [hy219]; with_reducible exact H) | (have H2_ := (Option.bind_some _ _).symm.trans H; rw [hy219]; with_reducible exact H2_) | (have H2_ := (Option.bind_some _ _).symm.trans H; with_reducible exact H2_) | with_reducible exact H | (rw [hy219]; exact H) | exact H
         have Ny219 := Aside0.mk hy219
         clear hy219
         have H' := Aside0.mk H
         clear H
         obtain ⟨hcz69_0, hcz69_1, hcz69_2, hcz69_3, hcz69_4, hcz69_5, hcz69_6, hcz69_7, hcz69_8, hcz69_9⟩ := ten_cells BK160.out
         have hfz69 := ten_free BK160.out
         try go_wp2_with (first | ((with_reducible refine gate_dst (N := 99) rfl ?_); refine Kd.R_lit (Kd.int .i64) _ 3 ?hg (N := 99) ?hd (xs := ([a0_3, a0_4, (l0_5.length : Int)] : List Int)) (inner := [.int .i64 a0_3, .int .i64 a0_4, .int .i64 (l0_5.length : Int)]) (ok := fun _ => True) (okp := fun _ => True) ?hr ?hp (fun _ hk => hk) trivial (Below.refl _ _) (Nat.le_refl _) (by simp) ?_; (case hd => rfl); (case hg => rfl); (case hr => first | (go_simp; done) | (go_simp; rfl)); (case hp => exact (Reps.one (show Kd.M (Kd.int .i64) _ _ _ a0_3 [.int .i64 a0_3] from rfl) (Reps.one (show Kd.M (Kd.int .i64) _ _ _ a0_4 [.int .i64 a0_4] from rfl) (Reps.one (show Kd.M (Kd.int .i64) _ _ _ (l0_5.length : Int) [.int .i64 (l0_5.length : Int)] from rfl) (Reps.none _ _))))); intro v208 w70 ho71 hb hg_ hnew_; clear hg_ hnew_; (first | rw [← Ny207.out] at ho71 | (simp only [Int.reduceToNat] at ho71; rw [← Ny207.out] at ho71)); have n0_ := Aside0.mk (Kd.R_elder' (by (with_reducible repeat (first | apply rA | apply rN | apply rZ)); exact HO_3.out) (Kd.R_base ho71) hb); have n1_ := Aside0.mk (Kd.R_lower (Kd.R_new' ho71 (Kd.R_lt (by (with_reducible repeat (first | apply rA | apply rN | apply rZ)); exact HO_3.out))) (below_size (by repeat (first | (with_reducible first | exact HB.out | apply bA | apply bN | apply bD | refine bS ?_ GE160.out) | exact HB.out)))); have n2_ := Aside0.mk (blk_below (g := gb160) (o := .cells #[.int .i64 a0_0, .int .i64 a0_1, .int .i64 a0_2, .int .i64 a0_3, .int .i64 a0_4, .slice A0_5 l0_5.length c0_5, .slice A0_6 l0_6.length c0_6, .int .i64 a0_7, .slice A0_8 l0_8.length c0_8, .slice A0_9 l0_9.length c0_9] 30 (0, 0)) (by (with_reducible repeat (first | refine kN ?_ _ | refine kZ ?_ | refine kA ?_ _)); exact BK160.out) hb); have n3_ := Aside0.mk (below_step (by repeat (first | (with_reducible first | exact HB.out | apply bA | apply bN | apply bD | refine bS ?_ GE160.out) | exact HB.out)) hb); clear HO_3; clear BK160; clear HB; have HO_3 := n0_; have HO209 := n1_; have BK160 := n2_; have HB := n3_; clear n0_ n1_ n2_ n3_; clear hb ho71; obtain ⟨Ao73, co73, eo73⟩ := Kd.R_slice HO209.out; subst eo73) | ((with_reducible refine gate_builtin (b := .append) (xs := #[.tmp 91, .tmp 99]) rfl ?_); at_builtin; refine Kd.R_append_rows (Kd.int .i64) (w0 := w) w.heap.size rfl (.tmp 91) (.tmp 99) 25 3 (.int .i64 0) 8 rfl Try.underlying25 info3 rfl (by decide) (by omega) u3 x3_1 y207 _ _ _ (fun k_ => some k_ ≠ (.slice Ao73 y207.length co73 : Value).ownBlock) (fun _ => False) rfl rfl ?aO ?aR (fun _ _ h => h) (fun _ h => h.elim) ?aF ?aB ?aS ?aL ?_; (case aR => repeat (first | exact (Kd.R_reads' HO209.out).2.2 | (with_reducible refine qA ?_ _) | (with_reducible refine qN ?_ _) | (with_reducible refine qZ ?_))); (case aB => exact (by repeat (first | (with_reducible first | exact HB.out | apply bA | apply bN | apply bD | refine bS ?_ GE160.out) | exact HB.out))); (case aF => exact (fun k_ hk => Kd.fresh' (Kd.R_lt (by (with_reducible repeat (first | apply rA | apply rN | apply rZ)); exact HO209.out)) k_ hk)); (case aO => exact (by (with_reducible repeat (first | apply rA | apply rN | apply rZ)); exact Kd.R_mono HO_3.out (fun _ hk => hk.2))); (case aS => exact (below_size (by repeat (first | (with_reducible first | exact HB.out | apply bA | apply bN | apply bD | refine bS ?_ GE160.out) | exact HB.out)))); (case aL => have := LMc66.out; omega); intro v211 w72 ho hb hg hat; rw [← Ny210.out] at ho; have n0_ := Aside0.mk (blk_grown (g := gb160) (o := .cells #[.int .i64 a0_0, .int .i64 a0_1, .int .i64 a0_2, .int .i64 a0_3, .int .i64 a0_4, .slice A0_5 l0_5.length c0_5, .slice A0_6 l0_6.length c0_6, .int .i64 a0_7, .slice A0_8 l0_8.length c0_8, .slice A0_9 l0_9.length c0_9] 30 (0, 0)) (by (with_reducible repeat (first | refine kN ?_ _ | refine kZ ?_ | refine kA ?_ _)); exact BK160.out) hg (Kd.R_ne HO_3.out BK160.out (by decide))); have n1_ := Aside0.mk (Kd.R_after (ok := (fun _ => True)) (by (with_reducible repeat (first | apply rA | apply rN | apply rZ)); exact HO209.out) hg hat); have n2_ := Aside0.mk (hb); have n3_ := Aside0.mk (ho); clear BK160; clear HO209; clear HB; clear HO_3; have BK160 := n0_; have HO209 := n1_; have HB := n2_; have HO212 := n3_; clear n0_ n1_ n2_ n3_; clear ho hb hg hat; obtain ⟨Ao74, co74, eo74⟩ := Kd.R_slice HO212.out; subst eo74))
         have n0_ := Aside0.mk (rZ HO209.out)
         have n1_ := Aside0.mk (rZ HO212.out)
         have n2_ := Aside0.mk (kZ BK160.out)
         have n3_ := Aside0.mk (bD HB.out)
         clear HO209
         clear HO212
         clear BK160
         clear HB
         have HO209 := n0_
         have HO212 := n1_
         have BK160 := n2_
         have HB := n3_
         clear n0_ n1_ n2_ n3_
         refine start_ (n := 10) (S := fun w' => w'.cell? ⟨gb160, 0, none⟩ = some (.int .i64 a0_0) ∧ w'.cell? ⟨gb160, 1, none⟩ = some (.int .i64 a0_1) ∧ w'.cell? ⟨gb160, 2, none⟩ = some (.int .i64 a0_2) ∧ w'.cell? ⟨gb160, 3, none⟩ = some (.int .i64 a0_3) ∧ w'.cell? ⟨gb160, 4, none⟩ = some (.int .i64 a0_4) ∧ w'.cell? ⟨gb160, 5, none⟩ = some (.slice A0_5 l0_5.length c0_5) ∧ w'.cell? ⟨gb160, 6, none⟩ = some (.slice A0_6 l0_6.length c0_6) ∧ w'.cell? ⟨gb160, 7, none⟩ = some (.int .i64 a0_7) ∧ w'.cell? ⟨gb160, 8, none⟩ = some (.slice A0_8 l0_8.length c0_8) ∧ w'.cell? ⟨gb160, 9, none⟩ = some (.slice A0_9 l0_9.length c0_9)) (ds := []) #[false, false, false, false, false, false, false, false, false, false] (by kernel_rfl) rfl rfl (ten_cells BK160.out) (fun hHeld => ?_); refine with_tabW record_write.tab22 record_write.bits22 (fun HT_ HW_ => ?_)
         generalize w72.drew = w75 at HO209 HO212 BK160 HB hHeld ⊢
         refine pure_ (i := 0) (N := some 101) (v := ?_) (a' := ?_) #[true, false, false, false, false, false, false, false, false, false] rfl rfl (any_of HT_.out (by kernel_rfl)) (fun _ _ _ h => h) (Or.inl ⟨by rfl, ?_⟩) ?_ ?_
         rotate_left
         ·intro w'
          go_simp
          with_reducible rfl
         rotate_left
         ·simp only [Act.put, List.setIfInBounds_toArray, List.set_cons_zero, List.set_cons_succ, i64_w, i32_w]
          rfl
         refine pure_ (i := 1) (N := some 102) (v := ?_) (a' := ?_) #[true, true, false, false, false, false, false, false, false, false] rfl rfl (any_of HT_.out (by kernel_rfl)) (fun _ _ _ h => h) (Or.inl ⟨by rfl, ?_⟩) ?_ ?_
         rotate_left
         ·intro w'
          go_simp
          with_reducible rfl
         rotate_left
         ·simp only [Act.put, List.setIfInBounds_toArray, List.set_cons_zero, List.set_cons_succ, i64_w, i32_w]
          rfl
         refine pure_ (i := 4) (N := some 105) (v := ?_) (a' := ?_) #[true, true, false, false, true, false, false, false, false, false] rfl rfl (any_of HT_.out (by kernel_rfl)) (fun _ _ _ h => h) (Or.inl ⟨by rfl, ?_⟩) ?_ ?_
         rotate_left
         ·intro w'
          go_simp
          with_reducible rfl
         rotate_left
         ·simp only [Act.put, List.setIfInBounds_toArray, List.set_cons_zero, List.set_cons_succ, i64_w, i32_w]
          rfl
         refine take_ (i := 2) (N := some 103) (v := ?_) (a' := ?_) #[true, true, true, false, true, false, false, false, false, false] rfl rfl (take_ofW HT_.out HW_.out (by kernel_rfl)) (fun _ _ _ h => h) (Or.inl ⟨by rfl, ?_⟩) hHeld ?_ ?_
         rotate_left
         ·rintro w' ⟨s0, s1, s2, s3, s4, s5, s6, s7, s8, s9⟩
          go_simp
          with_reducible rfl
         rotate_left
         ·simp only [Act.put, List.setIfInBounds_toArray, List.set_cons_zero, List.set_cons_succ, i64_w, i32_w]
          rfl
         refine take_ (i := 5) (N := some 106) (v := ?_) (a' := ?_) #[true, true, true, false, true, true, false, false, false, false] rfl rfl (take_ofW HT_.out HW_.out (by kernel_rfl)) (fun _ _ _ h => h) (Or.inl ⟨by rfl, ?_⟩) hHeld ?_ ?_
         rotate_left
         ·rintro w' ⟨s0, s1, s2, s3, s4, s5, s6, s7, s8, s9⟩
          go_simp
          with_reducible rfl
         rotate_left
         ·simp only [Act.put, List.setIfInBounds_toArray, List.set_cons_zero, List.set_cons_succ, i64_w, i32_w]
          rfl
         refine pure_ (i := 6) (N := some 107) (v := ?_) (a' := ?_) #[true, true, true, false, true, true, true, false, false, false] rfl rfl (any_of HT_.out (by kernel_rfl)) (fun _ _ _ h => h) (Or.inl ⟨by rfl, ?_⟩) ?_ ?_
         rotate_left
         ·intro w'
          go_simp
          with_reducible rfl
         rotate_left
         ·simp only [Act.put, List.setIfInBounds_toArray, List.set_cons_zero, List.set_cons_succ, i64_w, i32_w]
          rfl
         refine join_ (σ := Value × Value) 2 #[true, true, true, true, true, true, true, true, false, false] (fun s_ => [(104, s_.1), (108, s_.2)]) (fun s_ w' => (w'.cell? ⟨gb160, 0, none⟩ = some (.int .i64 a0_0) ∧ w'.cell? ⟨gb160, 1, none⟩ = some (.int .i64 a0_1) ∧ w'.cell? ⟨gb160, 2, none⟩ = some (.int .i64 a0_2) ∧ w'.cell? ⟨gb160, 3, none⟩ = some (.int .i64 a0_3) ∧ w'.cell? ⟨gb160, 4, none⟩ = some (.int .i64 a0_4) ∧ w'.cell? ⟨gb160, 5, none⟩ = some (.slice A0_5 l0_5.length c0_5) ∧ w'.cell? ⟨gb160, 6, none⟩ = some (.slice A0_6 l0_6.length c0_6) ∧ w'.cell? ⟨gb160, 7, none⟩ = some (.int .i64 a0_7) ∧ w'.cell? ⟨gb160, 8, none⟩ = some (.slice A0_8 l0_8.length c0_8) ∧ w'.cell? ⟨gb160, 9, none⟩ = some (.slice A0_9 l0_9.length c0_9)) ∧ (Kd.R (Kd.int .i64) 3 w' w.heap.size (fun k_ => some k_ ≠ (s_.1 : Value).ownBlock ∧ some k_ ≠ (s_.2 : Value).ownBlock) (.slice Ao73 y207.length co73) y207) ∧ (Kd.R (Kd.int .i64) 3 w' w.heap.size (fun k_ => some k_ ≠ (.slice Ao73 y207.length co73 : Value).ownBlock ∧ some k_ ≠ (s_.2 : Value).ownBlock) s_.1 y213) ∧ (Kd.R (Kd.int .i64) 3 w' w.heap.size (fun k_ => some k_ ≠ (.slice Ao73 y207.length co73 : Value).ownBlock ∧ some k_ ≠ (s_.1 : Value).ownBlock) s_.2 y216) ∧ (w'.heap[gb160]? = some (.cells #[.int .i64 a0_0, .int .i64 a0_1, .int .i64 a0_2, .int .i64 a0_3, .int .i64 a0_4, .slice A0_5 l0_5.length c0_5, .slice A0_6 l0_6.length c0_6, .int .i64 a0_7, .slice A0_8 l0_8.length c0_8, .slice A0_9 l0_9.length c0_9] 30 (0, 0))) ∧ (Below w.heap.size w w')) ?_ ?_
         rotate_left
         ·intro hCont
          refine two_ (i := 3) (j := 7) (Ni := some 104) (Nj := some 108) #[true, true, true, true, true, true, true, false, false, false] #[true, true, true, false, true, true, true, true, false, false] rfl rfl rfl rfl (two_of HT_.out (by kernel_rfl)) (by decide) (by decide) (fun K hK => ?_) (fun K hK => ?_)
          ·skip
           refine Kd.R_append_rows_step (Kd.int .i64) (w0 := w) w.heap.size (by rfl) (.tmp 101) (.tmp 103) 25 3 (.int .i64 0) 8 rfl Try.underlying25 info3 rfl (by decide) (by omega) (.slice Ao74 y210.length co74) y210 l0_5 _ _ _ (fun k_ => some k_ ≠ (.slice Ao73 y207.length co73 : Value).ownBlock) (fun _ => False) rfl rfl ?aO ?aR (fun _ _ h => h) (fun _ h => h.elim) ?aF ?aB ?aS ?aL ?_
           (case aR => repeat (first | exact (Kd.C_below HR0_5.out HB.out) | (with_reducible refine qA ?_ _) | (with_reducible refine qN ?_ _) | (with_reducible refine qZ ?_)))
           (case aB => exact (by repeat (first | (with_reducible first | exact HB.out | apply bA | apply bN | apply bD | refine bS ?_ GE160.out) | exact HB.out)))
           (case aF => exact (fun k_ hk => Kd.fresh' (Kd.R_lt (by (with_reducible repeat (first | apply rA | apply rN | apply rZ)); exact HO209.out)) k_ hk))
           (case aO => exact (by (with_reducible repeat (first | apply rA | apply rN | apply rZ)); exact HO212.out))
           (case aS => exact (below_size (by repeat (first | (with_reducible first | exact HB.out | apply bA | apply bN | apply bD | refine bS ?_ GE160.out) | exact HB.out))))
           (case aL => have := LMc67.out; omega)
           intro v214 w76 ho hb hg hat
           rw [← Ny213.out] at ho
           have n0_ := Aside0.mk (blk_grown (g := gb160) (o := .cells #[.int .i64 a0_0, .int .i64 a0_1, .int .i64 a0_2, .int .i64 a0_3, .int .i64 a0_4, .slice A0_5 l0_5.length c0_5, .slice A0_6 l0_6.length c0_6, .int .i64 a0_7, .slice A0_8 l0_8.length c0_8, .slice A0_9 l0_9.length c0_9] 30 (0, 0)) (by (with_reducible repeat (first | refine kN ?_ _ | refine kZ ?_ | refine kA ?_ _)); exact BK160.out) hg (Kd.R_ne HO212.out BK160.out (by decide)))
           have n1_ := Aside0.mk (Kd.R_after (ok := (fun _ => True)) (by (with_reducible repeat (first | apply rA | apply rN | apply rZ)); exact HO209.out) hg hat)
           have n2_ := Aside0.mk (hb)
           have n3_ := Aside0.mk (ho)
           clear BK160
           clear HO209
           clear HB
           clear HO212
           have BK160 := n0_
           have HO209 := n1_
           have HB := n2_
           have HO215 := n3_
           clear n0_ n1_ n2_ n3_
           clear ho hb hg hat
           refine hK.out _ _ (ten_cells BK160.out) (fun hHeld => ?_)
           clear hK K
           refine norm_ (a' := ?_) ?_ ?_
           rotate_left
           ·show Act.put _ (some 104) _ = _
            simp only [Act.put, List.setIfInBounds_toArray, List.set_cons_zero, List.set_cons_succ, i64_w, i32_w]
            rfl
           refine one_ (i := 7) (N := some 108) #[true, true, true, true, true, true, true, true, false, false] rfl rfl (one_of HT_.out (by kernel_rfl)) (by decide) (fun K hK => ?_)
           refine Kd.R_lit_step (Kd.int .i64) _ 3 ?hg (N := 108) ?hd (xs := ([(l0_6.length : Int)] : List Int)) (inner := [.int .i64 (l0_6.length : Int)]) (ok := fun _ => True) (okp := fun _ => True) ?hr ?hp (fun _ hk => hk) trivial (Below.refl _ _) (Nat.le_refl _) (by simp) ?_; (case hd => rfl); (case hg => rfl); (case hr => first | (go_simp; done) | (go_simp; rfl)); (case hp => exact (Reps.one (show Kd.M (Kd.int .i64) _ _ _ (l0_6.length : Int) [.int .i64 (l0_6.length : Int)] from rfl) (Reps.none _ _)))
           intro v217 w77 ho78 hb hg_ hnew_
           clear hg_ hnew_
           (first | rw [← Ny216.out] at ho78 | (simp only [Int.reduceToNat] at ho78; rw [← Ny216.out] at ho78))
           have n0_ := Aside0.mk (Kd.R_elder' (by (with_reducible repeat (first | apply rA | apply rN | apply rZ)); exact HO209.out) (Kd.R_base ho78) hb)
           have n1_ := Aside0.mk (Kd.R_elder' (by (with_reducible repeat (first | apply rA | apply rN | apply rZ)); exact HO215.out) (Kd.R_base ho78) hb)
           have n2_ := Aside0.mk (Kd.R_lower (Kd.R_new' (Kd.R_new' ho78 (Kd.R_lt (by (with_reducible repeat (first | apply rA | apply rN | apply rZ)); exact HO209.out))) (Kd.R_lt (by (with_reducible repeat (first | apply rA | apply rN | apply rZ)); exact HO215.out))) (below_size (by repeat (first | (with_reducible first | exact HB.out | apply bA | apply bN | apply bD | refine bS ?_ GE160.out) | exact HB.out))))
           have n3_ := Aside0.mk (blk_below (g := gb160) (o := .cells #[.int .i64 a0_0, .int .i64 a0_1, .int .i64 a0_2, .int .i64 a0_3, .int .i64 a0_4, .slice A0_5 l0_5.length c0_5, .slice A0_6 l0_6.length c0_6, .int .i64 a0_7, .slice A0_8 l0_8.length c0_8, .slice A0_9 l0_9.length c0_9] 30 (0, 0)) (by (with_reducible repeat (first | refine kN ?_ _ | refine kZ ?_ | refine kA ?_ _)); exact BK160.out) hb)
           have n4_ := Aside0.mk (below_step (by repeat (first | (with_reducible first | exact HB.out | apply bA | apply bN | apply bD | refine bS ?_ GE160.out) | exact HB.out)) hb)
           clear HO209
           clear HO215
           clear BK160
           clear HB
           have HO209 := n0_
           have HO215 := n1_
           have HO218 := n2_
           have BK160 := n3_
           have HB := n4_
           clear n0_ n1_ n2_ n3_ n4_
           clear hb ho78
           refine hK.out _ _ (ten_cells BK160.out) (fun hHeld => ?_)
           clear hK K
           refine norm_ (a' := ?_) ?_ ?_
           rotate_left
           ·show Act.put _ (some 108) _ = _
            simp only [Act.put, List.setIfInBounds_toArray, List.set_cons_zero, List.set_cons_succ, i64_w, i32_w]
            rfl
           exact norm_ (by simp only [putAll, Act.put, List.setIfInBounds_toArray, List.set_cons_zero, List.set_cons_succ]) (hCont (v214, v217) _ ⟨hHeld, (by (with_reducible repeat (first | apply rA | apply rN | apply rZ)); exact Kd.R_mono HO209.out (fun _ hk => ⟨hk.1.2, hk.2⟩)), (by (with_reducible repeat (first | apply rA | apply rN | apply rZ)); exact HO215.out), (by (with_reducible repeat (first | apply rA | apply rN | apply rZ)); exact Kd.R_mono HO218.out (fun _ hk => ⟨hk.1.2, hk.2⟩)), (by (with_reducible repeat (first | refine kN ?_ _ | refine kZ ?_ | refine kA ?_ _)); exact BK160.out), (by repeat (first | (with_reducible first | exact HB.out | apply bA | apply bN | apply bD | refine bS ?_ GE160.out) | exact HB.out))⟩)
          ·skip
           refine Kd.R_lit_step (Kd.int .i64) _ 3 ?hg (N := 108) ?hd (xs := ([(l0_6.length : Int)] : List Int)) (inner := [.int .i64 (l0_6.length : Int)]) (ok := fun _ => True) (okp := fun _ => True) ?hr ?hp (fun _ hk => hk) trivial (Below.refl _ _) (Nat.le_refl _) (by simp) ?_; (case hd => rfl); (case hg => rfl); (case hr => first | (go_simp; done) | (go_simp; rfl)); (case hp => exact (Reps.one (show Kd.M (Kd.int .i64) _ _ _ (l0_6.length : Int) [.int .i64 (l0_6.length : Int)] from rfl) (Reps.none _ _)))
           intro v217 w76 ho77 hb hg_ hnew_
           clear hg_ hnew_
           (first | rw [← Ny216.out] at ho77 | (simp only [Int.reduceToNat] at ho77; rw [← Ny216.out] at ho77))
           have n0_ := Aside0.mk (Kd.R_elder' (by (with_reducible repeat (first | apply rA | apply rN | apply rZ)); exact HO209.out) (Kd.R_base ho77) hb)
           have n1_ := Aside0.mk (Kd.R_elder' (by (with_reducible repeat (first | apply rA | apply rN | apply rZ)); exact HO212.out) (Kd.R_base ho77) hb)
           have n2_ := Aside0.mk (Kd.R_lower (Kd.R_new' (Kd.R_new' ho77 (Kd.R_lt (by (with_reducible repeat (first | apply rA | apply rN | apply rZ)); exact HO209.out))) (Kd.R_lt (by (with_reducible repeat (first | apply rA | apply rN | apply rZ)); exact HO212.out))) (below_size (by repeat (first | (with_reducible first | exact HB.out | apply bA | apply bN | apply bD | refine bS ?_ GE160.out) | exact HB.out))))
           have n3_ := Aside0.mk (blk_below (g := gb160) (o := .cells #[.int .i64 a0_0, .int .i64 a0_1, .int .i64 a0_2, .int .i64 a0_3, .int .i64 a0_4, .slice A0_5 l0_5.length c0_5, .slice A0_6 l0_6.length c0_6, .int .i64 a0_7, .slice A0_8 l0_8.length c0_8, .slice A0_9 l0_9.length c0_9] 30 (0, 0)) (by (with_reducible repeat (first | refine kN ?_ _ | refine kZ ?_ | refine kA ?_ _)); exact BK160.out) hb)
           have n4_ := Aside0.mk (below_step (by repeat (first | (with_reducible first | exact HB.out | apply bA | apply bN | apply bD | refine bS ?_ GE160.out) | exact HB.out)) hb)
           clear HO209
           clear HO212
           clear BK160
           clear HB
           have HO209 := n0_
           have HO212 := n1_
           have HO218 := n2_
           have BK160 := n3_
           have HB := n4_
           clear n0_ n1_ n2_ n3_ n4_
           clear hb ho77
           refine hK.out _ _ (ten_cells BK160.out) (fun hHeld => ?_)
           clear hK K
           refine norm_ (a' := ?_) ?_ ?_
           rotate_left
           ·show Act.put _ (some 108) _ = _
            simp only [Act.put, List.setIfInBounds_toArray, List.set_cons_zero, List.set_cons_succ, i64_w, i32_w]
            rfl
           refine one_ (i := 3) (N := some 104) #[true, true, true, true, true, true, true, true, false, false] rfl rfl (one_of HT_.out (by kernel_rfl)) (by decide) (fun K hK => ?_)
           refine Kd.R_append_rows_step (Kd.int .i64) (w0 := w) w.heap.size (by rfl) (.tmp 101) (.tmp 103) 25 3 (.int .i64 0) 8 rfl Try.underlying25 info3 rfl (by decide) (by omega) (.slice Ao74 y210.length co74) y210 l0_5 _ _ _ (fun k_ => some k_ ≠ (.slice Ao73 y207.length co73 : Value).ownBlock ∧ some k_ ≠ (v217 : Value).ownBlock) (fun _ => False) rfl rfl ?aO ?aR (fun _ _ h => h) (fun _ h => h.elim) ?aF ?aB ?aS ?aL ?_
           (case aR => repeat (first | exact (Kd.C_below HR0_5.out HB.out) | (with_reducible refine qA ?_ _) | (with_reducible refine qN ?_ _) | (with_reducible refine qZ ?_)))
           (case aB => exact (by repeat (first | (with_reducible first | exact HB.out | apply bA | apply bN | apply bD | refine bS ?_ GE160.out) | exact HB.out)))
           (case aF => exact (fun k_ hk => ⟨Kd.fresh' (Kd.R_lt (by (with_reducible repeat (first | apply rA | apply rN | apply rZ)); exact HO209.out)) k_ hk, Kd.fresh' (Kd.R_lt (by (with_reducible repeat (first | apply rA | apply rN | apply rZ)); exact HO218.out)) k_ hk⟩))
           (case aO => exact (by (with_reducible repeat (first | apply rA | apply rN | apply rZ)); exact HO212.out))
           (case aS => exact (below_size (by repeat (first | (with_reducible first | exact HB.out | apply bA | apply bN | apply bD | refine bS ?_ GE160.out) | exact HB.out))))
           (case aL => have := LMc67.out; omega)
           intro v214 w78 ho hb hg hat
           rw [← Ny213.out] at ho
           have n0_ := Aside0.mk (blk_grown (g := gb160) (o := .cells #[.int .i64 a0_0, .int .i64 a0_1, .int .i64 a0_2, .int .i64 a0_3, .int .i64 a0_4, .slice A0_5 l0_5.length c0_5, .slice A0_6 l0_6.length c0_6, .int .i64 a0_7, .slice A0_8 l0_8.length c0_8, .slice A0_9 l0_9.length c0_9] 30 (0, 0)) (by (with_reducible repeat (first | refine kN ?_ _ | refine kZ ?_ | refine kA ?_ _)); exact BK160.out) hg (Kd.R_ne HO212.out BK160.out (by decide)))
           have n1_ := Aside0.mk (Kd.R_after (ok := (fun k_ => some k_ ≠ (v217 : Value).ownBlock)) (by (with_reducible repeat (first | apply rA | apply rN | apply rZ)); exact Kd.R_mono HO209.out (fun _ hk => ⟨hk.2, hk.1.2⟩)) hg hat)
           have n2_ := Aside0.mk (Kd.R_after (ok := (fun k_ => some k_ ≠ (.slice Ao73 y207.length co73 : Value).ownBlock)) (by (with_reducible repeat (first | apply rA | apply rN | apply rZ)); exact Kd.R_mono HO218.out (fun _ hk => ⟨hk.1.2, hk.2⟩)) hg hat)
           have n3_ := Aside0.mk (hb)
           have n4_ := Aside0.mk (ho)
           clear BK160
           clear HO209
           clear HO218
           clear HB
           clear HO212
           have BK160 := n0_
           have HO209 := n1_
           have HO218 := n2_
           have HB := n3_
           have HO215 := n4_
           clear n0_ n1_ n2_ n3_ n4_
           clear ho hb hg hat
           refine hK.out _ _ (ten_cells BK160.out) (fun hHeld => ?_)
           clear hK K
           refine norm_ (a' := ?_) ?_ ?_
           rotate_left
           ·show Act.put _ (some 104) _ = _
            simp only [Act.put, List.setIfInBounds_toArray, List.set_cons_zero, List.set_cons_succ, i64_w, i32_w]
            rfl
           exact norm_ (by simp only [putAll, Act.put, List.setIfInBounds_toArray, List.set_cons_zero, List.set_cons_succ]) (hCont (v214, v217) _ ⟨hHeld, (by (with_reducible repeat (first | apply rA | apply rN | apply rZ)); exact Kd.R_mono HO209.out (fun _ hk => ⟨hk.2, hk.1⟩)), (by (with_reducible repeat (first | apply rA | apply rN | apply rZ)); exact HO215.out), (by (with_reducible repeat (first | apply rA | apply rN | apply rZ)); exact HO218.out), (by (with_reducible repeat (first | refine kN ?_ _ | refine kZ ?_ | refine kA ?_ _)); exact BK160.out), (by repeat (first | (with_reducible first | exact HB.out | apply bA | apply bN | apply bD | refine bS ?_ GE160.out) | exact HB.out))⟩)
         rintro ⟨v214, v217⟩ w79 ⟨hS_, h0_, h1_, h2_, h3_, h4_⟩
         have n0_ : Aside0 (Kd.R (Kd.int .i64) 3 w79 w.heap.size (fun k_ => some k_ ≠ (v214 : Value).ownBlock ∧ some k_ ≠ (v217 : Value).ownBlock) (.slice Ao73 y207.length co73) y207) := ⟨h0_⟩
         have n1_ : Aside0 (Kd.R (Kd.int .i64) 3 w79 w.heap.size (fun k_ => some k_ ≠ (.slice Ao73 y207.length co73 : Value).ownBlock ∧ some k_ ≠ (v217 : Value).ownBlock) v214 y213) := ⟨h1_⟩
         have n2_ : Aside0 (Kd.R (Kd.int .i64) 3 w79 w.heap.size (fun k_ => some k_ ≠ (.slice Ao73 y207.length co73 : Value).ownBlock ∧ some k_ ≠ (v214 : Value).ownBlock) v217 y216) := ⟨h2_⟩
         have n3_ : Aside0 (w79.heap[gb160]? = some (.cells #[.int .i64 a0_0, .int .i64 a0_1, .int .i64 a0_2, .int .i64 a0_3, .int .i64 a0_4, .slice A0_5 l0_5.length c0_5, .slice A0_6 l0_6.length c0_6, .int .i64 a0_7, .slice A0_8 l0_8.length c0_8, .slice A0_9 l0_9.length c0_9] 30 (0, 0))) := ⟨h3_⟩
         have n4_ : Aside0 (Below w.heap.size w w79) := ⟨h4_⟩
         clear HO209
         clear HO212
         clear BK160
         clear HB
         clear h0_ h1_ h2_ h3_ h4_
         have HO209 := n0_
         have HO215 := n1_
         have HO218 := n2_
         have BK160 := n3_
         have HB := n4_
         clear n0_ n1_ n2_ n3_ n4_
         have hHeld : w79.cell? ⟨gb160, 0, none⟩ = some (.int .i64 a0_0) ∧ w79.cell? ⟨gb160, 1, none⟩ = some (.int .i64 a0_1) ∧ w79.cell? ⟨gb160, 2, none⟩ = some (.int .i64 a0_2) ∧ w79.cell? ⟨gb160, 3, none⟩ = some (.int .i64 a0_3) ∧ w79.cell? ⟨gb160, 4, none⟩ = some (.int .i64 a0_4) ∧ w79.cell? ⟨gb160, 5, none⟩ = some (.slice A0_5 l0_5.length c0_5) ∧ w79.cell? ⟨gb160, 6, none⟩ = some (.slice A0_6 l0_6.length c0_6) ∧ w79.cell? ⟨gb160, 7, none⟩ = some (.int .i64 a0_7) ∧ w79.cell? ⟨gb160, 8, none⟩ = some (.slice A0_8 l0_8.length c0_8) ∧ w79.cell? ⟨gb160, 9, none⟩ = some (.slice A0_9 l0_9.length c0_9) := hS_
         obtain ⟨Ao81, co81, eo81⟩ := Kd.R_slice HO218.out
         (first | subst eo81 | (injection eo81 with f1_ f2_ f3_; have f4_ := f1_.symm; have f5_ := f3_.symm; clear f1_ f2_ f3_; subst f4_; subst f5_))
         refine norm_ (a' := ?_) ?_ ?_
         rotate_left
         ·simp only [putAll, Act.put, List.setIfInBounds_toArray, List.set_cons_zero, List.set_cons_succ]
          rfl
         refine one_ (i := 8) (N := some 109) #[true, true, true, true, true, true, true, true, true, false] rfl rfl (one_of HT_.out (by kernel_rfl)) (by decide) (fun K hK => ?_)
         refine Kd.R_append_rows_step (Kd.int .i64) (w0 := w) w.heap.size (by rfl) (.tmp 104) (.tmp 108) 25 3 (.int .i64 0) 8 rfl Try.underlying25 info3 rfl (by decide) (by omega) v214 y213 y216 _ _ _ (fun k_ => some k_ ≠ (.slice Ao73 y207.length co73 : Value).ownBlock ∧ some k_ ≠ (.slice Ao81 y216.length co81 : Value).ownBlock) (fun _ => False) rfl rfl ?aO ?aR (fun _ _ h => h) (fun _ h => h.elim) ?aF ?aB ?aS ?aL ?_
         (case aR => repeat (first | exact (Kd.R_reads' HO218.out).2.2 | (with_reducible refine qA ?_ _) | (with_reducible refine qN ?_ _) | (with_reducible refine qZ ?_)))
         (case aB => exact (by repeat (first | (with_reducible first | exact HB.out | apply bA | apply bN | apply bD | refine bS ?_ GE160.out) | exact HB.out)))
         (case aF => exact (fun k_ hk => ⟨Kd.fresh' (Kd.R_lt (by (with_reducible repeat (first | apply rA | apply rN | apply rZ)); exact HO209.out)) k_ hk, Kd.fresh' (Kd.R_lt (by (with_reducible repeat (first | apply rA | apply rN | apply rZ)); exact HO218.out)) k_ hk⟩))
         (case aO => exact (by (with_reducible repeat (first | apply rA | apply rN | apply rZ)); exact HO215.out))
         (case aS => exact (below_size (by repeat (first | (with_reducible first | exact HB.out | apply bA | apply bN | apply bD | refine bS ?_ GE160.out) | exact HB.out))))
         (case aL => have := LMc68.out; omega)
         intro v220 w80 ho hb hg hat
         rw [← Ny219.out] at ho
         have n0_ := Aside0.mk (blk_grown (g := gb160) (o := .cells #[.int .i64 a0_0, .int .i64 a0_1, .int .i64 a0_2, .int .i64 a0_3, .int .i64 a0_4, .slice A0_5 l0_5.length c0_5, .slice A0_6 l0_6.length c0_6, .int .i64 a0_7, .slice A0_8 l0_8.length c0_8, .slice A0_9 l0_9.length c0_9] 30 (0, 0)) (by (with_reducible repeat (first | refine kN ?_ _ | refine kZ ?_ | refine kA ?_ _)); exact BK160.out) hg (Kd.R_ne HO215.out BK160.out (by decide)))
         have n1_ := Aside0.mk (Kd.R_after (ok := (fun k_ => some k_ ≠ (.slice Ao81 y216.length co81 : Value).ownBlock)) (by (with_reducible repeat (first | apply rA | apply rN | apply rZ)); exact Kd.R_mono HO209.out (fun _ hk => ⟨hk.2, hk.1⟩)) hg hat)
         have n2_ := Aside0.mk (Kd.R_after (ok := (fun k_ => some k_ ≠ (.slice Ao73 y207.length co73 : Value).ownBlock)) (by (with_reducible repeat (first | apply rA | apply rN | apply rZ)); exact HO218.out) hg hat)
         have n3_ := Aside0.mk (hb)
         have n4_ := Aside0.mk (ho)
         clear BK160
         clear HO209
         clear HO218
         clear HB
         clear HO215
         have BK160 := n0_
         have HO209 := n1_
         have HO218 := n2_
         have HB := n3_
         have HO221 := n4_
         clear n0_ n1_ n2_ n3_ n4_
         clear ho hb hg hat
         refine hK.out _ _ (ten_cells BK160.out) (fun hHeld => ?_)
         clear hK K
         refine norm_ (a' := ?_) ?_ ?_
         rotate_left
         ·show Act.put _ (some 109) _ = _
          simp only [Act.put, List.setIfInBounds_toArray, List.set_cons_zero, List.set_cons_succ, i64_w, i32_w]
          rfl
         refine pure_ (i := 9) (N := some 3) (v := ?_) (a' := ?_) #[true, true, true, true, true, true, true, true, true, true] rfl rfl (any_of HT_.out (by kernel_rfl)) (fun _ _ _ h => h) (Or.inl ⟨by rfl, ?_⟩) ?_ ?_
         rotate_left
         ·intro w'
          go_simp
          with_reducible rfl
         rotate_left
         ·simp only [Act.put, List.setIfInBounds_toArray, List.set_cons_zero, List.set_cons_succ, i64_w, i32_w]
          rfl
         refine done_ (done_of HT_.out (by kernel_rfl)) ?_
         obtain ⟨hcz82_0, hcz82_1, hcz82_2, hcz82_3, hcz82_4, hcz82_5, hcz82_6, hcz82_7, hcz82_8, hcz82_9⟩ := ten_cells BK160.out
         have hfz82 := ten_free BK160.out
         try go_wp2
         go_loopg [3, 113] kj60 (fun kq v3 v113 w' => ∃ (x3_3 : List Int) (x113_3 : Int), v113 = .int .i64 x113_3 ∧ Aside0 (record_write.l2 kq x3_3 l0_6 (l0_6.length : Int) x113_3 = some r) ∧ Aside0 (kq ≤ kj60) ∧ Aside0 (Kd.R (Kd.int .i64) 3 w' w.heap.size (fun _ => True) v3 x3_3) ∧ Aside0 (w'.heap[gb160]? = some (.cells #[.int .i64 a0_0, .int .i64 a0_1, .int .i64 a0_2, .int .i64 a0_3, .int .i64 a0_4, (.slice A0_5 l0_5.length c0_5), (.slice A0_6 l0_6.length c0_6), .int .i64 a0_7, (.slice A0_8 l0_8.length c0_8), (.slice A0_9 l0_9.length c0_9)] 30 (0, 0))) ∧ Aside0 (Below w.heap.size w w'))
         case atStart => exact ⟨(y219), (0), (by first | rfl | (simp; done) | (simp [*]; done)), H', ⟨Nat.le_refl _⟩, ⟨by (with_reducible repeat (first | apply rA | apply rN | apply rZ)); exact Kd.R_mono HO221.out (fun _ hk => trivial)⟩, ⟨by (with_reducible repeat (first | refine kN ?_ _ | refine kZ ?_ | refine kA ?_ _)); exact BK160.out⟩, ⟨by repeat (first | (with_reducible first | exact HB.out | apply bA | apply bN | apply bD | refine bS ?_ GE160.out) | exact HB.out)⟩⟩
         case round =>
          clear H'
          try clear p1
          try clear q1
          try clear hx1
          try clear c2
          try clear p2
          try clear c3
          try clear c4
          try clear c5
          try clear c6
          try clear p6
          try clear p17
          try clear q17
          try clear hx17
          try clear p18
          try clear q18
          try clear hx18
          try clear c27
          try clear c30
          try clear c34
          try clear c34b0
          try clear c35
          try clear c35b0
          try clear c36
          try clear c36b0
          try clear c37
          try clear c39
          try clear c43
          try clear c48
          try clear c48b0
          try clear c48b1
          try clear c49
          try clear c55
          try clear c62
          try clear c62b0
          try clear c62b1
          try clear p64
          try clear c65
          try clear c66
          try clear c67
          try clear c68
          try clear hcz10_0 hcz10_1 hcz10_2 hcz10_3 hcz10_4 hcz10_5 hcz10_6 hcz10_7 hcz10_8 hcz10_9
          try clear hcz15_0 hcz15_1 hcz15_2 hcz15_3 hcz15_4 hcz15_5 hcz15_6 hcz15_7 hcz15_8 hcz15_9
          try clear hcz22_0
          try clear hcz22_1
          try clear hcz28_0 hcz28_1 hcz28_2 hcz28_3 hcz28_4 hcz28_5 hcz28_6 hcz28_7 hcz28_8 hcz28_9
          try clear hcz33_0 hcz33_1 hcz33_2 hcz33_3 hcz33_4 hcz33_5 hcz33_6 hcz33_7 hcz33_8 hcz33_9
          try clear hcz40_0
          try clear hcz40_1
          try clear hcz40_2
          try clear hcz40_3
          try clear hcz4_0 hcz4_1 hcz4_2 hcz4_3 hcz4_4 hcz4_5 hcz4_6 hcz4_7 hcz4_8 hcz4_9
          try clear hcz50_0 hcz50_1 hcz50_2 hcz50_3 hcz50_4 hcz50_5 hcz50_6 hcz50_7 hcz50_8 hcz50_9
          try clear hcz56_0 hcz56_1 hcz56_2 hcz56_3 hcz56_4 hcz56_5 hcz56_6 hcz56_7 hcz56_8 hcz56_9
          try clear hcz63_0 hcz63_1 hcz63_2 hcz63_3 hcz63_4 hcz63_5 hcz63_6 hcz63_7 hcz63_8 hcz63_9
          try clear hcz64_0 hcz64_1 hcz64_2 hcz64_3 hcz64_4 hcz64_5 hcz64_6 hcz64_7 hcz64_8 hcz64_9
          try clear hcz69_0 hcz69_1 hcz69_2 hcz69_3 hcz69_4 hcz69_5 hcz69_6 hcz69_7 hcz69_8 hcz69_9
          try clear hcz7_0 hcz7_1 hcz7_2 hcz7_3 hcz7_4 hcz7_5 hcz7_6 hcz7_7 hcz7_8 hcz7_9
          try clear hcz82_0 hcz82_1 hcz82_2 hcz82_3 hcz82_4 hcz82_5 hcz82_6 hcz82_7 hcz82_8 hcz82_9
          try clear hfz10
          try clear hfz15
          try clear hfz22_0
          try clear hfz22_1
          try clear hfz28
          try clear hfz33
          try clear hfz40_0
          try clear hfz40_1
          try clear hfz40_2
          try clear hfz40_3
          try clear hfz4
          try clear hfz50
          try clear hfz56
          try clear hfz63
          try clear hfz64
          try clear hfz69
          try clear hfz7
          try clear hfz82
          try clear hx170_0
          try clear hx170_1
          try clear hx184_0
          try clear hx184_1
          try clear hx184_2
          try clear hx184_3
          try clear p1
          try clear p17
          try clear p170
          try clear p18
          try clear p184
          try clear p2
          try clear p6
          try clear p64
          try clear q1
          try clear q17
          try clear q170
          try clear q18
          try clear q184
          obtain ⟨x3_3, x113_3, rfl, HA, HK3, HO_3, BK160, HB⟩ := hrel
          cases gk with
          | zero => exact absurd HA.out (by simp [record_write.l2])
          | succ k3 =>
           have H := HA.out
           clear HA
           simp only [record_write.l2] at H
           by_cases c83 : x113_3 < (l0_6.length : Int)
           ·rw [if_pos c83] at H
            have c83b0 : decide (x113_3 < (l0_6.length : Int)) = true := decide_eq_true c83
            clear c83
            by_cases c84 : 0 ≤ x113_3
            ·rw [if_pos c84] at H
             have c84b0 : decide (0 ≤ x113_3) = true := decide_eq_true c84
             clear c84
             by_cases c85 : x113_3 < (l0_6.length : Int)
             ·rw [if_pos c85] at H
              have c85b0 : decide (x113_3 < (l0_6.length : Int)) = true := decide_eq_true c85
              clear c85
              obtain ⟨y224, hy224⟩ : ∃ y_ : List Int, y_ = (([(rd_T52 l0_6 x113_3).f0, (rd_T52 l0_6 x113_3).f1] : List Int)) := ⟨_, rfl⟩
              replace H : (if x3_3.length + y224.length < 17592186044416 then (record_write.l2 k3 (x3_3 ++ y224) l0_6 (l0_6.length : Int) (wrap64 (x113_3 + 1))) else (none)) = some r := by first | (rw [hy224]; with_reducible exact H) | (have H2_ := (Option.bind_some _ _).symm.trans H; rw [hy224]; with_reducible exact H2_) | (have H2_ := (Option.bind_some _ _).symm.trans H; with_reducible exact H2_) | with_reducible exact H | (rw [hy224]; exact H) | exact H
              have Ny224 := Aside0.mk hy224
              clear hy224
              by_cases c86 : x3_3.length + y224.length < 17592186044416
              ·rw [if_pos c86] at H
               have LMc86 := Aside0.mk c86
               clear c86
               obtain ⟨y227, hy227⟩ : ∃ y_ : List Int, y_ = (x3_3 ++ y224) := ⟨_, rfl⟩
               replace H : (record_write.l2 k3 y227 l0_6 (l0_6.length : Int) (wrap64 (x113_3 + 1))) = some r := by first | (rw [hy227]; with_reducible exact H) | (have H2_ := (Option.bind_some _ _).symm.trans H; rw [hy227]; with_reducible exact H2_) | (have H2_ := (Option.bind_some _ _).symm.trans H; with_reducible exact H2_) | with_reducible exact H | (rw [hy227]; exact H) | exact H
               have Ny227 := Aside0.mk hy227
               clear hy227
               have H' := Aside0.mk H
               clear H
               have p222 : 0 ≤ (x113_3 : Int) := of_decide_eq_true (by first | (with_reducible assumption) | assumption)
               have q222 : x113_3 < (l0_6.length : Int) := of_decide_eq_true (by first | (with_reducible assumption) | assumption)
               obtain ⟨ad222, e222, hx222_0, hx222_1⟩ := at_T52 HR0_6.out x113_3 p222 q222
               cases e222
               replace hx222_0 := (HB.out.cell (World.block_lt_of_cell? w _ hx222_0)).trans hx222_0
               replace hx222_1 := (HB.out.cell (World.block_lt_of_cell? w _ hx222_1)).trans hx222_1
               replace p222 := eq_true p222
               replace q222 := eq_true q222
               go_wp2_with (first | ((with_reducible refine gate_dst (N := 9) rfl ?_); refine box_event ?hg (N := 9) ?hd (cs := #[.int .i64 0, .int .i64 0]) (t := 52) ?hr ?_; (case hd => rfl); (case hg => rfl); (case hr => first | (go_simp; done) | (go_simp; rfl)); intro gb223 hg w87 hbox hb; have n0_ := Aside0.mk (Kd.R_below (by (with_reducible repeat (first | apply rA | apply rN | apply rZ)); exact HO_3.out) hb); have n1_ := Aside0.mk (blk_below (g := gb160) (o := .cells #[.int .i64 a0_0, .int .i64 a0_1, .int .i64 a0_2, .int .i64 a0_3, .int .i64 a0_4, .slice A0_5 l0_5.length c0_5, .slice (some ad222) l0_6.length c0_6, .int .i64 a0_7, .slice A0_8 l0_8.length c0_8, .slice A0_9 l0_9.length c0_9] 30 (0, 0)) (by (with_reducible repeat (first | refine kN ?_ _ | refine kZ ?_ | refine kA ?_ _)); exact BK160.out) hb); have n2_ := Aside0.mk (below_step (by repeat (first | (with_reducible first | exact HB.out | apply bA | apply bN | apply bD | refine bS ?_ GE160.out) | exact HB.out)) hb); have n3_ := Aside0.mk (hbox); have n4_ := Aside0.mk ((by rw [hg]; exact (below_size (by repeat (first | (with_reducible first | exact HB.out | apply bA | apply bN | apply bD | refine bS ?_ GE160.out) | exact HB.out))) : w.heap.size ≤ gb223)); have n5_ := Aside0.mk ((by rw [hg]; exact (below_size (by repeat (first | (with_reducible first | exact HB.out | apply bA | apply bN | apply bD | refine bS ?_ GE160.out) | exact HB.out))) : w.heap.size ≤ gb223)); have n6_ := Aside0.mk ((by rw [hg]; exact Nat.ne_of_lt (blk_lt (g := gb160) (o := .cells #[.int .i64 a0_0, .int .i64 a0_1, .int .i64 a0_2, .int .i64 a0_3, .int .i64 a0_4, .slice A0_5 l0_5.length c0_5, .slice (some ad222) l0_6.length c0_6, .int .i64 a0_7, .slice A0_8 l0_8.length c0_8, .slice A0_9 l0_9.length c0_9] 30 (0, 0)) (by (with_reducible repeat (first | refine kN ?_ _ | refine kZ ?_ | refine kA ?_ _)); exact BK160.out)) : gb160 ≠ gb223)); have n7_ := Aside0.mk ((by rw [hg]; exact Nat.ne_of_gt (blk_lt (g := gb160) (o := .cells #[.int .i64 a0_0, .int .i64 a0_1, .int .i64 a0_2, .int .i64 a0_3, .int .i64 a0_4, .slice A0_5 l0_5.length c0_5, .slice (some ad222) l0_6.length c0_6, .int .i64 a0_7, .slice A0_8 l0_8.length c0_8, .slice A0_9 l0_9.length c0_9] 30 (0, 0)) (by (with_reducible repeat (first | refine kN ?_ _ | refine kZ ?_ | refine kA ?_ _)); exact BK160.out)) : gb223 ≠ gb160)); clear HO_3; clear BK160; clear HB; have HO_3 := n0_; have BK160 := n1_; have HB := n2_; have BK223 := n3_; have GW223 := n4_; have GE223 := n5_; have NB160_223 := n6_; have NB223_160 := n7_; clear n0_ n1_ n2_ n3_ n4_ n5_ n6_ n7_; clear hb hbox hg; have hnb88 := NB223_160.out; have hnc88 := NB160_223.out; have hcz89_0 : w87.cell? ⟨gb223, 0, none⟩ = some (.int .i64 0) := (blk_cell BK223.out 0).trans rfl; have hcz89_1 : w87.cell? ⟨gb223, 1, none⟩ = some (.int .i64 0) := (blk_cell BK223.out 1).trans rfl; have hfz89_0 := blk_frozen BK223.out 0; have hfz89_1 := blk_frozen BK223.out 1) | ((with_reducible refine gate_dst (N := 122) rfl ?_); refine Kd.R_lit (Kd.int .i64) _ 3 ?hg (N := 122) ?hd (xs := ([(rd_T52 l0_6 x113_3).f0, (rd_T52 l0_6 x113_3).f1] : List Int)) (inner := [.int .i64 ((rd_T52 l0_6 x113_3).f0), .int .i64 ((rd_T52 l0_6 x113_3).f1)]) (ok := fun _ => True) (okp := fun _ => True) ?hr ?hp (fun _ hk => hk) trivial (Below.refl _ _) (Nat.le_refl _) (by simp) ?_; (case hd => rfl); (case hg => rfl); (case hr => first | (go_simp; done) | (go_simp; rfl)); (case hp => exact (Reps.one (show Kd.M (Kd.int .i64) _ _ _ ((rd_T52 l0_6 x113_3).f0) [.int .i64 ((rd_T52 l0_6 x113_3).f0)] from rfl) (Reps.one (show Kd.M (Kd.int .i64) _ _ _ ((rd_T52 l0_6 x113_3).f1) [.int .i64 ((rd_T52 l0_6 x113_3).f1)] from rfl) (Reps.none _ _)))); intro v225 w90 ho91 hb hg_ hnew_; clear hg_ hnew_; (first | rw [← Ny224.out] at ho91 | (simp only [Int.reduceToNat] at ho91; rw [← Ny224.out] at ho91)); have n0_ := Aside0.mk (Kd.R_elder' (by (with_reducible repeat (first | apply rA | apply rN | apply rZ)); exact (Kd.R_mono (Kd.R_far (p := ⟨gb223, 1, none⟩) (Kd.R_far (p := ⟨gb223, 0, none⟩) (Kd.R_types HO_3.out BK223.out (by decide)) (fun _ hk => hk.2) (.int .i64 ((rd_T52 l0_6 x113_3).f0))) (fun _ hk => hk.2) (.int .i64 ((rd_T52 l0_6 x113_3).f1))) (fun _ h_ => h_.1))) (Kd.R_base ho91) hb); have n1_ := Aside0.mk (Kd.R_lower (Kd.R_new' ho91 (Kd.R_lt (by (with_reducible repeat (first | apply rA | apply rN | apply rZ)); exact (Kd.R_mono (Kd.R_far (p := ⟨gb223, 1, none⟩) (Kd.R_far (p := ⟨gb223, 0, none⟩) (Kd.R_types HO_3.out BK223.out (by decide)) (fun _ hk => hk.2) (.int .i64 ((rd_T52 l0_6 x113_3).f0))) (fun _ hk => hk.2) (.int .i64 ((rd_T52 l0_6 x113_3).f1))) (fun _ h_ => h_.1))))) (below_size (by repeat (first | (with_reducible first | exact HB.out | apply bA | apply bN | apply bD | refine bS ?_ GE160.out | refine bS ?_ GE223.out) | exact HB.out)))); have n2_ := Aside0.mk (blk_below (g := gb160) (o := .cells #[.int .i64 a0_0, .int .i64 a0_1, .int .i64 a0_2, .int .i64 a0_3, .int .i64 a0_4, .slice A0_5 l0_5.length c0_5, .slice (some ad222) l0_6.length c0_6, .int .i64 a0_7, .slice A0_8 l0_8.length c0_8, .slice A0_9 l0_9.length c0_9] 30 (0, 0)) (by (with_reducible repeat (first | refine kN ?_ _ | refine kZ ?_ | refine kA ?_ _)); refine blk_far ?_ NB160_223.out _; (with_reducible repeat (first | refine kN ?_ _ | refine kZ ?_ | refine kA ?_ _)); refine blk_far ?_ NB160_223.out _; (with_reducible repeat (first | refine kN ?_ _ | refine kZ ?_ | refine kA ?_ _)); exact BK160.out) hb); have n3_ := Aside0.mk (blk_below (g := gb223) (o := .cells #[.int .i64 ((rd_T52 l0_6 x113_3).f0), .int .i64 ((rd_T52 l0_6 x113_3).f1)] 52 (0, 0)) (by (with_reducible repeat (first | refine kN ?_ _ | refine kZ ?_ | refine kA ?_ _)); refine blk_put (cs := #[.int .i64 ((rd_T52 l0_6 x113_3).f0), .int .i64 0]) ?_ 1 _ rfl; (with_reducible repeat (first | refine kN ?_ _ | refine kZ ?_ | refine kA ?_ _)); refine blk_put (cs := #[.int .i64 0, .int .i64 0]) ?_ 0 _ rfl; (with_reducible repeat (first | refine kN ?_ _ | refine kZ ?_ | refine kA ?_ _)); exact BK223.out) hb); have n4_ := Aside0.mk (below_step (by repeat (first | (with_reducible first | exact HB.out | apply bA | apply bN | apply bD | refine bS ?_ GE160.out | refine bS ?_ GE223.out) | exact HB.out)) hb); clear HO_3; clear BK160; clear BK223; clear HB; have HO_3 := n0_; have HO226 := n1_; have BK160 := n2_; have BK223 := n3_; have HB := n4_; clear n0_ n1_ n2_ n3_ n4_; clear hb ho91; obtain ⟨Ao93, co93, eo93⟩ := Kd.R_slice HO226.out; subst eo93) | ((with_reducible refine gate_builtin (b := .append) (xs := #[.tmp 117, .tmp 122]) rfl ?_); at_builtin; refine Kd.R_append_rows (Kd.int .i64) (w0 := w) w.heap.size rfl (.tmp 117) (.tmp 122) 25 3 (.int .i64 0) 8 rfl Try.underlying25 info3 rfl (by decide) (by omega) u3 x3_3 y224 _ _ _ (fun k_ => some k_ ≠ (.slice Ao93 y224.length co93 : Value).ownBlock) (fun _ => False) rfl rfl ?aO ?aR (fun _ _ h => h) (fun _ h => h.elim) ?aF ?aB ?aS ?aL ?_; (case aR => repeat (first | exact (Kd.R_reads' HO226.out).2.2 | (with_reducible refine qA ?_ _) | (with_reducible refine qN ?_ _) | (with_reducible refine qZ ?_))); (case aB => exact (by repeat (first | (with_reducible first | exact HB.out | apply bA | apply bN | apply bD | refine bS ?_ GE160.out | refine bS ?_ GE223.out) | exact HB.out))); (case aF => exact (fun k_ hk => Kd.fresh' (Kd.R_lt (by (with_reducible repeat (first | apply rA | apply rN | apply rZ)); exact HO226.out)) k_ hk)); (case aO => exact (by (with_reducible repeat (first | apply rA | apply rN | apply rZ)); exact Kd.R_mono HO_3.out (fun _ hk => hk.2))); (case aS => exact (below_size (by repeat (first | (with_reducible first | exact HB.out | apply bA | apply bN | apply bD | refine bS ?_ GE160.out | refine bS ?_ GE223.out) | exact HB.out)))); (case aL => have := LMc86.out; omega); intro v228 w92 ho hb hg hat; rw [← Ny227.out] at ho; have n0_ := Aside0.mk (blk_grown (g := gb160) (o := .cells #[.int .i64 a0_0, .int .i64 a0_1, .int .i64 a0_2, .int .i64 a0_3, .int .i64 a0_4, .slice A0_5 l0_5.length c0_5, .slice (some ad222) l0_6.length c0_6, .int .i64 a0_7, .slice A0_8 l0_8.length c0_8, .slice A0_9 l0_9.length c0_9] 30 (0, 0)) (by (with_reducible repeat (first | refine kN ?_ _ | refine kZ ?_ | refine kA ?_ _)); exact BK160.out) hg (Kd.R_ne HO_3.out BK160.out (by decide))); have n1_ := Aside0.mk (blk_grown (g := gb223) (o := .cells #[.int .i64 ((rd_T52 l0_6 x113_3).f0), .int .i64 ((rd_T52 l0_6 x113_3).f1)] 52 (0, 0)) (by (with_reducible repeat (first | refine kN ?_ _ | refine kZ ?_ | refine kA ?_ _)); exact BK223.out) hg (Kd.R_ne HO_3.out BK223.out (by decide))); have n2_ := Aside0.mk (Kd.R_after (ok := (fun _ => True)) (by (with_reducible repeat (first | apply rA | apply rN | apply rZ)); exact HO226.out) hg hat); have n3_ := Aside0.mk (hb); have n4_ := Aside0.mk (ho); clear BK160; clear BK223; clear HO226; clear HB; clear HO_3; have BK160 := n0_; have BK223 := n1_; have HO226 := n2_; have HB := n3_; have HO229 := n4_; clear n0_ n1_ n2_ n3_ n4_; clear ho hb hg hat))
               go_roundg k3
               case measure => have := HJ1.out; have := HJ60.out; have := HK3.out; omega
               case rel => exact ⟨(y227), (wrap64 (x113_3 + 1)), (by first | rfl | (simp; done) | (simp [*]; done)), H', ⟨by have := HJ1.out; have := HJ60.out; have := HK3.out; omega⟩, ⟨by (with_reducible repeat (first | apply rA | apply rN | apply rZ)); exact Kd.R_mono HO229.out (fun _ hk => trivial)⟩, ⟨by (with_reducible repeat (first | refine kN ?_ _ | refine kZ ?_ | refine kA ?_ _)); exact BK160.out⟩, ⟨by repeat (first | (with_reducible first | exact HB.out | apply bA | apply bN | apply bD | refine bS ?_ GE160.out | refine bS ?_ GE223.out) | exact HB.out)⟩⟩
              ·rw [if_neg c86] at H
               exact absurd H (by simp)
             ·rw [if_neg c85] at H
              exact absurd H (by simp)
            ·rw [if_neg c84] at H
             exact absurd H (by simp)
           ·rw [if_neg c83] at H
            have c83b0 : decide (x113_3 < (l0_6.length : Int)) = false := decide_eq_false c83
            clear c83
            replace H := Option.bind_eq_some_iff.mp H
            obtain ⟨t230, A940, H⟩ := H
            replace H : (some t230) = some r := H
            have A94 := Aside0.mk A940
            clear A940
            obtain rfl := Option.some.inj H
            obtain ⟨Ao95, co95, eo95⟩ := Kd.R_slice HO_3.out
            subst eo95
            go_wp2_with (first | ((with_reducible refine gate_callee (f := 43) rfl ?_); refine goesL_ (some 126) rfl rfl Try.func43 (by kernel_rfl) rfl #[.slice none 0 0, .slice Ao95 x3_3.length co95] rfl (by (try simp only [List.map_toArray, List.map_cons, List.map_nil]); first | done | rfl | (simp only [List.length_drop, List.length_take]; rfl)) ?_; (refine (wire_Put.calls k3 _ _ ([] : List Int) _ _ x3_3 t230 _ ?side1 ?side2 ?side3 ?side4 A94.out).mono ?_); (case side1 => exact Kd.C_nil _ _); (case side2 => exact Nat.le_refl _); (case side3 => repeat (first | exact (Kd.R_reads' HO_3.out).2.2 | (with_reducible refine qA ?_ _) | (with_reducible refine qN ?_ _) | (with_reducible refine qZ ?_))); (case side4 => exact (Kd.R_reads' HO_3.out).2.1); rintro e w96 ⟨v231, rfl, ho0, hb⟩; refine ⟨_, rfl, ?_⟩; have n0_ := Aside0.mk (Kd.R_below (by (with_reducible repeat (first | apply rA | apply rN | apply rZ)); exact HO_3.out) hb); have n1_ := Aside0.mk (Kd.R_lower ho0 (below_size (by repeat (first | (with_reducible first | exact HB.out | apply bA | apply bN | apply bD | refine bS ?_ GE160.out) | exact HB.out)))); have n2_ := Aside0.mk (blk_below (g := gb160) (o := .cells #[.int .i64 a0_0, .int .i64 a0_1, .int .i64 a0_2, .int .i64 a0_3, .int .i64 a0_4, .slice A0_5 l0_5.length c0_5, .slice A0_6 l0_6.length c0_6, .int .i64 a0_7, .slice A0_8 l0_8.length c0_8, .slice A0_9 l0_9.length c0_9] 30 (0, 0)) (by (with_reducible repeat (first | refine kN ?_ _ | refine kZ ?_ | refine kA ?_ _)); exact BK160.out) hb); have n3_ := Aside0.mk (below_step (by repeat (first | (with_reducible first | exact HB.out | apply bA | apply bN | apply bD | refine bS ?_ GE160.out) | exact HB.out)) hb); clear HO_3; clear BK160; clear HB; have HO_3 := n0_; have HO232 := n1_; have BK160 := n2_; have HB := n3_; clear n0_ n1_ n2_ n3_; (try clear hb); (try clear hb2); (try clear hk); (try clear hi); (try clear ho0)))
            go_ret
            exact ⟨_, by first | rfl | (simp [errW_none, errW_some] <;> rfl) | (simp [*, errW_none, errW_some] <;> rfl), by (with_reducible repeat (first | apply rA | apply rN | apply rZ)); exact HO232.out, by repeat (first | (with_reducible first | exact HB.out | apply bA | apply bN | apply bD | refine bS ?_ GE160.out) | exact HB.out)⟩
        ·rw [if_neg c68] at H
         exact absurd H (by simp)
       ·rw [if_neg c67] at H
        exact absurd H (by simp)
      ·rw [if_neg c66] at H
       exact absurd H (by simp)
     ·replace c65 := Bool.eq_false_iff.mpr c65
      subst c65
      have H1 : ((wire_Put.f kj60 ([] : List Int) x3_1).bind fun t233 => (some t233)) = some r := by rw [if_neg (show ¬ (false = true) by decide)] at H; exact H
      clear H
      have H := H1
      clear H1
      replace H := Option.bind_eq_some_iff.mp H
      obtain ⟨t233, A970, H⟩ := H
      replace H : (some t233) = some r := H
      have A97 := Aside0.mk A970
      clear A970
      obtain rfl := Option.some.inj H
      obtain ⟨Ao98, co98, eo98⟩ := Kd.R_slice HO_3.out
      subst eo98
      go_wp2_with (first | ((with_reducible refine gate_callee (f := 43) rfl ?_); refine goesL_ (some 126) rfl rfl Try.func43 (by kernel_rfl) rfl #[.slice none 0 0, .slice Ao98 x3_1.length co98] rfl (by (try simp only [List.map_toArray, List.map_cons, List.map_nil]); first | done | rfl | (simp only [List.length_drop, List.length_take]; rfl)) ?_; (refine (wire_Put.calls kj60 _ _ ([] : List Int) _ _ x3_1 t233 _ ?side1 ?side2 ?side3 ?side4 A97.out).mono ?_); (case side1 => exact Kd.C_nil _ _); (case side2 => exact Nat.le_refl _); (case side3 => repeat (first | exact (Kd.R_reads' HO_3.out).2.2 | (with_reducible refine qA ?_ _) | (with_reducible refine qN ?_ _) | (with_reducible refine qZ ?_))); (case side4 => exact (Kd.R_reads' HO_3.out).2.1); rintro e w99 ⟨v234, rfl, ho0, hb⟩; refine ⟨_, rfl, ?_⟩; have n0_ := Aside0.mk (Kd.R_below (by (with_reducible repeat (first | apply rA | apply rN | apply rZ)); exact HO_3.out) hb); have n1_ := Aside0.mk (Kd.R_lower ho0 (below_size (by repeat (first | (with_reducible first | exact HB.out | apply bA | apply bN | apply bD | refine bS ?_ GE160.out) | exact HB.out)))); have n2_ := Aside0.mk (blk_below (g := gb160) (o := .cells #[.int .i64 a0_0, .int .i64 a0_1, .int .i64 a0_2, .int .i64 a0_3, .int .i64 a0_4, .slice A0_5 l0_5.length c0_5, .slice A0_6 l0_6.length c0_6, .int .i64 a0_7, .slice A0_8 l0_8.length c0_8, .slice A0_9 l0_9.length c0_9] 30 (0, 0)) (by (with_reducible repeat (first | refine kN ?_ _ | refine kZ ?_ | refine kA ?_ _)); exact BK160.out) hb); have n3_ := Aside0.mk (below_step (by repeat (first | (with_reducible first | exact HB.out | apply bA | apply bN | apply bD | refine bS ?_ GE160.out) | exact HB.out)) hb); clear HO_3; clear BK160; clear HB; have HO_3 := n0_; have HO235 := n1_; have BK160 := n2_; have HB := n3_; clear n0_ n1_ n2_ n3_; (try clear hb); (try clear hb2); (try clear hk); (try clear hi); (try clear ho0)))
      go_ret
      exact ⟨_, by first | rfl | (simp [errW_none, errW_some] <;> rfl) | (simp [*, errW_none, errW_some] <;> rfl), by (with_reducible repeat (first | apply rA | apply rN | apply rZ)); exact HO235.out, by repeat (first | (with_reducible first | exact HB.out | apply bA | apply bN | apply bD | refine bS ?_ GE160.out) | exact HB.out)⟩
def record_Encode.f (k : Nat) (a0_0 : Int) (a0_1 : Int) (a0_2 : Int) (a0_3 : Int) (a0_4 : Int) (l0_5 : List Int) (l0_6 : List (S52)) (a0_7 : Int) (l0_8 : List (S54)) (l0_9 : List (S56)) : Option (List Int × Option Int) := (record_Check.f a0_0 a0_1 a0_2 a0_3 a0_4 l0_5 l0_6 a0_7 l0_8 l0_9).bind fun t237 => (if t237.isNone = true then ((record_write.f k a0_0 a0_1 a0_2 a0_3 a0_4 l0_5 l0_6 a0_7 l0_8 l0_9).bind fun t239 => (if (t239.length : Int) > 4096 then (some (([] : List Int), some 2)) else (some (t239, none)))) else (some (([] : List Int), some (t237.getD 0))))
set_option maxHeartbeats 8000000 in
set_option maxRecDepth 100000 in
theorem record_Encode.calls (k : Nat) (a0_0 : Int) (a0_1 : Int) (a0_2 : Int) (a0_3 : Int) (a0_4 : Int) (A0_5 : Option Addr) (c0_5 : Nat) (l0_5 : List Int) (A0_6 : Option Addr) (c0_6 : Nat) (l0_6 : List (S52)) (a0_7 : Int) (A0_8 : Option Addr) (c0_8 : Nat) (l0_8 : List (S54)) (A0_9 : Option Addr) (c0_9 : Nat) (l0_9 : List (S56)) (r1 : List Int) (r2 : Option Int) (w : World) (hr0_5 : Kd.C (Kd.int .i64) w A0_5 l0_5.length l0_5) (hc0_5 : l0_5.length ≤ c0_5) (hr0_6 : Kd.C k52 w A0_6 l0_6.length l0_6) (hc0_6 : l0_6.length ≤ c0_6) (hr0_8 : Kd.C k54 w A0_8 l0_8.length l0_8) (hc0_8 : l0_8.length ≤ c0_8) (hr0_9 : Kd.C k56 w A0_9 l0_9.length l0_9) (hc0_9 : l0_9.length ≤ c0_9) (h : record_Encode.f k a0_0 a0_1 a0_2 a0_3 a0_4 l0_5 l0_6 a0_7 l0_8 l0_9 = some (r1, r2)) :
  Calls Try.prog 18 #[.agg #[.int .i64 a0_0, .int .i64 a0_1, .int .i64 a0_2, .int .i64 a0_3, .int .i64 a0_4, .slice A0_5 l0_5.length c0_5, .slice A0_6 l0_6.length c0_6, .int .i64 a0_7, .slice A0_8 l0_8.length c0_8, .slice A0_9 l0_9.length c0_9]] w fun e w' => ∃ v0_ : Value, e = .returned (.tuple #[v0_, errW r2]) ∧ Kd.R (Kd.int .u8) 5 w' w.heap.size (fun _ => True) v0_ r1 ∧ Below w.heap.size w w' := by
 have hu30 := Try.underlying30
 have hu32 := Try.underlying32
 have hu44 := Try.underlying44
 have HR0_5 := Aside0.mk hr0_5
 have HC0_5 := Aside0.mk hc0_5
 clear hr0_5 hc0_5
 have HR0_6 := Aside0.mk hr0_6
 have HC0_6 := Aside0.mk hc0_6
 clear hr0_6 hc0_6
 have HR0_8 := Aside0.mk hr0_8
 have HC0_8 := Aside0.mk hc0_8
 clear hr0_8 hc0_8
 have HR0_9 := Aside0.mk hr0_9
 have HC0_9 := Aside0.mk hc0_9
 clear hr0_9 hc0_9
 have HB := Aside0.mk (Below.refl w.heap.size w)
 have H : ((record_Check.f a0_0 a0_1 a0_2 a0_3 a0_4 l0_5 l0_6 a0_7 l0_8 l0_9).bind fun t237 => (if t237.isNone = true then ((record_write.f k a0_0 a0_1 a0_2 a0_3 a0_4 l0_5 l0_6 a0_7 l0_8 l0_9).bind fun t239 => (if (t239.length : Int) > 4096 then (some (([] : List Int), some 2)) else (some (t239, none)))) else (some (([] : List Int), some (t237.getD 0))))) = some (r1, r2) := h
 clear h
 replace H := Option.bind_eq_some_iff.mp H
 obtain ⟨t237, A20, H⟩ := H
 replace H : (if t237.isNone = true then ((record_write.f k a0_0 a0_1 a0_2 a0_3 a0_4 l0_5 l0_6 a0_7 l0_8 l0_9).bind fun t239 => (if (t239.length : Int) > 4096 then (some (([] : List Int), some 2)) else (some (t239, none)))) else (some (([] : List Int), some (t237.getD 0)))) = some (r1, r2) := H
 have A2 := Aside0.mk A20
 clear A20
 rcases t237 with _ | q238
 ·have H1 : ((record_write.f k a0_0 a0_1 a0_2 a0_3 a0_4 l0_5 l0_6 a0_7 l0_8 l0_9).bind fun t239 => (if (t239.length : Int) > 4096 then (some (([] : List Int), some 2)) else (some (t239, none)))) = some (r1, r2) := by rw [if_pos (show (none : Option Int).isNone = true by rfl)] at H; exact H
  clear H
  have H := H1
  clear H1
  try simp only [errW_none, errW_some]
  replace H := Option.bind_eq_some_iff.mp H
  obtain ⟨t239, A30, H⟩ := H
  replace H : (if (t239.length : Int) > 4096 then (some (([] : List Int), some 2)) else (some (t239, none))) = some (r1, r2) := H
  have A3 := Aside0.mk A30
  clear A30
  by_cases c4 : (t239.length : Int) > 4096
  ·rw [if_pos c4] at H
   have c4b0 : decide (4096 < (t239.length : Int)) = true := decide_eq_true c4
   have c4b1 : decide (4096 < t239.length) = true := decide_eq_true (by omega)
   clear c4
   simp only [Option.some.injEq, Prod.mk.injEq] at H
   obtain ⟨rfl, rfl⟩ := H
   go_enter Try.func18, Try.ntmps18
   go_wp2_with (first | ((with_reducible refine gate_dst (N := 1) rfl ?_); refine box_event ?hg (N := 1) ?hd (cs := #[.int .i64 a0_0, .int .i64 a0_1, .int .i64 a0_2, .int .i64 a0_3, .int .i64 a0_4, .slice A0_5 l0_5.length c0_5, .slice A0_6 l0_6.length c0_6, .int .i64 a0_7, .slice A0_8 l0_8.length c0_8, .slice A0_9 l0_9.length c0_9]) (t := 30) ?hr ?_; (case hd => rfl); (case hg => rfl); (case hr => first | (go_simp; done) | (go_simp; rfl)); intro gb236 hg w5 hbox hb; have n0_ := Aside0.mk (below_step (by repeat (first | (with_reducible first | exact HB.out | apply bA | apply bN | apply bD) | exact HB.out)) hb); have n1_ := Aside0.mk (hbox); have n2_ := Aside0.mk ((by rw [hg]; exact (below_size (by repeat (first | (with_reducible first | exact HB.out | apply bA | apply bN | apply bD) | exact HB.out))) : w.heap.size ≤ gb236)); have n3_ := Aside0.mk ((by rw [hg]; exact (below_size (by repeat (first | (with_reducible first | exact HB.out | apply bA | apply bN | apply bD) | exact HB.out))) : w.heap.size ≤ gb236)); clear HB; have HB := n0_; have BK236 := n1_; have GW236 := n2_; have GE236 := n3_; clear n0_ n1_ n2_ n3_; clear hb hbox hg; obtain ⟨hcz6_0, hcz6_1, hcz6_2, hcz6_3, hcz6_4, hcz6_5, hcz6_6, hcz6_7, hcz6_8, hcz6_9⟩ := ten_cells BK236.out; have hfz6 := ten_free BK236.out) | ((with_reducible refine gate_callee (f := 20) rfl ?_); refine goesL_ (some 7) rfl rfl Try.func20 (by kernel_rfl) rfl #[.agg #[.int .i64 a0_0, .int .i64 a0_1, .int .i64 a0_2, .int .i64 a0_3, .int .i64 a0_4, .slice A0_5 l0_5.length c0_5, .slice A0_6 l0_6.length c0_6, .int .i64 a0_7, .slice A0_8 l0_8.length c0_8, .slice A0_9 l0_9.length c0_9]] rfl (by (try simp only [List.map_toArray, List.map_cons, List.map_nil]); first | done | rfl | (simp only [List.length_drop, List.length_take]; rfl)) ?_; (with_reducible refine (record_Check.calls a0_0 a0_1 a0_2 a0_3 a0_4 _ _ l0_5 _ _ l0_6 a0_7 _ _ l0_8 _ _ l0_9 none _ ?side1 ?side2 ?side3 ?side4 ?side5 ?side6 ?side7 ?side8 A2.out).mono ?_); (case side1 => repeat (first | exact (Kd.C_below HR0_5.out HB.out) | (with_reducible refine qA ?_ _) | (with_reducible refine qN ?_ _) | (with_reducible refine qZ ?_))); (case side2 => exact HC0_5.out); (case side3 => repeat (first | exact (Kd.C_below HR0_6.out HB.out) | (with_reducible refine qA ?_ _) | (with_reducible refine qN ?_ _) | (with_reducible refine qZ ?_))); (case side4 => exact HC0_6.out); (case side5 => repeat (first | exact (Kd.C_below HR0_8.out HB.out) | (with_reducible refine qA ?_ _) | (with_reducible refine qN ?_ _) | (with_reducible refine qZ ?_))); (case side6 => exact HC0_8.out); (case side7 => repeat (first | exact (Kd.C_below HR0_9.out HB.out) | (with_reducible refine qA ?_ _) | (with_reducible refine qN ?_ _) | (with_reducible refine qZ ?_))); (case side8 => exact HC0_9.out); rintro e w7 ⟨rfl, hb⟩; refine ⟨_, rfl, ?_⟩; have n0_ := Aside0.mk (blk_below (g := gb236) (o := .cells #[.int .i64 a0_0, .int .i64 a0_1, .int .i64 a0_2, .int .i64 a0_3, .int .i64 a0_4, .slice A0_5 l0_5.length c0_5, .slice A0_6 l0_6.length c0_6, .int .i64 a0_7, .slice A0_8 l0_8.length c0_8, .slice A0_9 l0_9.length c0_9] 30 (0, 0)) (by (with_reducible repeat (first | refine kN ?_ _ | refine kZ ?_ | refine kA ?_ _)); exact BK236.out) hb); have n1_ := Aside0.mk (below_step (by repeat (first | (with_reducible first | exact HB.out | apply bA | apply bN | apply bD | refine bS ?_ GE236.out) | exact HB.out)) hb); clear BK236; clear HB; have BK236 := n0_; have HB := n1_; clear n0_ n1_; (try clear hb); (try clear hb2); (try clear hk); (try clear hi); (try simp only [errW_none, errW_some]); obtain ⟨hcz8_0, hcz8_1, hcz8_2, hcz8_3, hcz8_4, hcz8_5, hcz8_6, hcz8_7, hcz8_8, hcz8_9⟩ := ten_cells BK236.out; have hfz8 := ten_free BK236.out) | ((with_reducible refine gate_callee (f := 30) rfl ?_); refine goesL_ (some 12) rfl rfl Try.func30 (by kernel_rfl) rfl #[.agg #[.int .i64 a0_0, .int .i64 a0_1, .int .i64 a0_2, .int .i64 a0_3, .int .i64 a0_4, .slice A0_5 l0_5.length c0_5, .slice A0_6 l0_6.length c0_6, .int .i64 a0_7, .slice A0_8 l0_8.length c0_8, .slice A0_9 l0_9.length c0_9]] rfl (by (try simp only [List.map_toArray, List.map_cons, List.map_nil]); first | done | rfl | (simp only [List.length_drop, List.length_take]; rfl)) ?_; (with_reducible refine (record_write.calls k a0_0 a0_1 a0_2 a0_3 a0_4 _ _ l0_5 _ _ l0_6 a0_7 _ _ l0_8 _ _ l0_9 t239 _ ?side1 ?side2 ?side3 ?side4 ?side5 ?side6 ?side7 ?side8 A3.out).mono ?_); (case side1 => repeat (first | exact (Kd.C_below HR0_5.out HB.out) | (with_reducible refine qA ?_ _) | (with_reducible refine qN ?_ _) | (with_reducible refine qZ ?_))); (case side2 => exact HC0_5.out); (case side3 => repeat (first | exact (Kd.C_below HR0_6.out HB.out) | (with_reducible refine qA ?_ _) | (with_reducible refine qN ?_ _) | (with_reducible refine qZ ?_))); (case side4 => exact HC0_6.out); (case side5 => repeat (first | exact (Kd.C_below HR0_8.out HB.out) | (with_reducible refine qA ?_ _) | (with_reducible refine qN ?_ _) | (with_reducible refine qZ ?_))); (case side6 => exact HC0_8.out); (case side7 => repeat (first | exact (Kd.C_below HR0_9.out HB.out) | (with_reducible refine qA ?_ _) | (with_reducible refine qN ?_ _) | (with_reducible refine qZ ?_))); (case side8 => exact HC0_9.out); rintro e w9 ⟨v240, rfl, ho0, hb⟩; refine ⟨_, rfl, ?_⟩; have n0_ := Aside0.mk (Kd.R_lower ho0 (below_size (by repeat (first | (with_reducible first | exact HB.out | apply bA | apply bN | apply bD | refine bS ?_ GE236.out) | exact HB.out)))); have n1_ := Aside0.mk (blk_below (g := gb236) (o := .cells #[.int .i64 a0_0, .int .i64 a0_1, .int .i64 a0_2, .int .i64 a0_3, .int .i64 a0_4, .slice A0_5 l0_5.length c0_5, .slice A0_6 l0_6.length c0_6, .int .i64 a0_7, .slice A0_8 l0_8.length c0_8, .slice A0_9 l0_9.length c0_9] 30 (0, 0)) (by (with_reducible repeat (first | refine kN ?_ _ | refine kZ ?_ | refine kA ?_ _)); exact BK236.out) hb); have n2_ := Aside0.mk (below_step (by repeat (first | (with_reducible first | exact HB.out | apply bA | apply bN | apply bD | refine bS ?_ GE236.out) | exact HB.out)) hb); clear BK236; clear HB; have HO241 := n0_; have BK236 := n1_; have HB := n2_; clear n0_ n1_ n2_; (try clear hb); (try clear hb2); (try clear hk); (try clear hi); (try clear ho0); obtain ⟨Ao10, co10, eo10⟩ := Kd.R_slice HO241.out; subst eo10))
   go_ret2
   exact ⟨_, by first | rfl | (simp [errW_none, errW_some] <;> rfl) | (simp [*, errW_none, errW_some] <;> rfl), by first | exact Kd.R_nil _ _ _ _ _ | exact Kd.N_nil _ _ _ _ _ | exact Kd.V_nil _ _ _ _ _ | exact Kd.Q_nil _ _ _ _ _ | exact Kd.S_nil _ _ _ _ _, by repeat (first | (with_reducible first | exact HB.out | apply bA | apply bN | apply bD | refine bS ?_ GE236.out) | exact HB.out)⟩
  ·rw [if_neg c4] at H
   have c4b0 : decide (4096 < (t239.length : Int)) = false := decide_eq_false c4
   have c4b1 : decide (4096 < t239.length) = false := decide_eq_false (by omega)
   clear c4
   simp only [Option.some.injEq, Prod.mk.injEq] at H
   obtain ⟨rfl, rfl⟩ := H
   go_enter Try.func18, Try.ntmps18
   go_wp2_with (first | ((with_reducible refine gate_dst (N := 1) rfl ?_); refine box_event ?hg (N := 1) ?hd (cs := #[.int .i64 a0_0, .int .i64 a0_1, .int .i64 a0_2, .int .i64 a0_3, .int .i64 a0_4, .slice A0_5 l0_5.length c0_5, .slice A0_6 l0_6.length c0_6, .int .i64 a0_7, .slice A0_8 l0_8.length c0_8, .slice A0_9 l0_9.length c0_9]) (t := 30) ?hr ?_; (case hd => rfl); (case hg => rfl); (case hr => first | (go_simp; done) | (go_simp; rfl)); intro gb236 hg w11 hbox hb; have n0_ := Aside0.mk (below_step (by repeat (first | (with_reducible first | exact HB.out | apply bA | apply bN | apply bD) | exact HB.out)) hb); have n1_ := Aside0.mk (hbox); have n2_ := Aside0.mk ((by rw [hg]; exact (below_size (by repeat (first | (with_reducible first | exact HB.out | apply bA | apply bN | apply bD) | exact HB.out))) : w.heap.size ≤ gb236)); have n3_ := Aside0.mk ((by rw [hg]; exact (below_size (by repeat (first | (with_reducible first | exact HB.out | apply bA | apply bN | apply bD) | exact HB.out))) : w.heap.size ≤ gb236)); clear HB; have HB := n0_; have BK236 := n1_; have GW236 := n2_; have GE236 := n3_; clear n0_ n1_ n2_ n3_; clear hb hbox hg; obtain ⟨hcz12_0, hcz12_1, hcz12_2, hcz12_3, hcz12_4, hcz12_5, hcz12_6, hcz12_7, hcz12_8, hcz12_9⟩ := ten_cells BK236.out; have hfz12 := ten_free BK236.out) | ((with_reducible refine gate_callee (f := 20) rfl ?_); refine goesL_ (some 7) rfl rfl Try.func20 (by kernel_rfl) rfl #[.agg #[.int .i64 a0_0, .int .i64 a0_1, .int .i64 a0_2, .int .i64 a0_3, .int .i64 a0_4, .slice A0_5 l0_5.length c0_5, .slice A0_6 l0_6.length c0_6, .int .i64 a0_7, .slice A0_8 l0_8.length c0_8, .slice A0_9 l0_9.length c0_9]] rfl (by (try simp only [List.map_toArray, List.map_cons, List.map_nil]); first | done | rfl | (simp only [List.length_drop, List.length_take]; rfl)) ?_; (with_reducible refine (record_Check.calls a0_0 a0_1 a0_2 a0_3 a0_4 _ _ l0_5 _ _ l0_6 a0_7 _ _ l0_8 _ _ l0_9 none _ ?side1 ?side2 ?side3 ?side4 ?side5 ?side6 ?side7 ?side8 A2.out).mono ?_); (case side1 => repeat (first | exact (Kd.C_below HR0_5.out HB.out) | (with_reducible refine qA ?_ _) | (with_reducible refine qN ?_ _) | (with_reducible refine qZ ?_))); (case side2 => exact HC0_5.out); (case side3 => repeat (first | exact (Kd.C_below HR0_6.out HB.out) | (with_reducible refine qA ?_ _) | (with_reducible refine qN ?_ _) | (with_reducible refine qZ ?_))); (case side4 => exact HC0_6.out); (case side5 => repeat (first | exact (Kd.C_below HR0_8.out HB.out) | (with_reducible refine qA ?_ _) | (with_reducible refine qN ?_ _) | (with_reducible refine qZ ?_))); (case side6 => exact HC0_8.out); (case side7 => repeat (first | exact (Kd.C_below HR0_9.out HB.out) | (with_reducible refine qA ?_ _) | (with_reducible refine qN ?_ _) | (with_reducible refine qZ ?_))); (case side8 => exact HC0_9.out); rintro e w13 ⟨rfl, hb⟩; refine ⟨_, rfl, ?_⟩; have n0_ := Aside0.mk (blk_below (g := gb236) (o := .cells #[.int .i64 a0_0, .int .i64 a0_1, .int .i64 a0_2, .int .i64 a0_3, .int .i64 a0_4, .slice A0_5 l0_5.length c0_5, .slice A0_6 l0_6.length c0_6, .int .i64 a0_7, .slice A0_8 l0_8.length c0_8, .slice A0_9 l0_9.length c0_9] 30 (0, 0)) (by (with_reducible repeat (first | refine kN ?_ _ | refine kZ ?_ | refine kA ?_ _)); exact BK236.out) hb); have n1_ := Aside0.mk (below_step (by repeat (first | (with_reducible first | exact HB.out | apply bA | apply bN | apply bD | refine bS ?_ GE236.out) | exact HB.out)) hb); clear BK236; clear HB; have BK236 := n0_; have HB := n1_; clear n0_ n1_; (try clear hb); (try clear hb2); (try clear hk); (try clear hi); (try simp only [errW_none, errW_some]); obtain ⟨hcz14_0, hcz14_1, hcz14_2, hcz14_3, hcz14_4, hcz14_5, hcz14_6, hcz14_7, hcz14_8, hcz14_9⟩ := ten_cells BK236.out; have hfz14 := ten_free BK236.out) | ((with_reducible refine gate_callee (f := 30) rfl ?_); refine goesL_ (some 12) rfl rfl Try.func30 (by kernel_rfl) rfl #[.agg #[.int .i64 a0_0, .int .i64 a0_1, .int .i64 a0_2, .int .i64 a0_3, .int .i64 a0_4, .slice A0_5 l0_5.length c0_5, .slice A0_6 l0_6.length c0_6, .int .i64 a0_7, .slice A0_8 l0_8.length c0_8, .slice A0_9 l0_9.length c0_9]] rfl (by (try simp only [List.map_toArray, List.map_cons, List.map_nil]); first | done | rfl | (simp only [List.length_drop, List.length_take]; rfl)) ?_; (with_reducible refine (record_write.calls k a0_0 a0_1 a0_2 a0_3 a0_4 _ _ l0_5 _ _ l0_6 a0_7 _ _ l0_8 _ _ l0_9 t239 _ ?side1 ?side2 ?side3 ?side4 ?side5 ?side6 ?side7 ?side8 A3.out).mono ?_); (case side1 => repeat (first | exact (Kd.C_below HR0_5.out HB.out) | (with_reducible refine qA ?_ _) | (with_reducible refine qN ?_ _) | (with_reducible refine qZ ?_))); (case side2 => exact HC0_5.out); (case side3 => repeat (first | exact (Kd.C_below HR0_6.out HB.out) | (with_reducible refine qA ?_ _) | (with_reducible refine qN ?_ _) | (with_reducible refine qZ ?_))); (case side4 => exact HC0_6.out); (case side5 => repeat (first | exact (Kd.C_below HR0_8.out HB.out) | (with_reducible refine qA ?_ _) | (with_reducible refine qN ?_ _) | (with_reducible refine qZ ?_))); (case side6 => exact HC0_8.out); (case side7 => repeat (first | exact (Kd.C_below HR0_9.out HB.out) | (with_reducible refine qA ?_ _) | (with_reducible refine qN ?_ _) | (with_reducible refine qZ ?_))); (case side8 => exact HC0_9.out); rintro e w15 ⟨v240, rfl, ho0, hb⟩; refine ⟨_, rfl, ?_⟩; have n0_ := Aside0.mk (Kd.R_lower ho0 (below_size (by repeat (first | (with_reducible first | exact HB.out | apply bA | apply bN | apply bD | refine bS ?_ GE236.out) | exact HB.out)))); have n1_ := Aside0.mk (blk_below (g := gb236) (o := .cells #[.int .i64 a0_0, .int .i64 a0_1, .int .i64 a0_2, .int .i64 a0_3, .int .i64 a0_4, .slice A0_5 l0_5.length c0_5, .slice A0_6 l0_6.length c0_6, .int .i64 a0_7, .slice A0_8 l0_8.length c0_8, .slice A0_9 l0_9.length c0_9] 30 (0, 0)) (by (with_reducible repeat (first | refine kN ?_ _ | refine kZ ?_ | refine kA ?_ _)); exact BK236.out) hb); have n2_ := Aside0.mk (below_step (by repeat (first | (with_reducible first | exact HB.out | apply bA | apply bN | apply bD | refine bS ?_ GE236.out) | exact HB.out)) hb); clear BK236; clear HB; have HO241 := n0_; have BK236 := n1_; have HB := n2_; clear n0_ n1_ n2_; (try clear hb); (try clear hb2); (try clear hk); (try clear hi); (try clear ho0); obtain ⟨Ao16, co16, eo16⟩ := Kd.R_slice HO241.out; subst eo16))
   go_ret2
   exact ⟨_, by first | rfl | (simp [errW_none, errW_some] <;> rfl) | (simp [*, errW_none, errW_some] <;> rfl), by (with_reducible repeat (first | apply rA | apply rN | apply rZ)); exact HO241.out, by repeat (first | (with_reducible first | exact HB.out | apply bA | apply bN | apply bD | refine bS ?_ GE236.out) | exact HB.out)⟩
 ·have H1 : (some (([] : List Int), some q238)) = some (r1, r2) := by rw [if_neg (show ¬ (some q238).isNone = true by simp)] at H; exact H
  clear H
  have H := H1
  clear H1
  try simp only [errW_none, errW_some]
  simp only [Option.some.injEq, Prod.mk.injEq] at H
  obtain ⟨rfl, rfl⟩ := H
  go_enter Try.func18, Try.ntmps18
  go_wp2_with (first | ((with_reducible refine gate_dst (N := 1) rfl ?_); refine box_event ?hg (N := 1) ?hd (cs := #[.int .i64 a0_0, .int .i64 a0_1, .int .i64 a0_2, .int .i64 a0_3, .int .i64 a0_4, .slice A0_5 l0_5.length c0_5, .slice A0_6 l0_6.length c0_6, .int .i64 a0_7, .slice A0_8 l0_8.length c0_8, .slice A0_9 l0_9.length c0_9]) (t := 30) ?hr ?_; (case hd => rfl); (case hg => rfl); (case hr => first | (go_simp; done) | (go_simp; rfl)); intro gb236 hg w17 hbox hb; have n0_ := Aside0.mk (below_step (by repeat (first | (with_reducible first | exact HB.out | apply bA | apply bN | apply bD) | exact HB.out)) hb); have n1_ := Aside0.mk (hbox); have n2_ := Aside0.mk ((by rw [hg]; exact (below_size (by repeat (first | (with_reducible first | exact HB.out | apply bA | apply bN | apply bD) | exact HB.out))) : w.heap.size ≤ gb236)); have n3_ := Aside0.mk ((by rw [hg]; exact (below_size (by repeat (first | (with_reducible first | exact HB.out | apply bA | apply bN | apply bD) | exact HB.out))) : w.heap.size ≤ gb236)); clear HB; have HB := n0_; have BK236 := n1_; have GW236 := n2_; have GE236 := n3_; clear n0_ n1_ n2_ n3_; clear hb hbox hg; obtain ⟨hcz18_0, hcz18_1, hcz18_2, hcz18_3, hcz18_4, hcz18_5, hcz18_6, hcz18_7, hcz18_8, hcz18_9⟩ := ten_cells BK236.out; have hfz18 := ten_free BK236.out) | ((with_reducible refine gate_callee (f := 20) rfl ?_); refine goesL_ (some 7) rfl rfl Try.func20 (by kernel_rfl) rfl #[.agg #[.int .i64 a0_0, .int .i64 a0_1, .int .i64 a0_2, .int .i64 a0_3, .int .i64 a0_4, .slice A0_5 l0_5.length c0_5, .slice A0_6 l0_6.length c0_6, .int .i64 a0_7, .slice A0_8 l0_8.length c0_8, .slice A0_9 l0_9.length c0_9]] rfl (by (try simp only [List.map_toArray, List.map_cons, List.map_nil]); first | done | rfl | (simp only [List.length_drop, List.length_take]; rfl)) ?_; (with_reducible refine (record_Check.calls a0_0 a0_1 a0_2 a0_3 a0_4 _ _ l0_5 _ _ l0_6 a0_7 _ _ l0_8 _ _ l0_9 (some q238) _ ?side1 ?side2 ?side3 ?side4 ?side5 ?side6 ?side7 ?side8 A2.out).mono ?_); (case side1 => repeat (first | exact (Kd.C_below HR0_5.out HB.out) | (with_reducible refine qA ?_ _) | (with_reducible refine qN ?_ _) | (with_reducible refine qZ ?_))); (case side2 => exact HC0_5.out); (case side3 => repeat (first | exact (Kd.C_below HR0_6.out HB.out) | (with_reducible refine qA ?_ _) | (with_reducible refine qN ?_ _) | (with_reducible refine qZ ?_))); (case side4 => exact HC0_6.out); (case side5 => repeat (first | exact (Kd.C_below HR0_8.out HB.out) | (with_reducible refine qA ?_ _) | (with_reducible refine qN ?_ _) | (with_reducible refine qZ ?_))); (case side6 => exact HC0_8.out); (case side7 => repeat (first | exact (Kd.C_below HR0_9.out HB.out) | (with_reducible refine qA ?_ _) | (with_reducible refine qN ?_ _) | (with_reducible refine qZ ?_))); (case side8 => exact HC0_9.out); rintro e w19 ⟨rfl, hb⟩; refine ⟨_, rfl, ?_⟩; have n0_ := Aside0.mk (blk_below (g := gb236) (o := .cells #[.int .i64 a0_0, .int .i64 a0_1, .int .i64 a0_2, .int .i64 a0_3, .int .i64 a0_4, .slice A0_5 l0_5.length c0_5, .slice A0_6 l0_6.length c0_6, .int .i64 a0_7, .slice A0_8 l0_8.length c0_8, .slice A0_9 l0_9.length c0_9] 30 (0, 0)) (by (with_reducible repeat (first | refine kN ?_ _ | refine kZ ?_ | refine kA ?_ _)); exact BK236.out) hb); have n1_ := Aside0.mk (below_step (by repeat (first | (with_reducible first | exact HB.out | apply bA | apply bN | apply bD | refine bS ?_ GE236.out) | exact HB.out)) hb); clear BK236; clear HB; have BK236 := n0_; have HB := n1_; clear n0_ n1_; (try clear hb); (try clear hb2); (try clear hk); (try clear hi); (try simp only [errW_none, errW_some])))
  go_ret2
  exact ⟨_, by first | rfl | (simp [errW_none, errW_some] <;> rfl) | (simp [*, errW_none, errW_some] <;> rfl), by first | exact Kd.R_nil _ _ _ _ _ | exact Kd.N_nil _ _ _ _ _ | exact Kd.V_nil _ _ _ _ _ | exact Kd.Q_nil _ _ _ _ _ | exact Kd.S_nil _ _ _ _ _, by repeat (first | (with_reducible first | exact HB.out | apply bA | apply bN | apply bD | refine bS ?_ GE236.out) | exact HB.out)⟩
end Go.Proofs.Ytcplblpmgajmnaa.A
namespace Go.Proofs.Ytcplblpmgajmnaa.A
open Go.RowKit Go.Proofs.YtcplblpmgajmnaaW.PrintWords Go.Proofs.YtcplblpmgajmnaaW.PrintLast Go.Proofs.YtcplblpmgajmnaaW.PrintMore
set_option linter.unusedVariables false
set_option linter.unusedSimpArgs false
def imgNums (l : List S52) : List Int := l.flatMap fun x => [x.f0, x.f1]
def dirtyNums (l : List S54) : List Int := l.flatMap fun x => [x.f0, x.f1]
def activeNums (l : List S56) : List Int := l.flatMap fun x => [x.f0, x.f1, x.f2, x.f3]
theorem imgNums_len (l : List S52) : (imgNums l).length = 2 * l.length := by
  induction l with
  | nil => rfl
  | cons x l ih => simp [imgNums] at ih ⊢; omega
theorem dirtyNums_len (l : List S54) : (dirtyNums l).length = 2 * l.length := by
  induction l with
  | nil => rfl
  | cons x l ih => simp [dirtyNums] at ih ⊢; omega
theorem activeNums_len (l : List S56) : (activeNums l).length = 4 * l.length := by
  induction l with
  | nil => rfl
  | cons x l ih => simp [activeNums] at ih ⊢; omega
structure Rec where
  k : Int
  t : Int
  p : Int
  g : Int
  o : Int
  args : List Int
  imgs : List S52
  n : Int
  di : List S54
  ac : List S56
  deriving DecidableEq
def Rec.zero : Rec := ⟨0, 0, 0, 0, 0, [], [], 0, [], []⟩
def Rec.body (r : Rec) : List Int := [r.g, r.o, (r.args.length : Int)] ++ r.args ++ [(r.imgs.length : Int)] ++ imgNums r.imgs
def Rec.nums (r : Rec) : List Int :=
  if r.k = 5 then [r.k, (r.di.length : Int)] ++ dirtyNums r.di ++ [(r.ac.length : Int)] ++ activeNums r.ac
  else if r.k = 2 then [r.k, r.t, r.p, r.n] ++ r.body
  else if r.k = 1 then [r.k, r.t, r.p] ++ r.body
  else [r.k, r.t, r.p]
def Rec.bytes (r : Rec) : List Int := r.nums.flatMap enc
def Rec.Ok (r : Rec) : Prop := Form r.k r.t r.p r.g r.o r.args r.imgs r.n r.di r.ac
instance (r : Rec) : Decidable r.Ok := by unfold Rec.Ok; infer_instance
structure Rec.Fits (r : Rec) : Prop where
  k : I64 r.k
  t : I64 r.t
  p : I64 r.p
  g : I64 r.g
  o : I64 r.o
  n : I64 r.n
  args : ∀ x ∈ r.args, I64 x
  imgs : ∀ x ∈ r.imgs, I64 x.f0 ∧ I64 x.f1
  di : ∀ x ∈ r.di, I64 x.f0 ∧ I64 x.f1
  ac : ∀ x ∈ r.ac, I64 x.f0 ∧ I64 x.f1 ∧ I64 x.f2 ∧ I64 x.f3
  largs : r.args.length ≤ 5000
  limgs : r.imgs.length ≤ 5000
  ldi : r.di.length ≤ 5000
  lac : r.ac.length ≤ 5000
theorem i64_nat {n : Nat} (h : n ≤ 5000) : I64 (n : Int) := ⟨by omega, by omega⟩
theorem imgNums_fits {l : List S52} (h : ∀ x ∈ l, I64 x.f0 ∧ I64 x.f1) : ∀ x ∈ imgNums l, I64 x := by
  intro x hx
  obtain ⟨y, hy, hx⟩ := List.mem_flatMap.1 hx
  have := h y hy
  simp at hx
  rcases hx with rfl | rfl <;> simp [this]
theorem dirtyNums_fits {l : List S54} (h : ∀ x ∈ l, I64 x.f0 ∧ I64 x.f1) : ∀ x ∈ dirtyNums l, I64 x := by
  intro x hx
  obtain ⟨y, hy, hx⟩ := List.mem_flatMap.1 hx
  have := h y hy
  simp at hx
  rcases hx with rfl | rfl <;> simp [this]
theorem activeNums_fits {l : List S56} (h : ∀ x ∈ l, I64 x.f0 ∧ I64 x.f1 ∧ I64 x.f2 ∧ I64 x.f3) : ∀ x ∈ activeNums l, I64 x := by
  intro x hx
  obtain ⟨y, hy, hx⟩ := List.mem_flatMap.1 hx
  have := h y hy
  simp at hx
  rcases hx with rfl | rfl | rfl | rfl <;> simp [this]
theorem Rec.Fits.body_fits {r : Rec} (h : r.Fits) : ∀ x ∈ r.body, I64 x := by
  intro x hx
  simp only [Rec.body, List.mem_append, List.mem_cons, List.not_mem_nil, or_false] at hx
  rcases hx with (((rfl | rfl | rfl) | hx) | rfl) | hx
  · exact h.g
  · exact h.o
  · exact i64_nat h.largs
  · exact h.args x hx
  · exact i64_nat h.limgs
  · exact imgNums_fits h.imgs x hx
theorem Rec.Fits.nums_fits {r : Rec} (h : r.Fits) : ∀ x ∈ r.nums, I64 x := by
  intro x hx
  unfold Rec.nums at hx
  split at hx
  · simp only [List.mem_append, List.mem_cons, List.not_mem_nil, or_false] at hx
    rcases hx with (((rfl | rfl) | hx) | rfl) | hx
    · exact h.k
    · exact i64_nat h.ldi
    · exact dirtyNums_fits h.di x hx
    · exact i64_nat h.lac
    · exact activeNums_fits h.ac x hx
  · split at hx
    · simp only [List.mem_append, List.mem_cons, List.not_mem_nil, or_false] at hx
      rcases hx with (rfl | rfl | rfl | rfl) | hx
      · exact h.k
      · exact h.t
      · exact h.p
      · exact h.n
      · exact h.body_fits x hx
    · split at hx
      · simp only [List.mem_append, List.mem_cons, List.not_mem_nil, or_false] at hx
        rcases hx with (rfl | rfl | rfl) | hx
        · exact h.k
        · exact h.t
        · exact h.p
        · exact h.body_fits x hx
      · simp only [List.mem_cons, List.not_mem_nil, or_false] at hx
        rcases hx with rfl | rfl | rfl
        · exact h.k
        · exact h.t
        · exact h.p
theorem Put_f {xs : List Int} (hr : ∀ x ∈ xs, I64 x) (hl : xs.length ≤ 50000) (k : Nat) (hk : 11 * xs.length < k) : wire_Put.f k [] xs = some (xs.flatMap enc) := by
  unfold wire_Put.f slices_Clone_byte_byte.f
  rw [if_pos (by simp), Option.bind_some, put_f [] xs hr (by omega) (by simp; omega) k hk]
  rfl
theorem write_l2 (im : List S52) (hl : im.length ≤ 5000) : ∀ (d i k : Nat) (acc : List Int), i + d = im.length → (∀ x ∈ acc ++ imgNums (im.drop i), I64 x) → acc.length + 2 * d ≤ 50000 → 600000 + d < k →
    record_write.l2 k acc im (im.length : Int) (i : Int) = some ((acc ++ imgNums (im.drop i)).flatMap enc) := by
  intro d
  induction d with
  | zero =>
    intro i k acc hd hr ha hk
    obtain ⟨k, rfl⟩ : ∃ m, k = m + 1 := ⟨k - 1, by omega⟩
    rw [List.drop_eq_nil_of_le (by omega)] at hr ⊢
    simp only [imgNums, List.flatMap_nil, List.append_nil] at hr ⊢
    rw [record_write.l2, if_neg (by omega), Put_f hr (by omega) k (by omega)]
    rfl
  | succ d ih =>
    intro i k acc hd hr ha hk
    obtain ⟨k, rfl⟩ : ∃ m, k = m + 1 := ⟨k - 1, by omega⟩
    have hlt : i < im.length := by omega
    have e : imgNums (im.drop i) = [(rd_T52 im (i : Int)).f0, (rd_T52 im (i : Int)).f1] ++ imgNums (im.drop (i + 1)) := by
      rw [List.drop_eq_getElem_cons hlt]
      have : rd_T52 im (i : Int) = im[i] := by
        show im.getD i z52 = _
        rw [List.getD_eq_getElem?_getD, List.getElem?_eq_getElem hlt]; rfl
      rw [this]
      rfl
    rw [e, ← List.append_assoc] at hr ⊢
    rw [record_write.l2, if_pos (by omega), if_pos (by omega), if_pos (by omega), Option.bind_some, if_pos (by simp; omega), wr_succ hlt (by omega), ih (i + 1) k _ (by omega) hr (by simp; omega) (by omega)]
theorem write_l1 (ac : List S56) (hl : ac.length ≤ 5000) : ∀ (d i k : Nat) (acc : List Int), i + d = ac.length → (∀ x ∈ acc ++ activeNums (ac.drop i), I64 x) → acc.length + 4 * d ≤ 50000 → 600000 + d < k →
    record_write.l1 k acc ac (ac.length : Int) (i : Int) = some ((acc ++ activeNums (ac.drop i)).flatMap enc) := by
  intro d
  induction d with
  | zero =>
    intro i k acc hd hr ha hk
    obtain ⟨k, rfl⟩ : ∃ m, k = m + 1 := ⟨k - 1, by omega⟩
    rw [List.drop_eq_nil_of_le (by omega)] at hr ⊢
    simp only [activeNums, List.flatMap_nil, List.append_nil] at hr ⊢
    rw [record_write.l1, if_neg (by omega), Put_f hr (by omega) k (by omega)]
    rfl
  | succ d ih =>
    intro i k acc hd hr ha hk
    obtain ⟨k, rfl⟩ : ∃ m, k = m + 1 := ⟨k - 1, by omega⟩
    have hlt : i < ac.length := by omega
    have e : activeNums (ac.drop i) = [(rd_T56 ac (i : Int)).f0, (rd_T56 ac (i : Int)).f1, (rd_T56 ac (i : Int)).f2, (rd_T56 ac (i : Int)).f3] ++ activeNums (ac.drop (i + 1)) := by
      rw [List.drop_eq_getElem_cons hlt]
      have : rd_T56 ac (i : Int) = ac[i] := by
        show ac.getD i z56 = _
        rw [List.getD_eq_getElem?_getD, List.getElem?_eq_getElem hlt]; rfl
      rw [this]
      rfl
    rw [e, ← List.append_assoc] at hr ⊢
    rw [record_write.l1, if_pos (by omega), if_pos (by omega), if_pos (by omega), Option.bind_some, if_pos (by simp; omega), wr_succ hlt (by omega), ih (i + 1) k _ (by omega) hr (by simp; omega) (by omega)]
theorem write_l0 (a0 a1 a2 a3 a4 : Int) (a5 : List Int) (a6 : List S52) (a7 : Int) (a8 : List S54) (di : List S54) (ac : List S56) (hl : di.length ≤ 5000) (hla : ac.length ≤ 5000) : ∀ (d i k : Nat) (acc : List Int), i + d = di.length →
    (∀ x ∈ acc ++ dirtyNums (di.drop i) ++ [(ac.length : Int)] ++ activeNums ac, I64 x) → acc.length + 2 * d ≤ 20000 → 610000 + d < k →
    record_write.l0 k acc di (di.length : Int) (i : Int) a0 a1 a2 a3 a4 a5 a6 a7 a8 ac = some ((acc ++ dirtyNums (di.drop i) ++ [(ac.length : Int)] ++ activeNums ac).flatMap enc) := by
  intro d
  induction d with
  | zero =>
    intro i k acc hd hr ha hk
    obtain ⟨k, rfl⟩ : ∃ m, k = m + 1 := ⟨k - 1, by omega⟩
    rw [List.drop_eq_nil_of_le (by omega)] at hr ⊢
    simp only [dirtyNums, List.flatMap_nil, List.append_nil] at hr ⊢
    rw [record_write.l0, if_neg (by omega), Option.bind_some, if_pos (by simp; omega)]
    exact write_l1 ac hla ac.length 0 k _ (by omega) hr (by simp; omega) (by omega)
  | succ d ih =>
    intro i k acc hd hr ha hk
    obtain ⟨k, rfl⟩ : ∃ m, k = m + 1 := ⟨k - 1, by omega⟩
    have hlt : i < di.length := by omega
    have e : dirtyNums (di.drop i) = [(rd_T54 di (i : Int)).f0, (rd_T54 di (i : Int)).f1] ++ dirtyNums (di.drop (i + 1)) := by
      rw [List.drop_eq_getElem_cons hlt]
      have : rd_T54 di (i : Int) = di[i] := by
        show di.getD i z54 = _
        rw [List.getD_eq_getElem?_getD, List.getElem?_eq_getElem hlt]; rfl
      rw [this]
      rfl
    rw [e, ← List.append_assoc] at hr ⊢
    rw [record_write.l0, if_pos (by omega), if_pos (by omega), if_pos (by omega), Option.bind_some, if_pos (by simp; omega), wr_succ hlt (by omega), ih (i + 1) k _ (by omega) hr (by simp; omega) (by omega)]
theorem write_j3 {r : Rec} (h : r.Fits) (acc : List Int) (b : Bool) (a0 a1 a2 : Int) (a7 : Int) (a8 : List S54) (a9 : List S56) (hr : ∀ x ∈ acc, I64 x) (ha : acc.length ≤ 10) (k : Nat) (hk : 620000 < k) :
    record_write.j3 k acc b a0 a1 a2 r.g r.o r.args r.imgs a7 a8 a9 = some ((if b = true then acc ++ r.body else acc).flatMap enc) := by
  obtain ⟨k, rfl⟩ : ∃ m, k = m + 1 := ⟨k - 1, by omega⟩
  have h1 := h.largs
  have h2 := h.limgs
  rw [record_write.j3]
  cases b with
  | false => rw [if_neg (by simp), if_neg (by simp), Put_f hr (by omega) k (by omega)]; rfl
  | true =>
    rw [if_pos rfl, if_pos rfl, Option.bind_some, if_pos (by simp; omega), Option.bind_some, if_pos (by simp; omega), Option.bind_some, Option.bind_some, if_pos (by simp; omega)]
    have e : acc ++ [r.g, r.o, (r.args.length : Int)] ++ r.args ++ [(r.imgs.length : Int)] ++ imgNums (r.imgs.drop 0) = acc ++ r.body := by simp [Rec.body]
    have hf : ∀ x ∈ acc ++ r.body, I64 x := fun x hx => (List.mem_append.1 hx).elim (hr x) (h.body_fits x)
    have := write_l2 r.imgs h2 r.imgs.length 0 k (acc ++ [r.g, r.o, (r.args.length : Int)] ++ r.args ++ [(r.imgs.length : Int)]) (by omega) (by rw [e]; exact hf) (by simp; omega) (by omega)
    rw [e] at this
    exact this
theorem write_f {r : Rec} (h : r.Fits) (k : Nat) (hk : 700000 < k) : record_write.f k r.k r.t r.p r.g r.o r.args r.imgs r.n r.di r.ac = some r.bytes := by
  have hf := h.nums_fits
  unfold record_write.f Rec.bytes
  rw [Option.bind_some]
  by_cases h5 : r.k = 5
  · have en : r.nums = [r.k, (r.di.length : Int)] ++ dirtyNums r.di ++ [(r.ac.length : Int)] ++ activeNums r.ac := by unfold Rec.nums; rw [if_pos h5]
    rw [en] at hf ⊢
    rw [if_pos h5, Option.bind_some, if_pos (by simp)]
    exact write_l0 _ _ _ _ _ _ _ _ _ r.di r.ac h.ldi h.lac r.di.length 0 k _ (by omega) hf (by have := h.ldi; simp; omega) (by have := h.ldi; omega)
  · obtain ⟨k, rfl⟩ : ∃ m, k = m + 1 := ⟨k - 1, by omega⟩
    rw [if_neg h5]
    by_cases h2 : r.k = 2
    · rw [if_pos h2, Option.bind_some, if_pos (by simp), record_write.j2, if_neg (by omega), write_j3 h _ _ _ _ _ _ _ _ (by intro x hx; exact hf x (by unfold Rec.nums; rw [if_neg h5, if_pos h2]; exact List.mem_append_left _ hx)) (by simp) k (by omega)]
      unfold Rec.nums
      rw [if_neg h5, if_pos h2, if_pos (by simp [h2])]
      rfl
    · rw [if_neg h2, Option.bind_some, if_pos (by simp), record_write.j2]
      by_cases h1 : r.k = 1
      · rw [if_pos h1, write_j3 h _ _ _ _ _ _ _ _ (by intro x hx; exact hf x (by unfold Rec.nums; rw [if_neg h5, if_neg h2, if_pos h1]; exact List.mem_append_left _ hx)) (by simp) k (by omega)]
        unfold Rec.nums
        rw [if_neg h5, if_neg h2, if_pos h1, if_pos rfl]
        rfl
      · rw [if_neg h1, write_j3 h _ _ _ _ _ _ _ _ (by intro x hx; exact hf x (by unfold Rec.nums; rw [if_neg h5, if_neg h2, if_neg h1]; exact hx)) (by simp) k (by omega)]
        unfold Rec.nums
        rw [if_neg h5, if_neg h2, if_neg h1, if_neg (by simp [h2])]
        rfl
def Rec.enc (r : Rec) : List Int × Option Int := if r.Ok then (if r.bytes.length > 4096 then ([], some 2) else (r.bytes, none)) else ([], some 2)
theorem Encode_f {r : Rec} (h : r.Fits) (k : Nat) (hk : 700000 < k) : record_Encode.f k r.k r.t r.p r.g r.o r.args r.imgs r.n r.di r.ac = some r.enc := by
  unfold record_Encode.f record_Check.f Rec.enc
  rw [Option.bind_some, write_f h k hk]
  by_cases hf : Form r.k r.t r.p r.g r.o r.args r.imgs r.n r.di r.ac
  · rw [if_pos hf, if_pos (show r.Ok from hf), if_pos (by rfl), Option.bind_some]
    by_cases hl : r.bytes.length > 4096
    · rw [if_pos hl, if_pos (by omega)]
    · rw [if_neg hl, if_neg (by omega)]
  · rw [if_neg hf, if_neg (show ¬ r.Ok from hf), if_neg (by simp)]
    rfl
end Go.Proofs.Ytcplblpmgajmnaa.A
