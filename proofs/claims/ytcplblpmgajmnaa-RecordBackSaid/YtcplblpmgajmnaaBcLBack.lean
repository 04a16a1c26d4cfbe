/-
  The law RecordBack answers true, without a panic, at every input: records come back from their bytes, and bytes that are read have, written again, the same bytes. No condition beside those of the given row.
  Joined by wip/prune.py out of: HRefSame, HBack, LBack.
-/
import Derived.Test.YtcplblpmgajmnaaBc6
import Derived.Lib.IfaceEq
import Derived.Test.YtcplblpmgajmnaaRows
import Derived.WalkKit
import Derived.ProofKit
import Derived.OpenShut
import Derived.ShutString
import Derived.ChangeOld
import Derived.Below
import Derived.SizedLaws
namespace Go.Proofs.Ytcplblpmgajmnaa.A
open Go.RowKit Go.Proofs.YtcplblpmgajmnaaW.PrintWords Go.Proofs.YtcplblpmgajmnaaW.PrintLast Go.Proofs.YtcplblpmgajmnaaW.PrintMore
attribute [local go_sem high] eqA52 eqA54 eqA56
set_option linter.unusedVariables false
set_option linter.unusedSimpArgs false
theorem rec_ext {r s : Rec} (h0 : r.k = s.k) (h1 : r.t = s.t) (h2 : r.p = s.p) (h3 : r.g = s.g) (h4 : r.o = s.o) (h7 : r.n = s.n) (h5 : r.args = s.args) (h6 : r.imgs = s.imgs) (h8 : r.di = s.di) (h9 : r.ac = s.ac) : r = s := by
  cases r
  cases s
  simp only at *
  subst h0 h1 h2 h3 h4 h5 h6 h7 h8 h9
  rfl
theorem list_ext {α : Type} {z : α} {l m : List α} (hl : l.length = m.length) (h : ∀ j, j < l.length → l.getD j z = m.getD j z) : l = m := by
  refine List.ext_getElem hl fun j h1 h2 => ?_
  have := h j h1
  rwa [List.getD_eq_getElem?_getD, List.getD_eq_getElem?_getD, List.getElem?_eq_getElem h1, List.getElem?_eq_getElem h2] at this
theorem all_next {P : Nat → Prop} {i : Nat} (h : ∀ j, j < i → P j) (hi : P i) : ∀ j, j < i + 1 → P j := fun j hj => by
  rcases Nat.lt_or_ge j i with h1 | h1
  · exact h j h1
  · obtain rfl : i = j := by omega
    exact hi
set_option maxHeartbeats 8000000 in
set_option maxRecDepth 100000 in
theorem refsame_c {r s : Rec} {a b : Lies} {w : World} (h : RIn w r a) (h' : RIn w s b) : Calls Try.prog 14 #[.agg (r.cells a), .agg (s.cells b)] w fun e w' => e = .returned (.bool (decide (r = s))) ∧ Below w.heap.size w w' := by
  have hu30 := Try.underlying30
  have hu52 := Try.underlying52
  have hu54 := Try.underlying54
  have hu56 := Try.underlying56
  obtain ⟨A5, c5, A6, c6, A8, c8, A9, c9⟩ := a
  obtain ⟨B5, e5, B6, e6, B8, e8, B9, e9⟩ := b
  have HI := Aside0.mk h
  have HJ := Aside0.mk h'
  clear h h'
  obtain ⟨q, hq⟩ : ∃ q, decide (r = s) = q := ⟨_, rfl⟩
  rw [hq]
  replace hq := Lib.hid hq
  unfold Rec.cells
  go_enter Try.func14, Try.ntmps14

  by_cases g_k : r.k = s.k
  rotate_left
  · have b_k : (r.k != s.k) = true := bne_iff_ne.mpr g_k
    have G := Lib.hid g_k
    clear g_k
    obtain rfl : false = q := by rw [← hq.out]; exact (decide_eq_false (fun e => G.out (by rw [e]))).symm
    go_wp2
    go_ret
    exact ⟨rfl, below_alloc (below_alloc (Below.refl _ _) _) _⟩
  have b_k : (r.k != s.k) = false := bne_eq_false_iff_eq.mpr g_k
  replace g_k := Lib.hid g_k
  by_cases g_t : r.t = s.t
  rotate_left
  · have b_t : (r.t != s.t) = true := bne_iff_ne.mpr g_t
    have G := Lib.hid g_t
    clear g_t
    obtain rfl : false = q := by rw [← hq.out]; exact (decide_eq_false (fun e => G.out (by rw [e]))).symm
    go_wp2
    go_ret
    exact ⟨rfl, below_alloc (below_alloc (Below.refl _ _) _) _⟩
  have b_t : (r.t != s.t) = false := bne_eq_false_iff_eq.mpr g_t
  replace g_t := Lib.hid g_t
  by_cases g_p : r.p = s.p
  rotate_left
  · have b_p : (r.p != s.p) = true := bne_iff_ne.mpr g_p
    have G := Lib.hid g_p
    clear g_p
    obtain rfl : false = q := by rw [← hq.out]; exact (decide_eq_false (fun e => G.out (by rw [e]))).symm
    go_wp2
    go_ret
    exact ⟨rfl, below_alloc (below_alloc (Below.refl _ _) _) _⟩
  have b_p : (r.p != s.p) = false := bne_eq_false_iff_eq.mpr g_p
  replace g_p := Lib.hid g_p
  by_cases g_g : r.g = s.g
  rotate_left
  · have b_g : (r.g != s.g) = true := bne_iff_ne.mpr g_g
    have G := Lib.hid g_g
    clear g_g
    obtain rfl : false = q := by rw [← hq.out]; exact (decide_eq_false (fun e => G.out (by rw [e]))).symm
    go_wp2
    go_ret
    exact ⟨rfl, below_alloc (below_alloc (Below.refl _ _) _) _⟩
  have b_g : (r.g != s.g) = false := bne_eq_false_iff_eq.mpr g_g
  replace g_g := Lib.hid g_g
  by_cases g_o : r.o = s.o
  rotate_left
  · have b_o : (r.o != s.o) = true := bne_iff_ne.mpr g_o
    have G := Lib.hid g_o
    clear g_o
    obtain rfl : false = q := by rw [← hq.out]; exact (decide_eq_false (fun e => G.out (by rw [e]))).symm
    go_wp2
    go_ret
    exact ⟨rfl, below_alloc (below_alloc (Below.refl _ _) _) _⟩
  have b_o : (r.o != s.o) = false := bne_eq_false_iff_eq.mpr g_o
  replace g_o := Lib.hid g_o
  by_cases g_n : r.n = s.n
  rotate_left
  · have b_n : (r.n != s.n) = true := bne_iff_ne.mpr g_n
    have G := Lib.hid g_n
    clear g_n
    obtain rfl : false = q := by rw [← hq.out]; exact (decide_eq_false (fun e => G.out (by rw [e]))).symm
    go_wp2
    go_ret
    exact ⟨rfl, below_alloc (below_alloc (Below.refl _ _) _) _⟩
  have b_n : (r.n != s.n) = false := bne_eq_false_iff_eq.mpr g_n
  replace g_n := Lib.hid g_n
  by_cases g_args : (r.args.length : Int) = (s.args.length : Int)
  rotate_left
  · have b_args : ((r.args.length : Int) != (s.args.length : Int)) = true := bne_iff_ne.mpr g_args
    have b2_args : (r.args.length != s.args.length) = true := bne_iff_ne.mpr (by omega)
    have G := Lib.hid g_args
    clear g_args
    obtain rfl : false = q := by rw [← hq.out]; exact (decide_eq_false (fun e => G.out (by rw [e]))).symm
    go_wp2
    go_ret
    exact ⟨rfl, below_alloc (below_alloc (Below.refl _ _) _) _⟩
  have b_args : ((r.args.length : Int) != (s.args.length : Int)) = false := bne_eq_false_iff_eq.mpr g_args
  have b2_args : (r.args.length != s.args.length) = false := bne_eq_false_iff_eq.mpr (by omega)
  have g2_args : r.args.length = s.args.length := by omega
  replace g2_args := Lib.hid g2_args
  replace g_args := Lib.hid g_args
  by_cases g_imgs : (r.imgs.length : Int) = (s.imgs.length : Int)
  rotate_left
  · have b_imgs : ((r.imgs.length : Int) != (s.imgs.length : Int)) = true := bne_iff_ne.mpr g_imgs
    have b2_imgs : (r.imgs.length != s.imgs.length) = true := bne_iff_ne.mpr (by omega)
    have G := Lib.hid g_imgs
    clear g_imgs
    obtain rfl : false = q := by rw [← hq.out]; exact (decide_eq_false (fun e => G.out (by rw [e]))).symm
    go_wp2
    go_ret
    exact ⟨rfl, below_alloc (below_alloc (Below.refl _ _) _) _⟩
  have b_imgs : ((r.imgs.length : Int) != (s.imgs.length : Int)) = false := bne_eq_false_iff_eq.mpr g_imgs
  have b2_imgs : (r.imgs.length != s.imgs.length) = false := bne_eq_false_iff_eq.mpr (by omega)
  have g2_imgs : r.imgs.length = s.imgs.length := by omega
  replace g2_imgs := Lib.hid g2_imgs
  replace g_imgs := Lib.hid g_imgs
  by_cases g_di : (r.di.length : Int) = (s.di.length : Int)
  rotate_left
  · have b_di : ((r.di.length : Int) != (s.di.length : Int)) = true := bne_iff_ne.mpr g_di
    have b2_di : (r.di.length != s.di.length) = true := bne_iff_ne.mpr (by omega)
    have G := Lib.hid g_di
    clear g_di
    obtain rfl : false = q := by rw [← hq.out]; exact (decide_eq_false (fun e => G.out (by rw [e]))).symm
    go_wp2
    go_ret
    exact ⟨rfl, below_alloc (below_alloc (Below.refl _ _) _) _⟩
  have b_di : ((r.di.length : Int) != (s.di.length : Int)) = false := bne_eq_false_iff_eq.mpr g_di
  have b2_di : (r.di.length != s.di.length) = false := bne_eq_false_iff_eq.mpr (by omega)
  have g2_di : r.di.length = s.di.length := by omega
  replace g2_di := Lib.hid g2_di
  replace g_di := Lib.hid g_di
  by_cases g_ac : (r.ac.length : Int) = (s.ac.length : Int)
  rotate_left
  · have b_ac : ((r.ac.length : Int) != (s.ac.length : Int)) = true := bne_iff_ne.mpr g_ac
    have b2_ac : (r.ac.length != s.ac.length) = true := bne_iff_ne.mpr (by omega)
    have G := Lib.hid g_ac
    clear g_ac
    obtain rfl : false = q := by rw [← hq.out]; exact (decide_eq_false (fun e => G.out (by rw [e]))).symm
    go_wp2
    go_ret
    exact ⟨rfl, below_alloc (below_alloc (Below.refl _ _) _) _⟩
  have b_ac : ((r.ac.length : Int) != (s.ac.length : Int)) = false := bne_eq_false_iff_eq.mpr g_ac
  have b2_ac : (r.ac.length != s.ac.length) = false := bne_eq_false_iff_eq.mpr (by omega)
  have g2_ac : r.ac.length = s.ac.length := by omega
  replace g2_ac := Lib.hid g2_ac
  replace g_ac := Lib.hid g_ac
  go_upto_region 3 with (fail)
  go_cut [2, 3, 5] (fun v2 v3 v5 wc => v2 = .pointer (some ⟨w.heap.size, 0, none⟩) ∧ v3 = .pointer (some ⟨w.heap.size + 1, 0, none⟩) ∧ v5 = .int .i64 0 ∧ wc.heap[w.heap.size]? = some (.cells #[.int .i64 r.k, .int .i64 r.t, .int .i64 r.p, .int .i64 r.g, .int .i64 r.o, .slice A5 r.args.length c5, .slice A6 r.imgs.length c6, .int .i64 r.n, .slice A8 r.di.length c8, .slice A9 r.ac.length c9] 30 (0, 0)) ∧ wc.heap[w.heap.size + 1]? = some (.cells #[.int .i64 s.k, .int .i64 s.t, .int .i64 s.p, .int .i64 s.g, .int .i64 s.o, .slice B5 s.args.length e5, .slice B6 s.imgs.length e6, .int .i64 s.n, .slice B8 s.di.length e8, .slice B9 s.ac.length e9] 30 (0, 0)) ∧ Below w.heap.size w wc)
  case first =>
    go_wp2
    go_meet
    case rel =>
      have h2 := heap_alloc_new (w.alloc (.cells #[.int .i64 r.k, .int .i64 r.t, .int .i64 r.p, .int .i64 r.g, .int .i64 r.o, .slice A5 r.args.length c5, .slice A6 r.imgs.length c6, .int .i64 r.n, .slice A8 r.di.length c8, .slice A9 r.ac.length c9] 30)) (.cells #[.int .i64 s.k, .int .i64 s.t, .int .i64 s.p, .int .i64 s.g, .int .i64 s.o, .slice B5 s.args.length e5, .slice B6 s.imgs.length e6, .int .i64 s.n, .slice B8 s.di.length e8, .slice B9 s.ac.length e9] 30)
      rw [World.size_alloc] at h2
      exact ⟨rfl, rfl, rfl, blk_alloc (heap_alloc_new w _) _, h2, below_alloc (below_alloc (Below.refl _ _) _) _⟩
  case rest =>
    obtain ⟨rfl, rfl, rfl, BK1, BK2, HB⟩ := hcut
    replace BK1 := Lib.hid BK1
    replace BK2 := Lib.hid BK2
    replace HI := Aside0.mk (HI.out.below HB)
    replace HJ := Aside0.mk (HJ.out.below HB)
    replace HB := Lib.hid HB
    clear b_k b_t b_p b_g b_o b_n b_args b_imgs b_di b_ac
    clear b2_args b2_imgs b2_di b2_ac
    obtain ⟨x_0, x_1, x_2, x_3, x_4, x_5, x_6, x_7, x_8, x_9⟩ := ten_cells BK1.out
    obtain ⟨y_0, y_1, y_2, y_3, y_4, y_5, y_6, y_7, y_8, y_9⟩ := ten_cells BK2.out
    go_wp2
    go_loopw [5] (fun v5 wr => ∃ (i : Nat), v5 = .int .i64 (i : Int) ∧ i ≤ r.args.length ∧ Hid (∀ j, j < i → r.args.getD j (0 : Int) = s.args.getD j (0 : Int)) ∧ Hid (Below wc.heap.size wc wr)) (fun v5 _ => r.args.length - (match v5 with | .int _ n => n.toNat | _ => 0))
    case atStart => exact ⟨0, rfl, Nat.zero_le _, Lib.hid (fun j hj => absurd hj (Nat.not_lt_zero j)), Lib.hid (Below.refl _ _)⟩
    case round =>
      obtain ⟨i, rfl, hi, Hall, HBr⟩ := hrel
      have K1 := Lib.hid (blk_below BK1.out HBr.out)
      have K2 := Lib.hid (blk_below BK2.out HBr.out)
      have I1 := Aside0.mk (HI.out.below HBr.out)
      have J1 := Aside0.mk (HJ.out.below HBr.out)
      have HB1 := Lib.hid (below_then HB.out HB.out.size HBr.out)
      clear x_0 x_1 x_2 x_3 x_4 x_5 x_6 x_7 x_8 x_9 y_0 y_1 y_2 y_3 y_4 y_5 y_6 y_7 y_8 y_9
      obtain ⟨x_0, x_1, x_2, x_3, x_4, x_5, x_6, x_7, x_8, x_9⟩ := ten_cells K1.out
      obtain ⟨y_0, y_1, y_2, y_3, y_4, y_5, y_6, y_7, y_8, y_9⟩ := ten_cells K2.out
      by_cases hlt : i < r.args.length
      · have hmx := Kd.C_max I1.out.C5
        have hlt2 : i < s.args.length := by have := g2_args.out; omega
        obtain ⟨ad, eA, p0⟩ := Kd.at_int I1.out.C5 (i : Int) (by omega) (by omega)
        obtain ⟨bd, eB, q0⟩ := Kd.at_int J1.out.C5 (i : Int) (by omega) (by omega)
        dsimp only at eA eB
        subst eA eB
        rw [show ((i : Int)).toNat = i from rfl] at p0 q0
        obtain ⟨u, Hu⟩ : ∃ u, Hid (r.args.getD i (0 : Int) = u) := ⟨_, Lib.hid rfl⟩
        obtain ⟨v, Hv⟩ : ∃ v, Hid (s.args.getD i (0 : Int) = v) := ⟨_, Lib.hid rfl⟩
        rw [show rd r.args (i : Int) = r.args.getD i (0 : Int) from rfl, Hu.out] at p0
        rw [show rd s.args (i : Int) = s.args.getD i (0 : Int) from rfl, Hv.out] at q0
        by_cases huv : u = v
        · have hne : (u != v) = false := by subst huv; simp
          replace huv := Lib.hid huv
          go_wp2
          repeat (go_quiet (fail); try go_wp2)
          go_roundw
          case rel => exact ⟨i + 1, by go_num, by omega, Lib.hid (all_next Hall.out (by rw [Hu.out, Hv.out]; exact huv.out)), Lib.hid (by (with_reducible repeat (first | apply pw_below_drewN | apply below_drew1)); exact HBr.out)⟩
          case measure => simp [intOf]; omega
        · have hne : (u != v) = true := bne_iff_ne.mpr huv
          have G := Lib.hid huv
          clear huv
          obtain rfl : false = q := by rw [← hq.out]; exact (decide_eq_false (fun e => G.out (by rw [← Hu.out, ← Hv.out, e]))).symm
          go_wp2
          repeat (go_quiet (fail); try go_wp2)
          go_ret
          exact ⟨rfl, by (with_reducible repeat (first | apply pw_below_drewN | apply below_drew1)); exact HB1.out⟩
      · have L_args := Lib.hid (list_ext g2_args.out (fun j hj => Hall.out j (by omega)))
        obtain rfl : i = r.args.length := by omega
        clear HB HI HJ BK1 BK2 Hall HBr x_0 x_1 x_2 x_3 x_4 x_5 x_6 x_7 x_8 x_9 y_0 y_1 y_2 y_3 y_4 y_5 y_6 y_7 y_8 y_9 hlt hi
        have HB := HB1
        have HI := I1
        have HJ := J1
        have BK1 := K1
        have BK2 := K2
        clear HB1 I1 J1 K1 K2
        obtain ⟨wr5, hwr⟩ : ∃ x, x = wr := ⟨_, rfl⟩
        subst hwr
        obtain ⟨x_0, x_1, x_2, x_3, x_4, x_5, x_6, x_7, x_8, x_9⟩ := ten_cells BK1.out
        obtain ⟨y_0, y_1, y_2, y_3, y_4, y_5, y_6, y_7, y_8, y_9⟩ := ten_cells BK2.out
        go_wp2
        go_loopw [6] (fun v6 wr => ∃ (i : Nat), v6 = .int .i64 (i : Int) ∧ i ≤ r.imgs.length ∧ Hid (∀ j, j < i → r.imgs.getD j z52 = s.imgs.getD j z52) ∧ Hid (Below wr5.heap.size wr5 wr)) (fun v6 _ => r.imgs.length - (match v6 with | .int _ n => n.toNat | _ => 0))
        case atStart => exact ⟨0, rfl, Nat.zero_le _, Lib.hid (fun j hj => absurd hj (Nat.not_lt_zero j)), Lib.hid (Below.refl _ _)⟩
        case round =>
          obtain ⟨i, rfl, hi, Hall, HBr⟩ := hrel
          have K1 := Lib.hid (blk_below BK1.out HBr.out)
          have K2 := Lib.hid (blk_below BK2.out HBr.out)
          have I1 := Aside0.mk (HI.out.below HBr.out)
          have J1 := Aside0.mk (HJ.out.below HBr.out)
          have HB1 := Lib.hid (below_then HB.out HB.out.size HBr.out)
          clear x_0 x_1 x_2 x_3 x_4 x_5 x_6 x_7 x_8 x_9 y_0 y_1 y_2 y_3 y_4 y_5 y_6 y_7 y_8 y_9
          obtain ⟨x_0, x_1, x_2, x_3, x_4, x_5, x_6, x_7, x_8, x_9⟩ := ten_cells K1.out
          obtain ⟨y_0, y_1, y_2, y_3, y_4, y_5, y_6, y_7, y_8, y_9⟩ := ten_cells K2.out
          by_cases hlt : i < r.imgs.length
          · have hmx := Kd.C_max I1.out.C6
            have hlt2 : i < s.imgs.length := by have := g2_imgs.out; omega
            obtain ⟨ad, eA, p0, p1⟩ := at_T52 I1.out.C6 (i : Int) (by omega) (by omega)
            obtain ⟨bd, eB, q0, q1⟩ := at_T52 J1.out.C6 (i : Int) (by omega) (by omega)
            dsimp only at eA eB
            subst eA eB
            rw [show ((i : Int)).toNat = i from rfl] at p0 p1 q0 q1
            obtain ⟨u, Hu⟩ : ∃ u, Hid (r.imgs.getD i z52 = u) := ⟨_, Lib.hid rfl⟩
            obtain ⟨v, Hv⟩ : ∃ v, Hid (s.imgs.getD i z52 = v) := ⟨_, Lib.hid rfl⟩
            rw [show rd_T52 r.imgs (i : Int) = r.imgs.getD i z52 from rfl, Hu.out] at p0 p1
            rw [show rd_T52 s.imgs (i : Int) = s.imgs.getD i z52 from rfl, Hv.out] at q0 q1
            by_cases huv : u = v
            · have hne : (!(u.f0 == v.f0) || (!(u.f1 == v.f1))) = false := by subst huv; simp
              replace huv := Lib.hid huv
              go_wp2
              repeat (go_quiet (fail); try go_wp2)
              go_roundw
              case rel => exact ⟨i + 1, by go_num, by omega, Lib.hid (all_next Hall.out (by rw [Hu.out, Hv.out]; exact huv.out)), Lib.hid (by (with_reducible repeat (first | apply pw_below_drewN | apply below_drew1)); exact HBr.out)⟩
              case measure => simp [intOf]; omega
            · have hne : (!(u.f0 == v.f0) || (!(u.f1 == v.f1))) = true := by cases u; cases v; simp at huv ⊢; omega
              have G := Lib.hid huv
              clear huv
              obtain rfl : false = q := by rw [← hq.out]; exact (decide_eq_false (fun e => G.out (by rw [← Hu.out, ← Hv.out, e]))).symm
              go_wp2
              repeat (go_quiet (fail); try go_wp2)
              go_ret
              exact ⟨rfl, by (with_reducible repeat (first | apply pw_below_drewN | apply below_drew1)); exact HB1.out⟩
          · have L_imgs := Lib.hid (list_ext g2_imgs.out (fun j hj => Hall.out j (by omega)))
            obtain rfl : i = r.imgs.length := by omega
            clear HB HI HJ BK1 BK2 Hall HBr x_0 x_1 x_2 x_3 x_4 x_5 x_6 x_7 x_8 x_9 y_0 y_1 y_2 y_3 y_4 y_5 y_6 y_7 y_8 y_9 hlt hi
            have HB := HB1
            have HI := I1
            have HJ := J1
            have BK1 := K1
            have BK2 := K2
            clear HB1 I1 J1 K1 K2
            obtain ⟨wr6, hwr⟩ : ∃ x, x = wr := ⟨_, rfl⟩
            subst hwr
            obtain ⟨x_0, x_1, x_2, x_3, x_4, x_5, x_6, x_7, x_8, x_9⟩ := ten_cells BK1.out
            obtain ⟨y_0, y_1, y_2, y_3, y_4, y_5, y_6, y_7, y_8, y_9⟩ := ten_cells BK2.out
            go_wp2
            go_loopw [7] (fun v7 wr => ∃ (i : Nat), v7 = .int .i64 (i : Int) ∧ i ≤ r.di.length ∧ Hid (∀ j, j < i → r.di.getD j z54 = s.di.getD j z54) ∧ Hid (Below wr6.heap.size wr6 wr)) (fun v7 _ => r.di.length - (match v7 with | .int _ n => n.toNat | _ => 0))
            case atStart => exact ⟨0, rfl, Nat.zero_le _, Lib.hid (fun j hj => absurd hj (Nat.not_lt_zero j)), Lib.hid (Below.refl _ _)⟩
            case round =>
              obtain ⟨i, rfl, hi, Hall, HBr⟩ := hrel
              have K1 := Lib.hid (blk_below BK1.out HBr.out)
              have K2 := Lib.hid (blk_below BK2.out HBr.out)
              have I1 := Aside0.mk (HI.out.below HBr.out)
              have J1 := Aside0.mk (HJ.out.below HBr.out)
              have HB1 := Lib.hid (below_then HB.out HB.out.size HBr.out)
              clear x_0 x_1 x_2 x_3 x_4 x_5 x_6 x_7 x_8 x_9 y_0 y_1 y_2 y_3 y_4 y_5 y_6 y_7 y_8 y_9
              obtain ⟨x_0, x_1, x_2, x_3, x_4, x_5, x_6, x_7, x_8, x_9⟩ := ten_cells K1.out
              obtain ⟨y_0, y_1, y_2, y_3, y_4, y_5, y_6, y_7, y_8, y_9⟩ := ten_cells K2.out
              by_cases hlt : i < r.di.length
              · have hmx := Kd.C_max I1.out.C8
                have hlt2 : i < s.di.length := by have := g2_di.out; omega
                obtain ⟨ad, eA, p0, p1⟩ := at_T54 I1.out.C8 (i : Int) (by omega) (by omega)
                obtain ⟨bd, eB, q0, q1⟩ := at_T54 J1.out.C8 (i : Int) (by omega) (by omega)
                dsimp only at eA eB
                subst eA eB
                rw [show ((i : Int)).toNat = i from rfl] at p0 p1 q0 q1
                obtain ⟨u, Hu⟩ : ∃ u, Hid (r.di.getD i z54 = u) := ⟨_, Lib.hid rfl⟩
                obtain ⟨v, Hv⟩ : ∃ v, Hid (s.di.getD i z54 = v) := ⟨_, Lib.hid rfl⟩
                rw [show rd_T54 r.di (i : Int) = r.di.getD i z54 from rfl, Hu.out] at p0 p1
                rw [show rd_T54 s.di (i : Int) = s.di.getD i z54 from rfl, Hv.out] at q0 q1
                by_cases huv : u = v
                · have hne : (!(u.f0 == v.f0) || (!(u.f1 == v.f1))) = false := by subst huv; simp
                  replace huv := Lib.hid huv
                  go_wp2
                  repeat (go_quiet (fail); try go_wp2)
                  go_roundw
                  case rel => exact ⟨i + 1, by go_num, by omega, Lib.hid (all_next Hall.out (by rw [Hu.out, Hv.out]; exact huv.out)), Lib.hid (by (with_reducible repeat (first | apply pw_below_drewN | apply below_drew1)); exact HBr.out)⟩
                  case measure => simp [intOf]; omega
                · have hne : (!(u.f0 == v.f0) || (!(u.f1 == v.f1))) = true := by cases u; cases v; simp at huv ⊢; omega
                  have G := Lib.hid huv
                  clear huv
                  obtain rfl : false = q := by rw [← hq.out]; exact (decide_eq_false (fun e => G.out (by rw [← Hu.out, ← Hv.out, e]))).symm
                  go_wp2
                  repeat (go_quiet (fail); try go_wp2)
                  go_ret
                  exact ⟨rfl, by (with_reducible repeat (first | apply pw_below_drewN | apply below_drew1)); exact HB1.out⟩
              · have L_di := Lib.hid (list_ext g2_di.out (fun j hj => Hall.out j (by omega)))
                obtain rfl : i = r.di.length := by omega
                clear HB HI HJ BK1 BK2 Hall HBr x_0 x_1 x_2 x_3 x_4 x_5 x_6 x_7 x_8 x_9 y_0 y_1 y_2 y_3 y_4 y_5 y_6 y_7 y_8 y_9 hlt hi
                have HB := HB1
                have HI := I1
                have HJ := J1
                have BK1 := K1
                have BK2 := K2
                clear HB1 I1 J1 K1 K2
                obtain ⟨wr8, hwr⟩ : ∃ x, x = wr := ⟨_, rfl⟩
                subst hwr
                obtain ⟨x_0, x_1, x_2, x_3, x_4, x_5, x_6, x_7, x_8, x_9⟩ := ten_cells BK1.out
                obtain ⟨y_0, y_1, y_2, y_3, y_4, y_5, y_6, y_7, y_8, y_9⟩ := ten_cells BK2.out
                go_wp2
                go_loopw [8] (fun v8 wr => ∃ (i : Nat), v8 = .int .i64 (i : Int) ∧ i ≤ r.ac.length ∧ Hid (∀ j, j < i → r.ac.getD j z56 = s.ac.getD j z56) ∧ Hid (Below wr8.heap.size wr8 wr)) (fun v8 _ => r.ac.length - (match v8 with | .int _ n => n.toNat | _ => 0))
                case atStart => exact ⟨0, rfl, Nat.zero_le _, Lib.hid (fun j hj => absurd hj (Nat.not_lt_zero j)), Lib.hid (Below.refl _ _)⟩
                case round =>
                  obtain ⟨i, rfl, hi, Hall, HBr⟩ := hrel
                  have K1 := Lib.hid (blk_below BK1.out HBr.out)
                  have K2 := Lib.hid (blk_below BK2.out HBr.out)
                  have I1 := Aside0.mk (HI.out.below HBr.out)
                  have J1 := Aside0.mk (HJ.out.below HBr.out)
                  have HB1 := Lib.hid (below_then HB.out HB.out.size HBr.out)
                  clear x_0 x_1 x_2 x_3 x_4 x_5 x_6 x_7 x_8 x_9 y_0 y_1 y_2 y_3 y_4 y_5 y_6 y_7 y_8 y_9
                  obtain ⟨x_0, x_1, x_2, x_3, x_4, x_5, x_6, x_7, x_8, x_9⟩ := ten_cells K1.out
                  obtain ⟨y_0, y_1, y_2, y_3, y_4, y_5, y_6, y_7, y_8, y_9⟩ := ten_cells K2.out
                  by_cases hlt : i < r.ac.length
                  · have hmx := Kd.C_max I1.out.C9
                    have hlt2 : i < s.ac.length := by have := g2_ac.out; omega
                    obtain ⟨ad, eA, p0, p1, p2, p3⟩ := at_T56 I1.out.C9 (i : Int) (by omega) (by omega)
                    obtain ⟨bd, eB, q0, q1, q2, q3⟩ := at_T56 J1.out.C9 (i : Int) (by omega) (by omega)
                    dsimp only at eA eB
                    subst eA eB
                    rw [show ((i : Int)).toNat = i from rfl] at p0 p1 p2 p3 q0 q1 q2 q3
                    obtain ⟨u, Hu⟩ : ∃ u, Hid (r.ac.getD i z56 = u) := ⟨_, Lib.hid rfl⟩
                    obtain ⟨v, Hv⟩ : ∃ v, Hid (s.ac.getD i z56 = v) := ⟨_, Lib.hid rfl⟩
                    rw [show rd_T56 r.ac (i : Int) = r.ac.getD i z56 from rfl, Hu.out] at p0 p1 p2 p3
                    rw [show rd_T56 s.ac (i : Int) = s.ac.getD i z56 from rfl, Hv.out] at q0 q1 q2 q3
                    by_cases huv : u = v
                    · have hne : (!(u.f0 == v.f0) || (!(u.f1 == v.f1) || (!(u.f2 == v.f2) || (!(u.f3 == v.f3))))) = false := by subst huv; simp
                      replace huv := Lib.hid huv
                      go_wp2
                      repeat (go_quiet (fail); try go_wp2)
                      go_roundw
                      case rel => exact ⟨i + 1, by go_num, by omega, Lib.hid (all_next Hall.out (by rw [Hu.out, Hv.out]; exact huv.out)), Lib.hid (by (with_reducible repeat (first | apply pw_below_drewN | apply below_drew1)); exact HBr.out)⟩
                      case measure => simp [intOf]; omega
                    · have hne : (!(u.f0 == v.f0) || (!(u.f1 == v.f1) || (!(u.f2 == v.f2) || (!(u.f3 == v.f3))))) = true := by cases u; cases v; simp at huv ⊢; omega
                      have G := Lib.hid huv
                      clear huv
                      obtain rfl : false = q := by rw [← hq.out]; exact (decide_eq_false (fun e => G.out (by rw [← Hu.out, ← Hv.out, e]))).symm
                      go_wp2
                      repeat (go_quiet (fail); try go_wp2)
                      go_ret
                      exact ⟨rfl, by (with_reducible repeat (first | apply pw_below_drewN | apply below_drew1)); exact HB1.out⟩
                  · have L_ac := Lib.hid (list_ext g2_ac.out (fun j hj => Hall.out j (by omega)))
                    obtain rfl : i = r.ac.length := by omega
                    clear HB HI HJ BK1 BK2 Hall HBr x_0 x_1 x_2 x_3 x_4 x_5 x_6 x_7 x_8 x_9 y_0 y_1 y_2 y_3 y_4 y_5 y_6 y_7 y_8 y_9 hlt hi
                    have HB := HB1
                    have HI := I1
                    have HJ := J1
                    have BK1 := K1
                    have BK2 := K2
                    clear HB1 I1 J1 K1 K2
                    obtain ⟨wr9, hwr⟩ : ∃ x, x = wr := ⟨_, rfl⟩
                    subst hwr
                    obtain ⟨x_0, x_1, x_2, x_3, x_4, x_5, x_6, x_7, x_8, x_9⟩ := ten_cells BK1.out
                    obtain rfl : true = q := by rw [← hq.out]; exact (decide_eq_true (rec_ext g_k.out g_t.out g_p.out g_g.out g_o.out g_n.out L_args.out L_imgs.out L_di.out L_ac.out)).symm
                    go_wp2
                    go_ret
                    exact ⟨rfl, HB.out⟩
end Go.Proofs.Ytcplblpmgajmnaa.A
namespace Go.Proofs.Ytcplblpmgajmnaa.A
open Go.RowKit Go.Proofs.YtcplblpmgajmnaaW.PrintWords Go.Proofs.YtcplblpmgajmnaaW.PrintLast Go.Proofs.YtcplblpmgajmnaaW.PrintMore
set_option linter.unusedVariables false
set_option linter.unusedSimpArgs false
theorem same_c {r s : Rec} {a b : Lies} {w : World} (h : RIn w r a) (h' : RIn w s b) : Calls Try.prog 19 #[.agg (r.cells a), .agg (s.cells b)] w fun e w' => e = .returned (.bool (decide (r = s))) ∧ Below w.heap.size w w' := by
  refine record_Same.calls (r.many + 1) r.k r.t r.p r.g r.o _ _ r.args _ _ r.imgs r.n _ _ r.di _ _ r.ac s.k s.t s.p s.g s.o _ _ s.args _ _ s.imgs s.n _ _ s.di _ _ s.ac _ w h.C5 h.L5 h.C6 h.L6 h.C8 h.L8 h.C9 h.L9 h'.C5 h'.L5 h'.C6 h'.L6 h'.C8 h'.L8 h'.C9 h'.L9 ?_
  unfold Rec.many
  rw [same_f _ _ _ _ _ _ _ _ _ _ _ _ _ _ _ _ _ _ _ _ (Kd.C_max h.C5) (Kd.C_max h.C6) (Kd.C_max h.C8) (Kd.C_max h.C9) _ (by omega) (by omega) (by omega) (by omega), Option.some.injEq, decide_eq_decide]
  exact ⟨fun ⟨h0, h1, h2, h3, h4, h5, h6, h7, h8, h9⟩ => rec_ext h0 h1 h2 h3 h4 h7 h5 h6 h8 h9, fun h => by subst h; exact ⟨rfl, rfl, rfl, rfl, rfl, rfl, rfl, rfl, rfl, rfl⟩⟩
set_option maxHeartbeats 8000000 in
set_option maxRecDepth 100000 in
theorem back_walk (w : World) (r : Rec) (a : Lies) (A1 : Option Addr) (c1 : Nat) (l : List Int) (h : RIn w r a) (hw : r.Wide) (hc : l.length ≤ c1) (hC : Kd.C (Kd.int .u8) w A1 l.length l) (hB : Bytes l) : Calls Try.prog 4 #[.agg (r.cells a), .slice A1 l.length c1] w fun e w' => e = .returned (.bool true) ∧ Below w.heap.size w w' := by
  have hu30 := Try.underlying30
  have hu32 := Try.underlying32
  have hu44 := Try.underlying44
  obtain ⟨A5, c5, A6, c6, A8, c8, A9, c9⟩ := a
  have HI := Aside0.mk h
  have HW := Lib.hid hw
  have HC1 := Aside0.mk hC
  have HB1 := Lib.hid hB
  have HL1 := Lib.hid hc
  clear h hw hC hB hc
  unfold Rec.cells
  go_enter Try.func4, Try.ntmps4
  go_wp2_with fail
  refine (alive_true _).mono ?_
  rintro e w1 ⟨rfl, hb⟩
  have BK := Lib.hid (blk_below (heap_alloc_new w _) hb)
  have HB := Lib.hid (below_then (below_alloc (Below.refl w.heap.size w) _) (by rw [World.size_alloc]; omega) hb)
  replace HI := Aside0.mk (HI.out.below HB.out)
  clear hb
  obtain ⟨d_0, d_1, d_2, d_3, d_4, d_5, d_6, d_7, d_8, d_9⟩ := ten_cells BK.out
  go_wp2_with fail
  refine (large_c HI.out HW.out).mono ?_
  rintro e w2 ⟨rfl, hb⟩
  replace BK := Lib.hid (blk_below BK.out hb)
  replace HI := Aside0.mk (HI.out.below hb)
  replace HB := Lib.hid (below_then HB.out HB.out.size hb)
  clear hb d_0 d_1 d_2 d_3 d_4 d_5 d_6 d_7 d_8 d_9
  obtain ⟨d_0, d_1, d_2, d_3, d_4, d_5, d_6, d_7, d_8, d_9⟩ := ten_cells BK.out
  by_cases hl : r.many > 3000
  · rw [decide_eq_true hl]
    have HL := Lib.hid hl
    clear hl
    go_wp2
    go_ret
    exact ⟨rfl, HB.out⟩
  rw [decide_eq_false hl]
  have HF := Lib.hid (HW.out.fits hl)
  clear hl
  by_cases hm : l.length > 16384
  · have hm1 : decide (16384 < (l.length : Int)) = true := decide_eq_true (by omega)
    replace hm := Lib.hid hm
    go_wp2
    go_ret
    exact ⟨rfl, HB.out⟩
  have hm1 : decide (16384 < (l.length : Int)) = false := decide_eq_false (by omega)
  replace hm := Lib.hid hm
  go_wp2_with fail
  refine (enc_c HI.out HF.out).mono ?_
  rintro e w3 ⟨A, c, rfl, hc, hC, hb⟩
  replace BK := Lib.hid (blk_below BK.out hb)
  replace HI := Aside0.mk (HI.out.below hb)
  replace HB := Lib.hid (below_then HB.out HB.out.size hb)
  clear hb d_0 d_1 d_2 d_3 d_4 d_5 d_6 d_7 d_8 d_9
  obtain ⟨b, x, he⟩ : ∃ b x, r.enc = (b, x) := ⟨_, _, rfl⟩
  rw [he] at hc hC ⊢
  replace hc : b.length ≤ c := hc
  replace hC : Kd.C (Kd.int .u8) w3 A b.length b := hC
  replace hC := Aside0.mk hC
  replace hc := Lib.hid hc
  have HE := Lib.hid he
  clear he
  obtain ⟨ex, Hex⟩ : ∃ ex, Hid (errW x = ex) := ⟨_, Lib.hid rfl⟩
  rw [Hex.out]
  go_upto_region 6 with (fail)
  go_cut [28] (fun v28 wc => ∃ g0 : Bool, v28 = .bool g0 ∧ Hid (g0 = x.isNone) ∧ wc = w3)
  case first =>
    rcases x with _ | x
    · have := Hex.out
      rw [errW_none] at this
      subst this
      go_wp2
      go_meet
      case rel => exact ⟨_, rfl, Lib.hid rfl, rfl⟩
    · have := Hex.out
      rw [errW_some] at this
      subst this
      go_wp2
      go_meet
      case rel => exact ⟨_, rfl, Lib.hid rfl, rfl⟩
  case rest =>
    obtain ⟨g0, rfl, Hg, rfl⟩ := hcut
    go_upto_if 28 with (fail)
    go_cut [4] (fun v4 wd => v4 = .bool false ∧ Below w.heap.size w wd)
    case first =>
      cases g0
      · go_wp2
        go_meet
        case rel => exact ⟨rfl, HB.out⟩
      · obtain rfl : x = none := Option.isNone_iff_eq_none.1 Hg.out.symm
        have hen := enc_some HE.out
        have Hen := Lib.hid hen
        clear hen
        go_wp2_with fail
        refine (decode_c hC.out hc.out Hen.out.2.2 (decode_bytes HF.out HE.out)).mono ?_
        rintro e w4 ⟨⟨D5, f5, D6, f6, D8, f8, D9, f9⟩, rfl, hI4, hb⟩
        replace BK := Lib.hid (blk_below BK.out hb)
        replace HI := Aside0.mk (HI.out.below hb)
        replace HB := Lib.hid (below_then HB.out HB.out.size hb)
        have HJ := Aside0.mk hI4
        clear hb hI4
        simp only [errW_none, Rec.cells]
        obtain ⟨d_0, d_1, d_2, d_3, d_4, d_5, d_6, d_7, d_8, d_9⟩ := ten_cells BK.out
        have hz : w.heap.size < w4.heap.size := blk_lt BK.out
        have hz' : ¬ w.heap.size = w4.heap.size := by omega
        go_wp2_with fail
        refine (same_c (HJ.out.alloc _) (HI.out.alloc _)).mono ?_
        rintro e w5 ⟨rfl, hb⟩
        have BK7 := Lib.hid (blk_below (heap_alloc_new w4 _) hb)
        have hb2 := below_then (below_alloc (Below.refl w4.heap.size w4) _) (by rw [World.size_alloc]; omega) hb
        replace BK := Lib.hid (blk_below BK.out hb2)
        replace HI := Aside0.mk (HI.out.below hb2)
        replace HJ := Aside0.mk (HJ.out.below hb2)
        replace HB := Lib.hid (below_then HB.out HB.out.size hb2)
        clear hb hb2 hz hz' d_0 d_1 d_2 d_3 d_4 d_5 d_6 d_7 d_8 d_9
        rw [decide_eq_true rfl]
        obtain ⟨d_0, d_1, d_2, d_3, d_4, d_5, d_6, d_7, d_8, d_9⟩ := ten_cells BK.out
        obtain ⟨x_0, x_1, x_2, x_3, x_4, x_5, x_6, x_7, x_8, x_9⟩ := ten_cells BK7.out
        go_wp2_with fail
        refine (refsame_c HJ.out HI.out).mono ?_
        rintro e w6 ⟨rfl, hb⟩
        replace HB := Lib.hid (below_then HB.out HB.out.size hb)
        clear hb
        rw [decide_eq_true rfl]
        have hl4 : decide (4096 < (b.length : Int)) = false := decide_eq_false (by have := Hen.out.2.1; omega)
        go_wp2
        go_meet
        case rel => exact ⟨rfl, HB.out⟩
    case rest =>
      obtain ⟨rfl, HBd⟩ := hcut
      clear HB BK HI hC hc HE Hex Hg
      have HB := Lib.hid HBd
      clear HBd
      replace HC1 := Aside0.mk (Kd.C_below HC1.out HB.out)
      have hie := fun (W : World) (a b : Int) => Lib.run_eql_iface_int (P := Try.prog) (t := 32) (tx := 44) (k := .i64) W a b Try.underlying32 (by kernel_rfl) Try.underlying44
      go_wp2_with fail
      rcases decode_cases l with hd | ⟨s, hsf, hse, hd⟩
      · refine (decode_c (x := some 4) HC1.out HL1.out HB1.out hd).mono ?_
        rintro e w4 ⟨⟨D5, f5, D6, f6, D8, f8, D9, f9⟩, rfl, _, hb⟩
        replace HB := Lib.hid (below_then HB.out HB.out.size hb)
        clear hb hd
        simp only [errW_some, Rec.cells, Rec.zero]
        go_wp2
        go_ret
        exact ⟨by rfl, by (with_reducible repeat (first | apply below_alloc | apply pw_below_drewN | apply below_drew1)); exact HB.out⟩
      · refine (decode_c HC1.out HL1.out HB1.out hd).mono ?_
        rintro e w4 ⟨⟨D5, f5, D6, f6, D8, f8, D9, f9⟩, rfl, hI4, hb⟩
        have HJ := Aside0.mk hI4
        have HSf := Lib.hid hsf
        have HSe := Lib.hid hse
        replace HB := Lib.hid (below_then HB.out HB.out.size hb)
        replace HC1 := Aside0.mk (Kd.C_below HC1.out hb)
        clear hb hd hI4 hsf hse
        simp only [errW_none, Rec.cells]
        go_wp2_with fail
        refine (enc_c (HJ.out.alloc _) HSf.out).mono ?_
        rintro e w5 ⟨Ay, cy, rfl, hcy, hCy, hb⟩
        rw [HSe.out] at hcy hCy ⊢
        replace hcy : l.length ≤ cy := hcy
        replace hCy : Kd.C (Kd.int .u8) w5 Ay l.length l := hCy
        have BK9 := Lib.hid (blk_below (heap_alloc_new w4 _) hb)
        have hb2 := below_then (below_alloc (Below.refl w4.heap.size w4) _) (by rw [World.size_alloc]; omega) hb
        replace HJ := Aside0.mk (HJ.out.below hb2)
        replace HB := Lib.hid (below_then HB.out HB.out.size hb2)
        replace HC1 := Aside0.mk (Kd.C_below HC1.out hb2)
        clear hb hb2
        have hcv1 := Kd.C_string (P := Try.prog) (A := Ay) (c := cy) Try.underlying22 Try.underlying5 Try.underlying9 hCy
        have hcv2 := Kd.C_string (P := Try.prog) (A := A1) (c := c1) Try.underlying22 Try.underlying5 Try.underlying9 HC1.out
        replace hCy := Aside0.mk hCy
        replace hcy := Lib.hid hcy
        simp only [errW_none]
        obtain ⟨x_0, x_1, x_2, x_3, x_4, x_5, x_6, x_7, x_8, x_9⟩ := ten_cells BK9.out
        go_wp2_with fail
        refine (check_c HJ.out).mono ?_
        rintro e w6 ⟨rfl, hb⟩
        rw [if_pos (enc_ok HSe.out).1]
        replace HB := Lib.hid (below_then HB.out HB.out.size hb)
        clear hb
        simp only [errW_none]
        go_wp2
        go_ret
        exact ⟨rfl, HB.out⟩
end Go.Proofs.Ytcplblpmgajmnaa.A
namespace Go.Proofs.Ytcplblpmgajmnaa.recordBack
open Go.ChangeShapes Go.WideShapes Go.ChangeAt Go.RowKit Go.Proofs.Ytcplblpmgajmnaa.A
open Go.ChangeMaps (open_string shut_string)
set_option linter.unusedVariables false
theorem own : ownKnob Try.prog.godebug = none := by kernel_rfl
theorem laidOut : laidOutB Try.prog = true := by kernel_rfl
set_option maxRecDepth 100000 in
theorem lifted (os : Os) (started : os.Started) (H : Type) (enc : TypeId × Value → H) :
    ReturnsInHanded {} Try.checked os 4 .any (Rows.recordBackSpec.pre6 enc Try.prog Try.f4 Rows.recordBackRow.domain false) (Rows.recordBackSpec.post enc Try.prog Try.f4 false true false false) := by
  refine returnsInHanded_of_change_sized (C := Try.checked) own started (by kernel_rfl) Try.func4
    (ChangeSpec.witness6 (enc := enc) (C := Try.checked) false ⟨#[], #[.agg #[.int .i64 0, .int .i64 0, .int .i64 0, .int .i64 0, .int .i64 0, .slice none 0 0, .slice none 0 0, .int .i64 0, .slice none 0 0, .slice none 0 0], .slice none 0 0], []⟩ 8 (by kernel_rfl) (by kernel_rfl) (by kernel_rfl) (by kernel_rfl)) ?_
  intro W base args ds gs before hval0 hW hcnd hsz0 _
  have hsz : (DataW.weightsEach Try.prog (Try.f4.params.toList ++ Rows.recordBackSpec.plain.varTypes Try.prog) (ds ++ gs)).all (· ≤ reachBytes) = true := hsz0
  have hval : ∀ (j : Nat) t v, Try.f4.params[j]? = some t → args[j]? = some v → Value.okWide Try.prog W .any base t v := hval0
  have hW' := hW
  obtain ⟨p, q, hA0, hV, rfl, hfz, hnd⟩ := hW
  have hA : DataW.TrodAll enc Try.prog W 0 (fun _ => true) true Try.f4.params.toList args.toList ds p := hA0
  rw [Try.params4] at hA hval hsz
  obtain ⟨v0, vs0, d0, ds0, p0, q0, hargs, rfl, rfl, h0, r_0⟩ := trodAll_cons hA
  obtain ⟨v1, vs1, d1, ds1, p1, q1, rfl, rfl, rfl, h1, r_1⟩ := trodAll_cons r_0
  obtain ⟨rfl, rfl, rfl⟩ := trodAll_nil r_1
  obtain rfl : args = #[v0, v1] := by cases args; simp_all
  obtain ⟨rfl, rfl⟩ := trodVars_none hV
  have t0 := h0
  have lt0 : ∀ x ∈ p0, x.block < W.heap.size := by obtain ⟨m, hm⟩ := t0; exact DataW.trod_lt m _ _ _ hm
  have wz0 : ∀ n ∈ d0.weights Try.prog 30, n ≤ reachBytes := fun n hn => by have := List.all_eq_true.1 hsz n (DataW.weights_mem_each (j := 0) rfl rfl n hn); simpa using this
  obtain ⟨r0, b0, rfl, i0, g0⟩ := open_record (hval 0 30 v0 rfl rfl) h0 wz0
  have t1 := h1
  have lt1 : ∀ x ∈ p1, x.block < W.heap.size := by obtain ⟨m, hm⟩ := t1; exact DataW.trod_lt m _ _ _ hm
  have wz1 : ∀ n ∈ d1.weights Try.prog 22, n ≤ reachBytes := fun n hn => by have := List.all_eq_true.1 hsz n (DataW.weights_mem_each (j := 1) rfl rfl n hn); simpa using this
  obtain ⟨A1, n1, l1, rfl, k1, c1, y1⟩ := open_bytes (hval 1 22 v1 rfl rfl) h1 wz1
  clear hA0 hval0 hsz0 hsz
  refine (A.back_walk W r0 b0 _ _ l1 i0 g0 k1 c1 y1).mono fun e W' ⟨he, bel⟩ => ?_
  subst he
  exact ⟨_, rfl, _, _, _, [], _, [], hW', trodAll_mk1 (shut_bool Try.underlying4 _), (trodAll_cons_mk (Below.trod laidOut (by kernel_rfl) (of_decide_eq_true (by kernel_rfl)) t0 bel lt0) (trodAll_cons_mk (Below.trod laidOut (by kernel_rfl) (of_decide_eq_true (by kernel_rfl)) t1 bel lt1) trodAll_mk0)), rfl, bel.frame _, fun h => by cases h⟩
theorem over : Rows.recordBackRow.holds Try.pinned (OpenSpec.ofChange Rows.recordBackSpec) :=
  OpenClaim.holds_of_wide 4 Try.f4 rfl rfl rfl rfl rfl rfl rfl ⟨rfl, rfl, rfl, rfl, rfl⟩ rfl rfl rfl rfl rfl (by kernel_rfl) Try.func4 (by kernel_rfl)
    (of_decide_eq_true (by kernel_rfl)) (by unfold Func.isWrapper; first | (rw [if_pos (by decide +kernel)]; kernel_rfl) | (rw [if_neg (by decide +kernel)]; exact ⟨rfl, rfl⟩))
    (fun os started H enc _ => lifted os started H enc)
theorem proved : Rows.RecordBackSaid := over
end Go.Proofs.Ytcplblpmgajmnaa.recordBack
namespace Go.Proofs.Ytcplblpmgajmnaa
theorem recordBack_holds : Rows.RecordBackSaid := recordBack.proved
end Go.Proofs.Ytcplblpmgajmnaa
