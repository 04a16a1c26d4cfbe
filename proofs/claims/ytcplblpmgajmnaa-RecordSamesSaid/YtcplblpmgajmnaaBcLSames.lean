/-
  The law RecordSames answers true, without a panic, at every input: which records are the same, as the document answers. No condition beside those of the given row.
  Joined by wip/prune.py out of: HRefSame, HShim, AxF21, AxF5, HSames, LSames.
-/
import Derived.Test.YtcplblpmgajmnaaBc6
import Derived.Test.YtcplblpmgajmnaaRows
import Derived.WalkKit
import Derived.ProofKit
import Derived.OpenShut
import Derived.ShutString
import Derived.ChangeOld
import Derived.Below
import Derived.SizedLaws
namespace Go.Proofs.Ytcplblpmgajmnaa.A
open Go.RowKit Go.Proofs.YtcplblpmgajmnaaW.PrintWords Go.Proofs.YtcplblpmgajmnaaW.PrintLast Go.Proofs.YtcplblpmgajmnaaW.PrintMore
attribute [local go_sem high] eqA52 eqA54 eqA56
set_option linter.unusedVariables false
set_option linter.unusedSimpArgs false
theorem rec_ext {r s : Rec} (h0 : r.k = s.k) (h1 : r.t = s.t) (h2 : r.p = s.p) (h3 : r.g = s.g) (h4 : r.o = s.o) (h7 : r.n = s.n) (h5 : r.args = s.args) (h6 : r.imgs = s.imgs) (h8 : r.di = s.di) (h9 : r.ac = s.ac) : r = s := by
  cases r
  cases s
  simp only at *
  subst h0 h1 h2 h3 h4 h5 h6 h7 h8 h9
  rfl
theorem list_ext {α : Type} {z : α} {l m : List α} (hl : l.length = m.length) (h : ∀ j, j < l.length → l.getD j z = m.getD j z) : l = m := by
  refine List.ext_getElem hl fun j h1 h2 => ?_
  have := h j h1
  rwa [List.getD_eq_getElem?_getD, List.getD_eq_getElem?_getD, List.getElem?_eq_getElem h1, List.getElem?_eq_getElem h2] at this
theorem all_next {P : Nat → Prop} {i : Nat} (h : ∀ j, j < i → P j) (hi : P i) : ∀ j, j < i + 1 → P j := fun j hj => by
  rcases Nat.lt_or_ge j i with h1 | h1
  · exact h j h1
  · obtain rfl : i = j := by omega
    exact hi
set_option maxHeartbeats 8000000 in
set_option maxRecDepth 100000 in
theorem refsame_c {r s : Rec} {a b : Lies} {w : World} (h : RIn w r a) (h' : RIn w s b) : Calls Try.prog 14 #[.agg (r.cells a), .agg (s.cells b)] w fun e w' => e = .returned (.bool (decide (r = s))) ∧ Below w.heap.size w w' := by
  have hu30 := Try.underlying30
  have hu52 := Try.underlying52
  have hu54 := Try.underlying54
  have hu56 := Try.underlying56
  obtain ⟨A5, c5, A6, c6, A8, c8, A9, c9⟩ := a
  obtain ⟨B5, e5, B6, e6, B8, e8, B9, e9⟩ := b
  have HI := Aside0.mk h
  have HJ := Aside0.mk h'
  clear h h'
  obtain ⟨q, hq⟩ : ∃ q, decide (r = s) = q := ⟨_, rfl⟩
  rw [hq]
  replace hq := Lib.hid hq
  unfold Rec.cells
  go_enter Try.func14, Try.ntmps14

  by_cases g_k : r.k = s.k
  rotate_left
  · have b_k : (r.k != s.k) = true := bne_iff_ne.mpr g_k
    have G := Lib.hid g_k
    clear g_k
    obtain rfl : false = q := by rw [← hq.out]; exact (decide_eq_false (fun e => G.out (by rw [e]))).symm
    go_wp2
    go_ret
    exact ⟨rfl, below_alloc (below_alloc (Below.refl _ _) _) _⟩
  have b_k : (r.k != s.k) = false := bne_eq_false_iff_eq.mpr g_k
  replace g_k := Lib.hid g_k
  by_cases g_t : r.t = s.t
  rotate_left
  · have b_t : (r.t != s.t) = true := bne_iff_ne.mpr g_t
    have G := Lib.hid g_t
    clear g_t
    obtain rfl : false = q := by rw [← hq.out]; exact (decide_eq_false (fun e => G.out (by rw [e]))).symm
    go_wp2
    go_ret
    exact ⟨rfl, below_alloc (below_alloc (Below.refl _ _) _) _⟩
  have b_t : (r.t != s.t) = false := bne_eq_false_iff_eq.mpr g_t
  replace g_t := Lib.hid g_t
  by_cases g_p : r.p = s.p
  rotate_left
  · have b_p : (r.p != s.p) = true := bne_iff_ne.mpr g_p
    have G := Lib.hid g_p
    clear g_p
    obtain rfl : false = q := by rw [← hq.out]; exact (decide_eq_false (fun e => G.out (by rw [e]))).symm
    go_wp2
    go_ret
    exact ⟨rfl, below_alloc (below_alloc (Below.refl _ _) _) _⟩
  have b_p : (r.p != s.p) = false := bne_eq_false_iff_eq.mpr g_p
  replace g_p := Lib.hid g_p
  by_cases g_g : r.g = s.g
  rotate_left
  · have b_g : (r.g != s.g) = true := bne_iff_ne.mpr g_g
    have G := Lib.hid g_g
    clear g_g
    obtain rfl : false = q := by rw [← hq.out]; exact (decide_eq_false (fun e => G.out (by rw [e]))).symm
    go_wp2
    go_ret
    exact ⟨rfl, below_alloc (below_alloc (Below.refl _ _) _) _⟩
  have b_g : (r.g != s.g) = false := bne_eq_false_iff_eq.mpr g_g
  replace g_g := Lib.hid g_g
  by_cases g_o : r.o = s.o
  rotate_left
  · have b_o : (r.o != s.o) = true := bne_iff_ne.mpr g_o
    have G := Lib.hid g_o
    clear g_o
    obtain rfl : false = q := by rw [← hq.out]; exact (decide_eq_false (fun e => G.out (by rw [e]))).symm
    go_wp2
    go_ret
    exact ⟨rfl, below_alloc (below_alloc (Below.refl _ _) _) _⟩
  have b_o : (r.o != s.o) = false := bne_eq_false_iff_eq.mpr g_o
  replace g_o := Lib.hid g_o
  by_cases g_n : r.n = s.n
  rotate_left
  · have b_n : (r.n != s.n) = true := bne_iff_ne.mpr g_n
    have G := Lib.hid g_n
    clear g_n
    obtain rfl : false = q := by rw [← hq.out]; exact (decide_eq_false (fun e => G.out (by rw [e]))).symm
    go_wp2
    go_ret
    exact ⟨rfl, below_alloc (below_alloc (Below.refl _ _) _) _⟩
  have b_n : (r.n != s.n) = false := bne_eq_false_iff_eq.mpr g_n
  replace g_n := Lib.hid g_n
  by_cases g_args : (r.args.length : Int) = (s.args.length : Int)
  rotate_left
  · have b_args : ((r.args.length : Int) != (s.args.length : Int)) = true := bne_iff_ne.mpr g_args
    have b2_args : (r.args.length != s.args.length) = true := bne_iff_ne.mpr (by omega)
    have G := Lib.hid g_args
    clear g_args
    obtain rfl : false = q := by rw [← hq.out]; exact (decide_eq_false (fun e => G.out (by rw [e]))).symm
    go_wp2
    go_ret
    exact ⟨rfl, below_alloc (below_alloc (Below.refl _ _) _) _⟩
  have b_args : ((r.args.length : Int) != (s.args.length : Int)) = false := bne_eq_false_iff_eq.mpr g_args
  have b2_args : (r.args.length != s.args.length) = false := bne_eq_false_iff_eq.mpr (by omega)
  have g2_args : r.args.length = s.args.length := by omega
  replace g2_args := Lib.hid g2_args
  replace g_args := Lib.hid g_args
  by_cases g_imgs : (r.imgs.length : Int) = (s.imgs.length : Int)
  rotate_left
  · have b_imgs : ((r.imgs.length : Int) != (s.imgs.length : Int)) = true := bne_iff_ne.mpr g_imgs
    have b2_imgs : (r.imgs.length != s.imgs.length) = true := bne_iff_ne.mpr (by omega)
    have G := Lib.hid g_imgs
    clear g_imgs
    obtain rfl : false = q := by rw [← hq.out]; exact (decide_eq_false (fun e => G.out (by rw [e]))).symm
    go_wp2
    go_ret
    exact ⟨rfl, below_alloc (below_alloc (Below.refl _ _) _) _⟩
  have b_imgs : ((r.imgs.length : Int) != (s.imgs.length : Int)) = false := bne_eq_false_iff_eq.mpr g_imgs
  have b2_imgs : (r.imgs.length != s.imgs.length) = false := bne_eq_false_iff_eq.mpr (by omega)
  have g2_imgs : r.imgs.length = s.imgs.length := by omega
  replace g2_imgs := Lib.hid g2_imgs
  replace g_imgs := Lib.hid g_imgs
  by_cases g_di : (r.di.length : Int) = (s.di.length : Int)
  rotate_left
  · have b_di : ((r.di.length : Int) != (s.di.length : Int)) = true := bne_iff_ne.mpr g_di
    have b2_di : (r.di.length != s.di.length) = true := bne_iff_ne.mpr (by omega)
    have G := Lib.hid g_di
    clear g_di
    obtain rfl : false = q := by rw [← hq.out]; exact (decide_eq_false (fun e => G.out (by rw [e]))).symm
    go_wp2
    go_ret
    exact ⟨rfl, below_alloc (below_alloc (Below.refl _ _) _) _⟩
  have b_di : ((r.di.length : Int) != (s.di.length : Int)) = false := bne_eq_false_iff_eq.mpr g_di
  have b2_di : (r.di.length != s.di.length) = false := bne_eq_false_iff_eq.mpr (by omega)
  have g2_di : r.di.length = s.di.length := by omega
  replace g2_di := Lib.hid g2_di
  replace g_di := Lib.hid g_di
  by_cases g_ac : (r.ac.length : Int) = (s.ac.length : Int)
  rotate_left
  · have b_ac : ((r.ac.length : Int) != (s.ac.length : Int)) = true := bne_iff_ne.mpr g_ac
    have b2_ac : (r.ac.length != s.ac.length) = true := bne_iff_ne.mpr (by omega)
    have G := Lib.hid g_ac
    clear g_ac
    obtain rfl : false = q := by rw [← hq.out]; exact (decide_eq_false (fun e => G.out (by rw [e]))).symm
    go_wp2
    go_ret
    exact ⟨rfl, below_alloc (below_alloc (Below.refl _ _) _) _⟩
  have b_ac : ((r.ac.length : Int) != (s.ac.length : Int)) = false := bne_eq_false_iff_eq.mpr g_ac
  have b2_ac : (r.ac.length != s.ac.length) = false := bne_eq_false_iff_eq.mpr (by omega)
  have g2_ac : r.ac.length = s.ac.length := by omega
  replace g2_ac := Lib.hid g2_ac
  replace g_ac := Lib.hid g_ac
  go_upto_region 3 with (fail)
  go_cut [2, 3, 5] (fun v2 v3 v5 wc => v2 = .pointer (some ⟨w.heap.size, 0, none⟩) ∧ v3 = .pointer (some ⟨w.heap.size + 1, 0, none⟩) ∧ v5 = .int .i64 0 ∧ wc.heap[w.heap.size]? = some (.cells #[.int .i64 r.k, .int .i64 r.t, .int .i64 r.p, .int .i64 r.g, .int .i64 r.o, .slice A5 r.args.length c5, .slice A6 r.imgs.length c6, .int .i64 r.n, .slice A8 r.di.length c8, .slice A9 r.ac.length c9] 30 (0, 0)) ∧ wc.heap[w.heap.size + 1]? = some (.cells #[.int .i64 s.k, .int .i64 s.t, .int .i64 s.p, .int .i64 s.g, .int .i64 s.o, .slice B5 s.args.length e5, .slice B6 s.imgs.length e6, .int .i64 s.n, .slice B8 s.di.length e8, .slice B9 s.ac.length e9] 30 (0, 0)) ∧ Below w.heap.size w wc)
  case first =>
    go_wp2
    go_meet
    case rel =>
      have h2 := heap_alloc_new (w.alloc (.cells #[.int .i64 r.k, .int .i64 r.t, .int .i64 r.p, .int .i64 r.g, .int .i64 r.o, .slice A5 r.args.length c5, .slice A6 r.imgs.length c6, .int .i64 r.n, .slice A8 r.di.length c8, .slice A9 r.ac.length c9] 30)) (.cells #[.int .i64 s.k, .int .i64 s.t, .int .i64 s.p, .int .i64 s.g, .int .i64 s.o, .slice B5 s.args.length e5, .slice B6 s.imgs.length e6, .int .i64 s.n, .slice B8 s.di.length e8, .slice B9 s.ac.length e9] 30)
      rw [World.size_alloc] at h2
      exact ⟨rfl, rfl, rfl, blk_alloc (heap_alloc_new w _) _, h2, below_alloc (below_alloc (Below.refl _ _) _) _⟩
  case rest =>
    obtain ⟨rfl, rfl, rfl, BK1, BK2, HB⟩ := hcut
    replace BK1 := Lib.hid BK1
    replace BK2 := Lib.hid BK2
    replace HI := Aside0.mk (HI.out.below HB)
    replace HJ := Aside0.mk (HJ.out.below HB)
    replace HB := Lib.hid HB
    clear b_k b_t b_p b_g b_o b_n b_args b_imgs b_di b_ac
    clear b2_args b2_imgs b2_di b2_ac
    obtain ⟨x_0, x_1, x_2, x_3, x_4, x_5, x_6, x_7, x_8, x_9⟩ := ten_cells BK1.out
    obtain ⟨y_0, y_1, y_2, y_3, y_4, y_5, y_6, y_7, y_8, y_9⟩ := ten_cells BK2.out
    go_wp2
    go_loopw [5] (fun v5 wr => ∃ (i : Nat), v5 = .int .i64 (i : Int) ∧ i ≤ r.args.length ∧ Hid (∀ j, j < i → r.args.getD j (0 : Int) = s.args.getD j (0 : Int)) ∧ Hid (Below wc.heap.size wc wr)) (fun v5 _ => r.args.length - (match v5 with | .int _ n => n.toNat | _ => 0))
    case atStart => exact ⟨0, rfl, Nat.zero_le _, Lib.hid (fun j hj => absurd hj (Nat.not_lt_zero j)), Lib.hid (Below.refl _ _)⟩
    case round =>
      obtain ⟨i, rfl, hi, Hall, HBr⟩ := hrel
      have K1 := Lib.hid (blk_below BK1.out HBr.out)
      have K2 := Lib.hid (blk_below BK2.out HBr.out)
      have I1 := Aside0.mk (HI.out.below HBr.out)
      have J1 := Aside0.mk (HJ.out.below HBr.out)
      have HB1 := Lib.hid (below_then HB.out HB.out.size HBr.out)
      clear x_0 x_1 x_2 x_3 x_4 x_5 x_6 x_7 x_8 x_9 y_0 y_1 y_2 y_3 y_4 y_5 y_6 y_7 y_8 y_9
      obtain ⟨x_0, x_1, x_2, x_3, x_4, x_5, x_6, x_7, x_8, x_9⟩ := ten_cells K1.out
      obtain ⟨y_0, y_1, y_2, y_3, y_4, y_5, y_6, y_7, y_8, y_9⟩ := ten_cells K2.out
      by_cases hlt : i < r.args.length
      · have hmx := Kd.C_max I1.out.C5
        have hlt2 : i < s.args.length := by have := g2_args.out; omega
        obtain ⟨ad, eA, p0⟩ := Kd.at_int I1.out.C5 (i : Int) (by omega) (by omega)
        obtain ⟨bd, eB, q0⟩ := Kd.at_int J1.out.C5 (i : Int) (by omega) (by omega)
        dsimp only at eA eB
        subst eA eB
        rw [show ((i : Int)).toNat = i from rfl] at p0 q0
        obtain ⟨u, Hu⟩ : ∃ u, Hid (r.args.getD i (0 : Int) = u) := ⟨_, Lib.hid rfl⟩
        obtain ⟨v, Hv⟩ : ∃ v, Hid (s.args.getD i (0 : Int) = v) := ⟨_, Lib.hid rfl⟩
        rw [show rd r.args (i : Int) = r.args.getD i (0 : Int) from rfl, Hu.out] at p0
        rw [show rd s.args (i : Int) = s.args.getD i (0 : Int) from rfl, Hv.out] at q0
        by_cases huv : u = v
        · have hne : (u != v) = false := by subst huv; simp
          replace huv := Lib.hid huv
          go_wp2
          repeat (go_quiet (fail); try go_wp2)
          go_roundw
          case rel => exact ⟨i + 1, by go_num, by omega, Lib.hid (all_next Hall.out (by rw [Hu.out, Hv.out]; exact huv.out)), Lib.hid (by (with_reducible repeat (first | apply pw_below_drewN | apply below_drew1)); exact HBr.out)⟩
          case measure => simp [intOf]; omega
        · have hne : (u != v) = true := bne_iff_ne.mpr huv
          have G := Lib.hid huv
          clear huv
          obtain rfl : false = q := by rw [← hq.out]; exact (decide_eq_false (fun e => G.out (by rw [← Hu.out, ← Hv.out, e]))).symm
          go_wp2
          repeat (go_quiet (fail); try go_wp2)
          go_ret
          exact ⟨rfl, by (with_reducible repeat (first | apply pw_below_drewN | apply below_drew1)); exact HB1.out⟩
      · have L_args := Lib.hid (list_ext g2_args.out (fun j hj => Hall.out j (by omega)))
        obtain rfl : i = r.args.length := by omega
        clear HB HI HJ BK1 BK2 Hall HBr x_0 x_1 x_2 x_3 x_4 x_5 x_6 x_7 x_8 x_9 y_0 y_1 y_2 y_3 y_4 y_5 y_6 y_7 y_8 y_9 hlt hi
        have HB := HB1
        have HI := I1
        have HJ := J1
        have BK1 := K1
        have BK2 := K2
        clear HB1 I1 J1 K1 K2
        obtain ⟨wr5, hwr⟩ : ∃ x, x = wr := ⟨_, rfl⟩
        subst hwr
        obtain ⟨x_0, x_1, x_2, x_3, x_4, x_5, x_6, x_7, x_8, x_9⟩ := ten_cells BK1.out
        obtain ⟨y_0, y_1, y_2, y_3, y_4, y_5, y_6, y_7, y_8, y_9⟩ := ten_cells BK2.out
        go_wp2
        go_loopw [6] (fun v6 wr => ∃ (i : Nat), v6 = .int .i64 (i : Int) ∧ i ≤ r.imgs.length ∧ Hid (∀ j, j < i → r.imgs.getD j z52 = s.imgs.getD j z52) ∧ Hid (Below wr5.heap.size wr5 wr)) (fun v6 _ => r.imgs.length - (match v6 with | .int _ n => n.toNat | _ => 0))
        case atStart => exact ⟨0, rfl, Nat.zero_le _, Lib.hid (fun j hj => absurd hj (Nat.not_lt_zero j)), Lib.hid (Below.refl _ _)⟩
        case round =>
          obtain ⟨i, rfl, hi, Hall, HBr⟩ := hrel
          have K1 := Lib.hid (blk_below BK1.out HBr.out)
          have K2 := Lib.hid (blk_below BK2.out HBr.out)
          have I1 := Aside0.mk (HI.out.below HBr.out)
          have J1 := Aside0.mk (HJ.out.below HBr.out)
          have HB1 := Lib.hid (below_then HB.out HB.out.size HBr.out)
          clear x_0 x_1 x_2 x_3 x_4 x_5 x_6 x_7 x_8 x_9 y_0 y_1 y_2 y_3 y_4 y_5 y_6 y_7 y_8 y_9
          obtain ⟨x_0, x_1, x_2, x_3, x_4, x_5, x_6, x_7, x_8, x_9⟩ := ten_cells K1.out
          obtain ⟨y_0, y_1, y_2, y_3, y_4, y_5, y_6, y_7, y_8, y_9⟩ := ten_cells K2.out
          by_cases hlt : i < r.imgs.length
          · have hmx := Kd.C_max I1.out.C6
            have hlt2 : i < s.imgs.length := by have := g2_imgs.out; omega
            obtain ⟨ad, eA, p0, p1⟩ := at_T52 I1.out.C6 (i : Int) (by omega) (by omega)
            obtain ⟨bd, eB, q0, q1⟩ := at_T52 J1.out.C6 (i : Int) (by omega) (by omega)
            dsimp only at eA eB
            subst eA eB
            rw [show ((i : Int)).toNat = i from rfl] at p0 p1 q0 q1
            obtain ⟨u, Hu⟩ : ∃ u, Hid (r.imgs.getD i z52 = u) := ⟨_, Lib.hid rfl⟩
            obtain ⟨v, Hv⟩ : ∃ v, Hid (s.imgs.getD i z52 = v) := ⟨_, Lib.hid rfl⟩
            rw [show rd_T52 r.imgs (i : Int) = r.imgs.getD i z52 from rfl, Hu.out] at p0 p1
            rw [show rd_T52 s.imgs (i : Int) = s.imgs.getD i z52 from rfl, Hv.out] at q0 q1
            by_cases huv : u = v
            · have hne : (!(u.f0 == v.f0) || (!(u.f1 == v.f1))) = false := by subst huv; simp
              replace huv := Lib.hid huv
              go_wp2
              repeat (go_quiet (fail); try go_wp2)
              go_roundw
              case rel => exact ⟨i + 1, by go_num, by omega, Lib.hid (all_next Hall.out (by rw [Hu.out, Hv.out]; exact huv.out)), Lib.hid (by (with_reducible repeat (first | apply pw_below_drewN | apply below_drew1)); exact HBr.out)⟩
              case measure => simp [intOf]; omega
            · have hne : (!(u.f0 == v.f0) || (!(u.f1 == v.f1))) = true := by cases u; cases v; simp at huv ⊢; omega
              have G := Lib.hid huv
              clear huv
              obtain rfl : false = q := by rw [← hq.out]; exact (decide_eq_false (fun e => G.out (by rw [← Hu.out, ← Hv.out, e]))).symm
              go_wp2
              repeat (go_quiet (fail); try go_wp2)
              go_ret
              exact ⟨rfl, by (with_reducible repeat (first | apply pw_below_drewN | apply below_drew1)); exact HB1.out⟩
          · have L_imgs := Lib.hid (list_ext g2_imgs.out (fun j hj => Hall.out j (by omega)))
            obtain rfl : i = r.imgs.length := by omega
            clear HB HI HJ BK1 BK2 Hall HBr x_0 x_1 x_2 x_3 x_4 x_5 x_6 x_7 x_8 x_9 y_0 y_1 y_2 y_3 y_4 y_5 y_6 y_7 y_8 y_9 hlt hi
            have HB := HB1
            have HI := I1
            have HJ := J1
            have BK1 := K1
            have BK2 := K2
            clear HB1 I1 J1 K1 K2
            obtain ⟨wr6, hwr⟩ : ∃ x, x = wr := ⟨_, rfl⟩
            subst hwr
            obtain ⟨x_0, x_1, x_2, x_3, x_4, x_5, x_6, x_7, x_8, x_9⟩ := ten_cells BK1.out
            obtain ⟨y_0, y_1, y_2, y_3, y_4, y_5, y_6, y_7, y_8, y_9⟩ := ten_cells BK2.out
            go_wp2
            go_loopw [7] (fun v7 wr => ∃ (i : Nat), v7 = .int .i64 (i : Int) ∧ i ≤ r.di.length ∧ Hid (∀ j, j < i → r.di.getD j z54 = s.di.getD j z54) ∧ Hid (Below wr6.heap.size wr6 wr)) (fun v7 _ => r.di.length - (match v7 with | .int _ n => n.toNat | _ => 0))
            case atStart => exact ⟨0, rfl, Nat.zero_le _, Lib.hid (fun j hj => absurd hj (Nat.not_lt_zero j)), Lib.hid (Below.refl _ _)⟩
            case round =>
              obtain ⟨i, rfl, hi, Hall, HBr⟩ := hrel
              have K1 := Lib.hid (blk_below BK1.out HBr.out)
              have K2 := Lib.hid (blk_below BK2.out HBr.out)
              have I1 := Aside0.mk (HI.out.below HBr.out)
              have J1 := Aside0.mk (HJ.out.below HBr.out)
              have HB1 := Lib.hid (below_then HB.out HB.out.size HBr.out)
              clear x_0 x_1 x_2 x_3 x_4 x_5 x_6 x_7 x_8 x_9 y_0 y_1 y_2 y_3 y_4 y_5 y_6 y_7 y_8 y_9
              obtain ⟨x_0, x_1, x_2, x_3, x_4, x_5, x_6, x_7, x_8, x_9⟩ := ten_cells K1.out
              obtain ⟨y_0, y_1, y_2, y_3, y_4, y_5, y_6, y_7, y_8, y_9⟩ := ten_cells K2.out
              by_cases hlt : i < r.di.length
              · have hmx := Kd.C_max I1.out.C8
                have hlt2 : i < s.di.length := by have := g2_di.out; omega
                obtain ⟨ad, eA, p0, p1⟩ := at_T54 I1.out.C8 (i : Int) (by omega) (by omega)
                obtain ⟨bd, eB, q0, q1⟩ := at_T54 J1.out.C8 (i : Int) (by omega) (by omega)
                dsimp only at eA eB
                subst eA eB
                rw [show ((i : Int)).toNat = i from rfl] at p0 p1 q0 q1
                obtain ⟨u, Hu⟩ : ∃ u, Hid (r.di.getD i z54 = u) := ⟨_, Lib.hid rfl⟩
                obtain ⟨v, Hv⟩ : ∃ v, Hid (s.di.getD i z54 = v) := ⟨_, Lib.hid rfl⟩
                rw [show rd_T54 r.di (i : Int) = r.di.getD i z54 from rfl, Hu.out] at p0 p1
                rw [show rd_T54 s.di (i : Int) = s.di.getD i z54 from rfl, Hv.out] at q0 q1
                by_cases huv : u = v
                · have hne : (!(u.f0 == v.f0) || (!(u.f1 == v.f1))) = false := by subst huv; simp
                  replace huv := Lib.hid huv
                  go_wp2
                  repeat (go_quiet (fail); try go_wp2)
                  go_roundw
                  case rel => exact ⟨i + 1, by go_num, by omega, Lib.hid (all_next Hall.out (by rw [Hu.out, Hv.out]; exact huv.out)), Lib.hid (by (with_reducible repeat (first | apply pw_below_drewN | apply below_drew1)); exact HBr.out)⟩
                  case measure => simp [intOf]; omega
                · have hne : (!(u.f0 == v.f0) || (!(u.f1 == v.f1))) = true := by cases u; cases v; simp at huv ⊢; omega
                  have G := Lib.hid huv
                  clear huv
                  obtain rfl : false = q := by rw [← hq.out]; exact (decide_eq_false (fun e => G.out (by rw [← Hu.out, ← Hv.out, e]))).symm
                  go_wp2
                  repeat (go_quiet (fail); try go_wp2)
                  go_ret
                  exact ⟨rfl, by (with_reducible repeat (first | apply pw_below_drewN | apply below_drew1)); exact HB1.out⟩
              · have L_di := Lib.hid (list_ext g2_di.out (fun j hj => Hall.out j (by omega)))
                obtain rfl : i = r.di.length := by omega
                clear HB HI HJ BK1 BK2 Hall HBr x_0 x_1 x_2 x_3 x_4 x_5 x_6 x_7 x_8 x_9 y_0 y_1 y_2 y_3 y_4 y_5 y_6 y_7 y_8 y_9 hlt hi
                have HB := HB1
                have HI := I1
                have HJ := J1
                have BK1 := K1
                have BK2 := K2
                clear HB1 I1 J1 K1 K2
                obtain ⟨wr8, hwr⟩ : ∃ x, x = wr := ⟨_, rfl⟩
                subst hwr
                obtain ⟨x_0, x_1, x_2, x_3, x_4, x_5, x_6, x_7, x_8, x_9⟩ := ten_cells BK1.out
                obtain ⟨y_0, y_1, y_2, y_3, y_4, y_5, y_6, y_7, y_8, y_9⟩ := ten_cells BK2.out
                go_wp2
                go_loopw [8] (fun v8 wr => ∃ (i : Nat), v8 = .int .i64 (i : Int) ∧ i ≤ r.ac.length ∧ Hid (∀ j, j < i → r.ac.getD j z56 = s.ac.getD j z56) ∧ Hid (Below wr8.heap.size wr8 wr)) (fun v8 _ => r.ac.length - (match v8 with | .int _ n => n.toNat | _ => 0))
                case atStart => exact ⟨0, rfl, Nat.zero_le _, Lib.hid (fun j hj => absurd hj (Nat.not_lt_zero j)), Lib.hid (Below.refl _ _)⟩
                case round =>
                  obtain ⟨i, rfl, hi, Hall, HBr⟩ := hrel
                  have K1 := Lib.hid (blk_below BK1.out HBr.out)
                  have K2 := Lib.hid (blk_below BK2.out HBr.out)
                  have I1 := Aside0.mk (HI.out.below HBr.out)
                  have J1 := Aside0.mk (HJ.out.below HBr.out)
                  have HB1 := Lib.hid (below_then HB.out HB.out.size HBr.out)
                  clear x_0 x_1 x_2 x_3 x_4 x_5 x_6 x_7 x_8 x_9 y_0 y_1 y_2 y_3 y_4 y_5 y_6 y_7 y_8 y_9
                  obtain ⟨x_0, x_1, x_2, x_3, x_4, x_5, x_6, x_7, x_8, x_9⟩ := ten_cells K1.out
                  obtain ⟨y_0, y_1, y_2, y_3, y_4, y_5, y_6, y_7, y_8, y_9⟩ := ten_cells K2.out
                  by_cases hlt : i < r.ac.length
                  · have hmx := Kd.C_max I1.out.C9
                    have hlt2 : i < s.ac.length := by have := g2_ac.out; omega
                    obtain ⟨ad, eA, p0, p1, p2, p3⟩ := at_T56 I1.out.C9 (i : Int) (by omega) (by omega)
                    obtain ⟨bd, eB, q0, q1, q2, q3⟩ := at_T56 J1.out.C9 (i : Int) (by omega) (by omega)
                    dsimp only at eA eB
                    subst eA eB
                    rw [show ((i : Int)).toNat = i from rfl] at p0 p1 p2 p3 q0 q1 q2 q3
                    obtain ⟨u, Hu⟩ : ∃ u, Hid (r.ac.getD i z56 = u) := ⟨_, Lib.hid rfl⟩
                    obtain ⟨v, Hv⟩ : ∃ v, Hid (s.ac.getD i z56 = v) := ⟨_, Lib.hid rfl⟩
                    rw [show rd_T56 r.ac (i : Int) = r.ac.getD i z56 from rfl, Hu.out] at p0 p1 p2 p3
                    rw [show rd_T56 s.ac (i : Int) = s.ac.getD i z56 from rfl, Hv.out] at q0 q1 q2 q3
                    by_cases huv : u = v
                    · have hne : (!(u.f0 == v.f0) || (!(u.f1 == v.f1) || (!(u.f2 == v.f2) || (!(u.f3 == v.f3))))) = false := by subst huv; simp
                      replace huv := Lib.hid huv
                      go_wp2
                      repeat (go_quiet (fail); try go_wp2)
                      go_roundw
                      case rel => exact ⟨i + 1, by go_num, by omega, Lib.hid (all_next Hall.out (by rw [Hu.out, Hv.out]; exact huv.out)), Lib.hid (by (with_reducible repeat (first | apply pw_below_drewN | apply below_drew1)); exact HBr.out)⟩
                      case measure => simp [intOf]; omega
                    · have hne : (!(u.f0 == v.f0) || (!(u.f1 == v.f1) || (!(u.f2 == v.f2) || (!(u.f3 == v.f3))))) = true := by cases u; cases v; simp at huv ⊢; omega
                      have G := Lib.hid huv
                      clear huv
                      obtain rfl : false = q := by rw [← hq.out]; exact (decide_eq_false (fun e => G.out (by rw [← Hu.out, ← Hv.out, e]))).symm
                      go_wp2
                      repeat (go_quiet (fail); try go_wp2)
                      go_ret
                      exact ⟨rfl, by (with_reducible repeat (first | apply pw_below_drewN | apply below_drew1)); exact HB1.out⟩
                  · have L_ac := Lib.hid (list_ext g2_ac.out (fun j hj => Hall.out j (by omega)))
                    obtain rfl : i = r.ac.length := by omega
                    clear HB HI HJ BK1 BK2 Hall HBr x_0 x_1 x_2 x_3 x_4 x_5 x_6 x_7 x_8 x_9 y_0 y_1 y_2 y_3 y_4 y_5 y_6 y_7 y_8 y_9 hlt hi
                    have HB := HB1
                    have HI := I1
                    have HJ := J1
                    have BK1 := K1
                    have BK2 := K2
                    clear HB1 I1 J1 K1 K2
                    obtain ⟨wr9, hwr⟩ : ∃ x, x = wr := ⟨_, rfl⟩
                    subst hwr
                    obtain ⟨x_0, x_1, x_2, x_3, x_4, x_5, x_6, x_7, x_8, x_9⟩ := ten_cells BK1.out
                    obtain rfl : true = q := by rw [← hq.out]; exact (decide_eq_true (rec_ext g_k.out g_t.out g_p.out g_g.out g_o.out g_n.out L_args.out L_imgs.out L_di.out L_ac.out)).symm
                    go_wp2
                    go_ret
                    exact ⟨rfl, HB.out⟩
end Go.Proofs.Ytcplblpmgajmnaa.A
namespace Go.Proofs.Ytcplblpmgajmnaa.A
open Go.RowKit Go.Proofs.YtcplblpmgajmnaaW.PrintWords Go.Proofs.YtcplblpmgajmnaaW.PrintLast Go.Proofs.YtcplblpmgajmnaaW.PrintMore
set_option linter.unusedVariables false
set_option linter.unusedSimpArgs false
def palimpsestlaw16_alive.f (k : Nat) : Option (Bool) := some true
theorem palimpsestlaw16_alive.mono : ∀ k, LeO (palimpsestlaw16_alive.f k) (palimpsestlaw16_alive.f (k + 1)) := fun k => LeO.refl _
theorem palimpsestlaw16_alive.calls (k : Nat) (r : Bool) (w : World) (h : palimpsestlaw16_alive.f k = some r) : Calls Try.prog 10 #[] w fun e w' => e = .returned (.bool r) ∧ Below w.heap.size w w' := by
  obtain rfl : true = r := Option.some.inj h
  exact alive_true w
def palimpsestref16_Same.f (k : Nat) (a0 a1 a2 a3 a4 : Int) (a5 : List Int) (a6 : List S52) (a7 : Int) (a8 : List S54) (a9 : List S56) (b0 b1 b2 b3 b4 : Int) (b5 : List Int) (b6 : List S52) (b7 : Int) (b8 : List S54) (b9 : List S56) : Option (Bool) := some (decide (Rec.mk a0 a1 a2 a3 a4 a5 a6 a7 a8 a9 = Rec.mk b0 b1 b2 b3 b4 b5 b6 b7 b8 b9))
theorem palimpsestref16_Same.mono : ∀ a0 a1 a2 a3 a4 a5 a6 a7 a8 a9 a10 a11 a12 a13 a14 a15 a16 a17 a18 a19 k, LeO (palimpsestref16_Same.f k a0 a1 a2 a3 a4 a5 a6 a7 a8 a9 a10 a11 a12 a13 a14 a15 a16 a17 a18 a19) (palimpsestref16_Same.f (k + 1) a0 a1 a2 a3 a4 a5 a6 a7 a8 a9 a10 a11 a12 a13 a14 a15 a16 a17 a18 a19) := fun _ _ _ _ _ _ _ _ _ _ _ _ _ _ _ _ _ _ _ _ k => LeO.refl _
theorem palimpsestref16_Same.calls (k : Nat) (a0_0 : Int) (a0_1 : Int) (a0_2 : Int) (a0_3 : Int) (a0_4 : Int) (A0_5 : Option Addr) (c0_5 : Nat) (l0_5 : List Int) (A0_6 : Option Addr) (c0_6 : Nat) (l0_6 : List (S52)) (a0_7 : Int) (A0_8 : Option Addr) (c0_8 : Nat) (l0_8 : List (S54)) (A0_9 : Option Addr) (c0_9 : Nat) (l0_9 : List (S56)) (a1_0 : Int) (a1_1 : Int) (a1_2 : Int) (a1_3 : Int) (a1_4 : Int) (A1_5 : Option Addr) (c1_5 : Nat) (l1_5 : List Int) (A1_6 : Option Addr) (c1_6 : Nat) (l1_6 : List (S52)) (a1_7 : Int) (A1_8 : Option Addr) (c1_8 : Nat) (l1_8 : List (S54)) (A1_9 : Option Addr) (c1_9 : Nat) (l1_9 : List (S56)) (r : Bool) (w : World) (hr0_5 : Kd.C (Kd.int .i64) w A0_5 l0_5.length l0_5) (hc0_5 : l0_5.length ≤ c0_5) (hr0_6 : Kd.C k52 w A0_6 l0_6.length l0_6) (hc0_6 : l0_6.length ≤ c0_6) (hr0_8 : Kd.C k54 w A0_8 l0_8.length l0_8) (hc0_8 : l0_8.length ≤ c0_8) (hr0_9 : Kd.C k56 w A0_9 l0_9.length l0_9) (hc0_9 : l0_9.length ≤ c0_9) (hr1_5 : Kd.C (Kd.int .i64) w A1_5 l1_5.length l1_5) (hc1_5 : l1_5.length ≤ c1_5) (hr1_6 : Kd.C k52 w A1_6 l1_6.length l1_6) (hc1_6 : l1_6.length ≤ c1_6) (hr1_8 : Kd.C k54 w A1_8 l1_8.length l1_8) (hc1_8 : l1_8.length ≤ c1_8) (hr1_9 : Kd.C k56 w A1_9 l1_9.length l1_9) (hc1_9 : l1_9.length ≤ c1_9) (h : palimpsestref16_Same.f k a0_0 a0_1 a0_2 a0_3 a0_4 l0_5 l0_6 a0_7 l0_8 l0_9 a1_0 a1_1 a1_2 a1_3 a1_4 l1_5 l1_6 a1_7 l1_8 l1_9 = some r) :
    Calls Try.prog 14 #[.agg #[.int .i64 a0_0, .int .i64 a0_1, .int .i64 a0_2, .int .i64 a0_3, .int .i64 a0_4, .slice A0_5 l0_5.length c0_5, .slice A0_6 l0_6.length c0_6, .int .i64 a0_7, .slice A0_8 l0_8.length c0_8, .slice A0_9 l0_9.length c0_9], .agg #[.int .i64 a1_0, .int .i64 a1_1, .int .i64 a1_2, .int .i64 a1_3, .int .i64 a1_4, .slice A1_5 l1_5.length c1_5, .slice A1_6 l1_6.length c1_6, .int .i64 a1_7, .slice A1_8 l1_8.length c1_8, .slice A1_9 l1_9.length c1_9]] w fun e w' => e = .returned (.bool r) ∧ Below w.heap.size w w' := by
  obtain rfl := Option.some.inj h
  exact refsame_c (r := Rec.mk a0_0 a0_1 a0_2 a0_3 a0_4 l0_5 l0_6 a0_7 l0_8 l0_9) (s := Rec.mk a1_0 a1_1 a1_2 a1_3 a1_4 l1_5 l1_6 a1_7 l1_8 l1_9) (a := ⟨A0_5, c0_5, A0_6, c0_6, A0_8, c0_8, A0_9, c0_9⟩) (b := ⟨A1_5, c1_5, A1_6, c1_6, A1_8, c1_8, A1_9, c1_9⟩) ⟨hr0_5, hc0_5, hr0_6, hc0_6, hr0_8, hc0_8, hr0_9, hc0_9⟩ ⟨hr1_5, hc1_5, hr1_6, hc1_6, hr1_8, hc1_8, hr1_9, hc1_9⟩
end Go.Proofs.Ytcplblpmgajmnaa.A
namespace Go.Proofs.Ytcplblpmgajmnaa.A
open Go.RowKit Go.Proofs.YtcplblpmgajmnaaW.PrintWords Go.Proofs.YtcplblpmgajmnaaW.PrintLast Go.Proofs.YtcplblpmgajmnaaW.PrintMore
attribute [local go_sem] max2_int min2_int max_two min_two max_three min_three max_four min_four   -- for this text's walks alone
set_option linter.unusedVariables false
set_option linter.unusedSimpArgs false
def palimpsestlaw16_copied.f (a0_0 : Int) (a0_1 : Int) (a0_2 : Int) (a0_3 : Int) (a0_4 : Int) (l0_5 : List Int) (l0_6 : List (S52)) (a0_7 : Int) (l0_8 : List (S54)) (l0_9 : List (S56)) : Option (Int × Int × Int × Int × Int × List Int × (List (S52)) × Int × (List (S54)) × (List (S56))) := (some (([] : List Int) : List Int)).bind fun y498 => (if y498.length + l0_5.length < 17592186044416 then ((some (([] : List (S52)) : List (S52))).bind fun y504 => (if y504.length + l0_6.length < 8796093022208 then ((some (([] : List (S54)) : List (S54))).bind fun y510 => (if y510.length + l0_8.length < 8796093022208 then ((some (([] : List (S56)) : List (S56))).bind fun y516 => (if y516.length + l0_9.length < 4398046511104 then (some (a0_0, a0_1, a0_2, a0_3, a0_4, (y498 ++ l0_5), (y504 ++ l0_6), a0_7, (y510 ++ l0_8), (y516 ++ l0_9))) else (none))) else (none))) else (none))) else (none))
set_option maxHeartbeats 8000000 in
set_option maxRecDepth 100000 in
theorem palimpsestlaw16_copied.calls (a0_0 : Int) (a0_1 : Int) (a0_2 : Int) (a0_3 : Int) (a0_4 : Int) (A0_5 : Option Addr) (c0_5 : Nat) (l0_5 : List Int) (A0_6 : Option Addr) (c0_6 : Nat) (l0_6 : List (S52)) (a0_7 : Int) (A0_8 : Option Addr) (c0_8 : Nat) (l0_8 : List (S54)) (A0_9 : Option Addr) (c0_9 : Nat) (l0_9 : List (S56)) (r1 : Int) (r2 : Int) (r3 : Int) (r4 : Int) (r5 : Int) (r6 : List Int) (r7 : List (S52)) (r8 : Int) (r9 : List (S54)) (r10 : List (S56)) (w : World) (hr0_5 : Kd.C (Kd.int .i64) w A0_5 l0_5.length l0_5) (hc0_5 : l0_5.length ≤ c0_5) (hr0_6 : Kd.C k52 w A0_6 l0_6.length l0_6) (hc0_6 : l0_6.length ≤ c0_6) (hr0_8 : Kd.C k54 w A0_8 l0_8.length l0_8) (hc0_8 : l0_8.length ≤ c0_8) (hr0_9 : Kd.C k56 w A0_9 l0_9.length l0_9) (hc0_9 : l0_9.length ≤ c0_9) (h : palimpsestlaw16_copied.f a0_0 a0_1 a0_2 a0_3 a0_4 l0_5 l0_6 a0_7 l0_8 l0_9 = some (r1, r2, r3, r4, r5, r6, r7, r8, r9, r10)) :
    Calls Try.prog 21 #[.agg #[.int .i64 a0_0, .int .i64 a0_1, .int .i64 a0_2, .int .i64 a0_3, .int .i64 a0_4, .slice A0_5 l0_5.length c0_5, .slice A0_6 l0_6.length c0_6, .int .i64 a0_7, .slice A0_8 l0_8.length c0_8, .slice A0_9 l0_9.length c0_9]] w fun e w' => ∃ v5_ v6_ v8_ v9_ : Value, e = .returned (.agg #[.int .i64 r1, .int .i64 r2, .int .i64 r3, .int .i64 r4, .int .i64 r5, v5_, v6_, .int .i64 r8, v8_, v9_]) ∧ Kd.R (Kd.int .i64) 3 w' w.heap.size (fun _ => True) v5_ r6 ∧ Kd.R k52 52 w' w.heap.size (fun _ => True) v6_ r7 ∧ Kd.R k54 54 w' w.heap.size (fun _ => True) v8_ r9 ∧ Kd.R k56 56 w' w.heap.size (fun _ => True) v9_ r10 ∧ Below w.heap.size w w' := by
  have hu30 := Try.underlying30
  have HR0_5 := Aside0.mk hr0_5
  have HC0_5 := Aside0.mk hc0_5
  clear hr0_5 hc0_5
  have HR0_6 := Aside0.mk hr0_6
  have HC0_6 := Aside0.mk hc0_6
  clear hr0_6 hc0_6
  have HR0_8 := Aside0.mk hr0_8
  have HC0_8 := Aside0.mk hc0_8
  clear hr0_8 hc0_8
  have HR0_9 := Aside0.mk hr0_9
  have HC0_9 := Aside0.mk hc0_9
  clear hr0_9 hc0_9
  have HB := Aside0.mk (Below.refl w.heap.size w)
  have H : ((some (([] : List Int) : List Int)).bind fun y498 => (if y498.length + l0_5.length < 17592186044416 then ((some (([] : List (S52)) : List (S52))).bind fun y504 => (if y504.length + l0_6.length < 8796093022208 then ((some (([] : List (S54)) : List (S54))).bind fun y510 => (if y510.length + l0_8.length < 8796093022208 then ((some (([] : List (S56)) : List (S56))).bind fun y516 => (if y516.length + l0_9.length < 4398046511104 then (some (a0_0, a0_1, a0_2, a0_3, a0_4, (y498 ++ l0_5), (y504 ++ l0_6), a0_7, (y510 ++ l0_8), (y516 ++ l0_9))) else (none))) else (none))) else (none))) else (none))) = some (r1, r2, r3, r4, r5, r6, r7, r8, r9, r10) := h
  clear h
  obtain ⟨y498, hy498⟩ : ∃ y_ : List Int, y_ = (([] : List Int)) := ⟨_, rfl⟩
  replace H : (if y498.length + l0_5.length < 17592186044416 then ((some (([] : List (S52)) : List (S52))).bind fun y504 => (if y504.length + l0_6.length < 8796093022208 then ((some (([] : List (S54)) : List (S54))).bind fun y510 => (if y510.length + l0_8.length < 8796093022208 then ((some (([] : List (S56)) : List (S56))).bind fun y516 => (if y516.length + l0_9.length < 4398046511104 then (some (a0_0, a0_1, a0_2, a0_3, a0_4, (y498 ++ l0_5), (y504 ++ l0_6), a0_7, (y510 ++ l0_8), (y516 ++ l0_9))) else (none))) else (none))) else (none))) else (none)) = some (r1, r2, r3, r4, r5, r6, r7, r8, r9, r10) := by first | (rw [hy498]; with_reducible exact H) | (have H2_ := (Option.bind_some _ _).symm.trans H; rw [hy498]; with_reducible exact H2_) | (have H2_ := (Option.bind_some _ _).symm.trans H; with_reducible exact H2_) | with_reducible exact H | (rw [hy498]; exact H) | exact H
  have Ny498 := Aside0.mk hy498
  clear hy498
  by_cases c2 : y498.length + l0_5.length < 17592186044416
  · rw [if_pos c2] at H
    have LMc2 := Aside0.mk c2
    clear c2
    obtain ⟨y501, hy501⟩ : ∃ y_ : List Int, y_ = (y498 ++ l0_5) := ⟨_, rfl⟩
    replace H : ((some (([] : List (S52)) : List (S52))).bind fun y504 => (if y504.length + l0_6.length < 8796093022208 then ((some (([] : List (S54)) : List (S54))).bind fun y510 => (if y510.length + l0_8.length < 8796093022208 then ((some (([] : List (S56)) : List (S56))).bind fun y516 => (if y516.length + l0_9.length < 4398046511104 then (some (a0_0, a0_1, a0_2, a0_3, a0_4, y501, (y504 ++ l0_6), a0_7, (y510 ++ l0_8), (y516 ++ l0_9))) else (none))) else (none))) else (none))) = some (r1, r2, r3, r4, r5, r6, r7, r8, r9, r10) := by first | (rw [hy501]; with_reducible exact H) | (have H2_ := (Option.bind_some _ _).symm.trans H; rw [hy501]; with_reducible exact H2_) | (have H2_ := (Option.bind_some _ _).symm.trans H; with_reducible exact H2_) | with_reducible exact H | (rw [hy501]; exact H) | exact H
    have Ny501 := Aside0.mk hy501
    clear hy501
    obtain ⟨y504, hy504⟩ : ∃ y_ : List (S52), y_ = (([] : List (S52))) := ⟨_, rfl⟩
    replace H : (if y504.length + l0_6.length < 8796093022208 then ((some (([] : List (S54)) : List (S54))).bind fun y510 => (if y510.length + l0_8.length < 8796093022208 then ((some (([] : List (S56)) : List (S56))).bind fun y516 => (if y516.length + l0_9.length < 4398046511104 then (some (a0_0, a0_1, a0_2, a0_3, a0_4, y501, (y504 ++ l0_6), a0_7, (y510 ++ l0_8), (y516 ++ l0_9))) else (none))) else (none))) else (none)) = some (r1, r2, r3, r4, r5, r6, r7, r8, r9, r10) := by first | (rw [hy504]; with_reducible exact H) | (have H2_ := (Option.bind_some _ _).symm.trans H; rw [hy504]; with_reducible exact H2_) | (have H2_ := (Option.bind_some _ _).symm.trans H; with_reducible exact H2_) | with_reducible exact H | (rw [hy504]; exact H) | exact H
    have Ny504 := Aside0.mk hy504
    clear hy504
    by_cases c3 : y504.length + l0_6.length < 8796093022208
    · rw [if_pos c3] at H
      have LMc3 := Aside0.mk c3
      clear c3
      obtain ⟨y507, hy507⟩ : ∃ y_ : List (S52), y_ = (y504 ++ l0_6) := ⟨_, rfl⟩
      replace H : ((some (([] : List (S54)) : List (S54))).bind fun y510 => (if y510.length + l0_8.length < 8796093022208 then ((some (([] : List (S56)) : List (S56))).bind fun y516 => (if y516.length + l0_9.length < 4398046511104 then (some (a0_0, a0_1, a0_2, a0_3, a0_4, y501, y507, a0_7, (y510 ++ l0_8), (y516 ++ l0_9))) else (none))) else (none))) = some (r1, r2, r3, r4, r5, r6, r7, r8, r9, r10) := by first | (rw [hy507]; with_reducible exact H) | (have H2_ := (Option.bind_some _ _).symm.trans H; rw [hy507]; with_reducible exact H2_) | (have H2_ := (Option.bind_some _ _).symm.trans H; with_reducible exact H2_) | with_reducible exact H | (rw [hy507]; exact H) | exact H
      have Ny507 := Aside0.mk hy507
      clear hy507
      obtain ⟨y510, hy510⟩ : ∃ y_ : List (S54), y_ = (([] : List (S54))) := ⟨_, rfl⟩
      replace H : (if y510.length + l0_8.length < 8796093022208 then ((some (([] : List (S56)) : List (S56))).bind fun y516 => (if y516.length + l0_9.length < 4398046511104 then (some (a0_0, a0_1, a0_2, a0_3, a0_4, y501, y507, a0_7, (y510 ++ l0_8), (y516 ++ l0_9))) else (none))) else (none)) = some (r1, r2, r3, r4, r5, r6, r7, r8, r9, r10) := by first | (rw [hy510]; with_reducible exact H) | (have H2_ := (Option.bind_some _ _).symm.trans H; rw [hy510]; with_reducible exact H2_) | (have H2_ := (Option.bind_some _ _).symm.trans H; with_reducible exact H2_) | with_reducible exact H | (rw [hy510]; exact H) | exact H
      have Ny510 := Aside0.mk hy510
      clear hy510
      by_cases c4 : y510.length + l0_8.length < 8796093022208
      · rw [if_pos c4] at H
        have LMc4 := Aside0.mk c4
        clear c4
        obtain ⟨y513, hy513⟩ : ∃ y_ : List (S54), y_ = (y510 ++ l0_8) := ⟨_, rfl⟩
        replace H : ((some (([] : List (S56)) : List (S56))).bind fun y516 => (if y516.length + l0_9.length < 4398046511104 then (some (a0_0, a0_1, a0_2, a0_3, a0_4, y501, y507, a0_7, y513, (y516 ++ l0_9))) else (none))) = some (r1, r2, r3, r4, r5, r6, r7, r8, r9, r10) := by first | (rw [hy513]; with_reducible exact H) | (have H2_ := (Option.bind_some _ _).symm.trans H; rw [hy513]; with_reducible exact H2_) | (have H2_ := (Option.bind_some _ _).symm.trans H; with_reducible exact H2_) | with_reducible exact H | (rw [hy513]; exact H) | exact H
        have Ny513 := Aside0.mk hy513
        clear hy513
        obtain ⟨y516, hy516⟩ : ∃ y_ : List (S56), y_ = (([] : List (S56))) := ⟨_, rfl⟩
        replace H : (if y516.length + l0_9.length < 4398046511104 then (some (a0_0, a0_1, a0_2, a0_3, a0_4, y501, y507, a0_7, y513, (y516 ++ l0_9))) else (none)) = some (r1, r2, r3, r4, r5, r6, r7, r8, r9, r10) := by first | (rw [hy516]; with_reducible exact H) | (have H2_ := (Option.bind_some _ _).symm.trans H; rw [hy516]; with_reducible exact H2_) | (have H2_ := (Option.bind_some _ _).symm.trans H; with_reducible exact H2_) | with_reducible exact H | (rw [hy516]; exact H) | exact H
        have Ny516 := Aside0.mk hy516
        clear hy516
        by_cases c5 : y516.length + l0_9.length < 4398046511104
        · rw [if_pos c5] at H
          have LMc5 := Aside0.mk c5
          clear c5
          obtain ⟨y519, hy519⟩ : ∃ y_ : List (S56), y_ = (y516 ++ l0_9) := ⟨_, rfl⟩
          replace H : (some (a0_0, a0_1, a0_2, a0_3, a0_4, y501, y507, a0_7, y513, y519)) = some (r1, r2, r3, r4, r5, r6, r7, r8, r9, r10) := by first | (rw [hy519]; with_reducible exact H) | (have H2_ := (Option.bind_some _ _).symm.trans H; rw [hy519]; with_reducible exact H2_) | (have H2_ := (Option.bind_some _ _).symm.trans H; with_reducible exact H2_) | with_reducible exact H | (rw [hy519]; exact H) | exact H
          have Ny519 := Aside0.mk hy519
          clear hy519
          simp only [Option.some.injEq, Prod.mk.injEq] at H
          obtain ⟨rfl, rfl, rfl, rfl, rfl, rfl, rfl, rfl, rfl, rfl⟩ := H
          go_enter Try.func21, Try.ntmps21
          go_wp2_with (first | ((with_reducible refine gate_dst (N := 1) rfl ?_); refine box_event ?hg (N := 1) ?hd (cs := #[.int .i64 a0_0, .int .i64 a0_1, .int .i64 a0_2, .int .i64 a0_3, .int .i64 a0_4, .slice A0_5 l0_5.length c0_5, .slice A0_6 l0_6.length c0_6, .int .i64 a0_7, .slice A0_8 l0_8.length c0_8, .slice A0_9 l0_9.length c0_9]) (t := 30) ?hr ?_; (case hd => rfl); (case hg => rfl); (case hr => first | (go_simp; done) | (go_simp; rfl)); intro gb496 hg w6 hbox hb; have n0_ := Aside0.mk (below_step (by repeat (first | (with_reducible first | exact HB.out | apply below_alloc | apply pw_below_drewN | apply below_drew1) | exact HB.out)) hb); have n1_ := Aside0.mk (hbox); have n2_ := Aside0.mk ((by rw [hg]; exact (below_size (by repeat (first | (with_reducible first | exact HB.out | apply below_alloc | apply pw_below_drewN | apply below_drew1) | exact HB.out))) : w.heap.size ≤ gb496)); have n3_ := Aside0.mk ((by rw [hg]; exact (below_size (by repeat (first | (with_reducible first | exact HB.out | apply below_alloc | apply pw_below_drewN | apply below_drew1) | exact HB.out))) : w.heap.size ≤ gb496)); clear HB; have HB := n0_; have BK496 := n1_; have GW496 := n2_; have GE496 := n3_; clear n0_ n1_ n2_ n3_; clear hb hbox hg) | ((with_reducible refine gate_dst (N := 2) rfl ?_); refine box_event ?hg (N := 2) ?hd (cs := #[.int .i64 0, .int .i64 0, .int .i64 0, .int .i64 0, .int .i64 0, .slice none 0 0, .slice none 0 0, .int .i64 0, .slice none 0 0, .slice none 0 0]) (t := 30) ?hr ?_; (case hd => rfl); (case hg => rfl); (case hr => first | (go_simp; done) | (go_simp; rfl)); intro gb497 hg w7 hbox hb; have n0_ := Aside0.mk (blk_below (g := gb496) (o := .cells #[.int .i64 a0_0, .int .i64 a0_1, .int .i64 a0_2, .int .i64 a0_3, .int .i64 a0_4, .slice A0_5 l0_5.length c0_5, .slice A0_6 l0_6.length c0_6, .int .i64 a0_7, .slice A0_8 l0_8.length c0_8, .slice A0_9 l0_9.length c0_9] 30 (0, 0)) (by (with_reducible repeat (first | refine blk_drewN ?_ _ | refine blk_drew ?_ | refine blk_alloc ?_ _)); exact BK496.out) hb); have n1_ := Aside0.mk (below_step (by repeat (first | (with_reducible first | exact HB.out | apply below_alloc | apply pw_below_drewN | apply below_drew1 | refine below_set ?_ GE496.out) | exact HB.out)) hb); have n2_ := Aside0.mk (hbox); have n3_ := Aside0.mk ((by rw [hg]; exact (below_size (by repeat (first | (with_reducible first | exact HB.out | apply below_alloc | apply pw_below_drewN | apply below_drew1 | refine below_set ?_ GE496.out) | exact HB.out))) : w.heap.size ≤ gb497)); have n4_ := Aside0.mk ((by rw [hg]; exact (below_size (by repeat (first | (with_reducible first | exact HB.out | apply below_alloc | apply pw_below_drewN | apply below_drew1 | refine below_set ?_ GE496.out) | exact HB.out))) : w.heap.size ≤ gb497)); have n5_ := Aside0.mk ((by rw [hg]; exact Nat.ne_of_lt (blk_lt (g := gb496) (o := .cells #[.int .i64 a0_0, .int .i64 a0_1, .int .i64 a0_2, .int .i64 a0_3, .int .i64 a0_4, .slice A0_5 l0_5.length c0_5, .slice A0_6 l0_6.length c0_6, .int .i64 a0_7, .slice A0_8 l0_8.length c0_8, .slice A0_9 l0_9.length c0_9] 30 (0, 0)) (by (with_reducible repeat (first | refine blk_drewN ?_ _ | refine blk_drew ?_ | refine blk_alloc ?_ _)); exact BK496.out)) : gb496 ≠ gb497)); have n6_ := Aside0.mk ((by rw [hg]; exact Nat.ne_of_gt (blk_lt (g := gb496) (o := .cells #[.int .i64 a0_0, .int .i64 a0_1, .int .i64 a0_2, .int .i64 a0_3, .int .i64 a0_4, .slice A0_5 l0_5.length c0_5, .slice A0_6 l0_6.length c0_6, .int .i64 a0_7, .slice A0_8 l0_8.length c0_8, .slice A0_9 l0_9.length c0_9] 30 (0, 0)) (by (with_reducible repeat (first | refine blk_drewN ?_ _ | refine blk_drew ?_ | refine blk_alloc ?_ _)); exact BK496.out)) : gb497 ≠ gb496)); clear BK496; clear HB; have BK496 := n0_; have HB := n1_; have BK497 := n2_; have GW497 := n3_; have GE497 := n4_; have NB496_497 := n5_; have NB497_496 := n6_; clear n0_ n1_ n2_ n3_ n4_ n5_ n6_; clear hb hbox hg) | ((with_reducible refine gate_dst (N := 3) rfl ?_); refine Kd.R_lit (Kd.int .i64) _ 3 ?hg (N := 3) ?hd (xs := ([] : List Int)) (inner := []) (ok := fun _ => True) (okp := fun _ => True) ?hr ?hp (fun _ hk => hk) trivial (Below.refl _ _) (Nat.le_refl _) (by simp) ?_; (case hd => rfl); (case hg => rfl); (case hr => first | (go_simp; done) | (go_simp; rfl)); (case hp => exact (Reps.none _ _)); intro v499 w8 ho9 hb hg_ hnew_; clear hg_ hnew_; (first | rw [← Ny498.out] at ho9 | (simp only [Int.reduceToNat] at ho9; rw [← Ny498.out] at ho9)); have n0_ := Aside0.mk (Kd.R_lower ho9 (below_size (by repeat (first | (with_reducible first | exact HB.out | apply below_alloc | apply pw_below_drewN | apply below_drew1 | refine below_set ?_ GE496.out | refine below_set ?_ GE497.out) | exact HB.out)))); have n1_ := Aside0.mk (blk_below (g := gb496) (o := .cells #[.int .i64 a0_0, .int .i64 a0_1, .int .i64 a0_2, .int .i64 a0_3, .int .i64 a0_4, .slice A0_5 l0_5.length c0_5, .slice A0_6 l0_6.length c0_6, .int .i64 a0_7, .slice A0_8 l0_8.length c0_8, .slice A0_9 l0_9.length c0_9] 30 (0, 0)) (by (with_reducible repeat (first | refine blk_drewN ?_ _ | refine blk_drew ?_ | refine blk_alloc ?_ _)); exact BK496.out) hb); have n2_ := Aside0.mk (blk_below (g := gb497) (o := .cells #[.int .i64 0, .int .i64 0, .int .i64 0, .int .i64 0, .int .i64 0, .slice none 0 0, .slice none 0 0, .int .i64 0, .slice none 0 0, .slice none 0 0] 30 (0, 0)) (by (with_reducible repeat (first | refine blk_drewN ?_ _ | refine blk_drew ?_ | refine blk_alloc ?_ _)); exact BK497.out) hb); have n3_ := Aside0.mk (below_step (by repeat (first | (with_reducible first | exact HB.out | apply below_alloc | apply pw_below_drewN | apply below_drew1 | refine below_set ?_ GE496.out | refine below_set ?_ GE497.out) | exact HB.out)) hb); clear BK496; clear BK497; clear HB; have HO500 := n0_; have BK496 := n1_; have BK497 := n2_; have HB := n3_; clear n0_ n1_ n2_ n3_; clear hb ho9; have hnb10 := NB496_497.out; have hnc10 := NB497_496.out; have hcz11_0 : w8.cell? ⟨gb496, 0, none⟩ = some (.int .i64 a0_0) := (blk_cell BK496.out 0).trans rfl; have hcz11_1 : w8.cell? ⟨gb496, 1, none⟩ = some (.int .i64 a0_1) := (blk_cell BK496.out 1).trans rfl; have hcz11_2 : w8.cell? ⟨gb496, 2, none⟩ = some (.int .i64 a0_2) := (blk_cell BK496.out 2).trans rfl; have hcz11_3 : w8.cell? ⟨gb496, 3, none⟩ = some (.int .i64 a0_3) := (blk_cell BK496.out 3).trans rfl; have hcz11_4 : w8.cell? ⟨gb496, 4, none⟩ = some (.int .i64 a0_4) := (blk_cell BK496.out 4).trans rfl; have hcz11_5 : w8.cell? ⟨gb496, 5, none⟩ = some (.slice A0_5 l0_5.length c0_5) := (blk_cell BK496.out 5).trans rfl; have hcz11_6 : w8.cell? ⟨gb496, 6, none⟩ = some (.slice A0_6 l0_6.length c0_6) := (blk_cell BK496.out 6).trans rfl; have hcz11_7 : w8.cell? ⟨gb496, 7, none⟩ = some (.int .i64 a0_7) := (blk_cell BK496.out 7).trans rfl; have hcz11_8 : w8.cell? ⟨gb496, 8, none⟩ = some (.slice A0_8 l0_8.length c0_8) := (blk_cell BK496.out 8).trans rfl; have hcz11_9 : w8.cell? ⟨gb496, 9, none⟩ = some (.slice A0_9 l0_9.length c0_9) := (blk_cell BK496.out 9).trans rfl; have hfz11_0 := blk_frozen BK496.out 0; have hfz11_1 := blk_frozen BK496.out 1; have hfz11_2 := blk_frozen BK496.out 2; have hfz11_3 := blk_frozen BK496.out 3; have hfz11_4 := blk_frozen BK496.out 4; have hfz11_5 := blk_frozen BK496.out 5; have hfz11_6 := blk_frozen BK496.out 6; have hfz11_7 := blk_frozen BK496.out 7; have hfz11_8 := blk_frozen BK496.out 8; have hfz11_9 := blk_frozen BK496.out 9) | ((with_reducible refine gate_builtin (b := .append) (xs := #[.tmp 3, .tmp 5]) rfl ?_); at_builtin; refine Kd.R_append_rows (Kd.int .i64) (w0 := w) w.heap.size rfl (.tmp 3) (.tmp 5) 25 3 (.int .i64 0) 8 rfl Try.underlying25 info3 rfl (by decide) (by omega) v499 y498 l0_5 _ _ _ (fun _ => True) (fun _ => False) rfl rfl ?aO ?aR (fun _ _ h => h) (fun _ h => h.elim) ?aF ?aB ?aS ?aL ?_; (case aR => repeat (first | exact (Kd.C_below HR0_5.out HB.out) | (with_reducible refine Kd.C_alloc ?_ _) | (with_reducible refine Kd.C_drewN ?_ _) | (with_reducible refine Kd.C_drew ?_))); (case aB => exact (by repeat (first | (with_reducible first | exact HB.out | apply below_alloc | apply pw_below_drewN | apply below_drew1 | refine below_set ?_ GE496.out | refine below_set ?_ GE497.out) | exact HB.out))); (case aF => exact (fun _ _ => trivial)); (case aO => exact (by (with_reducible repeat (first | apply Kd.R_alloc | apply Kd.R_drewN | apply Kd.R_drew)); exact HO500.out)); (case aS => exact (below_size (by repeat (first | (with_reducible first | exact HB.out | apply below_alloc | apply pw_below_drewN | apply below_drew1 | refine below_set ?_ GE496.out | refine below_set ?_ GE497.out) | exact HB.out)))); (case aL => have := LMc2.out; omega); intro v502 w12 ho hb hg hat; rw [← Ny501.out] at ho; have n0_ := Aside0.mk (blk_grown (g := gb496) (o := .cells #[.int .i64 a0_0, .int .i64 a0_1, .int .i64 a0_2, .int .i64 a0_3, .int .i64 a0_4, .slice A0_5 l0_5.length c0_5, .slice A0_6 l0_6.length c0_6, .int .i64 a0_7, .slice A0_8 l0_8.length c0_8, .slice A0_9 l0_9.length c0_9] 30 (0, 0)) (by (with_reducible repeat (first | refine blk_drewN ?_ _ | refine blk_drew ?_ | refine blk_alloc ?_ _)); exact BK496.out) hg (Kd.R_ne HO500.out BK496.out (by decide))); have n1_ := Aside0.mk (blk_grown (g := gb497) (o := .cells #[.int .i64 0, .int .i64 0, .int .i64 0, .int .i64 0, .int .i64 0, .slice none 0 0, .slice none 0 0, .int .i64 0, .slice none 0 0, .slice none 0 0] 30 (0, 0)) (by (with_reducible repeat (first | refine blk_drewN ?_ _ | refine blk_drew ?_ | refine blk_alloc ?_ _)); exact BK497.out) hg (Kd.R_ne HO500.out BK497.out (by decide))); have n2_ := Aside0.mk (hb); have n3_ := Aside0.mk (ho); clear BK496; clear BK497; clear HB; clear HO500; have BK496 := n0_; have BK497 := n1_; have HB := n2_; have HO503 := n3_; clear n0_ n1_ n2_ n3_; clear ho hb hg hat; obtain ⟨Ao13, co13, eo13⟩ := Kd.R_slice HO503.out; subst eo13; have hcz14_0 : w12.cell? ⟨gb496, 0, none⟩ = some (.int .i64 a0_0) := (blk_cell BK496.out 0).trans rfl; have hcz14_1 : w12.cell? ⟨gb496, 1, none⟩ = some (.int .i64 a0_1) := (blk_cell BK496.out 1).trans rfl; have hcz14_2 : w12.cell? ⟨gb496, 2, none⟩ = some (.int .i64 a0_2) := (blk_cell BK496.out 2).trans rfl; have hcz14_3 : w12.cell? ⟨gb496, 3, none⟩ = some (.int .i64 a0_3) := (blk_cell BK496.out 3).trans rfl; have hcz14_4 : w12.cell? ⟨gb496, 4, none⟩ = some (.int .i64 a0_4) := (blk_cell BK496.out 4).trans rfl; have hcz14_5 : w12.cell? ⟨gb496, 5, none⟩ = some (.slice A0_5 l0_5.length c0_5) := (blk_cell BK496.out 5).trans rfl; have hcz14_6 : w12.cell? ⟨gb496, 6, none⟩ = some (.slice A0_6 l0_6.length c0_6) := (blk_cell BK496.out 6).trans rfl; have hcz14_7 : w12.cell? ⟨gb496, 7, none⟩ = some (.int .i64 a0_7) := (blk_cell BK496.out 7).trans rfl; have hcz14_8 : w12.cell? ⟨gb496, 8, none⟩ = some (.slice A0_8 l0_8.length c0_8) := (blk_cell BK496.out 8).trans rfl; have hcz14_9 : w12.cell? ⟨gb496, 9, none⟩ = some (.slice A0_9 l0_9.length c0_9) := (blk_cell BK496.out 9).trans rfl; have hfz14_0 := blk_frozen BK496.out 0; have hfz14_1 := blk_frozen BK496.out 1; have hfz14_2 := blk_frozen BK496.out 2; have hfz14_3 := blk_frozen BK496.out 3; have hfz14_4 := blk_frozen BK496.out 4; have hfz14_5 := blk_frozen BK496.out 5; have hfz14_6 := blk_frozen BK496.out 6; have hfz14_7 := blk_frozen BK496.out 7; have hfz14_8 := blk_frozen BK496.out 8; have hfz14_9 := blk_frozen BK496.out 9) | ((with_reducible refine gate_dst (N := 8) rfl ?_); refine Kd.R_lit k52 _ 52 ?hg (N := 8) ?hd (xs := ([] : List (S52))) (inner := []) (ok := fun _ => True) (okp := fun _ => True) ?hr ?hp (fun _ hk => hk) trivial (Below.refl _ _) (Nat.le_refl _) (by simp) ?_; (case hd => rfl); (case hg => rfl); (case hr => first | (go_simp; done) | (go_simp; rfl)); (case hp => exact (Reps.none _ _)); intro v505 w15 ho16 hb hg_ hnew_; clear hg_ hnew_; (first | rw [← Ny504.out] at ho16 | (simp only [Int.reduceToNat] at ho16; rw [← Ny504.out] at ho16)); have n0_ := Aside0.mk (Kd.R_below (by (with_reducible repeat (first | apply Kd.R_alloc | apply Kd.R_drewN | apply Kd.R_drew)); exact (Kd.R_mono (Kd.R_far (p := ⟨gb496, 5, none⟩) (Kd.R_types HO503.out BK496.out (by decide)) (fun _ hk => hk.2) (.slice Ao13 y501.length co13)) (fun _ h_ => h_.1))) hb); have n1_ := Aside0.mk (Kd.R_lower ho16 (below_size (by repeat (first | (with_reducible first | exact HB.out | apply below_alloc | apply pw_below_drewN | apply below_drew1 | refine below_set ?_ GE496.out | refine below_set ?_ GE497.out) | exact HB.out)))); have n2_ := Aside0.mk (blk_below (g := gb496) (o := .cells #[.int .i64 a0_0, .int .i64 a0_1, .int .i64 a0_2, .int .i64 a0_3, .int .i64 a0_4, .slice Ao13 y501.length co13, .slice A0_6 l0_6.length c0_6, .int .i64 a0_7, .slice A0_8 l0_8.length c0_8, .slice A0_9 l0_9.length c0_9] 30 (0, 0)) (by (with_reducible repeat (first | refine blk_drewN ?_ _ | refine blk_drew ?_ | refine blk_alloc ?_ _)); refine blk_put (cs := #[.int .i64 a0_0, .int .i64 a0_1, .int .i64 a0_2, .int .i64 a0_3, .int .i64 a0_4, .slice A0_5 l0_5.length c0_5, .slice A0_6 l0_6.length c0_6, .int .i64 a0_7, .slice A0_8 l0_8.length c0_8, .slice A0_9 l0_9.length c0_9]) ?_ 5 _ rfl; (with_reducible repeat (first | refine blk_drewN ?_ _ | refine blk_drew ?_ | refine blk_alloc ?_ _)); exact BK496.out) hb); have n3_ := Aside0.mk (blk_below (g := gb497) (o := .cells #[.int .i64 0, .int .i64 0, .int .i64 0, .int .i64 0, .int .i64 0, .slice none 0 0, .slice none 0 0, .int .i64 0, .slice none 0 0, .slice none 0 0] 30 (0, 0)) (by (with_reducible repeat (first | refine blk_drewN ?_ _ | refine blk_drew ?_ | refine blk_alloc ?_ _)); refine blk_far ?_ NB497_496.out _; (with_reducible repeat (first | refine blk_drewN ?_ _ | refine blk_drew ?_ | refine blk_alloc ?_ _)); exact BK497.out) hb); have n4_ := Aside0.mk (below_step (by repeat (first | (with_reducible first | exact HB.out | apply below_alloc | apply pw_below_drewN | apply below_drew1 | refine below_set ?_ GE496.out | refine below_set ?_ GE497.out) | exact HB.out)) hb); clear HO503; clear BK496; clear BK497; clear HB; have HO503 := n0_; have HO506 := n1_; have BK496 := n2_; have BK497 := n3_; have HB := n4_; clear n0_ n1_ n2_ n3_ n4_; clear hb ho16; have hcz17_0 : w15.cell? ⟨gb496, 0, none⟩ = some (.int .i64 a0_0) := (blk_cell BK496.out 0).trans rfl; have hcz17_1 : w15.cell? ⟨gb496, 1, none⟩ = some (.int .i64 a0_1) := (blk_cell BK496.out 1).trans rfl; have hcz17_2 : w15.cell? ⟨gb496, 2, none⟩ = some (.int .i64 a0_2) := (blk_cell BK496.out 2).trans rfl; have hcz17_3 : w15.cell? ⟨gb496, 3, none⟩ = some (.int .i64 a0_3) := (blk_cell BK496.out 3).trans rfl; have hcz17_4 : w15.cell? ⟨gb496, 4, none⟩ = some (.int .i64 a0_4) := (blk_cell BK496.out 4).trans rfl; have hcz17_5 : w15.cell? ⟨gb496, 5, none⟩ = some (.slice Ao13 y501.length co13) := (blk_cell BK496.out 5).trans rfl; have hcz17_6 : w15.cell? ⟨gb496, 6, none⟩ = some (.slice A0_6 l0_6.length c0_6) := (blk_cell BK496.out 6).trans rfl; have hcz17_7 : w15.cell? ⟨gb496, 7, none⟩ = some (.int .i64 a0_7) := (blk_cell BK496.out 7).trans rfl; have hcz17_8 : w15.cell? ⟨gb496, 8, none⟩ = some (.slice A0_8 l0_8.length c0_8) := (blk_cell BK496.out 8).trans rfl; have hcz17_9 : w15.cell? ⟨gb496, 9, none⟩ = some (.slice A0_9 l0_9.length c0_9) := (blk_cell BK496.out 9).trans rfl; have hfz17_0 := blk_frozen BK496.out 0; have hfz17_1 := blk_frozen BK496.out 1; have hfz17_2 := blk_frozen BK496.out 2; have hfz17_3 := blk_frozen BK496.out 3; have hfz17_4 := blk_frozen BK496.out 4; have hfz17_5 := blk_frozen BK496.out 5; have hfz17_6 := blk_frozen BK496.out 6; have hfz17_7 := blk_frozen BK496.out 7; have hfz17_8 := blk_frozen BK496.out 8; have hfz17_9 := blk_frozen BK496.out 9) | ((with_reducible refine gate_builtin (b := .append) (xs := #[.tmp 8, .tmp 10]) rfl ?_); at_builtin; refine Kd.R_append_rows k52 (w0 := w) w.heap.size rfl (.tmp 8) (.tmp 10) 26 52 (.agg #[(.int .i64 0), (.int .i64 0)]) 16 rfl Try.underlying26 info52 rfl (by decide) (by omega) v505 y504 l0_6 _ _ _ (fun _ => True) (fun _ => False) rfl rfl ?aO ?aR (fun _ _ h => h) (fun _ h => h.elim) ?aF ?aB ?aS ?aL ?_; (case aR => repeat (first | exact (Kd.C_below HR0_6.out HB.out) | (with_reducible refine Kd.C_alloc ?_ _) | (with_reducible refine Kd.C_drewN ?_ _) | (with_reducible refine Kd.C_drew ?_))); (case aB => exact (by repeat (first | (with_reducible first | exact HB.out | apply below_alloc | apply pw_below_drewN | apply below_drew1 | refine below_set ?_ GE496.out | refine below_set ?_ GE497.out) | exact HB.out))); (case aF => exact (fun _ _ => trivial)); (case aO => exact (by (with_reducible repeat (first | apply Kd.R_alloc | apply Kd.R_drewN | apply Kd.R_drew)); exact HO506.out)); (case aS => exact (below_size (by repeat (first | (with_reducible first | exact HB.out | apply below_alloc | apply pw_below_drewN | apply below_drew1 | refine below_set ?_ GE496.out | refine below_set ?_ GE497.out) | exact HB.out)))); (case aL => have := LMc3.out; omega); intro v508 w18 ho hb hg hat; rw [← Ny507.out] at ho; have n0_ := Aside0.mk (blk_grown (g := gb496) (o := .cells #[.int .i64 a0_0, .int .i64 a0_1, .int .i64 a0_2, .int .i64 a0_3, .int .i64 a0_4, .slice Ao13 y501.length co13, .slice A0_6 l0_6.length c0_6, .int .i64 a0_7, .slice A0_8 l0_8.length c0_8, .slice A0_9 l0_9.length c0_9] 30 (0, 0)) (by (with_reducible repeat (first | refine blk_drewN ?_ _ | refine blk_drew ?_ | refine blk_alloc ?_ _)); exact BK496.out) hg (Kd.R_ne HO506.out BK496.out (by decide))); have n1_ := Aside0.mk (blk_grown (g := gb497) (o := .cells #[.int .i64 0, .int .i64 0, .int .i64 0, .int .i64 0, .int .i64 0, .slice none 0 0, .slice none 0 0, .int .i64 0, .slice none 0 0, .slice none 0 0] 30 (0, 0)) (by (with_reducible repeat (first | refine blk_drewN ?_ _ | refine blk_drew ?_ | refine blk_alloc ?_ _)); exact BK497.out) hg (Kd.R_ne HO506.out BK497.out (by decide))); have n2_ := Aside0.mk (Kd.R_over' (by (with_reducible repeat (first | apply Kd.R_alloc | apply Kd.R_drewN | apply Kd.R_drew)); exact HO503.out) (Kd.R_typed (by (with_reducible repeat (first | apply Kd.R_alloc | apply Kd.R_drewN | apply Kd.R_drew)); exact HO506.out)) (by decide) hg); have n3_ := Aside0.mk (hb); have n4_ := Aside0.mk (ho); clear BK496; clear BK497; clear HO503; clear HB; clear HO506; have BK496 := n0_; have BK497 := n1_; have HO503 := n2_; have HB := n3_; have HO509 := n4_; clear n0_ n1_ n2_ n3_ n4_; clear ho hb hg hat; obtain ⟨Ao19, co19, eo19⟩ := Kd.R_slice HO509.out; subst eo19; have hcz20_0 : w18.cell? ⟨gb496, 0, none⟩ = some (.int .i64 a0_0) := (blk_cell BK496.out 0).trans rfl; have hcz20_1 : w18.cell? ⟨gb496, 1, none⟩ = some (.int .i64 a0_1) := (blk_cell BK496.out 1).trans rfl; have hcz20_2 : w18.cell? ⟨gb496, 2, none⟩ = some (.int .i64 a0_2) := (blk_cell BK496.out 2).trans rfl; have hcz20_3 : w18.cell? ⟨gb496, 3, none⟩ = some (.int .i64 a0_3) := (blk_cell BK496.out 3).trans rfl; have hcz20_4 : w18.cell? ⟨gb496, 4, none⟩ = some (.int .i64 a0_4) := (blk_cell BK496.out 4).trans rfl; have hcz20_5 : w18.cell? ⟨gb496, 5, none⟩ = some (.slice Ao13 y501.length co13) := (blk_cell BK496.out 5).trans rfl; have hcz20_6 : w18.cell? ⟨gb496, 6, none⟩ = some (.slice A0_6 l0_6.length c0_6) := (blk_cell BK496.out 6).trans rfl; have hcz20_7 : w18.cell? ⟨gb496, 7, none⟩ = some (.int .i64 a0_7) := (blk_cell BK496.out 7).trans rfl; have hcz20_8 : w18.cell? ⟨gb496, 8, none⟩ = some (.slice A0_8 l0_8.length c0_8) := (blk_cell BK496.out 8).trans rfl; have hcz20_9 : w18.cell? ⟨gb496, 9, none⟩ = some (.slice A0_9 l0_9.length c0_9) := (blk_cell BK496.out 9).trans rfl; have hfz20_0 := blk_frozen BK496.out 0; have hfz20_1 := blk_frozen BK496.out 1; have hfz20_2 := blk_frozen BK496.out 2; have hfz20_3 := blk_frozen BK496.out 3; have hfz20_4 := blk_frozen BK496.out 4; have hfz20_5 := blk_frozen BK496.out 5; have hfz20_6 := blk_frozen BK496.out 6; have hfz20_7 := blk_frozen BK496.out 7; have hfz20_8 := blk_frozen BK496.out 8; have hfz20_9 := blk_frozen BK496.out 9) | ((with_reducible refine gate_dst (N := 13) rfl ?_); refine Kd.R_lit k54 _ 54 ?hg (N := 13) ?hd (xs := ([] : List (S54))) (inner := []) (ok := fun _ => True) (okp := fun _ => True) ?hr ?hp (fun _ hk => hk) trivial (Below.refl _ _) (Nat.le_refl _) (by simp) ?_; (case hd => rfl); (case hg => rfl); (case hr => first | (go_simp; done) | (go_simp; rfl)); (case hp => exact (Reps.none _ _)); intro v511 w21 ho22 hb hg_ hnew_; clear hg_ hnew_; (first | rw [← Ny510.out] at ho22 | (simp only [Int.reduceToNat] at ho22; rw [← Ny510.out] at ho22)); have n0_ := Aside0.mk (Kd.R_below (by (with_reducible repeat (first | apply Kd.R_alloc | apply Kd.R_drewN | apply Kd.R_drew)); exact (Kd.R_mono (Kd.R_far (p := ⟨gb496, 6, none⟩) (Kd.R_types HO503.out BK496.out (by decide)) (fun _ hk => hk.2) (.slice Ao19 y507.length co19)) (fun _ h_ => h_.1))) hb); have n1_ := Aside0.mk (Kd.R_below (by (with_reducible repeat (first | apply Kd.R_alloc | apply Kd.R_drewN | apply Kd.R_drew)); exact (Kd.R_mono (Kd.R_far (p := ⟨gb496, 6, none⟩) (Kd.R_types HO509.out BK496.out (by decide)) (fun _ hk => hk.2) (.slice Ao19 y507.length co19)) (fun _ h_ => h_.1))) hb); have n2_ := Aside0.mk (Kd.R_lower ho22 (below_size (by repeat (first | (with_reducible first | exact HB.out | apply below_alloc | apply pw_below_drewN | apply below_drew1 | refine below_set ?_ GE496.out | refine below_set ?_ GE497.out) | exact HB.out)))); have n3_ := Aside0.mk (blk_below (g := gb496) (o := .cells #[.int .i64 a0_0, .int .i64 a0_1, .int .i64 a0_2, .int .i64 a0_3, .int .i64 a0_4, .slice Ao13 y501.length co13, .slice Ao19 y507.length co19, .int .i64 a0_7, .slice A0_8 l0_8.length c0_8, .slice A0_9 l0_9.length c0_9] 30 (0, 0)) (by (with_reducible repeat (first | refine blk_drewN ?_ _ | refine blk_drew ?_ | refine blk_alloc ?_ _)); refine blk_put (cs := #[.int .i64 a0_0, .int .i64 a0_1, .int .i64 a0_2, .int .i64 a0_3, .int .i64 a0_4, .slice Ao13 y501.length co13, .slice A0_6 l0_6.length c0_6, .int .i64 a0_7, .slice A0_8 l0_8.length c0_8, .slice A0_9 l0_9.length c0_9]) ?_ 6 _ rfl; (with_reducible repeat (first | refine blk_drewN ?_ _ | refine blk_drew ?_ | refine blk_alloc ?_ _)); exact BK496.out) hb); have n4_ := Aside0.mk (blk_below (g := gb497) (o := .cells #[.int .i64 0, .int .i64 0, .int .i64 0, .int .i64 0, .int .i64 0, .slice none 0 0, .slice none 0 0, .int .i64 0, .slice none 0 0, .slice none 0 0] 30 (0, 0)) (by (with_reducible repeat (first | refine blk_drewN ?_ _ | refine blk_drew ?_ | refine blk_alloc ?_ _)); refine blk_far ?_ NB497_496.out _; (with_reducible repeat (first | refine blk_drewN ?_ _ | refine blk_drew ?_ | refine blk_alloc ?_ _)); exact BK497.out) hb); have n5_ := Aside0.mk (below_step (by repeat (first | (with_reducible first | exact HB.out | apply below_alloc | apply pw_below_drewN | apply below_drew1 | refine below_set ?_ GE496.out | refine below_set ?_ GE497.out) | exact HB.out)) hb); clear HO503; clear HO509; clear BK496; clear BK497; clear HB; have HO503 := n0_; have HO509 := n1_; have HO512 := n2_; have BK496 := n3_; have BK497 := n4_; have HB := n5_; clear n0_ n1_ n2_ n3_ n4_ n5_; clear hb ho22; have hcz23_0 : w21.cell? ⟨gb496, 0, none⟩ = some (.int .i64 a0_0) := (blk_cell BK496.out 0).trans rfl; have hcz23_1 : w21.cell? ⟨gb496, 1, none⟩ = some (.int .i64 a0_1) := (blk_cell BK496.out 1).trans rfl; have hcz23_2 : w21.cell? ⟨gb496, 2, none⟩ = some (.int .i64 a0_2) := (blk_cell BK496.out 2).trans rfl; have hcz23_3 : w21.cell? ⟨gb496, 3, none⟩ = some (.int .i64 a0_3) := (blk_cell BK496.out 3).trans rfl; have hcz23_4 : w21.cell? ⟨gb496, 4, none⟩ = some (.int .i64 a0_4) := (blk_cell BK496.out 4).trans rfl; have hcz23_5 : w21.cell? ⟨gb496, 5, none⟩ = some (.slice Ao13 y501.length co13) := (blk_cell BK496.out 5).trans rfl; have hcz23_6 : w21.cell? ⟨gb496, 6, none⟩ = some (.slice Ao19 y507.length co19) := (blk_cell BK496.out 6).trans rfl; have hcz23_7 : w21.cell? ⟨gb496, 7, none⟩ = some (.int .i64 a0_7) := (blk_cell BK496.out 7).trans rfl; have hcz23_8 : w21.cell? ⟨gb496, 8, none⟩ = some (.slice A0_8 l0_8.length c0_8) := (blk_cell BK496.out 8).trans rfl; have hcz23_9 : w21.cell? ⟨gb496, 9, none⟩ = some (.slice A0_9 l0_9.length c0_9) := (blk_cell BK496.out 9).trans rfl; have hfz23_0 := blk_frozen BK496.out 0; have hfz23_1 := blk_frozen BK496.out 1; have hfz23_2 := blk_frozen BK496.out 2; have hfz23_3 := blk_frozen BK496.out 3; have hfz23_4 := blk_frozen BK496.out 4; have hfz23_5 := blk_frozen BK496.out 5; have hfz23_6 := blk_frozen BK496.out 6; have hfz23_7 := blk_frozen BK496.out 7; have hfz23_8 := blk_frozen BK496.out 8; have hfz23_9 := blk_frozen BK496.out 9) | ((with_reducible refine gate_builtin (b := .append) (xs := #[.tmp 13, .tmp 15]) rfl ?_); at_builtin; refine Kd.R_append_rows k54 (w0 := w) w.heap.size rfl (.tmp 13) (.tmp 15) 27 54 (.agg #[(.int .i64 0), (.int .i64 0)]) 16 rfl Try.underlying27 info54 rfl (by decide) (by omega) v511 y510 l0_8 _ _ _ (fun _ => True) (fun _ => False) rfl rfl ?aO ?aR (fun _ _ h => h) (fun _ h => h.elim) ?aF ?aB ?aS ?aL ?_; (case aR => repeat (first | exact (Kd.C_below HR0_8.out HB.out) | (with_reducible refine Kd.C_alloc ?_ _) | (with_reducible refine Kd.C_drewN ?_ _) | (with_reducible refine Kd.C_drew ?_))); (case aB => exact (by repeat (first | (with_reducible first | exact HB.out | apply below_alloc | apply pw_below_drewN | apply below_drew1 | refine below_set ?_ GE496.out | refine below_set ?_ GE497.out) | exact HB.out))); (case aF => exact (fun _ _ => trivial)); (case aO => exact (by (with_reducible repeat (first | apply Kd.R_alloc | apply Kd.R_drewN | apply Kd.R_drew)); exact HO512.out)); (case aS => exact (below_size (by repeat (first | (with_reducible first | exact HB.out | apply below_alloc | apply pw_below_drewN | apply below_drew1 | refine below_set ?_ GE496.out | refine below_set ?_ GE497.out) | exact HB.out)))); (case aL => have := LMc4.out; omega); intro v514 w24 ho hb hg hat; rw [← Ny513.out] at ho; have n0_ := Aside0.mk (blk_grown (g := gb496) (o := .cells #[.int .i64 a0_0, .int .i64 a0_1, .int .i64 a0_2, .int .i64 a0_3, .int .i64 a0_4, .slice Ao13 y501.length co13, .slice Ao19 y507.length co19, .int .i64 a0_7, .slice A0_8 l0_8.length c0_8, .slice A0_9 l0_9.length c0_9] 30 (0, 0)) (by (with_reducible repeat (first | refine blk_drewN ?_ _ | refine blk_drew ?_ | refine blk_alloc ?_ _)); exact BK496.out) hg (Kd.R_ne HO512.out BK496.out (by decide))); have n1_ := Aside0.mk (blk_grown (g := gb497) (o := .cells #[.int .i64 0, .int .i64 0, .int .i64 0, .int .i64 0, .int .i64 0, .slice none 0 0, .slice none 0 0, .int .i64 0, .slice none 0 0, .slice none 0 0] 30 (0, 0)) (by (with_reducible repeat (first | refine blk_drewN ?_ _ | refine blk_drew ?_ | refine blk_alloc ?_ _)); exact BK497.out) hg (Kd.R_ne HO512.out BK497.out (by decide))); have n2_ := Aside0.mk (Kd.R_over' (by (with_reducible repeat (first | apply Kd.R_alloc | apply Kd.R_drewN | apply Kd.R_drew)); exact HO503.out) (Kd.R_typed (by (with_reducible repeat (first | apply Kd.R_alloc | apply Kd.R_drewN | apply Kd.R_drew)); exact HO512.out)) (by decide) hg); have n3_ := Aside0.mk (Kd.R_over' (by (with_reducible repeat (first | apply Kd.R_alloc | apply Kd.R_drewN | apply Kd.R_drew)); exact HO509.out) (Kd.R_typed (by (with_reducible repeat (first | apply Kd.R_alloc | apply Kd.R_drewN | apply Kd.R_drew)); exact HO512.out)) (by decide) hg); have n4_ := Aside0.mk (hb); have n5_ := Aside0.mk (ho); clear BK496; clear BK497; clear HO503; clear HO509; clear HB; clear HO512; have BK496 := n0_; have BK497 := n1_; have HO503 := n2_; have HO509 := n3_; have HB := n4_; have HO515 := n5_; clear n0_ n1_ n2_ n3_ n4_ n5_; clear ho hb hg hat; obtain ⟨Ao25, co25, eo25⟩ := Kd.R_slice HO515.out; subst eo25; have hcz26_0 : w24.cell? ⟨gb496, 0, none⟩ = some (.int .i64 a0_0) := (blk_cell BK496.out 0).trans rfl; have hcz26_1 : w24.cell? ⟨gb496, 1, none⟩ = some (.int .i64 a0_1) := (blk_cell BK496.out 1).trans rfl; have hcz26_2 : w24.cell? ⟨gb496, 2, none⟩ = some (.int .i64 a0_2) := (blk_cell BK496.out 2).trans rfl; have hcz26_3 : w24.cell? ⟨gb496, 3, none⟩ = some (.int .i64 a0_3) := (blk_cell BK496.out 3).trans rfl; have hcz26_4 : w24.cell? ⟨gb496, 4, none⟩ = some (.int .i64 a0_4) := (blk_cell BK496.out 4).trans rfl; have hcz26_5 : w24.cell? ⟨gb496, 5, none⟩ = some (.slice Ao13 y501.length co13) := (blk_cell BK496.out 5).trans rfl; have hcz26_6 : w24.cell? ⟨gb496, 6, none⟩ = some (.slice Ao19 y507.length co19) := (blk_cell BK496.out 6).trans rfl; have hcz26_7 : w24.cell? ⟨gb496, 7, none⟩ = some (.int .i64 a0_7) := (blk_cell BK496.out 7).trans rfl; have hcz26_8 : w24.cell? ⟨gb496, 8, none⟩ = some (.slice A0_8 l0_8.length c0_8) := (blk_cell BK496.out 8).trans rfl; have hcz26_9 : w24.cell? ⟨gb496, 9, none⟩ = some (.slice A0_9 l0_9.length c0_9) := (blk_cell BK496.out 9).trans rfl; have hfz26_0 := blk_frozen BK496.out 0; have hfz26_1 := blk_frozen BK496.out 1; have hfz26_2 := blk_frozen BK496.out 2; have hfz26_3 := blk_frozen BK496.out 3; have hfz26_4 := blk_frozen BK496.out 4; have hfz26_5 := blk_frozen BK496.out 5; have hfz26_6 := blk_frozen BK496.out 6; have hfz26_7 := blk_frozen BK496.out 7; have hfz26_8 := blk_frozen BK496.out 8; have hfz26_9 := blk_frozen BK496.out 9) | ((with_reducible refine gate_dst (N := 18) rfl ?_); refine Kd.R_lit k56 _ 56 ?hg (N := 18) ?hd (xs := ([] : List (S56))) (inner := []) (ok := fun _ => True) (okp := fun _ => True) ?hr ?hp (fun _ hk => hk) trivial (Below.refl _ _) (Nat.le_refl _) (by simp) ?_; (case hd => rfl); (case hg => rfl); (case hr => first | (go_simp; done) | (go_simp; rfl)); (case hp => exact (Reps.none _ _)); intro v517 w27 ho28 hb hg_ hnew_; clear hg_ hnew_; (first | rw [← Ny516.out] at ho28 | (simp only [Int.reduceToNat] at ho28; rw [← Ny516.out] at ho28)); have n0_ := Aside0.mk (Kd.R_below (by (with_reducible repeat (first | apply Kd.R_alloc | apply Kd.R_drewN | apply Kd.R_drew)); exact (Kd.R_mono (Kd.R_far (p := ⟨gb496, 8, none⟩) (Kd.R_types HO503.out BK496.out (by decide)) (fun _ hk => hk.2) (.slice Ao25 y513.length co25)) (fun _ h_ => h_.1))) hb); have n1_ := Aside0.mk (Kd.R_below (by (with_reducible repeat (first | apply Kd.R_alloc | apply Kd.R_drewN | apply Kd.R_drew)); exact (Kd.R_mono (Kd.R_far (p := ⟨gb496, 8, none⟩) (Kd.R_types HO509.out BK496.out (by decide)) (fun _ hk => hk.2) (.slice Ao25 y513.length co25)) (fun _ h_ => h_.1))) hb); have n2_ := Aside0.mk (Kd.R_below (by (with_reducible repeat (first | apply Kd.R_alloc | apply Kd.R_drewN | apply Kd.R_drew)); exact (Kd.R_mono (Kd.R_far (p := ⟨gb496, 8, none⟩) (Kd.R_types HO515.out BK496.out (by decide)) (fun _ hk => hk.2) (.slice Ao25 y513.length co25)) (fun _ h_ => h_.1))) hb); have n3_ := Aside0.mk (Kd.R_lower ho28 (below_size (by repeat (first | (with_reducible first | exact HB.out | apply below_alloc | apply pw_below_drewN | apply below_drew1 | refine below_set ?_ GE496.out | refine below_set ?_ GE497.out) | exact HB.out)))); have n4_ := Aside0.mk (blk_below (g := gb496) (o := .cells #[.int .i64 a0_0, .int .i64 a0_1, .int .i64 a0_2, .int .i64 a0_3, .int .i64 a0_4, .slice Ao13 y501.length co13, .slice Ao19 y507.length co19, .int .i64 a0_7, .slice Ao25 y513.length co25, .slice A0_9 l0_9.length c0_9] 30 (0, 0)) (by (with_reducible repeat (first | refine blk_drewN ?_ _ | refine blk_drew ?_ | refine blk_alloc ?_ _)); refine blk_put (cs := #[.int .i64 a0_0, .int .i64 a0_1, .int .i64 a0_2, .int .i64 a0_3, .int .i64 a0_4, .slice Ao13 y501.length co13, .slice Ao19 y507.length co19, .int .i64 a0_7, .slice A0_8 l0_8.length c0_8, .slice A0_9 l0_9.length c0_9]) ?_ 8 _ rfl; (with_reducible repeat (first | refine blk_drewN ?_ _ | refine blk_drew ?_ | refine blk_alloc ?_ _)); exact BK496.out) hb); have n5_ := Aside0.mk (blk_below (g := gb497) (o := .cells #[.int .i64 0, .int .i64 0, .int .i64 0, .int .i64 0, .int .i64 0, .slice none 0 0, .slice none 0 0, .int .i64 0, .slice none 0 0, .slice none 0 0] 30 (0, 0)) (by (with_reducible repeat (first | refine blk_drewN ?_ _ | refine blk_drew ?_ | refine blk_alloc ?_ _)); refine blk_far ?_ NB497_496.out _; (with_reducible repeat (first | refine blk_drewN ?_ _ | refine blk_drew ?_ | refine blk_alloc ?_ _)); exact BK497.out) hb); have n6_ := Aside0.mk (below_step (by repeat (first | (with_reducible first | exact HB.out | apply below_alloc | apply pw_below_drewN | apply below_drew1 | refine below_set ?_ GE496.out | refine below_set ?_ GE497.out) | exact HB.out)) hb); clear HO503; clear HO509; clear HO515; clear BK496; clear BK497; clear HB; have HO503 := n0_; have HO509 := n1_; have HO515 := n2_; have HO518 := n3_; have BK496 := n4_; have BK497 := n5_; have HB := n6_; clear n0_ n1_ n2_ n3_ n4_ n5_ n6_; clear hb ho28; have hcz29_0 : w27.cell? ⟨gb496, 0, none⟩ = some (.int .i64 a0_0) := (blk_cell BK496.out 0).trans rfl; have hcz29_1 : w27.cell? ⟨gb496, 1, none⟩ = some (.int .i64 a0_1) := (blk_cell BK496.out 1).trans rfl; have hcz29_2 : w27.cell? ⟨gb496, 2, none⟩ = some (.int .i64 a0_2) := (blk_cell BK496.out 2).trans rfl; have hcz29_3 : w27.cell? ⟨gb496, 3, none⟩ = some (.int .i64 a0_3) := (blk_cell BK496.out 3).trans rfl; have hcz29_4 : w27.cell? ⟨gb496, 4, none⟩ = some (.int .i64 a0_4) := (blk_cell BK496.out 4).trans rfl; have hcz29_5 : w27.cell? ⟨gb496, 5, none⟩ = some (.slice Ao13 y501.length co13) := (blk_cell BK496.out 5).trans rfl; have hcz29_6 : w27.cell? ⟨gb496, 6, none⟩ = some (.slice Ao19 y507.length co19) := (blk_cell BK496.out 6).trans rfl; have hcz29_7 : w27.cell? ⟨gb496, 7, none⟩ = some (.int .i64 a0_7) := (blk_cell BK496.out 7).trans rfl; have hcz29_8 : w27.cell? ⟨gb496, 8, none⟩ = some (.slice Ao25 y513.length co25) := (blk_cell BK496.out 8).trans rfl; have hcz29_9 : w27.cell? ⟨gb496, 9, none⟩ = some (.slice A0_9 l0_9.length c0_9) := (blk_cell BK496.out 9).trans rfl; have hfz29_0 := blk_frozen BK496.out 0; have hfz29_1 := blk_frozen BK496.out 1; have hfz29_2 := blk_frozen BK496.out 2; have hfz29_3 := blk_frozen BK496.out 3; have hfz29_4 := blk_frozen BK496.out 4; have hfz29_5 := blk_frozen BK496.out 5; have hfz29_6 := blk_frozen BK496.out 6; have hfz29_7 := blk_frozen BK496.out 7; have hfz29_8 := blk_frozen BK496.out 8; have hfz29_9 := blk_frozen BK496.out 9) | ((with_reducible refine gate_builtin (b := .append) (xs := #[.tmp 18, .tmp 20]) rfl ?_); at_builtin; refine Kd.R_append_rows k56 (w0 := w) w.heap.size rfl (.tmp 18) (.tmp 20) 28 56 (.agg #[(.int .i64 0), (.int .i64 0), (.int .i64 0), (.int .i64 0)]) 32 rfl Try.underlying28 info56 rfl (by decide) (by omega) v517 y516 l0_9 _ _ _ (fun _ => True) (fun _ => False) rfl rfl ?aO ?aR (fun _ _ h => h) (fun _ h => h.elim) ?aF ?aB ?aS ?aL ?_; (case aR => repeat (first | exact (Kd.C_below HR0_9.out HB.out) | (with_reducible refine Kd.C_alloc ?_ _) | (with_reducible refine Kd.C_drewN ?_ _) | (with_reducible refine Kd.C_drew ?_))); (case aB => exact (by repeat (first | (with_reducible first | exact HB.out | apply below_alloc | apply pw_below_drewN | apply below_drew1 | refine below_set ?_ GE496.out | refine below_set ?_ GE497.out) | exact HB.out))); (case aF => exact (fun _ _ => trivial)); (case aO => exact (by (with_reducible repeat (first | apply Kd.R_alloc | apply Kd.R_drewN | apply Kd.R_drew)); exact HO518.out)); (case aS => exact (below_size (by repeat (first | (with_reducible first | exact HB.out | apply below_alloc | apply pw_below_drewN | apply below_drew1 | refine below_set ?_ GE496.out | refine below_set ?_ GE497.out) | exact HB.out)))); (case aL => have := LMc5.out; omega); intro v520 w30 ho hb hg hat; rw [← Ny519.out] at ho; have n0_ := Aside0.mk (blk_grown (g := gb496) (o := .cells #[.int .i64 a0_0, .int .i64 a0_1, .int .i64 a0_2, .int .i64 a0_3, .int .i64 a0_4, .slice Ao13 y501.length co13, .slice Ao19 y507.length co19, .int .i64 a0_7, .slice Ao25 y513.length co25, .slice A0_9 l0_9.length c0_9] 30 (0, 0)) (by (with_reducible repeat (first | refine blk_drewN ?_ _ | refine blk_drew ?_ | refine blk_alloc ?_ _)); exact BK496.out) hg (Kd.R_ne HO518.out BK496.out (by decide))); have n1_ := Aside0.mk (blk_grown (g := gb497) (o := .cells #[.int .i64 0, .int .i64 0, .int .i64 0, .int .i64 0, .int .i64 0, .slice none 0 0, .slice none 0 0, .int .i64 0, .slice none 0 0, .slice none 0 0] 30 (0, 0)) (by (with_reducible repeat (first | refine blk_drewN ?_ _ | refine blk_drew ?_ | refine blk_alloc ?_ _)); exact BK497.out) hg (Kd.R_ne HO518.out BK497.out (by decide))); have n2_ := Aside0.mk (Kd.R_over' (by (with_reducible repeat (first | apply Kd.R_alloc | apply Kd.R_drewN | apply Kd.R_drew)); exact HO503.out) (Kd.R_typed (by (with_reducible repeat (first | apply Kd.R_alloc | apply Kd.R_drewN | apply Kd.R_drew)); exact HO518.out)) (by decide) hg); have n3_ := Aside0.mk (Kd.R_over' (by (with_reducible repeat (first | apply Kd.R_alloc | apply Kd.R_drewN | apply Kd.R_drew)); exact HO509.out) (Kd.R_typed (by (with_reducible repeat (first | apply Kd.R_alloc | apply Kd.R_drewN | apply Kd.R_drew)); exact HO518.out)) (by decide) hg); have n4_ := Aside0.mk (Kd.R_over' (by (with_reducible repeat (first | apply Kd.R_alloc | apply Kd.R_drewN | apply Kd.R_drew)); exact HO515.out) (Kd.R_typed (by (with_reducible repeat (first | apply Kd.R_alloc | apply Kd.R_drewN | apply Kd.R_drew)); exact HO518.out)) (by decide) hg); have n5_ := Aside0.mk (hb); have n6_ := Aside0.mk (ho); clear BK496; clear BK497; clear HO503; clear HO509; clear HO515; clear HB; clear HO518; have BK496 := n0_; have BK497 := n1_; have HO503 := n2_; have HO509 := n3_; have HO515 := n4_; have HB := n5_; have HO521 := n6_; clear n0_ n1_ n2_ n3_ n4_ n5_ n6_; clear ho hb hg hat; obtain ⟨Ao31, co31, eo31⟩ := Kd.R_slice HO521.out; subst eo31; have hcz32_0 : w30.cell? ⟨gb496, 0, none⟩ = some (.int .i64 a0_0) := (blk_cell BK496.out 0).trans rfl; have hcz32_1 : w30.cell? ⟨gb496, 1, none⟩ = some (.int .i64 a0_1) := (blk_cell BK496.out 1).trans rfl; have hcz32_2 : w30.cell? ⟨gb496, 2, none⟩ = some (.int .i64 a0_2) := (blk_cell BK496.out 2).trans rfl; have hcz32_3 : w30.cell? ⟨gb496, 3, none⟩ = some (.int .i64 a0_3) := (blk_cell BK496.out 3).trans rfl; have hcz32_4 : w30.cell? ⟨gb496, 4, none⟩ = some (.int .i64 a0_4) := (blk_cell BK496.out 4).trans rfl; have hcz32_5 : w30.cell? ⟨gb496, 5, none⟩ = some (.slice Ao13 y501.length co13) := (blk_cell BK496.out 5).trans rfl; have hcz32_6 : w30.cell? ⟨gb496, 6, none⟩ = some (.slice Ao19 y507.length co19) := (blk_cell BK496.out 6).trans rfl; have hcz32_7 : w30.cell? ⟨gb496, 7, none⟩ = some (.int .i64 a0_7) := (blk_cell BK496.out 7).trans rfl; have hcz32_8 : w30.cell? ⟨gb496, 8, none⟩ = some (.slice Ao25 y513.length co25) := (blk_cell BK496.out 8).trans rfl; have hcz32_9 : w30.cell? ⟨gb496, 9, none⟩ = some (.slice A0_9 l0_9.length c0_9) := (blk_cell BK496.out 9).trans rfl; have hfz32_0 := blk_frozen BK496.out 0; have hfz32_1 := blk_frozen BK496.out 1; have hfz32_2 := blk_frozen BK496.out 2; have hfz32_3 := blk_frozen BK496.out 3; have hfz32_4 := blk_frozen BK496.out 4; have hfz32_5 := blk_frozen BK496.out 5; have hfz32_6 := blk_frozen BK496.out 6; have hfz32_7 := blk_frozen BK496.out 7; have hfz32_8 := blk_frozen BK496.out 8; have hfz32_9 := blk_frozen BK496.out 9; have hcz33_0 : w30.cell? ⟨gb497, 0, none⟩ = some (.int .i64 0) := (blk_cell BK497.out 0).trans rfl; have hcz33_1 : w30.cell? ⟨gb497, 1, none⟩ = some (.int .i64 0) := (blk_cell BK497.out 1).trans rfl; have hcz33_2 : w30.cell? ⟨gb497, 2, none⟩ = some (.int .i64 0) := (blk_cell BK497.out 2).trans rfl; have hcz33_3 : w30.cell? ⟨gb497, 3, none⟩ = some (.int .i64 0) := (blk_cell BK497.out 3).trans rfl; have hcz33_4 : w30.cell? ⟨gb497, 4, none⟩ = some (.int .i64 0) := (blk_cell BK497.out 4).trans rfl; have hcz33_5 : w30.cell? ⟨gb497, 5, none⟩ = some (.slice none 0 0) := (blk_cell BK497.out 5).trans rfl; have hcz33_6 : w30.cell? ⟨gb497, 6, none⟩ = some (.slice none 0 0) := (blk_cell BK497.out 6).trans rfl; have hcz33_7 : w30.cell? ⟨gb497, 7, none⟩ = some (.int .i64 0) := (blk_cell BK497.out 7).trans rfl; have hcz33_8 : w30.cell? ⟨gb497, 8, none⟩ = some (.slice none 0 0) := (blk_cell BK497.out 8).trans rfl; have hcz33_9 : w30.cell? ⟨gb497, 9, none⟩ = some (.slice none 0 0) := (blk_cell BK497.out 9).trans rfl; have hfz33_0 := blk_frozen BK497.out 0; have hfz33_1 := blk_frozen BK497.out 1; have hfz33_2 := blk_frozen BK497.out 2; have hfz33_3 := blk_frozen BK497.out 3; have hfz33_4 := blk_frozen BK497.out 4; have hfz33_5 := blk_frozen BK497.out 5; have hfz33_6 := blk_frozen BK497.out 6; have hfz33_7 := blk_frozen BK497.out 7; have hfz33_8 := blk_frozen BK497.out 8; have hfz33_9 := blk_frozen BK497.out 9))
          refine bodyPost_ret (results_cell_row rfl _ _ gb497 30 #[.int .i64 a0_0, .int .i64 a0_1, .int .i64 a0_2, .int .i64 a0_3, .int .i64 a0_4, .slice Ao13 y501.length co13, .slice Ao19 y507.length co19, .int .i64 a0_7, .slice Ao25 y513.length co25, .slice Ao31 y519.length co31] (0, 0) _ rfl (by (with_reducible repeat (first | refine blk_drewN ?_ _ | refine blk_drew ?_ | refine blk_alloc ?_ _)); refine blk_put (cs := #[.int .i64 a0_0, .int .i64 a0_1, .int .i64 a0_2, .int .i64 a0_3, .int .i64 a0_4, .slice Ao13 y501.length co13, .slice Ao19 y507.length co19, .int .i64 a0_7, .slice Ao25 y513.length co25, .slice none 0 0]) ?_ 9 _ rfl; (with_reducible repeat (first | refine blk_drewN ?_ _ | refine blk_drew ?_ | refine blk_alloc ?_ _)); refine blk_put (cs := #[.int .i64 a0_0, .int .i64 a0_1, .int .i64 a0_2, .int .i64 a0_3, .int .i64 a0_4, .slice Ao13 y501.length co13, .slice Ao19 y507.length co19, .int .i64 a0_7, .slice none 0 0, .slice none 0 0]) ?_ 8 _ rfl; (with_reducible repeat (first | refine blk_drewN ?_ _ | refine blk_drew ?_ | refine blk_alloc ?_ _)); refine blk_put (cs := #[.int .i64 a0_0, .int .i64 a0_1, .int .i64 a0_2, .int .i64 a0_3, .int .i64 a0_4, .slice Ao13 y501.length co13, .slice Ao19 y507.length co19, .int .i64 0, .slice none 0 0, .slice none 0 0]) ?_ 7 _ rfl; (with_reducible repeat (first | refine blk_drewN ?_ _ | refine blk_drew ?_ | refine blk_alloc ?_ _)); refine blk_put (cs := #[.int .i64 a0_0, .int .i64 a0_1, .int .i64 a0_2, .int .i64 a0_3, .int .i64 a0_4, .slice Ao13 y501.length co13, .slice none 0 0, .int .i64 0, .slice none 0 0, .slice none 0 0]) ?_ 6 _ rfl; (with_reducible repeat (first | refine blk_drewN ?_ _ | refine blk_drew ?_ | refine blk_alloc ?_ _)); refine blk_put (cs := #[.int .i64 a0_0, .int .i64 a0_1, .int .i64 a0_2, .int .i64 a0_3, .int .i64 a0_4, .slice none 0 0, .slice none 0 0, .int .i64 0, .slice none 0 0, .slice none 0 0]) ?_ 5 _ rfl; (with_reducible repeat (first | refine blk_drewN ?_ _ | refine blk_drew ?_ | refine blk_alloc ?_ _)); refine blk_put (cs := #[.int .i64 a0_0, .int .i64 a0_1, .int .i64 a0_2, .int .i64 a0_3, .int .i64 0, .slice none 0 0, .slice none 0 0, .int .i64 0, .slice none 0 0, .slice none 0 0]) ?_ 4 _ rfl; (with_reducible repeat (first | refine blk_drewN ?_ _ | refine blk_drew ?_ | refine blk_alloc ?_ _)); refine blk_put (cs := #[.int .i64 a0_0, .int .i64 a0_1, .int .i64 a0_2, .int .i64 0, .int .i64 0, .slice none 0 0, .slice none 0 0, .int .i64 0, .slice none 0 0, .slice none 0 0]) ?_ 3 _ rfl; (with_reducible repeat (first | refine blk_drewN ?_ _ | refine blk_drew ?_ | refine blk_alloc ?_ _)); refine blk_put (cs := #[.int .i64 a0_0, .int .i64 a0_1, .int .i64 0, .int .i64 0, .int .i64 0, .slice none 0 0, .slice none 0 0, .int .i64 0, .slice none 0 0, .slice none 0 0]) ?_ 2 _ rfl; (with_reducible repeat (first | refine blk_drewN ?_ _ | refine blk_drew ?_ | refine blk_alloc ?_ _)); refine blk_put (cs := #[.int .i64 a0_0, .int .i64 0, .int .i64 0, .int .i64 0, .int .i64 0, .slice none 0 0, .slice none 0 0, .int .i64 0, .slice none 0 0, .slice none 0 0]) ?_ 1 _ rfl; (with_reducible repeat (first | refine blk_drewN ?_ _ | refine blk_drew ?_ | refine blk_alloc ?_ _)); refine blk_put (cs := #[.int .i64 0, .int .i64 0, .int .i64 0, .int .i64 0, .int .i64 0, .slice none 0 0, .slice none 0 0, .int .i64 0, .slice none 0 0, .slice none 0 0]) ?_ 0 _ rfl; (with_reducible repeat (first | refine blk_drewN ?_ _ | refine blk_drew ?_ | refine blk_alloc ?_ _)); refine blk_far ?_ NB497_496.out _; (with_reducible repeat (first | refine blk_drewN ?_ _ | refine blk_drew ?_ | refine blk_alloc ?_ _)); exact BK497.out) Try.underlying30 rfl (by kernel_rfl)) rfl ?_
          exact ⟨_, _, _, _, by first | rfl | (simp [errW_none, errW_some] <;> rfl) | (simp [*, errW_none, errW_some] <;> rfl), by (with_reducible repeat (first | apply Kd.R_alloc | apply Kd.R_drewN | apply Kd.R_drew)); exact Kd.R_mono (Kd.R_far (p := ⟨gb497, 9, none⟩) (Kd.R_far (p := ⟨gb497, 8, none⟩) (Kd.R_far (p := ⟨gb497, 7, none⟩) (Kd.R_far (p := ⟨gb497, 6, none⟩) (Kd.R_far (p := ⟨gb497, 5, none⟩) (Kd.R_far (p := ⟨gb497, 4, none⟩) (Kd.R_far (p := ⟨gb497, 3, none⟩) (Kd.R_far (p := ⟨gb497, 2, none⟩) (Kd.R_far (p := ⟨gb497, 1, none⟩) (Kd.R_far (p := ⟨gb497, 0, none⟩) (Kd.R_far (p := ⟨gb496, 9, none⟩) (Kd.R_types (Kd.R_types HO503.out BK496.out (by decide)) BK497.out (by decide)) (fun _ hk => hk.1.2) (.slice Ao31 y519.length co31)) (fun _ hk => hk.2) (.int .i64 a0_0)) (fun _ hk => hk.2) (.int .i64 a0_1)) (fun _ hk => hk.2) (.int .i64 a0_2)) (fun _ hk => hk.2) (.int .i64 a0_3)) (fun _ hk => hk.2) (.int .i64 a0_4)) (fun _ hk => hk.2) (.slice Ao13 y501.length co13)) (fun _ hk => hk.2) (.slice Ao19 y507.length co19)) (fun _ hk => hk.2) (.int .i64 a0_7)) (fun _ hk => hk.2) (.slice Ao25 y513.length co25)) (fun _ hk => hk.2) (.slice Ao31 y519.length co31)) (fun _ hk => trivial), by (with_reducible repeat (first | apply Kd.R_alloc | apply Kd.R_drewN | apply Kd.R_drew)); exact Kd.R_mono (Kd.R_far (p := ⟨gb497, 9, none⟩) (Kd.R_far (p := ⟨gb497, 8, none⟩) (Kd.R_far (p := ⟨gb497, 7, none⟩) (Kd.R_far (p := ⟨gb497, 6, none⟩) (Kd.R_far (p := ⟨gb497, 5, none⟩) (Kd.R_far (p := ⟨gb497, 4, none⟩) (Kd.R_far (p := ⟨gb497, 3, none⟩) (Kd.R_far (p := ⟨gb497, 2, none⟩) (Kd.R_far (p := ⟨gb497, 1, none⟩) (Kd.R_far (p := ⟨gb497, 0, none⟩) (Kd.R_far (p := ⟨gb496, 9, none⟩) (Kd.R_types (Kd.R_types HO509.out BK496.out (by decide)) BK497.out (by decide)) (fun _ hk => hk.1.2) (.slice Ao31 y519.length co31)) (fun _ hk => hk.2) (.int .i64 a0_0)) (fun _ hk => hk.2) (.int .i64 a0_1)) (fun _ hk => hk.2) (.int .i64 a0_2)) (fun _ hk => hk.2) (.int .i64 a0_3)) (fun _ hk => hk.2) (.int .i64 a0_4)) (fun _ hk => hk.2) (.slice Ao13 y501.length co13)) (fun _ hk => hk.2) (.slice Ao19 y507.length co19)) (fun _ hk => hk.2) (.int .i64 a0_7)) (fun _ hk => hk.2) (.slice Ao25 y513.length co25)) (fun _ hk => hk.2) (.slice Ao31 y519.length co31)) (fun _ hk => trivial), by (with_reducible repeat (first | apply Kd.R_alloc | apply Kd.R_drewN | apply Kd.R_drew)); exact Kd.R_mono (Kd.R_far (p := ⟨gb497, 9, none⟩) (Kd.R_far (p := ⟨gb497, 8, none⟩) (Kd.R_far (p := ⟨gb497, 7, none⟩) (Kd.R_far (p := ⟨gb497, 6, none⟩) (Kd.R_far (p := ⟨gb497, 5, none⟩) (Kd.R_far (p := ⟨gb497, 4, none⟩) (Kd.R_far (p := ⟨gb497, 3, none⟩) (Kd.R_far (p := ⟨gb497, 2, none⟩) (Kd.R_far (p := ⟨gb497, 1, none⟩) (Kd.R_far (p := ⟨gb497, 0, none⟩) (Kd.R_far (p := ⟨gb496, 9, none⟩) (Kd.R_types (Kd.R_types HO515.out BK496.out (by decide)) BK497.out (by decide)) (fun _ hk => hk.1.2) (.slice Ao31 y519.length co31)) (fun _ hk => hk.2) (.int .i64 a0_0)) (fun _ hk => hk.2) (.int .i64 a0_1)) (fun _ hk => hk.2) (.int .i64 a0_2)) (fun _ hk => hk.2) (.int .i64 a0_3)) (fun _ hk => hk.2) (.int .i64 a0_4)) (fun _ hk => hk.2) (.slice Ao13 y501.length co13)) (fun _ hk => hk.2) (.slice Ao19 y507.length co19)) (fun _ hk => hk.2) (.int .i64 a0_7)) (fun _ hk => hk.2) (.slice Ao25 y513.length co25)) (fun _ hk => hk.2) (.slice Ao31 y519.length co31)) (fun _ hk => trivial), by (with_reducible repeat (first | apply Kd.R_alloc | apply Kd.R_drewN | apply Kd.R_drew)); exact Kd.R_mono (Kd.R_far (p := ⟨gb497, 9, none⟩) (Kd.R_far (p := ⟨gb497, 8, none⟩) (Kd.R_far (p := ⟨gb497, 7, none⟩) (Kd.R_far (p := ⟨gb497, 6, none⟩) (Kd.R_far (p := ⟨gb497, 5, none⟩) (Kd.R_far (p := ⟨gb497, 4, none⟩) (Kd.R_far (p := ⟨gb497, 3, none⟩) (Kd.R_far (p := ⟨gb497, 2, none⟩) (Kd.R_far (p := ⟨gb497, 1, none⟩) (Kd.R_far (p := ⟨gb497, 0, none⟩) (Kd.R_far (p := ⟨gb496, 9, none⟩) (Kd.R_types (Kd.R_types HO521.out BK496.out (by decide)) BK497.out (by decide)) (fun _ hk => hk.1.2) (.slice Ao31 y519.length co31)) (fun _ hk => hk.2) (.int .i64 a0_0)) (fun _ hk => hk.2) (.int .i64 a0_1)) (fun _ hk => hk.2) (.int .i64 a0_2)) (fun _ hk => hk.2) (.int .i64 a0_3)) (fun _ hk => hk.2) (.int .i64 a0_4)) (fun _ hk => hk.2) (.slice Ao13 y501.length co13)) (fun _ hk => hk.2) (.slice Ao19 y507.length co19)) (fun _ hk => hk.2) (.int .i64 a0_7)) (fun _ hk => hk.2) (.slice Ao25 y513.length co25)) (fun _ hk => hk.2) (.slice Ao31 y519.length co31)) (fun _ hk => trivial), by repeat (first | (with_reducible first | exact HB.out | apply below_alloc | apply pw_below_drewN | apply below_drew1 | refine below_set ?_ GE496.out | refine below_set ?_ GE497.out) | exact HB.out)⟩
        · rw [if_neg c5] at H
          exact absurd H (by simp)
      · rw [if_neg c4] at H
        exact absurd H (by simp)
    · rw [if_neg c3] at H
      exact absurd H (by simp)
  · rw [if_neg c2] at H
    exact absurd H (by simp)
end Go.Proofs.Ytcplblpmgajmnaa.A
namespace Go.Proofs.Ytcplblpmgajmnaa.A
open Go.RowKit Go.Proofs.YtcplblpmgajmnaaW.PrintWords Go.Proofs.YtcplblpmgajmnaaW.PrintLast Go.Proofs.YtcplblpmgajmnaaW.PrintMore
attribute [local go_sem] max2_int min2_int max_two min_two max_three min_three max_four min_four   -- for this text's walks alone
set_option linter.unusedVariables false
set_option linter.unusedSimpArgs false
def palimpsestlaw16_RecordSames.f (k : Nat) (a0_0 : Int) (a0_1 : Int) (a0_2 : Int) (a0_3 : Int) (a0_4 : Int) (l0_5 : List Int) (l0_6 : List (S52)) (a0_7 : Int) (l0_8 : List (S54)) (l0_9 : List (S56)) (a1_0 : Int) (a1_1 : Int) (a1_2 : Int) (a1_3 : Int) (a1_4 : Int) (l1_5 : List Int) (l1_6 : List (S52)) (a1_7 : Int) (l1_8 : List (S54)) (l1_9 : List (S56)) : Option (Bool) := (palimpsestlaw16_alive.f k).bind fun t524 => (if t524 = true then ((record_Same.f k a0_0 a0_1 a0_2 a0_3 a0_4 l0_5 l0_6 a0_7 l0_8 l0_9 a1_0 a1_1 a1_2 a1_3 a1_4 l1_5 l1_6 a1_7 l1_8 l1_9).bind fun t525 => ((palimpsestref16_Same.f k a0_0 a0_1 a0_2 a0_3 a0_4 l0_5 l0_6 a0_7 l0_8 l0_9 a1_0 a1_1 a1_2 a1_3 a1_4 l1_5 l1_6 a1_7 l1_8 l1_9).bind fun t526 => (if (t525 == t526) = true then ((palimpsestlaw16_copied.f a0_0 a0_1 a0_2 a0_3 a0_4 l0_5 l0_6 a0_7 l0_8 l0_9).bind fun bt527 => ((record_Same.f k a0_0 a0_1 a0_2 a0_3 a0_4 l0_5 l0_6 a0_7 l0_8 l0_9 bt527.1 bt527.2.1 bt527.2.2.1 bt527.2.2.2.1 bt527.2.2.2.2.1 bt527.2.2.2.2.2.1 bt527.2.2.2.2.2.2.1 bt527.2.2.2.2.2.2.2.1 bt527.2.2.2.2.2.2.2.2.1 bt527.2.2.2.2.2.2.2.2.2).bind fun t545 => (some t545))) else (some false)))) else (some false))
theorem palimpsestlaw16_RecordSames.mono : ∀ a0 a1 a2 a3 a4 a5 a6 a7 a8 a9 a10 a11 a12 a13 a14 a15 a16 a17 a18 a19 k, LeO (palimpsestlaw16_RecordSames.f k a0 a1 a2 a3 a4 a5 a6 a7 a8 a9 a10 a11 a12 a13 a14 a15 a16 a17 a18 a19) (palimpsestlaw16_RecordSames.f (k + 1) a0 a1 a2 a3 a4 a5 a6 a7 a8 a9 a10 a11 a12 a13 a14 a15 a16 a17 a18 a19) := by
  intro a0 a1 a2 a3 a4 a5 a6 a7 a8 a9 a10 a11 a12 a13 a14 a15 a16 a17 a18 a19 k
  unfold palimpsestlaw16_RecordSames.f
  repeat' first
      | (with_reducible exact palimpsestlaw16_alive.mono _)
      | (with_reducible exact palimpsestref16_Same.mono _ _ _ _ _ _ _ _ _ _ _ _ _ _ _ _ _ _ _ _ _)
      | (with_reducible exact record_Same.mono _ _ _ _ _ _ _ _ _ _ _ _ _ _ _ _ _ _ _ _ _)
      | (with_reducible exact LeO.refl _)
      | (with_reducible exact LeO.none _)
      | (with_reducible refine LeO.ite ?_ ?_)
      | (with_reducible refine LeO.bind ?_ (fun _ => ?_))
      | exact palimpsestlaw16_alive.mono _
      | exact palimpsestref16_Same.mono _ _ _ _ _ _ _ _ _ _ _ _ _ _ _ _ _ _ _ _ _
      | exact record_Same.mono _ _ _ _ _ _ _ _ _ _ _ _ _ _ _ _ _ _ _ _ _
      | exact LeO.none _
      | refine LeO.ite ?_ ?_
      | refine LeO.bind ?_ (fun _ => ?_)
def palimpsestlaw16_RecordSames.T1 : Bool × List (List Nat × List Nat) := (true, [([], []), ([0, 0], [0]), ([1], [1]), ([1], [1]), ([2, 3, 1, 1], [1, 2, 3]), ([1], [1]), ([1], [1]), ([5, 6, 4, 1], [1, 5, 6]), ([4, 7, 1], [1, 4, 7]), ([1, 8], [1, 8]), ([9, 7], [9]), ([10], [10]), ([10], [10]), ([12, 10, 10], [10, 12]), ([11, 13, 13, 10], [10, 11, 13]), ([10, 14], [10, 14]), ([15, 14, 0, 1, 2, 3, 4, 5, 6, 7, 8, 9, 10, 11, 12, 13, 14, 15], [15])])
def palimpsestlaw16_RecordSames.B1 : List Nat := [0, 1, 3, 3, 15, 3, 3, 127, 255, 511, 1023, 2047, 2047, 6143, 16383, 32767, 65535]
theorem palimpsestlaw16_RecordSames.tab1 : rtab .any (opsOf Try.f5 1) = palimpsestlaw16_RecordSames.T1 := by kernel_rfl
theorem palimpsestlaw16_RecordSames.bits1 : waitsOk palimpsestlaw16_RecordSames.T1.2 palimpsestlaw16_RecordSames.B1 = true := by kernel_rfl
set_option maxHeartbeats 8000000 in
set_option maxRecDepth 100000 in
theorem palimpsestlaw16_RecordSames.calls (k : Nat) (a0_0 : Int) (a0_1 : Int) (a0_2 : Int) (a0_3 : Int) (a0_4 : Int) (A0_5 : Option Addr) (c0_5 : Nat) (l0_5 : List Int) (A0_6 : Option Addr) (c0_6 : Nat) (l0_6 : List (S52)) (a0_7 : Int) (A0_8 : Option Addr) (c0_8 : Nat) (l0_8 : List (S54)) (A0_9 : Option Addr) (c0_9 : Nat) (l0_9 : List (S56)) (a1_0 : Int) (a1_1 : Int) (a1_2 : Int) (a1_3 : Int) (a1_4 : Int) (A1_5 : Option Addr) (c1_5 : Nat) (l1_5 : List Int) (A1_6 : Option Addr) (c1_6 : Nat) (l1_6 : List (S52)) (a1_7 : Int) (A1_8 : Option Addr) (c1_8 : Nat) (l1_8 : List (S54)) (A1_9 : Option Addr) (c1_9 : Nat) (l1_9 : List (S56)) (r : Bool) (w : World) (hr0_5 : Kd.C (Kd.int .i64) w A0_5 l0_5.length l0_5) (hc0_5 : l0_5.length ≤ c0_5) (hr0_6 : Kd.C k52 w A0_6 l0_6.length l0_6) (hc0_6 : l0_6.length ≤ c0_6) (hr0_8 : Kd.C k54 w A0_8 l0_8.length l0_8) (hc0_8 : l0_8.length ≤ c0_8) (hr0_9 : Kd.C k56 w A0_9 l0_9.length l0_9) (hc0_9 : l0_9.length ≤ c0_9) (hr1_5 : Kd.C (Kd.int .i64) w A1_5 l1_5.length l1_5) (hc1_5 : l1_5.length ≤ c1_5) (hr1_6 : Kd.C k52 w A1_6 l1_6.length l1_6) (hc1_6 : l1_6.length ≤ c1_6) (hr1_8 : Kd.C k54 w A1_8 l1_8.length l1_8) (hc1_8 : l1_8.length ≤ c1_8) (hr1_9 : Kd.C k56 w A1_9 l1_9.length l1_9) (hc1_9 : l1_9.length ≤ c1_9) (h : palimpsestlaw16_RecordSames.f k a0_0 a0_1 a0_2 a0_3 a0_4 l0_5 l0_6 a0_7 l0_8 l0_9 a1_0 a1_1 a1_2 a1_3 a1_4 l1_5 l1_6 a1_7 l1_8 l1_9 = some r) :
    Calls Try.prog 5 #[.agg #[.int .i64 a0_0, .int .i64 a0_1, .int .i64 a0_2, .int .i64 a0_3, .int .i64 a0_4, .slice A0_5 l0_5.length c0_5, .slice A0_6 l0_6.length c0_6, .int .i64 a0_7, .slice A0_8 l0_8.length c0_8, .slice A0_9 l0_9.length c0_9], .agg #[.int .i64 a1_0, .int .i64 a1_1, .int .i64 a1_2, .int .i64 a1_3, .int .i64 a1_4, .slice A1_5 l1_5.length c1_5, .slice A1_6 l1_6.length c1_6, .int .i64 a1_7, .slice A1_8 l1_8.length c1_8, .slice A1_9 l1_9.length c1_9]] w fun e w' => e = .returned (.bool r) ∧ Below w.heap.size w w' := by
  have hu30 := Try.underlying30
  have HR0_5 := Aside0.mk hr0_5
  have HC0_5 := Aside0.mk hc0_5
  clear hr0_5 hc0_5
  have HR0_6 := Aside0.mk hr0_6
  have HC0_6 := Aside0.mk hc0_6
  clear hr0_6 hc0_6
  have HR0_8 := Aside0.mk hr0_8
  have HC0_8 := Aside0.mk hc0_8
  clear hr0_8 hc0_8
  have HR0_9 := Aside0.mk hr0_9
  have HC0_9 := Aside0.mk hc0_9
  clear hr0_9 hc0_9
  have HR1_5 := Aside0.mk hr1_5
  have HC1_5 := Aside0.mk hc1_5
  clear hr1_5 hc1_5
  have HR1_6 := Aside0.mk hr1_6
  have HC1_6 := Aside0.mk hc1_6
  clear hr1_6 hc1_6
  have HR1_8 := Aside0.mk hr1_8
  have HC1_8 := Aside0.mk hc1_8
  clear hr1_8 hc1_8
  have HR1_9 := Aside0.mk hr1_9
  have HC1_9 := Aside0.mk hc1_9
  clear hr1_9 hc1_9
  have HB := Aside0.mk (Below.refl w.heap.size w)
  have H : ((palimpsestlaw16_alive.f k).bind fun t524 => (if t524 = true then ((record_Same.f k a0_0 a0_1 a0_2 a0_3 a0_4 l0_5 l0_6 a0_7 l0_8 l0_9 a1_0 a1_1 a1_2 a1_3 a1_4 l1_5 l1_6 a1_7 l1_8 l1_9).bind fun t525 => ((palimpsestref16_Same.f k a0_0 a0_1 a0_2 a0_3 a0_4 l0_5 l0_6 a0_7 l0_8 l0_9 a1_0 a1_1 a1_2 a1_3 a1_4 l1_5 l1_6 a1_7 l1_8 l1_9).bind fun t526 => (if (t525 == t526) = true then ((palimpsestlaw16_copied.f a0_0 a0_1 a0_2 a0_3 a0_4 l0_5 l0_6 a0_7 l0_8 l0_9).bind fun bt527 => ((record_Same.f k a0_0 a0_1 a0_2 a0_3 a0_4 l0_5 l0_6 a0_7 l0_8 l0_9 bt527.1 bt527.2.1 bt527.2.2.1 bt527.2.2.2.1 bt527.2.2.2.2.1 bt527.2.2.2.2.2.1 bt527.2.2.2.2.2.2.1 bt527.2.2.2.2.2.2.2.1 bt527.2.2.2.2.2.2.2.2.1 bt527.2.2.2.2.2.2.2.2.2).bind fun t545 => (some t545))) else (some false)))) else (some false))) = some r := h
  clear h
  replace H := Option.bind_eq_some_iff.mp H
  obtain ⟨t524, A30, H⟩ := H
  replace H : (if t524 = true then ((record_Same.f k a0_0 a0_1 a0_2 a0_3 a0_4 l0_5 l0_6 a0_7 l0_8 l0_9 a1_0 a1_1 a1_2 a1_3 a1_4 l1_5 l1_6 a1_7 l1_8 l1_9).bind fun t525 => ((palimpsestref16_Same.f k a0_0 a0_1 a0_2 a0_3 a0_4 l0_5 l0_6 a0_7 l0_8 l0_9 a1_0 a1_1 a1_2 a1_3 a1_4 l1_5 l1_6 a1_7 l1_8 l1_9).bind fun t526 => (if (t525 == t526) = true then ((palimpsestlaw16_copied.f a0_0 a0_1 a0_2 a0_3 a0_4 l0_5 l0_6 a0_7 l0_8 l0_9).bind fun bt527 => ((record_Same.f k a0_0 a0_1 a0_2 a0_3 a0_4 l0_5 l0_6 a0_7 l0_8 l0_9 bt527.1 bt527.2.1 bt527.2.2.1 bt527.2.2.2.1 bt527.2.2.2.2.1 bt527.2.2.2.2.2.1 bt527.2.2.2.2.2.2.1 bt527.2.2.2.2.2.2.2.1 bt527.2.2.2.2.2.2.2.2.1 bt527.2.2.2.2.2.2.2.2.2).bind fun t545 => (some t545))) else (some false)))) else (some false)) = some r := H
  have A3 := Aside0.mk A30
  clear A30
  by_cases c4 : t524 = true
  · subst c4
    have H1 : ((record_Same.f k a0_0 a0_1 a0_2 a0_3 a0_4 l0_5 l0_6 a0_7 l0_8 l0_9 a1_0 a1_1 a1_2 a1_3 a1_4 l1_5 l1_6 a1_7 l1_8 l1_9).bind fun t525 => ((palimpsestref16_Same.f k a0_0 a0_1 a0_2 a0_3 a0_4 l0_5 l0_6 a0_7 l0_8 l0_9 a1_0 a1_1 a1_2 a1_3 a1_4 l1_5 l1_6 a1_7 l1_8 l1_9).bind fun t526 => (if (t525 == t526) = true then ((palimpsestlaw16_copied.f a0_0 a0_1 a0_2 a0_3 a0_4 l0_5 l0_6 a0_7 l0_8 l0_9).bind fun bt527 => ((record_Same.f k a0_0 a0_1 a0_2 a0_3 a0_4 l0_5 l0_6 a0_7 l0_8 l0_9 bt527.1 bt527.2.1 bt527.2.2.1 bt527.2.2.2.1 bt527.2.2.2.2.1 bt527.2.2.2.2.2.1 bt527.2.2.2.2.2.2.1 bt527.2.2.2.2.2.2.2.1 bt527.2.2.2.2.2.2.2.2.1 bt527.2.2.2.2.2.2.2.2.2).bind fun t545 => (some t545))) else (some false)))) = some r := by rw [if_pos rfl] at H; exact H
    clear H
    have H := H1
    clear H1
    replace H := Option.bind_eq_some_iff.mp H
    obtain ⟨t525, A50, H⟩ := H
    replace H : ((palimpsestref16_Same.f k a0_0 a0_1 a0_2 a0_3 a0_4 l0_5 l0_6 a0_7 l0_8 l0_9 a1_0 a1_1 a1_2 a1_3 a1_4 l1_5 l1_6 a1_7 l1_8 l1_9).bind fun t526 => (if (t525 == t526) = true then ((palimpsestlaw16_copied.f a0_0 a0_1 a0_2 a0_3 a0_4 l0_5 l0_6 a0_7 l0_8 l0_9).bind fun bt527 => ((record_Same.f k a0_0 a0_1 a0_2 a0_3 a0_4 l0_5 l0_6 a0_7 l0_8 l0_9 bt527.1 bt527.2.1 bt527.2.2.1 bt527.2.2.2.1 bt527.2.2.2.2.1 bt527.2.2.2.2.2.1 bt527.2.2.2.2.2.2.1 bt527.2.2.2.2.2.2.2.1 bt527.2.2.2.2.2.2.2.2.1 bt527.2.2.2.2.2.2.2.2.2).bind fun t545 => (some t545))) else (some false))) = some r := H
    have A5 := Aside0.mk A50
    clear A50
    replace H := Option.bind_eq_some_iff.mp H
    obtain ⟨t526, A60, H⟩ := H
    replace H : (if (t525 == t526) = true then ((palimpsestlaw16_copied.f a0_0 a0_1 a0_2 a0_3 a0_4 l0_5 l0_6 a0_7 l0_8 l0_9).bind fun bt527 => ((record_Same.f k a0_0 a0_1 a0_2 a0_3 a0_4 l0_5 l0_6 a0_7 l0_8 l0_9 bt527.1 bt527.2.1 bt527.2.2.1 bt527.2.2.2.1 bt527.2.2.2.2.1 bt527.2.2.2.2.2.1 bt527.2.2.2.2.2.2.1 bt527.2.2.2.2.2.2.2.1 bt527.2.2.2.2.2.2.2.2.1 bt527.2.2.2.2.2.2.2.2.2).bind fun t545 => (some t545))) else (some false)) = some r := H
    have A6 := Aside0.mk A60
    clear A60
    by_cases c7 : (t525 == t526) = true
    · rw [if_pos c7] at H
      have c7b0 : (t525 == t526) = true := c7
      (try (have c7b1 : decide (t525 = t526) = true := by simpa using c7))
      (try (have c7b2 : (t525 == t526) = true := by simpa using c7))
      clear c7
      replace H := Option.bind_eq_some_iff.mp H
      obtain ⟨⟨t527, t528, t529, t530, t531, t532, t535, t538, t539, t542⟩, A80, H⟩ := H
      replace H : ((record_Same.f k a0_0 a0_1 a0_2 a0_3 a0_4 l0_5 l0_6 a0_7 l0_8 l0_9 t527 t528 t529 t530 t531 t532 t535 t538 t539 t542).bind fun t545 => (some t545)) = some r := H
      have A8 := Aside0.mk A80
      clear A80
      replace H := Option.bind_eq_some_iff.mp H
      obtain ⟨t545, A90, H⟩ := H
      replace H : (some t545) = some r := H
      have A9 := Aside0.mk A90
      clear A90
      obtain rfl := Option.some.inj H
      go_enter Try.func5, Try.ntmps5
      try go_wp2_with (first | ((with_reducible refine gate_dst (N := 2) rfl ?_); refine box_event ?hg (N := 2) ?hd (cs := #[.int .i64 a0_0, .int .i64 a0_1, .int .i64 a0_2, .int .i64 a0_3, .int .i64 a0_4, .slice A0_5 l0_5.length c0_5, .slice A0_6 l0_6.length c0_6, .int .i64 a0_7, .slice A0_8 l0_8.length c0_8, .slice A0_9 l0_9.length c0_9]) (t := 30) ?hr ?_; (case hd => rfl); (case hg => rfl); (case hr => first | (go_simp; done) | (go_simp; rfl)); intro gb522 hg w10 hbox hb; have n0_ := Aside0.mk (below_step (by repeat (first | (with_reducible first | exact HB.out | apply below_alloc | apply pw_below_drewN | apply below_drew1) | exact HB.out)) hb); have n1_ := Aside0.mk (hbox); have n2_ := Aside0.mk ((by rw [hg]; exact (below_size (by repeat (first | (with_reducible first | exact HB.out | apply below_alloc | apply pw_below_drewN | apply below_drew1) | exact HB.out))) : w.heap.size ≤ gb522)); have n3_ := Aside0.mk ((by rw [hg]; exact (below_size (by repeat (first | (with_reducible first | exact HB.out | apply below_alloc | apply pw_below_drewN | apply below_drew1) | exact HB.out))) : w.heap.size ≤ gb522)); clear HB; have HB := n0_; have BK522 := n1_; have GW522 := n2_; have GE522 := n3_; clear n0_ n1_ n2_ n3_; clear hb hbox hg) | ((with_reducible refine gate_dst (N := 3) rfl ?_); refine box_event ?hg (N := 3) ?hd (cs := #[.int .i64 a1_0, .int .i64 a1_1, .int .i64 a1_2, .int .i64 a1_3, .int .i64 a1_4, .slice A1_5 l1_5.length c1_5, .slice A1_6 l1_6.length c1_6, .int .i64 a1_7, .slice A1_8 l1_8.length c1_8, .slice A1_9 l1_9.length c1_9]) (t := 30) ?hr ?_; (case hd => rfl); (case hg => rfl); (case hr => first | (go_simp; done) | (go_simp; rfl)); intro gb523 hg w11 hbox hb; have n0_ := Aside0.mk (blk_below (g := gb522) (o := .cells #[.int .i64 a0_0, .int .i64 a0_1, .int .i64 a0_2, .int .i64 a0_3, .int .i64 a0_4, .slice A0_5 l0_5.length c0_5, .slice A0_6 l0_6.length c0_6, .int .i64 a0_7, .slice A0_8 l0_8.length c0_8, .slice A0_9 l0_9.length c0_9] 30 (0, 0)) (by (with_reducible repeat (first | refine blk_drewN ?_ _ | refine blk_drew ?_ | refine blk_alloc ?_ _)); exact BK522.out) hb); have n1_ := Aside0.mk (below_step (by repeat (first | (with_reducible first | exact HB.out | apply below_alloc | apply pw_below_drewN | apply below_drew1 | refine below_set ?_ GE522.out) | exact HB.out)) hb); have n2_ := Aside0.mk (hbox); have n3_ := Aside0.mk ((by rw [hg]; exact (below_size (by repeat (first | (with_reducible first | exact HB.out | apply below_alloc | apply pw_below_drewN | apply below_drew1 | refine below_set ?_ GE522.out) | exact HB.out))) : w.heap.size ≤ gb523)); have n4_ := Aside0.mk ((by rw [hg]; exact (below_size (by repeat (first | (with_reducible first | exact HB.out | apply below_alloc | apply pw_below_drewN | apply below_drew1 | refine below_set ?_ GE522.out) | exact HB.out))) : w.heap.size ≤ gb523)); have n5_ := Aside0.mk ((by rw [hg]; exact Nat.ne_of_lt (blk_lt (g := gb522) (o := .cells #[.int .i64 a0_0, .int .i64 a0_1, .int .i64 a0_2, .int .i64 a0_3, .int .i64 a0_4, .slice A0_5 l0_5.length c0_5, .slice A0_6 l0_6.length c0_6, .int .i64 a0_7, .slice A0_8 l0_8.length c0_8, .slice A0_9 l0_9.length c0_9] 30 (0, 0)) (by (with_reducible repeat (first | refine blk_drewN ?_ _ | refine blk_drew ?_ | refine blk_alloc ?_ _)); exact BK522.out)) : gb522 ≠ gb523)); have n6_ := Aside0.mk ((by rw [hg]; exact Nat.ne_of_gt (blk_lt (g := gb522) (o := .cells #[.int .i64 a0_0, .int .i64 a0_1, .int .i64 a0_2, .int .i64 a0_3, .int .i64 a0_4, .slice A0_5 l0_5.length c0_5, .slice A0_6 l0_6.length c0_6, .int .i64 a0_7, .slice A0_8 l0_8.length c0_8, .slice A0_9 l0_9.length c0_9] 30 (0, 0)) (by (with_reducible repeat (first | refine blk_drewN ?_ _ | refine blk_drew ?_ | refine blk_alloc ?_ _)); exact BK522.out)) : gb523 ≠ gb522)); clear BK522; clear HB; have BK522 := n0_; have HB := n1_; have BK523 := n2_; have GW523 := n3_; have GE523 := n4_; have NB522_523 := n5_; have NB523_522 := n6_; clear n0_ n1_ n2_ n3_ n4_ n5_ n6_; clear hb hbox hg))
      have n0_ := Aside0.mk (blk_drew BK522.out)
      have n1_ := Aside0.mk (blk_drew BK523.out)
      have n2_ := Aside0.mk (below_drew1 HB.out)
      clear BK522
      clear BK523
      clear HB
      have BK522 := n0_
      have BK523 := n1_
      have HB := n2_
      clear n0_ n1_ n2_
      refine start_ (n := 17) (S := fun w' => w'.cell? ⟨gb522, 0, none⟩ = some (.int .i64 a0_0) ∧ w'.cell? ⟨gb522, 1, none⟩ = some (.int .i64 a0_1) ∧ w'.cell? ⟨gb522, 2, none⟩ = some (.int .i64 a0_2) ∧ w'.cell? ⟨gb522, 3, none⟩ = some (.int .i64 a0_3) ∧ w'.cell? ⟨gb522, 4, none⟩ = some (.int .i64 a0_4) ∧ w'.cell? ⟨gb522, 5, none⟩ = some (.slice A0_5 l0_5.length c0_5) ∧ w'.cell? ⟨gb522, 6, none⟩ = some (.slice A0_6 l0_6.length c0_6) ∧ w'.cell? ⟨gb522, 7, none⟩ = some (.int .i64 a0_7) ∧ w'.cell? ⟨gb522, 8, none⟩ = some (.slice A0_8 l0_8.length c0_8) ∧ w'.cell? ⟨gb522, 9, none⟩ = some (.slice A0_9 l0_9.length c0_9) ∧ w'.cell? ⟨gb523, 0, none⟩ = some (.int .i64 a1_0) ∧ w'.cell? ⟨gb523, 1, none⟩ = some (.int .i64 a1_1) ∧ w'.cell? ⟨gb523, 2, none⟩ = some (.int .i64 a1_2) ∧ w'.cell? ⟨gb523, 3, none⟩ = some (.int .i64 a1_3) ∧ w'.cell? ⟨gb523, 4, none⟩ = some (.int .i64 a1_4) ∧ w'.cell? ⟨gb523, 5, none⟩ = some (.slice A1_5 l1_5.length c1_5) ∧ w'.cell? ⟨gb523, 6, none⟩ = some (.slice A1_6 l1_6.length c1_6) ∧ w'.cell? ⟨gb523, 7, none⟩ = some (.int .i64 a1_7) ∧ w'.cell? ⟨gb523, 8, none⟩ = some (.slice A1_8 l1_8.length c1_8) ∧ w'.cell? ⟨gb523, 9, none⟩ = some (.slice A1_9 l1_9.length c1_9)) (ds := []) #[false, false, false, false, false, false, false, false, false, false, false, false, false, false, false, false, false] (by kernel_rfl) rfl rfl ⟨(blk_cell BK522.out 0).trans rfl, (blk_cell BK522.out 1).trans rfl, (blk_cell BK522.out 2).trans rfl, (blk_cell BK522.out 3).trans rfl, (blk_cell BK522.out 4).trans rfl, (blk_cell BK522.out 5).trans rfl, (blk_cell BK522.out 6).trans rfl, (blk_cell BK522.out 7).trans rfl, (blk_cell BK522.out 8).trans rfl, (blk_cell BK522.out 9).trans rfl, (blk_cell BK523.out 0).trans rfl, (blk_cell BK523.out 1).trans rfl, (blk_cell BK523.out 2).trans rfl, (blk_cell BK523.out 3).trans rfl, (blk_cell BK523.out 4).trans rfl, (blk_cell BK523.out 5).trans rfl, (blk_cell BK523.out 6).trans rfl, (blk_cell BK523.out 7).trans rfl, (blk_cell BK523.out 8).trans rfl, (blk_cell BK523.out 9).trans rfl⟩ (fun hHeld => ?_); refine with_tabW palimpsestlaw16_RecordSames.tab1 palimpsestlaw16_RecordSames.bits1 (fun HT_ HW_ => ?_)
      generalize w11.drew = w12 at BK522 BK523 HB hHeld ⊢
      refine one_ (i := 0) (N := some 5) #[true, false, false, false, false, false, false, false, false, false, false, false, false, false, false, false, false] rfl rfl (one_of HT_.out (by kernel_rfl)) (by decide) (fun K hK => ?_)
      refine goes_ Try.func10 (by kernel_rfl) rfl #[] (by rfl) rfl rfl (by (try simp only [List.map_toArray, List.map_cons, List.map_nil]); first | done | rfl | (simp only [List.length_drop, List.length_take]; rfl)) ?_
      with_reducible refine (palimpsestlaw16_alive.calls k  true _ A3.out).mono ?_
      rintro e w13 ⟨rfl, hb⟩
      refine ⟨_, rfl, ?_⟩
      have n0_ := Aside0.mk (blk_below (g := gb522) (o := .cells #[.int .i64 a0_0, .int .i64 a0_1, .int .i64 a0_2, .int .i64 a0_3, .int .i64 a0_4, .slice A0_5 l0_5.length c0_5, .slice A0_6 l0_6.length c0_6, .int .i64 a0_7, .slice A0_8 l0_8.length c0_8, .slice A0_9 l0_9.length c0_9] 30 (0, 0)) (by (with_reducible repeat (first | refine blk_drewN ?_ _ | refine blk_drew ?_ | refine blk_alloc ?_ _)); exact BK522.out) hb)
      have n1_ := Aside0.mk (blk_below (g := gb523) (o := .cells #[.int .i64 a1_0, .int .i64 a1_1, .int .i64 a1_2, .int .i64 a1_3, .int .i64 a1_4, .slice A1_5 l1_5.length c1_5, .slice A1_6 l1_6.length c1_6, .int .i64 a1_7, .slice A1_8 l1_8.length c1_8, .slice A1_9 l1_9.length c1_9] 30 (0, 0)) (by (with_reducible repeat (first | refine blk_drewN ?_ _ | refine blk_drew ?_ | refine blk_alloc ?_ _)); exact BK523.out) hb)
      have n2_ := Aside0.mk (below_step (by repeat (first | (with_reducible first | exact HB.out | apply below_alloc | apply pw_below_drewN | apply below_drew1 | refine below_set ?_ GE522.out | refine below_set ?_ GE523.out) | exact HB.out)) hb)
      clear BK522
      clear BK523
      clear HB
      have BK522 := n0_
      have BK523 := n1_
      have HB := n2_
      clear n0_ n1_ n2_
      (try clear hb)
      (try clear hb2)
      (try clear hk)
      (try clear hi)
      refine hK.out _ _ ⟨(blk_cell BK522.out 0).trans rfl, (blk_cell BK522.out 1).trans rfl, (blk_cell BK522.out 2).trans rfl, (blk_cell BK522.out 3).trans rfl, (blk_cell BK522.out 4).trans rfl, (blk_cell BK522.out 5).trans rfl, (blk_cell BK522.out 6).trans rfl, (blk_cell BK522.out 7).trans rfl, (blk_cell BK522.out 8).trans rfl, (blk_cell BK522.out 9).trans rfl, (blk_cell BK523.out 0).trans rfl, (blk_cell BK523.out 1).trans rfl, (blk_cell BK523.out 2).trans rfl, (blk_cell BK523.out 3).trans rfl, (blk_cell BK523.out 4).trans rfl, (blk_cell BK523.out 5).trans rfl, (blk_cell BK523.out 6).trans rfl, (blk_cell BK523.out 7).trans rfl, (blk_cell BK523.out 8).trans rfl, (blk_cell BK523.out 9).trans rfl⟩ (fun hHeld => ?_)
      clear hK K
      refine norm_ (a' := ?_) ?_ ?_
      rotate_left
      · show Act.put _ (some 5) _ = _
        simp only [Act.put, List.setIfInBounds_toArray, List.set_cons_zero, List.set_cons_succ, i64_w, i32_w]
        rfl
      refine pure_ (i := 1) (N := some 6) (v := ?_) (a' := ?_) #[true, true, false, false, false, false, false, false, false, false, false, false, false, false, false, false, false] rfl rfl (any_of HT_.out (by kernel_rfl)) (fun _ _ _ h => h) (Or.inl ⟨by rfl, ?_⟩) ?_ ?_
      rotate_left
      · intro w'
        go_simp
        with_reducible rfl
      rotate_left
      · simp only [Act.put, List.setIfInBounds_toArray, List.set_cons_zero, List.set_cons_succ, i64_w, i32_w]
        rfl
      refine take_ (i := 2) (N := some 7) (v := ?_) (a' := ?_) #[true, true, true, false, false, false, false, false, false, false, false, false, false, false, false, false, false] rfl rfl (take_ofW HT_.out HW_.out (by kernel_rfl)) (fun _ _ _ h => h) (Or.inl ⟨by rfl, ?_⟩) hHeld ?_ ?_
      rotate_left
      · rintro w' ⟨s0, s1, s2, s3, s4, s5, s6, s7, s8, s9, s10, s11, s12, s13, s14, s15, s16, s17, s18, s19⟩
        go_simp
        with_reducible rfl
      rotate_left
      · simp only [Act.put, List.setIfInBounds_toArray, List.set_cons_zero, List.set_cons_succ, i64_w, i32_w]
        rfl
      refine take_ (i := 3) (N := some 8) (v := ?_) (a' := ?_) #[true, true, true, true, false, false, false, false, false, false, false, false, false, false, false, false, false] rfl rfl (take_ofW HT_.out HW_.out (by kernel_rfl)) (fun _ _ _ h => h) (Or.inl ⟨by rfl, ?_⟩) hHeld ?_ ?_
      rotate_left
      · rintro w' ⟨s0, s1, s2, s3, s4, s5, s6, s7, s8, s9, s10, s11, s12, s13, s14, s15, s16, s17, s18, s19⟩
        go_simp
        with_reducible rfl
      rotate_left
      · simp only [Act.put, List.setIfInBounds_toArray, List.set_cons_zero, List.set_cons_succ, i64_w, i32_w]
        rfl
      refine take_ (i := 5) (N := some 10) (v := ?_) (a' := ?_) #[true, true, true, true, false, true, false, false, false, false, false, false, false, false, false, false, false] rfl rfl (take_ofW HT_.out HW_.out (by kernel_rfl)) (fun _ _ _ h => h) (Or.inl ⟨by rfl, ?_⟩) hHeld ?_ ?_
      rotate_left
      · rintro w' ⟨s0, s1, s2, s3, s4, s5, s6, s7, s8, s9, s10, s11, s12, s13, s14, s15, s16, s17, s18, s19⟩
        go_simp
        with_reducible rfl
      rotate_left
      · simp only [Act.put, List.setIfInBounds_toArray, List.set_cons_zero, List.set_cons_succ, i64_w, i32_w]
        rfl
      refine take_ (i := 6) (N := some 11) (v := ?_) (a' := ?_) #[true, true, true, true, false, true, true, false, false, false, false, false, false, false, false, false, false] rfl rfl (take_ofW HT_.out HW_.out (by kernel_rfl)) (fun _ _ _ h => h) (Or.inl ⟨by rfl, ?_⟩) hHeld ?_ ?_
      rotate_left
      · rintro w' ⟨s0, s1, s2, s3, s4, s5, s6, s7, s8, s9, s10, s11, s12, s13, s14, s15, s16, s17, s18, s19⟩
        go_simp
        with_reducible rfl
      rotate_left
      · simp only [Act.put, List.setIfInBounds_toArray, List.set_cons_zero, List.set_cons_succ, i64_w, i32_w]
        rfl
      refine one_ (i := 4) (N := some 9) #[true, true, true, true, true, true, true, false, false, false, false, false, false, false, false, false, false] rfl rfl (one_of HT_.out (by kernel_rfl)) (by decide) (fun K hK => ?_)
      refine goes_ Try.func19 (by kernel_rfl) rfl #[.agg #[.int .i64 a0_0, .int .i64 a0_1, .int .i64 a0_2, .int .i64 a0_3, .int .i64 a0_4, .slice A0_5 l0_5.length c0_5, .slice A0_6 l0_6.length c0_6, .int .i64 a0_7, .slice A0_8 l0_8.length c0_8, .slice A0_9 l0_9.length c0_9], .agg #[.int .i64 a1_0, .int .i64 a1_1, .int .i64 a1_2, .int .i64 a1_3, .int .i64 a1_4, .slice A1_5 l1_5.length c1_5, .slice A1_6 l1_6.length c1_6, .int .i64 a1_7, .slice A1_8 l1_8.length c1_8, .slice A1_9 l1_9.length c1_9]] (by rfl) rfl rfl (by (try simp only [List.map_toArray, List.map_cons, List.map_nil]); first | done | rfl | (simp only [List.length_drop, List.length_take]; rfl)) ?_
      with_reducible refine (record_Same.calls k a0_0 a0_1 a0_2 a0_3 a0_4 _ _ l0_5 _ _ l0_6 a0_7 _ _ l0_8 _ _ l0_9 a1_0 a1_1 a1_2 a1_3 a1_4 _ _ l1_5 _ _ l1_6 a1_7 _ _ l1_8 _ _ l1_9 t525 _ ?side1 ?side2 ?side3 ?side4 ?side5 ?side6 ?side7 ?side8 ?side9 ?side10 ?side11 ?side12 ?side13 ?side14 ?side15 ?side16 A5.out).mono ?_
      (case side1 => repeat (first | exact (Kd.C_below HR0_5.out HB.out) | (with_reducible refine Kd.C_alloc ?_ _) | (with_reducible refine Kd.C_drewN ?_ _) | (with_reducible refine Kd.C_drew ?_)))
      (case side2 => exact HC0_5.out)
      (case side3 => repeat (first | exact (Kd.C_below HR0_6.out HB.out) | (with_reducible refine Kd.C_alloc ?_ _) | (with_reducible refine Kd.C_drewN ?_ _) | (with_reducible refine Kd.C_drew ?_)))
      (case side4 => exact HC0_6.out)
      (case side5 => repeat (first | exact (Kd.C_below HR0_8.out HB.out) | (with_reducible refine Kd.C_alloc ?_ _) | (with_reducible refine Kd.C_drewN ?_ _) | (with_reducible refine Kd.C_drew ?_)))
      (case side6 => exact HC0_8.out)
      (case side7 => repeat (first | exact (Kd.C_below HR0_9.out HB.out) | (with_reducible refine Kd.C_alloc ?_ _) | (with_reducible refine Kd.C_drewN ?_ _) | (with_reducible refine Kd.C_drew ?_)))
      (case side8 => exact HC0_9.out)
      (case side9 => repeat (first | exact (Kd.C_below HR1_5.out HB.out) | (with_reducible refine Kd.C_alloc ?_ _) | (with_reducible refine Kd.C_drewN ?_ _) | (with_reducible refine Kd.C_drew ?_)))
      (case side10 => exact HC1_5.out)
      (case side11 => repeat (first | exact (Kd.C_below HR1_6.out HB.out) | (with_reducible refine Kd.C_alloc ?_ _) | (with_reducible refine Kd.C_drewN ?_ _) | (with_reducible refine Kd.C_drew ?_)))
      (case side12 => exact HC1_6.out)
      (case side13 => repeat (first | exact (Kd.C_below HR1_8.out HB.out) | (with_reducible refine Kd.C_alloc ?_ _) | (with_reducible refine Kd.C_drewN ?_ _) | (with_reducible refine Kd.C_drew ?_)))
      (case side14 => exact HC1_8.out)
      (case side15 => repeat (first | exact (Kd.C_below HR1_9.out HB.out) | (with_reducible refine Kd.C_alloc ?_ _) | (with_reducible refine Kd.C_drewN ?_ _) | (with_reducible refine Kd.C_drew ?_)))
      (case side16 => exact HC1_9.out)
      rintro e w14 ⟨rfl, hb⟩
      refine ⟨_, rfl, ?_⟩
      have n0_ := Aside0.mk (blk_below (g := gb522) (o := .cells #[.int .i64 a0_0, .int .i64 a0_1, .int .i64 a0_2, .int .i64 a0_3, .int .i64 a0_4, .slice A0_5 l0_5.length c0_5, .slice A0_6 l0_6.length c0_6, .int .i64 a0_7, .slice A0_8 l0_8.length c0_8, .slice A0_9 l0_9.length c0_9] 30 (0, 0)) (by (with_reducible repeat (first | refine blk_drewN ?_ _ | refine blk_drew ?_ | refine blk_alloc ?_ _)); exact BK522.out) hb)
      have n1_ := Aside0.mk (blk_below (g := gb523) (o := .cells #[.int .i64 a1_0, .int .i64 a1_1, .int .i64 a1_2, .int .i64 a1_3, .int .i64 a1_4, .slice A1_5 l1_5.length c1_5, .slice A1_6 l1_6.length c1_6, .int .i64 a1_7, .slice A1_8 l1_8.length c1_8, .slice A1_9 l1_9.length c1_9] 30 (0, 0)) (by (with_reducible repeat (first | refine blk_drewN ?_ _ | refine blk_drew ?_ | refine blk_alloc ?_ _)); exact BK523.out) hb)
      have n2_ := Aside0.mk (below_step (by repeat (first | (with_reducible first | exact HB.out | apply below_alloc | apply pw_below_drewN | apply below_drew1 | refine below_set ?_ GE522.out | refine below_set ?_ GE523.out) | exact HB.out)) hb)
      clear BK522
      clear BK523
      clear HB
      have BK522 := n0_
      have BK523 := n1_
      have HB := n2_
      clear n0_ n1_ n2_
      (try clear hb)
      (try clear hb2)
      (try clear hk)
      (try clear hi)
      refine hK.out _ _ ⟨(blk_cell BK522.out 0).trans rfl, (blk_cell BK522.out 1).trans rfl, (blk_cell BK522.out 2).trans rfl, (blk_cell BK522.out 3).trans rfl, (blk_cell BK522.out 4).trans rfl, (blk_cell BK522.out 5).trans rfl, (blk_cell BK522.out 6).trans rfl, (blk_cell BK522.out 7).trans rfl, (blk_cell BK522.out 8).trans rfl, (blk_cell BK522.out 9).trans rfl, (blk_cell BK523.out 0).trans rfl, (blk_cell BK523.out 1).trans rfl, (blk_cell BK523.out 2).trans rfl, (blk_cell BK523.out 3).trans rfl, (blk_cell BK523.out 4).trans rfl, (blk_cell BK523.out 5).trans rfl, (blk_cell BK523.out 6).trans rfl, (blk_cell BK523.out 7).trans rfl, (blk_cell BK523.out 8).trans rfl, (blk_cell BK523.out 9).trans rfl⟩ (fun hHeld => ?_)
      clear hK K
      refine norm_ (a' := ?_) ?_ ?_
      rotate_left
      · show Act.put _ (some 9) _ = _
        simp only [Act.put, List.setIfInBounds_toArray, List.set_cons_zero, List.set_cons_succ, i64_w, i32_w]
        rfl
      refine one_ (i := 7) (N := some 12) #[true, true, true, true, true, true, true, true, false, false, false, false, false, false, false, false, false] rfl rfl (one_of HT_.out (by kernel_rfl)) (by decide) (fun K hK => ?_)
      refine goes_ Try.func14 (by kernel_rfl) rfl #[.agg #[.int .i64 a0_0, .int .i64 a0_1, .int .i64 a0_2, .int .i64 a0_3, .int .i64 a0_4, .slice A0_5 l0_5.length c0_5, .slice A0_6 l0_6.length c0_6, .int .i64 a0_7, .slice A0_8 l0_8.length c0_8, .slice A0_9 l0_9.length c0_9], .agg #[.int .i64 a1_0, .int .i64 a1_1, .int .i64 a1_2, .int .i64 a1_3, .int .i64 a1_4, .slice A1_5 l1_5.length c1_5, .slice A1_6 l1_6.length c1_6, .int .i64 a1_7, .slice A1_8 l1_8.length c1_8, .slice A1_9 l1_9.length c1_9]] (by rfl) rfl rfl (by (try simp only [List.map_toArray, List.map_cons, List.map_nil]); first | done | rfl | (simp only [List.length_drop, List.length_take]; rfl)) ?_
      with_reducible refine (palimpsestref16_Same.calls k a0_0 a0_1 a0_2 a0_3 a0_4 _ _ l0_5 _ _ l0_6 a0_7 _ _ l0_8 _ _ l0_9 a1_0 a1_1 a1_2 a1_3 a1_4 _ _ l1_5 _ _ l1_6 a1_7 _ _ l1_8 _ _ l1_9 t526 _ ?side1 ?side2 ?side3 ?side4 ?side5 ?side6 ?side7 ?side8 ?side9 ?side10 ?side11 ?side12 ?side13 ?side14 ?side15 ?side16 A6.out).mono ?_
      (case side1 => repeat (first | exact (Kd.C_below HR0_5.out HB.out) | (with_reducible refine Kd.C_alloc ?_ _) | (with_reducible refine Kd.C_drewN ?_ _) | (with_reducible refine Kd.C_drew ?_)))
      (case side2 => exact HC0_5.out)
      (case side3 => repeat (first | exact (Kd.C_below HR0_6.out HB.out) | (with_reducible refine Kd.C_alloc ?_ _) | (with_reducible refine Kd.C_drewN ?_ _) | (with_reducible refine Kd.C_drew ?_)))
      (case side4 => exact HC0_6.out)
      (case side5 => repeat (first | exact (Kd.C_below HR0_8.out HB.out) | (with_reducible refine Kd.C_alloc ?_ _) | (with_reducible refine Kd.C_drewN ?_ _) | (with_reducible refine Kd.C_drew ?_)))
      (case side6 => exact HC0_8.out)
      (case side7 => repeat (first | exact (Kd.C_below HR0_9.out HB.out) | (with_reducible refine Kd.C_alloc ?_ _) | (with_reducible refine Kd.C_drewN ?_ _) | (with_reducible refine Kd.C_drew ?_)))
      (case side8 => exact HC0_9.out)
      (case side9 => repeat (first | exact (Kd.C_below HR1_5.out HB.out) | (with_reducible refine Kd.C_alloc ?_ _) | (with_reducible refine Kd.C_drewN ?_ _) | (with_reducible refine Kd.C_drew ?_)))
      (case side10 => exact HC1_5.out)
      (case side11 => repeat (first | exact (Kd.C_below HR1_6.out HB.out) | (with_reducible refine Kd.C_alloc ?_ _) | (with_reducible refine Kd.C_drewN ?_ _) | (with_reducible refine Kd.C_drew ?_)))
      (case side12 => exact HC1_6.out)
      (case side13 => repeat (first | exact (Kd.C_below HR1_8.out HB.out) | (with_reducible refine Kd.C_alloc ?_ _) | (with_reducible refine Kd.C_drewN ?_ _) | (with_reducible refine Kd.C_drew ?_)))
      (case side14 => exact HC1_8.out)
      (case side15 => repeat (first | exact (Kd.C_below HR1_9.out HB.out) | (with_reducible refine Kd.C_alloc ?_ _) | (with_reducible refine Kd.C_drewN ?_ _) | (with_reducible refine Kd.C_drew ?_)))
      (case side16 => exact HC1_9.out)
      rintro e w15 ⟨rfl, hb⟩
      refine ⟨_, rfl, ?_⟩
      have n0_ := Aside0.mk (blk_below (g := gb522) (o := .cells #[.int .i64 a0_0, .int .i64 a0_1, .int .i64 a0_2, .int .i64 a0_3, .int .i64 a0_4, .slice A0_5 l0_5.length c0_5, .slice A0_6 l0_6.length c0_6, .int .i64 a0_7, .slice A0_8 l0_8.length c0_8, .slice A0_9 l0_9.length c0_9] 30 (0, 0)) (by (with_reducible repeat (first | refine blk_drewN ?_ _ | refine blk_drew ?_ | refine blk_alloc ?_ _)); exact BK522.out) hb)
      have n1_ := Aside0.mk (blk_below (g := gb523) (o := .cells #[.int .i64 a1_0, .int .i64 a1_1, .int .i64 a1_2, .int .i64 a1_3, .int .i64 a1_4, .slice A1_5 l1_5.length c1_5, .slice A1_6 l1_6.length c1_6, .int .i64 a1_7, .slice A1_8 l1_8.length c1_8, .slice A1_9 l1_9.length c1_9] 30 (0, 0)) (by (with_reducible repeat (first | refine blk_drewN ?_ _ | refine blk_drew ?_ | refine blk_alloc ?_ _)); exact BK523.out) hb)
      have n2_ := Aside0.mk (below_step (by repeat (first | (with_reducible first | exact HB.out | apply below_alloc | apply pw_below_drewN | apply below_drew1 | refine below_set ?_ GE522.out | refine below_set ?_ GE523.out) | exact HB.out)) hb)
      clear BK522
      clear BK523
      clear HB
      have BK522 := n0_
      have BK523 := n1_
      have HB := n2_
      clear n0_ n1_ n2_
      (try clear hb)
      (try clear hb2)
      (try clear hk)
      (try clear hi)
      refine hK.out _ _ ⟨(blk_cell BK522.out 0).trans rfl, (blk_cell BK522.out 1).trans rfl, (blk_cell BK522.out 2).trans rfl, (blk_cell BK522.out 3).trans rfl, (blk_cell BK522.out 4).trans rfl, (blk_cell BK522.out 5).trans rfl, (blk_cell BK522.out 6).trans rfl, (blk_cell BK522.out 7).trans rfl, (blk_cell BK522.out 8).trans rfl, (blk_cell BK522.out 9).trans rfl, (blk_cell BK523.out 0).trans rfl, (blk_cell BK523.out 1).trans rfl, (blk_cell BK523.out 2).trans rfl, (blk_cell BK523.out 3).trans rfl, (blk_cell BK523.out 4).trans rfl, (blk_cell BK523.out 5).trans rfl, (blk_cell BK523.out 6).trans rfl, (blk_cell BK523.out 7).trans rfl, (blk_cell BK523.out 8).trans rfl, (blk_cell BK523.out 9).trans rfl⟩ (fun hHeld => ?_)
      clear hK K
      refine norm_ (a' := ?_) ?_ ?_
      rotate_left
      · show Act.put _ (some 12) _ = _
        simp only [Act.put, List.setIfInBounds_toArray, List.set_cons_zero, List.set_cons_succ, i64_w, i32_w]
        rfl
      refine pure_ (i := 8) (N := some 13) (v := ?_) (a' := ?_) #[true, true, true, true, true, true, true, true, true, false, false, false, false, false, false, false, false] rfl rfl (any_of HT_.out (by kernel_rfl)) (fun _ _ _ h => h) (Or.inl ⟨by rfl, ?_⟩) ?_ ?_
      rotate_left
      · intro w'
        go_simp
        with_reducible rfl
      rotate_left
      · simp only [Act.put, List.setIfInBounds_toArray, List.set_cons_zero, List.set_cons_succ, i64_w, i32_w]
        rfl
      refine pure_ (i := 9) (N := some 14) (v := ?_) (a' := ?_) #[true, true, true, true, true, true, true, true, true, true, false, false, false, false, false, false, false] rfl rfl (any_of HT_.out (by kernel_rfl)) (fun _ _ _ h => h) (Or.inl ⟨by rfl, ?_⟩) ?_ ?_
      rotate_left
      · intro w'
        go_simp
        with_reducible rfl
      rotate_left
      · simp only [Act.put, List.setIfInBounds_toArray, List.set_cons_zero, List.set_cons_succ, i64_w, i32_w]
        rfl
      refine pure_ (i := 10) (N := some 15) (v := ?_) (a' := ?_) #[true, true, true, true, true, true, true, true, true, true, true, false, false, false, false, false, false] rfl rfl (any_of HT_.out (by kernel_rfl)) (fun _ _ _ h => h) (Or.inl ⟨by rfl, ?_⟩) ?_ ?_
      rotate_left
      · intro w'
        go_simp
        with_reducible rfl
      rotate_left
      · simp only [Act.put, List.setIfInBounds_toArray, List.set_cons_zero, List.set_cons_succ, i64_w, i32_w]
        rfl
      refine take_ (i := 11) (N := some 16) (v := ?_) (a' := ?_) #[true, true, true, true, true, true, true, true, true, true, true, true, false, false, false, false, false] rfl rfl (take_ofW HT_.out HW_.out (by kernel_rfl)) (fun _ _ _ h => h) (Or.inl ⟨by rfl, ?_⟩) hHeld ?_ ?_
      rotate_left
      · rintro w' ⟨s0, s1, s2, s3, s4, s5, s6, s7, s8, s9, s10, s11, s12, s13, s14, s15, s16, s17, s18, s19⟩
        go_simp
        with_reducible rfl
      rotate_left
      · simp only [Act.put, List.setIfInBounds_toArray, List.set_cons_zero, List.set_cons_succ, i64_w, i32_w]
        rfl
      refine take_ (i := 12) (N := some 17) (v := ?_) (a' := ?_) #[true, true, true, true, true, true, true, true, true, true, true, true, true, false, false, false, false] rfl rfl (take_ofW HT_.out HW_.out (by kernel_rfl)) (fun _ _ _ h => h) (Or.inl ⟨by rfl, ?_⟩) hHeld ?_ ?_
      rotate_left
      · rintro w' ⟨s0, s1, s2, s3, s4, s5, s6, s7, s8, s9, s10, s11, s12, s13, s14, s15, s16, s17, s18, s19⟩
        go_simp
        with_reducible rfl
      rotate_left
      · simp only [Act.put, List.setIfInBounds_toArray, List.set_cons_zero, List.set_cons_succ, i64_w, i32_w]
        rfl
      refine one_ (i := 13) (N := some 18) #[true, true, true, true, true, true, true, true, true, true, true, true, true, true, false, false, false] rfl rfl (one_of HT_.out (by kernel_rfl)) (by decide) (fun K hK => ?_)
      refine goes_ Try.func21 (by kernel_rfl) rfl #[.agg #[.int .i64 a0_0, .int .i64 a0_1, .int .i64 a0_2, .int .i64 a0_3, .int .i64 a0_4, .slice A0_5 l0_5.length c0_5, .slice A0_6 l0_6.length c0_6, .int .i64 a0_7, .slice A0_8 l0_8.length c0_8, .slice A0_9 l0_9.length c0_9]] (by rfl) rfl rfl (by (try simp only [List.map_toArray, List.map_cons, List.map_nil]); first | done | rfl | (simp only [List.length_drop, List.length_take]; rfl)) ?_
      with_reducible refine (palimpsestlaw16_copied.calls a0_0 a0_1 a0_2 a0_3 a0_4 _ _ l0_5 _ _ l0_6 a0_7 _ _ l0_8 _ _ l0_9 t527 t528 t529 t530 t531 t532 t535 t538 t539 t542 _ ?side1 ?side2 ?side3 ?side4 ?side5 ?side6 ?side7 ?side8 A8.out).mono ?_
      (case side1 => repeat (first | exact (Kd.C_below HR0_5.out HB.out) | (with_reducible refine Kd.C_alloc ?_ _) | (with_reducible refine Kd.C_drewN ?_ _) | (with_reducible refine Kd.C_drew ?_)))
      (case side2 => exact HC0_5.out)
      (case side3 => repeat (first | exact (Kd.C_below HR0_6.out HB.out) | (with_reducible refine Kd.C_alloc ?_ _) | (with_reducible refine Kd.C_drewN ?_ _) | (with_reducible refine Kd.C_drew ?_)))
      (case side4 => exact HC0_6.out)
      (case side5 => repeat (first | exact (Kd.C_below HR0_8.out HB.out) | (with_reducible refine Kd.C_alloc ?_ _) | (with_reducible refine Kd.C_drewN ?_ _) | (with_reducible refine Kd.C_drew ?_)))
      (case side6 => exact HC0_8.out)
      (case side7 => repeat (first | exact (Kd.C_below HR0_9.out HB.out) | (with_reducible refine Kd.C_alloc ?_ _) | (with_reducible refine Kd.C_drewN ?_ _) | (with_reducible refine Kd.C_drew ?_)))
      (case side8 => exact HC0_9.out)
      rintro e w16 ⟨v533, v536, v540, v543, rfl, ho0, ho1, ho2, ho3, hb⟩
      refine ⟨_, rfl, ?_⟩
      have n0_ := Aside0.mk (Kd.R_lower ho0 (below_size (by repeat (first | (with_reducible first | exact HB.out | apply below_alloc | apply pw_below_drewN | apply below_drew1 | refine below_set ?_ GE522.out | refine below_set ?_ GE523.out) | exact HB.out))))
      have n1_ := Aside0.mk (Kd.R_lower ho1 (below_size (by repeat (first | (with_reducible first | exact HB.out | apply below_alloc | apply pw_below_drewN | apply below_drew1 | refine below_set ?_ GE522.out | refine below_set ?_ GE523.out) | exact HB.out))))
      have n2_ := Aside0.mk (Kd.R_lower ho2 (below_size (by repeat (first | (with_reducible first | exact HB.out | apply below_alloc | apply pw_below_drewN | apply below_drew1 | refine below_set ?_ GE522.out | refine below_set ?_ GE523.out) | exact HB.out))))
      have n3_ := Aside0.mk (Kd.R_lower ho3 (below_size (by repeat (first | (with_reducible first | exact HB.out | apply below_alloc | apply pw_below_drewN | apply below_drew1 | refine below_set ?_ GE522.out | refine below_set ?_ GE523.out) | exact HB.out))))
      have n4_ := Aside0.mk (blk_below (g := gb522) (o := .cells #[.int .i64 a0_0, .int .i64 a0_1, .int .i64 a0_2, .int .i64 a0_3, .int .i64 a0_4, .slice A0_5 l0_5.length c0_5, .slice A0_6 l0_6.length c0_6, .int .i64 a0_7, .slice A0_8 l0_8.length c0_8, .slice A0_9 l0_9.length c0_9] 30 (0, 0)) (by (with_reducible repeat (first | refine blk_drewN ?_ _ | refine blk_drew ?_ | refine blk_alloc ?_ _)); exact BK522.out) hb)
      have n5_ := Aside0.mk (blk_below (g := gb523) (o := .cells #[.int .i64 a1_0, .int .i64 a1_1, .int .i64 a1_2, .int .i64 a1_3, .int .i64 a1_4, .slice A1_5 l1_5.length c1_5, .slice A1_6 l1_6.length c1_6, .int .i64 a1_7, .slice A1_8 l1_8.length c1_8, .slice A1_9 l1_9.length c1_9] 30 (0, 0)) (by (with_reducible repeat (first | refine blk_drewN ?_ _ | refine blk_drew ?_ | refine blk_alloc ?_ _)); exact BK523.out) hb)
      have n6_ := Aside0.mk (below_step (by repeat (first | (with_reducible first | exact HB.out | apply below_alloc | apply pw_below_drewN | apply below_drew1 | refine below_set ?_ GE522.out | refine below_set ?_ GE523.out) | exact HB.out)) hb)
      clear BK522
      clear BK523
      clear HB
      have HO534 := n0_
      have HO537 := n1_
      have HO541 := n2_
      have HO544 := n3_
      have BK522 := n4_
      have BK523 := n5_
      have HB := n6_
      clear n0_ n1_ n2_ n3_ n4_ n5_ n6_
      (try clear hb)
      (try clear hb2)
      (try clear hk)
      (try clear hi)
      (try clear ho0)
      (try clear ho1)
      (try clear ho2)
      (try clear ho3)
      obtain ⟨Ao17, co17, eo17⟩ := Kd.R_slice HO534.out
      (first | subst eo17 | (injection eo17 with f1_ f2_ f3_; have f4_ := f1_.symm; have f5_ := f3_.symm; clear f1_ f2_ f3_; subst f4_; subst f5_))
      obtain ⟨Ao18, co18, eo18⟩ := Kd.R_slice HO537.out
      (first | subst eo18 | (injection eo18 with f1_ f2_ f3_; have f4_ := f1_.symm; have f5_ := f3_.symm; clear f1_ f2_ f3_; subst f4_; subst f5_))
      obtain ⟨Ao19, co19, eo19⟩ := Kd.R_slice HO541.out
      (first | subst eo19 | (injection eo19 with f1_ f2_ f3_; have f4_ := f1_.symm; have f5_ := f3_.symm; clear f1_ f2_ f3_; subst f4_; subst f5_))
      obtain ⟨Ao20, co20, eo20⟩ := Kd.R_slice HO544.out
      (first | subst eo20 | (injection eo20 with f1_ f2_ f3_; have f4_ := f1_.symm; have f5_ := f3_.symm; clear f1_ f2_ f3_; subst f4_; subst f5_))
      refine hK.out _ _ ⟨(blk_cell BK522.out 0).trans rfl, (blk_cell BK522.out 1).trans rfl, (blk_cell BK522.out 2).trans rfl, (blk_cell BK522.out 3).trans rfl, (blk_cell BK522.out 4).trans rfl, (blk_cell BK522.out 5).trans rfl, (blk_cell BK522.out 6).trans rfl, (blk_cell BK522.out 7).trans rfl, (blk_cell BK522.out 8).trans rfl, (blk_cell BK522.out 9).trans rfl, (blk_cell BK523.out 0).trans rfl, (blk_cell BK523.out 1).trans rfl, (blk_cell BK523.out 2).trans rfl, (blk_cell BK523.out 3).trans rfl, (blk_cell BK523.out 4).trans rfl, (blk_cell BK523.out 5).trans rfl, (blk_cell BK523.out 6).trans rfl, (blk_cell BK523.out 7).trans rfl, (blk_cell BK523.out 8).trans rfl, (blk_cell BK523.out 9).trans rfl⟩ (fun hHeld => ?_)
      clear hK K
      refine norm_ (a' := ?_) ?_ ?_
      rotate_left
      · show Act.put _ (some 18) _ = _
        simp only [Act.put, List.setIfInBounds_toArray, List.set_cons_zero, List.set_cons_succ, i64_w, i32_w]
        rfl
      refine one_ (i := 14) (N := some 19) #[true, true, true, true, true, true, true, true, true, true, true, true, true, true, true, false, false] rfl rfl (one_of HT_.out (by kernel_rfl)) (by decide) (fun K hK => ?_)
      refine goes_ Try.func19 (by kernel_rfl) rfl #[.agg #[.int .i64 a0_0, .int .i64 a0_1, .int .i64 a0_2, .int .i64 a0_3, .int .i64 a0_4, .slice A0_5 l0_5.length c0_5, .slice A0_6 l0_6.length c0_6, .int .i64 a0_7, .slice A0_8 l0_8.length c0_8, .slice A0_9 l0_9.length c0_9], .agg #[.int .i64 t527, .int .i64 t528, .int .i64 t529, .int .i64 t530, .int .i64 t531, .slice Ao17 t532.length co17, .slice Ao18 t535.length co18, .int .i64 t538, .slice Ao19 t539.length co19, .slice Ao20 t542.length co20]] (by rfl) rfl rfl (by (try simp only [List.map_toArray, List.map_cons, List.map_nil]); first | done | rfl | (simp only [List.length_drop, List.length_take]; rfl)) ?_
      with_reducible refine (record_Same.calls k a0_0 a0_1 a0_2 a0_3 a0_4 _ _ l0_5 _ _ l0_6 a0_7 _ _ l0_8 _ _ l0_9 t527 t528 t529 t530 t531 _ _ t532 _ _ t535 t538 _ _ t539 _ _ t542 t545 _ ?side1 ?side2 ?side3 ?side4 ?side5 ?side6 ?side7 ?side8 ?side9 ?side10 ?side11 ?side12 ?side13 ?side14 ?side15 ?side16 A9.out).mono ?_
      (case side1 => repeat (first | exact (Kd.C_below HR0_5.out HB.out) | (with_reducible refine Kd.C_alloc ?_ _) | (with_reducible refine Kd.C_drewN ?_ _) | (with_reducible refine Kd.C_drew ?_)))
      (case side2 => exact HC0_5.out)
      (case side3 => repeat (first | exact (Kd.C_below HR0_6.out HB.out) | (with_reducible refine Kd.C_alloc ?_ _) | (with_reducible refine Kd.C_drewN ?_ _) | (with_reducible refine Kd.C_drew ?_)))
      (case side4 => exact HC0_6.out)
      (case side5 => repeat (first | exact (Kd.C_below HR0_8.out HB.out) | (with_reducible refine Kd.C_alloc ?_ _) | (with_reducible refine Kd.C_drewN ?_ _) | (with_reducible refine Kd.C_drew ?_)))
      (case side6 => exact HC0_8.out)
      (case side7 => repeat (first | exact (Kd.C_below HR0_9.out HB.out) | (with_reducible refine Kd.C_alloc ?_ _) | (with_reducible refine Kd.C_drewN ?_ _) | (with_reducible refine Kd.C_drew ?_)))
      (case side8 => exact HC0_9.out)
      (case side9 => repeat (first | exact (Kd.R_reads' HO534.out).2.2 | (with_reducible refine Kd.C_alloc ?_ _) | (with_reducible refine Kd.C_drewN ?_ _) | (with_reducible refine Kd.C_drew ?_)))
      (case side10 => exact (Kd.R_reads' HO534.out).2.1)
      (case side11 => repeat (first | exact (Kd.R_reads' HO537.out).2.2 | (with_reducible refine Kd.C_alloc ?_ _) | (with_reducible refine Kd.C_drewN ?_ _) | (with_reducible refine Kd.C_drew ?_)))
      (case side12 => exact (Kd.R_reads' HO537.out).2.1)
      (case side13 => repeat (first | exact (Kd.R_reads' HO541.out).2.2 | (with_reducible refine Kd.C_alloc ?_ _) | (with_reducible refine Kd.C_drewN ?_ _) | (with_reducible refine Kd.C_drew ?_)))
      (case side14 => exact (Kd.R_reads' HO541.out).2.1)
      (case side15 => repeat (first | exact (Kd.R_reads' HO544.out).2.2 | (with_reducible refine Kd.C_alloc ?_ _) | (with_reducible refine Kd.C_drewN ?_ _) | (with_reducible refine Kd.C_drew ?_)))
      (case side16 => exact (Kd.R_reads' HO544.out).2.1)
      rintro e w21 ⟨rfl, hb⟩
      refine ⟨_, rfl, ?_⟩
      have n0_ := Aside0.mk (Kd.R_below (by (with_reducible repeat (first | apply Kd.R_alloc | apply Kd.R_drewN | apply Kd.R_drew)); exact HO534.out) hb)
      have n1_ := Aside0.mk (Kd.R_below (by (with_reducible repeat (first | apply Kd.R_alloc | apply Kd.R_drewN | apply Kd.R_drew)); exact HO537.out) hb)
      have n2_ := Aside0.mk (Kd.R_below (by (with_reducible repeat (first | apply Kd.R_alloc | apply Kd.R_drewN | apply Kd.R_drew)); exact HO541.out) hb)
      have n3_ := Aside0.mk (Kd.R_below (by (with_reducible repeat (first | apply Kd.R_alloc | apply Kd.R_drewN | apply Kd.R_drew)); exact HO544.out) hb)
      have n4_ := Aside0.mk (blk_below (g := gb522) (o := .cells #[.int .i64 a0_0, .int .i64 a0_1, .int .i64 a0_2, .int .i64 a0_3, .int .i64 a0_4, .slice A0_5 l0_5.length c0_5, .slice A0_6 l0_6.length c0_6, .int .i64 a0_7, .slice A0_8 l0_8.length c0_8, .slice A0_9 l0_9.length c0_9] 30 (0, 0)) (by (with_reducible repeat (first | refine blk_drewN ?_ _ | refine blk_drew ?_ | refine blk_alloc ?_ _)); exact BK522.out) hb)
      have n5_ := Aside0.mk (blk_below (g := gb523) (o := .cells #[.int .i64 a1_0, .int .i64 a1_1, .int .i64 a1_2, .int .i64 a1_3, .int .i64 a1_4, .slice A1_5 l1_5.length c1_5, .slice A1_6 l1_6.length c1_6, .int .i64 a1_7, .slice A1_8 l1_8.length c1_8, .slice A1_9 l1_9.length c1_9] 30 (0, 0)) (by (with_reducible repeat (first | refine blk_drewN ?_ _ | refine blk_drew ?_ | refine blk_alloc ?_ _)); exact BK523.out) hb)
      have n6_ := Aside0.mk (below_step (by repeat (first | (with_reducible first | exact HB.out | apply below_alloc | apply pw_below_drewN | apply below_drew1 | refine below_set ?_ GE522.out | refine below_set ?_ GE523.out) | exact HB.out)) hb)
      clear HO534
      clear HO537
      clear HO541
      clear HO544
      clear BK522
      clear BK523
      clear HB
      have HO534 := n0_
      have HO537 := n1_
      have HO541 := n2_
      have HO544 := n3_
      have BK522 := n4_
      have BK523 := n5_
      have HB := n6_
      clear n0_ n1_ n2_ n3_ n4_ n5_ n6_
      (try clear hb)
      (try clear hb2)
      (try clear hk)
      (try clear hi)
      refine hK.out _ _ ⟨(blk_cell BK522.out 0).trans rfl, (blk_cell BK522.out 1).trans rfl, (blk_cell BK522.out 2).trans rfl, (blk_cell BK522.out 3).trans rfl, (blk_cell BK522.out 4).trans rfl, (blk_cell BK522.out 5).trans rfl, (blk_cell BK522.out 6).trans rfl, (blk_cell BK522.out 7).trans rfl, (blk_cell BK522.out 8).trans rfl, (blk_cell BK522.out 9).trans rfl, (blk_cell BK523.out 0).trans rfl, (blk_cell BK523.out 1).trans rfl, (blk_cell BK523.out 2).trans rfl, (blk_cell BK523.out 3).trans rfl, (blk_cell BK523.out 4).trans rfl, (blk_cell BK523.out 5).trans rfl, (blk_cell BK523.out 6).trans rfl, (blk_cell BK523.out 7).trans rfl, (blk_cell BK523.out 8).trans rfl, (blk_cell BK523.out 9).trans rfl⟩ (fun hHeld => ?_)
      clear hK K
      refine norm_ (a' := ?_) ?_ ?_
      rotate_left
      · show Act.put _ (some 19) _ = _
        simp only [Act.put, List.setIfInBounds_toArray, List.set_cons_zero, List.set_cons_succ, i64_w, i32_w]
        rfl
      refine pure_ (i := 15) (N := some 20) (v := ?_) (a' := ?_) #[true, true, true, true, true, true, true, true, true, true, true, true, true, true, true, true, false] rfl rfl (any_of HT_.out (by kernel_rfl)) (fun _ _ _ h => h) (Or.inl ⟨by rfl, ?_⟩) ?_ ?_
      rotate_left
      · intro w'
        go_simp
        with_reducible rfl
      rotate_left
      · simp only [Act.put, List.setIfInBounds_toArray, List.set_cons_zero, List.set_cons_succ, i64_w, i32_w]
        rfl
      refine pure_ (i := 16) (N := some 4) (v := ?_) (a' := ?_) #[true, true, true, true, true, true, true, true, true, true, true, true, true, true, true, true, true] rfl rfl (any_of HT_.out (by kernel_rfl)) (fun _ _ _ h => h) (Or.inl ⟨by rfl, ?_⟩) ?_ ?_
      rotate_left
      · intro w'
        go_simp
        with_reducible rfl
      rotate_left
      · simp only [Act.put, List.setIfInBounds_toArray, List.set_cons_zero, List.set_cons_succ, i64_w, i32_w]
        rfl
      refine done_ (done_of HT_.out (by kernel_rfl)) ?_
      try go_wp2
      go_ret
      exact ⟨by first | rfl | (simp [errW_none, errW_some] <;> rfl) | (simp [*, errW_none, errW_some] <;> rfl), by repeat (first | (with_reducible first | exact HB.out | apply below_alloc | apply pw_below_drewN | apply below_drew1 | refine below_set ?_ GE522.out | refine below_set ?_ GE523.out) | exact HB.out)⟩
    · rw [if_neg c7] at H
      have c7b0 : (t525 == t526) = false := by simpa using c7
      (try (have c7b1 : decide (t525 = t526) = false := by simpa using c7))
      (try (have c7b2 : (t525 == t526) = false := by simpa using c7))
      (try (have c7b3 : ¬ (t525 = t526) := by simpa using c7))
      clear c7
      obtain rfl := Option.some.inj H
      go_enter Try.func5, Try.ntmps5
      try go_wp2_with (first | ((with_reducible refine gate_dst (N := 2) rfl ?_); refine box_event ?hg (N := 2) ?hd (cs := #[.int .i64 a0_0, .int .i64 a0_1, .int .i64 a0_2, .int .i64 a0_3, .int .i64 a0_4, .slice A0_5 l0_5.length c0_5, .slice A0_6 l0_6.length c0_6, .int .i64 a0_7, .slice A0_8 l0_8.length c0_8, .slice A0_9 l0_9.length c0_9]) (t := 30) ?hr ?_; (case hd => rfl); (case hg => rfl); (case hr => first | (go_simp; done) | (go_simp; rfl)); intro gb522 hg w22 hbox hb; have n0_ := Aside0.mk (below_step (by repeat (first | (with_reducible first | exact HB.out | apply below_alloc | apply pw_below_drewN | apply below_drew1) | exact HB.out)) hb); have n1_ := Aside0.mk (hbox); have n2_ := Aside0.mk ((by rw [hg]; exact (below_size (by repeat (first | (with_reducible first | exact HB.out | apply below_alloc | apply pw_below_drewN | apply below_drew1) | exact HB.out))) : w.heap.size ≤ gb522)); have n3_ := Aside0.mk ((by rw [hg]; exact (below_size (by repeat (first | (with_reducible first | exact HB.out | apply below_alloc | apply pw_below_drewN | apply below_drew1) | exact HB.out))) : w.heap.size ≤ gb522)); clear HB; have HB := n0_; have BK522 := n1_; have GW522 := n2_; have GE522 := n3_; clear n0_ n1_ n2_ n3_; clear hb hbox hg) | ((with_reducible refine gate_dst (N := 3) rfl ?_); refine box_event ?hg (N := 3) ?hd (cs := #[.int .i64 a1_0, .int .i64 a1_1, .int .i64 a1_2, .int .i64 a1_3, .int .i64 a1_4, .slice A1_5 l1_5.length c1_5, .slice A1_6 l1_6.length c1_6, .int .i64 a1_7, .slice A1_8 l1_8.length c1_8, .slice A1_9 l1_9.length c1_9]) (t := 30) ?hr ?_; (case hd => rfl); (case hg => rfl); (case hr => first | (go_simp; done) | (go_simp; rfl)); intro gb523 hg w23 hbox hb; have n0_ := Aside0.mk (blk_below (g := gb522) (o := .cells #[.int .i64 a0_0, .int .i64 a0_1, .int .i64 a0_2, .int .i64 a0_3, .int .i64 a0_4, .slice A0_5 l0_5.length c0_5, .slice A0_6 l0_6.length c0_6, .int .i64 a0_7, .slice A0_8 l0_8.length c0_8, .slice A0_9 l0_9.length c0_9] 30 (0, 0)) (by (with_reducible repeat (first | refine blk_drewN ?_ _ | refine blk_drew ?_ | refine blk_alloc ?_ _)); exact BK522.out) hb); have n1_ := Aside0.mk (below_step (by repeat (first | (with_reducible first | exact HB.out | apply below_alloc | apply pw_below_drewN | apply below_drew1 | refine below_set ?_ GE522.out) | exact HB.out)) hb); have n2_ := Aside0.mk (hbox); have n3_ := Aside0.mk ((by rw [hg]; exact (below_size (by repeat (first | (with_reducible first | exact HB.out | apply below_alloc | apply pw_below_drewN | apply below_drew1 | refine below_set ?_ GE522.out) | exact HB.out))) : w.heap.size ≤ gb523)); have n4_ := Aside0.mk ((by rw [hg]; exact (below_size (by repeat (first | (with_reducible first | exact HB.out | apply below_alloc | apply pw_below_drewN | apply below_drew1 | refine below_set ?_ GE522.out) | exact HB.out))) : w.heap.size ≤ gb523)); have n5_ := Aside0.mk ((by rw [hg]; exact Nat.ne_of_lt (blk_lt (g := gb522) (o := .cells #[.int .i64 a0_0, .int .i64 a0_1, .int .i64 a0_2, .int .i64 a0_3, .int .i64 a0_4, .slice A0_5 l0_5.length c0_5, .slice A0_6 l0_6.length c0_6, .int .i64 a0_7, .slice A0_8 l0_8.length c0_8, .slice A0_9 l0_9.length c0_9] 30 (0, 0)) (by (with_reducible repeat (first | refine blk_drewN ?_ _ | refine blk_drew ?_ | refine blk_alloc ?_ _)); exact BK522.out)) : gb522 ≠ gb523)); have n6_ := Aside0.mk ((by rw [hg]; exact Nat.ne_of_gt (blk_lt (g := gb522) (o := .cells #[.int .i64 a0_0, .int .i64 a0_1, .int .i64 a0_2, .int .i64 a0_3, .int .i64 a0_4, .slice A0_5 l0_5.length c0_5, .slice A0_6 l0_6.length c0_6, .int .i64 a0_7, .slice A0_8 l0_8.length c0_8, .slice A0_9 l0_9.length c0_9] 30 (0, 0)) (by (with_reducible repeat (first | refine blk_drewN ?_ _ | refine blk_drew ?_ | refine blk_alloc ?_ _)); exact BK522.out)) : gb523 ≠ gb522)); clear BK522; clear HB; have BK522 := n0_; have HB := n1_; have BK523 := n2_; have GW523 := n3_; have GE523 := n4_; have NB522_523 := n5_; have NB523_522 := n6_; clear n0_ n1_ n2_ n3_ n4_ n5_ n6_; clear hb hbox hg))
      have n0_ := Aside0.mk (blk_drew BK522.out)
      have n1_ := Aside0.mk (blk_drew BK523.out)
      have n2_ := Aside0.mk (below_drew1 HB.out)
      clear BK522
      clear BK523
      clear HB
      have BK522 := n0_
      have BK523 := n1_
      have HB := n2_
      clear n0_ n1_ n2_
      refine start_ (n := 17) (S := fun w' => w'.cell? ⟨gb522, 0, none⟩ = some (.int .i64 a0_0) ∧ w'.cell? ⟨gb522, 1, none⟩ = some (.int .i64 a0_1) ∧ w'.cell? ⟨gb522, 2, none⟩ = some (.int .i64 a0_2) ∧ w'.cell? ⟨gb522, 3, none⟩ = some (.int .i64 a0_3) ∧ w'.cell? ⟨gb522, 4, none⟩ = some (.int .i64 a0_4) ∧ w'.cell? ⟨gb522, 5, none⟩ = some (.slice A0_5 l0_5.length c0_5) ∧ w'.cell? ⟨gb522, 6, none⟩ = some (.slice A0_6 l0_6.length c0_6) ∧ w'.cell? ⟨gb522, 7, none⟩ = some (.int .i64 a0_7) ∧ w'.cell? ⟨gb522, 8, none⟩ = some (.slice A0_8 l0_8.length c0_8) ∧ w'.cell? ⟨gb522, 9, none⟩ = some (.slice A0_9 l0_9.length c0_9) ∧ w'.cell? ⟨gb523, 0, none⟩ = some (.int .i64 a1_0) ∧ w'.cell? ⟨gb523, 1, none⟩ = some (.int .i64 a1_1) ∧ w'.cell? ⟨gb523, 2, none⟩ = some (.int .i64 a1_2) ∧ w'.cell? ⟨gb523, 3, none⟩ = some (.int .i64 a1_3) ∧ w'.cell? ⟨gb523, 4, none⟩ = some (.int .i64 a1_4) ∧ w'.cell? ⟨gb523, 5, none⟩ = some (.slice A1_5 l1_5.length c1_5) ∧ w'.cell? ⟨gb523, 6, none⟩ = some (.slice A1_6 l1_6.length c1_6) ∧ w'.cell? ⟨gb523, 7, none⟩ = some (.int .i64 a1_7) ∧ w'.cell? ⟨gb523, 8, none⟩ = some (.slice A1_8 l1_8.length c1_8) ∧ w'.cell? ⟨gb523, 9, none⟩ = some (.slice A1_9 l1_9.length c1_9)) (ds := []) #[false, false, false, false, false, false, false, false, false, false, false, false, false, false, false, false, false] (by kernel_rfl) rfl rfl ⟨(blk_cell BK522.out 0).trans rfl, (blk_cell BK522.out 1).trans rfl, (blk_cell BK522.out 2).trans rfl, (blk_cell BK522.out 3).trans rfl, (blk_cell BK522.out 4).trans rfl, (blk_cell BK522.out 5).trans rfl, (blk_cell BK522.out 6).trans rfl, (blk_cell BK522.out 7).trans rfl, (blk_cell BK522.out 8).trans rfl, (blk_cell BK522.out 9).trans rfl, (blk_cell BK523.out 0).trans rfl, (blk_cell BK523.out 1).trans rfl, (blk_cell BK523.out 2).trans rfl, (blk_cell BK523.out 3).trans rfl, (blk_cell BK523.out 4).trans rfl, (blk_cell BK523.out 5).trans rfl, (blk_cell BK523.out 6).trans rfl, (blk_cell BK523.out 7).trans rfl, (blk_cell BK523.out 8).trans rfl, (blk_cell BK523.out 9).trans rfl⟩ (fun hHeld => ?_); refine with_tabW palimpsestlaw16_RecordSames.tab1 palimpsestlaw16_RecordSames.bits1 (fun HT_ HW_ => ?_)
      generalize w23.drew = w24 at BK522 BK523 HB hHeld ⊢
      refine one_ (i := 0) (N := some 5) #[true, false, false, false, false, false, false, false, false, false, false, false, false, false, false, false, false] rfl rfl (one_of HT_.out (by kernel_rfl)) (by decide) (fun K hK => ?_)
      refine goes_ Try.func10 (by kernel_rfl) rfl #[] (by rfl) rfl rfl (by (try simp only [List.map_toArray, List.map_cons, List.map_nil]); first | done | rfl | (simp only [List.length_drop, List.length_take]; rfl)) ?_
      with_reducible refine (palimpsestlaw16_alive.calls k  true _ A3.out).mono ?_
      rintro e w25 ⟨rfl, hb⟩
      refine ⟨_, rfl, ?_⟩
      have n0_ := Aside0.mk (blk_below (g := gb522) (o := .cells #[.int .i64 a0_0, .int .i64 a0_1, .int .i64 a0_2, .int .i64 a0_3, .int .i64 a0_4, .slice A0_5 l0_5.length c0_5, .slice A0_6 l0_6.length c0_6, .int .i64 a0_7, .slice A0_8 l0_8.length c0_8, .slice A0_9 l0_9.length c0_9] 30 (0, 0)) (by (with_reducible repeat (first | refine blk_drewN ?_ _ | refine blk_drew ?_ | refine blk_alloc ?_ _)); exact BK522.out) hb)
      have n1_ := Aside0.mk (blk_below (g := gb523) (o := .cells #[.int .i64 a1_0, .int .i64 a1_1, .int .i64 a1_2, .int .i64 a1_3, .int .i64 a1_4, .slice A1_5 l1_5.length c1_5, .slice A1_6 l1_6.length c1_6, .int .i64 a1_7, .slice A1_8 l1_8.length c1_8, .slice A1_9 l1_9.length c1_9] 30 (0, 0)) (by (with_reducible repeat (first | refine blk_drewN ?_ _ | refine blk_drew ?_ | refine blk_alloc ?_ _)); exact BK523.out) hb)
      have n2_ := Aside0.mk (below_step (by repeat (first | (with_reducible first | exact HB.out | apply below_alloc | apply pw_below_drewN | apply below_drew1 | refine below_set ?_ GE522.out | refine below_set ?_ GE523.out) | exact HB.out)) hb)
      clear BK522
      clear BK523
      clear HB
      have BK522 := n0_
      have BK523 := n1_
      have HB := n2_
      clear n0_ n1_ n2_
      (try clear hb)
      (try clear hb2)
      (try clear hk)
      (try clear hi)
      refine hK.out _ _ ⟨(blk_cell BK522.out 0).trans rfl, (blk_cell BK522.out 1).trans rfl, (blk_cell BK522.out 2).trans rfl, (blk_cell BK522.out 3).trans rfl, (blk_cell BK522.out 4).trans rfl, (blk_cell BK522.out 5).trans rfl, (blk_cell BK522.out 6).trans rfl, (blk_cell BK522.out 7).trans rfl, (blk_cell BK522.out 8).trans rfl, (blk_cell BK522.out 9).trans rfl, (blk_cell BK523.out 0).trans rfl, (blk_cell BK523.out 1).trans rfl, (blk_cell BK523.out 2).trans rfl, (blk_cell BK523.out 3).trans rfl, (blk_cell BK523.out 4).trans rfl, (blk_cell BK523.out 5).trans rfl, (blk_cell BK523.out 6).trans rfl, (blk_cell BK523.out 7).trans rfl, (blk_cell BK523.out 8).trans rfl, (blk_cell BK523.out 9).trans rfl⟩ (fun hHeld => ?_)
      clear hK K
      refine norm_ (a' := ?_) ?_ ?_
      rotate_left
      · show Act.put _ (some 5) _ = _
        simp only [Act.put, List.setIfInBounds_toArray, List.set_cons_zero, List.set_cons_succ, i64_w, i32_w]
        rfl
      refine pure_ (i := 1) (N := some 6) (v := ?_) (a' := ?_) #[true, true, false, false, false, false, false, false, false, false, false, false, false, false, false, false, false] rfl rfl (any_of HT_.out (by kernel_rfl)) (fun _ _ _ h => h) (Or.inl ⟨by rfl, ?_⟩) ?_ ?_
      rotate_left
      · intro w'
        go_simp
        with_reducible rfl
      rotate_left
      · simp only [Act.put, List.setIfInBounds_toArray, List.set_cons_zero, List.set_cons_succ, i64_w, i32_w]
        rfl
      refine take_ (i := 2) (N := some 7) (v := ?_) (a' := ?_) #[true, true, true, false, false, false, false, false, false, false, false, false, false, false, false, false, false] rfl rfl (take_ofW HT_.out HW_.out (by kernel_rfl)) (fun _ _ _ h => h) (Or.inl ⟨by rfl, ?_⟩) hHeld ?_ ?_
      rotate_left
      · rintro w' ⟨s0, s1, s2, s3, s4, s5, s6, s7, s8, s9, s10, s11, s12, s13, s14, s15, s16, s17, s18, s19⟩
        go_simp
        with_reducible rfl
      rotate_left
      · simp only [Act.put, List.setIfInBounds_toArray, List.set_cons_zero, List.set_cons_succ, i64_w, i32_w]
        rfl
      refine take_ (i := 3) (N := some 8) (v := ?_) (a' := ?_) #[true, true, true, true, false, false, false, false, false, false, false, false, false, false, false, false, false] rfl rfl (take_ofW HT_.out HW_.out (by kernel_rfl)) (fun _ _ _ h => h) (Or.inl ⟨by rfl, ?_⟩) hHeld ?_ ?_
      rotate_left
      · rintro w' ⟨s0, s1, s2, s3, s4, s5, s6, s7, s8, s9, s10, s11, s12, s13, s14, s15, s16, s17, s18, s19⟩
        go_simp
        with_reducible rfl
      rotate_left
      · simp only [Act.put, List.setIfInBounds_toArray, List.set_cons_zero, List.set_cons_succ, i64_w, i32_w]
        rfl
      refine take_ (i := 5) (N := some 10) (v := ?_) (a' := ?_) #[true, true, true, true, false, true, false, false, false, false, false, false, false, false, false, false, false] rfl rfl (take_ofW HT_.out HW_.out (by kernel_rfl)) (fun _ _ _ h => h) (Or.inl ⟨by rfl, ?_⟩) hHeld ?_ ?_
      rotate_left
      · rintro w' ⟨s0, s1, s2, s3, s4, s5, s6, s7, s8, s9, s10, s11, s12, s13, s14, s15, s16, s17, s18, s19⟩
        go_simp
        with_reducible rfl
      rotate_left
      · simp only [Act.put, List.setIfInBounds_toArray, List.set_cons_zero, List.set_cons_succ, i64_w, i32_w]
        rfl
      refine take_ (i := 6) (N := some 11) (v := ?_) (a' := ?_) #[true, true, true, true, false, true, true, false, false, false, false, false, false, false, false, false, false] rfl rfl (take_ofW HT_.out HW_.out (by kernel_rfl)) (fun _ _ _ h => h) (Or.inl ⟨by rfl, ?_⟩) hHeld ?_ ?_
      rotate_left
      · rintro w' ⟨s0, s1, s2, s3, s4, s5, s6, s7, s8, s9, s10, s11, s12, s13, s14, s15, s16, s17, s18, s19⟩
        go_simp
        with_reducible rfl
      rotate_left
      · simp only [Act.put, List.setIfInBounds_toArray, List.set_cons_zero, List.set_cons_succ, i64_w, i32_w]
        rfl
      refine one_ (i := 4) (N := some 9) #[true, true, true, true, true, true, true, false, false, false, false, false, false, false, false, false, false] rfl rfl (one_of HT_.out (by kernel_rfl)) (by decide) (fun K hK => ?_)
      refine goes_ Try.func19 (by kernel_rfl) rfl #[.agg #[.int .i64 a0_0, .int .i64 a0_1, .int .i64 a0_2, .int .i64 a0_3, .int .i64 a0_4, .slice A0_5 l0_5.length c0_5, .slice A0_6 l0_6.length c0_6, .int .i64 a0_7, .slice A0_8 l0_8.length c0_8, .slice A0_9 l0_9.length c0_9], .agg #[.int .i64 a1_0, .int .i64 a1_1, .int .i64 a1_2, .int .i64 a1_3, .int .i64 a1_4, .slice A1_5 l1_5.length c1_5, .slice A1_6 l1_6.length c1_6, .int .i64 a1_7, .slice A1_8 l1_8.length c1_8, .slice A1_9 l1_9.length c1_9]] (by rfl) rfl rfl (by (try simp only [List.map_toArray, List.map_cons, List.map_nil]); first | done | rfl | (simp only [List.length_drop, List.length_take]; rfl)) ?_
      with_reducible refine (record_Same.calls k a0_0 a0_1 a0_2 a0_3 a0_4 _ _ l0_5 _ _ l0_6 a0_7 _ _ l0_8 _ _ l0_9 a1_0 a1_1 a1_2 a1_3 a1_4 _ _ l1_5 _ _ l1_6 a1_7 _ _ l1_8 _ _ l1_9 t525 _ ?side1 ?side2 ?side3 ?side4 ?side5 ?side6 ?side7 ?side8 ?side9 ?side10 ?side11 ?side12 ?side13 ?side14 ?side15 ?side16 A5.out).mono ?_
      (case side1 => repeat (first | exact (Kd.C_below HR0_5.out HB.out) | (with_reducible refine Kd.C_alloc ?_ _) | (with_reducible refine Kd.C_drewN ?_ _) | (with_reducible refine Kd.C_drew ?_)))
      (case side2 => exact HC0_5.out)
      (case side3 => repeat (first | exact (Kd.C_below HR0_6.out HB.out) | (with_reducible refine Kd.C_alloc ?_ _) | (with_reducible refine Kd.C_drewN ?_ _) | (with_reducible refine Kd.C_drew ?_)))
      (case side4 => exact HC0_6.out)
      (case side5 => repeat (first | exact (Kd.C_below HR0_8.out HB.out) | (with_reducible refine Kd.C_alloc ?_ _) | (with_reducible refine Kd.C_drewN ?_ _) | (with_reducible refine Kd.C_drew ?_)))
      (case side6 => exact HC0_8.out)
      (case side7 => repeat (first | exact (Kd.C_below HR0_9.out HB.out) | (with_reducible refine Kd.C_alloc ?_ _) | (with_reducible refine Kd.C_drewN ?_ _) | (with_reducible refine Kd.C_drew ?_)))
      (case side8 => exact HC0_9.out)
      (case side9 => repeat (first | exact (Kd.C_below HR1_5.out HB.out) | (with_reducible refine Kd.C_alloc ?_ _) | (with_reducible refine Kd.C_drewN ?_ _) | (with_reducible refine Kd.C_drew ?_)))
      (case side10 => exact HC1_5.out)
      (case side11 => repeat (first | exact (Kd.C_below HR1_6.out HB.out) | (with_reducible refine Kd.C_alloc ?_ _) | (with_reducible refine Kd.C_drewN ?_ _) | (with_reducible refine Kd.C_drew ?_)))
      (case side12 => exact HC1_6.out)
      (case side13 => repeat (first | exact (Kd.C_below HR1_8.out HB.out) | (with_reducible refine Kd.C_alloc ?_ _) | (with_reducible refine Kd.C_drewN ?_ _) | (with_reducible refine Kd.C_drew ?_)))
      (case side14 => exact HC1_8.out)
      (case side15 => repeat (first | exact (Kd.C_below HR1_9.out HB.out) | (with_reducible refine Kd.C_alloc ?_ _) | (with_reducible refine Kd.C_drewN ?_ _) | (with_reducible refine Kd.C_drew ?_)))
      (case side16 => exact HC1_9.out)
      rintro e w26 ⟨rfl, hb⟩
      refine ⟨_, rfl, ?_⟩
      have n0_ := Aside0.mk (blk_below (g := gb522) (o := .cells #[.int .i64 a0_0, .int .i64 a0_1, .int .i64 a0_2, .int .i64 a0_3, .int .i64 a0_4, .slice A0_5 l0_5.length c0_5, .slice A0_6 l0_6.length c0_6, .int .i64 a0_7, .slice A0_8 l0_8.length c0_8, .slice A0_9 l0_9.length c0_9] 30 (0, 0)) (by (with_reducible repeat (first | refine blk_drewN ?_ _ | refine blk_drew ?_ | refine blk_alloc ?_ _)); exact BK522.out) hb)
      have n1_ := Aside0.mk (blk_below (g := gb523) (o := .cells #[.int .i64 a1_0, .int .i64 a1_1, .int .i64 a1_2, .int .i64 a1_3, .int .i64 a1_4, .slice A1_5 l1_5.length c1_5, .slice A1_6 l1_6.length c1_6, .int .i64 a1_7, .slice A1_8 l1_8.length c1_8, .slice A1_9 l1_9.length c1_9] 30 (0, 0)) (by (with_reducible repeat (first | refine blk_drewN ?_ _ | refine blk_drew ?_ | refine blk_alloc ?_ _)); exact BK523.out) hb)
      have n2_ := Aside0.mk (below_step (by repeat (first | (with_reducible first | exact HB.out | apply below_alloc | apply pw_below_drewN | apply below_drew1 | refine below_set ?_ GE522.out | refine below_set ?_ GE523.out) | exact HB.out)) hb)
      clear BK522
      clear BK523
      clear HB
      have BK522 := n0_
      have BK523 := n1_
      have HB := n2_
      clear n0_ n1_ n2_
      (try clear hb)
      (try clear hb2)
      (try clear hk)
      (try clear hi)
      refine hK.out _ _ ⟨(blk_cell BK522.out 0).trans rfl, (blk_cell BK522.out 1).trans rfl, (blk_cell BK522.out 2).trans rfl, (blk_cell BK522.out 3).trans rfl, (blk_cell BK522.out 4).trans rfl, (blk_cell BK522.out 5).trans rfl, (blk_cell BK522.out 6).trans rfl, (blk_cell BK522.out 7).trans rfl, (blk_cell BK522.out 8).trans rfl, (blk_cell BK522.out 9).trans rfl, (blk_cell BK523.out 0).trans rfl, (blk_cell BK523.out 1).trans rfl, (blk_cell BK523.out 2).trans rfl, (blk_cell BK523.out 3).trans rfl, (blk_cell BK523.out 4).trans rfl, (blk_cell BK523.out 5).trans rfl, (blk_cell BK523.out 6).trans rfl, (blk_cell BK523.out 7).trans rfl, (blk_cell BK523.out 8).trans rfl, (blk_cell BK523.out 9).trans rfl⟩ (fun hHeld => ?_)
      clear hK K
      refine norm_ (a' := ?_) ?_ ?_
      rotate_left
      · show Act.put _ (some 9) _ = _
        simp only [Act.put, List.setIfInBounds_toArray, List.set_cons_zero, List.set_cons_succ, i64_w, i32_w]
        rfl
      refine one_ (i := 7) (N := some 12) #[true, true, true, true, true, true, true, true, false, false, false, false, false, false, false, false, false] rfl rfl (one_of HT_.out (by kernel_rfl)) (by decide) (fun K hK => ?_)
      refine goes_ Try.func14 (by kernel_rfl) rfl #[.agg #[.int .i64 a0_0, .int .i64 a0_1, .int .i64 a0_2, .int .i64 a0_3, .int .i64 a0_4, .slice A0_5 l0_5.length c0_5, .slice A0_6 l0_6.length c0_6, .int .i64 a0_7, .slice A0_8 l0_8.length c0_8, .slice A0_9 l0_9.length c0_9], .agg #[.int .i64 a1_0, .int .i64 a1_1, .int .i64 a1_2, .int .i64 a1_3, .int .i64 a1_4, .slice A1_5 l1_5.length c1_5, .slice A1_6 l1_6.length c1_6, .int .i64 a1_7, .slice A1_8 l1_8.length c1_8, .slice A1_9 l1_9.length c1_9]] (by rfl) rfl rfl (by (try simp only [List.map_toArray, List.map_cons, List.map_nil]); first | done | rfl | (simp only [List.length_drop, List.length_take]; rfl)) ?_
      with_reducible refine (palimpsestref16_Same.calls k a0_0 a0_1 a0_2 a0_3 a0_4 _ _ l0_5 _ _ l0_6 a0_7 _ _ l0_8 _ _ l0_9 a1_0 a1_1 a1_2 a1_3 a1_4 _ _ l1_5 _ _ l1_6 a1_7 _ _ l1_8 _ _ l1_9 t526 _ ?side1 ?side2 ?side3 ?side4 ?side5 ?side6 ?side7 ?side8 ?side9 ?side10 ?side11 ?side12 ?side13 ?side14 ?side15 ?side16 A6.out).mono ?_
      (case side1 => repeat (first | exact (Kd.C_below HR0_5.out HB.out) | (with_reducible refine Kd.C_alloc ?_ _) | (with_reducible refine Kd.C_drewN ?_ _) | (with_reducible refine Kd.C_drew ?_)))
      (case side2 => exact HC0_5.out)
      (case side3 => repeat (first | exact (Kd.C_below HR0_6.out HB.out) | (with_reducible refine Kd.C_alloc ?_ _) | (with_reducible refine Kd.C_drewN ?_ _) | (with_reducible refine Kd.C_drew ?_)))
      (case side4 => exact HC0_6.out)
      (case side5 => repeat (first | exact (Kd.C_below HR0_8.out HB.out) | (with_reducible refine Kd.C_alloc ?_ _) | (with_reducible refine Kd.C_drewN ?_ _) | (with_reducible refine Kd.C_drew ?_)))
      (case side6 => exact HC0_8.out)
      (case side7 => repeat (first | exact (Kd.C_below HR0_9.out HB.out) | (with_reducible refine Kd.C_alloc ?_ _) | (with_reducible refine Kd.C_drewN ?_ _) | (with_reducible refine Kd.C_drew ?_)))
      (case side8 => exact HC0_9.out)
      (case side9 => repeat (first | exact (Kd.C_below HR1_5.out HB.out) | (with_reducible refine Kd.C_alloc ?_ _) | (with_reducible refine Kd.C_drewN ?_ _) | (with_reducible refine Kd.C_drew ?_)))
      (case side10 => exact HC1_5.out)
      (case side11 => repeat (first | exact (Kd.C_below HR1_6.out HB.out) | (with_reducible refine Kd.C_alloc ?_ _) | (with_reducible refine Kd.C_drewN ?_ _) | (with_reducible refine Kd.C_drew ?_)))
      (case side12 => exact HC1_6.out)
      (case side13 => repeat (first | exact (Kd.C_below HR1_8.out HB.out) | (with_reducible refine Kd.C_alloc ?_ _) | (with_reducible refine Kd.C_drewN ?_ _) | (with_reducible refine Kd.C_drew ?_)))
      (case side14 => exact HC1_8.out)
      (case side15 => repeat (first | exact (Kd.C_below HR1_9.out HB.out) | (with_reducible refine Kd.C_alloc ?_ _) | (with_reducible refine Kd.C_drewN ?_ _) | (with_reducible refine Kd.C_drew ?_)))
      (case side16 => exact HC1_9.out)
      rintro e w27 ⟨rfl, hb⟩
      refine ⟨_, rfl, ?_⟩
      have n0_ := Aside0.mk (blk_below (g := gb522) (o := .cells #[.int .i64 a0_0, .int .i64 a0_1, .int .i64 a0_2, .int .i64 a0_3, .int .i64 a0_4, .slice A0_5 l0_5.length c0_5, .slice A0_6 l0_6.length c0_6, .int .i64 a0_7, .slice A0_8 l0_8.length c0_8, .slice A0_9 l0_9.length c0_9] 30 (0, 0)) (by (with_reducible repeat (first | refine blk_drewN ?_ _ | refine blk_drew ?_ | refine blk_alloc ?_ _)); exact BK522.out) hb)
      have n1_ := Aside0.mk (blk_below (g := gb523) (o := .cells #[.int .i64 a1_0, .int .i64 a1_1, .int .i64 a1_2, .int .i64 a1_3, .int .i64 a1_4, .slice A1_5 l1_5.length c1_5, .slice A1_6 l1_6.length c1_6, .int .i64 a1_7, .slice A1_8 l1_8.length c1_8, .slice A1_9 l1_9.length c1_9] 30 (0, 0)) (by (with_reducible repeat (first | refine blk_drewN ?_ _ | refine blk_drew ?_ | refine blk_alloc ?_ _)); exact BK523.out) hb)
      have n2_ := Aside0.mk (below_step (by repeat (first | (with_reducible first | exact HB.out | apply below_alloc | apply pw_below_drewN | apply below_drew1 | refine below_set ?_ GE522.out | refine below_set ?_ GE523.out) | exact HB.out)) hb)
      clear BK522
      clear BK523
      clear HB
      have BK522 := n0_
      have BK523 := n1_
      have HB := n2_
      clear n0_ n1_ n2_
      (try clear hb)
      (try clear hb2)
      (try clear hk)
      (try clear hi)
      refine hK.out _ _ ⟨(blk_cell BK522.out 0).trans rfl, (blk_cell BK522.out 1).trans rfl, (blk_cell BK522.out 2).trans rfl, (blk_cell BK522.out 3).trans rfl, (blk_cell BK522.out 4).trans rfl, (blk_cell BK522.out 5).trans rfl, (blk_cell BK522.out 6).trans rfl, (blk_cell BK522.out 7).trans rfl, (blk_cell BK522.out 8).trans rfl, (blk_cell BK522.out 9).trans rfl, (blk_cell BK523.out 0).trans rfl, (blk_cell BK523.out 1).trans rfl, (blk_cell BK523.out 2).trans rfl, (blk_cell BK523.out 3).trans rfl, (blk_cell BK523.out 4).trans rfl, (blk_cell BK523.out 5).trans rfl, (blk_cell BK523.out 6).trans rfl, (blk_cell BK523.out 7).trans rfl, (blk_cell BK523.out 8).trans rfl, (blk_cell BK523.out 9).trans rfl⟩ (fun hHeld => ?_)
      clear hK K
      refine norm_ (a' := ?_) ?_ ?_
      rotate_left
      · show Act.put _ (some 12) _ = _
        simp only [Act.put, List.setIfInBounds_toArray, List.set_cons_zero, List.set_cons_succ, i64_w, i32_w]
        rfl
      refine pure_ (i := 8) (N := some 13) (v := ?_) (a' := ?_) #[true, true, true, true, true, true, true, true, true, false, false, false, false, false, false, false, false] rfl rfl (any_of HT_.out (by kernel_rfl)) (fun _ _ _ h => h) (Or.inl ⟨by rfl, ?_⟩) ?_ ?_
      rotate_left
      · intro w'
        go_simp
        with_reducible rfl
      rotate_left
      · simp only [Act.put, List.setIfInBounds_toArray, List.set_cons_zero, List.set_cons_succ, i64_w, i32_w]
        rfl
      refine pure_ (i := 9) (N := some 14) (v := ?_) (a' := ?_) #[true, true, true, true, true, true, true, true, true, true, false, false, false, false, false, false, false] rfl rfl (any_of HT_.out (by kernel_rfl)) (fun _ _ _ h => h) (Or.inl ⟨by rfl, ?_⟩) ?_ ?_
      rotate_left
      · intro w'
        go_simp
        with_reducible rfl
      rotate_left
      · simp only [Act.put, List.setIfInBounds_toArray, List.set_cons_zero, List.set_cons_succ, i64_w, i32_w]
        rfl
      refine pure_ (i := 10) (N := some 15) (v := ?_) (a' := ?_) #[true, true, true, true, true, true, true, true, true, true, true, false, false, false, false, false, false] rfl rfl (any_of HT_.out (by kernel_rfl)) (fun _ _ _ h => h) (Or.inl ⟨by rfl, ?_⟩) ?_ ?_
      rotate_left
      · intro w'
        go_simp
        with_reducible rfl
      rotate_left
      · simp only [Act.put, List.setIfInBounds_toArray, List.set_cons_zero, List.set_cons_succ, i64_w, i32_w]
        rfl
      refine pure_ (i := 11) (N := some 16) (v := undef) (a' := ?_) #[true, true, true, true, true, true, true, true, true, true, true, true, false, false, false, false, false] rfl rfl (any_of HT_.out (by kernel_rfl)) (fun _ _ _ h => h) (Or.inr ⟨by rfl, rfl⟩) ?_ ?_
      rotate_left
      · simp only [Act.put, List.setIfInBounds_toArray, List.set_cons_zero, List.set_cons_succ, i64_w, i32_w]
        rfl
      refine pure_ (i := 12) (N := some 17) (v := undef) (a' := ?_) #[true, true, true, true, true, true, true, true, true, true, true, true, true, false, false, false, false] rfl rfl (any_of HT_.out (by kernel_rfl)) (fun _ _ _ h => h) (Or.inr ⟨by rfl, rfl⟩) ?_ ?_
      rotate_left
      · simp only [Act.put, List.setIfInBounds_toArray, List.set_cons_zero, List.set_cons_succ, i64_w, i32_w]
        rfl
      refine pure_ (i := 13) (N := some 18) (v := undef) (a' := ?_) #[true, true, true, true, true, true, true, true, true, true, true, true, true, true, false, false, false] rfl rfl (any_of HT_.out (by kernel_rfl)) (fun _ _ _ h => h) (Or.inr ⟨by rfl, rfl⟩) ?_ ?_
      rotate_left
      · simp only [Act.put, List.setIfInBounds_toArray, List.set_cons_zero, List.set_cons_succ, i64_w, i32_w]
        rfl
      refine pure_ (i := 14) (N := some 19) (v := undef) (a' := ?_) #[true, true, true, true, true, true, true, true, true, true, true, true, true, true, true, false, false] rfl rfl (any_of HT_.out (by kernel_rfl)) (fun _ _ _ h => h) (Or.inr ⟨by rfl, rfl⟩) ?_ ?_
      rotate_left
      · simp only [Act.put, List.setIfInBounds_toArray, List.set_cons_zero, List.set_cons_succ, i64_w, i32_w]
        rfl
      refine pure_ (i := 15) (N := some 20) (v := ?_) (a' := ?_) #[true, true, true, true, true, true, true, true, true, true, true, true, true, true, true, true, false] rfl rfl (any_of HT_.out (by kernel_rfl)) (fun _ _ _ h => h) (Or.inl ⟨by rfl, ?_⟩) ?_ ?_
      rotate_left
      · intro w'
        go_simp
        with_reducible rfl
      rotate_left
      · simp only [Act.put, List.setIfInBounds_toArray, List.set_cons_zero, List.set_cons_succ, i64_w, i32_w]
        rfl
      refine pure_ (i := 16) (N := some 4) (v := ?_) (a' := ?_) #[true, true, true, true, true, true, true, true, true, true, true, true, true, true, true, true, true] rfl rfl (any_of HT_.out (by kernel_rfl)) (fun _ _ _ h => h) (Or.inl ⟨by rfl, ?_⟩) ?_ ?_
      rotate_left
      · intro w'
        go_simp
        with_reducible rfl
      rotate_left
      · simp only [Act.put, List.setIfInBounds_toArray, List.set_cons_zero, List.set_cons_succ, i64_w, i32_w]
        rfl
      refine done_ (done_of HT_.out (by kernel_rfl)) ?_
      try go_wp2
      go_ret
      exact ⟨by first | rfl | (simp [errW_none, errW_some] <;> rfl) | (simp [*, errW_none, errW_some] <;> rfl), by repeat (first | (with_reducible first | exact HB.out | apply below_alloc | apply pw_below_drewN | apply below_drew1 | refine below_set ?_ GE522.out | refine below_set ?_ GE523.out) | exact HB.out)⟩
  · replace c4 := Bool.eq_false_iff.mpr c4
    subst c4
    have H1 : (some false) = some r := by rw [if_neg (show ¬ (false = true) by decide)] at H; exact H
    clear H
    have H := H1
    clear H1
    obtain rfl := Option.some.inj H
    go_enter Try.func5, Try.ntmps5
    try go_wp2_with (first | ((with_reducible refine gate_dst (N := 2) rfl ?_); refine box_event ?hg (N := 2) ?hd (cs := #[.int .i64 a0_0, .int .i64 a0_1, .int .i64 a0_2, .int .i64 a0_3, .int .i64 a0_4, .slice A0_5 l0_5.length c0_5, .slice A0_6 l0_6.length c0_6, .int .i64 a0_7, .slice A0_8 l0_8.length c0_8, .slice A0_9 l0_9.length c0_9]) (t := 30) ?hr ?_; (case hd => rfl); (case hg => rfl); (case hr => first | (go_simp; done) | (go_simp; rfl)); intro gb522 hg w28 hbox hb; have n0_ := Aside0.mk (below_step (by repeat (first | (with_reducible first | exact HB.out | apply below_alloc | apply pw_below_drewN | apply below_drew1) | exact HB.out)) hb); have n1_ := Aside0.mk (hbox); have n2_ := Aside0.mk ((by rw [hg]; exact (below_size (by repeat (first | (with_reducible first | exact HB.out | apply below_alloc | apply pw_below_drewN | apply below_drew1) | exact HB.out))) : w.heap.size ≤ gb522)); have n3_ := Aside0.mk ((by rw [hg]; exact (below_size (by repeat (first | (with_reducible first | exact HB.out | apply below_alloc | apply pw_below_drewN | apply below_drew1) | exact HB.out))) : w.heap.size ≤ gb522)); clear HB; have HB := n0_; have BK522 := n1_; have GW522 := n2_; have GE522 := n3_; clear n0_ n1_ n2_ n3_; clear hb hbox hg) | ((with_reducible refine gate_dst (N := 3) rfl ?_); refine box_event ?hg (N := 3) ?hd (cs := #[.int .i64 a1_0, .int .i64 a1_1, .int .i64 a1_2, .int .i64 a1_3, .int .i64 a1_4, .slice A1_5 l1_5.length c1_5, .slice A1_6 l1_6.length c1_6, .int .i64 a1_7, .slice A1_8 l1_8.length c1_8, .slice A1_9 l1_9.length c1_9]) (t := 30) ?hr ?_; (case hd => rfl); (case hg => rfl); (case hr => first | (go_simp; done) | (go_simp; rfl)); intro gb523 hg w29 hbox hb; have n0_ := Aside0.mk (blk_below (g := gb522) (o := .cells #[.int .i64 a0_0, .int .i64 a0_1, .int .i64 a0_2, .int .i64 a0_3, .int .i64 a0_4, .slice A0_5 l0_5.length c0_5, .slice A0_6 l0_6.length c0_6, .int .i64 a0_7, .slice A0_8 l0_8.length c0_8, .slice A0_9 l0_9.length c0_9] 30 (0, 0)) (by (with_reducible repeat (first | refine blk_drewN ?_ _ | refine blk_drew ?_ | refine blk_alloc ?_ _)); exact BK522.out) hb); have n1_ := Aside0.mk (below_step (by repeat (first | (with_reducible first | exact HB.out | apply below_alloc | apply pw_below_drewN | apply below_drew1 | refine below_set ?_ GE522.out) | exact HB.out)) hb); have n2_ := Aside0.mk (hbox); have n3_ := Aside0.mk ((by rw [hg]; exact (below_size (by repeat (first | (with_reducible first | exact HB.out | apply below_alloc | apply pw_below_drewN | apply below_drew1 | refine below_set ?_ GE522.out) | exact HB.out))) : w.heap.size ≤ gb523)); have n4_ := Aside0.mk ((by rw [hg]; exact (below_size (by repeat (first | (with_reducible first | exact HB.out | apply below_alloc | apply pw_below_drewN | apply below_drew1 | refine below_set ?_ GE522.out) | exact HB.out))) : w.heap.size ≤ gb523)); have n5_ := Aside0.mk ((by rw [hg]; exact Nat.ne_of_lt (blk_lt (g := gb522) (o := .cells #[.int .i64 a0_0, .int .i64 a0_1, .int .i64 a0_2, .int .i64 a0_3, .int .i64 a0_4, .slice A0_5 l0_5.length c0_5, .slice A0_6 l0_6.length c0_6, .int .i64 a0_7, .slice A0_8 l0_8.length c0_8, .slice A0_9 l0_9.length c0_9] 30 (0, 0)) (by (with_reducible repeat (first | refine blk_drewN ?_ _ | refine blk_drew ?_ | refine blk_alloc ?_ _)); exact BK522.out)) : gb522 ≠ gb523)); have n6_ := Aside0.mk ((by rw [hg]; exact Nat.ne_of_gt (blk_lt (g := gb522) (o := .cells #[.int .i64 a0_0, .int .i64 a0_1, .int .i64 a0_2, .int .i64 a0_3, .int .i64 a0_4, .slice A0_5 l0_5.length c0_5, .slice A0_6 l0_6.length c0_6, .int .i64 a0_7, .slice A0_8 l0_8.length c0_8, .slice A0_9 l0_9.length c0_9] 30 (0, 0)) (by (with_reducible repeat (first | refine blk_drewN ?_ _ | refine blk_drew ?_ | refine blk_alloc ?_ _)); exact BK522.out)) : gb523 ≠ gb522)); clear BK522; clear HB; have BK522 := n0_; have HB := n1_; have BK523 := n2_; have GW523 := n3_; have GE523 := n4_; have NB522_523 := n5_; have NB523_522 := n6_; clear n0_ n1_ n2_ n3_ n4_ n5_ n6_; clear hb hbox hg))
    have n0_ := Aside0.mk (blk_drew BK522.out)
    have n1_ := Aside0.mk (blk_drew BK523.out)
    have n2_ := Aside0.mk (below_drew1 HB.out)
    clear BK522
    clear BK523
    clear HB
    have BK522 := n0_
    have BK523 := n1_
    have HB := n2_
    clear n0_ n1_ n2_
    refine start_ (n := 17) (S := fun w' => True) (ds := []) #[false, false, false, false, false, false, false, false, false, false, false, false, false, false, false, false, false] (by kernel_rfl) rfl rfl trivial (fun hHeld => ?_); refine with_tabW palimpsestlaw16_RecordSames.tab1 palimpsestlaw16_RecordSames.bits1 (fun HT_ HW_ => ?_)
    generalize w29.drew = w30 at BK522 BK523 HB hHeld ⊢
    refine one_ (i := 0) (N := some 5) #[true, false, false, false, false, false, false, false, false, false, false, false, false, false, false, false, false] rfl rfl (one_of HT_.out (by kernel_rfl)) (by decide) (fun K hK => ?_)
    refine goes_ Try.func10 (by kernel_rfl) rfl #[] (by rfl) rfl rfl (by (try simp only [List.map_toArray, List.map_cons, List.map_nil]); first | done | rfl | (simp only [List.length_drop, List.length_take]; rfl)) ?_
    with_reducible refine (palimpsestlaw16_alive.calls k  false _ A3.out).mono ?_
    rintro e w31 ⟨rfl, hb⟩
    refine ⟨_, rfl, ?_⟩
    have n0_ := Aside0.mk (blk_below (g := gb522) (o := .cells #[.int .i64 a0_0, .int .i64 a0_1, .int .i64 a0_2, .int .i64 a0_3, .int .i64 a0_4, .slice A0_5 l0_5.length c0_5, .slice A0_6 l0_6.length c0_6, .int .i64 a0_7, .slice A0_8 l0_8.length c0_8, .slice A0_9 l0_9.length c0_9] 30 (0, 0)) (by (with_reducible repeat (first | refine blk_drewN ?_ _ | refine blk_drew ?_ | refine blk_alloc ?_ _)); exact BK522.out) hb)
    have n1_ := Aside0.mk (blk_below (g := gb523) (o := .cells #[.int .i64 a1_0, .int .i64 a1_1, .int .i64 a1_2, .int .i64 a1_3, .int .i64 a1_4, .slice A1_5 l1_5.length c1_5, .slice A1_6 l1_6.length c1_6, .int .i64 a1_7, .slice A1_8 l1_8.length c1_8, .slice A1_9 l1_9.length c1_9] 30 (0, 0)) (by (with_reducible repeat (first | refine blk_drewN ?_ _ | refine blk_drew ?_ | refine blk_alloc ?_ _)); exact BK523.out) hb)
    have n2_ := Aside0.mk (below_step (by repeat (first | (with_reducible first | exact HB.out | apply below_alloc | apply pw_below_drewN | apply below_drew1 | refine below_set ?_ GE522.out | refine below_set ?_ GE523.out) | exact HB.out)) hb)
    clear BK522
    clear BK523
    clear HB
    have BK522 := n0_
    have BK523 := n1_
    have HB := n2_
    clear n0_ n1_ n2_
    (try clear hb)
    (try clear hb2)
    (try clear hk)
    (try clear hi)
    refine hK.out _ _ trivial (fun hHeld => ?_)
    clear hK K
    refine norm_ (a' := ?_) ?_ ?_
    rotate_left
    · show Act.put _ (some 5) _ = _
      simp only [Act.put, List.setIfInBounds_toArray, List.set_cons_zero, List.set_cons_succ, i64_w, i32_w]
      rfl
    refine pure_ (i := 1) (N := some 6) (v := ?_) (a' := ?_) #[true, true, false, false, false, false, false, false, false, false, false, false, false, false, false, false, false] rfl rfl (any_of HT_.out (by kernel_rfl)) (fun _ _ _ h => h) (Or.inl ⟨by rfl, ?_⟩) ?_ ?_
    rotate_left
    · intro w'
      go_simp
      with_reducible rfl
    rotate_left
    · simp only [Act.put, List.setIfInBounds_toArray, List.set_cons_zero, List.set_cons_succ, i64_w, i32_w]
      rfl
    refine pure_ (i := 2) (N := some 7) (v := undef) (a' := ?_) #[true, true, true, false, false, false, false, false, false, false, false, false, false, false, false, false, false] rfl rfl (any_of HT_.out (by kernel_rfl)) (fun _ _ _ h => h) (Or.inr ⟨by rfl, rfl⟩) ?_ ?_
    rotate_left
    · simp only [Act.put, List.setIfInBounds_toArray, List.set_cons_zero, List.set_cons_succ, i64_w, i32_w]
      rfl
    refine pure_ (i := 3) (N := some 8) (v := undef) (a' := ?_) #[true, true, true, true, false, false, false, false, false, false, false, false, false, false, false, false, false] rfl rfl (any_of HT_.out (by kernel_rfl)) (fun _ _ _ h => h) (Or.inr ⟨by rfl, rfl⟩) ?_ ?_
    rotate_left
    · simp only [Act.put, List.setIfInBounds_toArray, List.set_cons_zero, List.set_cons_succ, i64_w, i32_w]
      rfl
    refine pure_ (i := 4) (N := some 9) (v := undef) (a' := ?_) #[true, true, true, true, true, false, false, false, false, false, false, false, false, false, false, false, false] rfl rfl (any_of HT_.out (by kernel_rfl)) (fun _ _ _ h => h) (Or.inr ⟨by rfl, rfl⟩) ?_ ?_
    rotate_left
    · simp only [Act.put, List.setIfInBounds_toArray, List.set_cons_zero, List.set_cons_succ, i64_w, i32_w]
      rfl
    refine pure_ (i := 5) (N := some 10) (v := undef) (a' := ?_) #[true, true, true, true, true, true, false, false, false, false, false, false, false, false, false, false, false] rfl rfl (any_of HT_.out (by kernel_rfl)) (fun _ _ _ h => h) (Or.inr ⟨by rfl, rfl⟩) ?_ ?_
    rotate_left
    · simp only [Act.put, List.setIfInBounds_toArray, List.set_cons_zero, List.set_cons_succ, i64_w, i32_w]
      rfl
    refine pure_ (i := 6) (N := some 11) (v := undef) (a' := ?_) #[true, true, true, true, true, true, true, false, false, false, false, false, false, false, false, false, false] rfl rfl (any_of HT_.out (by kernel_rfl)) (fun _ _ _ h => h) (Or.inr ⟨by rfl, rfl⟩) ?_ ?_
    rotate_left
    · simp only [Act.put, List.setIfInBounds_toArray, List.set_cons_zero, List.set_cons_succ, i64_w, i32_w]
      rfl
    refine pure_ (i := 7) (N := some 12) (v := undef) (a' := ?_) #[true, true, true, true, true, true, true, true, false, false, false, false, false, false, false, false, false] rfl rfl (any_of HT_.out (by kernel_rfl)) (fun _ _ _ h => h) (Or.inr ⟨by rfl, rfl⟩) ?_ ?_
    rotate_left
    · simp only [Act.put, List.setIfInBounds_toArray, List.set_cons_zero, List.set_cons_succ, i64_w, i32_w]
      rfl
    refine pure_ (i := 8) (N := some 13) (v := undef) (a' := ?_) #[true, true, true, true, true, true, true, true, true, false, false, false, false, false, false, false, false] rfl rfl (any_of HT_.out (by kernel_rfl)) (fun _ _ _ h => h) (Or.inr ⟨by rfl, rfl⟩) ?_ ?_
    rotate_left
    · simp only [Act.put, List.setIfInBounds_toArray, List.set_cons_zero, List.set_cons_succ, i64_w, i32_w]
      rfl
    refine pure_ (i := 9) (N := some 14) (v := ?_) (a' := ?_) #[true, true, true, true, true, true, true, true, true, true, false, false, false, false, false, false, false] rfl rfl (any_of HT_.out (by kernel_rfl)) (fun _ _ _ h => h) (Or.inl ⟨by rfl, ?_⟩) ?_ ?_
    rotate_left
    · intro w'
      go_simp
      with_reducible rfl
    rotate_left
    · simp only [Act.put, List.setIfInBounds_toArray, List.set_cons_zero, List.set_cons_succ, i64_w, i32_w]
      rfl
    refine pure_ (i := 10) (N := some 15) (v := ?_) (a' := ?_) #[true, true, true, true, true, true, true, true, true, true, true, false, false, false, false, false, false] rfl rfl (any_of HT_.out (by kernel_rfl)) (fun _ _ _ h => h) (Or.inl ⟨by rfl, ?_⟩) ?_ ?_
    rotate_left
    · intro w'
      go_simp
      with_reducible rfl
    rotate_left
    · simp only [Act.put, List.setIfInBounds_toArray, List.set_cons_zero, List.set_cons_succ, i64_w, i32_w]
      rfl
    refine pure_ (i := 11) (N := some 16) (v := undef) (a' := ?_) #[true, true, true, true, true, true, true, true, true, true, true, true, false, false, false, false, false] rfl rfl (any_of HT_.out (by kernel_rfl)) (fun _ _ _ h => h) (Or.inr ⟨by rfl, rfl⟩) ?_ ?_
    rotate_left
    · simp only [Act.put, List.setIfInBounds_toArray, List.set_cons_zero, List.set_cons_succ, i64_w, i32_w]
      rfl
    refine pure_ (i := 12) (N := some 17) (v := undef) (a' := ?_) #[true, true, true, true, true, true, true, true, true, true, true, true, true, false, false, false, false] rfl rfl (any_of HT_.out (by kernel_rfl)) (fun _ _ _ h => h) (Or.inr ⟨by rfl, rfl⟩) ?_ ?_
    rotate_left
    · simp only [Act.put, List.setIfInBounds_toArray, List.set_cons_zero, List.set_cons_succ, i64_w, i32_w]
      rfl
    refine pure_ (i := 13) (N := some 18) (v := undef) (a' := ?_) #[true, true, true, true, true, true, true, true, true, true, true, true, true, true, false, false, false] rfl rfl (any_of HT_.out (by kernel_rfl)) (fun _ _ _ h => h) (Or.inr ⟨by rfl, rfl⟩) ?_ ?_
    rotate_left
    · simp only [Act.put, List.setIfInBounds_toArray, List.set_cons_zero, List.set_cons_succ, i64_w, i32_w]
      rfl
    refine pure_ (i := 14) (N := some 19) (v := undef) (a' := ?_) #[true, true, true, true, true, true, true, true, true, true, true, true, true, true, true, false, false] rfl rfl (any_of HT_.out (by kernel_rfl)) (fun _ _ _ h => h) (Or.inr ⟨by rfl, rfl⟩) ?_ ?_
    rotate_left
    · simp only [Act.put, List.setIfInBounds_toArray, List.set_cons_zero, List.set_cons_succ, i64_w, i32_w]
      rfl
    refine pure_ (i := 15) (N := some 20) (v := ?_) (a' := ?_) #[true, true, true, true, true, true, true, true, true, true, true, true, true, true, true, true, false] rfl rfl (any_of HT_.out (by kernel_rfl)) (fun _ _ _ h => h) (Or.inl ⟨by rfl, ?_⟩) ?_ ?_
    rotate_left
    · intro w'
      go_simp
      with_reducible rfl
    rotate_left
    · simp only [Act.put, List.setIfInBounds_toArray, List.set_cons_zero, List.set_cons_succ, i64_w, i32_w]
      rfl
    refine pure_ (i := 16) (N := some 4) (v := ?_) (a' := ?_) #[true, true, true, true, true, true, true, true, true, true, true, true, true, true, true, true, true] rfl rfl (any_of HT_.out (by kernel_rfl)) (fun _ _ _ h => h) (Or.inl ⟨by rfl, ?_⟩) ?_ ?_
    rotate_left
    · intro w'
      go_simp
      with_reducible rfl
    rotate_left
    · simp only [Act.put, List.setIfInBounds_toArray, List.set_cons_zero, List.set_cons_succ, i64_w, i32_w]
      rfl
    refine done_ (done_of HT_.out (by kernel_rfl)) ?_
    try go_wp2
    go_ret
    exact ⟨by first | rfl | (simp [errW_none, errW_some] <;> rfl) | (simp [*, errW_none, errW_some] <;> rfl), by repeat (first | (with_reducible first | exact HB.out | apply below_alloc | apply pw_below_drewN | apply below_drew1 | refine below_set ?_ GE522.out | refine below_set ?_ GE523.out) | exact HB.out)⟩
end Go.Proofs.Ytcplblpmgajmnaa.A
namespace Go.Proofs.Ytcplblpmgajmnaa.A
open Go.RowKit Go.Proofs.YtcplblpmgajmnaaW.PrintWords Go.Proofs.YtcplblpmgajmnaaW.PrintLast Go.Proofs.YtcplblpmgajmnaaW.PrintMore
set_option linter.unusedVariables false
set_option linter.unusedSimpArgs false
theorem copied_f {r : Rec} (h : r.Wide) : palimpsestlaw16_copied.f r.k r.t r.p r.g r.o r.args r.imgs r.n r.di r.ac = some (r.k, r.t, r.p, r.g, r.o, r.args, r.imgs, r.n, r.di, r.ac) := by
  unfold palimpsestlaw16_copied.f
  have h1 := h.largs
  have h2 := h.limgs
  have h3 := h.ldi
  have h4 := h.lac
  simp only [Option.bind_some, List.length_nil, Nat.zero_add, List.nil_append]
  rw [if_pos h1, if_pos h2, if_pos h3, if_pos h4]
theorem rec_eq_iff (r s : Rec) : (r.k = s.k ∧ r.t = s.t ∧ r.p = s.p ∧ r.g = s.g ∧ r.o = s.o ∧ r.args = s.args ∧ r.imgs = s.imgs ∧ r.n = s.n ∧ r.di = s.di ∧ r.ac = s.ac) ↔ r = s :=
  ⟨fun ⟨h0, h1, h2, h3, h4, h5, h6, h7, h8, h9⟩ => rec_ext h0 h1 h2 h3 h4 h7 h5 h6 h8 h9, fun h => by subst h; exact ⟨rfl, rfl, rfl, rfl, rfl, rfl, rfl, rfl, rfl, rfl⟩⟩
theorem recsame_f {r s : Rec} (h : r.Wide) : record_Same.f (r.many + 1) r.k r.t r.p r.g r.o r.args r.imgs r.n r.di r.ac s.k s.t s.p s.g s.o s.args s.imgs s.n s.di s.ac = some (decide (r = s)) := by
  have h1 := h.largs
  have h2 := h.limgs
  have h3 := h.ldi
  have h4 := h.lac
  unfold Rec.many
  rw [same_f _ _ _ _ _ _ _ _ _ _ _ _ _ _ _ _ _ _ _ _ (by omega) (by omega) (by omega) (by omega) _ (by omega) (by omega) (by omega) (by omega), Option.some.injEq, decide_eq_decide]
  exact rec_eq_iff r s
theorem sames_walk (w : World) (r : Rec) (a : Lies) (s : Rec) (b : Lies) (h : RIn w r a) (hw : r.Wide) (h' : RIn w s b) (hw' : s.Wide) : Calls Try.prog 5 #[.agg (r.cells a), .agg (s.cells b)] w fun e w' => e = .returned (.bool true) ∧ Below w.heap.size w w' := by
  refine palimpsestlaw16_RecordSames.calls (r.many + 1) r.k r.t r.p r.g r.o _ _ r.args _ _ r.imgs r.n _ _ r.di _ _ r.ac s.k s.t s.p s.g s.o _ _ s.args _ _ s.imgs s.n _ _ s.di _ _ s.ac true w h.C5 h.L5 h.C6 h.L6 h.C8 h.L8 h.C9 h.L9 h'.C5 h'.L5 h'.C6 h'.L6 h'.C8 h'.L8 h'.C9 h'.L9 ?_
  unfold palimpsestlaw16_RecordSames.f palimpsestlaw16_alive.f palimpsestref16_Same.f
  rw [Option.bind_some, if_pos rfl, recsame_f hw, Option.bind_some, Option.bind_some, if_pos (beq_iff_eq.mpr rfl), copied_f hw, Option.bind_some]
  show (record_Same.f (r.many + 1) r.k r.t r.p r.g r.o r.args r.imgs r.n r.di r.ac r.k r.t r.p r.g r.o r.args r.imgs r.n r.di r.ac).bind _ = _
  rw [recsame_f hw, Option.bind_some, decide_eq_true rfl]
end Go.Proofs.Ytcplblpmgajmnaa.A
namespace Go.Proofs.Ytcplblpmgajmnaa.recordSames
open Go.ChangeShapes Go.WideShapes Go.ChangeAt Go.RowKit Go.Proofs.Ytcplblpmgajmnaa.A
open Go.ChangeMaps (open_string shut_string)
set_option linter.unusedVariables false
theorem own : ownKnob Try.prog.godebug = none := by kernel_rfl
theorem laidOut : laidOutB Try.prog = true := by kernel_rfl
set_option maxRecDepth 100000 in
theorem lifted (os : Os) (started : os.Started) (H : Type) (enc : TypeId × Value → H) :
    ReturnsInHanded {} Try.checked os 5 .any (Rows.recordSamesSpec.pre6 enc Try.prog Try.f5 Rows.recordSamesRow.domain false) (Rows.recordSamesSpec.post enc Try.prog Try.f5 false true false false) := by
  refine returnsInHanded_of_change_sized (C := Try.checked) own started (by kernel_rfl) Try.func5
    (ChangeSpec.witness6 (enc := enc) (C := Try.checked) false ⟨#[], #[.agg #[.int .i64 0, .int .i64 0, .int .i64 0, .int .i64 0, .int .i64 0, .slice none 0 0, .slice none 0 0, .int .i64 0, .slice none 0 0, .slice none 0 0], .agg #[.int .i64 0, .int .i64 0, .int .i64 0, .int .i64 0, .int .i64 0, .slice none 0 0, .slice none 0 0, .int .i64 0, .slice none 0 0, .slice none 0 0]], []⟩ 8 (by kernel_rfl) (by kernel_rfl) (by kernel_rfl) (by kernel_rfl)) ?_
  intro W base args ds gs before hval0 hW hcnd hsz0 _
  have hsz : (DataW.weightsEach Try.prog (Try.f5.params.toList ++ Rows.recordSamesSpec.plain.varTypes Try.prog) (ds ++ gs)).all (· ≤ reachBytes) = true := hsz0
  have hval : ∀ (j : Nat) t v, Try.f5.params[j]? = some t → args[j]? = some v → Value.okWide Try.prog W .any base t v := hval0
  have hW' := hW
  obtain ⟨p, q, hA0, hV, rfl, hfz, hnd⟩ := hW
  have hA : DataW.TrodAll enc Try.prog W 0 (fun _ => true) true Try.f5.params.toList args.toList ds p := hA0
  rw [Try.params5] at hA hval hsz
  obtain ⟨v0, vs0, d0, ds0, p0, q0, hargs, rfl, rfl, h0, r_0⟩ := trodAll_cons hA
  obtain ⟨v1, vs1, d1, ds1, p1, q1, rfl, rfl, rfl, h1, r_1⟩ := trodAll_cons r_0
  obtain ⟨rfl, rfl, rfl⟩ := trodAll_nil r_1
  obtain rfl : args = #[v0, v1] := by cases args; simp_all
  obtain ⟨rfl, rfl⟩ := trodVars_none hV
  have t0 := h0
  have lt0 : ∀ x ∈ p0, x.block < W.heap.size := by obtain ⟨m, hm⟩ := t0; exact DataW.trod_lt m _ _ _ hm
  have wz0 : ∀ n ∈ d0.weights Try.prog 30, n ≤ reachBytes := fun n hn => by have := List.all_eq_true.1 hsz n (DataW.weights_mem_each (j := 0) rfl rfl n hn); simpa using this
  obtain ⟨r0, b0, rfl, i0, g0⟩ := open_record (hval 0 30 v0 rfl rfl) h0 wz0
  have t1 := h1
  have lt1 : ∀ x ∈ p1, x.block < W.heap.size := by obtain ⟨m, hm⟩ := t1; exact DataW.trod_lt m _ _ _ hm
  have wz1 : ∀ n ∈ d1.weights Try.prog 30, n ≤ reachBytes := fun n hn => by have := List.all_eq_true.1 hsz n (DataW.weights_mem_each (j := 1) rfl rfl n hn); simpa using this
  obtain ⟨r1, b1, rfl, i1, g1⟩ := open_record (hval 1 30 v1 rfl rfl) h1 wz1
  clear hA0 hval0 hsz0 hsz
  refine (A.sames_walk W r0 b0 r1 b1 i0 g0 i1 g1).mono fun e W' ⟨he, bel⟩ => ?_
  subst he
  exact ⟨_, rfl, _, _, _, [], _, [], hW', trodAll_mk1 (shut_bool Try.underlying4 _), (trodAll_cons_mk (Below.trod laidOut (by kernel_rfl) (of_decide_eq_true (by kernel_rfl)) t0 bel lt0) (trodAll_cons_mk (Below.trod laidOut (by kernel_rfl) (of_decide_eq_true (by kernel_rfl)) t1 bel lt1) trodAll_mk0)), rfl, bel.frame _, fun h => by cases h⟩
theorem over : Rows.recordSamesRow.holds Try.pinned (OpenSpec.ofChange Rows.recordSamesSpec) :=
  OpenClaim.holds_of_wide 5 Try.f5 rfl rfl rfl rfl rfl rfl rfl ⟨rfl, rfl, rfl, rfl, rfl⟩ rfl rfl rfl rfl rfl (by kernel_rfl) Try.func5 (by kernel_rfl)
    (of_decide_eq_true (by kernel_rfl)) (by unfold Func.isWrapper; first | (rw [if_pos (by decide +kernel)]; kernel_rfl) | (rw [if_neg (by decide +kernel)]; exact ⟨rfl, rfl⟩))
    (fun os started H enc _ => lifted os started H enc)
theorem proved : Rows.RecordSamesSaid := over
end Go.Proofs.Ytcplblpmgajmnaa.recordSames
namespace Go.Proofs.Ytcplblpmgajmnaa
theorem recordSames_holds : Rows.RecordSamesSaid := recordSames.proved
end Go.Proofs.Ytcplblpmgajmnaa
