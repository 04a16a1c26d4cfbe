/-
  The law RecordForms answers true, without a panic, at every input: which records are in form, and what bytes they have, as the document answers. No condition beside those of the given row.
  Joined by wip/prune.py out of: HRefSame, HRoom, AxF15, AxF21, HForms, LForms.
-/
import Derived.Test.YtcplblpmgajmnaaBeLForms1
import Derived.Test.YtcplblpmgajmnaaRows
import Derived.WalkKit
import Derived.ProofKit
import Derived.OpenShut
import Derived.ShutString
import Derived.ChangeOld
import Derived.Below
import Derived.SizedLaws
namespace Go.Proofs.Ytcplblpmgajmnaa.A
open Go.RowKit Go.Proofs.YtcplblpmgajmnaaW.PrintWords Go.Proofs.YtcplblpmgajmnaaW.PrintLast Go.Proofs.YtcplblpmgajmnaaW.PrintMore
attribute [local go_sem high] eqA52 eqA54 eqA56
set_option linter.unusedVariables false
set_option linter.unusedSimpArgs false
theorem rec_ext {r s : Rec} (h0 : r.k = s.k) (h1 : r.t = s.t) (h2 : r.p = s.p) (h3 : r.g = s.g) (h4 : r.o = s.o) (h7 : r.n = s.n) (h5 : r.args = s.args) (h6 : r.imgs = s.imgs) (h8 : r.di = s.di) (h9 : r.ac = s.ac) : r = s := by
 cases r
 cases s
 simp only at *
 subst h0 h1 h2 h3 h4 h5 h6 h7 h8 h9
 rfl
theorem list_ext {α : Type} {z : α} {l m : List α} (hl : l.length = m.length) (h : ∀ j, j < l.length → l.getD j z = m.getD j z) : l = m := by
 refine List.ext_getElem hl fun j h1 h2 => ?_
 have := h j h1
 rwa [List.getD_eq_getElem?_getD, List.getD_eq_getElem?_getD, List.getElem?_eq_getElem h1, List.getElem?_eq_getElem h2] at this
theorem all_next {P : Nat → Prop} {i : Nat} (h : ∀ j, j < i → P j) (hi : P i) : ∀ j, j < i + 1 → P j := fun j hj => by
 rcases Nat.lt_or_ge j i with h1 | h1
 ·exact h j h1
 ·obtain rfl : i = j := by omega
  exact hi
set_option maxHeartbeats 8000000 in
set_option maxRecDepth 100000 in
theorem refsame_c {r s : Rec} {a b : Lies} {w : World} (h : RIn w r a) (h' : RIn w s b) : Calls Try.prog 14 #[.agg (r.cells a), .agg (s.cells b)] w fun e w' => e = .returned (.bool (decide (r = s))) ∧ Below w.heap.size w w' := by
 have hu30 := Try.underlying30
 have hu52 := Try.underlying52
 have hu54 := Try.underlying54
 have hu56 := Try.underlying56
 obtain ⟨A5, c5, A6, c6, A8, c8, A9, c9⟩ := a
 obtain ⟨B5, e5, B6, e6, B8, e8, B9, e9⟩ := b
 have HI := Aside0.mk h
 have HJ := Aside0.mk h'
 clear h h'
 obtain ⟨q, hq⟩ : ∃ q, decide (r = s) = q := ⟨_, rfl⟩
 rw [hq]
 replace hq := Lib.hid hq
 unfold Rec.cells
 go_enter Try.func14, Try.ntmps14

 by_cases g_k : r.k = s.k
 rotate_left
 ·have b_k : (r.k != s.k) = true := bne_iff_ne.mpr g_k
  have G := Lib.hid g_k
  clear g_k
  obtain rfl : false = q := by rw [← hq.out]; exact (decide_eq_false (fun e => G.out (by rw [e]))).symm
  go_wp2
  go_ret
  exact ⟨rfl, below_alloc (below_alloc (Below.refl _ _) _) _⟩
 have b_k : (r.k != s.k) = false := bne_eq_false_iff_eq.mpr g_k
 replace g_k := Lib.hid g_k
 by_cases g_t : r.t = s.t
 rotate_left
 ·have b_t : (r.t != s.t) = true := bne_iff_ne.mpr g_t
  have G := Lib.hid g_t
  clear g_t
  obtain rfl : false = q := by rw [← hq.out]; exact (decide_eq_false (fun e => G.out (by rw [e]))).symm
  go_wp2
  go_ret
  exact ⟨rfl, below_alloc (below_alloc (Below.refl _ _) _) _⟩
 have b_t : (r.t != s.t) = false := bne_eq_false_iff_eq.mpr g_t
 replace g_t := Lib.hid g_t
 by_cases g_p : r.p = s.p
 rotate_left
 ·have b_p : (r.p != s.p) = true := bne_iff_ne.mpr g_p
  have G := Lib.hid g_p
  clear g_p
  obtain rfl : false = q := by rw [← hq.out]; exact (decide_eq_false (fun e => G.out (by rw [e]))).symm
  go_wp2
  go_ret
  exact ⟨rfl, below_alloc (below_alloc (Below.refl _ _) _) _⟩
 have b_p : (r.p != s.p) = false := bne_eq_false_iff_eq.mpr g_p
 replace g_p := Lib.hid g_p
 by_cases g_g : r.g = s.g
 rotate_left
 ·have b_g : (r.g != s.g) = true := bne_iff_ne.mpr g_g
  have G := Lib.hid g_g
  clear g_g
  obtain rfl : false = q := by rw [← hq.out]; exact (decide_eq_false (fun e => G.out (by rw [e]))).symm
  go_wp2
  go_ret
  exact ⟨rfl, below_alloc (below_alloc (Below.refl _ _) _) _⟩
 have b_g : (r.g != s.g) = false := bne_eq_false_iff_eq.mpr g_g
 replace g_g := Lib.hid g_g
 by_cases g_o : r.o = s.o
 rotate_left
 ·have b_o : (r.o != s.o) = true := bne_iff_ne.mpr g_o
  have G := Lib.hid g_o
  clear g_o
  obtain rfl : false = q := by rw [← hq.out]; exact (decide_eq_false (fun e => G.out (by rw [e]))).symm
  go_wp2
  go_ret
  exact ⟨rfl, below_alloc (below_alloc (Below.refl _ _) _) _⟩
 have b_o : (r.o != s.o) = false := bne_eq_false_iff_eq.mpr g_o
 replace g_o := Lib.hid g_o
 by_cases g_n : r.n = s.n
 rotate_left
 ·have b_n : (r.n != s.n) = true := bne_iff_ne.mpr g_n
  have G := Lib.hid g_n
  clear g_n
  obtain rfl : false = q := by rw [← hq.out]; exact (decide_eq_false (fun e => G.out (by rw [e]))).symm
  go_wp2
  go_ret
  exact ⟨rfl, below_alloc (below_alloc (Below.refl _ _) _) _⟩
 have b_n : (r.n != s.n) = false := bne_eq_false_iff_eq.mpr g_n
 replace g_n := Lib.hid g_n
 by_cases g_args : (r.args.length : Int) = (s.args.length : Int)
 rotate_left
 ·have b_args : ((r.args.length : Int) != (s.args.length : Int)) = true := bne_iff_ne.mpr g_args
  have b2_args : (r.args.length != s.args.length) = true := bne_iff_ne.mpr (by omega)
  have G := Lib.hid g_args
  clear g_args
  obtain rfl : false = q := by rw [← hq.out]; exact (decide_eq_false (fun e => G.out (by rw [e]))).symm
  go_wp2
  go_ret
  exact ⟨rfl, below_alloc (below_alloc (Below.refl _ _) _) _⟩
 have b_args : ((r.args.length : Int) != (s.args.length : Int)) = false := bne_eq_false_iff_eq.mpr g_args
 have b2_args : (r.args.length != s.args.length) = false := bne_eq_false_iff_eq.mpr (by omega)
 have g2_args : r.args.length = s.args.length := by omega
 replace g2_args := Lib.hid g2_args
 replace g_args := Lib.hid g_args
 by_cases g_imgs : (r.imgs.length : Int) = (s.imgs.length : Int)
 rotate_left
 ·have b_imgs : ((r.imgs.length : Int) != (s.imgs.length : Int)) = true := bne_iff_ne.mpr g_imgs
  have b2_imgs : (r.imgs.length != s.imgs.length) = true := bne_iff_ne.mpr (by omega)
  have G := Lib.hid g_imgs
  clear g_imgs
  obtain rfl : false = q := by rw [← hq.out]; exact (decide_eq_false (fun e => G.out (by rw [e]))).symm
  go_wp2
  go_ret
  exact ⟨rfl, below_alloc (below_alloc (Below.refl _ _) _) _⟩
 have b_imgs : ((r.imgs.length : Int) != (s.imgs.length : Int)) = false := bne_eq_false_iff_eq.mpr g_imgs
 have b2_imgs : (r.imgs.length != s.imgs.length) = false := bne_eq_false_iff_eq.mpr (by omega)
 have g2_imgs : r.imgs.length = s.imgs.length := by omega
 replace g2_imgs := Lib.hid g2_imgs
 replace g_imgs := Lib.hid g_imgs
 by_cases g_di : (r.di.length : Int) = (s.di.length : Int)
 rotate_left
 ·have b_di : ((r.di.length : Int) != (s.di.length : Int)) = true := bne_iff_ne.mpr g_di
  have b2_di : (r.di.length != s.di.length) = true := bne_iff_ne.mpr (by omega)
  have G := Lib.hid g_di
  clear g_di
  obtain rfl : false = q := by rw [← hq.out]; exact (decide_eq_false (fun e => G.out (by rw [e]))).symm
  go_wp2
  go_ret
  exact ⟨rfl, below_alloc (below_alloc (Below.refl _ _) _) _⟩
 have b_di : ((r.di.length : Int) != (s.di.length : Int)) = false := bne_eq_false_iff_eq.mpr g_di
 have b2_di : (r.di.length != s.di.length) = false := bne_eq_false_iff_eq.mpr (by omega)
 have g2_di : r.di.length = s.di.length := by omega
 replace g2_di := Lib.hid g2_di
 replace g_di := Lib.hid g_di
 by_cases g_ac : (r.ac.length : Int) = (s.ac.length : Int)
 rotate_left
 ·have b_ac : ((r.ac.length : Int) != (s.ac.length : Int)) = true := bne_iff_ne.mpr g_ac
  have b2_ac : (r.ac.length != s.ac.length) = true := bne_iff_ne.mpr (by omega)
  have G := Lib.hid g_ac
  clear g_ac
  obtain rfl : false = q := by rw [← hq.out]; exact (decide_eq_false (fun e => G.out (by rw [e]))).symm
  go_wp2
  go_ret
  exact ⟨rfl, below_alloc (below_alloc (Below.refl _ _) _) _⟩
 have b_ac : ((r.ac.length : Int) != (s.ac.length : Int)) = false := bne_eq_false_iff_eq.mpr g_ac
 have b2_ac : (r.ac.length != s.ac.length) = false := bne_eq_false_iff_eq.mpr (by omega)
 have g2_ac : r.ac.length = s.ac.length := by omega
 replace g2_ac := Lib.hid g2_ac
 replace g_ac := Lib.hid g_ac
 go_upto_region 3 with (fail)
 go_cut [2, 3, 5] (fun v2 v3 v5 wc => v2 = .pointer (some ⟨w.heap.size, 0, none⟩) ∧ v3 = .pointer (some ⟨w.heap.size + 1, 0, none⟩) ∧ v5 = .int .i64 0 ∧ wc.heap[w.heap.size]? = some (.cells #[.int .i64 r.k, .int .i64 r.t, .int .i64 r.p, .int .i64 r.g, .int .i64 r.o, .slice A5 r.args.length c5, .slice A6 r.imgs.length c6, .int .i64 r.n, .slice A8 r.di.length c8, .slice A9 r.ac.length c9] 30 (0, 0)) ∧ wc.heap[w.heap.size + 1]? = some (.cells #[.int .i64 s.k, .int .i64 s.t, .int .i64 s.p, .int .i64 s.g, .int .i64 s.o, .slice B5 s.args.length e5, .slice B6 s.imgs.length e6, .int .i64 s.n, .slice B8 s.di.length e8, .slice B9 s.ac.length e9] 30 (0, 0)) ∧ Below w.heap.size w wc)
 case first =>
  go_wp2
  go_meet
  case rel =>
   have h2 := heap_alloc_new (w.alloc (.cells #[.int .i64 r.k, .int .i64 r.t, .int .i64 r.p, .int .i64 r.g, .int .i64 r.o, .slice A5 r.args.length c5, .slice A6 r.imgs.length c6, .int .i64 r.n, .slice A8 r.di.length c8, .slice A9 r.ac.length c9] 30)) (.cells #[.int .i64 s.k, .int .i64 s.t, .int .i64 s.p, .int .i64 s.g, .int .i64 s.o, .slice B5 s.args.length e5, .slice B6 s.imgs.length e6, .int .i64 s.n, .slice B8 s.di.length e8, .slice B9 s.ac.length e9] 30)
   rw [World.size_alloc] at h2
   exact ⟨rfl, rfl, rfl, blk_alloc (heap_alloc_new w _) _, h2, below_alloc (below_alloc (Below.refl _ _) _) _⟩
 case rest =>
  obtain ⟨rfl, rfl, rfl, BK1, BK2, HB⟩ := hcut
  replace BK1 := Lib.hid BK1
  replace BK2 := Lib.hid BK2
  replace HI := Aside0.mk (HI.out.below HB)
  replace HJ := Aside0.mk (HJ.out.below HB)
  replace HB := Lib.hid HB
  clear b_k b_t b_p b_g b_o b_n b_args b_imgs b_di b_ac
  clear b2_args b2_imgs b2_di b2_ac
  obtain ⟨x_0, x_1, x_2, x_3, x_4, x_5, x_6, x_7, x_8, x_9⟩ := ten_cells BK1.out
  obtain ⟨y_0, y_1, y_2, y_3, y_4, y_5, y_6, y_7, y_8, y_9⟩ := ten_cells BK2.out
  go_wp2
  go_loopw [5] (fun v5 wr => ∃ (i : Nat), v5 = .int .i64 (i : Int) ∧ i ≤ r.args.length ∧ Hid (∀ j, j < i → r.args.getD j (0 : Int) = s.args.getD j (0 : Int)) ∧ Hid (Below wc.heap.size wc wr)) (fun v5 _ => r.args.length - (match v5 with | .int _ n => n.toNat | _ => 0))
  case atStart => exact ⟨0, rfl, Nat.zero_le _, Lib.hid (fun j hj => absurd hj (Nat.not_lt_zero j)), Lib.hid (Below.refl _ _)⟩
  case round =>
   obtain ⟨i, rfl, hi, Hall, HBr⟩ := hrel
   have K1 := Lib.hid (blk_below BK1.out HBr.out)
   have K2 := Lib.hid (blk_below BK2.out HBr.out)
   have I1 := Aside0.mk (HI.out.below HBr.out)
   have J1 := Aside0.mk (HJ.out.below HBr.out)
   have HB1 := Lib.hid (below_then HB.out HB.out.size HBr.out)
   clear x_0 x_1 x_2 x_3 x_4 x_5 x_6 x_7 x_8 x_9 y_0 y_1 y_2 y_3 y_4 y_5 y_6 y_7 y_8 y_9
   obtain ⟨x_0, x_1, x_2, x_3, x_4, x_5, x_6, x_7, x_8, x_9⟩ := ten_cells K1.out
   obtain ⟨y_0, y_1, y_2, y_3, y_4, y_5, y_6, y_7, y_8, y_9⟩ := ten_cells K2.out
   by_cases hlt : i < r.args.length
   ·have hmx := Kd.C_max I1.out.C5
    have hlt2 : i < s.args.length := by have := g2_args.out; omega
    obtain ⟨ad, eA, p0⟩ := Kd.at_int I1.out.C5 (i : Int) (by omega) (by omega)
    obtain ⟨bd, eB, q0⟩ := Kd.at_int J1.out.C5 (i : Int) (by omega) (by omega)
    dsimp only at eA eB
    subst eA eB
    rw [show ((i : Int)).toNat = i from rfl] at p0 q0
    obtain ⟨u, Hu⟩ : ∃ u, Hid (r.args.getD i (0 : Int) = u) := ⟨_, Lib.hid rfl⟩
    obtain ⟨v, Hv⟩ : ∃ v, Hid (s.args.getD i (0 : Int) = v) := ⟨_, Lib.hid rfl⟩
    rw [show rd r.args (i : Int) = r.args.getD i (0 : Int) from rfl, Hu.out] at p0
    rw [show rd s.args (i : Int) = s.args.getD i (0 : Int) from rfl, Hv.out] at q0
    by_cases huv : u = v
    ·have hne : (u != v) = false := by subst huv; simp
     replace huv := Lib.hid huv
     go_wp2
     repeat (go_quiet (fail); try go_wp2)
     go_roundw
     case rel => exact ⟨i + 1, by go_num, by omega, Lib.hid (all_next Hall.out (by rw [Hu.out, Hv.out]; exact huv.out)), Lib.hid (by (with_reducible repeat (first | apply pw_below_drewN | apply below_drew1)); exact HBr.out)⟩
     case measure => simp [intOf]; omega
    ·have hne : (u != v) = true := bne_iff_ne.mpr huv
     have G := Lib.hid huv
     clear huv
     obtain rfl : false = q := by rw [← hq.out]; exact (decide_eq_false (fun e => G.out (by rw [← Hu.out, ← Hv.out, e]))).symm
     go_wp2
     repeat (go_quiet (fail); try go_wp2)
     go_ret
     exact ⟨rfl, by (with_reducible repeat (first | apply pw_below_drewN | apply below_drew1)); exact HB1.out⟩
   ·have L_args := Lib.hid (list_ext g2_args.out (fun j hj => Hall.out j (by omega)))
    obtain rfl : i = r.args.length := by omega
    clear HB HI HJ BK1 BK2 Hall HBr x_0 x_1 x_2 x_3 x_4 x_5 x_6 x_7 x_8 x_9 y_0 y_1 y_2 y_3 y_4 y_5 y_6 y_7 y_8 y_9 hlt hi
    have HB := HB1
    have HI := I1
    have HJ := J1
    have BK1 := K1
    have BK2 := K2
    clear HB1 I1 J1 K1 K2
    obtain ⟨wr5, hwr⟩ : ∃ x, x = wr := ⟨_, rfl⟩
    subst hwr
    obtain ⟨x_0, x_1, x_2, x_3, x_4, x_5, x_6, x_7, x_8, x_9⟩ := ten_cells BK1.out
    obtain ⟨y_0, y_1, y_2, y_3, y_4, y_5, y_6, y_7, y_8, y_9⟩ := ten_cells BK2.out
    go_wp2
    go_loopw [6] (fun v6 wr => ∃ (i : Nat), v6 = .int .i64 (i : Int) ∧ i ≤ r.imgs.length ∧ Hid (∀ j, j < i → r.imgs.getD j z52 = s.imgs.getD j z52) ∧ Hid (Below wr5.heap.size wr5 wr)) (fun v6 _ => r.imgs.length - (match v6 with | .int _ n => n.toNat | _ => 0))
    case atStart => exact ⟨0, rfl, Nat.zero_le _, Lib.hid (fun j hj => absurd hj (Nat.not_lt_zero j)), Lib.hid (Below.refl _ _)⟩
    case round =>
     obtain ⟨i, rfl, hi, Hall, HBr⟩ := hrel
     have K1 := Lib.hid (blk_below BK1.out HBr.out)
     have K2 := Lib.hid (blk_below BK2.out HBr.out)
     have I1 := Aside0.mk (HI.out.below HBr.out)
     have J1 := Aside0.mk (HJ.out.below HBr.out)
     have HB1 := Lib.hid (below_then HB.out HB.out.size HBr.out)
     clear x_0 x_1 x_2 x_3 x_4 x_5 x_6 x_7 x_8 x_9 y_0 y_1 y_2 y_3 y_4 y_5 y_6 y_7 y_8 y_9
     obtain ⟨x_0, x_1, x_2, x_3, x_4, x_5, x_6, x_7, x_8, x_9⟩ := ten_cells K1.out
     obtain ⟨y_0, y_1, y_2, y_3, y_4, y_5, y_6, y_7, y_8, y_9⟩ := ten_cells K2.out
     by_cases hlt : i < r.imgs.length
     ·have hmx := Kd.C_max I1.out.C6
      have hlt2 : i < s.imgs.length := by have := g2_imgs.out; omega
      obtain ⟨ad, eA, p0, p1⟩ := at_T52 I1.out.C6 (i : Int) (by omega) (by omega)
      obtain ⟨bd, eB, q0, q1⟩ := at_T52 J1.out.C6 (i : Int) (by omega) (by omega)
      dsimp only at eA eB
      subst eA eB
      rw [show ((i : Int)).toNat = i from rfl] at p0 p1 q0 q1
      obtain ⟨u, Hu⟩ : ∃ u, Hid (r.imgs.getD i z52 = u) := ⟨_, Lib.hid rfl⟩
      obtain ⟨v, Hv⟩ : ∃ v, Hid (s.imgs.getD i z52 = v) := ⟨_, Lib.hid rfl⟩
      rw [show rd_T52 r.imgs (i : Int) = r.imgs.getD i z52 from rfl, Hu.out] at p0 p1
      rw [show rd_T52 s.imgs (i : Int) = s.imgs.getD i z52 from rfl, Hv.out] at q0 q1
      by_cases huv : u = v
      ·have hne : (!(u.f0 == v.f0) || (!(u.f1 == v.f1))) = false := by subst huv; simp
       replace huv := Lib.hid huv
       go_wp2
       repeat (go_quiet (fail); try go_wp2)
       go_roundw
       case rel => exact ⟨i + 1, by go_num, by omega, Lib.hid (all_next Hall.out (by rw [Hu.out, Hv.out]; exact huv.out)), Lib.hid (by (with_reducible repeat (first | apply pw_below_drewN | apply below_drew1)); exact HBr.out)⟩
       case measure => simp [intOf]; omega
      ·have hne : (!(u.f0 == v.f0) || (!(u.f1 == v.f1))) = true := by cases u; cases v; simp at huv ⊢; omega
       have G := Lib.hid huv
       clear huv
       obtain rfl : false = q := by rw [← hq.out]; exact (decide_eq_false (fun e => G.out (by rw [← Hu.out, ← Hv.out, e]))).symm
       go_wp2
       repeat (go_quiet (fail); try go_wp2)
       go_ret
       exact ⟨rfl, by (with_reducible repeat (first | apply pw_below_drewN | apply below_drew1)); exact HB1.out⟩
     ·have L_imgs := Lib.hid (list_ext g2_imgs.out (fun j hj => Hall.out j (by omega)))
      obtain rfl : i = r.imgs.length := by omega
      clear HB HI HJ BK1 BK2 Hall HBr x_0 x_1 x_2 x_3 x_4 x_5 x_6 x_7 x_8 x_9 y_0 y_1 y_2 y_3 y_4 y_5 y_6 y_7 y_8 y_9 hlt hi
      have HB := HB1
      have HI := I1
      have HJ := J1
      have BK1 := K1
      have BK2 := K2
      clear HB1 I1 J1 K1 K2
      obtain ⟨wr6, hwr⟩ : ∃ x, x = wr := ⟨_, rfl⟩
      subst hwr
      obtain ⟨x_0, x_1, x_2, x_3, x_4, x_5, x_6, x_7, x_8, x_9⟩ := ten_cells BK1.out
      obtain ⟨y_0, y_1, y_2, y_3, y_4, y_5, y_6, y_7, y_8, y_9⟩ := ten_cells BK2.out
      go_wp2
      go_loopw [7] (fun v7 wr => ∃ (i : Nat), v7 = .int .i64 (i : Int) ∧ i ≤ r.di.length ∧ Hid (∀ j, j < i → r.di.getD j z54 = s.di.getD j z54) ∧ Hid (Below wr6.heap.size wr6 wr)) (fun v7 _ => r.di.length - (match v7 with | .int _ n => n.toNat | _ => 0))
      case atStart => exact ⟨0, rfl, Nat.zero_le _, Lib.hid (fun j hj => absurd hj (Nat.not_lt_zero j)), Lib.hid (Below.refl _ _)⟩
      case round =>
       obtain ⟨i, rfl, hi, Hall, HBr⟩ := hrel
       have K1 := Lib.hid (blk_below BK1.out HBr.out)
       have K2 := Lib.hid (blk_below BK2.out HBr.out)
       have I1 := Aside0.mk (HI.out.below HBr.out)
       have J1 := Aside0.mk (HJ.out.below HBr.out)
       have HB1 := Lib.hid (below_then HB.out HB.out.size HBr.out)
       clear x_0 x_1 x_2 x_3 x_4 x_5 x_6 x_7 x_8 x_9 y_0 y_1 y_2 y_3 y_4 y_5 y_6 y_7 y_8 y_9
       obtain ⟨x_0, x_1, x_2, x_3, x_4, x_5, x_6, x_7, x_8, x_9⟩ := ten_cells K1.out
       obtain ⟨y_0, y_1, y_2, y_3, y_4, y_5, y_6, y_7, y_8, y_9⟩ := ten_cells K2.out
       by_cases hlt : i < r.di.length
       ·have hmx := Kd.C_max I1.out.C8
        have hlt2 : i < s.di.length := by have := g2_di.out; omega
        obtain ⟨ad, eA, p0, p1⟩ := at_T54 I1.out.C8 (i : Int) (by omega) (by omega)
        obtain ⟨bd, eB, q0, q1⟩ := at_T54 J1.out.C8 (i : Int) (by omega) (by omega)
        dsimp only at eA eB
        subst eA eB
        rw [show ((i : Int)).toNat = i from rfl] at p0 p1 q0 q1
        obtain ⟨u, Hu⟩ : ∃ u, Hid (r.di.getD i z54 = u) := ⟨_, Lib.hid rfl⟩
        obtain ⟨v, Hv⟩ : ∃ v, Hid (s.di.getD i z54 = v) := ⟨_, Lib.hid rfl⟩
        rw [show rd_T54 r.di (i : Int) = r.di.getD i z54 from rfl, Hu.out] at p0 p1
        rw [show rd_T54 s.di (i : Int) = s.di.getD i z54 from rfl, Hv.out] at q0 q1
        by_cases huv : u = v
        ·have hne : (!(u.f0 == v.f0) || (!(u.f1 == v.f1))) = false := by subst huv; simp
         replace huv := Lib.hid huv
         go_wp2
         repeat (go_quiet (fail); try go_wp2)
         go_roundw
         case rel => exact ⟨i + 1, by go_num, by omega, Lib.hid (all_next Hall.out (by rw [Hu.out, Hv.out]; exact huv.out)), Lib.hid (by (with_reducible repeat (first | apply pw_below_drewN | apply below_drew1)); exact HBr.out)⟩
         case measure => simp [intOf]; omega
        ·have hne : (!(u.f0 == v.f0) || (!(u.f1 == v.f1))) = true := by cases u; cases v; simp at huv ⊢; omega
         have G := Lib.hid huv
         clear huv
         obtain rfl : false = q := by rw [← hq.out]; exact (decide_eq_false (fun e => G.out (by rw [← Hu.out, ← Hv.out, e]))).symm
         go_wp2
         repeat (go_quiet (fail); try go_wp2)
         go_ret
         exact ⟨rfl, by (with_reducible repeat (first | apply pw_below_drewN | apply below_drew1)); exact HB1.out⟩
       ·have L_di := Lib.hid (list_ext g2_di.out (fun j hj => Hall.out j (by omega)))
        obtain rfl : i = r.di.length := by omega
        clear HB HI HJ BK1 BK2 Hall HBr x_0 x_1 x_2 x_3 x_4 x_5 x_6 x_7 x_8 x_9 y_0 y_1 y_2 y_3 y_4 y_5 y_6 y_7 y_8 y_9 hlt hi
        have HB := HB1
        have HI := I1
        have HJ := J1
        have BK1 := K1
        have BK2 := K2
        clear HB1 I1 J1 K1 K2
        obtain ⟨wr8, hwr⟩ : ∃ x, x = wr := ⟨_, rfl⟩
        subst hwr
        obtain ⟨x_0, x_1, x_2, x_3, x_4, x_5, x_6, x_7, x_8, x_9⟩ := ten_cells BK1.out
        obtain ⟨y_0, y_1, y_2, y_3, y_4, y_5, y_6, y_7, y_8, y_9⟩ := ten_cells BK2.out
        go_wp2
        go_loopw [8] (fun v8 wr => ∃ (i : Nat), v8 = .int .i64 (i : Int) ∧ i ≤ r.ac.length ∧ Hid (∀ j, j < i → r.ac.getD j z56 = s.ac.getD j z56) ∧ Hid (Below wr8.heap.size wr8 wr)) (fun v8 _ => r.ac.length - (match v8 with | .int _ n => n.toNat | _ => 0))
        case atStart => exact ⟨0, rfl, Nat.zero_le _, Lib.hid (fun j hj => absurd hj (Nat.not_lt_zero j)), Lib.hid (Below.refl _ _)⟩
        case round =>
         obtain ⟨i, rfl, hi, Hall, HBr⟩ := hrel
         have K1 := Lib.hid (blk_below BK1.out HBr.out)
         have K2 := Lib.hid (blk_below BK2.out HBr.out)
         have I1 := Aside0.mk (HI.out.below HBr.out)
         have J1 := Aside0.mk (HJ.out.below HBr.out)
         have HB1 := Lib.hid (below_then HB.out HB.out.size HBr.out)
         clear x_0 x_1 x_2 x_3 x_4 x_5 x_6 x_7 x_8 x_9 y_0 y_1 y_2 y_3 y_4 y_5 y_6 y_7 y_8 y_9
         obtain ⟨x_0, x_1, x_2, x_3, x_4, x_5, x_6, x_7, x_8, x_9⟩ := ten_cells K1.out
         obtain ⟨y_0, y_1, y_2, y_3, y_4, y_5, y_6, y_7, y_8, y_9⟩ := ten_cells K2.out
         by_cases hlt : i < r.ac.length
         ·have hmx := Kd.C_max I1.out.C9
          have hlt2 : i < s.ac.length := by have := g2_ac.out; omega
          obtain ⟨ad, eA, p0, p1, p2, p3⟩ := at_T56 I1.out.C9 (i : Int) (by omega) (by omega)
          obtain ⟨bd, eB, q0, q1, q2, q3⟩ := at_T56 J1.out.C9 (i : Int) (by omega) (by omega)
          dsimp only at eA eB
          subst eA eB
          rw [show ((i : Int)).toNat = i from rfl] at p0 p1 p2 p3 q0 q1 q2 q3
          obtain ⟨u, Hu⟩ : ∃ u, Hid (r.ac.getD i z56 = u) := ⟨_, Lib.hid rfl⟩
          obtain ⟨v, Hv⟩ : ∃ v, Hid (s.ac.getD i z56 = v) := ⟨_, Lib.hid rfl⟩
          rw [show rd_T56 r.ac (i : Int) = r.ac.getD i z56 from rfl, Hu.out] at p0 p1 p2 p3
          rw [show rd_T56 s.ac (i : Int) = s.ac.getD i z56 from rfl, Hv.out] at q0 q1 q2 q3
          by_cases huv : u = v
          ·have hne : (!(u.f0 == v.f0) || (!(u.f1 == v.f1) || (!(u.f2 == v.f2) || (!(u.f3 == v.f3))))) = false := by subst huv; simp
           replace huv := Lib.hid huv
           go_wp2
           repeat (go_quiet (fail); try go_wp2)
           go_roundw
           case rel => exact ⟨i + 1, by go_num, by omega, Lib.hid (all_next Hall.out (by rw [Hu.out, Hv.out]; exact huv.out)), Lib.hid (by (with_reducible repeat (first | apply pw_below_drewN | apply below_drew1)); exact HBr.out)⟩
           case measure => simp [intOf]; omega
          ·have hne : (!(u.f0 == v.f0) || (!(u.f1 == v.f1) || (!(u.f2 == v.f2) || (!(u.f3 == v.f3))))) = true := by cases u; cases v; simp at huv ⊢; omega
           have G := Lib.hid huv
           clear huv
           obtain rfl : false = q := by rw [← hq.out]; exact (decide_eq_false (fun e => G.out (by rw [← Hu.out, ← Hv.out, e]))).symm
           go_wp2
           repeat (go_quiet (fail); try go_wp2)
           go_ret
           exact ⟨rfl, by (with_reducible repeat (first | apply pw_below_drewN | apply below_drew1)); exact HB1.out⟩
         ·have L_ac := Lib.hid (list_ext g2_ac.out (fun j hj => Hall.out j (by omega)))
          obtain rfl : i = r.ac.length := by omega
          clear HB HI HJ BK1 BK2 Hall HBr x_0 x_1 x_2 x_3 x_4 x_5 x_6 x_7 x_8 x_9 y_0 y_1 y_2 y_3 y_4 y_5 y_6 y_7 y_8 y_9 hlt hi
          have HB := HB1
          have HI := I1
          have HJ := J1
          have BK1 := K1
          have BK2 := K2
          clear HB1 I1 J1 K1 K2
          obtain ⟨wr9, hwr⟩ : ∃ x, x = wr := ⟨_, rfl⟩
          subst hwr
          obtain ⟨x_0, x_1, x_2, x_3, x_4, x_5, x_6, x_7, x_8, x_9⟩ := ten_cells BK1.out
          obtain rfl : true = q := by rw [← hq.out]; exact (decide_eq_true (rec_ext g_k.out g_t.out g_p.out g_g.out g_o.out g_n.out L_args.out L_imgs.out L_di.out L_ac.out)).symm
          go_wp2
          go_ret
          exact ⟨rfl, HB.out⟩
end Go.Proofs.Ytcplblpmgajmnaa.A
namespace Go.Proofs.Ytcplblpmgajmnaa.A
open Go.RowKit Go.Proofs.YtcplblpmgajmnaaW.PrintWords Go.Proofs.YtcplblpmgajmnaaW.PrintLast Go.Proofs.YtcplblpmgajmnaaW.PrintMore
set_option linter.unusedVariables false
set_option linter.unusedSimpArgs false
def Rec.room (r : Rec) : Int := if r.enc.2 = none ∧ r.k = 1 then 64 + (r.enc.1.length : Int) else 64
theorem enc_le (r : Rec) : r.enc.1.length ≤ 4096 := by
  obtain ⟨b, x, he⟩ : ∃ b x, r.enc = (b, x) := ⟨_, _, rfl⟩
  rw [he]
  cases x with
  | none => exact (enc_some he).2.1
  | some x => obtain ⟨rfl, _⟩ := enc_err he; exact Nat.zero_le _
set_option maxHeartbeats 4000000 in
set_option maxRecDepth 100000 in
theorem room_c {r : Rec} {a : Lies} {w : World} (h : RIn w r a) (hf : r.Fits) : Calls Try.prog 24 #[.agg (r.cells a)] w fun e w' => e = .returned (.int .i64 r.room) ∧ Below w.heap.size w w' := by
  have hu30 := Try.underlying30
  have hu32 := Try.underlying32
  have hu44 := Try.underlying44
  obtain ⟨A5, c5, A6, c6, A8, c8, A9, c9⟩ := a
  have HI := Aside0.mk h
  have HF := Lib.hid hf
  clear h hf
  obtain ⟨b, x, he⟩ : ∃ b x, r.enc = (b, x) := ⟨_, _, rfl⟩
  have hle := enc_le r
  rw [he] at hle
  replace hle : b.length ≤ 4096 := hle
  have HE := Lib.hid he
  obtain ⟨R, hR⟩ : ∃ R, r.room = R := ⟨_, rfl⟩
  rw [hR]
  unfold Rec.room at hR
  rw [he] at hR
  have HR := Lib.hid hR
  clear he hR
  unfold Rec.cells
  go_enter Try.func24, Try.ntmps24
  go_wp2_with fail
  refine (enc_c (HI.out.alloc _) HF.out).mono ?_
  rintro e w1 ⟨A, c, rfl, _, _, hb⟩
  have BK := Lib.hid (blk_below (heap_alloc_new w _) hb)
  have HB := Lib.hid (below_then (below_alloc (Below.refl w.heap.size w) _) (by rw [World.size_alloc]; omega) hb)
  clear hb
  obtain ⟨d_0, d_1, d_2, d_3, d_4, d_5, d_6, d_7, d_8, d_9⟩ := ten_cells BK.out
  rw [HE.out]
  rcases x with _ | x
  · simp only [errW_none]
    by_cases hk : r.k = 1
    · have hb1 : (r.k != 1) = false := bne_eq_false_iff_eq.mpr hk
      obtain rfl := HR.out.symm.trans (if_pos ⟨rfl, hk⟩)
      clear HR
      replace hk := Lib.hid hk
      have hw : wrap64 (64 + (b.length : Int)) = 64 + (b.length : Int) := by unfold wrap64; omega
      go_wp2
      go_ret
      exact ⟨by first | rfl | (simp [hw]; done), HB.out⟩
    · have hb1 : (r.k != 1) = true := bne_iff_ne.mpr hk
      obtain rfl := HR.out.symm.trans (if_neg (fun h => hk h.2))
      clear HR
      replace hk := Lib.hid hk
      go_wp2
      go_ret
      exact ⟨rfl, HB.out⟩
  · simp only [errW_some]
    obtain rfl := HR.out.symm.trans (if_neg (fun h => by cases h.1))
    clear HR
    go_wp2
    go_ret
    exact ⟨rfl, HB.out⟩
end Go.Proofs.Ytcplblpmgajmnaa.A
namespace Go.Proofs.Ytcplblpmgajmnaa.A
open Go.RowKit Go.Proofs.YtcplblpmgajmnaaW.PrintWords Go.Proofs.YtcplblpmgajmnaaW.PrintLast Go.Proofs.YtcplblpmgajmnaaW.PrintMore
attribute [local go_sem] max2_int min2_int max_two min_two max_three min_three max_four min_four
set_option linter.unusedVariables false
set_option linter.unusedSimpArgs false
def palimpsestnum_Num.f (a0 : Option Int) : Option (Int) := if a0.isNone = true then (some 0) else (if (a0.getD 0) = 0 then (some (-1)) else (some (a0.getD 0)))
set_option maxHeartbeats 8000000 in
set_option maxRecDepth 100000 in
theorem palimpsestnum_Num.calls (a0 : Option Int) (r : Int) (w : World) (h : palimpsestnum_Num.f a0 = some r) :
  Calls Try.prog 15 #[errW a0] w fun e w' => e = .returned (.int .i64 r) ∧ Drawn0 w w' := by
 have hu32 := Try.underlying32
 have hu44 := Try.underlying44
 have hta : ∀ (v : Value) (W : World), (Instr.typeAssert (.iface 44 v) 32 44 true).run Try.prog W = .ok (.tuple #[v, .bool true]) W := fun v W => by rfl
 have H : (if a0.isNone = true then (some 0) else (if (a0.getD 0) = 0 then (some (-1)) else (some (a0.getD 0)))) = some r := h
 clear h
 rcases a0 with _ | q434
 ·have H1 : (some 0) = some r := by rw [if_pos (show (none : Option Int).isNone = true by rfl)] at H; exact H
  clear H
  have H := H1
  clear H1
  simp only [errW_none, errW_some]
  obtain rfl := Option.some.inj H
  go_enter Try.func15, Try.ntmps15
  go_wp2
  go_ret
  exact ⟨by first | rfl | (simp; done) | (simp [*]; done), by repeat (first | exact Drawn0.refl _ | apply Drawn0.step)⟩
 ·have H1 : (if q434 = 0 then (some (-1)) else (some q434)) = some r := by rw [if_neg (show ¬ (some q434).isNone = true by simp)] at H; exact H
  clear H
  have H := H1
  clear H1
  simp only [errW_none, errW_some]
  by_cases c2 : q434 = 0
  ·rw [if_pos c2] at H
   have c2b0 : (q434 == 0) = true := beq_iff_eq.mpr c2
   have c2b1 : (q434 != 0) = false := bne_eq_false_iff_eq.mpr c2
   clear c2
   obtain rfl := Option.some.inj H
   go_enter Try.func15, Try.ntmps15
   go_wp2
   go_ret
   exact ⟨by first | rfl | (simp; done) | (simp [*]; done), by repeat (first | exact Drawn0.refl _ | apply Drawn0.step)⟩
  ·rw [if_neg c2] at H
   have c2b0 : (q434 == 0) = false := beq_eq_false_iff_ne.mpr c2
   have c2b1 : (q434 != 0) = true := bne_iff_ne.mpr c2
   obtain rfl := Option.some.inj H
   go_enter Try.func15, Try.ntmps15
   go_wp2
   go_ret
   exact ⟨by first | rfl | (simp; done) | (simp [*]; done), by repeat (first | exact Drawn0.refl _ | apply Drawn0.step)⟩
def palimpsestlaw16_copied.f (a0_0 : Int) (a0_1 : Int) (a0_2 : Int) (a0_3 : Int) (a0_4 : Int) (l0_5 : List Int) (l0_6 : List (S52)) (a0_7 : Int) (l0_8 : List (S54)) (l0_9 : List (S56)) : Option (Int × Int × Int × Int × Int × List Int × (List (S52)) × Int × (List (S54)) × (List (S56))) := (some (([] : List Int) : List Int)).bind fun y498 => (if y498.length + l0_5.length < 17592186044416 then ((some (([] : List (S52)) : List (S52))).bind fun y504 => (if y504.length + l0_6.length < 8796093022208 then ((some (([] : List (S54)) : List (S54))).bind fun y510 => (if y510.length + l0_8.length < 8796093022208 then ((some (([] : List (S56)) : List (S56))).bind fun y516 => (if y516.length + l0_9.length < 4398046511104 then (some (a0_0, a0_1, a0_2, a0_3, a0_4, (y498 ++ l0_5), (y504 ++ l0_6), a0_7, (y510 ++ l0_8), (y516 ++ l0_9))) else (none))) else (none))) else (none))) else (none))
set_option maxHeartbeats 8000000 in
set_option maxRecDepth 100000 in
theorem palimpsestlaw16_copied.calls (a0_0 : Int) (a0_1 : Int) (a0_2 : Int) (a0_3 : Int) (a0_4 : Int) (A0_5 : Option Addr) (c0_5 : Nat) (l0_5 : List Int) (A0_6 : Option Addr) (c0_6 : Nat) (l0_6 : List (S52)) (a0_7 : Int) (A0_8 : Option Addr) (c0_8 : Nat) (l0_8 : List (S54)) (A0_9 : Option Addr) (c0_9 : Nat) (l0_9 : List (S56)) (r1 : Int) (r2 : Int) (r3 : Int) (r4 : Int) (r5 : Int) (r6 : List Int) (r7 : List (S52)) (r8 : Int) (r9 : List (S54)) (r10 : List (S56)) (w : World) (hr0_5 : Kd.C (Kd.int .i64) w A0_5 l0_5.length l0_5) (hc0_5 : l0_5.length ≤ c0_5) (hr0_6 : Kd.C k52 w A0_6 l0_6.length l0_6) (hc0_6 : l0_6.length ≤ c0_6) (hr0_8 : Kd.C k54 w A0_8 l0_8.length l0_8) (hc0_8 : l0_8.length ≤ c0_8) (hr0_9 : Kd.C k56 w A0_9 l0_9.length l0_9) (hc0_9 : l0_9.length ≤ c0_9) (h : palimpsestlaw16_copied.f a0_0 a0_1 a0_2 a0_3 a0_4 l0_5 l0_6 a0_7 l0_8 l0_9 = some (r1, r2, r3, r4, r5, r6, r7, r8, r9, r10)) :
  Calls Try.prog 21 #[.agg #[.int .i64 a0_0, .int .i64 a0_1, .int .i64 a0_2, .int .i64 a0_3, .int .i64 a0_4, .slice A0_5 l0_5.length c0_5, .slice A0_6 l0_6.length c0_6, .int .i64 a0_7, .slice A0_8 l0_8.length c0_8, .slice A0_9 l0_9.length c0_9]] w fun e w' => ∃ v5_ v6_ v8_ v9_ : Value, e = .returned (.agg #[.int .i64 r1, .int .i64 r2, .int .i64 r3, .int .i64 r4, .int .i64 r5, v5_, v6_, .int .i64 r8, v8_, v9_]) ∧ Kd.R (Kd.int .i64) 3 w' w.heap.size (fun _ => True) v5_ r6 ∧ Kd.R k52 52 w' w.heap.size (fun _ => True) v6_ r7 ∧ Kd.R k54 54 w' w.heap.size (fun _ => True) v8_ r9 ∧ Kd.R k56 56 w' w.heap.size (fun _ => True) v9_ r10 ∧ Below w.heap.size w w' := by
 have hu30 := Try.underlying30
 have HR0_5 := Aside0.mk hr0_5
 have HC0_5 := Aside0.mk hc0_5
 clear hr0_5 hc0_5
 have HR0_6 := Aside0.mk hr0_6
 have HC0_6 := Aside0.mk hc0_6
 clear hr0_6 hc0_6
 have HR0_8 := Aside0.mk hr0_8
 have HC0_8 := Aside0.mk hc0_8
 clear hr0_8 hc0_8
 have HR0_9 := Aside0.mk hr0_9
 have HC0_9 := Aside0.mk hc0_9
 clear hr0_9 hc0_9
 have HB := Aside0.mk (Below.refl w.heap.size w)
 have H : ((some (([] : List Int) : List Int)).bind fun y498 => (if y498.length + l0_5.length < 17592186044416 then ((some (([] : List (S52)) : List (S52))).bind fun y504 => (if y504.length + l0_6.length < 8796093022208 then ((some (([] : List (S54)) : List (S54))).bind fun y510 => (if y510.length + l0_8.length < 8796093022208 then ((some (([] : List (S56)) : List (S56))).bind fun y516 => (if y516.length + l0_9.length < 4398046511104 then (some (a0_0, a0_1, a0_2, a0_3, a0_4, (y498 ++ l0_5), (y504 ++ l0_6), a0_7, (y510 ++ l0_8), (y516 ++ l0_9))) else (none))) else (none))) else (none))) else (none))) = some (r1, r2, r3, r4, r5, r6, r7, r8, r9, r10) := h
 clear h
 obtain ⟨y498, hy498⟩ : ∃ y_ : List Int, y_ = (([] : List Int)) := ⟨_, rfl⟩
 replace H : (if y498.length + l0_5.length < 17592186044416 then ((some (([] : List (S52)) : List (S52))).bind fun y504 => (if y504.length + l0_6.length < 8796093022208 then ((some (([] : List (S54)) : List (S54))).bind fun y510 => (if y510.length + l0_8.length < 8796093022208 then ((some (([] : List (S56)) : List (S56))).bind fun y516 => (if y516.length + l0_9.length < 4398046511104 then (some (a0_0, a0_1, a0_2, a0_3, a0_4, (y498 ++ l0_5), (y504 ++ l0_6), a0_7, (y510 ++ l0_8), (y516 ++ l0_9))) else (none))) else (none))) else (none))) else (none)) = some (r1, r2, r3, r4, r5, r6, r7, r8, r9, r10) := by first | (rw [hy498]; with_reducible exact H) | (have H2_ := (Option.bind_some _ _).symm.trans H; rw [hy498]; with_reducible exact H2_) | (have H2_ := (Option.bind_some _ _).symm.trans H; with_reducible exact H2_) | with_reducible exact H | (rw [hy498]; exact H) | exact H
 have Ny498 := Aside0.mk hy498
 clear hy498
 by_cases c2 : y498.length + l0_5.length < 17592186044416
 ·rw [if_pos c2] at H
  have LMc2 := Aside0.mk c2
  clear c2
  obtain ⟨y501, hy501⟩ : ∃ y_ : List Int, y_ = (y498 ++ l0_5) := ⟨_, rfl⟩
  replace H : ((some (([] : List (S52)) : List (S52))).bind fun y504 => (if y504.length + l0_6.length < 8796093022208 then ((some (([] : List (S54)) : List (S54))).bind fun y510 => (if y510.length + l0_8.length < 8796093022208 then ((some (([] : List (S56)) : List (S56))).bind fun y516 => (if y516.length + l0_9.length < 4398046511104 then (some (a0_0, a0_1, a0_2, a0_3, a0_4, y501, (y504 ++ l0_6), a0_7, (y510 ++ l0_8), (y516 ++ l0_9))) else (none))) else (none))) else (none))) = some (r1, r2, r3, r4, r5, r6, r7, r8, r9, r10) := by first | (rw [hy501]; with_reducible exact H) | (have H2_ := (Option.bind_some _ _).symm.trans H; rw [hy501]; with_reducible exact H2_) | (have H2_ := (Option.bind_some _ _).symm.trans H; with_reducible exact H2_) | with_reducible exact H | (rw [hy501]; exact H) | exact H
  have Ny501 := Aside0.mk hy501
  clear hy501
  obtain ⟨y504, hy504⟩ : ∃ y_ : List (S52), y_ = (([] : List (S52))) := ⟨_, rfl⟩
  replace H : (if y504.length + l0_6.length < 8796093022208 then ((some (([] : List (S54)) : List (S54))).bind fun y510 => (if y510.length + l0_8.length < 8796093022208 then ((some (([] : List (S56)) : List (S56))).bind fun y516 => (if y516.length + l0_9.length < 4398046511104 then (some (a0_0, a0_1, a0_2, a0_3, a0_4, y501, (y504 ++ l0_6), a0_7, (y510 ++ l0_8), (y516 ++ l0_9))) else (none))) else (none))) else (none)) = some (r1, r2, r3, r4, r5, r6, r7, r8, r9, r10) := by first | (rw [hy504]; with_reducible exact H) | (have H2_ := (Option.bind_some _ _).symm.trans H; rw [hy504]; with_reducible exact H2_) | (have H2_ := (Option.bind_some _ _).symm.trans H; with_reducible exact H2_) | with_reducible exact H | (rw [hy504]; exact H) | exact H
  have Ny504 := Aside0.mk hy504
  clear hy504
  by_cases c3 : y504.length + l0_6.length < 8796093022208
  ·rw [if_pos c3] at H
   have LMc3 := Aside0.mk c3
   clear c3
   obtain ⟨y507, hy507⟩ : ∃ y_ : List (S52), y_ = (y504 ++ l0_6) := ⟨_, rfl⟩
   replace H : ((some (([] : List (S54)) : List (S54))).bind fun y510 => (if y510.length + l0_8.length < 8796093022208 then ((some (([] : List (S56)) : List (S56))).bind fun y516 => (if y516.length + l0_9.length < 4398046511104 then (some (a0_0, a0_1, a0_2, a0_3, a0_4, y501, y507, a0_7, (y510 ++ l0_8), (y516 ++ l0_9))) else (none))) else (none))) = some (r1, r2, r3, r4, r5, r6, r7, r8, r9, r10) := by first | (rw [hy507]; with_reducible exact H) | (have H2_ := (Option.bind_some _ _).symm.trans H; rw [hy507]; with_reducible exact H2_) | (have H2_ := (Option.bind_some _ _).symm.trans H; with_reducible exact H2_) | with_reducible exact H | (rw [hy507]; exact H) | exact H
   have Ny507 := Aside0.mk hy507
   clear hy507
   obtain ⟨y510, hy510⟩ : ∃ y_ : List (S54), y_ = (([] : List (S54))) := ⟨_, rfl⟩
   replace H : (if y510.length + l0_8.length < 8796093022208 then ((some (([] : List (S56)) : List (S56))).bind fun y516 => (if y516.length + l0_9.length < 4398046511104 then (some (a0_0, a0_1, a0_2, a0_3, a0_4, y501, y507, a0_7, (y510 ++ l0_8), (y516 ++ l0_9))) else (none))) else (none)) = some (r1, r2, r3, r4, r5, r6, r7, r8, r9, r10) := by first | (rw [hy510]; with_reducible exact H) | (have H2_ := (Option.bind_some _ _).symm.trans H; rw [hy510]; with_reducible exact H2_) | (have H2_ := (Option.bind_some _ _).symm.trans H; with_reducible exact H2_) | with_reducible exact H | (rw [hy510]; exact H) | exact H
   have Ny510 := Aside0.mk hy510
   clear hy510
   by_cases c4 : y510.length + l0_8.length < 8796093022208
   ·rw [if_pos c4] at H
    have LMc4 := Aside0.mk c4
    clear c4
    obtain ⟨y513, hy513⟩ : ∃ y_ : List (S54), y_ = (y510 ++ l0_8) := ⟨_, rfl⟩
    replace H : ((some (([] : List (S56)) : List (S56))).bind fun y516 => (if y516.length + l0_9.length < 4398046511104 then (some (a0_0, a0_1, a0_2, a0_3, a0_4, y501, y507, a0_7, y513, (y516 ++ l0_9))) else (none))) = some (r1, r2, r3, r4, r5, r6, r7, r8, r9, r10) := by first | (rw [hy513]; with_reducible exact H) | (have H2_ := (Option.bind_some _ _).symm.trans H; rw [hy513]; with_reducible exact H2_) | (have H2_ := (Option.bind_some _ _).symm.trans H; with_reducible exact H2_) | with_reducible exact H | (rw [hy513]; exact H) | exact H
    have Ny513 := Aside0.mk hy513
    clear hy513
    obtain ⟨y516, hy516⟩ : ∃ y_ : List (S56), y_ = (([] : List (S56))) := ⟨_, rfl⟩
    replace H : (if y516.length + l0_9.length < 4398046511104 then (some (a0_0, a0_1, a0_2, a0_3, a0_4, y501, y507, a0_7, y513, (y516 ++ l0_9))) else (none)) = some (r1, r2, r3, r4, r5, r6, r7, r8, r9, r10) := by first | (rw [hy516]; with_reducible exact H) | (have H2_ := (Option.bind_some _ _).symm.trans H; rw [hy516]; with_reducible exact H2_) | (have H2_ := (Option.bind_some _ _).symm.trans H; with_reducible exact H2_) | with_reducible exact H | (rw [hy516]; exact H) | exact H
    have Ny516 := Aside0.mk hy516
    clear hy516
    by_cases c5 : y516.length + l0_9.length < 4398046511104
    ·rw [if_pos c5] at H
     have LMc5 := Aside0.mk c5
     clear c5
     obtain ⟨y519, hy519⟩ : ∃ y_ : List (S56), y_ = (y516 ++ l0_9) := ⟨_, rfl⟩
     replace H : (some (a0_0, a0_1, a0_2, a0_3, a0_4, y501, y507, a0_7, y513, y519)) = some (r1, r2, r3, r4, r5, r6, r7, r8, r9, r10) := by first | (rw [hy519]; with_reducible exact H) | (have H2_ := (Option.bind_some _ _).symm.trans H; rw [hy519]; with_reducible exact H2_) | (have H2_ := (Option.bind_some _ _).symm.trans H; with_reducible exact H2_) | with_reducible exact H | (rw [hy519]; exact H) | exact H
     have Ny519 := Aside0.mk hy519
     clear hy519
     simp only [Option.some.injEq, Prod.mk.injEq] at H
     obtain ⟨rfl, rfl, rfl, rfl, rfl, rfl, rfl, rfl, rfl, rfl⟩ := H
     go_enter Try.func21, Try.ntmps21
     go_wp2_with (first | ((with_reducible refine gate_dst (N := 1) rfl ?_); refine box_event ?hg (N := 1) ?hd (cs := #[.int .i64 a0_0, .int .i64 a0_1, .int .i64 a0_2, .int .i64 a0_3, .int .i64 a0_4, .slice A0_5 l0_5.length c0_5, .slice A0_6 l0_6.length c0_6, .int .i64 a0_7, .slice A0_8 l0_8.length c0_8, .slice A0_9 l0_9.length c0_9]) (t := 30) ?hr ?_; (case hd => rfl); (case hg => rfl); (case hr => first | (go_simp; done) | (go_simp; rfl)); intro gb496 hg w6 hbox hb; have n0_ := Aside0.mk (below_step (by repeat (first | (with_reducible first | exact HB.out | apply bA | apply bN | apply bD) | exact HB.out)) hb); have n1_ := Aside0.mk (hbox); have n2_ := Aside0.mk ((by rw [hg]; exact (below_size (by repeat (first | (with_reducible first | exact HB.out | apply bA | apply bN | apply bD) | exact HB.out))) : w.heap.size ≤ gb496)); have n3_ := Aside0.mk ((by rw [hg]; exact (below_size (by repeat (first | (with_reducible first | exact HB.out | apply bA | apply bN | apply bD) | exact HB.out))) : w.heap.size ≤ gb496)); clear HB; have HB := n0_; have BK496 := n1_; have GW496 := n2_; have GE496 := n3_; clear n0_ n1_ n2_ n3_; clear hb hbox hg) | ((with_reducible refine gate_dst (N := 2) rfl ?_); refine box_event ?hg (N := 2) ?hd (cs := #[.int .i64 0, .int .i64 0, .int .i64 0, .int .i64 0, .int .i64 0, .slice none 0 0, .slice none 0 0, .int .i64 0, .slice none 0 0, .slice none 0 0]) (t := 30) ?hr ?_; (case hd => rfl); (case hg => rfl); (case hr => first | (go_simp; done) | (go_simp; rfl)); intro gb497 hg w7 hbox hb; have n0_ := Aside0.mk (blk_below (g := gb496) (o := .cells #[.int .i64 a0_0, .int .i64 a0_1, .int .i64 a0_2, .int .i64 a0_3, .int .i64 a0_4, .slice A0_5 l0_5.length c0_5, .slice A0_6 l0_6.length c0_6, .int .i64 a0_7, .slice A0_8 l0_8.length c0_8, .slice A0_9 l0_9.length c0_9] 30 (0, 0)) (by (with_reducible repeat (first | refine kN ?_ _ | refine kZ ?_ | refine kA ?_ _)); exact BK496.out) hb); have n1_ := Aside0.mk (below_step (by repeat (first | (with_reducible first | exact HB.out | apply bA | apply bN | apply bD | refine bS ?_ GE496.out) | exact HB.out)) hb); have n2_ := Aside0.mk (hbox); have n3_ := Aside0.mk ((by rw [hg]; exact (below_size (by repeat (first | (with_reducible first | exact HB.out | apply bA | apply bN | apply bD | refine bS ?_ GE496.out) | exact HB.out))) : w.heap.size ≤ gb497)); have n4_ := Aside0.mk ((by rw [hg]; exact (below_size (by repeat (first | (with_reducible first | exact HB.out | apply bA | apply bN | apply bD | refine bS ?_ GE496.out) | exact HB.out))) : w.heap.size ≤ gb497)); have n5_ := Aside0.mk ((by rw [hg]; exact Nat.ne_of_lt (blk_lt (g := gb496) (o := .cells #[.int .i64 a0_0, .int .i64 a0_1, .int .i64 a0_2, .int .i64 a0_3, .int .i64 a0_4, .slice A0_5 l0_5.length c0_5, .slice A0_6 l0_6.length c0_6, .int .i64 a0_7, .slice A0_8 l0_8.length c0_8, .slice A0_9 l0_9.length c0_9] 30 (0, 0)) (by (with_reducible repeat (first | refine kN ?_ _ | refine kZ ?_ | refine kA ?_ _)); exact BK496.out)) : gb496 ≠ gb497)); have n6_ := Aside0.mk ((by rw [hg]; exact Nat.ne_of_gt (blk_lt (g := gb496) (o := .cells #[.int .i64 a0_0, .int .i64 a0_1, .int .i64 a0_2, .int .i64 a0_3, .int .i64 a0_4, .slice A0_5 l0_5.length c0_5, .slice A0_6 l0_6.length c0_6, .int .i64 a0_7, .slice A0_8 l0_8.length c0_8, .slice A0_9 l0_9.length c0_9] 30 (0, 0)) (by (with_reducible repeat (first | refine kN ?_ _ | refine kZ ?_ | refine kA ?_ _)); exact BK496.out)) : gb497 ≠ gb496)); clear BK496; clear HB; have BK496 := n0_; have HB := n1_; have BK497 := n2_; have GW497 := n3_; have GE497 := n4_; have NB496_497 := n5_; have NB497_496 := n6_; clear n0_ n1_ n2_ n3_ n4_ n5_ n6_; clear hb hbox hg) | ((with_reducible refine gate_dst (N := 3) rfl ?_); refine Kd.R_lit (Kd.int .i64) _ 3 ?hg (N := 3) ?hd (xs := ([] : List Int)) (inner := []) (ok := fun _ => True) (okp := fun _ => True) ?hr ?hp (fun _ hk => hk) trivial (Below.refl _ _) (Nat.le_refl _) (by simp) ?_; (case hd => rfl); (case hg => rfl); (case hr => first | (go_simp; done) | (go_simp; rfl)); (case hp => exact (Reps.none _ _)); intro v499 w8 ho9 hb hg_ hnew_; clear hg_ hnew_; (first | rw [← Ny498.out] at ho9 | (simp only [Int.reduceToNat] at ho9; rw [← Ny498.out] at ho9)); have n0_ := Aside0.mk (Kd.R_lower ho9 (below_size (by repeat (first | (with_reducible first | exact HB.out | apply bA | apply bN | apply bD | refine bS ?_ GE496.out | refine bS ?_ GE497.out) | exact HB.out)))); have n1_ := Aside0.mk (blk_below (g := gb496) (o := .cells #[.int .i64 a0_0, .int .i64 a0_1, .int .i64 a0_2, .int .i64 a0_3, .int .i64 a0_4, .slice A0_5 l0_5.length c0_5, .slice A0_6 l0_6.length c0_6, .int .i64 a0_7, .slice A0_8 l0_8.length c0_8, .slice A0_9 l0_9.length c0_9] 30 (0, 0)) (by (with_reducible repeat (first | refine kN ?_ _ | refine kZ ?_ | refine kA ?_ _)); exact BK496.out) hb); have n2_ := Aside0.mk (blk_below (g := gb497) (o := .cells #[.int .i64 0, .int .i64 0, .int .i64 0, .int .i64 0, .int .i64 0, .slice none 0 0, .slice none 0 0, .int .i64 0, .slice none 0 0, .slice none 0 0] 30 (0, 0)) (by (with_reducible repeat (first | refine kN ?_ _ | refine kZ ?_ | refine kA ?_ _)); exact BK497.out) hb); have n3_ := Aside0.mk (below_step (by repeat (first | (with_reducible first | exact HB.out | apply bA | apply bN | apply bD | refine bS ?_ GE496.out | refine bS ?_ GE497.out) | exact HB.out)) hb); clear BK496; clear BK497; clear HB; have HO500 := n0_; have BK496 := n1_; have BK497 := n2_; have HB := n3_; clear n0_ n1_ n2_ n3_; clear hb ho9; have hnb10 := NB496_497.out; have hnc10 := NB497_496.out; obtain ⟨hcz11_0, hcz11_1, hcz11_2, hcz11_3, hcz11_4, hcz11_5, hcz11_6, hcz11_7, hcz11_8, hcz11_9⟩ := ten_cells BK496.out; have hfz11 := ten_free BK496.out) | ((with_reducible refine gate_builtin (b := .append) (xs := #[.tmp 3, .tmp 5]) rfl ?_); at_builtin; refine Kd.R_append_rows (Kd.int .i64) (w0 := w) w.heap.size rfl (.tmp 3) (.tmp 5) 25 3 (.int .i64 0) 8 rfl Try.underlying25 info3 rfl (by decide) (by omega) v499 y498 l0_5 _ _ _ (fun _ => True) (fun _ => False) rfl rfl ?aO ?aR (fun _ _ h => h) (fun _ h => h.elim) ?aF ?aB ?aS ?aL ?_; (case aR => repeat (first | exact (Kd.C_below HR0_5.out HB.out) | (with_reducible refine qA ?_ _) | (with_reducible refine qN ?_ _) | (with_reducible refine qZ ?_))); (case aB => exact (by repeat (first | (with_reducible first | exact HB.out | apply bA | apply bN | apply bD | refine bS ?_ GE496.out | refine bS ?_ GE497.out) | exact HB.out))); (case aF => exact (fun _ _ => trivial)); (case aO => exact (by (with_reducible repeat (first | apply rA | apply rN | apply rZ)); exact HO500.out)); (case aS => exact (below_size (by repeat (first | (with_reducible first | exact HB.out | apply bA | apply bN | apply bD | refine bS ?_ GE496.out | refine bS ?_ GE497.out) | exact HB.out)))); (case aL => have := LMc2.out; omega); intro v502 w12 ho hb hg hat; rw [← Ny501.out] at ho; have n0_ := Aside0.mk (blk_grown (g := gb496) (o := .cells #[.int .i64 a0_0, .int .i64 a0_1, .int .i64 a0_2, .int .i64 a0_3, .int .i64 a0_4, .slice A0_5 l0_5.length c0_5, .slice A0_6 l0_6.length c0_6, .int .i64 a0_7, .slice A0_8 l0_8.length c0_8, .slice A0_9 l0_9.length c0_9] 30 (0, 0)) (by (with_reducible repeat (first | refine kN ?_ _ | refine kZ ?_ | refine kA ?_ _)); exact BK496.out) hg (Kd.R_ne HO500.out BK496.out (by decide))); have n1_ := Aside0.mk (blk_grown (g := gb497) (o := .cells #[.int .i64 0, .int .i64 0, .int .i64 0, .int .i64 0, .int .i64 0, .slice none 0 0, .slice none 0 0, .int .i64 0, .slice none 0 0, .slice none 0 0] 30 (0, 0)) (by (with_reducible repeat (first | refine kN ?_ _ | refine kZ ?_ | refine kA ?_ _)); exact BK497.out) hg (Kd.R_ne HO500.out BK497.out (by decide))); have n2_ := Aside0.mk (hb); have n3_ := Aside0.mk (ho); clear BK496; clear BK497; clear HB; clear HO500; have BK496 := n0_; have BK497 := n1_; have HB := n2_; have HO503 := n3_; clear n0_ n1_ n2_ n3_; clear ho hb hg hat; obtain ⟨Ao13, co13, eo13⟩ := Kd.R_slice HO503.out; subst eo13; obtain ⟨hcz14_0, hcz14_1, hcz14_2, hcz14_3, hcz14_4, hcz14_5, hcz14_6, hcz14_7, hcz14_8, hcz14_9⟩ := ten_cells BK496.out; have hfz14 := ten_free BK496.out) | ((with_reducible refine gate_dst (N := 8) rfl ?_); refine Kd.R_lit k52 _ 52 ?hg (N := 8) ?hd (xs := ([] : List (S52))) (inner := []) (ok := fun _ => True) (okp := fun _ => True) ?hr ?hp (fun _ hk => hk) trivial (Below.refl _ _) (Nat.le_refl _) (by simp) ?_; (case hd => rfl); (case hg => rfl); (case hr => first | (go_simp; done) | (go_simp; rfl)); (case hp => exact (Reps.none _ _)); intro v505 w15 ho16 hb hg_ hnew_; clear hg_ hnew_; (first | rw [← Ny504.out] at ho16 | (simp only [Int.reduceToNat] at ho16; rw [← Ny504.out] at ho16)); have n0_ := Aside0.mk (Kd.R_below (by (with_reducible repeat (first | apply rA | apply rN | apply rZ)); exact (Kd.R_mono (Kd.R_far (p := ⟨gb496, 5, none⟩) (Kd.R_types HO503.out BK496.out (by decide)) (fun _ hk => hk.2) (.slice Ao13 y501.length co13)) (fun _ h_ => h_.1))) hb); have n1_ := Aside0.mk (Kd.R_lower ho16 (below_size (by repeat (first | (with_reducible first | exact HB.out | apply bA | apply bN | apply bD | refine bS ?_ GE496.out | refine bS ?_ GE497.out) | exact HB.out)))); have n2_ := Aside0.mk (blk_below (g := gb496) (o := .cells #[.int .i64 a0_0, .int .i64 a0_1, .int .i64 a0_2, .int .i64 a0_3, .int .i64 a0_4, .slice Ao13 y501.length co13, .slice A0_6 l0_6.length c0_6, .int .i64 a0_7, .slice A0_8 l0_8.length c0_8, .slice A0_9 l0_9.length c0_9] 30 (0, 0)) (by (with_reducible repeat (first | refine kN ?_ _ | refine kZ ?_ | refine kA ?_ _)); refine blk_put (cs := #[.int .i64 a0_0, .int .i64 a0_1, .int .i64 a0_2, .int .i64 a0_3, .int .i64 a0_4, .slice A0_5 l0_5.length c0_5, .slice A0_6 l0_6.length c0_6, .int .i64 a0_7, .slice A0_8 l0_8.length c0_8, .slice A0_9 l0_9.length c0_9]) ?_ 5 _ rfl; (with_reducible repeat (first | refine kN ?_ _ | refine kZ ?_ | refine kA ?_ _)); exact BK496.out) hb); have n3_ := Aside0.mk (blk_below (g := gb497) (o := .cells #[.int .i64 0, .int .i64 0, .int .i64 0, .int .i64 0, .int .i64 0, .slice none 0 0, .slice none 0 0, .int .i64 0, .slice none 0 0, .slice none 0 0] 30 (0, 0)) (by (with_reducible repeat (first | refine kN ?_ _ | refine kZ ?_ | refine kA ?_ _)); refine blk_far ?_ NB497_496.out _; (with_reducible repeat (first | refine kN ?_ _ | refine kZ ?_ | refine kA ?_ _)); exact BK497.out) hb); have n4_ := Aside0.mk (below_step (by repeat (first | (with_reducible first | exact HB.out | apply bA | apply bN | apply bD | refine bS ?_ GE496.out | refine bS ?_ GE497.out) | exact HB.out)) hb); clear HO503; clear BK496; clear BK497; clear HB; have HO503 := n0_; have HO506 := n1_; have BK496 := n2_; have BK497 := n3_; have HB := n4_; clear n0_ n1_ n2_ n3_ n4_; clear hb ho16; obtain ⟨hcz17_0, hcz17_1, hcz17_2, hcz17_3, hcz17_4, hcz17_5, hcz17_6, hcz17_7, hcz17_8, hcz17_9⟩ := ten_cells BK496.out; have hfz17 := ten_free BK496.out) | ((with_reducible refine gate_builtin (b := .append) (xs := #[.tmp 8, .tmp 10]) rfl ?_); at_builtin; refine Kd.R_append_rows k52 (w0 := w) w.heap.size rfl (.tmp 8) (.tmp 10) 26 52 (.agg #[(.int .i64 0), (.int .i64 0)]) 16 rfl Try.underlying26 info52 rfl (by decide) (by omega) v505 y504 l0_6 _ _ _ (fun _ => True) (fun _ => False) rfl rfl ?aO ?aR (fun _ _ h => h) (fun _ h => h.elim) ?aF ?aB ?aS ?aL ?_; (case aR => repeat (first | exact (Kd.C_below HR0_6.out HB.out) | (with_reducible refine qA ?_ _) | (with_reducible refine qN ?_ _) | (with_reducible refine qZ ?_))); (case aB => exact (by repeat (first | (with_reducible first | exact HB.out | apply bA | apply bN | apply bD | refine bS ?_ GE496.out | refine bS ?_ GE497.out) | exact HB.out))); (case aF => exact (fun _ _ => trivial)); (case aO => exact (by (with_reducible repeat (first | apply rA | apply rN | apply rZ)); exact HO506.out)); (case aS => exact (below_size (by repeat (first | (with_reducible first | exact HB.out | apply bA | apply bN | apply bD | refine bS ?_ GE496.out | refine bS ?_ GE497.out) | exact HB.out)))); (case aL => have := LMc3.out; omega); intro v508 w18 ho hb hg hat; rw [← Ny507.out] at ho; have n0_ := Aside0.mk (blk_grown (g := gb496) (o := .cells #[.int .i64 a0_0, .int .i64 a0_1, .int .i64 a0_2, .int .i64 a0_3, .int .i64 a0_4, .slice Ao13 y501.length co13, .slice A0_6 l0_6.length c0_6, .int .i64 a0_7, .slice A0_8 l0_8.length c0_8, .slice A0_9 l0_9.length c0_9] 30 (0, 0)) (by (with_reducible repeat (first | refine kN ?_ _ | refine kZ ?_ | refine kA ?_ _)); exact BK496.out) hg (Kd.R_ne HO506.out BK496.out (by decide))); have n1_ := Aside0.mk (blk_grown (g := gb497) (o := .cells #[.int .i64 0, .int .i64 0, .int .i64 0, .int .i64 0, .int .i64 0, .slice none 0 0, .slice none 0 0, .int .i64 0, .slice none 0 0, .slice none 0 0] 30 (0, 0)) (by (with_reducible repeat (first | refine kN ?_ _ | refine kZ ?_ | refine kA ?_ _)); exact BK497.out) hg (Kd.R_ne HO506.out BK497.out (by decide))); have n2_ := Aside0.mk (Kd.R_over' (by (with_reducible repeat (first | apply rA | apply rN | apply rZ)); exact HO503.out) (Kd.R_typed (by (with_reducible repeat (first | apply rA | apply rN | apply rZ)); exact HO506.out)) (by decide) hg); have n3_ := Aside0.mk (hb); have n4_ := Aside0.mk (ho); clear BK496; clear BK497; clear HO503; clear HB; clear HO506; have BK496 := n0_; have BK497 := n1_; have HO503 := n2_; have HB := n3_; have HO509 := n4_; clear n0_ n1_ n2_ n3_ n4_; clear ho hb hg hat; obtain ⟨Ao19, co19, eo19⟩ := Kd.R_slice HO509.out; subst eo19; obtain ⟨hcz20_0, hcz20_1, hcz20_2, hcz20_3, hcz20_4, hcz20_5, hcz20_6, hcz20_7, hcz20_8, hcz20_9⟩ := ten_cells BK496.out; have hfz20 := ten_free BK496.out) | ((with_reducible refine gate_dst (N := 13) rfl ?_); refine Kd.R_lit k54 _ 54 ?hg (N := 13) ?hd (xs := ([] : List (S54))) (inner := []) (ok := fun _ => True) (okp := fun _ => True) ?hr ?hp (fun _ hk => hk) trivial (Below.refl _ _) (Nat.le_refl _) (by simp) ?_; (case hd => rfl); (case hg => rfl); (case hr => first | (go_simp; done) | (go_simp; rfl)); (case hp => exact (Reps.none _ _)); intro v511 w21 ho22 hb hg_ hnew_; clear hg_ hnew_; (first | rw [← Ny510.out] at ho22 | (simp only [Int.reduceToNat] at ho22; rw [← Ny510.out] at ho22)); have n0_ := Aside0.mk (Kd.R_below (by (with_reducible repeat (first | apply rA | apply rN | apply rZ)); exact (Kd.R_mono (Kd.R_far (p := ⟨gb496, 6, none⟩) (Kd.R_types HO503.out BK496.out (by decide)) (fun _ hk => hk.2) (.slice Ao19 y507.length co19)) (fun _ h_ => h_.1))) hb); have n1_ := Aside0.mk (Kd.R_below (by (with_reducible repeat (first | apply rA | apply rN | apply rZ)); exact (Kd.R_mono (Kd.R_far (p := ⟨gb496, 6, none⟩) (Kd.R_types HO509.out BK496.out (by decide)) (fun _ hk => hk.2) (.slice Ao19 y507.length co19)) (fun _ h_ => h_.1))) hb); have n2_ := Aside0.mk (Kd.R_lower ho22 (below_size (by repeat (first | (with_reducible first | exact HB.out | apply bA | apply bN | apply bD | refine bS ?_ GE496.out | refine bS ?_ GE497.out) | exact HB.out)))); have n3_ := Aside0.mk (blk_below (g := gb496) (o := .cells #[.int .i64 a0_0, .int .i64 a0_1, .int .i64 a0_2, .int .i64 a0_3, .int .i64 a0_4, .slice Ao13 y501.length co13, .slice Ao19 y507.length co19, .int .i64 a0_7, .slice A0_8 l0_8.length c0_8, .slice A0_9 l0_9.length c0_9] 30 (0, 0)) (by (with_reducible repeat (first | refine kN ?_ _ | refine kZ ?_ | refine kA ?_ _)); refine blk_put (cs := #[.int .i64 a0_0, .int .i64 a0_1, .int .i64 a0_2, .int .i64 a0_3, .int .i64 a0_4, .slice Ao13 y501.length co13, .slice A0_6 l0_6.length c0_6, .int .i64 a0_7, .slice A0_8 l0_8.length c0_8, .slice A0_9 l0_9.length c0_9]) ?_ 6 _ rfl; (with_reducible repeat (first | refine kN ?_ _ | refine kZ ?_ | refine kA ?_ _)); exact BK496.out) hb); have n4_ := Aside0.mk (blk_below (g := gb497) (o := .cells #[.int .i64 0, .int .i64 0, .int .i64 0, .int .i64 0, .int .i64 0, .slice none 0 0, .slice none 0 0, .int .i64 0, .slice none 0 0, .slice none 0 0] 30 (0, 0)) (by (with_reducible repeat (first | refine kN ?_ _ | refine kZ ?_ | refine kA ?_ _)); refine blk_far ?_ NB497_496.out _; (with_reducible repeat (first | refine kN ?_ _ | refine kZ ?_ | refine kA ?_ _)); exact BK497.out) hb); have n5_ := Aside0.mk (below_step (by repeat (first | (with_reducible first | exact HB.out | apply bA | apply bN | apply bD | refine bS ?_ GE496.out | refine bS ?_ GE497.out) | exact HB.out)) hb); clear HO503; clear HO509; clear BK496; clear BK497; clear HB; have HO503 := n0_; have HO509 := n1_; have HO512 := n2_; have BK496 := n3_; have BK497 := n4_; have HB := n5_; clear n0_ n1_ n2_ n3_ n4_ n5_; clear hb ho22; obtain ⟨hcz23_0, hcz23_1, hcz23_2, hcz23_3, hcz23_4, hcz23_5, hcz23_6, hcz23_7, hcz23_8, hcz23_9⟩ := ten_cells BK496.out; have hfz23 := ten_free BK496.out) | ((with_reducible refine gate_builtin (b := .append) (xs := #[.tmp 13, .tmp 15]) rfl ?_); at_builtin; refine Kd.R_append_rows k54 (w0 := w) w.heap.size rfl (.tmp 13) (.tmp 15) 27 54 (.agg #[(.int .i64 0), (.int .i64 0)]) 16 rfl Try.underlying27 info54 rfl (by decide) (by omega) v511 y510 l0_8 _ _ _ (fun _ => True) (fun _ => False) rfl rfl ?aO ?aR (fun _ _ h => h) (fun _ h => h.elim) ?aF ?aB ?aS ?aL ?_; (case aR => repeat (first | exact (Kd.C_below HR0_8.out HB.out) | (with_reducible refine qA ?_ _) | (with_reducible refine qN ?_ _) | (with_reducible refine qZ ?_))); (case aB => exact (by repeat (first | (with_reducible first | exact HB.out | apply bA | apply bN | apply bD | refine bS ?_ GE496.out | refine bS ?_ GE497.out) | exact HB.out))); (case aF => exact (fun _ _ => trivial)); (case aO => exact (by (with_reducible repeat (first | apply rA | apply rN | apply rZ)); exact HO512.out)); (case aS => exact (below_size (by repeat (first | (with_reducible first | exact HB.out | apply bA | apply bN | apply bD | refine bS ?_ GE496.out | refine bS ?_ GE497.out) | exact HB.out)))); (case aL => have := LMc4.out; omega); intro v514 w24 ho hb hg hat; rw [← Ny513.out] at ho; have n0_ := Aside0.mk (blk_grown (g := gb496) (o := .cells #[.int .i64 a0_0, .int .i64 a0_1, .int .i64 a0_2, .int .i64 a0_3, .int .i64 a0_4, .slice Ao13 y501.length co13, .slice Ao19 y507.length co19, .int .i64 a0_7, .slice A0_8 l0_8.length c0_8, .slice A0_9 l0_9.length c0_9] 30 (0, 0)) (by (with_reducible repeat (first | refine kN ?_ _ | refine kZ ?_ | refine kA ?_ _)); exact BK496.out) hg (Kd.R_ne HO512.out BK496.out (by decide))); have n1_ := Aside0.mk (blk_grown (g := gb497) (o := .cells #[.int .i64 0, .int .i64 0, .int .i64 0, .int .i64 0, .int .i64 0, .slice none 0 0, .slice none 0 0, .int .i64 0, .slice none 0 0, .slice none 0 0] 30 (0, 0)) (by (with_reducible repeat (first | refine kN ?_ _ | refine kZ ?_ | refine kA ?_ _)); exact BK497.out) hg (Kd.R_ne HO512.out BK497.out (by decide))); have n2_ := Aside0.mk (Kd.R_over' (by (with_reducible repeat (first | apply rA | apply rN | apply rZ)); exact HO503.out) (Kd.R_typed (by (with_reducible repeat (first | apply rA | apply rN | apply rZ)); exact HO512.out)) (by decide) hg); have n3_ := Aside0.mk (Kd.R_over' (by (with_reducible repeat (first | apply rA | apply rN | apply rZ)); exact HO509.out) (Kd.R_typed (by (with_reducible repeat (first | apply rA | apply rN | apply rZ)); exact HO512.out)) (by decide) hg); have n4_ := Aside0.mk (hb); have n5_ := Aside0.mk (ho); clear BK496; clear BK497; clear HO503; clear HO509; clear HB; clear HO512; have BK496 := n0_; have BK497 := n1_; have HO503 := n2_; have HO509 := n3_; have HB := n4_; have HO515 := n5_; clear n0_ n1_ n2_ n3_ n4_ n5_; clear ho hb hg hat; obtain ⟨Ao25, co25, eo25⟩ := Kd.R_slice HO515.out; subst eo25; obtain ⟨hcz26_0, hcz26_1, hcz26_2, hcz26_3, hcz26_4, hcz26_5, hcz26_6, hcz26_7, hcz26_8, hcz26_9⟩ := ten_cells BK496.out; have hfz26 := ten_free BK496.out) | ((with_reducible refine gate_dst (N := 18) rfl ?_); refine Kd.R_lit k56 _ 56 ?hg (N := 18) ?hd (xs := ([] : List (S56))) (inner := []) (ok := fun _ => True) (okp := fun _ => True) ?hr ?hp (fun _ hk => hk) trivial (Below.refl _ _) (Nat.le_refl _) (by simp) ?_; (case hd => rfl); (case hg => rfl); (case hr => first | (go_simp; done) | (go_simp; rfl)); (case hp => exact (Reps.none _ _)); intro v517 w27 ho28 hb hg_ hnew_; clear hg_ hnew_; (first | rw [← Ny516.out] at ho28 | (simp only [Int.reduceToNat] at ho28; rw [← Ny516.out] at ho28)); have n0_ := Aside0.mk (Kd.R_below (by (with_reducible repeat (first | apply rA | apply rN | apply rZ)); exact (Kd.R_mono (Kd.R_far (p := ⟨gb496, 8, none⟩) (Kd.R_types HO503.out BK496.out (by decide)) (fun _ hk => hk.2) (.slice Ao25 y513.length co25)) (fun _ h_ => h_.1))) hb); have n1_ := Aside0.mk (Kd.R_below (by (with_reducible repeat (first | apply rA | apply rN | apply rZ)); exact (Kd.R_mono (Kd.R_far (p := ⟨gb496, 8, none⟩) (Kd.R_types HO509.out BK496.out (by decide)) (fun _ hk => hk.2) (.slice Ao25 y513.length co25)) (fun _ h_ => h_.1))) hb); have n2_ := Aside0.mk (Kd.R_below (by (with_reducible repeat (first | apply rA | apply rN | apply rZ)); exact (Kd.R_mono (Kd.R_far (p := ⟨gb496, 8, none⟩) (Kd.R_types HO515.out BK496.out (by decide)) (fun _ hk => hk.2) (.slice Ao25 y513.length co25)) (fun _ h_ => h_.1))) hb); have n3_ := Aside0.mk (Kd.R_lower ho28 (below_size (by repeat (first | (with_reducible first | exact HB.out | apply bA | apply bN | apply bD | refine bS ?_ GE496.out | refine bS ?_ GE497.out) | exact HB.out)))); have n4_ := Aside0.mk (blk_below (g := gb496) (o := .cells #[.int .i64 a0_0, .int .i64 a0_1, .int .i64 a0_2, .int .i64 a0_3, .int .i64 a0_4, .slice Ao13 y501.length co13, .slice Ao19 y507.length co19, .int .i64 a0_7, .slice Ao25 y513.length co25, .slice A0_9 l0_9.length c0_9] 30 (0, 0)) (by (with_reducible repeat (first | refine kN ?_ _ | refine kZ ?_ | refine kA ?_ _)); refine blk_put (cs := #[.int .i64 a0_0, .int .i64 a0_1, .int .i64 a0_2, .int .i64 a0_3, .int .i64 a0_4, .slice Ao13 y501.length co13, .slice Ao19 y507.length co19, .int .i64 a0_7, .slice A0_8 l0_8.length c0_8, .slice A0_9 l0_9.length c0_9]) ?_ 8 _ rfl; (with_reducible repeat (first | refine kN ?_ _ | refine kZ ?_ | refine kA ?_ _)); exact BK496.out) hb); have n5_ := Aside0.mk (blk_below (g := gb497) (o := .cells #[.int .i64 0, .int .i64 0, .int .i64 0, .int .i64 0, .int .i64 0, .slice none 0 0, .slice none 0 0, .int .i64 0, .slice none 0 0, .slice none 0 0] 30 (0, 0)) (by (with_reducible repeat (first | refine kN ?_ _ | refine kZ ?_ | refine kA ?_ _)); refine blk_far ?_ NB497_496.out _; (with_reducible repeat (first | refine kN ?_ _ | refine kZ ?_ | refine kA ?_ _)); exact BK497.out) hb); have n6_ := Aside0.mk (below_step (by repeat (first | (with_reducible first | exact HB.out | apply bA | apply bN | apply bD | refine bS ?_ GE496.out | refine bS ?_ GE497.out) | exact HB.out)) hb); clear HO503; clear HO509; clear HO515; clear BK496; clear BK497; clear HB; have HO503 := n0_; have HO509 := n1_; have HO515 := n2_; have HO518 := n3_; have BK496 := n4_; have BK497 := n5_; have HB := n6_; clear n0_ n1_ n2_ n3_ n4_ n5_ n6_; clear hb ho28; obtain ⟨hcz29_0, hcz29_1, hcz29_2, hcz29_3, hcz29_4, hcz29_5, hcz29_6, hcz29_7, hcz29_8, hcz29_9⟩ := ten_cells BK496.out; have hfz29 := ten_free BK496.out) | ((with_reducible refine gate_builtin (b := .append) (xs := #[.tmp 18, .tmp 20]) rfl ?_); at_builtin; refine Kd.R_append_rows k56 (w0 := w) w.heap.size rfl (.tmp 18) (.tmp 20) 28 56 (.agg #[(.int .i64 0), (.int .i64 0), (.int .i64 0), (.int .i64 0)]) 32 rfl Try.underlying28 info56 rfl (by decide) (by omega) v517 y516 l0_9 _ _ _ (fun _ => True) (fun _ => False) rfl rfl ?aO ?aR (fun _ _ h => h) (fun _ h => h.elim) ?aF ?aB ?aS ?aL ?_; (case aR => repeat (first | exact (Kd.C_below HR0_9.out HB.out) | (with_reducible refine qA ?_ _) | (with_reducible refine qN ?_ _) | (with_reducible refine qZ ?_))); (case aB => exact (by repeat (first | (with_reducible first | exact HB.out | apply bA | apply bN | apply bD | refine bS ?_ GE496.out | refine bS ?_ GE497.out) | exact HB.out))); (case aF => exact (fun _ _ => trivial)); (case aO => exact (by (with_reducible repeat (first | apply rA | apply rN | apply rZ)); exact HO518.out)); (case aS => exact (below_size (by repeat (first | (with_reducible first | exact HB.out | apply bA | apply bN | apply bD | refine bS ?_ GE496.out | refine bS ?_ GE497.out) | exact HB.out)))); (case aL => have := LMc5.out; omega); intro v520 w30 ho hb hg hat; rw [← Ny519.out] at ho; have n0_ := Aside0.mk (blk_grown (g := gb496) (o := .cells #[.int .i64 a0_0, .int .i64 a0_1, .int .i64 a0_2, .int .i64 a0_3, .int .i64 a0_4, .slice Ao13 y501.length co13, .slice Ao19 y507.length co19, .int .i64 a0_7, .slice Ao25 y513.length co25, .slice A0_9 l0_9.length c0_9] 30 (0, 0)) (by (with_reducible repeat (first | refine kN ?_ _ | refine kZ ?_ | refine kA ?_ _)); exact BK496.out) hg (Kd.R_ne HO518.out BK496.out (by decide))); have n1_ := Aside0.mk (blk_grown (g := gb497) (o := .cells #[.int .i64 0, .int .i64 0, .int .i64 0, .int .i64 0, .int .i64 0, .slice none 0 0, .slice none 0 0, .int .i64 0, .slice none 0 0, .slice none 0 0] 30 (0, 0)) (by (with_reducible repeat (first | refine kN ?_ _ | refine kZ ?_ | refine kA ?_ _)); exact BK497.out) hg (Kd.R_ne HO518.out BK497.out (by decide))); have n2_ := Aside0.mk (Kd.R_over' (by (with_reducible repeat (first | apply rA | apply rN | apply rZ)); exact HO503.out) (Kd.R_typed (by (with_reducible repeat (first | apply rA | apply rN | apply rZ)); exact HO518.out)) (by decide) hg); have n3_ := Aside0.mk (Kd.R_over' (by (with_reducible repeat (first | apply rA | apply rN | apply rZ)); exact HO509.out) (Kd.R_typed (by (with_reducible repeat (first | apply rA | apply rN | apply rZ)); exact HO518.out)) (by decide) hg); have n4_ := Aside0.mk (Kd.R_over' (by (with_reducible repeat (first | apply rA | apply rN | apply rZ)); exact HO515.out) (Kd.R_typed (by (with_reducible repeat (first | apply rA | apply rN | apply rZ)); exact HO518.out)) (by decide) hg); have n5_ := Aside0.mk (hb); have n6_ := Aside0.mk (ho); clear BK496; clear BK497; clear HO503; clear HO509; clear HO515; clear HB; clear HO518; have BK496 := n0_; have BK497 := n1_; have HO503 := n2_; have HO509 := n3_; have HO515 := n4_; have HB := n5_; have HO521 := n6_; clear n0_ n1_ n2_ n3_ n4_ n5_ n6_; clear ho hb hg hat; obtain ⟨Ao31, co31, eo31⟩ := Kd.R_slice HO521.out; subst eo31; obtain ⟨hcz32_0, hcz32_1, hcz32_2, hcz32_3, hcz32_4, hcz32_5, hcz32_6, hcz32_7, hcz32_8, hcz32_9⟩ := ten_cells BK496.out; have hfz32 := ten_free BK496.out; obtain ⟨hcz33_0, hcz33_1, hcz33_2, hcz33_3, hcz33_4, hcz33_5, hcz33_6, hcz33_7, hcz33_8, hcz33_9⟩ := ten_cells BK497.out; have hfz33 := ten_free BK497.out))
     refine bodyPost_ret (results_cell_row rfl _ _ gb497 30 #[.int .i64 a0_0, .int .i64 a0_1, .int .i64 a0_2, .int .i64 a0_3, .int .i64 a0_4, .slice Ao13 y501.length co13, .slice Ao19 y507.length co19, .int .i64 a0_7, .slice Ao25 y513.length co25, .slice Ao31 y519.length co31] (0, 0) _ rfl (by (with_reducible repeat (first | refine kN ?_ _ | refine kZ ?_ | refine kA ?_ _)); refine blk_put (cs := #[.int .i64 a0_0, .int .i64 a0_1, .int .i64 a0_2, .int .i64 a0_3, .int .i64 a0_4, .slice Ao13 y501.length co13, .slice Ao19 y507.length co19, .int .i64 a0_7, .slice Ao25 y513.length co25, .slice none 0 0]) ?_ 9 _ rfl; (with_reducible repeat (first | refine kN ?_ _ | refine kZ ?_ | refine kA ?_ _)); refine blk_put (cs := #[.int .i64 a0_0, .int .i64 a0_1, .int .i64 a0_2, .int .i64 a0_3, .int .i64 a0_4, .slice Ao13 y501.length co13, .slice Ao19 y507.length co19, .int .i64 a0_7, .slice none 0 0, .slice none 0 0]) ?_ 8 _ rfl; (with_reducible repeat (first | refine kN ?_ _ | refine kZ ?_ | refine kA ?_ _)); refine blk_put (cs := #[.int .i64 a0_0, .int .i64 a0_1, .int .i64 a0_2, .int .i64 a0_3, .int .i64 a0_4, .slice Ao13 y501.length co13, .slice Ao19 y507.length co19, .int .i64 0, .slice none 0 0, .slice none 0 0]) ?_ 7 _ rfl; (with_reducible repeat (first | refine kN ?_ _ | refine kZ ?_ | refine kA ?_ _)); refine blk_put (cs := #[.int .i64 a0_0, .int .i64 a0_1, .int .i64 a0_2, .int .i64 a0_3, .int .i64 a0_4, .slice Ao13 y501.length co13, .slice none 0 0, .int .i64 0, .slice none 0 0, .slice none 0 0]) ?_ 6 _ rfl; (with_reducible repeat (first | refine kN ?_ _ | refine kZ ?_ | refine kA ?_ _)); refine blk_put (cs := #[.int .i64 a0_0, .int .i64 a0_1, .int .i64 a0_2, .int .i64 a0_3, .int .i64 a0_4, .slice none 0 0, .slice none 0 0, .int .i64 0, .slice none 0 0, .slice none 0 0]) ?_ 5 _ rfl; (with_reducible repeat (first | refine kN ?_ _ | refine kZ ?_ | refine kA ?_ _)); refine blk_put (cs := #[.int .i64 a0_0, .int .i64 a0_1, .int .i64 a0_2, .int .i64 a0_3, .int .i64 0, .slice none 0 0, .slice none 0 0, .int .i64 0, .slice none 0 0, .slice none 0 0]) ?_ 4 _ rfl; (with_reducible repeat (first | refine kN ?_ _ | refine kZ ?_ | refine kA ?_ _)); refine blk_put (cs := #[.int .i64 a0_0, .int .i64 a0_1, .int .i64 a0_2, .int .i64 0, .int .i64 0, .slice none 0 0, .slice none 0 0, .int .i64 0, .slice none 0 0, .slice none 0 0]) ?_ 3 _ rfl; (with_reducible repeat (first | refine kN ?_ _ | refine kZ ?_ | refine kA ?_ _)); refine blk_put (cs := #[.int .i64 a0_0, .int .i64 a0_1, .int .i64 0, .int .i64 0, .int .i64 0, .slice none 0 0, .slice none 0 0, .int .i64 0, .slice none 0 0, .slice none 0 0]) ?_ 2 _ rfl; (with_reducible repeat (first | refine kN ?_ _ | refine kZ ?_ | refine kA ?_ _)); refine blk_put (cs := #[.int .i64 a0_0, .int .i64 0, .int .i64 0, .int .i64 0, .int .i64 0, .slice none 0 0, .slice none 0 0, .int .i64 0, .slice none 0 0, .slice none 0 0]) ?_ 1 _ rfl; (with_reducible repeat (first | refine kN ?_ _ | refine kZ ?_ | refine kA ?_ _)); refine blk_put (cs := #[.int .i64 0, .int .i64 0, .int .i64 0, .int .i64 0, .int .i64 0, .slice none 0 0, .slice none 0 0, .int .i64 0, .slice none 0 0, .slice none 0 0]) ?_ 0 _ rfl; (with_reducible repeat (first | refine kN ?_ _ | refine kZ ?_ | refine kA ?_ _)); refine blk_far ?_ NB497_496.out _; (with_reducible repeat (first | refine kN ?_ _ | refine kZ ?_ | refine kA ?_ _)); exact BK497.out) Try.underlying30 rfl (by kernel_rfl)) rfl ?_
     exact ⟨_, _, _, _, by first | rfl | (simp [errW_none, errW_some] <;> rfl) | (simp [*, errW_none, errW_some] <;> rfl), by (with_reducible repeat (first | apply rA | apply rN | apply rZ)); exact Kd.R_mono (Kd.R_far (p := ⟨gb497, 9, none⟩) (Kd.R_far (p := ⟨gb497, 8, none⟩) (Kd.R_far (p := ⟨gb497, 7, none⟩) (Kd.R_far (p := ⟨gb497, 6, none⟩) (Kd.R_far (p := ⟨gb497, 5, none⟩) (Kd.R_far (p := ⟨gb497, 4, none⟩) (Kd.R_far (p := ⟨gb497, 3, none⟩) (Kd.R_far (p := ⟨gb497, 2, none⟩) (Kd.R_far (p := ⟨gb497, 1, none⟩) (Kd.R_far (p := ⟨gb497, 0, none⟩) (Kd.R_far (p := ⟨gb496, 9, none⟩) (Kd.R_types (Kd.R_types HO503.out BK496.out (by decide)) BK497.out (by decide)) (fun _ hk => hk.1.2) (.slice Ao31 y519.length co31)) (fun _ hk => hk.2) (.int .i64 a0_0)) (fun _ hk => hk.2) (.int .i64 a0_1)) (fun _ hk => hk.2) (.int .i64 a0_2)) (fun _ hk => hk.2) (.int .i64 a0_3)) (fun _ hk => hk.2) (.int .i64 a0_4)) (fun _ hk => hk.2) (.slice Ao13 y501.length co13)) (fun _ hk => hk.2) (.slice Ao19 y507.length co19)) (fun _ hk => hk.2) (.int .i64 a0_7)) (fun _ hk => hk.2) (.slice Ao25 y513.length co25)) (fun _ hk => hk.2) (.slice Ao31 y519.length co31)) (fun _ hk => trivial), by (with_reducible repeat (first | apply rA | apply rN | apply rZ)); exact Kd.R_mono (Kd.R_far (p := ⟨gb497, 9, none⟩) (Kd.R_far (p := ⟨gb497, 8, none⟩) (Kd.R_far (p := ⟨gb497, 7, none⟩) (Kd.R_far (p := ⟨gb497, 6, none⟩) (Kd.R_far (p := ⟨gb497, 5, none⟩) (Kd.R_far (p := ⟨gb497, 4, none⟩) (Kd.R_far (p := ⟨gb497, 3, none⟩) (Kd.R_far (p := ⟨gb497, 2, none⟩) (Kd.R_far (p := ⟨gb497, 1, none⟩) (Kd.R_far (p := ⟨gb497, 0, none⟩) (Kd.R_far (p := ⟨gb496, 9, none⟩) (Kd.R_types (Kd.R_types HO509.out BK496.out (by decide)) BK497.out (by decide)) (fun _ hk => hk.1.2) (.slice Ao31 y519.length co31)) (fun _ hk => hk.2) (.int .i64 a0_0)) (fun _ hk => hk.2) (.int .i64 a0_1)) (fun _ hk => hk.2) (.int .i64 a0_2)) (fun _ hk => hk.2) (.int .i64 a0_3)) (fun _ hk => hk.2) (.int .i64 a0_4)) (fun _ hk => hk.2) (.slice Ao13 y501.length co13)) (fun _ hk => hk.2) (.slice Ao19 y507.length co19)) (fun _ hk => hk.2) (.int .i64 a0_7)) (fun _ hk => hk.2) (.slice Ao25 y513.length co25)) (fun _ hk => hk.2) (.slice Ao31 y519.length co31)) (fun _ hk => trivial), by (with_reducible repeat (first | apply rA | apply rN | apply rZ)); exact Kd.R_mono (Kd.R_far (p := ⟨gb497, 9, none⟩) (Kd.R_far (p := ⟨gb497, 8, none⟩) (Kd.R_far (p := ⟨gb497, 7, none⟩) (Kd.R_far (p := ⟨gb497, 6, none⟩) (Kd.R_far (p := ⟨gb497, 5, none⟩) (Kd.R_far (p := ⟨gb497, 4, none⟩) (Kd.R_far (p := ⟨gb497, 3, none⟩) (Kd.R_far (p := ⟨gb497, 2, none⟩) (Kd.R_far (p := ⟨gb497, 1, none⟩) (Kd.R_far (p := ⟨gb497, 0, none⟩) (Kd.R_far (p := ⟨gb496, 9, none⟩) (Kd.R_types (Kd.R_types HO515.out BK496.out (by decide)) BK497.out (by decide)) (fun _ hk => hk.1.2) (.slice Ao31 y519.length co31)) (fun _ hk => hk.2) (.int .i64 a0_0)) (fun _ hk => hk.2) (.int .i64 a0_1)) (fun _ hk => hk.2) (.int .i64 a0_2)) (fun _ hk => hk.2) (.int .i64 a0_3)) (fun _ hk => hk.2) (.int .i64 a0_4)) (fun _ hk => hk.2) (.slice Ao13 y501.length co13)) (fun _ hk => hk.2) (.slice Ao19 y507.length co19)) (fun _ hk => hk.2) (.int .i64 a0_7)) (fun _ hk => hk.2) (.slice Ao25 y513.length co25)) (fun _ hk => hk.2) (.slice Ao31 y519.length co31)) (fun _ hk => trivial), by (with_reducible repeat (first | apply rA | apply rN | apply rZ)); exact Kd.R_mono (Kd.R_far (p := ⟨gb497, 9, none⟩) (Kd.R_far (p := ⟨gb497, 8, none⟩) (Kd.R_far (p := ⟨gb497, 7, none⟩) (Kd.R_far (p := ⟨gb497, 6, none⟩) (Kd.R_far (p := ⟨gb497, 5, none⟩) (Kd.R_far (p := ⟨gb497, 4, none⟩) (Kd.R_far (p := ⟨gb497, 3, none⟩) (Kd.R_far (p := ⟨gb497, 2, none⟩) (Kd.R_far (p := ⟨gb497, 1, none⟩) (Kd.R_far (p := ⟨gb497, 0, none⟩) (Kd.R_far (p := ⟨gb496, 9, none⟩) (Kd.R_types (Kd.R_types HO521.out BK496.out (by decide)) BK497.out (by decide)) (fun _ hk => hk.1.2) (.slice Ao31 y519.length co31)) (fun _ hk => hk.2) (.int .i64 a0_0)) (fun _ hk => hk.2) (.int .i64 a0_1)) (fun _ hk => hk.2) (.int .i64 a0_2)) (fun _ hk => hk.2) (.int .i64 a0_3)) (fun _ hk => hk.2) (.int .i64 a0_4)) (fun _ hk => hk.2) (.slice Ao13 y501.length co13)) (fun _ hk => hk.2) (.slice Ao19 y507.length co19)) (fun _ hk => hk.2) (.int .i64 a0_7)) (fun _ hk => hk.2) (.slice Ao25 y513.length co25)) (fun _ hk => hk.2) (.slice Ao31 y519.length co31)) (fun _ hk => trivial), by repeat (first | (with_reducible first | exact HB.out | apply bA | apply bN | apply bD | refine bS ?_ GE496.out | refine bS ?_ GE497.out) | exact HB.out)⟩
    ·rw [if_neg c5] at H
     exact absurd H (by simp)
   ·rw [if_neg c4] at H
    exact absurd H (by simp)
  ·rw [if_neg c3] at H
   exact absurd H (by simp)
 ·rw [if_neg c2] at H
  exact absurd H (by simp)
end Go.Proofs.Ytcplblpmgajmnaa.A
namespace Go.Proofs.Ytcplblpmgajmnaa.A
open Go.RowKit Go.Proofs.YtcplblpmgajmnaaW.PrintWords Go.Proofs.YtcplblpmgajmnaaW.PrintLast Go.Proofs.YtcplblpmgajmnaaW.PrintMore
set_option linter.unusedVariables false
set_option linter.unusedSimpArgs false
theorem copied_fw {r : Rec} (h : r.Wide) : palimpsestlaw16_copied.f r.k r.t r.p r.g r.o r.args r.imgs r.n r.di r.ac = some (r.k, r.t, r.p, r.g, r.o, r.args, r.imgs, r.n, r.di, r.ac) := by
 unfold palimpsestlaw16_copied.f
 have h1 := h.largs
 have h2 := h.limgs
 have h3 := h.ldi
 have h4 := h.lac
 simp only [Option.bind_some, List.length_nil, Nat.zero_add, List.nil_append]
 rw [if_pos h1, if_pos h2, if_pos h3, if_pos h4]
theorem copied_c {r : Rec} {a : Lies} {w : World} (h : RIn w r a) (hw : r.Wide) : Calls Try.prog 21 #[.agg (r.cells a)] w fun e w' => ∃ b, e = .returned (.agg (r.cells b)) ∧ RIn w' r b ∧ Below w.heap.size w w' := by
 refine (palimpsestlaw16_copied.calls r.k r.t r.p r.g r.o a.A5 a.c5 r.args a.A6 a.c6 r.imgs r.n a.A8 a.c8 r.di a.A9 a.c9 r.ac _ _ _ _ _ _ _ _ _ _ w h.C5 h.L5 h.C6 h.L6 h.C8 h.L8 h.C9 h.L9 (copied_fw hw)).mono ?_
 rintro e w' ⟨v5, v6, v8, v9, rfl, h5, h6, h8, h9, hb⟩
 obtain ⟨A5, c5, rfl, hc5, hC5⟩ := Kd.R_reads h5
 obtain ⟨A6, c6, rfl, hc6, hC6⟩ := Kd.R_reads h6
 obtain ⟨A8, c8, rfl, hc8, hC8⟩ := Kd.R_reads h8
 obtain ⟨A9, c9, rfl, hc9, hC9⟩ := Kd.R_reads h9
 exact ⟨⟨A5, c5, A6, c6, A8, c8, A9, c9⟩, rfl, ⟨hC5, hc5, hC6, hc6, hC8, hc8, hC9, hc9⟩, hb⟩
theorem num_c {x : Option Int} (h : x = none ∨ x = some 2 ∨ x = some 4) (w : World) : Calls Try.prog 15 #[errW x] w fun e w' => e = .returned (.int .i64 (x.getD 0)) ∧ Below w.heap.size w w' := by
 refine (palimpsestnum_Num.calls x (x.getD 0) w (by rcases h with rfl | rfl | rfl <;> rfl)).mono ?_
 rintro e w' ⟨rfl, ⟨nd, rfl⟩⟩
 exact ⟨rfl, pw_below_drewN (Below.refl _ _) _⟩
def palimpsestlaw16_RecordForms.T8 : Bool × List (List Nat × List Nat) := (true, [([], []), ([0], [0]), ([], []), ([2], [2]), ([1, 3], [1, 3]), ([4], [4]), ([5], [5]), ([6, 5, 5], [5, 6]), ([5], [5]), ([7, 8, 5], [5, 7, 8]), ([5, 9], [5, 9]), ([10, 7], [10]), ([11], [11]), ([12, 11, 11], [11, 12]), ([13, 11], [11, 13]), ([11], [11]), ([15, 13, 11], [11, 15]), ([14, 16, 11], [11, 14, 16]), ([11, 17], [11, 17]), ([18, 16], [18]), ([19], [19]), ([19], [19]), ([20, 21, 19, 19], [19, 20, 21]), ([22, 19], [19, 22]), ([19, 23], [19, 23])])
def palimpsestlaw16_RecordForms.B8 : List Nat := [0, 1, 0, 4, 15, 31, 63, 127, 63, 511, 1023, 2047, 4095, 8191, 16383, 4095, 49151, 131071, 262143, 524287, 1048575, 1048575, 4194303, 8388607, 16777215]
theorem palimpsestlaw16_RecordForms.tab8 : rtab .any (opsOf Try.f8 8) = palimpsestlaw16_RecordForms.T8 := by kernel_rfl
theorem palimpsestlaw16_RecordForms.bits8 : waitsOk palimpsestlaw16_RecordForms.T8.2 palimpsestlaw16_RecordForms.B8 = true := by kernel_rfl
set_option maxHeartbeats 8000000 in
set_option maxRecDepth 100000 in
theorem forms_walk (w : World) (r : Rec) (a : Lies) (h : RIn w r a) (hw : r.Wide) : Calls Try.prog 8 #[.agg (r.cells a)] w fun e w' => e = .returned (.bool true) ∧ Below w.heap.size w w' := by
 have hu30 := Try.underlying30
 have hu32 := Try.underlying32
 have hu44 := Try.underlying44
 obtain ⟨A5, c5, A6, c6, A8, c8, A9, c9⟩ := a
 have HI := Aside0.mk h
 have HW := Lib.hid hw
 clear h hw
 unfold Rec.cells
 go_enter Try.func8, Try.ntmps8
 go_wp2_with fail
 refine (alive_true _).mono ?_
 rintro e w1 ⟨rfl, hb⟩
 have BK := Lib.hid (blk_below (heap_alloc_new w _) hb)
 have HB := Lib.hid (below_then (below_alloc (Below.refl w.heap.size w) _) (by rw [World.size_alloc]; omega) hb)
 replace HI := Aside0.mk (HI.out.below HB.out)
 clear hb
 obtain ⟨d_0, d_1, d_2, d_3, d_4, d_5, d_6, d_7, d_8, d_9⟩ := ten_cells BK.out
 go_wp2_with fail
 refine (large_c HI.out HW.out).mono ?_
 rintro e w2 ⟨rfl, hb⟩
 replace BK := Lib.hid (blk_below BK.out hb)
 replace HI := Aside0.mk (HI.out.below hb)
 replace HB := Lib.hid (below_then HB.out HB.out.size hb)
 clear hb d_0 d_1 d_2 d_3 d_4 d_5 d_6 d_7 d_8 d_9
 by_cases hl : r.many > 3000
 ·rw [decide_eq_true hl]
  have HL := Lib.hid hl
  clear hl
  go_wp2
  go_ret
  exact ⟨rfl, HB.out⟩
 rw [decide_eq_false hl]
 have HF := Lib.hid (HW.out.fits hl)
 clear hl
 obtain ⟨d_0, d_1, d_2, d_3, d_4, d_5, d_6, d_7, d_8, d_9⟩ := ten_cells BK.out
 go_wp2_with fail
 refine (copied_c HI.out HW.out).mono ?_
 rintro e w3 ⟨⟨B5, d5, B6, d6, B8, d8, B9, d9⟩, rfl, hI3, hb⟩
 replace BK := Lib.hid (blk_below BK.out hb)
 replace HI := Aside0.mk (HI.out.below hb)
 replace HB := Lib.hid (below_then HB.out HB.out.size hb)
 have HJ := Aside0.mk hI3
 clear hb hI3 d_0 d_1 d_2 d_3 d_4 d_5 d_6 d_7 d_8 d_9
 unfold Rec.cells
 obtain ⟨d_0, d_1, d_2, d_3, d_4, d_5, d_6, d_7, d_8, d_9⟩ := ten_cells BK.out
 have hz : w.heap.size < w3.heap.size := blk_lt BK.out
 have hz' : ¬ w.heap.size = w3.heap.size := by omega
 go_wp2_with fail
 refine (enc_c (HJ.out.alloc _) HF.out).mono ?_
 rintro e w4 ⟨E1, e1, rfl, hE1, hC1, hb⟩
 have BKc := Lib.hid (blk_below (heap_alloc_new w3 _) hb)
 have hb2 := below_then (below_alloc (Below.refl w3.heap.size w3) _) (by rw [World.size_alloc]; omega) hb
 replace BK := Lib.hid (blk_below BK.out hb2)
 replace HI := Aside0.mk (HI.out.below hb2)
 replace HJ := Aside0.mk (HJ.out.below hb2)
 replace HB := Lib.hid (below_then HB.out HB.out.size hb2)
 obtain ⟨b, x, he⟩ : ∃ b x, r.enc = (b, x) := ⟨_, _, rfl⟩
 rw [he] at hE1 hC1 ⊢
 replace hE1 : b.length ≤ e1 := hE1
 replace hC1 : Kd.C (Kd.int .u8) w4 E1 b.length b := hC1
 have HC1 := Aside0.mk hC1
 have HE1 := Lib.hid hE1
 have hx : x = none ∨ x = some 2 ∨ x = some 4 := by
  cases x with
  | none => exact Or.inl rfl
  | some y => exact Or.inr (Or.inl (congrArg some (enc_err he).2))
 have HX := Lib.hid hx
 have hble := enc_le r
 rw [he] at hble
 replace hble : b.length ≤ 4096 := hble
 have HL := Lib.hid hble
 have HE := Lib.hid he
 have hroom : r.room = if x = none ∧ r.k = 1 then 64 + (b.length : Int) else 64 := by unfold Rec.room; rw [he]
 have HR := Lib.hid hroom
 clear hb hb2 hE1 hC1 hx he hroom hble d_0 d_1 d_2 d_3 d_4 d_5 d_6 d_7 d_8 d_9
 obtain ⟨d_0, d_1, d_2, d_3, d_4, d_5, d_6, d_7, d_8, d_9⟩ := ten_cells BK.out
 obtain ⟨ex, Hex⟩ : ∃ ex, Hid (errW x = ex) := ⟨_, Lib.hid rfl⟩
 rw [Hex.out]
 go_wp2_with fail
 refine (renc_c HI.out HW.out HF.out).mono ?_
 rintro e w5 ⟨E2, e2, rfl, hE2, hC2, hb⟩
 replace BK := Lib.hid (blk_below BK.out hb)
 replace BKc := Lib.hid (blk_below BKc.out hb)
 replace HI := Aside0.mk (HI.out.below hb)
 replace HJ := Aside0.mk (HJ.out.below hb)
 replace HC1 := Aside0.mk (Kd.C_below HC1.out hb)
 replace HB := Lib.hid (below_then HB.out HB.out.size hb)
 rw [HE.out] at hE2 hC2 ⊢
 replace hE2 : b.length ≤ e2 := hE2
 replace hC2 : Kd.C (Kd.int .u8) w5 E2 b.length b := hC2
 have HC2 := Aside0.mk hC2
 have HE2 := Lib.hid hE2
 clear hb hE2 hC2 d_0 d_1 d_2 d_3 d_4 d_5 d_6 d_7 d_8 d_9 hz hz'
 obtain ⟨f, Hf⟩ : ∃ f, Hid (x.getD 0 = f) := ⟨_, Lib.hid rfl⟩
 have efx : (b, x).2.getD 0 = f := Hf.out
 rw [efx]
 clear efx
 go_upto_region 8 with (fail)
 (try simp only [Act.put, List.setIfInBounds_toArray, List.set_cons_zero, List.set_cons_succ])
 go_cut [49] (fun v49 wc => v49 = .bool false ∧ Below w5.heap.size w5 wc)
 case first =>
  obtain ⟨q, v, Hv, Hq, hqv⟩ : ∃ (q : Bool) (v : Option Int), Hid ((if r.Ok then none else some 2) = v) ∧ Hid (decide r.Ok = q) ∧ ((v = none ∧ q = true) ∨ (v = some 2 ∧ q = false)) := by
   by_cases ho : r.Ok
   ·exact ⟨true, none, Lib.hid (if_pos ho), Lib.hid (decide_eq_true ho), Or.inl ⟨rfl, rfl⟩⟩
   ·exact ⟨false, some 2, Lib.hid (if_neg ho), Lib.hid (decide_eq_false ho), Or.inr ⟨rfl, rfl⟩⟩
  try go_wp2
  rcases hqv with ⟨rfl, rfl⟩ | ⟨rfl, rfl⟩
  all_goals
   have hd := below_drew1 (Below.refl w5.heap.size w5)
   replace BK := Lib.hid (blk_below BK.out hd)
   replace BKc := Lib.hid (blk_below BKc.out hd)
   replace HI := Aside0.mk (HI.out.below hd)
   replace HJ := Aside0.mk (HJ.out.below hd)
   replace HC1 := Aside0.mk (Kd.C_below HC1.out hd)
   replace HC2 := Aside0.mk (Kd.C_below HC2.out hd)
   have HD := Lib.hid hd
   clear hd
   have hss : ((strOfNums b).toList != (strOfNums b).toList) = false := bne_self_eq_false _
   have hff : (f != f) = false := bne_self_eq_false _
   refine start_ (n := 25) (S := fun w' => w'.heap[w.heap.size]? = some (.cells #[.int .i64 r.k, .int .i64 r.t, .int .i64 r.p, .int .i64 r.g, .int .i64 r.o, .slice A5 r.args.length c5, .slice A6 r.imgs.length c6, .int .i64 r.n, .slice A8 r.di.length c8, .slice A9 r.ac.length c9] 30 (0, 0)) ∧ w'.heap[w3.heap.size]? = some (.cells #[.int .i64 r.k, .int .i64 r.t, .int .i64 r.p, .int .i64 r.g, .int .i64 r.o, .slice B5 r.args.length d5, .slice B6 r.imgs.length d6, .int .i64 r.n, .slice B8 r.di.length d8, .slice B9 r.ac.length d9] 30 (0, 0)) ∧ Kd.C (Kd.int .u8) w' E1 b.length b ∧ Kd.C (Kd.int .u8) w' E2 b.length b) (ds := []) #[false, false, false, false, false, false, false, false, false, false, false, false, false, false, false, false, false, false, false, false, false, false, false, false, false] (by kernel_rfl) rfl rfl ⟨BK.out, BKc.out, HC1.out, HC2.out⟩ (fun hHeld => ?_)
   refine with_tabW palimpsestlaw16_RecordForms.tab8 palimpsestlaw16_RecordForms.bits8 (fun HT_ HW_ => ?_)
   generalize w5.drew = w6 at BK BKc HI HJ HC1 HC2 HD hHeld ⊢
   refine pure_ (i := 0) (N := some 25) (v := ?_) (a' := ?_) #[true, false, false, false, false, false, false, false, false, false, false, false, false, false, false, false, false, false, false, false, false, false, false, false, false] rfl rfl (any_of HT_.out (by kernel_rfl)) (fun _ _ _ h => h) (Or.inl ⟨by rfl, ?_⟩) ?_ ?_
   rotate_left
   ·intro w'
    go_simp
    with_reducible rfl
   rotate_left
   ·simp only [Act.put, List.setIfInBounds_toArray, List.set_cons_zero, List.set_cons_succ, i64_w, i32_w]
    rfl
   refine take_ (i := 1) (N := some 26) (v := ?_) (a' := ?_) #[true, true, false, false, false, false, false, false, false, false, false, false, false, false, false, false, false, false, false, false, false, false, false, false, false] rfl rfl (take_ofW HT_.out HW_.out (by kernel_rfl)) (fun _ _ _ h => h) (Or.inl ⟨by rfl, ?_⟩) hHeld ?_ ?_
   rotate_left
   ·rintro w' ⟨s0, s1, s2, s3⟩
    have hcv := Kd.C_string (P := Try.prog) (c := e1) Try.underlying22 Try.underlying5 Try.underlying9 s2
    go_simp
    with_reducible rfl
   rotate_left
   ·simp only [Act.put, List.setIfInBounds_toArray, List.set_cons_zero, List.set_cons_succ, i64_w, i32_w]
    rfl
   refine pure_ (i := 2) (N := some 27) (v := ?_) (a' := ?_) #[true, true, true, false, false, false, false, false, false, false, false, false, false, false, false, false, false, false, false, false, false, false, false, false, false] rfl rfl (any_of HT_.out (by kernel_rfl)) (fun _ _ _ h => h) (Or.inl ⟨by rfl, ?_⟩) ?_ ?_
   rotate_left
   ·intro w'
    go_simp
    with_reducible rfl
   rotate_left
   ·simp only [Act.put, List.setIfInBounds_toArray, List.set_cons_zero, List.set_cons_succ, i64_w, i32_w]
    rfl
   refine take_ (i := 3) (N := some 28) (v := ?_) (a' := ?_) #[true, true, true, true, false, false, false, false, false, false, false, false, false, false, false, false, false, false, false, false, false, false, false, false, false] rfl rfl (take_ofW HT_.out HW_.out (by kernel_rfl)) (fun _ _ _ h => h) (Or.inl ⟨by rfl, ?_⟩) hHeld ?_ ?_
   rotate_left
   ·rintro w' ⟨s0, s1, s2, s3⟩
    have hcv := Kd.C_string (P := Try.prog) (c := e2) Try.underlying22 Try.underlying5 Try.underlying9 s3
    go_simp
    with_reducible rfl
   rotate_left
   ·simp only [Act.put, List.setIfInBounds_toArray, List.set_cons_zero, List.set_cons_succ, i64_w, i32_w]
    rfl
   refine pure_ (i := 4) (N := some 29) (v := ?_) (a' := ?_) #[true, true, true, true, true, false, false, false, false, false, false, false, false, false, false, false, false, false, false, false, false, false, false, false, false] rfl rfl (any_of HT_.out (by kernel_rfl)) (fun _ _ _ h => h) (Or.inl ⟨by rfl, ?_⟩) ?_ ?_
   rotate_left
   ·intro w'
    go_simp
    with_reducible rfl
   rotate_left
   ·simp only [Act.put, List.setIfInBounds_toArray, List.set_cons_zero, List.set_cons_succ, i64_w, i32_w]
    rfl
   refine pure_ (i := 5) (N := some 30) (v := ?_) (a' := ?_) #[true, true, true, true, true, true, false, false, false, false, false, false, false, false, false, false, false, false, false, false, false, false, false, false, false] rfl rfl (any_of HT_.out (by kernel_rfl)) (fun _ _ _ h => h) (Or.inl ⟨by rfl, ?_⟩) ?_ ?_
   rotate_left
   ·intro w'
    go_simp
    with_reducible rfl
   rotate_left
   ·simp only [Act.put, List.setIfInBounds_toArray, List.set_cons_zero, List.set_cons_succ, i64_w, i32_w]
    rfl
   refine pure_ (i := 6) (N := some 31) (v := ?_) (a' := ?_) #[true, true, true, true, true, true, true, false, false, false, false, false, false, false, false, false, false, false, false, false, false, false, false, false, false] rfl rfl (any_of HT_.out (by kernel_rfl)) (fun _ _ _ h => h) (Or.inl ⟨by rfl, ?_⟩) ?_ ?_
   rotate_left
   ·intro w'
    go_simp
    with_reducible rfl
   rotate_left
   ·simp only [Act.put, List.setIfInBounds_toArray, List.set_cons_zero, List.set_cons_succ, i64_w, i32_w]
    rfl
   refine pure_ (i := 8) (N := some 33) (v := ?_) (a' := ?_) #[true, true, true, true, true, true, true, false, true, false, false, false, false, false, false, false, false, false, false, false, false, false, false, false, false] rfl rfl (any_of HT_.out (by kernel_rfl)) (fun _ _ _ h => h) (Or.inl ⟨by rfl, ?_⟩) ?_ ?_
   rotate_left
   ·intro w'
    go_simp
    with_reducible rfl
   rotate_left
   ·simp only [Act.put, List.setIfInBounds_toArray, List.set_cons_zero, List.set_cons_succ, i64_w, i32_w]
    rfl
   refine one_ (i := 7) (N := some 32) #[true, true, true, true, true, true, true, true, true, false, false, false, false, false, false, false, false, false, false, false, false, false, false, false, false] rfl rfl (one_of HT_.out (by kernel_rfl)) (by decide) (fun K hK => ?_)
   refine goes_ Try.func15 (by kernel_rfl) rfl #[ex] (by rfl) rfl rfl (by (try simp only [List.map_toArray, List.map_cons, List.map_nil]); first | done | rfl | (simp only [List.length_drop, List.length_take]; rfl)) ?_
   have hcn := num_c HX.out w6
   rw [Hex.out] at hcn
   refine hcn.mono ?_
   rintro e w7 ⟨rfl, hb⟩
   rw [Hf.out]
   refine ⟨_, rfl, ?_⟩
   replace BK := Lib.hid (blk_below BK.out hb)
   replace BKc := Lib.hid (blk_below BKc.out hb)
   replace HI := Aside0.mk (HI.out.below hb)
   replace HJ := Aside0.mk (HJ.out.below hb)
   replace HC1 := Aside0.mk (Kd.C_below HC1.out hb)
   replace HC2 := Aside0.mk (Kd.C_below HC2.out hb)
   replace HD := Lib.hid (below_then HD.out HD.out.size hb)
   clear hb
   refine hK.out _ _ ⟨BK.out, BKc.out, HC1.out, HC2.out⟩ (fun hHeld => ?_)
   clear hK K
   refine norm_ (a' := ?_) ?_ ?_
   rotate_left
   ·show Act.put _ (some 32) _ = _
    simp only [Act.put, List.setIfInBounds_toArray, List.set_cons_zero, List.set_cons_succ, i64_w, i32_w]
    rfl
   refine pure_ (i := 9) (N := some 34) (v := ?_) (a' := ?_) #[true, true, true, true, true, true, true, true, true, true, false, false, false, false, false, false, false, false, false, false, false, false, false, false, false] rfl rfl (any_of HT_.out (by kernel_rfl)) (fun _ _ _ h => h) (Or.inl ⟨by rfl, ?_⟩) ?_ ?_
   rotate_left
   ·intro w'
    go_simp
    with_reducible rfl
   rotate_left
   ·simp only [Act.put, List.setIfInBounds_toArray, List.set_cons_zero, List.set_cons_succ, i64_w, i32_w]
    rfl
   refine pure_ (i := 10) (N := some 35) (v := ?_) (a' := ?_) #[true, true, true, true, true, true, true, true, true, true, true, false, false, false, false, false, false, false, false, false, false, false, false, false, false] rfl rfl (any_of HT_.out (by kernel_rfl)) (fun _ _ _ h => h) (Or.inl ⟨by rfl, ?_⟩) ?_ ?_
   rotate_left
   ·intro w'
    go_simp
    with_reducible rfl
   rotate_left
   ·simp only [Act.put, List.setIfInBounds_toArray, List.set_cons_zero, List.set_cons_succ, i64_w, i32_w]
    rfl
   refine pure_ (i := 11) (N := some 36) (v := ?_) (a' := ?_) #[true, true, true, true, true, true, true, true, true, true, true, true, false, false, false, false, false, false, false, false, false, false, false, false, false] rfl rfl (any_of HT_.out (by kernel_rfl)) (fun _ _ _ h => h) (Or.inl ⟨by rfl, ?_⟩) ?_ ?_
   rotate_left
   ·intro w'
    go_simp
    with_reducible rfl
   rotate_left
   ·simp only [Act.put, List.setIfInBounds_toArray, List.set_cons_zero, List.set_cons_succ, i64_w, i32_w]
    rfl
   refine take_ (i := 12) (N := some 37) (v := ?_) (a' := ?_) #[true, true, true, true, true, true, true, true, true, true, true, true, true, false, false, false, false, false, false, false, false, false, false, false, false] rfl rfl (take_ofW HT_.out HW_.out (by kernel_rfl)) (fun _ _ _ h => h) (Or.inl ⟨by rfl, ?_⟩) hHeld ?_ ?_
   rotate_left
   ·rintro w' ⟨s0, s1, s2, s3⟩
    obtain ⟨y_0, y_1, y_2, y_3, y_4, y_5, y_6, y_7, y_8, y_9⟩ := ten_cells s1
    go_simp
    with_reducible rfl
   rotate_left
   ·simp only [Act.put, List.setIfInBounds_toArray, List.set_cons_zero, List.set_cons_succ, i64_w, i32_w]
    rfl
   refine take_ (i := 15) (N := some 40) (v := ?_) (a' := ?_) #[true, true, true, true, true, true, true, true, true, true, true, true, true, false, false, true, false, false, false, false, false, false, false, false, false] rfl rfl (take_ofW HT_.out HW_.out (by kernel_rfl)) (fun _ _ _ h => h) (Or.inl ⟨by rfl, ?_⟩) hHeld ?_ ?_
   rotate_left
   ·rintro w' ⟨s0, s1, s2, s3⟩
    obtain ⟨y_0, y_1, y_2, y_3, y_4, y_5, y_6, y_7, y_8, y_9⟩ := ten_cells s0
    go_simp
    with_reducible rfl
   rotate_left
   ·simp only [Act.put, List.setIfInBounds_toArray, List.set_cons_zero, List.set_cons_succ, i64_w, i32_w]
    rfl
   refine one_ (i := 13) (N := some 38) #[true, true, true, true, true, true, true, true, true, true, true, true, true, true, false, true, false, false, false, false, false, false, false, false, false] rfl rfl (one_of HT_.out (by kernel_rfl)) (by decide) (fun K hK => ?_)
   refine goes_ Try.func20 (by kernel_rfl) rfl #[.agg #[.int .i64 r.k, .int .i64 r.t, .int .i64 r.p, .int .i64 r.g, .int .i64 r.o, .slice B5 r.args.length d5, .slice B6 r.imgs.length d6, .int .i64 r.n, .slice B8 r.di.length d8, .slice B9 r.ac.length d9]] (by rfl) rfl rfl (by (try simp only [List.map_toArray, List.map_cons, List.map_nil]); first | done | rfl | (simp only [List.length_drop, List.length_take]; rfl)) ?_
   refine (check_c HJ.out).mono ?_
   rintro e w8 ⟨rfl, hb⟩
   rw [Hv.out]
   simp only [errW_none, errW_some]
   refine ⟨_, rfl, ?_⟩
   replace BK := Lib.hid (blk_below BK.out hb)
   replace BKc := Lib.hid (blk_below BKc.out hb)
   replace HI := Aside0.mk (HI.out.below hb)
   replace HJ := Aside0.mk (HJ.out.below hb)
   replace HC1 := Aside0.mk (Kd.C_below HC1.out hb)
   replace HC2 := Aside0.mk (Kd.C_below HC2.out hb)
   replace HD := Lib.hid (below_then HD.out HD.out.size hb)
   clear hb
   refine hK.out _ _ ⟨BK.out, BKc.out, HC1.out, HC2.out⟩ (fun hHeld => ?_)
   clear hK K
   refine norm_ (a' := ?_) ?_ ?_
   rotate_left
   ·show Act.put _ (some 38) _ = _
    simp only [Act.put, List.setIfInBounds_toArray, List.set_cons_zero, List.set_cons_succ, i64_w, i32_w]
    rfl
   refine pure_ (i := 14) (N := some 39) (v := ?_) (a' := ?_) #[true, true, true, true, true, true, true, true, true, true, true, true, true, true, true, true, false, false, false, false, false, false, false, false, false] rfl rfl (any_of HT_.out (by kernel_rfl)) (fun _ _ _ h => h) (Or.inl ⟨by rfl, ?_⟩) ?_ ?_
   rotate_left
   ·intro w'
    go_simp
    with_reducible rfl
   rotate_left
   ·simp only [Act.put, List.setIfInBounds_toArray, List.set_cons_zero, List.set_cons_succ, i64_w, i32_w]
    rfl
   refine one_ (i := 16) (N := some 41) #[true, true, true, true, true, true, true, true, true, true, true, true, true, true, true, true, true, false, false, false, false, false, false, false, false] rfl rfl (one_of HT_.out (by kernel_rfl)) (by decide) (fun K hK => ?_)
   refine goes_ Try.func23 (by kernel_rfl) rfl #[.agg #[.int .i64 r.k, .int .i64 r.t, .int .i64 r.p, .int .i64 r.g, .int .i64 r.o, .slice A5 r.args.length c5, .slice A6 r.imgs.length c6, .int .i64 r.n, .slice A8 r.di.length c8, .slice A9 r.ac.length c9]] (by rfl) rfl rfl (by (try simp only [List.map_toArray, List.map_cons, List.map_nil]); first | done | rfl | (simp only [List.length_drop, List.length_take]; rfl)) ?_
   refine (good_c HI.out HW.out).mono ?_
   rintro e w9 ⟨rfl, hb⟩
   rw [Hq.out]
   refine ⟨_, rfl, ?_⟩
   replace BK := Lib.hid (blk_below BK.out hb)
   replace BKc := Lib.hid (blk_below BKc.out hb)
   replace HI := Aside0.mk (HI.out.below hb)
   replace HJ := Aside0.mk (HJ.out.below hb)
   replace HC1 := Aside0.mk (Kd.C_below HC1.out hb)
   replace HC2 := Aside0.mk (Kd.C_below HC2.out hb)
   replace HD := Lib.hid (below_then HD.out HD.out.size hb)
   clear hb
   refine hK.out _ _ ⟨BK.out, BKc.out, HC1.out, HC2.out⟩ (fun hHeld => ?_)
   clear hK K
   refine norm_ (a' := ?_) ?_ ?_
   rotate_left
   ·show Act.put _ (some 41) _ = _
    simp only [Act.put, List.setIfInBounds_toArray, List.set_cons_zero, List.set_cons_succ, i64_w, i32_w]
    rfl
   refine pure_ (i := 17) (N := some 42) (v := ?_) (a' := ?_) #[true, true, true, true, true, true, true, true, true, true, true, true, true, true, true, true, true, true, false, false, false, false, false, false, false] rfl rfl (any_of HT_.out (by kernel_rfl)) (fun _ _ _ h => h) (Or.inl ⟨by rfl, ?_⟩) ?_ ?_
   rotate_left
   ·intro w'
    go_simp
    with_reducible rfl
   rotate_left
   ·simp only [Act.put, List.setIfInBounds_toArray, List.set_cons_zero, List.set_cons_succ, i64_w, i32_w]
    rfl
   refine pure_ (i := 18) (N := some 43) (v := ?_) (a' := ?_) #[true, true, true, true, true, true, true, true, true, true, true, true, true, true, true, true, true, true, true, false, false, false, false, false, false] rfl rfl (any_of HT_.out (by kernel_rfl)) (fun _ _ _ h => h) (Or.inl ⟨by rfl, ?_⟩) ?_ ?_
   rotate_left
   ·intro w'
    go_simp
    with_reducible rfl
   rotate_left
   ·simp only [Act.put, List.setIfInBounds_toArray, List.set_cons_zero, List.set_cons_succ, i64_w, i32_w]
    rfl
   refine pure_ (i := 19) (N := some 44) (v := ?_) (a' := ?_) #[true, true, true, true, true, true, true, true, true, true, true, true, true, true, true, true, true, true, true, true, false, false, false, false, false] rfl rfl (any_of HT_.out (by kernel_rfl)) (fun _ _ _ h => h) (Or.inl ⟨by rfl, ?_⟩) ?_ ?_
   rotate_left
   ·intro w'
    go_simp
    with_reducible rfl
   rotate_left
   ·simp only [Act.put, List.setIfInBounds_toArray, List.set_cons_zero, List.set_cons_succ, i64_w, i32_w]
    rfl
   refine take_ (i := 20) (N := some 45) (v := ?_) (a' := ?_) #[true, true, true, true, true, true, true, true, true, true, true, true, true, true, true, true, true, true, true, true, true, false, false, false, false] rfl rfl (take_ofW HT_.out HW_.out (by kernel_rfl)) (fun _ _ _ h => h) (Or.inl ⟨by rfl, ?_⟩) hHeld ?_ ?_
   rotate_left
   ·rintro w' ⟨s0, s1, s2, s3⟩
    obtain ⟨y_0, y_1, y_2, y_3, y_4, y_5, y_6, y_7, y_8, y_9⟩ := ten_cells s1
    go_simp
    with_reducible rfl
   rotate_left
   ·simp only [Act.put, List.setIfInBounds_toArray, List.set_cons_zero, List.set_cons_succ, i64_w, i32_w]
    rfl
   refine take_ (i := 21) (N := some 46) (v := ?_) (a' := ?_) #[true, true, true, true, true, true, true, true, true, true, true, true, true, true, true, true, true, true, true, true, true, true, false, false, false] rfl rfl (take_ofW HT_.out HW_.out (by kernel_rfl)) (fun _ _ _ h => h) (Or.inl ⟨by rfl, ?_⟩) hHeld ?_ ?_
   rotate_left
   ·rintro w' ⟨s0, s1, s2, s3⟩
    obtain ⟨y_0, y_1, y_2, y_3, y_4, y_5, y_6, y_7, y_8, y_9⟩ := ten_cells s0
    go_simp
    with_reducible rfl
   rotate_left
   ·simp only [Act.put, List.setIfInBounds_toArray, List.set_cons_zero, List.set_cons_succ, i64_w, i32_w]
    rfl
   refine one_ (i := 22) (N := some 47) #[true, true, true, true, true, true, true, true, true, true, true, true, true, true, true, true, true, true, true, true, true, true, true, false, false] rfl rfl (one_of HT_.out (by kernel_rfl)) (by decide) (fun K hK => ?_)
   refine goes_ Try.func14 (by kernel_rfl) rfl #[.agg #[.int .i64 r.k, .int .i64 r.t, .int .i64 r.p, .int .i64 r.g, .int .i64 r.o, .slice B5 r.args.length d5, .slice B6 r.imgs.length d6, .int .i64 r.n, .slice B8 r.di.length d8, .slice B9 r.ac.length d9], .agg #[.int .i64 r.k, .int .i64 r.t, .int .i64 r.p, .int .i64 r.g, .int .i64 r.o, .slice A5 r.args.length c5, .slice A6 r.imgs.length c6, .int .i64 r.n, .slice A8 r.di.length c8, .slice A9 r.ac.length c9]] (by rfl) rfl rfl (by (try simp only [List.map_toArray, List.map_cons, List.map_nil]); first | done | rfl | (simp only [List.length_drop, List.length_take]; rfl)) ?_
   refine (refsame_c HJ.out HI.out).mono ?_
   rintro e w10 ⟨rfl, hb⟩
   rw [decide_eq_true rfl]
   refine ⟨_, rfl, ?_⟩
   replace BK := Lib.hid (blk_below BK.out hb)
   replace BKc := Lib.hid (blk_below BKc.out hb)
   replace HI := Aside0.mk (HI.out.below hb)
   replace HJ := Aside0.mk (HJ.out.below hb)
   replace HC1 := Aside0.mk (Kd.C_below HC1.out hb)
   replace HC2 := Aside0.mk (Kd.C_below HC2.out hb)
   replace HD := Lib.hid (below_then HD.out HD.out.size hb)
   clear hb
   refine hK.out _ _ ⟨BK.out, BKc.out, HC1.out, HC2.out⟩ (fun hHeld => ?_)
   clear hK K
   refine norm_ (a' := ?_) ?_ ?_
   rotate_left
   ·show Act.put _ (some 47) _ = _
    simp only [Act.put, List.setIfInBounds_toArray, List.set_cons_zero, List.set_cons_succ, i64_w, i32_w]
    rfl
   refine pure_ (i := 23) (N := some 48) (v := ?_) (a' := ?_) #[true, true, true, true, true, true, true, true, true, true, true, true, true, true, true, true, true, true, true, true, true, true, true, true, false] rfl rfl (any_of HT_.out (by kernel_rfl)) (fun _ _ _ h => h) (Or.inl ⟨by rfl, ?_⟩) ?_ ?_
   rotate_left
   ·intro w'
    go_simp
    with_reducible rfl
   rotate_left
   ·simp only [Act.put, List.setIfInBounds_toArray, List.set_cons_zero, List.set_cons_succ, i64_w, i32_w]
    rfl
   refine pure_ (i := 24) (N := some 49) (v := ?_) (a' := ?_) #[true, true, true, true, true, true, true, true, true, true, true, true, true, true, true, true, true, true, true, true, true, true, true, true, true] rfl rfl (any_of HT_.out (by kernel_rfl)) (fun _ _ _ h => h) (Or.inl ⟨by rfl, ?_⟩) ?_ ?_
   rotate_left
   ·intro w'
    go_simp
    with_reducible rfl
   rotate_left
   ·simp only [Act.put, List.setIfInBounds_toArray, List.set_cons_zero, List.set_cons_succ, i64_w, i32_w]
    rfl
   refine done_ (done_of HT_.out (by kernel_rfl)) ?_
   try go_wp2
   go_meet
   case rel => exact ⟨rfl, HD.out⟩
 case rest =>
  obtain ⟨rfl, hb⟩ := hcut
  replace BK := Lib.hid (blk_below BK.out hb)
  replace BKc := Lib.hid (blk_below BKc.out hb)
  replace HJ := Aside0.mk (HJ.out.below hb)
  replace HB := Lib.hid (below_then HB.out HB.out.size hb)
  clear hb HI HC1 HC2 HE1 HE2 Hex
  obtain ⟨d_0, d_1, d_2, d_3, d_4, d_5, d_6, d_7, d_8, d_9⟩ := ten_cells BK.out
  obtain ⟨y_0, y_1, y_2, y_3, y_4, y_5, y_6, y_7, y_8, y_9⟩ := ten_cells BKc.out
  have hwl : wrap64 (64 + (b.length : Int)) = 64 + (b.length : Int) := by have := HL.out; unfold wrap64; omega
  by_cases hk : r.k = 1
  ·have bk : (r.k == 1) = true := beq_iff_eq.mpr hk
   rcases x with _ | x
   ·obtain rfl : (0 : Int) = f := Hf.out
    have hR : r.room = 64 + (b.length : Int) := HR.out.trans (if_pos ⟨rfl, hk⟩)
    replace hR := Lib.hid hR
    replace hk := Lib.hid hk
    clear HR HX
    go_wp2_with fail
    refine (room_c HJ.out HF.out).mono ?_
    rintro e w8 ⟨rfl, hb⟩
    rw [hR.out]
    replace HB := Lib.hid (below_then HB.out HB.out.size hb)
    clear hb
    go_wp2
    go_ret
    exact ⟨by first | rfl | (simp; done) | (simp [hwl]; done), HB.out⟩
   ·obtain rfl : x = f := Hf.out
    obtain rfl : x = 2 := (enc_err HE.out).2
    have hR : r.room = 64 := HR.out.trans (if_neg (fun h => by cases h.1))
    replace hR := Lib.hid hR
    replace hk := Lib.hid hk
    clear HR HX
    go_wp2_with fail
    refine (room_c HJ.out HF.out).mono ?_
    rintro e w8 ⟨rfl, hb⟩
    rw [hR.out]
    replace HB := Lib.hid (below_then HB.out HB.out.size hb)
    clear hb
    go_wp2
    go_ret
    exact ⟨by first | rfl | (simp; done), HB.out⟩
  ·have bk : (r.k == 1) = false := beq_eq_false_iff_ne.mpr hk
   have hR : r.room = 64 := HR.out.trans (if_neg (fun h => hk h.2))
   replace hR := Lib.hid hR
   replace hk := Lib.hid hk
   clear HR HX
   go_wp2_with fail
   refine (room_c HJ.out HF.out).mono ?_
   rintro e w8 ⟨rfl, hb⟩
   rw [hR.out]
   replace HB := Lib.hid (below_then HB.out HB.out.size hb)
   clear hb
   go_wp2
   go_ret
   exact ⟨by first | rfl | (simp; done), HB.out⟩
end Go.Proofs.Ytcplblpmgajmnaa.A
namespace Go.Proofs.Ytcplblpmgajmnaa.recordForms
open Go.ChangeShapes Go.WideShapes Go.ChangeAt Go.RowKit Go.Proofs.Ytcplblpmgajmnaa.A
open Go.ChangeMaps (open_string shut_string)
set_option linter.unusedVariables false
theorem own : ownKnob Try.prog.godebug = none := by kernel_rfl
theorem laidOut : laidOutB Try.prog = true := by kernel_rfl
set_option maxRecDepth 100000 in
theorem lifted (os : Os) (started : os.Started) (H : Type) (enc : TypeId × Value → H) :
    ReturnsInHanded {} Try.checked os 8 .any (Rows.recordFormsSpec.pre6 enc Try.prog Try.f8 Rows.recordFormsRow.domain false) (Rows.recordFormsSpec.post enc Try.prog Try.f8 false true false false) := by
  refine returnsInHanded_of_change_sized (C := Try.checked) own started (by kernel_rfl) Try.func8
    (ChangeSpec.witness6 (enc := enc) (C := Try.checked) false ⟨#[], #[.agg #[.int .i64 0, .int .i64 0, .int .i64 0, .int .i64 0, .int .i64 0, .slice none 0 0, .slice none 0 0, .int .i64 0, .slice none 0 0, .slice none 0 0]], []⟩ 8 (by kernel_rfl) (by kernel_rfl) (by kernel_rfl) (by kernel_rfl)) ?_
  intro W base args ds gs before hval0 hW hcnd hsz0 _
  have hsz : (DataW.weightsEach Try.prog (Try.f8.params.toList ++ Rows.recordFormsSpec.plain.varTypes Try.prog) (ds ++ gs)).all (· ≤ reachBytes) = true := hsz0
  have hval : ∀ (j : Nat) t v, Try.f8.params[j]? = some t → args[j]? = some v → Value.okWide Try.prog W .any base t v := hval0
  have hW' := hW
  obtain ⟨p, q, hA0, hV, rfl, hfz, hnd⟩ := hW
  have hA : DataW.TrodAll enc Try.prog W 0 (fun _ => true) true Try.f8.params.toList args.toList ds p := hA0
  rw [Try.params8] at hA hval hsz
  obtain ⟨v0, vs0, d0, ds0, p0, q0, hargs, rfl, rfl, h0, r_0⟩ := trodAll_cons hA
  obtain ⟨rfl, rfl, rfl⟩ := trodAll_nil r_0
  obtain rfl : args = #[v0] := by cases args; simp_all
  obtain ⟨rfl, rfl⟩ := trodVars_none hV
  have t0 := h0
  have lt0 : ∀ x ∈ p0, x.block < W.heap.size := by obtain ⟨m, hm⟩ := t0; exact DataW.trod_lt m _ _ _ hm
  have wz0 : ∀ n ∈ d0.weights Try.prog 30, n ≤ reachBytes := fun n hn => by have := List.all_eq_true.1 hsz n (DataW.weights_mem_each (j := 0) rfl rfl n hn); simpa using this
  obtain ⟨r0, b0, rfl, i0, g0⟩ := open_record (hval 0 30 v0 rfl rfl) h0 wz0
  clear hA0 hval0 hsz0 hsz
  refine (A.forms_walk W r0 b0 i0 g0).mono fun e W' ⟨he, bel⟩ => ?_
  subst he
  exact ⟨_, rfl, _, _, _, [], _, [], hW', trodAll_mk1 (shut_bool Try.underlying4 _), (trodAll_cons_mk (Below.trod laidOut (by kernel_rfl) (of_decide_eq_true (by kernel_rfl)) t0 bel lt0) trodAll_mk0), rfl, bel.frame _, fun h => by cases h⟩
theorem over : Rows.recordFormsRow.holds Try.pinned (OpenSpec.ofChange Rows.recordFormsSpec) :=
  OpenClaim.holds_of_wide 8 Try.f8 rfl rfl rfl rfl rfl rfl rfl ⟨rfl, rfl, rfl, rfl, rfl⟩ rfl rfl rfl rfl rfl (by kernel_rfl) Try.func8 (by kernel_rfl)
    (of_decide_eq_true (by kernel_rfl)) (by unfold Func.isWrapper; first | (rw [if_pos (by decide +kernel)]; kernel_rfl) | (rw [if_neg (by decide +kernel)]; exact ⟨rfl, rfl⟩))
    (fun os started H enc _ => lifted os started H enc)
theorem proved : Rows.RecordFormsSaid := over
end Go.Proofs.Ytcplblpmgajmnaa.recordForms
namespace Go.Proofs.Ytcplblpmgajmnaa
theorem recordForms_holds : Rows.RecordFormsSaid := recordForms.proved
end Go.Proofs.Ytcplblpmgajmnaa
