/-
  The law RecordReads answers true, without a panic, at every input: which bytes are a record's, as the document answers. No condition beside those of the given row.
  Joined by wip/prune.py out of: HGoodC, HGood, HRefEnc, HRefDecode, HRefSame, HCopy, AxF15, HReads, LReads.
-/
import Derived.Test.YtcplblpmgajmnaaBeLReads1
import Derived.Test.YtcplblpmgajmnaaRows
import Derived.WalkKit
import Derived.ProofKit
import Derived.OpenShut
import Derived.ShutString
import Derived.ChangeOld
import Derived.Below
import Derived.SizedLaws
namespace Go.Proofs.Ytcplblpmgajmnaa.A
open Go.RowKit Go.Proofs.YtcplblpmgajmnaaW.PrintWords Go.Proofs.YtcplblpmgajmnaaW.PrintLast Go.Proofs.YtcplblpmgajmnaaW.PrintMore
set_option linter.unusedVariables false
set_option linter.unusedSimpArgs false
set_option maxHeartbeats 8000000 in
set_option maxRecDepth 100000 in
theorem good_other {r : Rec} {a : Lies} {w : World} (h : RIn w r a) (k5 : ¬ r.k = 5) : Calls Try.prog 23 #[.agg (r.cells a)] w fun e w' => e = .returned (.bool (decide r.Ok)) ∧ Below w.heap.size w w' := by
 have hu30 := Try.underlying30
 obtain ⟨A5, c5, A6, c6, A8, c8, A9, c9⟩ := a
 have HI := Aside0.mk h
 clear h
 obtain ⟨q, hq⟩ : ∃ q, decide r.Ok = q := ⟨_, rfl⟩
 rw [hq]
 replace hq := Lib.hid hq
 have b5 : (r.k == 5) = false := beq_eq_false_iff_ne.mpr k5
 replace k5 := Lib.hid k5
 unfold Rec.cells
 go_enter Try.func23, Try.ntmps23

 by_cases t1 : r.t < 1
 ·have b_t1 : decide (r.t < 1) = true := decide_eq_true t1
  have G := Lib.hid t1
  clear t1
  obtain rfl : false = q := by rw [← hq.out]; exact (decide_eq_false fun ho => by have := (ok_tp ho k5.out).1; have := G.out; omega).symm
  go_wp2
  go_ret
  exact ⟨rfl, below_alloc (Below.refl _ _) _⟩
 have b_t1 : decide (r.t < 1) = false := decide_eq_false t1
 replace t1 := Lib.hid t1
 by_cases p0 : r.p < 0
 ·have b_p0 : decide (r.p < 0) = true := decide_eq_true p0
  have G := Lib.hid p0
  clear p0
  obtain rfl : false = q := by rw [← hq.out]; exact (decide_eq_false fun ho => by have := (ok_tp ho k5.out).2; have := G.out; omega).symm
  go_wp2
  go_ret
  exact ⟨rfl, below_alloc (Below.refl _ _) _⟩
 have b_p0 : decide (r.p < 0) = false := decide_eq_false p0
 replace p0 := Lib.hid p0
 have ht : 1 ≤ r.t := by have := t1.out; omega
 have hp : 0 ≤ r.p := by have := p0.out; omega
 replace ht := Lib.hid ht
 replace hp := Lib.hid hp
 by_cases k3 : r.k = 3
 ·have b3 : (r.k == 3) = true := beq_iff_eq.mpr k3
  have hk := Lib.hid k3
  clear k3
  go_wp2_with fail
  refine (bare_c (HI.out.alloc _) false false false).mono ?_
  rintro e w1 ⟨rfl, hb⟩
  have HB := Lib.hid (below_then (below_alloc (Below.refl w.heap.size w) _) (by rw [World.size_alloc]; omega) hb)
  clear hb
  obtain rfl : decide (Bare r false false false) = q := by rw [← hq.out]; exact (decide_eq_decide.2 (ok_34 (by have := hk.out; omega) ht.out hp.out)).symm
  go_wp2
  go_ret
  exact ⟨rfl, HB.out⟩
 have b3 : (r.k == 3) = false := beq_eq_false_iff_ne.mpr k3
 replace k3 := Lib.hid k3
 by_cases k4 : r.k = 4
 ·have b4 : (r.k == 4) = true := beq_iff_eq.mpr k4
  have hk := Lib.hid k4
  clear k4
  go_wp2_with fail
  refine (bare_c (HI.out.alloc _) false false false).mono ?_
  rintro e w1 ⟨rfl, hb⟩
  have HB := Lib.hid (below_then (below_alloc (Below.refl w.heap.size w) _) (by rw [World.size_alloc]; omega) hb)
  clear hb
  obtain rfl : decide (Bare r false false false) = q := by rw [← hq.out]; exact (decide_eq_decide.2 (ok_34 (by have := hk.out; omega) ht.out hp.out)).symm
  go_wp2
  go_ret
  exact ⟨rfl, HB.out⟩
 have b4 : (r.k == 4) = false := beq_eq_false_iff_ne.mpr k4
 replace k4 := Lib.hid k4
 by_cases k1 : r.k = 1
 ·have b1 : (r.k == 1) = true := beq_iff_eq.mpr k1
  have b2 : (r.k == 2) = false := beq_eq_false_iff_ne.mpr (by omega)
  have hk := Lib.hid k1
  clear k1
  go_wp2_with fail
  refine (bare_c (HI.out.alloc _) true false false).mono ?_
  rintro e w1 ⟨rfl, hb⟩
  have BK := Lib.hid (blk_below (heap_alloc_new w _) hb)
  have HB := Lib.hid (below_then (below_alloc (Below.refl w.heap.size w) _) (by rw [World.size_alloc]; omega) hb)
  replace HI := Aside0.mk (HI.out.below HB.out)
  clear hb
  obtain ⟨d_0, d_1, d_2, d_3, d_4, d_5, d_6, d_7, d_8, d_9⟩ := ten_cells BK.out
  by_cases hb : Bare r true false false
  rotate_left
  ·rw [decide_eq_false hb]
   have G := Lib.hid hb
   clear hb
   obtain rfl : false = q := by rw [← hq.out]; exact (decide_eq_false fun ho => G.out ((ok_1 hk.out ht.out hp.out).1 ho).1).symm
   go_wp2
   go_ret
   exact ⟨rfl, HB.out⟩
  rw [decide_eq_true hb]
  have n0 : decide (r.n < 0) = false := decide_eq_false (by have := hb.2.1.resolve_left (by simp); omega)
  replace hb := Lib.hid hb
  have hiff : r.Ok ↔ OnPage r.g r.o r.args r.imgs false := by
   rw [ok_1 hk.out ht.out hp.out]
   exact ⟨fun h => h.2, fun h => ⟨hb.out, h⟩⟩
  replace hiff := Lib.hid hiff
  by_cases g0 : r.g < 0
  ·have b_g0 : decide (r.g < 0) = true := decide_eq_true g0
   have G := Lib.hid g0
   clear g0
   obtain rfl : false = q := by rw [← hq.out]; exact (decide_eq_false fun ho => by have := (hiff.out.1 ho).1.1; have := G.out; omega).symm
   go_wp2
   go_ret
   exact ⟨rfl, HB.out⟩
  have b_g0 : decide (r.g < 0) = false := decide_eq_false g0
  replace g0 := Lib.hid g0
  by_cases g9 : 1023 < r.g
  ·have b_g9 : decide (1023 < r.g) = true := decide_eq_true g9
   have G := Lib.hid g9
   clear g9
   obtain rfl : false = q := by rw [← hq.out]; exact (decide_eq_false fun ho => by have := (hiff.out.1 ho).1.2.1; have := G.out; omega).symm
   go_wp2
   go_ret
   exact ⟨rfl, HB.out⟩
  have b_g9 : decide (1023 < r.g) = false := decide_eq_false g9
  replace g9 := Lib.hid g9
  by_cases oo : r.o < 0
  ·have b_oo : decide (r.o < 0) = true := decide_eq_true oo
   have G := Lib.hid oo
   clear oo
   obtain rfl : false = q := by rw [← hq.out]; exact (decide_eq_false fun ho => by have := (hiff.out.1 ho).1.2.2.1; have := G.out; omega).symm
   go_wp2
   go_ret
   exact ⟨rfl, HB.out⟩
  have b_oo : decide (r.o < 0) = false := decide_eq_false oo
  replace oo := Lib.hid oo
  by_cases o9 : 16 < r.o
  ·have b_o9 : decide (16 < r.o) = true := decide_eq_true o9
   have G := Lib.hid o9
   clear o9
   obtain rfl : false = q := by rw [← hq.out]; exact (decide_eq_false fun ho => by have := (hiff.out.1 ho).1.2.2.2.1; have := G.out; omega).symm
   go_wp2
   go_ret
   exact ⟨rfl, HB.out⟩
  have b_o9 : decide (16 < r.o) = false := decide_eq_false o9
  replace o9 := Lib.hid o9
  by_cases ar : 8 < (r.args.length : Int)
  ·have b_ar : decide (8 < (r.args.length : Int)) = true := decide_eq_true ar
   have G := Lib.hid ar
   clear ar
   obtain rfl : false = q := by rw [← hq.out]; exact (decide_eq_false fun ho => by have := (hiff.out.1 ho).1.2.2.2.2.1; have := G.out; omega).symm
   go_wp2
   go_ret
   exact ⟨rfl, HB.out⟩
  have b_ar : decide (8 < (r.args.length : Int)) = false := decide_eq_false ar
  replace ar := Lib.hid ar
  go_wp2_with fail
  refine (imagesOk_c HI.out.C6 HI.out.L6).mono ?_
  rintro e w2 ⟨rfl, hb2⟩
  replace BK := Lib.hid (blk_below BK.out hb2)
  replace HB := Lib.hid (below_then HB.out HB.out.size hb2)
  clear hb2 d_0 d_1 d_2 d_3 d_4 d_5 d_6 d_7 d_8 d_9
  obtain ⟨d_0, d_1, d_2, d_3, d_4, d_5, d_6, d_7, d_8, d_9⟩ := ten_cells BK.out
  by_cases im : ImgOk r.imgs
  rotate_left
  ·rw [decide_eq_false im]
   have G := Lib.hid im
   clear im
   obtain rfl : false = q := by rw [← hq.out]; exact (decide_eq_false fun ho => G.out (hiff.out.1 ho).1.2.2.2.2.2).symm
   go_wp2
   go_ret
   exact ⟨rfl, HB.out⟩
  rw [decide_eq_true im]
  replace im := Lib.hid im
  have hfin : OnPage r.g r.o r.args r.imgs false ↔ 0 < r.o := by
   unfold OnPage
   rw [if_neg (by decide)]
   exact ⟨fun h => h.2, fun h => ⟨⟨by have := g0.out; omega, by have := g9.out; omega, by have := oo.out; omega, by have := o9.out; omega, by have := ar.out; omega, im.out⟩, h⟩⟩
  replace hfin := Lib.hid hfin
  obtain rfl : decide (0 < r.o) = q := by rw [← hq.out]; exact (decide_eq_decide.2 (hiff.out.trans hfin.out)).symm
  go_wp2
  go_ret
  exact ⟨rfl, HB.out⟩
 have b1 : (r.k == 1) = false := beq_eq_false_iff_ne.mpr k1
 replace k1 := Lib.hid k1
 by_cases k2 : r.k = 2
 ·have b2 : (r.k == 2) = true := beq_iff_eq.mpr k2
  have hk := Lib.hid k2
  clear k2
  go_wp2_with fail
  refine (bare_c (HI.out.alloc _) true true false).mono ?_
  rintro e w1 ⟨rfl, hb⟩
  have BK := Lib.hid (blk_below (heap_alloc_new w _) hb)
  have HB := Lib.hid (below_then (below_alloc (Below.refl w.heap.size w) _) (by rw [World.size_alloc]; omega) hb)
  replace HI := Aside0.mk (HI.out.below HB.out)
  clear hb
  obtain ⟨d_0, d_1, d_2, d_3, d_4, d_5, d_6, d_7, d_8, d_9⟩ := ten_cells BK.out
  by_cases hb : Bare r true true false
  rotate_left
  ·rw [decide_eq_false hb]
   have G := Lib.hid hb
   clear hb
   obtain rfl : false = q := by rw [← hq.out]; exact (decide_eq_false fun ho => G.out ((ok_2 hk.out ht.out hp.out).1 ho).1).symm
   go_wp2
   go_ret
   exact ⟨rfl, HB.out⟩
  rw [decide_eq_true hb]
  replace hb := Lib.hid hb
  by_cases n0 : r.n < 0
  ·have b_n0 : decide (r.n < 0) = true := decide_eq_true n0
   have G := Lib.hid n0
   clear n0
   obtain rfl : false = q := by rw [← hq.out]; exact (decide_eq_false fun ho => by have := ((ok_2 hk.out ht.out hp.out).1 ho).2.1; have := G.out; omega).symm
   go_wp2
   go_ret
   exact ⟨rfl, HB.out⟩
  have b_n0 : decide (r.n < 0) = false := decide_eq_false n0
  replace n0 := Lib.hid n0
  by_cases g1 : r.g = -1
  ·have bg : (r.g == -1) = true := beq_iff_eq.mpr g1
   have hg := Lib.hid g1
   clear g1
   have hiff : r.Ok ↔ (r.o = 0 ∧ r.args.length = 0 ∧ r.imgs.length = 0) := by
    rw [ok_2 hk.out ht.out hp.out]
    exact ⟨fun h => h.2.2.elim (fun h => h.2) (fun h => absurd h.1.1 (by rw [hg.out]; decide)), fun h => ⟨hb.out, by have := n0.out; omega, .inl ⟨hg.out, h⟩⟩⟩
   replace hiff := Lib.hid hiff
   by_cases o0 : r.o = 0
   rotate_left
   ·have bx : (r.o == 0) = false := beq_eq_false_iff_ne.mpr o0
    have G := Lib.hid o0
    clear o0
    obtain rfl : false = q := by rw [← hq.out]; exact (decide_eq_false fun ho => by have := hiff.out.1 ho; have := G.out; omega).symm
    go_wp2
    go_ret
    exact ⟨rfl, HB.out⟩
   have bx_o0 : (r.o == 0) = true := beq_iff_eq.mpr o0
   replace o0 := Lib.hid o0
   by_cases a0 : (r.args.length : Int) = 0
   rotate_left
   ·have bx : ((r.args.length : Int) == 0) = false := beq_eq_false_iff_ne.mpr a0
    have by_ : (r.args.length == 0) = false := beq_eq_false_iff_ne.mpr (by omega)
    have G := Lib.hid a0
    clear a0
    obtain rfl : false = q := by rw [← hq.out]; exact (decide_eq_false fun ho => by have := hiff.out.1 ho; have := G.out; omega).symm
    go_wp2
    go_ret
    exact ⟨rfl, HB.out⟩
   have bx_a0 : ((r.args.length : Int) == 0) = true := beq_iff_eq.mpr a0
   have by_a0 : (r.args.length == 0) = true := beq_iff_eq.mpr (by omega)
   replace a0 := Lib.hid a0
   by_cases i0 : (r.imgs.length : Int) = 0
   rotate_left
   ·have bx : ((r.imgs.length : Int) == 0) = false := beq_eq_false_iff_ne.mpr i0
    have by_ : (r.imgs.length == 0) = false := beq_eq_false_iff_ne.mpr (by omega)
    have G := Lib.hid i0
    clear i0
    obtain rfl : false = q := by rw [← hq.out]; exact (decide_eq_false fun ho => by have := hiff.out.1 ho; have := G.out; omega).symm
    go_wp2
    go_ret
    exact ⟨rfl, HB.out⟩
   have bx_i0 : ((r.imgs.length : Int) == 0) = true := beq_iff_eq.mpr i0
   have by_i0 : (r.imgs.length == 0) = true := beq_iff_eq.mpr (by omega)
   replace i0 := Lib.hid i0
   obtain rfl : true = q := by rw [← hq.out]; exact (decide_eq_true (hiff.out.2 ⟨o0.out, by have := a0.out; omega, by have := i0.out; omega⟩)).symm
   go_wp2
   go_ret
   exact ⟨rfl, HB.out⟩
  have bg : (r.g == -1) = false := beq_eq_false_iff_ne.mpr g1
  replace g1 := Lib.hid g1
  have hiff : r.Ok ↔ OnPage r.g r.o r.args r.imgs true := by
   rw [ok_2 hk.out ht.out hp.out]
   exact ⟨fun h => h.2.2.elim (fun h => absurd h.1 g1.out) id, fun h => ⟨hb.out, by have := n0.out; omega, .inr h⟩⟩
  replace hiff := Lib.hid hiff
  by_cases g0 : r.g < 0
  ·have b_g0 : decide (r.g < 0) = true := decide_eq_true g0
   have G := Lib.hid g0
   clear g0
   obtain rfl : false = q := by rw [← hq.out]; exact (decide_eq_false fun ho => by have := (hiff.out.1 ho).1.1; have := G.out; omega).symm
   go_wp2
   go_ret
   exact ⟨rfl, HB.out⟩
  have b_g0 : decide (r.g < 0) = false := decide_eq_false g0
  replace g0 := Lib.hid g0
  by_cases g9 : 1023 < r.g
  ·have b_g9 : decide (1023 < r.g) = true := decide_eq_true g9
   have G := Lib.hid g9
   clear g9
   obtain rfl : false = q := by rw [← hq.out]; exact (decide_eq_false fun ho => by have := (hiff.out.1 ho).1.2.1; have := G.out; omega).symm
   go_wp2
   go_ret
   exact ⟨rfl, HB.out⟩
  have b_g9 : decide (1023 < r.g) = false := decide_eq_false g9
  replace g9 := Lib.hid g9
  by_cases oo : r.o < 0
  ·have b_oo : decide (r.o < 0) = true := decide_eq_true oo
   have G := Lib.hid oo
   clear oo
   obtain rfl : false = q := by rw [← hq.out]; exact (decide_eq_false fun ho => by have := (hiff.out.1 ho).1.2.2.1; have := G.out; omega).symm
   go_wp2
   go_ret
   exact ⟨rfl, HB.out⟩
  have b_oo : decide (r.o < 0) = false := decide_eq_false oo
  replace oo := Lib.hid oo
  by_cases o9 : 16 < r.o
  ·have b_o9 : decide (16 < r.o) = true := decide_eq_true o9
   have G := Lib.hid o9
   clear o9
   obtain rfl : false = q := by rw [← hq.out]; exact (decide_eq_false fun ho => by have := (hiff.out.1 ho).1.2.2.2.1; have := G.out; omega).symm
   go_wp2
   go_ret
   exact ⟨rfl, HB.out⟩
  have b_o9 : decide (16 < r.o) = false := decide_eq_false o9
  replace o9 := Lib.hid o9
  by_cases ar : 8 < (r.args.length : Int)
  ·have b_ar : decide (8 < (r.args.length : Int)) = true := decide_eq_true ar
   have G := Lib.hid ar
   clear ar
   obtain rfl : false = q := by rw [← hq.out]; exact (decide_eq_false fun ho => by have := (hiff.out.1 ho).1.2.2.2.2.1; have := G.out; omega).symm
   go_wp2
   go_ret
   exact ⟨rfl, HB.out⟩
  have b_ar : decide (8 < (r.args.length : Int)) = false := decide_eq_false ar
  replace ar := Lib.hid ar
  go_wp2_with fail
  refine (imagesOk_c HI.out.C6 HI.out.L6).mono ?_
  rintro e w2 ⟨rfl, hb2⟩
  replace BK := Lib.hid (blk_below BK.out hb2)
  replace HB := Lib.hid (below_then HB.out HB.out.size hb2)
  clear hb2 d_0 d_1 d_2 d_3 d_4 d_5 d_6 d_7 d_8 d_9
  obtain ⟨d_0, d_1, d_2, d_3, d_4, d_5, d_6, d_7, d_8, d_9⟩ := ten_cells BK.out
  by_cases im : ImgOk r.imgs
  rotate_left
  ·rw [decide_eq_false im]
   have G := Lib.hid im
   clear im
   obtain rfl : false = q := by rw [← hq.out]; exact (decide_eq_false fun ho => G.out (hiff.out.1 ho).1.2.2.2.2.2).symm
   go_wp2
   go_ret
   exact ⟨rfl, HB.out⟩
  rw [decide_eq_true im]
  replace im := Lib.hid im
  have hfin : OnPage r.g r.o r.args r.imgs true ↔ (0 < r.o ∧ r.imgs.length = 0) ∨ (r.o = 0 ∧ r.args.length = 0) := by
   unfold OnPage
   rw [if_pos rfl]
   exact ⟨fun h => h.2, fun h => ⟨⟨by have := g0.out; omega, by have := g9.out; omega, by have := oo.out; omega, by have := o9.out; omega, by have := ar.out; omega, im.out⟩, h⟩⟩
  replace hfin := Lib.hid hfin
  by_cases op : 0 < r.o
  ·have bo : decide (0 < r.o) = true := decide_eq_true op
   obtain rfl : ((r.imgs.length : Int) == 0) = q := by rw [← hq.out, show ((r.imgs.length : Int) == 0) = decide ((r.imgs.length : Int) = 0) from rfl]; exact (decide_eq_decide.2 ((hiff.out.trans hfin.out).trans ⟨fun h => by omega, fun h => by omega⟩)).symm
   replace op := Lib.hid op
   go_wp2
   go_ret
   exact ⟨by first | rfl | simp, HB.out⟩
  have bo : decide (0 < r.o) = false := decide_eq_false op
  have oz := oo.out
  obtain rfl : ((r.args.length : Int) == 0) = q := by rw [← hq.out, show ((r.args.length : Int) == 0) = decide ((r.args.length : Int) = 0) from rfl]; exact (decide_eq_decide.2 ((hiff.out.trans hfin.out).trans ⟨fun h => by omega, fun h => by omega⟩)).symm
  clear oz
  replace op := Lib.hid op
  go_wp2
  go_ret
  exact ⟨by first | rfl | simp, HB.out⟩
 have b2 : (r.k == 2) = false := beq_eq_false_iff_ne.mpr k2
 replace k2 := Lib.hid k2
 obtain rfl : false = q := by rw [← hq.out]; exact (decide_eq_false fun ho => by have := ok_kind ho; have := k1.out; have := k2.out; have := k3.out; have := k4.out; have := k5.out; omega).symm
 go_wp2
 go_ret
 exact ⟨rfl, below_alloc (Below.refl _ _) _⟩
theorem upto_next {P : Nat → Prop} {i : Nat} (h : ∀ j, j < i → P j) (hi : P i) : ∀ j, j < i + 1 → P j := fun j hj => by
 rcases Nat.lt_or_ge j i with h1 | h1
 ·exact h j h1
 ·obtain rfl : i = j := by omega
  exact hi
set_option maxHeartbeats 8000000 in
set_option maxRecDepth 100000 in
theorem good_check {r : Rec} {a : Lies} {w : World} (h : RIn w r a) (hw : r.Wide) (k5 : r.k = 5) : Calls Try.prog 23 #[.agg (r.cells a)] w fun e w' => e = .returned (.bool (decide r.Ok)) ∧ Below w.heap.size w w' := by
 have hu30 := Try.underlying30
 have hu54 := Try.underlying54
 have hu56 := Try.underlying56
 obtain ⟨A5, c5, A6, c6, A8, c8, A9, c9⟩ := a
 have HI := Aside0.mk h
 clear h
 have HO := Lib.hid (ok_5 hw k5)
 clear hw
 obtain ⟨q, hq⟩ : ∃ q, decide r.Ok = q := ⟨_, rfl⟩
 rw [hq]
 replace hq := Lib.hid hq
 have b5 : (r.k == 5) = true := beq_iff_eq.mpr k5
 replace k5 := Lib.hid k5
 unfold Rec.cells
 go_enter Try.func23, Try.ntmps23

 by_cases t0 : r.t = 0
 rotate_left
 ·have b_t0 : (r.t != 0) = true := bne_iff_ne.mpr t0
  have G := Lib.hid t0
  clear t0
  obtain rfl : false = q := by rw [← hq.out]; exact (decide_eq_false fun ho => G.out (HO.out.1 ho).1.1).symm
  go_wp2
  go_ret
  exact ⟨rfl, below_alloc (Below.refl _ _) _⟩
 have b_t0 : (r.t != 0) = false := bne_eq_false_iff_eq.mpr t0
 replace t0 := Lib.hid t0
 by_cases p0 : r.p = 0
 rotate_left
 ·have b_p0 : (r.p != 0) = true := bne_iff_ne.mpr p0
  have G := Lib.hid p0
  clear p0
  obtain rfl : false = q := by rw [← hq.out]; exact (decide_eq_false fun ho => G.out (HO.out.1 ho).1.2.1).symm
  go_wp2
  go_ret
  exact ⟨rfl, below_alloc (Below.refl _ _) _⟩
 have b_p0 : (r.p != 0) = false := bne_eq_false_iff_eq.mpr p0
 replace p0 := Lib.hid p0
 go_wp2_with fail
 refine (bare_c (HI.out.alloc _) false false true).mono ?_
 rintro e w1 ⟨rfl, hb⟩
 have BK := Lib.hid (blk_below (heap_alloc_new w _) hb)
 have HB := Lib.hid (below_then (below_alloc (Below.refl w.heap.size w) _) (by rw [World.size_alloc]; omega) hb)
 replace HI := Aside0.mk (HI.out.below HB.out)
 clear hb
 obtain ⟨d_0, d_1, d_2, d_3, d_4, d_5, d_6, d_7, d_8, d_9⟩ := ten_cells BK.out
 by_cases hb : Bare r false false true
 rotate_left
 ·rw [decide_eq_false hb]
  have G := Lib.hid hb
  clear hb
  obtain rfl : false = q := by rw [← hq.out]; exact (decide_eq_false fun ho => G.out (HO.out.1 ho).1.2.2.1).symm
  go_wp2
  go_ret
  exact ⟨rfl, HB.out⟩
 rw [decide_eq_true hb]
 replace hb := Lib.hid hb
 by_cases l8 : 64 < (r.di.length : Int)
 ·have b_l8 : decide (64 < (r.di.length : Int)) = true := decide_eq_true l8
  have G := Lib.hid l8
  clear l8
  obtain rfl : false = q := by rw [← hq.out]; exact (decide_eq_false fun ho => by have := (HO.out.1 ho).1.2.2.2.1; have := G.out; omega).symm
  go_wp2
  go_ret
  exact ⟨rfl, HB.out⟩
 have b_l8 : decide (64 < (r.di.length : Int)) = false := decide_eq_false l8
 replace l8 := Lib.hid l8
 by_cases l9 : 64 < (r.ac.length : Int)
 ·have b_l9 : decide (64 < (r.ac.length : Int)) = true := decide_eq_true l9
  have G := Lib.hid l9
  clear l9
  obtain rfl : false = q := by rw [← hq.out]; exact (decide_eq_false fun ho => by have := (HO.out.1 ho).1.2.2.2.2; have := G.out; omega).symm
  go_wp2
  go_ret
  exact ⟨rfl, HB.out⟩
 have b_l9 : decide (64 < (r.ac.length : Int)) = false := decide_eq_false l9
 replace l9 := Lib.hid l9
 go_wp2
 go_loopw [3] (fun v3 wr => ∃ (i : Nat), v3 = .int .i64 (i : Int) ∧ i ≤ r.di.length ∧ Hid (∀ j, j < i → DirtyOk r.di j) ∧ Hid (Below w1.heap.size w1 wr)) (fun v3 _ => r.di.length - (match v3 with | .int _ n => n.toNat | _ => 0))
 case atStart => exact ⟨0, rfl, Nat.zero_le _, Lib.hid (fun j hj => absurd hj (Nat.not_lt_zero j)), Lib.hid (Below.refl _ _)⟩
 case round =>
  obtain ⟨i, rfl, hi, Hall, HBr⟩ := hrel
  have K1 := Lib.hid (blk_below BK.out HBr.out)
  have I1 := Aside0.mk (HI.out.below HBr.out)
  have HB1 := Lib.hid (below_then HB.out HB.out.size HBr.out)
  clear d_0 d_1 d_2 d_3 d_4 d_5 d_6 d_7 d_8 d_9
  obtain ⟨d_0, d_1, d_2, d_3, d_4, d_5, d_6, d_7, d_8, d_9⟩ := ten_cells K1.out
  have hmx := Kd.C_max I1.out.C8
  by_cases hlt : i < r.di.length
  ·have hz : w.heap.size < wr.heap.size := blk_lt K1.out
   have hz' : ¬ w.heap.size = wr.heap.size := by omega
   have hprev : 0 < i → ∃ ad, Lies.A8 ⟨A5, c5, A6, c6, A8, c8, A9, c9⟩ = some ad ∧ ∀ o, (wr.alloc o).cell? (ad.add ((i - 1) * 2)) = some (.int .i64 (r.di.getD (i - 1) z54).f0) := fun h0 => by
    obtain ⟨ad, eA, _⟩ := at_T54 I1.out.C8 ((i - 1 : Nat) : Int) (by omega) (by omega)
    refine ⟨ad, eA, fun o => ?_⟩
    obtain ⟨ad', eB, p0, p1⟩ := at_T54 (Kd.C_alloc I1.out.C8 o) ((i - 1 : Nat) : Int) (by omega) (by omega)
    obtain rfl := Option.some.inj (eA.symm.trans eB)
    exact p0
   obtain ⟨ad, eA, p0, p1⟩ := at_T54 I1.out.C8 (i : Int) (by omega) (by omega)
   dsimp only at eA
   subst eA
   rw [show ((i : Int)).toNat = i from rfl] at p0 p1
   obtain ⟨u, Hu⟩ : ∃ u, Hid (r.di.getD i z54 = u) := ⟨_, Lib.hid rfl⟩
   rw [show rd_T54 r.di (i : Int) = r.di.getD i z54 from rfl, Hu.out] at p0 p1
   obtain ⟨v, Hv⟩ : ∃ v, Hid ((r.di.getD (i - 1) z54).f0 = v) := ⟨_, Lib.hid rfl⟩
   replace hprev := Lib.hid hprev
   have hlt0 := Lib.hid hlt
   by_cases f0 : u.f0 < 0
   ·have b_f0 : decide (u.f0 < 0) = true := decide_eq_true f0
    have G := Lib.hid f0
    clear f0
    obtain rfl : false = q := by rw [← hq.out]; exact (decide_eq_false fun ho => by have hD := (HO.out.1 ho).2.1 i hlt0.out; unfold DirtyOk at hD; rw [Hu.out] at hD; have := hD.1; have := G.out; omega).symm
    go_wp2
    repeat (go_quiet (fail); try go_wp2)
    go_ret
    exact ⟨rfl, by (with_reducible repeat (first | apply below_alloc | apply pw_below_drewN | apply below_drew1)); exact HB1.out⟩
   have b_f0 : decide (u.f0 < 0) = false := decide_eq_false f0
   replace f0 := Lib.hid f0
   by_cases f9 : 1023 < u.f0
   ·have b_f9 : decide (1023 < u.f0) = true := decide_eq_true f9
    have G := Lib.hid f9
    clear f9
    obtain rfl : false = q := by rw [← hq.out]; exact (decide_eq_false fun ho => by have hD := (HO.out.1 ho).2.1 i hlt0.out; unfold DirtyOk at hD; rw [Hu.out] at hD; have := hD.2.1; have := G.out; omega).symm
    go_wp2
    repeat (go_quiet (fail); try go_wp2)
    go_ret
    exact ⟨rfl, by (with_reducible repeat (first | apply below_alloc | apply pw_below_drewN | apply below_drew1)); exact HB1.out⟩
   have b_f9 : decide (1023 < u.f0) = false := decide_eq_false f9
   replace f9 := Lib.hid f9
   by_cases f1 : u.f1 < 0
   ·have b_f1 : decide (u.f1 < 0) = true := decide_eq_true f1
    have G := Lib.hid f1
    clear f1
    obtain rfl : false = q := by rw [← hq.out]; exact (decide_eq_false fun ho => by have hD := (HO.out.1 ho).2.1 i hlt0.out; unfold DirtyOk at hD; rw [Hu.out] at hD; have := hD.2.2.1; have := G.out; omega).symm
    go_wp2
    repeat (go_quiet (fail); try go_wp2)
    go_ret
    exact ⟨rfl, by (with_reducible repeat (first | apply below_alloc | apply pw_below_drewN | apply below_drew1)); exact HB1.out⟩
   have b_f1 : decide (u.f1 < 0) = false := decide_eq_false f1
   replace f1 := Lib.hid f1
   by_cases i0 : 0 < i
   ·have bi : decide (0 < (i : Int)) = true := decide_eq_true (by omega)
    obtain ⟨ad2, e2, hp⟩ := hprev.out i0
    dsimp only at e2
    obtain rfl := Option.some.inj e2
    rw [Hv.out] at hp
    have hw1 : wrap64 ((i : Int) - 1) = ((i - 1 : Nat) : Int) := by unfold wrap64; omega
    have hb1 : i - 1 < r.di.length := by omega
    by_cases le : u.f0 ≤ v
    ·have ble : decide (u.f0 ≤ v) = true := decide_eq_true le
     have G := Lib.hid le
     clear le
     have i0' := Lib.hid i0
     obtain rfl : false = q := by rw [← hq.out]; exact (decide_eq_false fun ho => by have hD := (HO.out.1 ho).2.1 i hlt0.out; unfold DirtyOk at hD; rw [Hu.out, Hv.out] at hD; have := hD.2.2.2 i0'.out; have := G.out; omega).symm
     go_wp2
     repeat (go_quiet (fail); try go_wp2)
     go_ret
     exact ⟨rfl, by (with_reducible repeat (first | apply below_alloc | apply pw_below_drewN | apply below_drew1)); exact HB1.out⟩
    have ble : decide (u.f0 ≤ v) = false := decide_eq_false le
    replace le := Lib.hid le
    go_wp2
    repeat (go_quiet (fail); try go_wp2)
    go_roundw
    case rel => exact ⟨i + 1, by go_num, by omega, Lib.hid (upto_next Hall.out (by unfold DirtyOk; rw [Hu.out, Hv.out]; exact ⟨by have := f0.out; omega, by have := f9.out; omega, by have := f1.out; omega, fun h0 => by have := le.out; omega⟩)), Lib.hid (by (with_reducible repeat (first | apply below_alloc | apply pw_below_drewN | apply below_drew1)); exact HBr.out)⟩
    case measure => simp [intOf]; omega
   ·have bi : decide (0 < (i : Int)) = false := decide_eq_false (by omega)
    go_wp2
    repeat (go_quiet (fail); try go_wp2)
    go_roundw
    case rel => exact ⟨i + 1, by go_num, by omega, Lib.hid (upto_next Hall.out (by unfold DirtyOk; rw [Hu.out, Hv.out]; exact ⟨by have := f0.out; omega, by have := f9.out; omega, by have := f1.out; omega, fun h0 => absurd h0 i0⟩)), Lib.hid (by (with_reducible repeat (first | apply below_alloc | apply pw_below_drewN | apply below_drew1)); exact HBr.out)⟩
    case measure => simp [intOf]; omega
  ·obtain rfl : i = r.di.length := by omega
   have L_di := Hall
   clear HB HI BK Hall HBr hlt hi hmx
   clear d_0 d_1 d_2 d_3 d_4 d_5 d_6 d_7 d_8 d_9
   have HB := HB1
   have HI := I1
   have BK := K1
   clear HB1 I1 K1
   obtain ⟨wr8, hwr⟩ : ∃ x, x = wr := ⟨_, rfl⟩
   subst hwr
   obtain ⟨d_0, d_1, d_2, d_3, d_4, d_5, d_6, d_7, d_8, d_9⟩ := ten_cells BK.out
   go_wp2
   go_loopw [5] (fun v5 wr => ∃ (i : Nat), v5 = .int .i64 (i : Int) ∧ i ≤ r.ac.length ∧ Hid (∀ j, j < i → ActiveOk r.ac j) ∧ Hid (Below wr8.heap.size wr8 wr)) (fun v5 _ => r.ac.length - (match v5 with | .int _ n => n.toNat | _ => 0))
   case atStart => exact ⟨0, rfl, Nat.zero_le _, Lib.hid (fun j hj => absurd hj (Nat.not_lt_zero j)), Lib.hid (Below.refl _ _)⟩
   case round =>
    obtain ⟨i, rfl, hi, Hall, HBr⟩ := hrel
    have K1 := Lib.hid (blk_below BK.out HBr.out)
    have I1 := Aside0.mk (HI.out.below HBr.out)
    have HB1 := Lib.hid (below_then HB.out HB.out.size HBr.out)
    clear d_0 d_1 d_2 d_3 d_4 d_5 d_6 d_7 d_8 d_9
    obtain ⟨d_0, d_1, d_2, d_3, d_4, d_5, d_6, d_7, d_8, d_9⟩ := ten_cells K1.out
    have hmx := Kd.C_max I1.out.C9
    by_cases hlt : i < r.ac.length
    ·have hz : w.heap.size < wr.heap.size := blk_lt K1.out
     have hz' : ¬ w.heap.size = wr.heap.size := by omega
     have hprev : 0 < i → ∃ ad, Lies.A9 ⟨A5, c5, A6, c6, A8, c8, A9, c9⟩ = some ad ∧ ∀ o, (wr.alloc o).cell? (ad.add ((i - 1) * 4)) = some (.int .i64 (r.ac.getD (i - 1) z56).f0) := fun h0 => by
      obtain ⟨ad, eA, _⟩ := at_T56 I1.out.C9 ((i - 1 : Nat) : Int) (by omega) (by omega)
      refine ⟨ad, eA, fun o => ?_⟩
      obtain ⟨ad', eB, p0, p1, p2, p3⟩ := at_T56 (Kd.C_alloc I1.out.C9 o) ((i - 1 : Nat) : Int) (by omega) (by omega)
      obtain rfl := Option.some.inj (eA.symm.trans eB)
      exact p0
     obtain ⟨ad, eA, p0, p1, p2, p3⟩ := at_T56 I1.out.C9 (i : Int) (by omega) (by omega)
     dsimp only at eA
     subst eA
     rw [show ((i : Int)).toNat = i from rfl] at p0 p1 p2 p3
     obtain ⟨u, Hu⟩ : ∃ u, Hid (r.ac.getD i z56 = u) := ⟨_, Lib.hid rfl⟩
     rw [show rd_T56 r.ac (i : Int) = r.ac.getD i z56 from rfl, Hu.out] at p0 p1 p2 p3
     obtain ⟨v, Hv⟩ : ∃ v, Hid ((r.ac.getD (i - 1) z56).f0 = v) := ⟨_, Lib.hid rfl⟩
     replace hprev := Lib.hid hprev
     have hlt0 := Lib.hid hlt
     by_cases f0 : u.f0 < 1
     ·have b_f0 : decide (u.f0 < 1) = true := decide_eq_true f0
      have G := Lib.hid f0
      clear f0
      obtain rfl : false = q := by rw [← hq.out]; exact (decide_eq_false fun ho => by have hD := (HO.out.1 ho).2.2 i hlt0.out; unfold ActiveOk at hD; rw [Hu.out] at hD; have := hD.1; have := G.out; omega).symm
      go_wp2
      repeat (go_quiet (fail); try go_wp2)
      go_ret
      exact ⟨rfl, by (with_reducible repeat (first | apply below_alloc | apply pw_below_drewN | apply below_drew1)); exact HB1.out⟩
     have b_f0 : decide (u.f0 < 1) = false := decide_eq_false f0
     replace f0 := Lib.hid f0
     by_cases f9 : 4611686018427387904 < u.f0
     ·have b_f9 : decide (4611686018427387904 < u.f0) = true := decide_eq_true f9
      have G := Lib.hid f9
      clear f9
      obtain rfl : false = q := by rw [← hq.out]; exact (decide_eq_false fun ho => by have hD := (HO.out.1 ho).2.2 i hlt0.out; unfold ActiveOk at hD; rw [Hu.out] at hD; have := hD.2.1; have := G.out; omega).symm
      go_wp2
      repeat (go_quiet (fail); try go_wp2)
      go_ret
      exact ⟨rfl, by (with_reducible repeat (first | apply below_alloc | apply pw_below_drewN | apply below_drew1)); exact HB1.out⟩
     have b_f9 : decide (4611686018427387904 < u.f0) = false := decide_eq_false f9
     replace f9 := Lib.hid f9
     by_cases f1 : u.f1 < 0
     ·have b_f1 : decide (u.f1 < 0) = true := decide_eq_true f1
      have G := Lib.hid f1
      clear f1
      obtain rfl : false = q := by rw [← hq.out]; exact (decide_eq_false fun ho => by have hD := (HO.out.1 ho).2.2 i hlt0.out; unfold ActiveOk at hD; rw [Hu.out] at hD; have := hD.2.2.1; have := G.out; omega).symm
      go_wp2
      repeat (go_quiet (fail); try go_wp2)
      go_ret
      exact ⟨rfl, by (with_reducible repeat (first | apply below_alloc | apply pw_below_drewN | apply below_drew1)); exact HB1.out⟩
     have b_f1 : decide (u.f1 < 0) = false := decide_eq_false f1
     replace f1 := Lib.hid f1
     by_cases f2 : u.f2 < 0
     ·have b_f2 : decide (u.f2 < 0) = true := decide_eq_true f2
      have G := Lib.hid f2
      clear f2
      obtain rfl : false = q := by rw [← hq.out]; exact (decide_eq_false fun ho => by have hD := (HO.out.1 ho).2.2 i hlt0.out; unfold ActiveOk at hD; rw [Hu.out] at hD; have := hD.2.2.2.1; have := G.out; omega).symm
      go_wp2
      repeat (go_quiet (fail); try go_wp2)
      go_ret
      exact ⟨rfl, by (with_reducible repeat (first | apply below_alloc | apply pw_below_drewN | apply below_drew1)); exact HB1.out⟩
     have b_f2 : decide (u.f2 < 0) = false := decide_eq_false f2
     replace f2 := Lib.hid f2
     by_cases f3 : u.f3 < 0
     ·have b_f3 : decide (u.f3 < 0) = true := decide_eq_true f3
      have G := Lib.hid f3
      clear f3
      obtain rfl : false = q := by rw [← hq.out]; exact (decide_eq_false fun ho => by have hD := (HO.out.1 ho).2.2 i hlt0.out; unfold ActiveOk at hD; rw [Hu.out] at hD; have := hD.2.2.2.2.1; have := G.out; omega).symm
      go_wp2
      repeat (go_quiet (fail); try go_wp2)
      go_ret
      exact ⟨rfl, by (with_reducible repeat (first | apply below_alloc | apply pw_below_drewN | apply below_drew1)); exact HB1.out⟩
     have b_f3 : decide (u.f3 < 0) = false := decide_eq_false f3
     replace f3 := Lib.hid f3
     by_cases i0 : 0 < i
     ·have bi : decide (0 < (i : Int)) = true := decide_eq_true (by omega)
      obtain ⟨ad2, e2, hp⟩ := hprev.out i0
      dsimp only at e2
      obtain rfl := Option.some.inj e2
      rw [Hv.out] at hp
      have hw1 : wrap64 ((i : Int) - 1) = ((i - 1 : Nat) : Int) := by unfold wrap64; omega
      have hb1 : i - 1 < r.ac.length := by omega
      by_cases le : u.f0 ≤ v
      ·have ble : decide (u.f0 ≤ v) = true := decide_eq_true le
       have G := Lib.hid le
       clear le
       have i0' := Lib.hid i0
       obtain rfl : false = q := by rw [← hq.out]; exact (decide_eq_false fun ho => by have hD := (HO.out.1 ho).2.2 i hlt0.out; unfold ActiveOk at hD; rw [Hu.out, Hv.out] at hD; have := hD.2.2.2.2.2 i0'.out; have := G.out; omega).symm
       go_wp2
       repeat (go_quiet (fail); try go_wp2)
       go_ret
       exact ⟨rfl, by (with_reducible repeat (first | apply below_alloc | apply pw_below_drewN | apply below_drew1)); exact HB1.out⟩
      have ble : decide (u.f0 ≤ v) = false := decide_eq_false le
      replace le := Lib.hid le
      go_wp2
      repeat (go_quiet (fail); try go_wp2)
      go_roundw
      case rel => exact ⟨i + 1, by go_num, by omega, Lib.hid (upto_next Hall.out (by unfold ActiveOk; rw [Hu.out, Hv.out]; exact ⟨by have := f0.out; omega, by have := f9.out; omega, by have := f1.out; omega, by have := f2.out; omega, by have := f3.out; omega, fun h0 => by have := le.out; omega⟩)), Lib.hid (by (with_reducible repeat (first | apply below_alloc | apply pw_below_drewN | apply below_drew1)); exact HBr.out)⟩
      case measure => simp [intOf]; omega
     ·have bi : decide (0 < (i : Int)) = false := decide_eq_false (by omega)
      go_wp2
      repeat (go_quiet (fail); try go_wp2)
      go_roundw
      case rel => exact ⟨i + 1, by go_num, by omega, Lib.hid (upto_next Hall.out (by unfold ActiveOk; rw [Hu.out, Hv.out]; exact ⟨by have := f0.out; omega, by have := f9.out; omega, by have := f1.out; omega, by have := f2.out; omega, by have := f3.out; omega, fun h0 => absurd h0 i0⟩)), Lib.hid (by (with_reducible repeat (first | apply below_alloc | apply pw_below_drewN | apply below_drew1)); exact HBr.out)⟩
      case measure => simp [intOf]; omega
    ·obtain rfl : i = r.ac.length := by omega
     have L_ac := Hall
     clear HB HI BK Hall HBr hlt hi hmx
     clear d_0 d_1 d_2 d_3 d_4 d_5 d_6 d_7 d_8 d_9
     have HB := HB1
     have HI := I1
     have BK := K1
     clear HB1 I1 K1
     obtain ⟨wr9, hwr⟩ : ∃ x, x = wr := ⟨_, rfl⟩
     subst hwr
     obtain ⟨d_0, d_1, d_2, d_3, d_4, d_5, d_6, d_7, d_8, d_9⟩ := ten_cells BK.out
     obtain rfl : true = q := by rw [← hq.out]; exact (decide_eq_true (HO.out.2 ⟨⟨t0.out, p0.out, hb.out, by have := l8.out; omega, by have := l9.out; omega⟩, L_di.out, L_ac.out⟩)).symm
     go_wp2
     go_ret
     exact ⟨rfl, HB.out⟩
theorem good_c {r : Rec} {a : Lies} {w : World} (h : RIn w r a) (hw : r.Wide) : Calls Try.prog 23 #[.agg (r.cells a)] w fun e w' => e = .returned (.bool (decide r.Ok)) ∧ Below w.heap.size w w' := by
 by_cases k : r.k = 5
 ·exact good_check h hw k
 ·exact good_other h k
theorem bytes_c {r : Rec} {a : Lies} {w : World} (h : RIn w r a) (hf : r.Fits) : Calls Try.prog 36 #[.agg (r.cells a)] w fun e w' => ∃ A c, e = .returned (.slice A r.bytes.length c) ∧ r.bytes.length ≤ c ∧ Kd.C (Kd.int .u8) w' A r.bytes.length r.bytes ∧ Below w.heap.size w w' := by
  refine (palimpsestref16_Bytes.calls 90001 r.k r.t r.p r.g r.o a.A5 a.c5 r.args a.A6 a.c6 r.imgs r.n a.A8 a.c8 r.di a.A9 a.c9 r.ac r.bytes w h.C5 h.L5 h.C6 h.L6 h.C8 h.L8 h.C9 h.L9 (Bytes_f hf 90001 (by omega))).mono ?_
  rintro e w' ⟨v, rfl, ho, hb⟩
  obtain ⟨A, c, rfl, hc, hC⟩ := Kd.R_reads ho
  exact ⟨A, c, rfl, hc, hC, hb⟩
set_option maxHeartbeats 4000000 in
set_option maxRecDepth 100000 in
theorem renc_c {r : Rec} {a : Lies} {w : World} (h : RIn w r a) (hw : r.Wide) (hf : r.Fits) : Calls Try.prog 22 #[.agg (r.cells a)] w fun e w' => ∃ A c, e = .returned (.tuple #[.slice A r.enc.1.length c, .int .i64 (r.enc.2.getD 0)]) ∧ r.enc.1.length ≤ c ∧ Kd.C (Kd.int .u8) w' A r.enc.1.length r.enc.1 ∧ Below w.heap.size w w' := by
  have hu30 := Try.underlying30
  obtain ⟨A5, c5, A6, c6, A8, c8, A9, c9⟩ := a
  have HI := Aside0.mk h
  have HW := Lib.hid hw
  have HF := Lib.hid hf
  clear h hw hf
  obtain ⟨b, x, he⟩ : ∃ b x, r.enc = (b, x) := ⟨_, _, rfl⟩
  have HE := Lib.hid he
  rw [he]
  clear he
  unfold Rec.cells
  go_enter Try.func22, Try.ntmps22
  go_wp2_with fail
  refine (good_c (HI.out.alloc _) HW.out).mono ?_
  rintro e w1 ⟨rfl, hb⟩
  have BK := Lib.hid (blk_below (heap_alloc_new w _) hb)
  have HB := Lib.hid (below_then (below_alloc (Below.refl w.heap.size w) _) (by rw [World.size_alloc]; omega) hb)
  replace HI := Aside0.mk (HI.out.below HB.out)
  clear hb
  obtain ⟨d_0, d_1, d_2, d_3, d_4, d_5, d_6, d_7, d_8, d_9⟩ := ten_cells BK.out
  by_cases ho : r.Ok
  · rw [decide_eq_true ho]
    have HO := Lib.hid ho
    clear ho
    go_wp2_with fail
    refine (bytes_c HI.out HF.out).mono ?_
    rintro e w2 ⟨A, c, rfl, hc, hC, hb⟩
    replace HB := Lib.hid (below_then HB.out HB.out.size hb)
    clear hb d_0 d_1 d_2 d_3 d_4 d_5 d_6 d_7 d_8 d_9 BK
    replace hC := Aside0.mk hC
    replace hc := Lib.hid hc
    by_cases hl : r.bytes.length > 4096
    · have hl1 : decide (4096 < (r.bytes.length : Int)) = true := decide_eq_true (by omega)
      have e : r.enc = ([], some 2) := by unfold Rec.enc; rw [if_pos HO.out, if_pos hl]
      replace hl := Lib.hid hl
      obtain ⟨rfl, rfl⟩ := Prod.mk.inj (HE.out.symm.trans e)
      clear e
      go_wp2
      go_ret2
      exact ⟨none, 0, rfl, Nat.le_refl _, Kd.C_nil _ _, HB.out⟩
    · have hl1 : decide (4096 < (r.bytes.length : Int)) = false := decide_eq_false (by omega)
      have e : r.enc = (r.bytes, none) := by unfold Rec.enc; rw [if_pos HO.out, if_neg hl]
      replace hl := Lib.hid hl
      obtain ⟨rfl, rfl⟩ := Prod.mk.inj (HE.out.symm.trans e)
      clear e
      go_wp2
      go_ret2
      exact ⟨A, c, rfl, hc.out, hC.out, HB.out⟩
  · rw [decide_eq_false ho]
    have e : r.enc = ([], some 2) := by unfold Rec.enc; rw [if_neg ho]
    replace ho := Lib.hid ho
    obtain ⟨rfl, rfl⟩ := Prod.mk.inj (HE.out.symm.trans e)
    clear e
    go_wp2
    go_ret2
    exact ⟨none, 0, rfl, Nat.le_refl _, Kd.C_nil _ _, HB.out⟩
theorem RIn.void (w : World) : RIn w Rec.zero ⟨none, 0, none, 0, none, 0, none, 0⟩ := ⟨Kd.C_nil _ _, Nat.le_refl _, Kd.C_nil _ _, Nat.le_refl _, Kd.C_nil _ _, Nat.le_refl _, Kd.C_nil _ _, Nat.le_refl _⟩
def kAc (di : List S54) (b : List S56 × (List Int × Bool)) : Rec × (List Int × Bool) := (⟨5, 0, 0, 0, 0, [], [], 0, di, b.1⟩, b.2)
def kD (F : Nat) (a : List S54 × (List Int × Bool)) : Rec × (List Int × Bool) := kAc a.1 (lp gA F (pn1 a.2) [] (pn2 a.2))
def kIm (k t p g o : Int) (args : List Int) (n : Int) (b : List S52 × (List Int × Bool)) : Rec × (List Int × Bool) := (⟨k, t, p, g, o, args, b.1, n, [], []⟩, b.2)
def kAr (F : Nat) (k t p g o n : Int) (a : List Int × (List Int × Bool)) : Rec × (List Int × Bool) := kIm k t p g o a.1 n (lp gI F (pn1 a.2) [] (pn2 a.2))
def kRest2 (F : Nat) (k t p n : Int) (s : List Int × Bool) : Rec × (List Int × Bool) := if k = 1 ∨ k = 2 then rbBody F k t p n s else (⟨k, t, p, 0, 0, [], [], n, [], []⟩, s)
def kRest (F : Nat) (k t p : Int) (s : List Int × Bool) : Rec × (List Int × Bool) := if k = 2 then rbBody F 2 t p (pn1 s) (pn2 s) else if k = 1 then rbBody F 1 t p 0 s else (⟨k, t, p, 0, 0, [], [], 0, [], []⟩, s)
set_option maxHeartbeats 16000000 in
set_option maxRecDepth 100000 in
theorem refdecode_c (A0 : Option Addr) (c0 : Nat) (l0 : List Int) (w : World) (hr0 : Kd.C (Kd.int .u8) w A0 l0.length l0) (hc0 : l0.length ≤ c0) (hb0 : Bytes l0) (s : Rec) (x : Option Int) (h : rdF l0 = (s, x)) :
  Calls Try.prog 13 #[.slice A0 l0.length c0] w fun e w' => ∃ a, e = .returned (.tuple #[.agg (s.cells a), .int .i64 (x.getD 0)]) ∧ RIn w' s a ∧ Below w.heap.size w w' := by
 have hu30 := Try.underlying30
 have hu70 := Try.underlying70
 have HR0 := Aside0.mk hr0
 have H0 := Lib.hid hb0
 have HC0 := Lib.hid hc0
 clear hr0 hb0 hc0
 by_cases hlen : l0.length > 4096
 ·have h1 : decide (4096 < (l0.length : Int)) = true := decide_eq_true (by omega)
  obtain ⟨rfl, rfl⟩ : Rec.zero = s ∧ some 4 = x := by unfold rdF at h; rw [if_pos hlen] at h; exact Prod.mk.inj h
  clear h hlen
  go_enter Try.func13, Try.ntmps13
  go_wp2
  refine bodyPost_ret (results_ct rfl _ _ w.heap.size 30 #[.int .i64 0, .int .i64 0, .int .i64 0, .int .i64 0, .int .i64 0, .slice none 0 0, .slice none 0 0, .int .i64 0, .slice none 0 0, .slice none 0 0] (0, 0) _ rfl (heap_alloc_new w _) Try.underlying30 rfl (by kernel_rfl)) rfl ⟨⟨none, 0, none, 0, none, 0, none, 0⟩, by first | rfl | (simp [Rec.cells, Rec.zero]; done), RIn.void _, by (with_reducible repeat (refine below_set ?_ (by omega))); exact below_alloc (Below.refl _ _) _⟩
 have h1 : decide (4096 < (l0.length : Int)) = false := decide_eq_false (by omega)
 have hd : (match rparse l0.length l0 with | none => (Rec.zero, some 4) | some ns => if (rbF ns).2.2 = true ∧ (rbF ns).1.enc = (l0, none) then ((rbF ns).1, none) else (Rec.zero, some 4)) = (s, x) := by unfold rdF at h; rwa [if_neg hlen] at h
 obtain ⟨P, hP⟩ : ∃ P, rparse l0.length l0 = P := ⟨_, rfl⟩
 rw [hP] at hd
 have HP := Lib.hid hP
 have HD := Lib.hid hd
 have hll : l0.length ≤ 4096 := by omega
 clear h hd hP hlen
 obtain ⟨i05, hi05, _, hsz5, _⟩ := info_parts info5
 have HI5 := Lib.hid hi05
 have HZ5 := Lib.hid hsz5
 clear hi05 hsz5
 go_enter Try.func13, Try.ntmps13
 go_wp2
 go_loopw [6] (fun v6 wr => ∃ (A : Option Addr) (c : Nat) (y ns : List Int) (v : Value), v6 = .slice A y.length c ∧ y.length ≤ c ∧ ns.length + y.length ≤ 4096 ∧ Aside0 (Kd.C (Kd.int .u8) w A y.length y) ∧ Hid (Bytes y) ∧ Aside0 (wr.heap[w.heap.size]? = some (.cells #[.int .i64 0, .int .i64 0, .int .i64 0, .int .i64 0, .int .i64 0, .slice none 0 0, .slice none 0 0, .int .i64 0, .slice none 0 0, .slice none 0 0] 30 (0, 0))) ∧ Aside0 (wr.heap[w.heap.size + 1]? = some (.cells #[v, .bool true] 70 (0, 0))) ∧ Aside0 (Kd.R (Kd.int .i64) 3 wr w.heap.size (fun _ => True) v ns) ∧ Aside0 (Below w.heap.size w wr) ∧ Hid ((rparse y.length y).map (fun z => ns ++ z) = P)) (fun v6 _ => match v6 with | .slice _ n _ => n | _ => 0)
 case atStart =>
  refine ⟨A0, c0, l0, [], .slice none 0 0, rfl, HC0.out, by simpa using hll, HR0, H0, ⟨blk_alloc (heap_alloc_new w _) _⟩, ⟨?_⟩, ⟨Kd.R_nil _ _ _ _ _⟩, ⟨below_alloc (below_alloc (Below.refl _ _) _) _⟩, Lib.hid (by rw [← HP.out]; cases rparse l0.length l0 <;> simp)⟩
  have := heap_alloc_new (w.alloc (.cells #[.int .i64 0, .int .i64 0, .int .i64 0, .int .i64 0, .int .i64 0, .slice none 0 0, .slice none 0 0, .int .i64 0, .slice none 0 0, .slice none 0 0] 30 (0, 0))) (.cells #[.slice none 0 0, .bool true] 70 (0, 0))
  rwa [World.size_alloc] at this
 case round =>
  obtain ⟨A, c, y, ns, v, rfl, hyc, hny, HC, HBy, BZ, BT, HO, HB, HQ⟩ := hrel
  by_cases hy : y.length = 0
  ·obtain rfl : y = [] := List.eq_nil_of_length_eq_zero hy
   obtain rfl : some ns = P := by have := HQ.out; simpa [rparse] using this
   clear HQ HC HBy hy hyc
   obtain ⟨A1, c1, rfl, hc1, hC1⟩ := Kd.R_reads HO.out
   have hlt1 : w.heap.size + 1 < wr.heap.size := blk_lt BT.out
   have hA1 : ∀ ad, A1 = some ad → 0 < ns.length → ad.block < wr.heap.size := by
    rintro ad rfl _
    exact Kd.R_lt HO.out _ (by simp [Value.ownBlock])
   have hA2 : ∀ ad, A1 = some ad → 0 < ns.length → ad.block ≠ w.heap.size + 1 := by
    rintro ad rfl _ he
    exact Kd.R_ne HO.out BT.out (by decide) (by simp [Value.ownBlock, he])
   have HT : IsT wr (w.heap.size + 1) ⟨A1, c1, ns, true⟩ := ⟨BT.out, hC1, hc1, hA2⟩
   obtain ⟨T0, hT0⟩ : ∃ T0 : TV, (⟨A1, c1, ns, true⟩ : TV) = T0 := ⟨_, rfl⟩
   have hTs : T0.s = (ns, true) := by rw [← hT0]; rfl
   have hA3 : ∀ ad, T0.A = some ad → 0 < T0.l.length → ad.block < wr.heap.size := by rw [← hT0]; exact hA1
   rw [hT0] at HT
   replace HT := Aside0.mk HT
   clear hC1 hc1 hA1 hA2 HO hT0
   obtain ⟨RB, hRB⟩ : ∃ RB, rbF ns = RB := ⟨_, rfl⟩
   have HRB := Lib.hid hRB
   obtain ⟨i1, i2⟩ := rparse_i64 _ _ _ HP.out
   have HFit := Lib.hid (rbF_fits i1 (by omega))
   have hns : ns.length ≤ 4096 := by omega
   clear i1 i2 hRB hny
   go_wp2_with fail
   refine (taker_b HT.out).mono ?_
   rintro e w1 ⟨rfl, hT, hk, hB⟩
   go_upto_if 54 with (fail)
   have HS : Aside0 (St w (w1.alloc (.cells #[.int .i64 T0.n1, .int .i64 0, .int .i64 0, .int .i64 0, .int .i64 0, .slice none 0 0, .slice none 0 0, .int .i64 0, .slice none 0 0, .slice none 0 0] 30 (0, 0))) w1.heap.size ⟨T0.n1, 0, 0, 0, 0, [], [], 0, [], []⟩ (.slice none 0 0) (.slice none 0 0) (.slice none 0 0) (.slice none 0 0) T0.n2) :=
    ⟨{ O := blk_alloc (KeepBut.blk hk BZ.out (by omega) (by simp)) _, T := hT.below (below_alloc (Below.refl _ _) _), R := heap_alloc_new w1 _, H5 := Kd.R_nil _ _ _ _ _, H6 := Kd.R_nil _ _ _ _ _, H8 := Kd.R_nil _ _ _ _ _, H9 := Kd.R_nil _ _ _ _ _, B := below_alloc (hB w HB.out (by omega)) _, G := Nat.lt_of_lt_of_le hlt1 hk.1, N := (fun ad e hl => (TV.n2_A e hl).elim fun a h => Nat.lt_of_lt_of_le (h.2.1 ▸ hA3 a h.1 h.2.2) hk.1) }⟩
   generalize w1.alloc _ = w2 at HS ⊢
   generalize w1.heap.size = gr at HS ⊢
   have HG : Hid ((if pn1 T0.s = 5 then rbCheck (ns.length + 2) (pn2 T0.s) else kRest (ns.length + 2) (pn1 T0.s) (pn1 (pn2 T0.s)) (pn1 (pn2 (pn2 T0.s))) (pn2 (pn2 (pn2 T0.s)))) = RB) := Lib.hid (by
    rw [hTs, ← HRB.out]
    unfold rbF kRest
    simp only)
   obtain ⟨F, hF⟩ : ∃ F, ns.length + 2 = F := ⟨_, rfl⟩
   have hmu2 : mu T0.n2.s < F := by rw [TV.n2_s, hTs]; have := mu_le (ns, true); simp only [mu] at this ⊢; simp at this; omega
   have hF2 : F ≤ 4098 := by omega
   rw [hF, ← TV.n2_s, ← TV.n1_s] at HG
   obtain ⟨k, hk0⟩ : ∃ x, T0.n1 = x := ⟨_, rfl⟩
   obtain ⟨t, ht0⟩ : ∃ x, T0.n2 = x := ⟨_, rfl⟩
   rw [hk0, ht0] at HS HG
   rw [ht0] at hmu2
   rw [hk0]
   clear hk hB hT BZ BT hA3 hlt1 HT hTs hk0 ht0 T0 HB hF
   go_cut [10] (fun v10 wc => ∃ (r : Rec) (v5 v6 v8 v9 : Value) (t : TV), Aside0 (St w wc gr r v5 v6 v8 v9 t) ∧ Hid ((r, t.s) = RB))
   case first =>
    obtain ⟨d_0, d_1, d_2, d_3, d_4, d_5, d_6, d_7, d_8, d_9⟩ := ten_cells HS.out.R
    have dfr := ten_free HS.out.R
    by_cases k5 : k = 5
    ·have HG2 : Hid (rbCheck F t.s = RB) := Lib.hid (by have := HG.out; rwa [if_pos k5] at this)
     clear HG
     subst k5
     go_wp2_with fail
     clear d_0 d_1 d_2 d_3 d_4 d_5 d_6 d_7 d_8 d_9 dfr
     refine (taker_b HS.out.T).mono ?_
     rintro e w11 ⟨rfl, hT, hk, hB⟩
     have HS2 := Aside0.mk (HS.out.took hT hk hB)
     clear HS hT hk hB
     have HS := HS2
     clear HS2
     have HG3 : Hid (kD F (lp gD F (t.n1) [] t.n2.s) = RB) := Lib.hid (by simp only [TV.n2_s, TV.n1_s]; exact HG2.out)
     have hmu3 : mu t.n2.s < F := by rw [TV.n2_s]; have := mu_le t.s; omega
     clear HG2 hmu2
     have HG2 := HG3
     have hmu2 := hmu3
     clear HG3 hmu3
     obtain ⟨i0, hi0⟩ : ∃ x, t.n1 = x := ⟨_, rfl⟩
     obtain ⟨z1, ht2⟩ : ∃ x, t.n2 = x := ⟨_, rfl⟩
     rw [hi0, ht2] at HG2
     rw [ht2] at HS hmu2
     rw [hi0]
     clear hi0 ht2
     go_wp2
     go_loopg [10] F (fun kq v10 wr => ∃ (i : Int) (acc : List S54) (v : Value) (t : TV), v10 = .int .i64 i ∧ kq ≤ F ∧ mu t.s < kq ∧ acc.length + mu t.s ≤ 5000 ∧ Aside0 (St w wr gr ⟨5, 0, 0, 0, 0, [], [], 0, acc, []⟩ (.slice none 0 0) (.slice none 0 0) v (.slice none 0 0) t) ∧ Hid (kD F (lp gD kq i acc t.s) = RB))
     case atStart => exact ⟨i0, [], (.slice none 0 0), z1, rfl, Nat.le_refl _, hmu2, by simp only [List.length_nil]; omega, HS, HG2⟩
     case round =>
      clear HG2 HS hmu2
      obtain ⟨i, acc, v, t, rfl, HK, hmu, hacc, HS, HG⟩ := hrel
      cases gk with
      | zero => omega
      | succ k1 =>
       have q1 : wr.cell? ⟨w.heap.size + 1, 1, none⟩ = some (.bool t.ok) := (blk_cell HS.out.T.B 1).trans rfl
       obtain ⟨cnd, hcnd⟩ : ∃ b : Bool, (decide (0 < i) && t.ok) = b := ⟨_, rfl⟩
       have HCN := Lib.hid hcnd
       clear hcnd
       go_upto_region 15 with (fail)
       (try simp only [Act.put, List.setIfInBounds_toArray, List.set_cons_zero, List.set_cons_succ])
       go_cut [64] (fun v64 wc => v64 = .bool cnd ∧ wr = wc)
       case first =>
        by_cases c2 : 0 < i
        ·have b1 : decide (0 < i) = true := decide_eq_true c2
         have e : t.ok = cnd := by rw [← HCN.out, b1, Bool.true_and]
         rw [e] at q1
         replace c2 := Lib.hid c2
         clear e
         try go_wp2
         go_meet
         case rel => exact ⟨by first | rfl | (simp; done), rfl⟩
        ·have b1 : decide (0 < i) = false := decide_eq_false c2
         have e : false = cnd := by rw [← HCN.out, b1, Bool.false_and]
         subst e
         replace c2 := Lib.hid c2
         try go_wp2
         go_meet
         case rel => exact ⟨rfl, rfl⟩
       case rest =>
        obtain ⟨rfl, rfl⟩ := hcut
        have hh := HG.out
        rw [lp] at hh
        have hc := HCN.out
        cases cnd
        rotate_left
        ·have c1 : 0 < i ∧ t.s.2 = true := by simpa [TV.s] using hc
         rw [if_pos c1] at hh
         have hm1 : mu t.n2.n2.s < mu t.s := by simp only [TV.n2_s]; exact gD_mu t.s c1.2
         have HG3 : Hid (kD F (lp gD k1 (wrap64 (i - 1)) (acc ++ [(⟨t.n1, t.n2.n1⟩ : S54)]) t.n2.n2.s) = RB) := Lib.hid (by simp only [TV.n2_s, TV.n1_s]; exact hh)
         clear hh HG c1 hc HCN q1
         try go_wp2
         have HSd := Aside0.mk HS.out.drew
         clear HS
         have HS := HSd
         clear HSd
         refine start_ (n := 11) (S := fun w' => w'.heap[gr]? = some (.cells #[.int .i64 5, .int .i64 0, .int .i64 0, .int .i64 0, .int .i64 0, .slice none 0 0, .slice none 0 0, .int .i64 0, v, .slice none 0 0] 30 (0, 0))) (ds := [10]) #[false, false, false, false, false, false, false, false, false, false, false] (by kernel_rfl) rfl rfl HS.out.R (fun hHeld => ?_)
         generalize wr.drew = w19 at HS hHeld ⊢
         refine pure_ (i := 0) (N := some 67) (v := ?_) (a' := ?_) #[true, false, false, false, false, false, false, false, false, false, false] rfl rfl (by kernel_rfl) (fun _ _ _ h => h) (Or.inl ⟨by rfl, ?_⟩) ?_ ?_
         rotate_left
         ·intro w'
          go_simp
          with_reducible rfl
         rotate_left
         ·simp only [Act.put, List.setIfInBounds_toArray, List.set_cons_zero, List.set_cons_succ, i64_w, i32_w]
          rfl
         refine pure_ (i := 2) (N := some 69) (v := ?_) (a' := ?_) #[true, false, true, false, false, false, false, false, false, false, false] rfl rfl (by kernel_rfl) (fun _ _ _ h => h) (Or.inl ⟨by rfl, ?_⟩) ?_ ?_
         rotate_left
         ·intro w'
          go_simp
          with_reducible rfl
         rotate_left
         ·simp only [Act.put, List.setIfInBounds_toArray, List.set_cons_zero, List.set_cons_succ, i64_w, i32_w]
          rfl
         refine pure_ (i := 4) (N := some 71) (v := ?_) (a' := ?_) #[true, false, true, false, true, false, false, false, false, false, false] rfl rfl (by kernel_rfl) (fun _ _ _ h => h) (Or.inl ⟨by rfl, ?_⟩) ?_ ?_
         rotate_left
         ·intro w'
          go_simp
          with_reducible rfl
         rotate_left
         ·simp only [Act.put, List.setIfInBounds_toArray, List.set_cons_zero, List.set_cons_succ, i64_w, i32_w]
          rfl
         refine take_ (i := 1) (N := some 68) (v := ?_) (a' := ?_) #[true, true, true, false, true, false, false, false, false, false, false] rfl rfl (by kernel_rfl) (fun _ _ _ h => h) (Or.inl ⟨by rfl, ?_⟩) hHeld ?_ ?_
         rotate_left
         ·rintro w' s0
          obtain ⟨y_0, y_1, y_2, y_3, y_4, y_5, y_6, y_7, y_8, y_9⟩ := ten_cells s0
          go_simp
          with_reducible rfl
         rotate_left
         ·simp only [Act.put, List.setIfInBounds_toArray, List.set_cons_zero, List.set_cons_succ, i64_w, i32_w]
          rfl
         refine one_ (i := 3) (N := some 70) #[true, true, true, true, true, false, false, false, false, false, false] rfl rfl (by kernel_rfl) (by decide) (fun K hK => ?_)
         refine goes_ Try.func29 (by kernel_rfl) rfl #[.pointer (some ⟨w.heap.size + 1, 0, none⟩)] (by rfl) rfl rfl (by (try simp only [List.map_toArray, List.map_cons, List.map_nil]); first | done | rfl | (simp only [List.length_drop, List.length_take]; rfl)) ?_
         refine (taker_b HS.out.T).mono ?_
         rintro e w20 ⟨rfl, hT, hk, hB⟩
         refine ⟨_, rfl, ?_⟩
         have HS2 := Aside0.mk (HS.out.took hT hk hB)
         clear HS hT hk hB
         have HS := HS2
         clear HS2
         refine hK.out _ _ HS.out.R (fun hHeld => ?_)
         clear hK K
         refine norm_ (a' := ?_) ?_ ?_
         rotate_left
         ·show Act.put _ (some 70) _ = _
          simp only [Act.put, List.setIfInBounds_toArray, List.set_cons_zero, List.set_cons_succ, i64_w, i32_w]
          rfl
         refine one_ (i := 5) (N := some 72) #[true, true, true, true, true, true, false, false, false, false, false] rfl rfl (by kernel_rfl) (by decide) (fun K hK => ?_)
         refine goes_ Try.func29 (by kernel_rfl) rfl #[.pointer (some ⟨w.heap.size + 1, 0, none⟩)] (by rfl) rfl rfl (by (try simp only [List.map_toArray, List.map_cons, List.map_nil]); first | done | rfl | (simp only [List.length_drop, List.length_take]; rfl)) ?_
         refine (taker_b HS.out.T).mono ?_
         rintro e w21 ⟨rfl, hT, hk, hB⟩
         refine ⟨_, rfl, ?_⟩
         have HS2 := Aside0.mk (HS.out.took hT hk hB)
         clear HS hT hk hB
         have HS := HS2
         clear HS2
         refine hK.out _ _ HS.out.R (fun hHeld => ?_)
         clear hK K
         refine norm_ (a' := ?_) ?_ ?_
         rotate_left
         ·show Act.put _ (some 72) _ = _
          simp only [Act.put, List.setIfInBounds_toArray, List.set_cons_zero, List.set_cons_succ, i64_w, i32_w]
          rfl
         refine pure_ (i := 6) (N := some 73) (v := ?_) (a' := ?_) #[true, true, true, true, true, true, true, false, false, false, false] rfl rfl (by kernel_rfl) (fun _ _ _ h => h) (Or.inl ⟨by rfl, ?_⟩) ?_ ?_
         rotate_left
         ·intro w'
          go_simp
          with_reducible rfl
         rotate_left
         ·simp only [Act.put, List.setIfInBounds_toArray, List.set_cons_zero, List.set_cons_succ, i64_w, i32_w]
          rfl
         refine one_ (i := 7) (N := some 74) #[true, true, true, true, true, true, true, true, false, false, false] rfl rfl (by kernel_rfl) (by decide) (fun K hK => ?_)
         refine value_ (w1 := ?_) (v := ?_) (by rfl) rfl ?_ ?_
         rotate_left 2
         ·go_simp
          constructor
          ·rfl
          ·rfl
         refine hK.out _ _ (blk_alloc HS.out.R _) (fun hHeld => ?_)
         clear hK K
         refine norm_ (a' := ?_) ?_ ?_
         rotate_left
         ·show Act.put _ (some 74) _ = _
          simp only [Act.put, List.setIfInBounds_toArray, List.set_cons_zero, List.set_cons_succ, i64_w, i32_w]
          rfl
         refine one_ (i := 8) (N := some 75) #[true, true, true, true, true, true, true, true, true, false, false] rfl rfl (by kernel_rfl) (by decide) (fun K hK => ?_)
         refine Kd.R_append_step k54 (w0 := w21) gr (by rfl) (.tmp 68) (.tmp 74) 27 54 (.agg #[(.int .i64 0), (.int .i64 0)]) 16 rfl Try.underlying27 info54 rfl (by decide) (by omega) v acc (⟨t.n1, t.n2.n1⟩ : S54) [.int .i64 t.n1, .int .i64 t.n2.n1] (fun _ => True) (fun _ => False) rfl rfl ?aP (fun _ hk => hk.elim) ?aF ?aO (Below.refl _ _) ?aS ?aL ?_
         (case aP => exact k54_mkM _ _ _ (⟨t.n1, t.n2.n1⟩ : S54))
         (case aF => exact (fun _ _ => trivial))
         (case aO => exact HS.out.H8)
         (case aS => exact Nat.le_of_lt (blk_lt HS.out.R))
         (case aL => omega)
         intro u w22 ho hb hg hat
         obtain ⟨Au, cu, eu⟩ := Kd.R_slice ho
         rw [List.length_append, List.length_singleton] at eu
         subst eu
         obtain ⟨hL, hN⟩ := HS.out.app8 hg hb ho
         have HL := Aside0.mk hL
         have HN := Aside0.mk hN
         clear ho hb hg hat hL hN HS
         refine hK.out _ _ HL.out.R (fun hHeld => ?_)
         clear hK K
         refine norm_ (a' := ?_) ?_ ?_
         rotate_left
         ·show Act.put _ (some 75) _ = _
          simp only [Act.put, List.setIfInBounds_toArray, List.set_cons_zero, List.set_cons_succ, i64_w, i32_w]
          rfl
         refine pure_ (i := 9) (N := some 76) (v := ?_) (a' := ?_) #[true, true, true, true, true, true, true, true, true, true, false] rfl rfl (by kernel_rfl) (fun _ _ _ h => h) (Or.inl ⟨by rfl, ?_⟩) ?_ ?_
         rotate_left
         ·intro w'
          go_simp
          with_reducible rfl
         rotate_left
         ·simp only [Act.put, List.setIfInBounds_toArray, List.set_cons_zero, List.set_cons_succ, i64_w, i32_w]
          rfl
         refine last_ (i := 10) (N := none) #[true, true, true, true, true, true, true, true, true, true, true] rfl rfl (by kernel_rfl) (by decide) (fun K hK => ?_)
         have hs : w22.cell? ⟨gr, 8, none⟩ = some v := (blk_cell HL.out.R 8).trans rfl
         have hfs := fun j => blk_frozen HL.out.R j
         refine skip_ (w1 := ?_) (by rfl) rfl ?_ ?_
         rotate_left
         ·go_simp
          rfl
         refine hK.out _ _ ?_
         clear hK K
         refine done_ (by kernel_rfl) ?_
         try go_wp2
         go_roundg k1
         case measure => omega
         case rel => exact ⟨_, _, _, _, rfl, by omega, by omega, by rw [List.length_append, List.length_singleton]; omega, HN, HG3⟩
        ·have c1 : ¬ (0 < i ∧ t.s.2 = true) := by
          intro h
          rw [decide_eq_true h.1, Bool.true_and] at hc
          exact Bool.noConfusion (hc.symm.trans h.2)
         rw [if_neg c1] at hh
         have HG2 := Lib.hid hh
         have hmu2 : mu t.s < F := by omega
         clear hh HG HK hmu c1 hc HCN q1
         generalize acc = di at HS HG2
         generalize v = u8 at HS
         clear hacc
         go_wp2_with fail
         refine (taker_b HS.out.T).mono ?_
         rintro e w12 ⟨rfl, hT, hk, hB⟩
         have HS2 := Aside0.mk (HS.out.took hT hk hB)
         clear HS hT hk hB
         have HS := HS2
         clear HS2
         have HG3 : Hid (kAc di (lp gA F (t.n1) [] t.n2.s) = RB) := Lib.hid (by simp only [TV.n2_s, TV.n1_s]; exact HG2.out)
         have hmu3 : mu t.n2.s < F := by rw [TV.n2_s]; have := mu_le t.s; omega
         clear HG2 hmu2
         have HG2 := HG3
         have hmu2 := hmu3
         clear HG3 hmu3
         obtain ⟨i0, hi0⟩ : ∃ x, t.n1 = x := ⟨_, rfl⟩
         obtain ⟨z2, ht2⟩ : ∃ x, t.n2 = x := ⟨_, rfl⟩
         rw [hi0, ht2] at HG2
         rw [ht2] at HS hmu2
         rw [hi0]
         clear hi0 ht2
         go_wp2
         go_loopg [11] F (fun kq v11 wr => ∃ (i : Int) (acc : List S56) (v : Value) (t : TV), v11 = .int .i64 i ∧ kq ≤ F ∧ mu t.s < kq ∧ acc.length + mu t.s ≤ 5000 ∧ Aside0 (St w wr gr ⟨5, 0, 0, 0, 0, [], [], 0, di, acc⟩ (.slice none 0 0) (.slice none 0 0) u8 v t) ∧ Hid (kAc di (lp gA kq i acc t.s) = RB))
         case atStart => exact ⟨i0, [], (.slice none 0 0), z2, rfl, Nat.le_refl _, hmu2, by simp only [List.length_nil]; omega, HS, HG2⟩
         case round =>
          clear HG2 HS hmu2
          obtain ⟨i, acc, v, t, rfl, HK, hmu, hacc, HS, HG⟩ := hrel
          cases gk with
          | zero => omega
          | succ k1 =>
           have q1 : wr.cell? ⟨w.heap.size + 1, 1, none⟩ = some (.bool t.ok) := (blk_cell HS.out.T.B 1).trans rfl
           obtain ⟨cnd, hcnd⟩ : ∃ b : Bool, (decide (0 < i) && t.ok) = b := ⟨_, rfl⟩
           have HCN := Lib.hid hcnd
           clear hcnd
           go_upto_region 19 with (fail)
           (try simp only [Act.put, List.setIfInBounds_toArray, List.set_cons_zero, List.set_cons_succ])
           go_cut [86] (fun v86 wc => v86 = .bool cnd ∧ wr = wc)
           case first =>
            by_cases c2 : 0 < i
            ·have b1 : decide (0 < i) = true := decide_eq_true c2
             have e : t.ok = cnd := by rw [← HCN.out, b1, Bool.true_and]
             rw [e] at q1
             replace c2 := Lib.hid c2
             clear e
             try go_wp2
             go_meet
             case rel => exact ⟨by first | rfl | (simp; done), rfl⟩
            ·have b1 : decide (0 < i) = false := decide_eq_false c2
             have e : false = cnd := by rw [← HCN.out, b1, Bool.false_and]
             subst e
             replace c2 := Lib.hid c2
             try go_wp2
             go_meet
             case rel => exact ⟨rfl, rfl⟩
           case rest =>
            obtain ⟨rfl, rfl⟩ := hcut
            have hh := HG.out
            rw [lp] at hh
            have hc := HCN.out
            cases cnd
            rotate_left
            ·have c1 : 0 < i ∧ t.s.2 = true := by simpa [TV.s] using hc
             rw [if_pos c1] at hh
             have hm1 : mu t.n2.n2.n2.n2.s < mu t.s := by simp only [TV.n2_s]; exact gA_mu t.s c1.2
             have HG3 : Hid (kAc di (lp gA k1 (wrap64 (i - 1)) (acc ++ [(⟨t.n1, t.n2.n1, t.n2.n2.n1, t.n2.n2.n2.n1⟩ : S56)]) t.n2.n2.n2.n2.s) = RB) := Lib.hid (by simp only [TV.n2_s, TV.n1_s]; exact hh)
             clear hh HG c1 hc HCN q1
             try go_wp2
             have HSd := Aside0.mk HS.out.drew
             clear HS
             have HS := HSd
             clear HSd
             refine start_ (n := 15) (S := fun w' => w'.heap[gr]? = some (.cells #[.int .i64 5, .int .i64 0, .int .i64 0, .int .i64 0, .int .i64 0, .slice none 0 0, .slice none 0 0, .int .i64 0, u8, v] 30 (0, 0))) (ds := [14]) #[false, false, false, false, false, false, false, false, false, false, false, false, false, false, false] (by kernel_rfl) rfl rfl HS.out.R (fun hHeld => ?_)
             generalize wr.drew = w13 at HS hHeld ⊢
             refine pure_ (i := 0) (N := some 89) (v := ?_) (a' := ?_) #[true, false, false, false, false, false, false, false, false, false, false, false, false, false, false] rfl rfl (by kernel_rfl) (fun _ _ _ h => h) (Or.inl ⟨by rfl, ?_⟩) ?_ ?_
             rotate_left
             ·intro w'
              go_simp
              with_reducible rfl
             rotate_left
             ·simp only [Act.put, List.setIfInBounds_toArray, List.set_cons_zero, List.set_cons_succ, i64_w, i32_w]
              rfl
             refine pure_ (i := 2) (N := some 91) (v := ?_) (a' := ?_) #[true, false, true, false, false, false, false, false, false, false, false, false, false, false, false] rfl rfl (by kernel_rfl) (fun _ _ _ h => h) (Or.inl ⟨by rfl, ?_⟩) ?_ ?_
             rotate_left
             ·intro w'
              go_simp
              with_reducible rfl
             rotate_left
             ·simp only [Act.put, List.setIfInBounds_toArray, List.set_cons_zero, List.set_cons_succ, i64_w, i32_w]
              rfl
             refine pure_ (i := 4) (N := some 93) (v := ?_) (a' := ?_) #[true, false, true, false, true, false, false, false, false, false, false, false, false, false, false] rfl rfl (by kernel_rfl) (fun _ _ _ h => h) (Or.inl ⟨by rfl, ?_⟩) ?_ ?_
             rotate_left
             ·intro w'
              go_simp
              with_reducible rfl
             rotate_left
             ·simp only [Act.put, List.setIfInBounds_toArray, List.set_cons_zero, List.set_cons_succ, i64_w, i32_w]
              rfl
             refine pure_ (i := 6) (N := some 95) (v := ?_) (a' := ?_) #[true, false, true, false, true, false, true, false, false, false, false, false, false, false, false] rfl rfl (by kernel_rfl) (fun _ _ _ h => h) (Or.inl ⟨by rfl, ?_⟩) ?_ ?_
             rotate_left
             ·intro w'
              go_simp
              with_reducible rfl
             rotate_left
             ·simp only [Act.put, List.setIfInBounds_toArray, List.set_cons_zero, List.set_cons_succ, i64_w, i32_w]
              rfl
             refine pure_ (i := 8) (N := some 97) (v := ?_) (a' := ?_) #[true, false, true, false, true, false, true, false, true, false, false, false, false, false, false] rfl rfl (by kernel_rfl) (fun _ _ _ h => h) (Or.inl ⟨by rfl, ?_⟩) ?_ ?_
             rotate_left
             ·intro w'
              go_simp
              with_reducible rfl
             rotate_left
             ·simp only [Act.put, List.setIfInBounds_toArray, List.set_cons_zero, List.set_cons_succ, i64_w, i32_w]
              rfl
             refine take_ (i := 1) (N := some 90) (v := ?_) (a' := ?_) #[true, true, true, false, true, false, true, false, true, false, false, false, false, false, false] rfl rfl (by kernel_rfl) (fun _ _ _ h => h) (Or.inl ⟨by rfl, ?_⟩) hHeld ?_ ?_
             rotate_left
             ·rintro w' s0
              obtain ⟨y_0, y_1, y_2, y_3, y_4, y_5, y_6, y_7, y_8, y_9⟩ := ten_cells s0
              go_simp
              with_reducible rfl
             rotate_left
             ·simp only [Act.put, List.setIfInBounds_toArray, List.set_cons_zero, List.set_cons_succ, i64_w, i32_w]
              rfl
             refine one_ (i := 3) (N := some 92) #[true, true, true, true, true, false, true, false, true, false, false, false, false, false, false] rfl rfl (by kernel_rfl) (by decide) (fun K hK => ?_)
             refine goes_ Try.func29 (by kernel_rfl) rfl #[.pointer (some ⟨w.heap.size + 1, 0, none⟩)] (by rfl) rfl rfl (by (try simp only [List.map_toArray, List.map_cons, List.map_nil]); first | done | rfl | (simp only [List.length_drop, List.length_take]; rfl)) ?_
             refine (taker_b HS.out.T).mono ?_
             rintro e w14 ⟨rfl, hT, hk, hB⟩
             refine ⟨_, rfl, ?_⟩
             have HS2 := Aside0.mk (HS.out.took hT hk hB)
             clear HS hT hk hB
             have HS := HS2
             clear HS2
             refine hK.out _ _ HS.out.R (fun hHeld => ?_)
             clear hK K
             refine norm_ (a' := ?_) ?_ ?_
             rotate_left
             ·show Act.put _ (some 92) _ = _
              simp only [Act.put, List.setIfInBounds_toArray, List.set_cons_zero, List.set_cons_succ, i64_w, i32_w]
              rfl
             refine one_ (i := 5) (N := some 94) #[true, true, true, true, true, true, true, false, true, false, false, false, false, false, false] rfl rfl (by kernel_rfl) (by decide) (fun K hK => ?_)
             refine goes_ Try.func29 (by kernel_rfl) rfl #[.pointer (some ⟨w.heap.size + 1, 0, none⟩)] (by rfl) rfl rfl (by (try simp only [List.map_toArray, List.map_cons, List.map_nil]); first | done | rfl | (simp only [List.length_drop, List.length_take]; rfl)) ?_
             refine (taker_b HS.out.T).mono ?_
             rintro e w15 ⟨rfl, hT, hk, hB⟩
             refine ⟨_, rfl, ?_⟩
             have HS2 := Aside0.mk (HS.out.took hT hk hB)
             clear HS hT hk hB
             have HS := HS2
             clear HS2
             refine hK.out _ _ HS.out.R (fun hHeld => ?_)
             clear hK K
             refine norm_ (a' := ?_) ?_ ?_
             rotate_left
             ·show Act.put _ (some 94) _ = _
              simp only [Act.put, List.setIfInBounds_toArray, List.set_cons_zero, List.set_cons_succ, i64_w, i32_w]
              rfl
             refine one_ (i := 7) (N := some 96) #[true, true, true, true, true, true, true, true, true, false, false, false, false, false, false] rfl rfl (by kernel_rfl) (by decide) (fun K hK => ?_)
             refine goes_ Try.func29 (by kernel_rfl) rfl #[.pointer (some ⟨w.heap.size + 1, 0, none⟩)] (by rfl) rfl rfl (by (try simp only [List.map_toArray, List.map_cons, List.map_nil]); first | done | rfl | (simp only [List.length_drop, List.length_take]; rfl)) ?_
             refine (taker_b HS.out.T).mono ?_
             rintro e w16 ⟨rfl, hT, hk, hB⟩
             refine ⟨_, rfl, ?_⟩
             have HS2 := Aside0.mk (HS.out.took hT hk hB)
             clear HS hT hk hB
             have HS := HS2
             clear HS2
             refine hK.out _ _ HS.out.R (fun hHeld => ?_)
             clear hK K
             refine norm_ (a' := ?_) ?_ ?_
             rotate_left
             ·show Act.put _ (some 96) _ = _
              simp only [Act.put, List.setIfInBounds_toArray, List.set_cons_zero, List.set_cons_succ, i64_w, i32_w]
              rfl
             refine one_ (i := 9) (N := some 98) #[true, true, true, true, true, true, true, true, true, true, false, false, false, false, false] rfl rfl (by kernel_rfl) (by decide) (fun K hK => ?_)
             refine goes_ Try.func29 (by kernel_rfl) rfl #[.pointer (some ⟨w.heap.size + 1, 0, none⟩)] (by rfl) rfl rfl (by (try simp only [List.map_toArray, List.map_cons, List.map_nil]); first | done | rfl | (simp only [List.length_drop, List.length_take]; rfl)) ?_
             refine (taker_b HS.out.T).mono ?_
             rintro e w17 ⟨rfl, hT, hk, hB⟩
             refine ⟨_, rfl, ?_⟩
             have HS2 := Aside0.mk (HS.out.took hT hk hB)
             clear HS hT hk hB
             have HS := HS2
             clear HS2
             refine hK.out _ _ HS.out.R (fun hHeld => ?_)
             clear hK K
             refine norm_ (a' := ?_) ?_ ?_
             rotate_left
             ·show Act.put _ (some 98) _ = _
              simp only [Act.put, List.setIfInBounds_toArray, List.set_cons_zero, List.set_cons_succ, i64_w, i32_w]
              rfl
             refine pure_ (i := 10) (N := some 99) (v := ?_) (a' := ?_) #[true, true, true, true, true, true, true, true, true, true, true, false, false, false, false] rfl rfl (by kernel_rfl) (fun _ _ _ h => h) (Or.inl ⟨by rfl, ?_⟩) ?_ ?_
             rotate_left
             ·intro w'
              go_simp
              with_reducible rfl
             rotate_left
             ·simp only [Act.put, List.setIfInBounds_toArray, List.set_cons_zero, List.set_cons_succ, i64_w, i32_w]
              rfl
             refine one_ (i := 11) (N := some 100) #[true, true, true, true, true, true, true, true, true, true, true, true, false, false, false] rfl rfl (by kernel_rfl) (by decide) (fun K hK => ?_)
             refine value_ (w1 := ?_) (v := ?_) (by rfl) rfl ?_ ?_
             rotate_left 2
             ·go_simp
              constructor
              ·rfl
              ·rfl
             refine hK.out _ _ (blk_alloc HS.out.R _) (fun hHeld => ?_)
             clear hK K
             refine norm_ (a' := ?_) ?_ ?_
             rotate_left
             ·show Act.put _ (some 100) _ = _
              simp only [Act.put, List.setIfInBounds_toArray, List.set_cons_zero, List.set_cons_succ, i64_w, i32_w]
              rfl
             refine one_ (i := 12) (N := some 101) #[true, true, true, true, true, true, true, true, true, true, true, true, true, false, false] rfl rfl (by kernel_rfl) (by decide) (fun K hK => ?_)
             refine Kd.R_append_step k56 (w0 := w17) gr (by rfl) (.tmp 90) (.tmp 100) 28 56 (.agg #[(.int .i64 0), (.int .i64 0), (.int .i64 0), (.int .i64 0)]) 32 rfl Try.underlying28 info56 rfl (by decide) (by omega) v acc (⟨t.n1, t.n2.n1, t.n2.n2.n1, t.n2.n2.n2.n1⟩ : S56) [.int .i64 t.n1, .int .i64 t.n2.n1, .int .i64 t.n2.n2.n1, .int .i64 t.n2.n2.n2.n1] (fun _ => True) (fun _ => False) rfl rfl ?aP (fun _ hk => hk.elim) ?aF ?aO (Below.refl _ _) ?aS ?aL ?_
             (case aP => exact k56_mkM _ _ _ (⟨t.n1, t.n2.n1, t.n2.n2.n1, t.n2.n2.n2.n1⟩ : S56))
             (case aF => exact (fun _ _ => trivial))
             (case aO => exact HS.out.H9)
             (case aS => exact Nat.le_of_lt (blk_lt HS.out.R))
             (case aL => omega)
             intro u w18 ho hb hg hat
             obtain ⟨Au, cu, eu⟩ := Kd.R_slice ho
             rw [List.length_append, List.length_singleton] at eu
             subst eu
             obtain ⟨hL, hN⟩ := HS.out.app9 hg hb ho
             have HL := Aside0.mk hL
             have HN := Aside0.mk hN
             clear ho hb hg hat hL hN HS
             refine hK.out _ _ HL.out.R (fun hHeld => ?_)
             clear hK K
             refine norm_ (a' := ?_) ?_ ?_
             rotate_left
             ·show Act.put _ (some 101) _ = _
              simp only [Act.put, List.setIfInBounds_toArray, List.set_cons_zero, List.set_cons_succ, i64_w, i32_w]
              rfl
             refine pure_ (i := 13) (N := some 102) (v := ?_) (a' := ?_) #[true, true, true, true, true, true, true, true, true, true, true, true, true, true, false] rfl rfl (by kernel_rfl) (fun _ _ _ h => h) (Or.inl ⟨by rfl, ?_⟩) ?_ ?_
             rotate_left
             ·intro w'
              go_simp
              with_reducible rfl
             rotate_left
             ·simp only [Act.put, List.setIfInBounds_toArray, List.set_cons_zero, List.set_cons_succ, i64_w, i32_w]
              rfl
             refine last_ (i := 14) (N := none) #[true, true, true, true, true, true, true, true, true, true, true, true, true, true, true] rfl rfl (by kernel_rfl) (by decide) (fun K hK => ?_)
             have hs : w18.cell? ⟨gr, 9, none⟩ = some v := (blk_cell HL.out.R 9).trans rfl
             have hfs := fun j => blk_frozen HL.out.R j
             refine skip_ (w1 := ?_) (by rfl) rfl ?_ ?_
             rotate_left
             ·go_simp
              rfl
             refine hK.out _ _ ?_
             clear hK K
             refine done_ (by kernel_rfl) ?_
             try go_wp2
             go_roundg k1
             case measure => omega
             case rel => exact ⟨_, _, _, _, rfl, by omega, by omega, by rw [List.length_append, List.length_singleton]; omega, HN, HG3⟩
            ·have c1 : ¬ (0 < i ∧ t.s.2 = true) := by
              intro h
              rw [decide_eq_true h.1, Bool.true_and] at hc
              exact Bool.noConfusion (hc.symm.trans h.2)
             rw [if_neg c1] at hh
             have HG2 := Lib.hid hh
             have hmu2 : mu t.s < F := by omega
             clear hh HG HK hmu c1 hc HCN q1
             go_wp2
             go_meet
             case rel => exact ⟨_, _, _, _, _, _, HS, HG2⟩
    ·have e5 : (k == 5) = false := beq_eq_false_iff_ne.mpr k5
     have HG2 : Hid (kRest F k (pn1 t.s) (pn1 (pn2 t.s)) (pn2 (pn2 t.s)) = RB) := Lib.hid (by have := HG.out; rwa [if_neg k5] at this)
     clear HG
     replace k5 := Lib.hid k5
     go_wp2_with fail
     clear d_0 d_1 d_2 d_3 d_4 d_5 d_6 d_7 d_8 d_9 dfr
     refine (taker_b HS.out.T).mono ?_
     rintro e w23 ⟨rfl, hT, hk, hB⟩
     have HS2 := Aside0.mk (HS.out.took hT hk hB)
     clear HS hT hk hB
     have HS := HS2
     clear HS2
     have HG3 : Hid (kRest F k t.n1 (pn1 t.n2.s) (pn2 t.n2.s) = RB) := Lib.hid (by simp only [TV.n2_s, TV.n1_s]; exact HG2.out)
     have hmu3 : mu t.n2.s < F := by rw [TV.n2_s]; have := mu_le t.s; omega
     clear HG2 hmu2
     have HG2 := HG3
     have hmu2 := hmu3
     clear HG3 hmu3
     obtain ⟨a1, hi0⟩ : ∃ x, t.n1 = x := ⟨_, rfl⟩
     obtain ⟨z3, ht2⟩ : ∃ x, t.n2 = x := ⟨_, rfl⟩
     rw [hi0, ht2] at HG2
     rw [ht2] at HS hmu2
     rw [hi0]
     clear hi0 ht2
     obtain ⟨d_0, d_1, d_2, d_3, d_4, d_5, d_6, d_7, d_8, d_9⟩ := ten_cells HS.out.R
     have dfr := ten_free HS.out.R
     go_wp2_with fail
     have HS2 := Aside0.mk (HS.out.store 1 (.int .i64 a1) (r' := ⟨k, a1, 0, 0, 0, [], [], 0, [], []⟩) rfl rfl rfl rfl rfl)
     clear HS
     have HS := HS2
     clear HS2
     clear d_0 d_1 d_2 d_3 d_4 d_5 d_6 d_7 d_8 d_9 dfr
     refine (taker_b HS.out.T).mono ?_
     rintro e w24 ⟨rfl, hT, hk, hB⟩
     have HS2 := Aside0.mk (HS.out.took hT hk hB)
     clear HS hT hk hB
     have HS := HS2
     clear HS2
     have HG3 : Hid (kRest F k a1 z3.n1 z3.n2.s = RB) := Lib.hid (by simp only [TV.n2_s, TV.n1_s]; exact HG2.out)
     have hmu3 : mu z3.n2.s < F := by rw [TV.n2_s]; have := mu_le z3.s; omega
     clear HG2 hmu2
     have HG2 := HG3
     have hmu2 := hmu3
     clear HG3 hmu3
     obtain ⟨a2, hi0⟩ : ∃ x, z3.n1 = x := ⟨_, rfl⟩
     obtain ⟨z4, ht2⟩ : ∃ x, z3.n2 = x := ⟨_, rfl⟩
     rw [hi0, ht2] at HG2
     rw [ht2] at HS hmu2
     rw [hi0]
     clear hi0 ht2
     obtain ⟨d_0, d_1, d_2, d_3, d_4, d_5, d_6, d_7, d_8, d_9⟩ := ten_cells HS.out.R
     have dfr := ten_free HS.out.R
     go_upto_if 111 with (fail)
     have HS2 := Aside0.mk (HS.out.store 2 (.int .i64 a2) (r' := ⟨k, a1, a2, 0, 0, [], [], 0, [], []⟩) rfl rfl rfl rfl rfl)
     clear HS
     have HS := HS2
     clear HS2
     clear d_0 d_1 d_2 d_3 d_4 d_5 d_6 d_7 d_8 d_9 dfr
     generalize hw5 : World.setCell _ _ _ = w5 at HS
     (try rw [hw5])
     clear hw5
     go_cut [112] (fun v112 wc => ∃ (n : Int) (t : TV), Aside0 (St w wc gr ⟨k, a1, a2, 0, 0, [], [], n, [], []⟩ (.slice none 0 0) (.slice none 0 0) (.slice none 0 0) (.slice none 0 0) t) ∧ mu t.s < F ∧ Hid (kRest2 F k a1 a2 n t.s = RB))
     case first =>
      obtain ⟨d_0, d_1, d_2, d_3, d_4, d_5, d_6, d_7, d_8, d_9⟩ := ten_cells HS.out.R
      have dfr := ten_free HS.out.R
      by_cases k2 : k = 2
      ·have e2 : (k == 2) = true := beq_iff_eq.mpr k2
       have HG3 : Hid (kRest2 F k a1 a2 (pn1 z4.s) (pn2 z4.s) = RB) := Lib.hid (by rw [← HG2.out]; unfold kRest kRest2; rw [if_pos (Or.inr k2), if_pos k2, k2])
       clear HG2
       have HG2 := HG3
       clear HG3
       replace k2 := Lib.hid k2
       go_wp2_with fail
       clear d_0 d_1 d_2 d_3 d_4 d_5 d_6 d_7 d_8 d_9 dfr
       refine (taker_b HS.out.T).mono ?_
       rintro e w25 ⟨rfl, hT, hk, hB⟩
       have HS2 := Aside0.mk (HS.out.took hT hk hB)
       clear HS hT hk hB
       have HS := HS2
       clear HS2
       have HG3 : Hid (kRest2 F k a1 a2 z4.n1 z4.n2.s = RB) := Lib.hid (by simp only [TV.n2_s, TV.n1_s]; exact HG2.out)
       have hmu3 : mu z4.n2.s < F := by rw [TV.n2_s]; have := mu_le z4.s; omega
       clear HG2 hmu2
       have HG2 := HG3
       have hmu2 := hmu3
       clear HG3 hmu3
       obtain ⟨n, hi0⟩ : ∃ x, z4.n1 = x := ⟨_, rfl⟩
       obtain ⟨z5, ht2⟩ : ∃ x, z4.n2 = x := ⟨_, rfl⟩
       rw [hi0, ht2] at HG2
       rw [ht2] at HS hmu2
       rw [hi0]
       clear hi0 ht2
       obtain ⟨d_0, d_1, d_2, d_3, d_4, d_5, d_6, d_7, d_8, d_9⟩ := ten_cells HS.out.R
       have dfr := ten_free HS.out.R
       go_wp2
       go_meet
       case rel => exact ⟨_, _, ⟨HS.out.store 7 (.int .i64 n) (r' := ⟨k, a1, a2, 0, 0, [], [], n, [], []⟩) rfl rfl rfl rfl rfl⟩, hmu2, HG2⟩
      ·have e2 : (k == 2) = false := beq_eq_false_iff_ne.mpr k2
       have HG3 : Hid (kRest2 F k a1 a2 0 z4.s = RB) := Lib.hid (by
        rw [← HG2.out]; unfold kRest kRest2
        rw [if_neg k2]
        by_cases k1 : k = 1
        ·rw [if_pos (Or.inl k1), if_pos k1, k1]
        ·rw [if_neg (by omega), if_neg k1])
       replace k2 := Lib.hid k2
       go_wp2
       go_meet
       case rel => exact ⟨_, _, HS, hmu2, HG3⟩
     case rest =>
      obtain ⟨n, t, HS, hmu2, HG2⟩ := hcut
      obtain ⟨d_0, d_1, d_2, d_3, d_4, d_5, d_6, d_7, d_8, d_9⟩ := ten_cells HS.out.R
      have dfr := ten_free HS.out.R
      by_cases kk : k = 1 ∨ k = 2
      ·have HG3 : Hid (kAr F k a1 a2 (pn1 t.s) (pn1 (pn2 t.s)) n (lp gN F (pn1 (pn2 (pn2 t.s))) [] (pn2 (pn2 (pn2 t.s)))) = RB) := Lib.hid (by rw [← HG2.out]; unfold kRest2; rw [if_pos kk]; rfl)
       clear HG2
       have HG2 := HG3
       clear HG3
       have kq : ((k == 1) = true) ∨ ((k == 1) = false ∧ (k == 2) = true) := by
        by_cases k1 : k = 1
        ·exact Or.inl (beq_iff_eq.mpr k1)
        ·exact Or.inr ⟨beq_eq_false_iff_ne.mpr k1, beq_iff_eq.mpr (by omega)⟩
       replace kk := Lib.hid kk
       go_upto_region 26 with (fail)
       (try simp only [Act.put, List.setIfInBounds_toArray, List.set_cons_zero, List.set_cons_succ])
       go_cut [122] (fun v122 wd => v122 = .bool true ∧ wc = wd)
       case first =>
        rcases kq with e1 | ⟨e1, e2⟩
        ·try go_wp2
         go_meet
         case rel => exact ⟨by first | rfl | (simp; done), rfl⟩
        ·try go_wp2
         go_meet
         case rel => exact ⟨by first | rfl | (simp; done), rfl⟩
       case rest =>
        obtain ⟨rfl, rfl⟩ := hcut
        go_wp2_with fail
        clear d_0 d_1 d_2 d_3 d_4 d_5 d_6 d_7 d_8 d_9 dfr
        refine (taker_b HS.out.T).mono ?_
        rintro e w26 ⟨rfl, hT, hk, hB⟩
        have HS2 := Aside0.mk (HS.out.took hT hk hB)
        clear HS hT hk hB
        have HS := HS2
        clear HS2
        have HG3 : Hid (kAr F k a1 a2 t.n1 (pn1 t.n2.s) n (lp gN F (pn1 (pn2 t.n2.s)) [] (pn2 (pn2 t.n2.s))) = RB) := Lib.hid (by simp only [TV.n2_s, TV.n1_s]; exact HG2.out)
        have hmu3 : mu t.n2.s < F := by rw [TV.n2_s]; have := mu_le t.s; omega
        clear HG2 hmu2
        have HG2 := HG3
        have hmu2 := hmu3
        clear HG3 hmu3
        obtain ⟨a3, hi0⟩ : ∃ x, t.n1 = x := ⟨_, rfl⟩
        obtain ⟨z6, ht2⟩ : ∃ x, t.n2 = x := ⟨_, rfl⟩
        rw [hi0, ht2] at HG2
        rw [ht2] at HS hmu2
        rw [hi0]
        clear hi0 ht2
        obtain ⟨d_0, d_1, d_2, d_3, d_4, d_5, d_6, d_7, d_8, d_9⟩ := ten_cells HS.out.R
        have dfr := ten_free HS.out.R
        go_wp2_with fail
        have HS2 := Aside0.mk (HS.out.store 3 (.int .i64 a3) (r' := ⟨k, a1, a2, a3, 0, [], [], n, [], []⟩) rfl rfl rfl rfl rfl)
        clear HS
        have HS := HS2
        clear HS2
        clear d_0 d_1 d_2 d_3 d_4 d_5 d_6 d_7 d_8 d_9 dfr
        refine (taker_b HS.out.T).mono ?_
        rintro e w27 ⟨rfl, hT, hk, hB⟩
        have HS2 := Aside0.mk (HS.out.took hT hk hB)
        clear HS hT hk hB
        have HS := HS2
        clear HS2
        have HG3 : Hid (kAr F k a1 a2 a3 z6.n1 n (lp gN F (pn1 z6.n2.s) [] (pn2 z6.n2.s)) = RB) := Lib.hid (by simp only [TV.n2_s, TV.n1_s]; exact HG2.out)
        have hmu3 : mu z6.n2.s < F := by rw [TV.n2_s]; have := mu_le z6.s; omega
        clear HG2 hmu2
        have HG2 := HG3
        have hmu2 := hmu3
        clear HG3 hmu3
        obtain ⟨a4, hi0⟩ : ∃ x, z6.n1 = x := ⟨_, rfl⟩
        obtain ⟨z7, ht2⟩ : ∃ x, z6.n2 = x := ⟨_, rfl⟩
        rw [hi0, ht2] at HG2
        rw [ht2] at HS hmu2
        rw [hi0]
        clear hi0 ht2
        obtain ⟨d_0, d_1, d_2, d_3, d_4, d_5, d_6, d_7, d_8, d_9⟩ := ten_cells HS.out.R
        have dfr := ten_free HS.out.R
        go_wp2_with fail
        have HS2 := Aside0.mk (HS.out.store 4 (.int .i64 a4) (r' := ⟨k, a1, a2, a3, a4, [], [], n, [], []⟩) rfl rfl rfl rfl rfl)
        clear HS
        have HS := HS2
        clear HS2
        clear d_0 d_1 d_2 d_3 d_4 d_5 d_6 d_7 d_8 d_9 dfr
        refine (taker_b HS.out.T).mono ?_
        rintro e w28 ⟨rfl, hT, hk, hB⟩
        have HS2 := Aside0.mk (HS.out.took hT hk hB)
        clear HS hT hk hB
        have HS := HS2
        clear HS2
        have HG3 : Hid (kAr F k a1 a2 a3 a4 n (lp gN F z7.n1 [] z7.n2.s) = RB) := Lib.hid (by simp only [TV.n2_s, TV.n1_s]; exact HG2.out)
        have hmu3 : mu z7.n2.s < F := by rw [TV.n2_s]; have := mu_le z7.s; omega
        clear HG2 hmu2
        have HG2 := HG3
        have hmu2 := hmu3
        clear HG3 hmu3
        obtain ⟨i0, hi0⟩ : ∃ x, z7.n1 = x := ⟨_, rfl⟩
        obtain ⟨z8, ht2⟩ : ∃ x, z7.n2 = x := ⟨_, rfl⟩
        rw [hi0, ht2] at HG2
        rw [ht2] at HS hmu2
        rw [hi0]
        clear hi0 ht2
        go_wp2
        go_loopg [12] F (fun kq v12 wr => ∃ (i : Int) (acc : List Int) (v : Value) (t : TV), v12 = .int .i64 i ∧ kq ≤ F ∧ mu t.s < kq ∧ acc.length + mu t.s ≤ 5000 ∧ Aside0 (St w wr gr ⟨k, a1, a2, a3, a4, acc, [], n, [], []⟩ v (.slice none 0 0) (.slice none 0 0) (.slice none 0 0) t) ∧ Hid (kAr F k a1 a2 a3 a4 n (lp gN kq i acc t.s) = RB))
        case atStart => exact ⟨i0, [], (.slice none 0 0), z8, rfl, Nat.le_refl _, hmu2, by simp only [List.length_nil]; omega, HS, HG2⟩
        case round =>
         clear HG2 HS hmu2
         obtain ⟨i, acc, v, t, rfl, HK, hmu, hacc, HS, HG⟩ := hrel
         cases gk with
         | zero => omega
         | succ k1 =>
          have q1 : wr.cell? ⟨w.heap.size + 1, 1, none⟩ = some (.bool t.ok) := (blk_cell HS.out.T.B 1).trans rfl
          obtain ⟨cnd, hcnd⟩ : ∃ b : Bool, (decide (0 < i) && t.ok) = b := ⟨_, rfl⟩
          have HCN := Lib.hid hcnd
          clear hcnd
          go_upto_region 30 with (fail)
          (try simp only [Act.put, List.setIfInBounds_toArray, List.set_cons_zero, List.set_cons_succ])
          go_cut [138] (fun v138 wc => v138 = .bool cnd ∧ wr = wc)
          case first =>
           by_cases c2 : 0 < i
           ·have b1 : decide (0 < i) = true := decide_eq_true c2
            have e : t.ok = cnd := by rw [← HCN.out, b1, Bool.true_and]
            rw [e] at q1
            replace c2 := Lib.hid c2
            clear e
            try go_wp2
            go_meet
            case rel => exact ⟨by first | rfl | (simp; done), rfl⟩
           ·have b1 : decide (0 < i) = false := decide_eq_false c2
            have e : false = cnd := by rw [← HCN.out, b1, Bool.false_and]
            subst e
            replace c2 := Lib.hid c2
            try go_wp2
            go_meet
            case rel => exact ⟨rfl, rfl⟩
          case rest =>
           obtain ⟨rfl, rfl⟩ := hcut
           have hh := HG.out
           rw [lp] at hh
           have hc := HCN.out
           cases cnd
           rotate_left
           ·have c1 : 0 < i ∧ t.s.2 = true := by simpa [TV.s] using hc
            rw [if_pos c1] at hh
            have hm1 : mu t.n2.s < mu t.s := by simp only [TV.n2_s]; exact gN_mu t.s c1.2
            have HG3 : Hid (kAr F k a1 a2 a3 a4 n (lp gN k1 (wrap64 (i - 1)) (acc ++ [(t.n1)]) t.n2.s) = RB) := Lib.hid (by simp only [TV.n2_s, TV.n1_s]; exact hh)
            clear hh HG c1 hc HCN q1
            try go_wp2
            have HSd := Aside0.mk HS.out.drew
            clear HS
            have HS := HSd
            clear HSd
            refine start_ (n := 8) (S := fun w' => w'.heap[gr]? = some (.cells #[.int .i64 k, .int .i64 a1, .int .i64 a2, .int .i64 a3, .int .i64 a4, v, .slice none 0 0, .int .i64 n, .slice none 0 0, .slice none 0 0] 30 (0, 0))) (ds := [7]) #[false, false, false, false, false, false, false, false] (by kernel_rfl) rfl rfl HS.out.R (fun hHeld => ?_)
            generalize wr.drew = w34 at HS hHeld ⊢
            refine pure_ (i := 0) (N := some 141) (v := ?_) (a' := ?_) #[true, false, false, false, false, false, false, false] rfl rfl (by kernel_rfl) (fun _ _ _ h => h) (Or.inl ⟨by rfl, ?_⟩) ?_ ?_
            rotate_left
            ·intro w'
             go_simp
             with_reducible rfl
            rotate_left
            ·simp only [Act.put, List.setIfInBounds_toArray, List.set_cons_zero, List.set_cons_succ, i64_w, i32_w]
             rfl
            refine pure_ (i := 2) (N := some 143) (v := ?_) (a' := ?_) #[true, false, true, false, false, false, false, false] rfl rfl (by kernel_rfl) (fun _ _ _ h => h) (Or.inl ⟨by rfl, ?_⟩) ?_ ?_
            rotate_left
            ·intro w'
             go_simp
             with_reducible rfl
            rotate_left
            ·simp only [Act.put, List.setIfInBounds_toArray, List.set_cons_zero, List.set_cons_succ, i64_w, i32_w]
             rfl
            refine take_ (i := 1) (N := some 142) (v := ?_) (a' := ?_) #[true, true, true, false, false, false, false, false] rfl rfl (by kernel_rfl) (fun _ _ _ h => h) (Or.inl ⟨by rfl, ?_⟩) hHeld ?_ ?_
            rotate_left
            ·rintro w' s0
             obtain ⟨y_0, y_1, y_2, y_3, y_4, y_5, y_6, y_7, y_8, y_9⟩ := ten_cells s0
             go_simp
             with_reducible rfl
            rotate_left
            ·simp only [Act.put, List.setIfInBounds_toArray, List.set_cons_zero, List.set_cons_succ, i64_w, i32_w]
             rfl
            refine one_ (i := 3) (N := some 144) #[true, true, true, true, false, false, false, false] rfl rfl (by kernel_rfl) (by decide) (fun K hK => ?_)
            refine goes_ Try.func29 (by kernel_rfl) rfl #[.pointer (some ⟨w.heap.size + 1, 0, none⟩)] (by rfl) rfl rfl (by (try simp only [List.map_toArray, List.map_cons, List.map_nil]); first | done | rfl | (simp only [List.length_drop, List.length_take]; rfl)) ?_
            refine (taker_b HS.out.T).mono ?_
            rintro e w35 ⟨rfl, hT, hk, hB⟩
            refine ⟨_, rfl, ?_⟩
            have HS2 := Aside0.mk (HS.out.took hT hk hB)
            clear HS hT hk hB
            have HS := HS2
            clear HS2
            refine hK.out _ _ HS.out.R (fun hHeld => ?_)
            clear hK K
            refine norm_ (a' := ?_) ?_ ?_
            rotate_left
            ·show Act.put _ (some 144) _ = _
             simp only [Act.put, List.setIfInBounds_toArray, List.set_cons_zero, List.set_cons_succ, i64_w, i32_w]
             rfl
            refine one_ (i := 4) (N := some 145) #[true, true, true, true, true, false, false, false] rfl rfl (by kernel_rfl) (by decide) (fun K hK => ?_)
            refine value_ (w1 := ?_) (v := ?_) (by rfl) rfl ?_ ?_
            rotate_left 2
            ·go_simp
             constructor
             ·rfl
             ·rfl
            refine hK.out _ _ (blk_alloc HS.out.R _) (fun hHeld => ?_)
            clear hK K
            refine norm_ (a' := ?_) ?_ ?_
            rotate_left
            ·show Act.put _ (some 145) _ = _
             simp only [Act.put, List.setIfInBounds_toArray, List.set_cons_zero, List.set_cons_succ, i64_w, i32_w]
             rfl
            refine one_ (i := 5) (N := some 146) #[true, true, true, true, true, true, false, false] rfl rfl (by kernel_rfl) (by decide) (fun K hK => ?_)
            refine Kd.R_append_step (Kd.int .i64) (w0 := w35) gr (by rfl) (.tmp 142) (.tmp 145) 25 3 (.int .i64 0) 8 rfl Try.underlying25 info3 rfl (by decide) (by omega) v acc (t.n1) [.int .i64 t.n1] (fun _ => True) (fun _ => False) rfl rfl ?aP (fun _ hk => hk.elim) ?aF ?aO (Below.refl _ _) ?aS ?aL ?_
            (case aP => exact rfl)
            (case aF => exact (fun _ _ => trivial))
            (case aO => exact HS.out.H5)
            (case aS => exact Nat.le_of_lt (blk_lt HS.out.R))
            (case aL => omega)
            intro u w36 ho hb hg hat
            obtain ⟨Au, cu, eu⟩ := Kd.R_slice ho
            rw [List.length_append, List.length_singleton] at eu
            subst eu
            obtain ⟨hL, hN⟩ := HS.out.app5 hg hb ho
            have HL := Aside0.mk hL
            have HN := Aside0.mk hN
            clear ho hb hg hat hL hN HS
            refine hK.out _ _ HL.out.R (fun hHeld => ?_)
            clear hK K
            refine norm_ (a' := ?_) ?_ ?_
            rotate_left
            ·show Act.put _ (some 146) _ = _
             simp only [Act.put, List.setIfInBounds_toArray, List.set_cons_zero, List.set_cons_succ, i64_w, i32_w]
             rfl
            refine pure_ (i := 6) (N := some 147) (v := ?_) (a' := ?_) #[true, true, true, true, true, true, true, false] rfl rfl (by kernel_rfl) (fun _ _ _ h => h) (Or.inl ⟨by rfl, ?_⟩) ?_ ?_
            rotate_left
            ·intro w'
             go_simp
             with_reducible rfl
            rotate_left
            ·simp only [Act.put, List.setIfInBounds_toArray, List.set_cons_zero, List.set_cons_succ, i64_w, i32_w]
             rfl
            refine last_ (i := 7) (N := none) #[true, true, true, true, true, true, true, true] rfl rfl (by kernel_rfl) (by decide) (fun K hK => ?_)
            have hs : w36.cell? ⟨gr, 5, none⟩ = some v := (blk_cell HL.out.R 5).trans rfl
            have hfs := fun j => blk_frozen HL.out.R j
            refine skip_ (w1 := ?_) (by rfl) rfl ?_ ?_
            rotate_left
            ·go_simp
             rfl
            refine hK.out _ _ ?_
            clear hK K
            refine done_ (by kernel_rfl) ?_
            try go_wp2
            go_roundg k1
            case measure => omega
            case rel => exact ⟨_, _, _, _, rfl, by omega, by omega, by rw [List.length_append, List.length_singleton]; omega, HN, HG3⟩
           ·have c1 : ¬ (0 < i ∧ t.s.2 = true) := by
             intro h
             rw [decide_eq_true h.1, Bool.true_and] at hc
             exact Bool.noConfusion (hc.symm.trans h.2)
            rw [if_neg c1] at hh
            have HG2 := Lib.hid hh
            have hmu2 : mu t.s < F := by omega
            clear hh HG HK hmu c1 hc HCN q1
            generalize acc = args at HS HG2
            generalize v = u5 at HS
            clear hacc
            go_wp2_with fail
            refine (taker_b HS.out.T).mono ?_
            rintro e w29 ⟨rfl, hT, hk, hB⟩
            have HS2 := Aside0.mk (HS.out.took hT hk hB)
            clear HS hT hk hB
            have HS := HS2
            clear HS2
            have HG3 : Hid (kIm k a1 a2 a3 a4 args n (lp gI F t.n1 [] t.n2.s) = RB) := Lib.hid (by simp only [TV.n2_s, TV.n1_s]; exact HG2.out)
            have hmu3 : mu t.n2.s < F := by rw [TV.n2_s]; have := mu_le t.s; omega
            clear HG2 hmu2
            have HG2 := HG3
            have hmu2 := hmu3
            clear HG3 hmu3
            obtain ⟨i0, hi0⟩ : ∃ x, t.n1 = x := ⟨_, rfl⟩
            obtain ⟨z9, ht2⟩ : ∃ x, t.n2 = x := ⟨_, rfl⟩
            rw [hi0, ht2] at HG2
            rw [ht2] at HS hmu2
            rw [hi0]
            clear hi0 ht2
            go_wp2
            go_loopg [13] F (fun kq v13 wr => ∃ (i : Int) (acc : List S52) (v : Value) (t : TV), v13 = .int .i64 i ∧ kq ≤ F ∧ mu t.s < kq ∧ acc.length + mu t.s ≤ 5000 ∧ Aside0 (St w wr gr ⟨k, a1, a2, a3, a4, args, acc, n, [], []⟩ u5 v (.slice none 0 0) (.slice none 0 0) t) ∧ Hid (kIm k a1 a2 a3 a4 args n (lp gI kq i acc t.s) = RB))
            case atStart => exact ⟨i0, [], (.slice none 0 0), z9, rfl, Nat.le_refl _, hmu2, by simp only [List.length_nil]; omega, HS, HG2⟩
            case round =>
             clear HG2 HS hmu2
             obtain ⟨i, acc, v, t, rfl, HK, hmu, hacc, HS, HG⟩ := hrel
             cases gk with
             | zero => omega
             | succ k1 =>
              have q1 : wr.cell? ⟨w.heap.size + 1, 1, none⟩ = some (.bool t.ok) := (blk_cell HS.out.T.B 1).trans rfl
              obtain ⟨cnd, hcnd⟩ : ∃ b : Bool, (decide (0 < i) && t.ok) = b := ⟨_, rfl⟩
              have HCN := Lib.hid hcnd
              clear hcnd
              go_upto_region 34 with (fail)
              (try simp only [Act.put, List.setIfInBounds_toArray, List.set_cons_zero, List.set_cons_succ])
              go_cut [157] (fun v157 wc => v157 = .bool cnd ∧ wr = wc)
              case first =>
               by_cases c2 : 0 < i
               ·have b1 : decide (0 < i) = true := decide_eq_true c2
                have e : t.ok = cnd := by rw [← HCN.out, b1, Bool.true_and]
                rw [e] at q1
                replace c2 := Lib.hid c2
                clear e
                try go_wp2
                go_meet
                case rel => exact ⟨by first | rfl | (simp; done), rfl⟩
               ·have b1 : decide (0 < i) = false := decide_eq_false c2
                have e : false = cnd := by rw [← HCN.out, b1, Bool.false_and]
                subst e
                replace c2 := Lib.hid c2
                try go_wp2
                go_meet
                case rel => exact ⟨rfl, rfl⟩
              case rest =>
               obtain ⟨rfl, rfl⟩ := hcut
               have hh := HG.out
               rw [lp] at hh
               have hc := HCN.out
               cases cnd
               rotate_left
               ·have c1 : 0 < i ∧ t.s.2 = true := by simpa [TV.s] using hc
                rw [if_pos c1] at hh
                have hm1 : mu t.n2.n2.s < mu t.s := by simp only [TV.n2_s]; exact gI_mu t.s c1.2
                have HG3 : Hid (kIm k a1 a2 a3 a4 args n (lp gI k1 (wrap64 (i - 1)) (acc ++ [(⟨t.n1, t.n2.n1⟩ : S52)]) t.n2.n2.s) = RB) := Lib.hid (by simp only [TV.n2_s, TV.n1_s]; exact hh)
                clear hh HG c1 hc HCN q1
                try go_wp2
                have HSd := Aside0.mk HS.out.drew
                clear HS
                have HS := HSd
                clear HSd
                refine start_ (n := 11) (S := fun w' => w'.heap[gr]? = some (.cells #[.int .i64 k, .int .i64 a1, .int .i64 a2, .int .i64 a3, .int .i64 a4, u5, v, .int .i64 n, .slice none 0 0, .slice none 0 0] 30 (0, 0))) (ds := [10]) #[false, false, false, false, false, false, false, false, false, false, false] (by kernel_rfl) rfl rfl HS.out.R (fun hHeld => ?_)
                generalize wr.drew = w30 at HS hHeld ⊢
                refine pure_ (i := 0) (N := some 160) (v := ?_) (a' := ?_) #[true, false, false, false, false, false, false, false, false, false, false] rfl rfl (by kernel_rfl) (fun _ _ _ h => h) (Or.inl ⟨by rfl, ?_⟩) ?_ ?_
                rotate_left
                ·intro w'
                 go_simp
                 with_reducible rfl
                rotate_left
                ·simp only [Act.put, List.setIfInBounds_toArray, List.set_cons_zero, List.set_cons_succ, i64_w, i32_w]
                 rfl
                refine pure_ (i := 2) (N := some 162) (v := ?_) (a' := ?_) #[true, false, true, false, false, false, false, false, false, false, false] rfl rfl (by kernel_rfl) (fun _ _ _ h => h) (Or.inl ⟨by rfl, ?_⟩) ?_ ?_
                rotate_left
                ·intro w'
                 go_simp
                 with_reducible rfl
                rotate_left
                ·simp only [Act.put, List.setIfInBounds_toArray, List.set_cons_zero, List.set_cons_succ, i64_w, i32_w]
                 rfl
                refine pure_ (i := 4) (N := some 164) (v := ?_) (a' := ?_) #[true, false, true, false, true, false, false, false, false, false, false] rfl rfl (by kernel_rfl) (fun _ _ _ h => h) (Or.inl ⟨by rfl, ?_⟩) ?_ ?_
                rotate_left
                ·intro w'
                 go_simp
                 with_reducible rfl
                rotate_left
                ·simp only [Act.put, List.setIfInBounds_toArray, List.set_cons_zero, List.set_cons_succ, i64_w, i32_w]
                 rfl
                refine take_ (i := 1) (N := some 161) (v := ?_) (a' := ?_) #[true, true, true, false, true, false, false, false, false, false, false] rfl rfl (by kernel_rfl) (fun _ _ _ h => h) (Or.inl ⟨by rfl, ?_⟩) hHeld ?_ ?_
                rotate_left
                ·rintro w' s0
                 obtain ⟨y_0, y_1, y_2, y_3, y_4, y_5, y_6, y_7, y_8, y_9⟩ := ten_cells s0
                 go_simp
                 with_reducible rfl
                rotate_left
                ·simp only [Act.put, List.setIfInBounds_toArray, List.set_cons_zero, List.set_cons_succ, i64_w, i32_w]
                 rfl
                refine one_ (i := 3) (N := some 163) #[true, true, true, true, true, false, false, false, false, false, false] rfl rfl (by kernel_rfl) (by decide) (fun K hK => ?_)
                refine goes_ Try.func29 (by kernel_rfl) rfl #[.pointer (some ⟨w.heap.size + 1, 0, none⟩)] (by rfl) rfl rfl (by (try simp only [List.map_toArray, List.map_cons, List.map_nil]); first | done | rfl | (simp only [List.length_drop, List.length_take]; rfl)) ?_
                refine (taker_b HS.out.T).mono ?_
                rintro e w31 ⟨rfl, hT, hk, hB⟩
                refine ⟨_, rfl, ?_⟩
                have HS2 := Aside0.mk (HS.out.took hT hk hB)
                clear HS hT hk hB
                have HS := HS2
                clear HS2
                refine hK.out _ _ HS.out.R (fun hHeld => ?_)
                clear hK K
                refine norm_ (a' := ?_) ?_ ?_
                rotate_left
                ·show Act.put _ (some 163) _ = _
                 simp only [Act.put, List.setIfInBounds_toArray, List.set_cons_zero, List.set_cons_succ, i64_w, i32_w]
                 rfl
                refine one_ (i := 5) (N := some 165) #[true, true, true, true, true, true, false, false, false, false, false] rfl rfl (by kernel_rfl) (by decide) (fun K hK => ?_)
                refine goes_ Try.func29 (by kernel_rfl) rfl #[.pointer (some ⟨w.heap.size + 1, 0, none⟩)] (by rfl) rfl rfl (by (try simp only [List.map_toArray, List.map_cons, List.map_nil]); first | done | rfl | (simp only [List.length_drop, List.length_take]; rfl)) ?_
                refine (taker_b HS.out.T).mono ?_
                rintro e w32 ⟨rfl, hT, hk, hB⟩
                refine ⟨_, rfl, ?_⟩
                have HS2 := Aside0.mk (HS.out.took hT hk hB)
                clear HS hT hk hB
                have HS := HS2
                clear HS2
                refine hK.out _ _ HS.out.R (fun hHeld => ?_)
                clear hK K
                refine norm_ (a' := ?_) ?_ ?_
                rotate_left
                ·show Act.put _ (some 165) _ = _
                 simp only [Act.put, List.setIfInBounds_toArray, List.set_cons_zero, List.set_cons_succ, i64_w, i32_w]
                 rfl
                refine pure_ (i := 6) (N := some 166) (v := ?_) (a' := ?_) #[true, true, true, true, true, true, true, false, false, false, false] rfl rfl (by kernel_rfl) (fun _ _ _ h => h) (Or.inl ⟨by rfl, ?_⟩) ?_ ?_
                rotate_left
                ·intro w'
                 go_simp
                 with_reducible rfl
                rotate_left
                ·simp only [Act.put, List.setIfInBounds_toArray, List.set_cons_zero, List.set_cons_succ, i64_w, i32_w]
                 rfl
                refine one_ (i := 7) (N := some 167) #[true, true, true, true, true, true, true, true, false, false, false] rfl rfl (by kernel_rfl) (by decide) (fun K hK => ?_)
                refine value_ (w1 := ?_) (v := ?_) (by rfl) rfl ?_ ?_
                rotate_left 2
                ·go_simp
                 constructor
                 ·rfl
                 ·rfl
                refine hK.out _ _ (blk_alloc HS.out.R _) (fun hHeld => ?_)
                clear hK K
                refine norm_ (a' := ?_) ?_ ?_
                rotate_left
                ·show Act.put _ (some 167) _ = _
                 simp only [Act.put, List.setIfInBounds_toArray, List.set_cons_zero, List.set_cons_succ, i64_w, i32_w]
                 rfl
                refine one_ (i := 8) (N := some 168) #[true, true, true, true, true, true, true, true, true, false, false] rfl rfl (by kernel_rfl) (by decide) (fun K hK => ?_)
                refine Kd.R_append_step k52 (w0 := w32) gr (by rfl) (.tmp 161) (.tmp 167) 26 52 (.agg #[(.int .i64 0), (.int .i64 0)]) 16 rfl Try.underlying26 info52 rfl (by decide) (by omega) v acc (⟨t.n1, t.n2.n1⟩ : S52) [.int .i64 t.n1, .int .i64 t.n2.n1] (fun _ => True) (fun _ => False) rfl rfl ?aP (fun _ hk => hk.elim) ?aF ?aO (Below.refl _ _) ?aS ?aL ?_
                (case aP => exact k52_mkM _ _ _ (⟨t.n1, t.n2.n1⟩ : S52))
                (case aF => exact (fun _ _ => trivial))
                (case aO => exact HS.out.H6)
                (case aS => exact Nat.le_of_lt (blk_lt HS.out.R))
                (case aL => omega)
                intro u w33 ho hb hg hat
                obtain ⟨Au, cu, eu⟩ := Kd.R_slice ho
                rw [List.length_append, List.length_singleton] at eu
                subst eu
                obtain ⟨hL, hN⟩ := HS.out.app6 hg hb ho
                have HL := Aside0.mk hL
                have HN := Aside0.mk hN
                clear ho hb hg hat hL hN HS
                refine hK.out _ _ HL.out.R (fun hHeld => ?_)
                clear hK K
                refine norm_ (a' := ?_) ?_ ?_
                rotate_left
                ·show Act.put _ (some 168) _ = _
                 simp only [Act.put, List.setIfInBounds_toArray, List.set_cons_zero, List.set_cons_succ, i64_w, i32_w]
                 rfl
                refine pure_ (i := 9) (N := some 169) (v := ?_) (a' := ?_) #[true, true, true, true, true, true, true, true, true, true, false] rfl rfl (by kernel_rfl) (fun _ _ _ h => h) (Or.inl ⟨by rfl, ?_⟩) ?_ ?_
                rotate_left
                ·intro w'
                 go_simp
                 with_reducible rfl
                rotate_left
                ·simp only [Act.put, List.setIfInBounds_toArray, List.set_cons_zero, List.set_cons_succ, i64_w, i32_w]
                 rfl
                refine last_ (i := 10) (N := none) #[true, true, true, true, true, true, true, true, true, true, true] rfl rfl (by kernel_rfl) (by decide) (fun K hK => ?_)
                have hs : w33.cell? ⟨gr, 6, none⟩ = some v := (blk_cell HL.out.R 6).trans rfl
                have hfs := fun j => blk_frozen HL.out.R j
                refine skip_ (w1 := ?_) (by rfl) rfl ?_ ?_
                rotate_left
                ·go_simp
                 rfl
                refine hK.out _ _ ?_
                clear hK K
                refine done_ (by kernel_rfl) ?_
                try go_wp2
                go_roundg k1
                case measure => omega
                case rel => exact ⟨_, _, _, _, rfl, by omega, by omega, by rw [List.length_append, List.length_singleton]; omega, HN, HG3⟩
               ·have c1 : ¬ (0 < i ∧ t.s.2 = true) := by
                 intro h
                 rw [decide_eq_true h.1, Bool.true_and] at hc
                 exact Bool.noConfusion (hc.symm.trans h.2)
                rw [if_neg c1] at hh
                have HG2 := Lib.hid hh
                have hmu2 : mu t.s < F := by omega
                clear hh HG HK hmu c1 hc HCN q1
                go_wp2
                go_meet
                case rel => exact ⟨_, _, _, _, _, _, HS, HG2⟩
      ·have e1 : (k == 1) = false := beq_eq_false_iff_ne.mpr (fun h => kk (Or.inl h))
       have e2 : (k == 2) = false := beq_eq_false_iff_ne.mpr (fun h => kk (Or.inr h))
       have HG3 : Hid (((⟨k, a1, a2, 0, 0, [], [], n, [], []⟩ : Rec), t.s) = RB) := Lib.hid (by rw [← HG2.out]; unfold kRest2; rw [if_neg kk])
       replace kk := Lib.hid kk
       go_wp2
       go_meet
       case rel => exact ⟨_, _, _, _, _, _, HS, HG3⟩
   case rest =>
    obtain ⟨r, v5, v6, v8, v9, t, HS, HG⟩ := hcut
    have hrb : rbF ns = (r, t.s) := HRB.out.trans HG.out.symm
    have hd2 : (if t.ok = true ∧ r.enc = (l0, none) then (r, none) else (Rec.zero, some 4)) = (s, x) := by
     have := HD.out
     simp only [hrb] at this
     exact this
    have HD2 := Lib.hid hd2
    have hfit : r.Fits := by have := HFit.out; rw [hrb] at this; exact this
    have HF := Lib.hid hfit
    clear hrb hd2 hfit HG
    obtain ⟨A5, c5, rfl, hc5, hC5⟩ := Kd.R_reads HS.out.H5
    obtain ⟨A6, c6, rfl, hc6, hC6⟩ := Kd.R_reads HS.out.H6
    obtain ⟨A8, c8, rfl, hc8, hC8⟩ := Kd.R_reads HS.out.H8
    obtain ⟨A9, c9, rfl, hc9, hC9⟩ := Kd.R_reads HS.out.H9
    have HI : Aside0 (RIn wc r ⟨A5, c5, A6, c6, A8, c8, A9, c9⟩) := ⟨⟨hC5, hc5, hC6, hc6, hC8, hc8, hC9, hc9⟩⟩
    have HLL := Lib.hid (And.intro hc5 (And.intro hc6 (And.intro hc8 hc9)))
    obtain ⟨b, y, he⟩ : ∃ b y, r.enc = (b, y) := ⟨_, _, rfl⟩
    have HE := Lib.hid he
    clear hC5 hC6 hC8 hC9 hc5 hc6 hc8 hc9 he
    obtain ⟨d_0, d_1, d_2, d_3, d_4, d_5, d_6, d_7, d_8, d_9⟩ := ten_cells HS.out.R
    have dfr := ten_free HS.out.R
    go_wp2_with fail
    refine (renc_c HI.out HF.out.wide HF.out).mono ?_
    rintro e w7 ⟨E, ec, rfl, hE, hC, hb⟩
    rw [HE.out] at hE hC ⊢
    replace hE : b.length ≤ ec := hE
    replace hC : Kd.C (Kd.int .u8) w7 E b.length b := hC
    have HS2 := Aside0.mk (HS.out.below hb)
    clear HS HI hb d_0 d_1 d_2 d_3 d_4 d_5 d_6 d_7 d_8 d_9 dfr
    have HS := HS2
    clear HS2
    have hG : w.heap.size < gr := by have := HS.out.G; omega
    have hcv1 := Kd.C_string (P := Try.prog) (c := ec) Try.underlying22 Try.underlying5 Try.underlying9 hC
    have hcv2 := Kd.C_string (P := Try.prog) (c := c0) Try.underlying22 Try.underlying5 Try.underlying9 (Kd.C_below HR0.out HS.out.B)
    have q1 : w7.cell? ⟨w.heap.size + 1, 1, none⟩ = some (.bool t.ok) := (blk_cell HS.out.T.B 1).trans rfl
    have HEC := Lib.hid hE
    clear hC hE
    obtain ⟨d_0, d_1, d_2, d_3, d_4, d_5, d_6, d_7, d_8, d_9⟩ := ten_cells HS.out.R
    have dfr := ten_free HS.out.R
    obtain ⟨o_0, o_1, o_2, o_3, o_4, o_5, o_6, o_7, o_8, o_9⟩ := ten_cells HS.out.O
    have ofr := ten_free HS.out.O
    have hz : ¬ w.heap.size = gr := by omega
    have hz2 : ¬ gr = w.heap.size := by omega
    cases ht : t.ok with
    | false =>
     obtain ⟨rfl, rfl⟩ := Prod.mk.inj ((if_neg (by rw [ht]; intro h; exact Bool.noConfusion h.1)).symm.trans HD2.out)
     rw [ht] at q1
     clear ht HD2
     go_wp2
     refine bodyPost_ret (results_ct rfl _ _ w.heap.size 30 #[.int .i64 0, .int .i64 0, .int .i64 0, .int .i64 0, .int .i64 0, .slice none 0 0, .slice none 0 0, .int .i64 0, .slice none 0 0, .slice none 0 0] (0, 0) _ rfl (by with_reducible exact blk_put10 HS.out.O _ _ _ _ _ _ _ _ _ _) Try.underlying30 rfl (by kernel_rfl)) rfl ⟨⟨none, 0, none, 0, none, 0, none, 0⟩, by first | rfl | (simp [Rec.cells, Rec.zero]; done), RIn.void _, ?_⟩
     (with_reducible repeat (refine below_set ?_ (by omega))); exact HS.out.B
    | true =>
     rw [ht] at q1
     rcases y with _ | y
     ·simp only [Option.getD_none]
      have hq : Bytes b := by
       have := (enc_ok HE.out).2.1
       rw [← this]
       exact bytes_flat _
      have HQ := Lib.hid (str_eq hq H0.out)
      by_cases hbl : b = l0
      ·obtain ⟨rfl, rfl⟩ := Prod.mk.inj ((if_pos ⟨ht, by rw [HE.out, hbl]⟩).symm.trans HD2.out)
       have hne : ((strOfNums b).toList != (strOfNums l0).toList) = false := by rw [bne, HQ.out, decide_eq_true hbl]; rfl
       have hee : ((strOfNums b).toList == (strOfNums l0).toList) = true := by rw [HQ.out, decide_eq_true hbl]
       replace hbl := Lib.hid hbl
       clear ht HD2 hq
       go_wp2
       refine bodyPost_ret (results_ct rfl _ _ w.heap.size 30 #[.int .i64 r.k, .int .i64 r.t, .int .i64 r.p, .int .i64 r.g, .int .i64 r.o, .slice A5 r.args.length c5, .slice A6 r.imgs.length c6, .int .i64 r.n, .slice A8 r.di.length c8, .slice A9 r.ac.length c9] (0, 0) _ rfl (by with_reducible exact blk_put10 HS.out.O _ _ _ _ _ _ _ _ _ _) Try.underlying30 rfl (by kernel_rfl)) rfl ⟨⟨A5, c5, A6, c6, A8, c8, A9, c9⟩, rfl, ?_, ?_⟩
       ·exact ⟨(Kd.R_reads' (own_ten HS.out.H5 hG (Nat.le_refl _))).2.2, HLL.out.1, (Kd.R_reads' (own_ten HS.out.H6 hG (Nat.le_refl _))).2.2, HLL.out.2.1, (Kd.R_reads' (own_ten HS.out.H8 hG (Nat.le_refl _))).2.2, HLL.out.2.2.1, (Kd.R_reads' (own_ten HS.out.H9 hG (Nat.le_refl _))).2.2, HLL.out.2.2.2⟩
       ·(with_reducible repeat (refine below_set ?_ (by omega))); exact HS.out.B
      ·obtain ⟨rfl, rfl⟩ := Prod.mk.inj ((if_neg (by rw [HE.out]; intro h; exact hbl (Prod.mk.inj h.2).1)).symm.trans HD2.out)
       have hne : ((strOfNums b).toList != (strOfNums l0).toList) = true := by rw [bne, HQ.out, decide_eq_false hbl]; rfl
       have hee : ((strOfNums b).toList == (strOfNums l0).toList) = false := by rw [HQ.out, decide_eq_false hbl]
       replace hbl := Lib.hid hbl
       clear ht HD2 hq
       go_wp2
       refine bodyPost_ret (results_ct rfl _ _ w.heap.size 30 #[.int .i64 0, .int .i64 0, .int .i64 0, .int .i64 0, .int .i64 0, .slice none 0 0, .slice none 0 0, .int .i64 0, .slice none 0 0, .slice none 0 0] (0, 0) _ rfl (by with_reducible exact blk_put10 HS.out.O _ _ _ _ _ _ _ _ _ _) Try.underlying30 rfl (by kernel_rfl)) rfl ⟨⟨none, 0, none, 0, none, 0, none, 0⟩, by first | rfl | (simp [Rec.cells, Rec.zero]; done), RIn.void _, ?_⟩
       (with_reducible repeat (refine below_set ?_ (by omega))); exact HS.out.B
     ·obtain rfl : y = 2 := (enc_err HE.out).2
      simp only [Option.getD_some]
      obtain ⟨rfl, rfl⟩ := Prod.mk.inj ((if_neg (by rw [HE.out]; intro h; exact absurd (Prod.mk.inj h.2).2 (by simp))).symm.trans HD2.out)
      clear ht HD2
      go_wp2
      refine bodyPost_ret (results_ct rfl _ _ w.heap.size 30 #[.int .i64 0, .int .i64 0, .int .i64 0, .int .i64 0, .int .i64 0, .slice none 0 0, .slice none 0 0, .int .i64 0, .slice none 0 0, .slice none 0 0] (0, 0) _ rfl (by with_reducible exact blk_put10 HS.out.O _ _ _ _ _ _ _ _ _ _) Try.underlying30 rfl (by kernel_rfl)) rfl ⟨⟨none, 0, none, 0, none, 0, none, 0⟩, by first | rfl | (simp [Rec.cells, Rec.zero]; done), RIn.void _, ?_⟩
      (with_reducible repeat (refine below_set ?_ (by omega))); exact HS.out.B
  ·have hy0 : 0 < y.length := by omega
   have g1 : decide (0 < (y.length : Int)) = true := decide_eq_true (by omega)
   obtain ⟨m, hm⟩ : ∃ m, y.length = m + 1 := ⟨y.length - 1, by omega⟩
   have hye : y ≠ [] := fun e => hy (by rw [e]; rfl)
   have hq := HQ.out
   rw [hm, rparse, if_neg hye] at hq
   have Hm := Lib.hid hm
   clear hm hye hy HQ
   go_wp2_with fail
   refine (rtake_c A c y wr (Kd.C_below HC.out HB.out) hyc HBy.out).mono ?_
   rintro e w1 ⟨rfl, hb⟩
   replace BZ := Aside0.mk (blk_below BZ.out hb)
   replace BT := Aside0.mk (blk_below BT.out hb)
   replace HO := Aside0.mk (Kd.R_below HO.out hb)
   replace HB := Aside0.mk (below_then HB.out HB.out.size hb)
   clear hb
   by_cases h0 : (rt y).2 = 0
   ·rw [if_pos h0] at hq
    obtain rfl : none = P := hq
    obtain ⟨rfl, rfl⟩ : Rec.zero = s ∧ some 4 = x := Prod.mk.inj HD.out
    rw [h0]
    obtain ⟨d_0, d_1, d_2, d_3, d_4, d_5, d_6, d_7, d_8, d_9⟩ := ten_cells BZ.out
    have dfr := ten_free BZ.out
    go_wp2
    refine bodyPost_ret (results_ct rfl _ _ w.heap.size 30 #[.int .i64 0, .int .i64 0, .int .i64 0, .int .i64 0, .int .i64 0, .slice none 0 0, .slice none 0 0, .int .i64 0, .slice none 0 0, .slice none 0 0] (0, 0) _ rfl (by with_reducible exact blk_put10 BZ.out _ _ _ _ _ _ _ _ _ _) Try.underlying30 rfl (by kernel_rfl)) rfl ⟨⟨none, 0, none, 0, none, 0, none, 0⟩, by first | rfl | (simp [Rec.cells, Rec.zero]; done), RIn.void _, ?_⟩
    (with_reducible repeat (refine below_set ?_ (by omega))); exact HB.out
   ·rw [if_neg h0] at hq
    have hsz := (rt_size y).resolve_left h0
    obtain ⟨n1, Hn⟩ : ∃ n, Hid ((rt y).1 = n) := ⟨_, Lib.hid rfl⟩
    obtain ⟨q, Hq⟩ : ∃ q, Hid ((rt y).2 = q) := ⟨_, Lib.hid rfl⟩
    rw [Hq.out] at hsz h0
    rw [Hn.out, Hq.out] at hq ⊢
    have e0 : (q == 0) = false := beq_eq_false_iff_ne.mpr h0
    obtain ⟨A', hcut, hread, hlc⟩ := print_drop_of (P := Try.prog) (Value.int .u8) (0 : Int) 22 5 .i64 Try.underlying22 HI5.out HZ5.out A c y q (by omega) (by omega) hyc
    have hyl : (y.drop q.toNat).length < y.length := by rw [List.length_drop]; omega
    have hp : rparse m (y.drop q.toNat) = rparse (y.drop q.toNat).length (y.drop q.toNat) := rparse_fuel _ _ _ (by have := Hm.out; omega) (Nat.le_refl _)
    have HQ : Hid ((rparse (y.drop q.toNat).length (y.drop q.toNat)).map (fun z => (ns ++ [n1]) ++ z) = P) := Lib.hid (by rw [← hq, ← hp]; cases rparse m (y.drop q.toNat) <;> simp)
    have HRD := Lib.hid (hread w (Kd.reads_of_C (enc := Value.int .u8) (d := (0 : Int)) (h1 := fun _ => rfl) HC.out))
    have HBy2 := Lib.hid (HBy.out.drop q.toNat)
    have hT0 : w1.cell? ⟨w.heap.size + 1, 0, none⟩ = some v := (blk_cell BT.out 0).trans rfl
    clear hq hp h0 hread HC HBy
    go_wp2_with (first | ((with_reducible refine gate_builtin (b := .append) (xs := #[.tmp 40, .tmp 42]) rfl ?_); at_builtin; refine Kd.R_append (Kd.int .i64) (w0 := w) w.heap.size rfl (.tmp 40) (.tmp 42) 25 3 (.int .i64 0) 8 rfl Try.underlying25 info3 rfl (by decide) (by omega) v ns n1 [.int .i64 n1] (fun _ => True) (fun _ => False) rfl rfl ?aP (fun _ hk => hk.elim) ?aF ?aO ?aB ?aS ?aL ?_; (case aP => exact rfl); (case aB => exact HB.out); (case aF => exact (fun _ _ => trivial)); (case aO => exact HO.out); (case aS => exact below_size HB.out); (case aL => omega); intro u w6 ho hb hg hat; have bz := Aside0.mk (blk_grown BZ.out hg (Kd.R_ne HO.out BZ.out (by decide))); have bt := Aside0.mk (blk_grown BT.out hg (Kd.R_ne HO.out BT.out (by decide))); obtain ⟨Au, cu, eu⟩ := Kd.R_slice ho; rw [List.length_append, List.length_singleton] at eu; subst eu; have HO2 := Aside0.mk ho; have HB2 := Aside0.mk hb; clear ho hb hg hat hT0; have hT0 : w6.cell? ⟨w.heap.size + 1, 0, none⟩ = some v := (blk_cell bt.out 0).trans rfl; have hTf := fun j => blk_frozen bt.out j))
    go_roundw
    case rel =>
     refine ⟨A', c - q.toNat, y.drop q.toNat, ns ++ [n1], _, by rw [List.length_drop], hlc, by rw [List.length_append, List.length_singleton]; omega, ⟨Kd.C_of_reads (enc := Value.int .u8) (d := (0 : Int)) (h1 := fun _ => rfl) HRD.out⟩, HBy2, ⟨blk_far bz.out (by show w.heap.size ≠ w.heap.size + 1; omega) _⟩, ⟨blk_put bt.out 0 _ rfl⟩, ⟨?_⟩, ⟨below_set HB2.out (by omega)⟩, HQ⟩
     exact Kd.R_mono (Kd.R_far (p := ⟨w.heap.size + 1, 0, none⟩) (Kd.R_types HO2.out bt.out (by decide)) (fun _ q => q.2) _) (fun _ _ => trivial)
    case measure => simp; omega
end Go.Proofs.Ytcplblpmgajmnaa.A
namespace Go.Proofs.Ytcplblpmgajmnaa.A
open Go.RowKit Go.Proofs.YtcplblpmgajmnaaW.PrintWords Go.Proofs.YtcplblpmgajmnaaW.PrintLast Go.Proofs.YtcplblpmgajmnaaW.PrintMore
attribute [local go_sem high] eqA52 eqA54 eqA56
set_option linter.unusedVariables false
set_option linter.unusedSimpArgs false
theorem rec_ext {r s : Rec} (h0 : r.k = s.k) (h1 : r.t = s.t) (h2 : r.p = s.p) (h3 : r.g = s.g) (h4 : r.o = s.o) (h7 : r.n = s.n) (h5 : r.args = s.args) (h6 : r.imgs = s.imgs) (h8 : r.di = s.di) (h9 : r.ac = s.ac) : r = s := by
 cases r
 cases s
 simp only at *
 subst h0 h1 h2 h3 h4 h5 h6 h7 h8 h9
 rfl
theorem list_ext {α : Type} {z : α} {l m : List α} (hl : l.length = m.length) (h : ∀ j, j < l.length → l.getD j z = m.getD j z) : l = m := by
 refine List.ext_getElem hl fun j h1 h2 => ?_
 have := h j h1
 rwa [List.getD_eq_getElem?_getD, List.getD_eq_getElem?_getD, List.getElem?_eq_getElem h1, List.getElem?_eq_getElem h2] at this
theorem all_next {P : Nat → Prop} {i : Nat} (h : ∀ j, j < i → P j) (hi : P i) : ∀ j, j < i + 1 → P j := fun j hj => by
 rcases Nat.lt_or_ge j i with h1 | h1
 ·exact h j h1
 ·obtain rfl : i = j := by omega
  exact hi
set_option maxHeartbeats 8000000 in
set_option maxRecDepth 100000 in
theorem refsame_c {r s : Rec} {a b : Lies} {w : World} (h : RIn w r a) (h' : RIn w s b) : Calls Try.prog 14 #[.agg (r.cells a), .agg (s.cells b)] w fun e w' => e = .returned (.bool (decide (r = s))) ∧ Below w.heap.size w w' := by
 have hu30 := Try.underlying30
 have hu52 := Try.underlying52
 have hu54 := Try.underlying54
 have hu56 := Try.underlying56
 obtain ⟨A5, c5, A6, c6, A8, c8, A9, c9⟩ := a
 obtain ⟨B5, e5, B6, e6, B8, e8, B9, e9⟩ := b
 have HI := Aside0.mk h
 have HJ := Aside0.mk h'
 clear h h'
 obtain ⟨q, hq⟩ : ∃ q, decide (r = s) = q := ⟨_, rfl⟩
 rw [hq]
 replace hq := Lib.hid hq
 unfold Rec.cells
 go_enter Try.func14, Try.ntmps14

 by_cases g_k : r.k = s.k
 rotate_left
 ·have b_k : (r.k != s.k) = true := bne_iff_ne.mpr g_k
  have G := Lib.hid g_k
  clear g_k
  obtain rfl : false = q := by rw [← hq.out]; exact (decide_eq_false (fun e => G.out (by rw [e]))).symm
  go_wp2
  go_ret
  exact ⟨rfl, below_alloc (below_alloc (Below.refl _ _) _) _⟩
 have b_k : (r.k != s.k) = false := bne_eq_false_iff_eq.mpr g_k
 replace g_k := Lib.hid g_k
 by_cases g_t : r.t = s.t
 rotate_left
 ·have b_t : (r.t != s.t) = true := bne_iff_ne.mpr g_t
  have G := Lib.hid g_t
  clear g_t
  obtain rfl : false = q := by rw [← hq.out]; exact (decide_eq_false (fun e => G.out (by rw [e]))).symm
  go_wp2
  go_ret
  exact ⟨rfl, below_alloc (below_alloc (Below.refl _ _) _) _⟩
 have b_t : (r.t != s.t) = false := bne_eq_false_iff_eq.mpr g_t
 replace g_t := Lib.hid g_t
 by_cases g_p : r.p = s.p
 rotate_left
 ·have b_p : (r.p != s.p) = true := bne_iff_ne.mpr g_p
  have G := Lib.hid g_p
  clear g_p
  obtain rfl : false = q := by rw [← hq.out]; exact (decide_eq_false (fun e => G.out (by rw [e]))).symm
  go_wp2
  go_ret
  exact ⟨rfl, below_alloc (below_alloc (Below.refl _ _) _) _⟩
 have b_p : (r.p != s.p) = false := bne_eq_false_iff_eq.mpr g_p
 replace g_p := Lib.hid g_p
 by_cases g_g : r.g = s.g
 rotate_left
 ·have b_g : (r.g != s.g) = true := bne_iff_ne.mpr g_g
  have G := Lib.hid g_g
  clear g_g
  obtain rfl : false = q := by rw [← hq.out]; exact (decide_eq_false (fun e => G.out (by rw [e]))).symm
  go_wp2
  go_ret
  exact ⟨rfl, below_alloc (below_alloc (Below.refl _ _) _) _⟩
 have b_g : (r.g != s.g) = false := bne_eq_false_iff_eq.mpr g_g
 replace g_g := Lib.hid g_g
 by_cases g_o : r.o = s.o
 rotate_left
 ·have b_o : (r.o != s.o) = true := bne_iff_ne.mpr g_o
  have G := Lib.hid g_o
  clear g_o
  obtain rfl : false = q := by rw [← hq.out]; exact (decide_eq_false (fun e => G.out (by rw [e]))).symm
  go_wp2
  go_ret
  exact ⟨rfl, below_alloc (below_alloc (Below.refl _ _) _) _⟩
 have b_o : (r.o != s.o) = false := bne_eq_false_iff_eq.mpr g_o
 replace g_o := Lib.hid g_o
 by_cases g_n : r.n = s.n
 rotate_left
 ·have b_n : (r.n != s.n) = true := bne_iff_ne.mpr g_n
  have G := Lib.hid g_n
  clear g_n
  obtain rfl : false = q := by rw [← hq.out]; exact (decide_eq_false (fun e => G.out (by rw [e]))).symm
  go_wp2
  go_ret
  exact ⟨rfl, below_alloc (below_alloc (Below.refl _ _) _) _⟩
 have b_n : (r.n != s.n) = false := bne_eq_false_iff_eq.mpr g_n
 replace g_n := Lib.hid g_n
 by_cases g_args : (r.args.length : Int) = (s.args.length : Int)
 rotate_left
 ·have b_args : ((r.args.length : Int) != (s.args.length : Int)) = true := bne_iff_ne.mpr g_args
  have b2_args : (r.args.length != s.args.length) = true := bne_iff_ne.mpr (by omega)
  have G := Lib.hid g_args
  clear g_args
  obtain rfl : false = q := by rw [← hq.out]; exact (decide_eq_false (fun e => G.out (by rw [e]))).symm
  go_wp2
  go_ret
  exact ⟨rfl, below_alloc (below_alloc (Below.refl _ _) _) _⟩
 have b_args : ((r.args.length : Int) != (s.args.length : Int)) = false := bne_eq_false_iff_eq.mpr g_args
 have b2_args : (r.args.length != s.args.length) = false := bne_eq_false_iff_eq.mpr (by omega)
 have g2_args : r.args.length = s.args.length := by omega
 replace g2_args := Lib.hid g2_args
 replace g_args := Lib.hid g_args
 by_cases g_imgs : (r.imgs.length : Int) = (s.imgs.length : Int)
 rotate_left
 ·have b_imgs : ((r.imgs.length : Int) != (s.imgs.length : Int)) = true := bne_iff_ne.mpr g_imgs
  have b2_imgs : (r.imgs.length != s.imgs.length) = true := bne_iff_ne.mpr (by omega)
  have G := Lib.hid g_imgs
  clear g_imgs
  obtain rfl : false = q := by rw [← hq.out]; exact (decide_eq_false (fun e => G.out (by rw [e]))).symm
  go_wp2
  go_ret
  exact ⟨rfl, below_alloc (below_alloc (Below.refl _ _) _) _⟩
 have b_imgs : ((r.imgs.length : Int) != (s.imgs.length : Int)) = false := bne_eq_false_iff_eq.mpr g_imgs
 have b2_imgs : (r.imgs.length != s.imgs.length) = false := bne_eq_false_iff_eq.mpr (by omega)
 have g2_imgs : r.imgs.length = s.imgs.length := by omega
 replace g2_imgs := Lib.hid g2_imgs
 replace g_imgs := Lib.hid g_imgs
 by_cases g_di : (r.di.length : Int) = (s.di.length : Int)
 rotate_left
 ·have b_di : ((r.di.length : Int) != (s.di.length : Int)) = true := bne_iff_ne.mpr g_di
  have b2_di : (r.di.length != s.di.length) = true := bne_iff_ne.mpr (by omega)
  have G := Lib.hid g_di
  clear g_di
  obtain rfl : false = q := by rw [← hq.out]; exact (decide_eq_false (fun e => G.out (by rw [e]))).symm
  go_wp2
  go_ret
  exact ⟨rfl, below_alloc (below_alloc (Below.refl _ _) _) _⟩
 have b_di : ((r.di.length : Int) != (s.di.length : Int)) = false := bne_eq_false_iff_eq.mpr g_di
 have b2_di : (r.di.length != s.di.length) = false := bne_eq_false_iff_eq.mpr (by omega)
 have g2_di : r.di.length = s.di.length := by omega
 replace g2_di := Lib.hid g2_di
 replace g_di := Lib.hid g_di
 by_cases g_ac : (r.ac.length : Int) = (s.ac.length : Int)
 rotate_left
 ·have b_ac : ((r.ac.length : Int) != (s.ac.length : Int)) = true := bne_iff_ne.mpr g_ac
  have b2_ac : (r.ac.length != s.ac.length) = true := bne_iff_ne.mpr (by omega)
  have G := Lib.hid g_ac
  clear g_ac
  obtain rfl : false = q := by rw [← hq.out]; exact (decide_eq_false (fun e => G.out (by rw [e]))).symm
  go_wp2
  go_ret
  exact ⟨rfl, below_alloc (below_alloc (Below.refl _ _) _) _⟩
 have b_ac : ((r.ac.length : Int) != (s.ac.length : Int)) = false := bne_eq_false_iff_eq.mpr g_ac
 have b2_ac : (r.ac.length != s.ac.length) = false := bne_eq_false_iff_eq.mpr (by omega)
 have g2_ac : r.ac.length = s.ac.length := by omega
 replace g2_ac := Lib.hid g2_ac
 replace g_ac := Lib.hid g_ac
 go_upto_region 3 with (fail)
 go_cut [2, 3, 5] (fun v2 v3 v5 wc => v2 = .pointer (some ⟨w.heap.size, 0, none⟩) ∧ v3 = .pointer (some ⟨w.heap.size + 1, 0, none⟩) ∧ v5 = .int .i64 0 ∧ wc.heap[w.heap.size]? = some (.cells #[.int .i64 r.k, .int .i64 r.t, .int .i64 r.p, .int .i64 r.g, .int .i64 r.o, .slice A5 r.args.length c5, .slice A6 r.imgs.length c6, .int .i64 r.n, .slice A8 r.di.length c8, .slice A9 r.ac.length c9] 30 (0, 0)) ∧ wc.heap[w.heap.size + 1]? = some (.cells #[.int .i64 s.k, .int .i64 s.t, .int .i64 s.p, .int .i64 s.g, .int .i64 s.o, .slice B5 s.args.length e5, .slice B6 s.imgs.length e6, .int .i64 s.n, .slice B8 s.di.length e8, .slice B9 s.ac.length e9] 30 (0, 0)) ∧ Below w.heap.size w wc)
 case first =>
  go_wp2
  go_meet
  case rel =>
   have h2 := heap_alloc_new (w.alloc (.cells #[.int .i64 r.k, .int .i64 r.t, .int .i64 r.p, .int .i64 r.g, .int .i64 r.o, .slice A5 r.args.length c5, .slice A6 r.imgs.length c6, .int .i64 r.n, .slice A8 r.di.length c8, .slice A9 r.ac.length c9] 30)) (.cells #[.int .i64 s.k, .int .i64 s.t, .int .i64 s.p, .int .i64 s.g, .int .i64 s.o, .slice B5 s.args.length e5, .slice B6 s.imgs.length e6, .int .i64 s.n, .slice B8 s.di.length e8, .slice B9 s.ac.length e9] 30)
   rw [World.size_alloc] at h2
   exact ⟨rfl, rfl, rfl, blk_alloc (heap_alloc_new w _) _, h2, below_alloc (below_alloc (Below.refl _ _) _) _⟩
 case rest =>
  obtain ⟨rfl, rfl, rfl, BK1, BK2, HB⟩ := hcut
  replace BK1 := Lib.hid BK1
  replace BK2 := Lib.hid BK2
  replace HI := Aside0.mk (HI.out.below HB)
  replace HJ := Aside0.mk (HJ.out.below HB)
  replace HB := Lib.hid HB
  clear b_k b_t b_p b_g b_o b_n b_args b_imgs b_di b_ac
  clear b2_args b2_imgs b2_di b2_ac
  obtain ⟨x_0, x_1, x_2, x_3, x_4, x_5, x_6, x_7, x_8, x_9⟩ := ten_cells BK1.out
  obtain ⟨y_0, y_1, y_2, y_3, y_4, y_5, y_6, y_7, y_8, y_9⟩ := ten_cells BK2.out
  go_wp2
  go_loopw [5] (fun v5 wr => ∃ (i : Nat), v5 = .int .i64 (i : Int) ∧ i ≤ r.args.length ∧ Hid (∀ j, j < i → r.args.getD j (0 : Int) = s.args.getD j (0 : Int)) ∧ Hid (Below wc.heap.size wc wr)) (fun v5 _ => r.args.length - (match v5 with | .int _ n => n.toNat | _ => 0))
  case atStart => exact ⟨0, rfl, Nat.zero_le _, Lib.hid (fun j hj => absurd hj (Nat.not_lt_zero j)), Lib.hid (Below.refl _ _)⟩
  case round =>
   obtain ⟨i, rfl, hi, Hall, HBr⟩ := hrel
   have K1 := Lib.hid (blk_below BK1.out HBr.out)
   have K2 := Lib.hid (blk_below BK2.out HBr.out)
   have I1 := Aside0.mk (HI.out.below HBr.out)
   have J1 := Aside0.mk (HJ.out.below HBr.out)
   have HB1 := Lib.hid (below_then HB.out HB.out.size HBr.out)
   clear x_0 x_1 x_2 x_3 x_4 x_5 x_6 x_7 x_8 x_9 y_0 y_1 y_2 y_3 y_4 y_5 y_6 y_7 y_8 y_9
   obtain ⟨x_0, x_1, x_2, x_3, x_4, x_5, x_6, x_7, x_8, x_9⟩ := ten_cells K1.out
   obtain ⟨y_0, y_1, y_2, y_3, y_4, y_5, y_6, y_7, y_8, y_9⟩ := ten_cells K2.out
   by_cases hlt : i < r.args.length
   ·have hmx := Kd.C_max I1.out.C5
    have hlt2 : i < s.args.length := by have := g2_args.out; omega
    obtain ⟨ad, eA, p0⟩ := Kd.at_int I1.out.C5 (i : Int) (by omega) (by omega)
    obtain ⟨bd, eB, q0⟩ := Kd.at_int J1.out.C5 (i : Int) (by omega) (by omega)
    dsimp only at eA eB
    subst eA eB
    rw [show ((i : Int)).toNat = i from rfl] at p0 q0
    obtain ⟨u, Hu⟩ : ∃ u, Hid (r.args.getD i (0 : Int) = u) := ⟨_, Lib.hid rfl⟩
    obtain ⟨v, Hv⟩ : ∃ v, Hid (s.args.getD i (0 : Int) = v) := ⟨_, Lib.hid rfl⟩
    rw [show rd r.args (i : Int) = r.args.getD i (0 : Int) from rfl, Hu.out] at p0
    rw [show rd s.args (i : Int) = s.args.getD i (0 : Int) from rfl, Hv.out] at q0
    by_cases huv : u = v
    ·have hne : (u != v) = false := by subst huv; simp
     replace huv := Lib.hid huv
     go_wp2
     repeat (go_quiet (fail); try go_wp2)
     go_roundw
     case rel => exact ⟨i + 1, by go_num, by omega, Lib.hid (all_next Hall.out (by rw [Hu.out, Hv.out]; exact huv.out)), Lib.hid (by (with_reducible repeat (first | apply pw_below_drewN | apply below_drew1)); exact HBr.out)⟩
     case measure => simp [intOf]; omega
    ·have hne : (u != v) = true := bne_iff_ne.mpr huv
     have G := Lib.hid huv
     clear huv
     obtain rfl : false = q := by rw [← hq.out]; exact (decide_eq_false (fun e => G.out (by rw [← Hu.out, ← Hv.out, e]))).symm
     go_wp2
     repeat (go_quiet (fail); try go_wp2)
     go_ret
     exact ⟨rfl, by (with_reducible repeat (first | apply pw_below_drewN | apply below_drew1)); exact HB1.out⟩
   ·have L_args := Lib.hid (list_ext g2_args.out (fun j hj => Hall.out j (by omega)))
    obtain rfl : i = r.args.length := by omega
    clear HB HI HJ BK1 BK2 Hall HBr x_0 x_1 x_2 x_3 x_4 x_5 x_6 x_7 x_8 x_9 y_0 y_1 y_2 y_3 y_4 y_5 y_6 y_7 y_8 y_9 hlt hi
    have HB := HB1
    have HI := I1
    have HJ := J1
    have BK1 := K1
    have BK2 := K2
    clear HB1 I1 J1 K1 K2
    obtain ⟨wr5, hwr⟩ : ∃ x, x = wr := ⟨_, rfl⟩
    subst hwr
    obtain ⟨x_0, x_1, x_2, x_3, x_4, x_5, x_6, x_7, x_8, x_9⟩ := ten_cells BK1.out
    obtain ⟨y_0, y_1, y_2, y_3, y_4, y_5, y_6, y_7, y_8, y_9⟩ := ten_cells BK2.out
    go_wp2
    go_loopw [6] (fun v6 wr => ∃ (i : Nat), v6 = .int .i64 (i : Int) ∧ i ≤ r.imgs.length ∧ Hid (∀ j, j < i → r.imgs.getD j z52 = s.imgs.getD j z52) ∧ Hid (Below wr5.heap.size wr5 wr)) (fun v6 _ => r.imgs.length - (match v6 with | .int _ n => n.toNat | _ => 0))
    case atStart => exact ⟨0, rfl, Nat.zero_le _, Lib.hid (fun j hj => absurd hj (Nat.not_lt_zero j)), Lib.hid (Below.refl _ _)⟩
    case round =>
     obtain ⟨i, rfl, hi, Hall, HBr⟩ := hrel
     have K1 := Lib.hid (blk_below BK1.out HBr.out)
     have K2 := Lib.hid (blk_below BK2.out HBr.out)
     have I1 := Aside0.mk (HI.out.below HBr.out)
     have J1 := Aside0.mk (HJ.out.below HBr.out)
     have HB1 := Lib.hid (below_then HB.out HB.out.size HBr.out)
     clear x_0 x_1 x_2 x_3 x_4 x_5 x_6 x_7 x_8 x_9 y_0 y_1 y_2 y_3 y_4 y_5 y_6 y_7 y_8 y_9
     obtain ⟨x_0, x_1, x_2, x_3, x_4, x_5, x_6, x_7, x_8, x_9⟩ := ten_cells K1.out
     obtain ⟨y_0, y_1, y_2, y_3, y_4, y_5, y_6, y_7, y_8, y_9⟩ := ten_cells K2.out
     by_cases hlt : i < r.imgs.length
     ·have hmx := Kd.C_max I1.out.C6
      have hlt2 : i < s.imgs.length := by have := g2_imgs.out; omega
      obtain ⟨ad, eA, p0, p1⟩ := at_T52 I1.out.C6 (i : Int) (by omega) (by omega)
      obtain ⟨bd, eB, q0, q1⟩ := at_T52 J1.out.C6 (i : Int) (by omega) (by omega)
      dsimp only at eA eB
      subst eA eB
      rw [show ((i : Int)).toNat = i from rfl] at p0 p1 q0 q1
      obtain ⟨u, Hu⟩ : ∃ u, Hid (r.imgs.getD i z52 = u) := ⟨_, Lib.hid rfl⟩
      obtain ⟨v, Hv⟩ : ∃ v, Hid (s.imgs.getD i z52 = v) := ⟨_, Lib.hid rfl⟩
      rw [show rd_T52 r.imgs (i : Int) = r.imgs.getD i z52 from rfl, Hu.out] at p0 p1
      rw [show rd_T52 s.imgs (i : Int) = s.imgs.getD i z52 from rfl, Hv.out] at q0 q1
      by_cases huv : u = v
      ·have hne : (!(u.f0 == v.f0) || (!(u.f1 == v.f1))) = false := by subst huv; simp
       replace huv := Lib.hid huv
       go_wp2
       repeat (go_quiet (fail); try go_wp2)
       go_roundw
       case rel => exact ⟨i + 1, by go_num, by omega, Lib.hid (all_next Hall.out (by rw [Hu.out, Hv.out]; exact huv.out)), Lib.hid (by (with_reducible repeat (first | apply pw_below_drewN | apply below_drew1)); exact HBr.out)⟩
       case measure => simp [intOf]; omega
      ·have hne : (!(u.f0 == v.f0) || (!(u.f1 == v.f1))) = true := by cases u; cases v; simp at huv ⊢; omega
       have G := Lib.hid huv
       clear huv
       obtain rfl : false = q := by rw [← hq.out]; exact (decide_eq_false (fun e => G.out (by rw [← Hu.out, ← Hv.out, e]))).symm
       go_wp2
       repeat (go_quiet (fail); try go_wp2)
       go_ret
       exact ⟨rfl, by (with_reducible repeat (first | apply pw_below_drewN | apply below_drew1)); exact HB1.out⟩
     ·have L_imgs := Lib.hid (list_ext g2_imgs.out (fun j hj => Hall.out j (by omega)))
      obtain rfl : i = r.imgs.length := by omega
      clear HB HI HJ BK1 BK2 Hall HBr x_0 x_1 x_2 x_3 x_4 x_5 x_6 x_7 x_8 x_9 y_0 y_1 y_2 y_3 y_4 y_5 y_6 y_7 y_8 y_9 hlt hi
      have HB := HB1
      have HI := I1
      have HJ := J1
      have BK1 := K1
      have BK2 := K2
      clear HB1 I1 J1 K1 K2
      obtain ⟨wr6, hwr⟩ : ∃ x, x = wr := ⟨_, rfl⟩
      subst hwr
      obtain ⟨x_0, x_1, x_2, x_3, x_4, x_5, x_6, x_7, x_8, x_9⟩ := ten_cells BK1.out
      obtain ⟨y_0, y_1, y_2, y_3, y_4, y_5, y_6, y_7, y_8, y_9⟩ := ten_cells BK2.out
      go_wp2
      go_loopw [7] (fun v7 wr => ∃ (i : Nat), v7 = .int .i64 (i : Int) ∧ i ≤ r.di.length ∧ Hid (∀ j, j < i → r.di.getD j z54 = s.di.getD j z54) ∧ Hid (Below wr6.heap.size wr6 wr)) (fun v7 _ => r.di.length - (match v7 with | .int _ n => n.toNat | _ => 0))
      case atStart => exact ⟨0, rfl, Nat.zero_le _, Lib.hid (fun j hj => absurd hj (Nat.not_lt_zero j)), Lib.hid (Below.refl _ _)⟩
      case round =>
       obtain ⟨i, rfl, hi, Hall, HBr⟩ := hrel
       have K1 := Lib.hid (blk_below BK1.out HBr.out)
       have K2 := Lib.hid (blk_below BK2.out HBr.out)
       have I1 := Aside0.mk (HI.out.below HBr.out)
       have J1 := Aside0.mk (HJ.out.below HBr.out)
       have HB1 := Lib.hid (below_then HB.out HB.out.size HBr.out)
       clear x_0 x_1 x_2 x_3 x_4 x_5 x_6 x_7 x_8 x_9 y_0 y_1 y_2 y_3 y_4 y_5 y_6 y_7 y_8 y_9
       obtain ⟨x_0, x_1, x_2, x_3, x_4, x_5, x_6, x_7, x_8, x_9⟩ := ten_cells K1.out
       obtain ⟨y_0, y_1, y_2, y_3, y_4, y_5, y_6, y_7, y_8, y_9⟩ := ten_cells K2.out
       by_cases hlt : i < r.di.length
       ·have hmx := Kd.C_max I1.out.C8
        have hlt2 : i < s.di.length := by have := g2_di.out; omega
        obtain ⟨ad, eA, p0, p1⟩ := at_T54 I1.out.C8 (i : Int) (by omega) (by omega)
        obtain ⟨bd, eB, q0, q1⟩ := at_T54 J1.out.C8 (i : Int) (by omega) (by omega)
        dsimp only at eA eB
        subst eA eB
        rw [show ((i : Int)).toNat = i from rfl] at p0 p1 q0 q1
        obtain ⟨u, Hu⟩ : ∃ u, Hid (r.di.getD i z54 = u) := ⟨_, Lib.hid rfl⟩
        obtain ⟨v, Hv⟩ : ∃ v, Hid (s.di.getD i z54 = v) := ⟨_, Lib.hid rfl⟩
        rw [show rd_T54 r.di (i : Int) = r.di.getD i z54 from rfl, Hu.out] at p0 p1
        rw [show rd_T54 s.di (i : Int) = s.di.getD i z54 from rfl, Hv.out] at q0 q1
        by_cases huv : u = v
        ·have hne : (!(u.f0 == v.f0) || (!(u.f1 == v.f1))) = false := by subst huv; simp
         replace huv := Lib.hid huv
         go_wp2
         repeat (go_quiet (fail); try go_wp2)
         go_roundw
         case rel => exact ⟨i + 1, by go_num, by omega, Lib.hid (all_next Hall.out (by rw [Hu.out, Hv.out]; exact huv.out)), Lib.hid (by (with_reducible repeat (first | apply pw_below_drewN | apply below_drew1)); exact HBr.out)⟩
         case measure => simp [intOf]; omega
        ·have hne : (!(u.f0 == v.f0) || (!(u.f1 == v.f1))) = true := by cases u; cases v; simp at huv ⊢; omega
         have G := Lib.hid huv
         clear huv
         obtain rfl : false = q := by rw [← hq.out]; exact (decide_eq_false (fun e => G.out (by rw [← Hu.out, ← Hv.out, e]))).symm
         go_wp2
         repeat (go_quiet (fail); try go_wp2)
         go_ret
         exact ⟨rfl, by (with_reducible repeat (first | apply pw_below_drewN | apply below_drew1)); exact HB1.out⟩
       ·have L_di := Lib.hid (list_ext g2_di.out (fun j hj => Hall.out j (by omega)))
        obtain rfl : i = r.di.length := by omega
        clear HB HI HJ BK1 BK2 Hall HBr x_0 x_1 x_2 x_3 x_4 x_5 x_6 x_7 x_8 x_9 y_0 y_1 y_2 y_3 y_4 y_5 y_6 y_7 y_8 y_9 hlt hi
        have HB := HB1
        have HI := I1
        have HJ := J1
        have BK1 := K1
        have BK2 := K2
        clear HB1 I1 J1 K1 K2
        obtain ⟨wr8, hwr⟩ : ∃ x, x = wr := ⟨_, rfl⟩
        subst hwr
        obtain ⟨x_0, x_1, x_2, x_3, x_4, x_5, x_6, x_7, x_8, x_9⟩ := ten_cells BK1.out
        obtain ⟨y_0, y_1, y_2, y_3, y_4, y_5, y_6, y_7, y_8, y_9⟩ := ten_cells BK2.out
        go_wp2
        go_loopw [8] (fun v8 wr => ∃ (i : Nat), v8 = .int .i64 (i : Int) ∧ i ≤ r.ac.length ∧ Hid (∀ j, j < i → r.ac.getD j z56 = s.ac.getD j z56) ∧ Hid (Below wr8.heap.size wr8 wr)) (fun v8 _ => r.ac.length - (match v8 with | .int _ n => n.toNat | _ => 0))
        case atStart => exact ⟨0, rfl, Nat.zero_le _, Lib.hid (fun j hj => absurd hj (Nat.not_lt_zero j)), Lib.hid (Below.refl _ _)⟩
        case round =>
         obtain ⟨i, rfl, hi, Hall, HBr⟩ := hrel
         have K1 := Lib.hid (blk_below BK1.out HBr.out)
         have K2 := Lib.hid (blk_below BK2.out HBr.out)
         have I1 := Aside0.mk (HI.out.below HBr.out)
         have J1 := Aside0.mk (HJ.out.below HBr.out)
         have HB1 := Lib.hid (below_then HB.out HB.out.size HBr.out)
         clear x_0 x_1 x_2 x_3 x_4 x_5 x_6 x_7 x_8 x_9 y_0 y_1 y_2 y_3 y_4 y_5 y_6 y_7 y_8 y_9
         obtain ⟨x_0, x_1, x_2, x_3, x_4, x_5, x_6, x_7, x_8, x_9⟩ := ten_cells K1.out
         obtain ⟨y_0, y_1, y_2, y_3, y_4, y_5, y_6, y_7, y_8, y_9⟩ := ten_cells K2.out
         by_cases hlt : i < r.ac.length
         ·have hmx := Kd.C_max I1.out.C9
          have hlt2 : i < s.ac.length := by have := g2_ac.out; omega
          obtain ⟨ad, eA, p0, p1, p2, p3⟩ := at_T56 I1.out.C9 (i : Int) (by omega) (by omega)
          obtain ⟨bd, eB, q0, q1, q2, q3⟩ := at_T56 J1.out.C9 (i : Int) (by omega) (by omega)
          dsimp only at eA eB
          subst eA eB
          rw [show ((i : Int)).toNat = i from rfl] at p0 p1 p2 p3 q0 q1 q2 q3
          obtain ⟨u, Hu⟩ : ∃ u, Hid (r.ac.getD i z56 = u) := ⟨_, Lib.hid rfl⟩
          obtain ⟨v, Hv⟩ : ∃ v, Hid (s.ac.getD i z56 = v) := ⟨_, Lib.hid rfl⟩
          rw [show rd_T56 r.ac (i : Int) = r.ac.getD i z56 from rfl, Hu.out] at p0 p1 p2 p3
          rw [show rd_T56 s.ac (i : Int) = s.ac.getD i z56 from rfl, Hv.out] at q0 q1 q2 q3
          by_cases huv : u = v
          ·have hne : (!(u.f0 == v.f0) || (!(u.f1 == v.f1) || (!(u.f2 == v.f2) || (!(u.f3 == v.f3))))) = false := by subst huv; simp
           replace huv := Lib.hid huv
           go_wp2
           repeat (go_quiet (fail); try go_wp2)
           go_roundw
           case rel => exact ⟨i + 1, by go_num, by omega, Lib.hid (all_next Hall.out (by rw [Hu.out, Hv.out]; exact huv.out)), Lib.hid (by (with_reducible repeat (first | apply pw_below_drewN | apply below_drew1)); exact HBr.out)⟩
           case measure => simp [intOf]; omega
          ·have hne : (!(u.f0 == v.f0) || (!(u.f1 == v.f1) || (!(u.f2 == v.f2) || (!(u.f3 == v.f3))))) = true := by cases u; cases v; simp at huv ⊢; omega
           have G := Lib.hid huv
           clear huv
           obtain rfl : false = q := by rw [← hq.out]; exact (decide_eq_false (fun e => G.out (by rw [← Hu.out, ← Hv.out, e]))).symm
           go_wp2
           repeat (go_quiet (fail); try go_wp2)
           go_ret
           exact ⟨rfl, by (with_reducible repeat (first | apply pw_below_drewN | apply below_drew1)); exact HB1.out⟩
         ·have L_ac := Lib.hid (list_ext g2_ac.out (fun j hj => Hall.out j (by omega)))
          obtain rfl : i = r.ac.length := by omega
          clear HB HI HJ BK1 BK2 Hall HBr x_0 x_1 x_2 x_3 x_4 x_5 x_6 x_7 x_8 x_9 y_0 y_1 y_2 y_3 y_4 y_5 y_6 y_7 y_8 y_9 hlt hi
          have HB := HB1
          have HI := I1
          have HJ := J1
          have BK1 := K1
          have BK2 := K2
          clear HB1 I1 J1 K1 K2
          obtain ⟨wr9, hwr⟩ : ∃ x, x = wr := ⟨_, rfl⟩
          subst hwr
          obtain ⟨x_0, x_1, x_2, x_3, x_4, x_5, x_6, x_7, x_8, x_9⟩ := ten_cells BK1.out
          obtain rfl : true = q := by rw [← hq.out]; exact (decide_eq_true (rec_ext g_k.out g_t.out g_p.out g_g.out g_o.out g_n.out L_args.out L_imgs.out L_di.out L_ac.out)).symm
          go_wp2
          go_ret
          exact ⟨rfl, HB.out⟩
end Go.Proofs.Ytcplblpmgajmnaa.A
namespace Go.Proofs.Ytcplblpmgajmnaa.A
open Go.RowKit Go.Proofs.YtcplblpmgajmnaaW.PrintWords Go.Proofs.YtcplblpmgajmnaaW.PrintLast Go.Proofs.YtcplblpmgajmnaaW.PrintMore
set_option linter.unusedVariables false
set_option linter.unusedSimpArgs false
theorem below_of_grown {w w1 : World} {row : Option Nat} (h : w.grownBy w1 row) (hr : ∀ b, row = some b → w.heap.size ≤ b) : Below w.heap.size w w1 :=
  ⟨h.os, h.tape, h.output, h.size, fun i hi => h.block i hi (fun e => by have := hr i e.symm; omega)⟩
theorem below_grown {w0 w w1 : World} {row : Option Nat} (h0 : Below w0.heap.size w0 w) (h : w.grownBy w1 row) (hr : ∀ b, row = some b → w0.heap.size ≤ b) : Below w0.heap.size w0 w1 :=
  below_weaken h0 (Nat.le_refl _) ⟨h.os, h.tape, h.output, h.size, fun i hi => h.block i (Nat.lt_of_lt_of_le hi h0.size) (fun e => by have := hr i e.symm; omega)⟩
theorem add_zero_j (b j : Nat) : ((⟨b, 0, none⟩ : Addr).add j) = ⟨b, j, none⟩ := by
  simp [Addr.add]
  exact fun h => h.symm
theorem two_cells (w : World) (a b : Value) (e : TypeId) : ∀ (j : Nat) u, [a, b][j]? = some u → (w.alloc (.cells #[a, b] e)).cell? ((⟨w.heap.size, 0, none⟩ : Addr).add j) = some u := by
  intro j u h
  have hb := heap_alloc_new w (.cells #[a, b] e (0, 0))
  have hc := blk_cell hb j
  rw [show ((⟨w.heap.size, 0, none⟩ : Addr).add j) = ⟨w.heap.size, j, none⟩ from add_zero_j _ _]
  rw [hc]
  simpa using h
theorem wpList_append_bytes {P : Program} (w : World) {ops : Array Oper} {rest : List Oper} {o : Oper} {a : Act} {Q : Exit → Act → World → Prop}
    (hg : o.guard = none) (s x : Operand) (t : TypeId) (hop : o.op = Op.call { callee := Callee.builtin Builtin.append, args := #[s, x], argTypes := #[t, t] })
    (base : Nat) (e : TypeId) (i : TypeInfo) (size : Nat) (h1 : P.underlying t = some (.slice e)) (h2 : P.info? e = some i) (h4 : i.size = size)
    (g k cap : Nat) (xs : List Value) (hs : a.eval s = .slice (some ⟨g, 0, none⟩) k cap) (hown : w.ownsRow base e size (.slice (some ⟨g, 0, none⟩) k cap) k xs) (ao : Option Addr) (m c : Nat) (news : List Value) (hx : a.eval x = .slice ao m c) (hn : news.length = m * size)
    (hnone : ao = none → m = 0) (hc : ∀ ad, ao = some ad → ∀ (j : Nat) u, news[j]? = some u → w.cell? (ad.add j) = some u) (h1c : ∀ u ∈ news, u.oneCell' = true) (b1 : k + m ≤ cap)
    (hK : ∀ w', w'.ownsRow base e size (.slice (some ⟨g, 0, none⟩) (k + m) cap) (k + m) (xs ++ news) → w.grownBy w' (some g) → wpList P ops Q rest (a.put o.dst (.slice (some ⟨g, 0, none⟩) (k + m) cap)) w') :
    wpList P ops Q (o :: rest) a w := by
  cases ao with
  | some ad => exact wpList_append_fits w hg s x t hop base e i size h1 h2 h4 g k cap xs hs hown ad m c news hx hn (hc ad rfl) h1c b1 hK
  | none =>
    obtain rfl := hnone rfl
    have hnews : news = [] := List.eq_nil_of_length_eq_zero (by simpa using hn)
    subst hnews
    refine wpList_plain hg fun K hK' => ?_
    have hrun : (Builtin.append_ #[t, t] o.type #[.slice (some ⟨g, 0, none⟩) k cap, .slice none 0 c]).run P w = .ok (.slice (some ⟨g, 0, none⟩) k cap) w := by
      rcases hown.2 with ⟨hv, _⟩ | ⟨g', cap', cur, hv, _, _, hnc, _⟩
      · cases hv
      · injection hv with h5 h6 h7
        subst h7
        simp [Builtin.append_, run_underlying h1, sizeOf, typeInfo, h2, Builtin.lenOf, Builtin.firstCells, hnc, storeCells]
    unfold Oper.wp
    simp [execOp, hop, resolve, invoke, builtin, hs, hx, hrun, Result.andThen]
    exact hK' _ _ (by simpa using hK w (by simpa using hown) (World.grownBy.refl _ _))
set_option maxHeartbeats 4000000 in
set_option maxRecDepth 100000 in
theorem copy_c (A : Option Addr) (c : Nat) (l : List Int) (w : World) (hr : Kd.C (Kd.int .u8) w A l.length l) (hc : l.length ≤ c) (hl : l.length ≤ 16384) :
    Calls Try.prog 11 #[.slice A l.length c] w fun e w' => ∃ g, e = .returned (.slice (some ⟨g, 0, none⟩) l.length (l.length + 2)) ∧ Kd.C (Kd.int .u8) w' (some ⟨g, 0, none⟩) (l ++ [165, 90]).length (l ++ [165, 90]) ∧ Below w.heap.size w w' := by
  obtain ⟨i05, hi05, hz5, hsz5, hb5⟩ := info_parts info5
  have hw : wrap64 ((l.length : Int) + 2) = ((l.length + 2 : Nat) : Int) := by unfold wrap64; omega
  have HR := Aside0.mk hr
  have hro : ReadsOf (Value.int .u8) (0 : Int) w A l.length l := Kd.reads_of_C (enc := Value.int .u8) (h1 := fun _ => rfl) hr
  have hcells : ∀ (w' : World), Below w.heap.size w w' → ∀ ad, A = some ad → ∀ (j : Nat) u, (l.map (Value.int .u8))[j]? = some u → w'.cell? (ad.add j) = some u := by
    intro w' hb ad e j u hu
    rw [List.getElem?_map] at hu
    cases hj : l[j]? with
    | none => rw [hj] at hu; simp at hu
    | some x =>
      rw [hj] at hu
      simp only [Option.map_some, Option.some.injEq] at hu
      obtain ⟨hlt, hx⟩ := List.getElem?_eq_some_iff.1 hj
      obtain ⟨ad', e', hcl⟩ := hro.2.2 (by omega)
      rw [e] at e'
      obtain rfl := Option.some.inj e'
      have h := hcl j hlt
      rw [List.getD_eq_getElem?_getD, hj] at h
      rw [← hu]
      exact (hb.cell (World.block_lt_of_cell? w _ h)).trans h
  have HCL := Lib.hid hcells
  have hnone : A = none → l.length = 0 ∧ c = 0 ∨ True := fun _ => .inr trivial
  have hnil : A = none → l.length = 0 := fun e => by
    rcases Nat.eq_zero_or_pos l.length with h | h
    · exact h
    · obtain ⟨ad', e', _⟩ := hro.2.2 h
      rw [e] at e'
      cases e'
  clear hr hro hcells hnone
  go_enter Try.func11, Try.ntmps11
  go_wp2_with (first
    | ((with_reducible refine gate_dst (N := 6) rfl ?_); refine wpList_make_own _ rfl _ _ 22 rfl w.heap.size 5 i05 (.int .u8 0) 1 Try.underlying22 hi05 hz5 hsz5 .i64 .i64 ((l.length + 2 : Nat) : Int) (l.length + 2) ?aL ?aC rfl ?aB ?aM (Nat.le_refl _) ?_; (case aL => go_simp); (case aC => go_simp); (case aB => rw [hb5]; omega); (case aM => unfold maxLen; omega); intro w1 ho hg; have HO := Aside0.mk ho; have HB := Aside0.mk (below_of_grown hg (by simp)); clear ho hg)
    | ((with_reducible refine gate_builtin (b := .append) (xs := #[.tmp 6, .tmp 7]) rfl ?_); at_builtin; refine wpList_append_bytes _ rfl (.tmp 6) (.tmp 7) 22 rfl w.heap.size 5 i05 1 Try.underlying22 hi05 hsz5 w.heap.size 0 (l.length + 2) [] rfl HO.out A l.length c (l.map (Value.int .u8)) rfl (by simp) hnil (HCL.out _ HB.out) (ints_oneCell .u8 l) (by omega) ?_; intro w2 ho hg; rw [Nat.zero_add, List.nil_append] at ho; have HO2 := Aside0.mk ho; have HB2 := Aside0.mk (below_grown HB.out hg (fun b e => by injection e with e; omega)); clear HO HB; have HO := HO2; have HB := HB2; clear HO2 HB2 ho hg)
    | ((with_reducible refine gate_builtin (b := .append) (xs := #[.tmp 8, .tmp 9]) rfl ?_); at_builtin; refine wpList_append_fits _ rfl (.tmp 8) (.tmp 9) 22 rfl w.heap.size 5 i05 1 Try.underlying22 hi05 hsz5 w.heap.size l.length (l.length + 2) (l.map (Value.int .u8)) rfl (HO.out.alloc _) ⟨w2.heap.size, 0, none⟩ 2 2 [.int .u8 165, .int .u8 90] rfl rfl (two_cells w2 _ _ _) (by simp [Value.oneCell']) (by omega) ?_; intro w3 ho hg; have HO2 := Aside0.mk ho; have HB2 := Aside0.mk (below_grown (below_alloc HB.out _) hg (fun b e => by injection e with e; omega)); clear HO HB; have HO := HO2; have HB := HB2; clear HO2 HB2 ho hg))
  go_ret
  refine ⟨w.heap.size, by first | rfl | (simp; done), ?_, HB.out⟩
  refine Kd.C_of_reads (enc := Value.int .u8) (d := (0 : Int)) (h1 := fun _ => rfl) ⟨rfl, by simp; omega, fun hn => ⟨⟨w.heap.size, 0, none⟩, rfl, fun j hj => ?_⟩⟩
  rw [add_zero_j, HO.out.cellAt j (by simp at hj ⊢; omega)]
  rw [show l.map (Value.int .u8) ++ [Value.int .u8 165, Value.int .u8 90] = (l ++ [165, 90]).map (Value.int .u8) by simp, List.getElem?_map, List.getD_eq_getElem?_getD, List.getElem?_eq_getElem hj]
  rfl
theorem C_front {w : World} {A : Option Addr} {l m : List Int} (h : Kd.C (Kd.int .u8) w A (l ++ m).length (l ++ m)) : Kd.C (Kd.int .u8) w A l.length l := by
  have := Kd.C_take (m := l.length) h (by simp)
  simpa using this
set_option maxHeartbeats 4000000 in
set_option maxRecDepth 100000 in
theorem kept_c (g : Nat) (A : Option Addr) (c : Nat) (l : List Int) (w : World) (hm : Kd.C (Kd.int .u8) w (some ⟨g, 0, none⟩) (l ++ [165, 90]).length (l ++ [165, 90])) (hr : Kd.C (Kd.int .u8) w A l.length l) (hc : l.length ≤ c) (hl : l.length ≤ 16384) :
    Calls Try.prog 16 #[.slice (some ⟨g, 0, none⟩) l.length (l.length + 2), .slice A l.length c] w fun e w' => e = .returned (.bool true) ∧ Below w.heap.size w w' := by
  have hcv1 := Kd.C_string (P := Try.prog) (c := l.length + 2) Try.underlying22 Try.underlying5 Try.underlying9 (C_front hm)
  have hcv2 := Kd.C_string (P := Try.prog) (c := c) Try.underlying22 Try.underlying5 Try.underlying9 hr
  have hs1 : ((strOfNums l).toList == (strOfNums l).toList) = true := beq_self_eq_true _
  have hro : ReadsOf (Value.int .u8) (0 : Int) w (some ⟨g, 0, none⟩) (l ++ [165, 90]).length (l ++ [165, 90]) := Kd.reads_of_C (enc := Value.int .u8) (h1 := fun _ => rfl) hm
  obtain ⟨ad', e', hcl⟩ := hro.2.2 (by simp)
  obtain rfl := Option.some.inj e'
  have hx0 : w.cell? ⟨g, l.length, none⟩ = some (.int .u8 165) := by
    have := hcl l.length (by simp)
    rw [add_zero_j] at this
    rw [this]
    simp
  have hx1 : w.cell? ⟨g, l.length + 1, none⟩ = some (.int .u8 90) := by
    have := hcl (l.length + 1) (by simp)
    rw [add_zero_j] at this
    rw [this]
    simp [List.getElem?_append_right]
  have hw2 : wrap64 ((l.length : Int) + 2) = (l.length : Int) + 2 := by unfold wrap64; omega
  have hw1 : wrap64 ((l.length : Int) + 1) = (l.length : Int) + 1 := by unfold wrap64; omega
  have HM := Lib.hid hm
  have HR := Lib.hid hr
  clear hm hr hro hcl e'
  go_enter Try.func16, Try.ntmps16
  go_wp2
  go_ret
  exact ⟨rfl, Below.refl _ _⟩
end Go.Proofs.Ytcplblpmgajmnaa.A
namespace Go.Proofs.Ytcplblpmgajmnaa.A
open Go.RowKit Go.Proofs.YtcplblpmgajmnaaW.PrintWords Go.Proofs.YtcplblpmgajmnaaW.PrintLast Go.Proofs.YtcplblpmgajmnaaW.PrintMore
attribute [local go_sem] max2_int min2_int max_two min_two max_three min_three max_four min_four
set_option linter.unusedVariables false
set_option linter.unusedSimpArgs false
def palimpsestnum_Num.f (a0 : Option Int) : Option (Int) := if a0.isNone = true then (some 0) else (if (a0.getD 0) = 0 then (some (-1)) else (some (a0.getD 0)))
set_option maxHeartbeats 8000000 in
set_option maxRecDepth 100000 in
theorem palimpsestnum_Num.calls (a0 : Option Int) (r : Int) (w : World) (h : palimpsestnum_Num.f a0 = some r) :
  Calls Try.prog 15 #[errW a0] w fun e w' => e = .returned (.int .i64 r) ∧ Drawn0 w w' := by
 have hu32 := Try.underlying32
 have hu44 := Try.underlying44
 have hta : ∀ (v : Value) (W : World), (Instr.typeAssert (.iface 44 v) 32 44 true).run Try.prog W = .ok (.tuple #[v, .bool true]) W := fun v W => by rfl
 have H : (if a0.isNone = true then (some 0) else (if (a0.getD 0) = 0 then (some (-1)) else (some (a0.getD 0)))) = some r := h
 clear h
 rcases a0 with _ | q434
 ·have H1 : (some 0) = some r := by rw [if_pos (show (none : Option Int).isNone = true by rfl)] at H; exact H
  clear H
  have H := H1
  clear H1
  simp only [errW_none, errW_some]
  obtain rfl := Option.some.inj H
  go_enter Try.func15, Try.ntmps15
  go_wp2
  go_ret
  exact ⟨by first | rfl | (simp; done) | (simp [*]; done), by repeat (first | exact Drawn0.refl _ | apply Drawn0.step)⟩
 ·have H1 : (if q434 = 0 then (some (-1)) else (some q434)) = some r := by rw [if_neg (show ¬ (some q434).isNone = true by simp)] at H; exact H
  clear H
  have H := H1
  clear H1
  simp only [errW_none, errW_some]
  by_cases c2 : q434 = 0
  ·rw [if_pos c2] at H
   have c2b0 : (q434 == 0) = true := beq_iff_eq.mpr c2
   have c2b1 : (q434 != 0) = false := bne_eq_false_iff_eq.mpr c2
   clear c2
   obtain rfl := Option.some.inj H
   go_enter Try.func15, Try.ntmps15
   go_wp2
   go_ret
   exact ⟨by first | rfl | (simp; done) | (simp [*]; done), by repeat (first | exact Drawn0.refl _ | apply Drawn0.step)⟩
  ·rw [if_neg c2] at H
   have c2b0 : (q434 == 0) = false := beq_eq_false_iff_ne.mpr c2
   have c2b1 : (q434 != 0) = true := bne_iff_ne.mpr c2
   obtain rfl := Option.some.inj H
   go_enter Try.func15, Try.ntmps15
   go_wp2
   go_ret
   exact ⟨by first | rfl | (simp; done) | (simp [*]; done), by repeat (first | exact Drawn0.refl _ | apply Drawn0.step)⟩
end Go.Proofs.Ytcplblpmgajmnaa.A
namespace Go.Proofs.Ytcplblpmgajmnaa.A
open Go.RowKit Go.Proofs.YtcplblpmgajmnaaW.PrintWords Go.Proofs.YtcplblpmgajmnaaW.PrintLast Go.Proofs.YtcplblpmgajmnaaW.PrintMore
set_option linter.unusedVariables false
set_option linter.unusedSimpArgs false
theorem num_r {x : Option Int} (h : x = none ∨ x = some 4) (w : World) : Calls Try.prog 15 #[errW x] w fun e w' => e = .returned (.int .i64 (x.getD 0)) ∧ Below w.heap.size w w' := by
  refine (palimpsestnum_Num.calls x (x.getD 0) w (by rcases h with rfl | rfl <;> rfl)).mono ?_
  rintro e w' ⟨rfl, ⟨nd, rfl⟩⟩
  exact ⟨rfl, pw_below_drewN (Below.refl _ _) _⟩
set_option maxHeartbeats 8000000 in
set_option maxRecDepth 100000 in
theorem reads_walk (w : World) (A1 : Option Addr) (c1 : Nat) (l : List Int) (hC : Kd.C (Kd.int .u8) w A1 l.length l) (hc : l.length ≤ c1) (hB : Bytes l) : Calls Try.prog 3 #[.slice A1 l.length c1] w fun e w' => e = .returned (.bool true) ∧ Below w.heap.size w w' := by
  have hu30 := Try.underlying30
  have hu32 := Try.underlying32
  have hu44 := Try.underlying44
  have HC := Aside0.mk hC
  have HC1 := Lib.hid hc
  have HBy := Lib.hid hB
  clear hC hc hB
  go_enter Try.func3, Try.ntmps3
  go_wp2_with fail
  refine (alive_true _).mono ?_
  rintro e w1 ⟨rfl, hb⟩
  have HB := Lib.hid hb
  replace HC := Aside0.mk (Kd.C_below HC.out hb)
  clear hb
  by_cases hm : l.length > 16384
  · have hm1 : decide (16384 < (l.length : Int)) = true := decide_eq_true (by omega)
    replace hm := Lib.hid hm
    go_wp2
    go_ret
    exact ⟨rfl, HB.out⟩
  have hm1 : decide (16384 < (l.length : Int)) = false := decide_eq_false (by omega)
  have hl : l.length ≤ 16384 := by omega
  clear hm
  go_wp2_with fail
  refine (copy_c A1 c1 l w1 HC.out HC1.out hl).mono ?_
  rintro e w2 ⟨g, rfl, hm, hb⟩
  have HM := Aside0.mk hm
  replace HC := Aside0.mk (Kd.C_below HC.out hb)
  replace HB := Lib.hid (below_then HB.out HB.out.size hb)
  clear hb hm
  obtain ⟨s, x, hd⟩ : ∃ s x, decodeF l = (s, x) := ⟨_, _, rfl⟩
  have hx : x = none ∨ x = some 4 := by
    rcases decode_cases l with h | ⟨r, _, _, h⟩
    · exact Or.inr (Prod.mk.inj (hd.symm.trans h)).2
    · exact Or.inl (Prod.mk.inj (hd.symm.trans h)).2
  have HX := Lib.hid hx
  have HD := Lib.hid hd
  clear hx hd
  go_wp2_with fail
  refine (decode_c (C_front HM.out) (show l.length ≤ l.length + 2 by omega) HBy.out HD.out).mono ?_
  rintro e w3 ⟨⟨D5, f5, D6, f6, D8, f8, D9, f9⟩, rfl, hI, hb⟩
  replace HC := Aside0.mk (Kd.C_below HC.out hb)
  replace HM := Aside0.mk (Kd.C_below HM.out hb)
  replace HB := Lib.hid (below_then HB.out HB.out.size hb)
  have HI := Aside0.mk hI
  clear hb hI
  obtain ⟨ex, Hex⟩ : ∃ ex, Hid (errW x = ex) := ⟨_, Lib.hid rfl⟩
  rw [Hex.out]
  simp only [Rec.cells]
  go_wp2_with fail
  refine (refdecode_c A1 c1 l _ (Kd.C_alloc HC.out _) HC1.out HBy.out s x ((rd_decode l).trans HD.out)).mono ?_
  rintro e w4 ⟨⟨E5, e5, E6, e6, E8, e8, E9, e9⟩, rfl, hJ, hb⟩
  have BK := Lib.hid (blk_below (heap_alloc_new w3 _) hb)
  have hb2 := below_then (below_alloc (Below.refl w3.heap.size w3) _) (by rw [World.size_alloc]; omega) hb
  replace HC := Aside0.mk (Kd.C_below HC.out hb2)
  replace HM := Aside0.mk (Kd.C_below HM.out hb2)
  replace HI := Aside0.mk (HI.out.below hb2)
  replace HB := Lib.hid (below_then HB.out HB.out.size hb2)
  have HJ := Aside0.mk hJ
  clear hb hb2 hJ
  obtain ⟨f, Hf⟩ : ∃ f, Hid (x.getD 0 = f) := ⟨_, Lib.hid rfl⟩
  rw [Hf.out]
  simp only [Rec.cells]
  have hz : w3.heap.size < w4.heap.size := blk_lt BK.out
  have hz' : ¬ w3.heap.size = w4.heap.size := by omega
  obtain ⟨d_0, d_1, d_2, d_3, d_4, d_5, d_6, d_7, d_8, d_9⟩ := ten_cells BK.out
  go_wp2_with fail
  refine (refsame_c (HI.out.alloc _) (HJ.out.alloc _)).mono ?_
  rintro e w5 ⟨rfl, hb⟩
  rw [decide_eq_true rfl]
  have hb2 := below_then (below_alloc (Below.refl w4.heap.size w4) _) (by rw [World.size_alloc]; omega) hb
  replace HC := Aside0.mk (Kd.C_below HC.out hb2)
  replace HM := Aside0.mk (Kd.C_below HM.out hb2)
  replace HB := Lib.hid (below_then HB.out HB.out.size hb2)
  clear hb hb2 BK HI HJ d_0 d_1 d_2 d_3 d_4 d_5 d_6 d_7 d_8 d_9 hz hz'
  go_wp2_with fail
  have hcn := num_r HX.out w5
  rw [Hex.out, Hf.out] at hcn
  refine hcn.mono ?_
  rintro e w6 ⟨rfl, hb⟩
  replace HC := Aside0.mk (Kd.C_below HC.out hb)
  replace HM := Aside0.mk (Kd.C_below HM.out hb)
  replace HB := Lib.hid (below_then HB.out HB.out.size hb)
  clear hb hcn
  go_wp2_with fail
  refine (kept_c g A1 c1 l w6 HM.out HC.out HC1.out hl).mono ?_
  rintro e w7 ⟨rfl, hb⟩
  replace HB := Lib.hid (below_then HB.out HB.out.size hb)
  clear hb
  go_wp2
  go_ret
  exact ⟨rfl, HB.out⟩
end Go.Proofs.Ytcplblpmgajmnaa.A
namespace Go.Proofs.Ytcplblpmgajmnaa.recordReads
open Go.ChangeShapes Go.WideShapes Go.ChangeAt Go.RowKit Go.Proofs.Ytcplblpmgajmnaa.A
open Go.ChangeMaps (open_string shut_string)
set_option linter.unusedVariables false
theorem own : ownKnob Try.prog.godebug = none := by kernel_rfl
theorem laidOut : laidOutB Try.prog = true := by kernel_rfl
set_option maxRecDepth 100000 in
theorem lifted (os : Os) (started : os.Started) (H : Type) (enc : TypeId × Value → H) :
    ReturnsInHanded {} Try.checked os 3 .any (Rows.recordReadsSpec.pre6 enc Try.prog Try.f3 Rows.recordReadsRow.domain false) (Rows.recordReadsSpec.post enc Try.prog Try.f3 false true false false) := by
  refine returnsInHanded_of_change_sized (C := Try.checked) own started (by kernel_rfl) Try.func3
    (ChangeSpec.witness6 (enc := enc) (C := Try.checked) false ⟨#[], #[.slice none 0 0], []⟩ 8 (by kernel_rfl) (by kernel_rfl) (by kernel_rfl) (by kernel_rfl)) ?_
  intro W base args ds gs before hval0 hW hcnd hsz0 _
  have hsz : (DataW.weightsEach Try.prog (Try.f3.params.toList ++ Rows.recordReadsSpec.plain.varTypes Try.prog) (ds ++ gs)).all (· ≤ reachBytes) = true := hsz0
  have hval : ∀ (j : Nat) t v, Try.f3.params[j]? = some t → args[j]? = some v → Value.okWide Try.prog W .any base t v := hval0
  have hW' := hW
  obtain ⟨p, q, hA0, hV, rfl, hfz, hnd⟩ := hW
  have hA : DataW.TrodAll enc Try.prog W 0 (fun _ => true) true Try.f3.params.toList args.toList ds p := hA0
  rw [Try.params3] at hA hval hsz
  obtain ⟨v0, vs0, d0, ds0, p0, q0, hargs, rfl, rfl, h0, r_0⟩ := trodAll_cons hA
  obtain ⟨rfl, rfl, rfl⟩ := trodAll_nil r_0
  obtain rfl : args = #[v0] := by cases args; simp_all
  obtain ⟨rfl, rfl⟩ := trodVars_none hV
  have t0 := h0
  have lt0 : ∀ x ∈ p0, x.block < W.heap.size := by obtain ⟨m, hm⟩ := t0; exact DataW.trod_lt m _ _ _ hm
  have wz0 : ∀ n ∈ d0.weights Try.prog 22, n ≤ reachBytes := fun n hn => by have := List.all_eq_true.1 hsz n (DataW.weights_mem_each (j := 0) rfl rfl n hn); simpa using this
  obtain ⟨A0, n0, l0, rfl, k0, c0, y0⟩ := open_bytes (hval 0 22 v0 rfl rfl) h0 wz0
  clear hA0 hval0 hsz0 hsz
  refine (A.reads_walk W _ _ l0 c0 k0 y0).mono fun e W' ⟨he, bel⟩ => ?_
  subst he
  exact ⟨_, rfl, _, _, _, [], _, [], hW', trodAll_mk1 (shut_bool Try.underlying4 _), (trodAll_cons_mk (Below.trod laidOut (by kernel_rfl) (of_decide_eq_true (by kernel_rfl)) t0 bel lt0) trodAll_mk0), rfl, bel.frame _, fun h => by cases h⟩
theorem over : Rows.recordReadsRow.holds Try.pinned (OpenSpec.ofChange Rows.recordReadsSpec) :=
  OpenClaim.holds_of_wide 3 Try.f3 rfl rfl rfl rfl rfl rfl rfl ⟨rfl, rfl, rfl, rfl, rfl⟩ rfl rfl rfl rfl rfl (by kernel_rfl) Try.func3 (by kernel_rfl)
    (of_decide_eq_true (by kernel_rfl)) (by unfold Func.isWrapper; first | (rw [if_pos (by decide +kernel)]; kernel_rfl) | (rw [if_neg (by decide +kernel)]; exact ⟨rfl, rfl⟩))
    (fun os started H enc _ => lifted os started H enc)
theorem proved : Rows.RecordReadsSaid := over
end Go.Proofs.Ytcplblpmgajmnaa.recordReads
namespace Go.Proofs.Ytcplblpmgajmnaa
theorem recordReads_holds : Rows.RecordReadsSaid := recordReads.proved
end Go.Proofs.Ytcplblpmgajmnaa
