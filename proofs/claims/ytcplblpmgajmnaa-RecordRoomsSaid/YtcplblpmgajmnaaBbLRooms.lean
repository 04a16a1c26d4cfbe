/-
  The law RecordRooms answers true, without a panic, at every input: the undoing of an update finds room in what is booked for it. No condition beside those of the given row.
  Joined by wip/prune.py out of: HRoom, PureG, HRooms, LRooms.
-/
import Derived.Test.YtcplblpmgajmnaaBb6
import Derived.Test.YtcplblpmgajmnaaRows
import Derived.WalkKit
import Derived.ProofKit
import Derived.OpenShut
import Derived.ShutString
import Derived.ChangeOld
import Derived.Below
import Derived.SizedLaws
namespace Go.Proofs.Ytcplblpmgajmnaa.A
open Go.RowKit Go.Proofs.YtcplblpmgajmnaaW.PrintWords Go.Proofs.YtcplblpmgajmnaaW.PrintLast Go.Proofs.YtcplblpmgajmnaaW.PrintMore
set_option linter.unusedVariables false
set_option linter.unusedSimpArgs false
def Rec.room (r : Rec) : Int := if r.enc.2 = none ∧ r.k = 1 then 64 + (r.enc.1.length : Int) else 64
theorem enc_le (r : Rec) : r.enc.1.length ≤ 4096 := by
  obtain ⟨b, x, he⟩ : ∃ b x, r.enc = (b, x) := ⟨_, _, rfl⟩
  rw [he]
  cases x with
  | none => exact (enc_some he).2.1
  | some x => obtain ⟨rfl, _⟩ := enc_err he; exact Nat.zero_le _
set_option maxHeartbeats 4000000 in
set_option maxRecDepth 100000 in
theorem room_c {r : Rec} {a : Lies} {w : World} (h : RIn w r a) (hf : r.Fits) : Calls Try.prog 24 #[.agg (r.cells a)] w fun e w' => e = .returned (.int .i64 r.room) ∧ Below w.heap.size w w' := by
  have hu30 := Try.underlying30
  have hu32 := Try.underlying32
  have hu44 := Try.underlying44
  obtain ⟨A5, c5, A6, c6, A8, c8, A9, c9⟩ := a
  have HI := Aside0.mk h
  have HF := Lib.hid hf
  clear h hf
  obtain ⟨b, x, he⟩ : ∃ b x, r.enc = (b, x) := ⟨_, _, rfl⟩
  have hle := enc_le r
  rw [he] at hle
  replace hle : b.length ≤ 4096 := hle
  have HE := Lib.hid he
  obtain ⟨R, hR⟩ : ∃ R, r.room = R := ⟨_, rfl⟩
  rw [hR]
  unfold Rec.room at hR
  rw [he] at hR
  have HR := Lib.hid hR
  clear he hR
  unfold Rec.cells
  go_enter Try.func24, Try.ntmps24
  go_wp2_with fail
  refine (enc_c (HI.out.alloc _) HF.out).mono ?_
  rintro e w1 ⟨A, c, rfl, _, _, hb⟩
  have BK := Lib.hid (blk_below (heap_alloc_new w _) hb)
  have HB := Lib.hid (below_then (below_alloc (Below.refl w.heap.size w) _) (by rw [World.size_alloc]; omega) hb)
  clear hb
  obtain ⟨d_0, d_1, d_2, d_3, d_4, d_5, d_6, d_7, d_8, d_9⟩ := ten_cells BK.out
  rw [HE.out]
  rcases x with _ | x
  · simp only [errW_none]
    by_cases hk : r.k = 1
    · have hb1 : (r.k != 1) = false := bne_eq_false_iff_eq.mpr hk
      obtain rfl := HR.out.symm.trans (if_pos ⟨rfl, hk⟩)
      clear HR
      replace hk := Lib.hid hk
      have hw : wrap64 (64 + (b.length : Int)) = 64 + (b.length : Int) := by unfold wrap64; omega
      go_wp2
      go_ret
      exact ⟨by first | rfl | (simp [hw]; done), HB.out⟩
    · have hb1 : (r.k != 1) = true := bne_iff_ne.mpr hk
      obtain rfl := HR.out.symm.trans (if_neg (fun h => hk h.2))
      clear HR
      replace hk := Lib.hid hk
      go_wp2
      go_ret
      exact ⟨rfl, HB.out⟩
  · simp only [errW_some]
    obtain rfl := HR.out.symm.trans (if_neg (fun h => by cases h.1))
    clear HR
    go_wp2
    go_ret
    exact ⟨rfl, HB.out⟩
def flen (l : List Int) : Nat := (l.flatMap enc).length
theorem flen_nil : flen [] = 0 := rfl
theorem flen_cons (x : Int) (l : List Int) : flen (x :: l) = (enc x).length + flen l := by unfold flen; rw [List.flatMap_cons, List.length_append]
theorem flen_app (l m : List Int) : flen (l ++ m) = flen l + flen m := by unfold flen; rw [List.flatMap_append, List.length_append]
theorem enc_10 {x : Int} (h : I64 x) : (enc x).length ≤ 10 := digits_len10 (zig_lt h.1 h.2)
theorem flen_10 {l : List Int} (h : ∀ x ∈ l, I64 x) : flen l ≤ 10 * l.length := by
  induction l with
  | nil => exact Nat.le_refl _
  | cons x l ih =>
    rw [flen_cons, List.length_cons]
    have h1 := enc_10 (h x (by simp))
    have h2 := ih fun y hy => h y (List.mem_cons_of_mem _ hy)
    omega
theorem bytes_len (r : Rec) : r.bytes.length = flen r.nums := rfl
end Go.Proofs.Ytcplblpmgajmnaa.A
namespace Go.Proofs.Ytcplblpmgajmnaa.A
open Go.RowKit Go.Proofs.YtcplblpmgajmnaaW.PrintWords Go.Proofs.YtcplblpmgajmnaaW.PrintLast Go.Proofs.YtcplblpmgajmnaaW.PrintMore
set_option linter.unusedVariables false
set_option linter.unusedSimpArgs false
theorem ris_len {α : Type} {num : α → Int} {z : α} {most : Int} {l : List α} (h : Ris num z most l) : (l.length : Int) ≤ max most 0 := by
  have key : ∀ i, i < l.length → (i : Int) ≤ num (l.getD i z) ∧ num (l.getD i z) < most := by
    intro i
    induction i with
    | zero => intro hi; have := h 0 hi; unfold risAt at this; exact ⟨by have := this.1; simpa using this, this.2.1⟩
    | succ i ih =>
      intro hi
      have h1 := ih (by omega)
      have h2 := h (i + 1) hi
      unfold risAt at h2
      refine ⟨?_, h2.2.1⟩
      have h3 := h2.2.2 (by omega)
      simp only [Nat.add_sub_cancel] at h3
      omega
  rcases Nat.eq_zero_or_pos l.length with h0 | h0
  · omega
  · have := key (l.length - 1) (by omega)
    omega
theorem enc_of {r : Rec} (h : r.Ok) (hl : r.bytes.length ≤ 4096) : r.enc = (r.bytes, none) := by
  unfold Rec.enc
  rw [if_pos h, if_neg (by omega)]
theorem rooms_facts {r : Rec} (hf : r.Fits) (ho : r.Ok) (hk : r.k = 1) {prev next : Int} (h0 : 0 ≤ prev) (h1 : 0 ≤ next) (i0 : I64 prev) (i1 : I64 next) :
    ∃ b0 b1 b2 b3 : List Int, r.enc = (b0, none) ∧ (Rec.mk 2 r.t prev r.g r.o r.args [] next [] []).enc = (b1, none) ∧ (Rec.mk 2 r.t prev r.g 0 [] r.imgs next [] []).enc = (b2, none) ∧ (Rec.mk 4 r.t prev 0 0 [] [] 0 [] []).enc = (b3, none) ∧
      b0.length ≤ 4096 ∧ b1.length ≤ b0.length + 20 ∧ b2.length ≤ b0.length + 20 ∧ b3.length ≤ 21 := by
  obtain ⟨k, t, p, g, o, args, imgs, n, di, ac⟩ := r
  simp only at hk
  subst hk
  have hn := hf.nums_fits
  rcases ho with ⟨_, ⟨ht, hp, ⟨hg0, hg1, ho0, ho1, ha, hi⟩, hop⟩, he⟩ | ⟨h, _⟩ | ⟨h, _⟩ | ⟨h, _⟩
  · simp only at he ht hp hg0 hg1 ho0 ho1 ha hi hop
    obtain ⟨rfl, rfl, rfl⟩ := he
    rw [if_neg (by decide)] at hop
    have il := ris_len hi
    have ft : I64 t := hf.t
    have lt := enc_10 ft
    have lp := enc_10 i0
    have ln := enc_10 i1
    have e1 : (enc 1).length = 1 := by unfold enc; rw [show zig 1 = 2 by decide, digits_lt (by decide)]; rfl
    have e2 : (enc 2).length = 1 := by unfold enc; rw [show zig 2 = 4 by decide, digits_lt (by decide)]; rfl
    have e4 : (enc 4).length = 1 := by unfold enc; rw [show zig 4 = 8 by decide, digits_lt (by decide)]; rfl
    have e0 : (enc 0).length = 1 := by unfold enc; rw [show zig 0 = 0 by decide, digits_lt (by decide)]; rfl
    have q1 : (Rec.mk 1 t p g o args imgs 0 [] []).bytes.length = 1 + (enc t).length + (enc p).length + (enc g).length + (enc o).length + (enc (args.length : Int)).length + flen args + (enc (imgs.length : Int)).length + flen (imgNums imgs) := by
      rw [bytes_len]; simp [Rec.nums, Rec.body, flen_cons, flen_app, flen_nil, e1]; omega
    have q2 : (Rec.mk 2 t prev g o args [] next [] []).bytes.length = 1 + (enc t).length + (enc prev).length + (enc next).length + (enc g).length + (enc o).length + (enc (args.length : Int)).length + flen args + 1 := by
      rw [bytes_len]; simp [Rec.nums, Rec.body, flen_cons, flen_app, flen_nil, e2, e0, imgNums]; omega
    have q3 : (Rec.mk 2 t prev g 0 [] imgs next [] []).bytes.length = 1 + (enc t).length + (enc prev).length + (enc next).length + (enc g).length + 1 + 1 + (enc (imgs.length : Int)).length + flen (imgNums imgs) := by
      rw [bytes_len]; simp [Rec.nums, Rec.body, flen_cons, flen_app, flen_nil, e2, e0]; omega
    have q4 : (Rec.mk 4 t prev 0 0 [] [] 0 [] []).bytes.length = 1 + (enc t).length + (enc prev).length := by
      rw [bytes_len]; simp [Rec.nums, flen_cons, flen_nil, e4]; omega
    have po := enc_pos o
    have pa := enc_pos (args.length : Int)
    have pi := enc_pos (imgs.length : Int)
    have pp := enc_pos p
    have hlen : (Rec.mk 1 t p g o args imgs 0 [] []).bytes.length ≤ 1500 := by
      rw [bytes_len]
      have := flen_10 hn
      have hnl : (Rec.mk 1 t p g o args imgs 0 [] []).nums.length = 7 + args.length + 2 * imgs.length := by
        simp [Rec.nums, Rec.body, imgNums_len]; omega
      omega
    have o0 : (Rec.mk 1 t p g o args imgs 0 [] []).Ok := .inl ⟨rfl, ⟨ht, hp, ⟨hg0, hg1, ho0, ho1, ha, hi⟩, by rw [if_neg (by decide)]; exact hop⟩, rfl, rfl, rfl⟩
    have rn : Ris (fun x : S52 => x.f0) z52 60 [] := fun i hi => by simp at hi
    have o1 : (Rec.mk 2 t prev g o args [] next [] []).Ok := .inr (.inl ⟨rfl, ⟨ht, h0, h1, .inr ⟨⟨hg0, hg1, ho0, ho1, ha, rn⟩, by rw [if_pos rfl]; exact .inl ⟨hop, rfl⟩⟩⟩, rfl, rfl⟩)
    have o2 : (Rec.mk 2 t prev g 0 [] imgs next [] []).Ok := .inr (.inl ⟨rfl, ⟨ht, h0, h1, .inr ⟨⟨hg0, hg1, Int.le_refl 0, show (0 : Int) ≤ 16 by decide, by simp, hi⟩, by rw [if_pos rfl]; exact .inr ⟨rfl, rfl⟩⟩⟩, rfl, rfl⟩)
    have o3 : (Rec.mk 4 t prev 0 0 [] [] 0 [] []).Ok := .inr (.inr (.inl ⟨.inr rfl, ⟨ht, h0⟩, rfl, rfl, rfl, rfl, rfl, rfl, rfl⟩))
    dsimp only
    refine ⟨_, _, _, _, enc_of o0 (by omega), enc_of o1 (by omega), enc_of o2 (by omega), enc_of o3 (by omega), by omega, by omega, by omega, by omega⟩
  · exact absurd (show (1 : Int) = 2 from h) (by decide)
  · exact absurd (show (1 : Int) = 3 ∨ (1 : Int) = 4 from h) (by decide)
  · exact absurd (show (1 : Int) = 5 from h) (by decide)
end Go.Proofs.Ytcplblpmgajmnaa.A
namespace Go.Proofs.Ytcplblpmgajmnaa.A
open Go.RowKit Go.Proofs.YtcplblpmgajmnaaW.PrintWords Go.Proofs.YtcplblpmgajmnaaW.PrintLast Go.Proofs.YtcplblpmgajmnaaW.PrintMore
set_option linter.unusedVariables false
set_option linter.unusedSimpArgs false
theorem two_i64 : I64 2 := ⟨by decide, by decide⟩
theorem four_i64 : I64 4 := ⟨by decide, by decide⟩
theorem RIn.onlyArgs {w : World} {r : Rec} {a : Lies} (h : RIn w r a) (k t p g o n : Int) : RIn w (Rec.mk k t p g o r.args [] n [] []) ⟨a.A5, a.c5, none, 0, none, 0, none, 0⟩ := ⟨h.C5, h.L5, Kd.C_nil _ _, Nat.le_refl _, Kd.C_nil _ _, Nat.le_refl _, Kd.C_nil _ _, Nat.le_refl _⟩
theorem RIn.onlyImgs {w : World} {r : Rec} {a : Lies} (h : RIn w r a) (k t p g o n : Int) : RIn w (Rec.mk k t p g o [] r.imgs n [] []) ⟨none, 0, a.A6, a.c6, none, 0, none, 0⟩ := ⟨Kd.C_nil _ _, Nat.le_refl _, h.C6, h.L6, Kd.C_nil _ _, Nat.le_refl _, Kd.C_nil _ _, Nat.le_refl _⟩
theorem RIn.empty (w : World) (k t p g o n : Int) : RIn w (Rec.mk k t p g o [] [] n [] []) ⟨none, 0, none, 0, none, 0, none, 0⟩ := ⟨Kd.C_nil _ _, Nat.le_refl _, Kd.C_nil _ _, Nat.le_refl _, Kd.C_nil _ _, Nat.le_refl _, Kd.C_nil _ _, Nat.le_refl _⟩
theorem two_new {w w1 : World} {a b : Obj} (hb : Below ((w.alloc a).alloc b).heap.size ((w.alloc a).alloc b) w1) : w1.heap[w.heap.size + 1]? = some b ∧ Below w.heap.size w w1 := by
  have h2 := heap_alloc_new (w.alloc a) b
  rw [World.size_alloc] at h2
  exact ⟨blk_below h2 hb, below_then (below_alloc (below_alloc (Below.refl _ _) a) b) (by rw [World.size_alloc, World.size_alloc]; omega) hb⟩
set_option maxHeartbeats 8000000 in
set_option maxRecDepth 100000 in
theorem rooms_walk (w : World) (r : Rec) (a : Lies) (prev next : Int) (h : RIn w r a) (hw : r.Wide) (hp : I64 prev) (hn : I64 next) : Calls Try.prog 9 #[.agg (r.cells a), .int .i64 prev, .int .i64 next] w fun e w' => e = .returned (.bool true) ∧ Below w.heap.size w w' := by
  have hu30 := Try.underlying30
  have hu32 := Try.underlying32
  have hu44 := Try.underlying44
  obtain ⟨A5, c5, A6, c6, A8, c8, A9, c9⟩ := a
  have HI := Aside0.mk h
  have HW := Lib.hid hw
  have HP := Lib.hid hp
  have HN := Lib.hid hn
  clear h hw hp hn
  unfold Rec.cells
  go_enter Try.func9, Try.ntmps9
  go_wp2_with fail
  refine (alive_true _).mono ?_
  rintro e w1 ⟨rfl, hb⟩
  have BK := Lib.hid (blk_below (heap_alloc_new w _) hb)
  have HB := Lib.hid (below_then (below_alloc (Below.refl w.heap.size w) _) (by rw [World.size_alloc]; omega) hb)
  replace HI := Aside0.mk (HI.out.below HB.out)
  clear hb
  obtain ⟨d_0, d_1, d_2, d_3, d_4, d_5, d_6, d_7, d_8, d_9⟩ := ten_cells BK.out
  go_wp2_with fail
  refine (large_c HI.out HW.out).mono ?_
  rintro e w2 ⟨rfl, hb⟩
  replace BK := Lib.hid (blk_below BK.out hb)
  replace HI := Aside0.mk (HI.out.below hb)
  replace HB := Lib.hid (below_then HB.out HB.out.size hb)
  clear hb d_0 d_1 d_2 d_3 d_4 d_5 d_6 d_7 d_8 d_9
  obtain ⟨d_0, d_1, d_2, d_3, d_4, d_5, d_6, d_7, d_8, d_9⟩ := ten_cells BK.out
  by_cases hl : r.many > 3000
  · rw [decide_eq_true hl]
    have HL := Lib.hid hl
    clear hl
    go_wp2
    go_ret
    exact ⟨rfl, HB.out⟩
  rw [decide_eq_false hl]
  have HF := Lib.hid (HW.out.fits hl)
  clear hl
  by_cases q0 : prev < 0
  · have b0 : decide (prev < 0) = true := decide_eq_true q0
    replace q0 := Lib.hid q0
    go_wp2
    go_ret
    exact ⟨rfl, HB.out⟩
  have b0 : decide (prev < 0) = false := decide_eq_false q0
  replace q0 := Lib.hid q0
  by_cases q1 : next < 0
  · have b1 : decide (next < 0) = true := decide_eq_true q1
    replace q1 := Lib.hid q1
    go_wp2
    go_ret
    exact ⟨rfl, HB.out⟩
  have b1 : decide (next < 0) = false := decide_eq_false q1
  replace q1 := Lib.hid q1
  by_cases hk : r.k = 1
  · have b2 : (r.k != 1) = false := bne_eq_false_iff_eq.mpr hk
    replace hk := Lib.hid hk
    go_wp2_with fail
    refine (check_c HI.out).mono ?_
    rintro e w3 ⟨rfl, hb⟩
    replace BK := Lib.hid (blk_below BK.out hb)
    replace HI := Aside0.mk (HI.out.below hb)
    replace HB := Lib.hid (below_then HB.out HB.out.size hb)
    clear hb d_0 d_1 d_2 d_3 d_4 d_5 d_6 d_7 d_8 d_9
    by_cases ho : r.Ok
    · rw [if_pos ho]
      obtain ⟨x0, x1, x2, x3, f0, f1, f2, f3, l0, l1, l2, l3⟩ := rooms_facts HF.out ho hk.out (by have := q0.out; omega) (by have := q1.out; omega) HP.out HN.out
      have hroom : r.room = 64 + (x0.length : Int) := by unfold Rec.room; rw [f0]; exact if_pos ⟨rfl, hk.out⟩
      replace f1 := Lib.hid f1
      replace f2 := Lib.hid f2
      replace f3 := Lib.hid f3
      clear f0
      replace hroom := Lib.hid hroom
      have hr2 : wrap64 (64 + (x0.length : Int) - 2) = 62 + (x0.length : Int) := by unfold wrap64; omega
      have t1 : decide ((x1.length : Int) ≤ 62 + (x0.length : Int)) = true := decide_eq_true (by omega)
      have t2 : decide ((x2.length : Int) ≤ 62 + (x0.length : Int)) = true := decide_eq_true (by omega)
      have t3 : decide (wrap64 (wrap64 (2 * (x3.length : Int)) + 2) ≤ 62 + (x0.length : Int)) = true := decide_eq_true (by unfold wrap64; omega)
      have HT := Lib.hid (And.intro hr2 (And.intro t1 (And.intro t2 t3)))
      clear hr2 t1 t2 t3 l0 l1 l2 l3
      replace ho := Lib.hid ho
      simp only [errW_none]
      obtain ⟨d_0, d_1, d_2, d_3, d_4, d_5, d_6, d_7, d_8, d_9⟩ := ten_cells BK.out
      have hz : w.heap.size < w3.heap.size := blk_lt BK.out
      have hz' : ¬ w.heap.size = w3.heap.size := by omega
      go_wp2_with fail
      have hF := HF.out
      refine (enc_c ((HI.out.onlyArgs 2 r.t prev r.g r.o next).below (below_alloc (below_alloc (Below.refl w3.heap.size w3) _) _)) { k := two_i64, t := hF.t, p := HP.out, g := hF.g, o := hF.o, n := HN.out, args := hF.args, imgs := by simp, di := by simp, ac := by simp, largs := hF.largs, limgs := by simp, ldi := by simp, lac := by simp }).mono ?_
      rintro e w4 ⟨Aa, ca, rfl, _, _, hb⟩
      rw [f1.out]
      obtain ⟨k2, hb2⟩ := two_new hb
      have BKv := Lib.hid k2
      replace BK := Lib.hid (blk_below BK.out hb2)
      replace HI := Aside0.mk (HI.out.below hb2)
      replace HB := Lib.hid (below_then HB.out HB.out.size hb2)
      clear hb hb2 k2 d_0 d_1 d_2 d_3 d_4 d_5 d_6 d_7 d_8 d_9 hz hz'
      obtain ⟨d_0, d_1, d_2, d_3, d_4, d_5, d_6, d_7, d_8, d_9⟩ := ten_cells BKv.out
      simp only [errW_none]
      replace hF := Lib.hid hF
      go_wp2_with fail
      refine (enc_c (HI.out.onlyImgs 2 r.t prev r.g 0 next) { k := two_i64, t := hF.out.t, p := HP.out, g := hF.out.g, o := zero_i64, n := HN.out, args := by simp, imgs := hF.out.imgs, di := by simp, ac := by simp, largs := by simp, limgs := hF.out.limgs, ldi := by simp, lac := by simp }).mono ?_
      rintro e w5 ⟨Ab, cb, rfl, _, _, hb⟩
      rw [f2.out]
      replace BK := Lib.hid (blk_below BK.out hb)
      replace HI := Aside0.mk (HI.out.below hb)
      replace HB := Lib.hid (below_then HB.out HB.out.size hb)
      clear hb BKv d_0 d_1 d_2 d_3 d_4 d_5 d_6 d_7 d_8 d_9
      obtain ⟨d_0, d_1, d_2, d_3, d_4, d_5, d_6, d_7, d_8, d_9⟩ := ten_cells BK.out
      simp only [errW_none]
      go_wp2_with fail
      refine (enc_c (RIn.empty w5 4 r.t prev 0 0 0) { k := four_i64, t := hF.out.t, p := HP.out, g := zero_i64, o := zero_i64, n := zero_i64, args := by simp, imgs := by simp, di := by simp, ac := by simp, largs := by simp, limgs := by simp, ldi := by simp, lac := by simp }).mono ?_
      rintro e w6 ⟨Ac, cc, rfl, _, _, hb⟩
      rw [f3.out]
      replace BK := Lib.hid (blk_below BK.out hb)
      replace HI := Aside0.mk (HI.out.below hb)
      replace HB := Lib.hid (below_then HB.out HB.out.size hb)
      clear hb d_0 d_1 d_2 d_3 d_4 d_5 d_6 d_7 d_8 d_9
      obtain ⟨d_0, d_1, d_2, d_3, d_4, d_5, d_6, d_7, d_8, d_9⟩ := ten_cells BK.out
      simp only [errW_none]
      go_wp2_with fail
      refine (room_c HI.out hF.out).mono ?_
      rintro e w7 ⟨rfl, hb⟩
      rw [hroom.out]
      replace HB := Lib.hid (below_then HB.out HB.out.size hb)
      clear hb d_0 d_1 d_2 d_3 d_4 d_5 d_6 d_7 d_8 d_9
      obtain ⟨hr2, t1, t2, t3⟩ := HT.out
      go_wp2
      go_ret
      exact ⟨rfl, HB.out⟩
    · rw [if_neg ho]
      replace ho := Lib.hid ho
      simp only [errW_some]
      go_wp2
      go_ret
      exact ⟨rfl, HB.out⟩
  · have b2 : (r.k != 1) = true := bne_iff_ne.mpr hk
    replace hk := Lib.hid hk
    go_wp2
    go_ret
    exact ⟨rfl, HB.out⟩
end Go.Proofs.Ytcplblpmgajmnaa.A
namespace Go.Proofs.Ytcplblpmgajmnaa.recordRooms
open Go.ChangeShapes Go.WideShapes Go.ChangeAt Go.RowKit Go.Proofs.Ytcplblpmgajmnaa.A
open Go.ChangeMaps (open_string shut_string)
set_option linter.unusedVariables false
theorem own : ownKnob Try.prog.godebug = none := by kernel_rfl
theorem laidOut : laidOutB Try.prog = true := by kernel_rfl
set_option maxRecDepth 100000 in
theorem lifted (os : Os) (started : os.Started) (H : Type) (enc : TypeId × Value → H) :
    ReturnsInHanded {} Try.checked os 9 .any (Rows.recordRoomsSpec.pre6 enc Try.prog Try.f9 Rows.recordRoomsRow.domain false) (Rows.recordRoomsSpec.post enc Try.prog Try.f9 false true false false) := by
  refine returnsInHanded_of_change_sized (C := Try.checked) own started (by kernel_rfl) Try.func9
    (ChangeSpec.witness6 (enc := enc) (C := Try.checked) false ⟨#[], #[.agg #[.int .i64 0, .int .i64 0, .int .i64 0, .int .i64 0, .int .i64 0, .slice none 0 0, .slice none 0 0, .int .i64 0, .slice none 0 0, .slice none 0 0], .int .i64 0, .int .i64 0], []⟩ 8 (by kernel_rfl) (by kernel_rfl) (by kernel_rfl) (by kernel_rfl)) ?_
  intro W base args ds gs before hval0 hW hcnd hsz0 _
  have hsz : (DataW.weightsEach Try.prog (Try.f9.params.toList ++ Rows.recordRoomsSpec.plain.varTypes Try.prog) (ds ++ gs)).all (· ≤ reachBytes) = true := hsz0
  have hval : ∀ (j : Nat) t v, Try.f9.params[j]? = some t → args[j]? = some v → Value.okWide Try.prog W .any base t v := hval0
  have hW' := hW
  obtain ⟨p, q, hA0, hV, rfl, hfz, hnd⟩ := hW
  have hA : DataW.TrodAll enc Try.prog W 0 (fun _ => true) true Try.f9.params.toList args.toList ds p := hA0
  rw [Try.params9] at hA hval hsz
  obtain ⟨v0, vs0, d0, ds0, p0, q0, hargs, rfl, rfl, h0, r_0⟩ := trodAll_cons hA
  obtain ⟨v1, vs1, d1, ds1, p1, q1, rfl, rfl, rfl, h1, r_1⟩ := trodAll_cons r_0
  obtain ⟨v2, vs2, d2, ds2, p2, q2, rfl, rfl, rfl, h2, r_2⟩ := trodAll_cons r_1
  obtain ⟨rfl, rfl, rfl⟩ := trodAll_nil r_2
  obtain rfl : args = #[v0, v1, v2] := by cases args; simp_all
  obtain ⟨rfl, rfl⟩ := trodVars_none hV
  have t0 := h0
  have lt0 : ∀ x ∈ p0, x.block < W.heap.size := by obtain ⟨m, hm⟩ := t0; exact DataW.trod_lt m _ _ _ hm
  have wz0 : ∀ n ∈ d0.weights Try.prog 30, n ≤ reachBytes := fun n hn => by have := List.all_eq_true.1 hsz n (DataW.weights_mem_each (j := 0) rfl rfl n hn); simpa using this
  obtain ⟨r0, b0, rfl, i0, g0⟩ := open_record (hval 0 30 v0 rfl rfl) h0 wz0
  obtain ⟨a1, rfl, rfl, rfl, w1⟩ := open_int Try.underlying3 (hval 1 3 v1 rfl rfl) h1
  obtain ⟨a2, rfl, rfl, rfl, w2⟩ := open_int Try.underlying3 (hval 2 3 v2 rfl rfl) h2
  clear hA0 hval0 hsz0 hsz
  refine (A.rooms_walk W r0 b0 a1 a2 i0 g0 (i64_wf w1) (i64_wf w2)).mono fun e W' ⟨he, bel⟩ => ?_
  subst he
  exact ⟨_, rfl, _, _, _, [], _, [], hW', trodAll_mk1 (shut_bool Try.underlying4 _), (trodAll_cons_mk (Below.trod laidOut (by kernel_rfl) (of_decide_eq_true (by kernel_rfl)) t0 bel lt0) (trodAll_cons_mk (shut_int Try.underlying3 w1) (trodAll_cons_mk (shut_int Try.underlying3 w2) trodAll_mk0))), rfl, bel.frame _, fun h => by cases h⟩
theorem over : Rows.recordRoomsRow.holds Try.pinned (OpenSpec.ofChange Rows.recordRoomsSpec) :=
  OpenClaim.holds_of_wide 9 Try.f9 rfl rfl rfl rfl rfl rfl rfl ⟨rfl, rfl, rfl, rfl, rfl⟩ rfl rfl rfl rfl rfl (by kernel_rfl) Try.func9 (by kernel_rfl)
    (of_decide_eq_true (by kernel_rfl)) (by unfold Func.isWrapper; first | (rw [if_pos (by decide +kernel)]; kernel_rfl) | (rw [if_neg (by decide +kernel)]; exact ⟨rfl, rfl⟩))
    (fun os started H enc _ => lifted os started H enc)
theorem proved : Rows.RecordRoomsSaid := over
end Go.Proofs.Ytcplblpmgajmnaa.recordRooms
namespace Go.Proofs.Ytcplblpmgajmnaa
theorem recordRooms_holds : Rows.RecordRoomsSaid := recordRooms.proved
end Go.Proofs.Ytcplblpmgajmnaa
