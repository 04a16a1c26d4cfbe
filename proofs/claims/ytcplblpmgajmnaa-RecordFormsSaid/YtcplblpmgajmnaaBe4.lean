/-
  Joined by wip/prune.py out of: HNum, AxF26, PureE, AxF39, HNumbers, PureF, AxF27, HDecode, HAlive, AxF17, HIn.
-/
import Derived.Test.YtcplblpmgajmnaaBe3
import Derived.Lib.Hide
namespace Go.Proofs.Ytcplblpmgajmnaa.A
open Go.RowKit Go.Proofs.YtcplblpmgajmnaaW.PrintWords Go.Proofs.YtcplblpmgajmnaaW.PrintLast Go.Proofs.YtcplblpmgajmnaaW.PrintMore
attribute [local go_sem] max2_int min2_int max_two min_two max_three min_three max_four min_four
set_option linter.unusedVariables false
set_option linter.unusedSimpArgs false
structure View where
  A : Option Addr
  c : Nat
  l : List Int
def VOK (w0 : World) (v : View) : Prop := Kd.C (Kd.int .i64) w0 v.A v.l.length v.l ∧ v.l.length ≤ v.c
def IsS66 (w0 W : World) (g : Nat) (f0 : View) : Prop := W.heap[g]? = some (.cells #[.slice f0.A f0.l.length f0.c] 66 (0, 0)) ∧ w0.heap.size ≤ g ∧ VOK w0 f0
theorem IsS66.grown {w0 W : World} {g : Nat} {f0 : View} {W1 : World} {row : Option Nat} (h : IsS66 w0 W g f0) (hw : W.grownBy W1 row) (hne : some g ≠ row) : IsS66 w0 W1 g f0 := by
  obtain ⟨hb, hg, hv0⟩ := h
  exact ⟨blk_grown hb hw hne, hg, hv0⟩
theorem IsS66.kept {w0 W : World} {g : Nat} {f0 : View} {W1 : World} {S : Nat → Prop} (h : IsS66 w0 W g f0) (hk : Kept W W1 S) (hne : ¬ S g) : IsS66 w0 W1 g f0 := by
  obtain ⟨hb, hg, hv0⟩ := h
  exact ⟨blk_kept hb hk hne, hg, hv0⟩
theorem IsS66.below {w0 W : World} {g : Nat} {f0 : View} {W1 : World} (h : IsS66 w0 W g f0) (hw : Below W.heap.size W W1) : IsS66 w0 W1 g f0 := h.grown (grown_of_below hw none) (by simp)
theorem IsS66.alloc {w0 W : World} {g : Nat} {f0 : View} (h : IsS66 w0 W g f0) (o : Obj) : IsS66 w0 (W.alloc o) g f0 := h.below (below_alloc (Below.refl _ _) o)
theorem IsS66.drewN {w0 W : World} {g : Nat} {f0 : View} (h : IsS66 w0 W g f0) (m : Nat) : IsS66 w0 (W.drewN m) g f0 := h
theorem IsS66.drew {w0 W : World} {g : Nat} {f0 : View} (h : IsS66 w0 W g f0) : IsS66 w0 W.drew g f0 := h
theorem IsS66.at_ {w0 W : World} {g : Nat} {f0 : View} {w' : World} {m : Nat} (hq : W.drewN m = w') (h : IsS66 w0 W g f0) : IsS66 w0 w' g f0 := by subst hq; exact IsS66.drewN h m
theorem IsS66.apart {w0 W : World} {g : Nat} {f0 : View} {α : Type} {d : Kd α} {e : Nat} {base : Nat} {ok : Nat → Prop} {v : Value} {xs : List α} (h : IsS66 w0 W g f0) (ho : d.R e W base ok v xs) (ht : ∀ q, q ∈ e :: d.E → q ≠ 66) : d.R e W base (fun k => ok k ∧ k ≠ g) v xs := by
  obtain ⟨hb, hg, hv0⟩ := h
  exact Kd.R_types ho hb ht
theorem IsS66.own_ne {w0 W : World} {g : Nat} {f0 : View} {α : Type} {d : Kd α} {e : Nat} {base : Nat} {ok : Nat → Prop} {v : Value} {xs : List α} (h : IsS66 w0 W g f0) (ho : d.R e W base ok v xs) (ht : e ≠ 66) : some g ≠ v.ownBlock := by
  obtain ⟨hb, hg, hv0⟩ := h
  exact Kd.R_ne ho hb ht
theorem IsS66.lt {w0 W : World} {g : Nat} {f0 : View} (h : IsS66 w0 W g f0) : g < W.heap.size := by
  obtain ⟨hb, hg, hv0⟩ := h
  exact blk_lt hb
theorem IsS66.ge {w0 W : World} {g : Nat} {f0 : View} (h : IsS66 w0 W g f0) : w0.heap.size ≤ g := by
  obtain ⟨hb, hg, hv0⟩ := h
  exact hg
theorem IsS66.far {w0 W : World} {g : Nat} {f0 : View} {p : Addr} (h : IsS66 w0 W g f0) (hne : g ≠ p.block) (u : Value) : IsS66 w0 (W.setCell p u) g f0 := by
  obtain ⟨hb, hg, hv0⟩ := h
  exact ⟨blk_far hb hne u, hg, hv0⟩
theorem cellS66_0 {W : World} {g : Nat} {f0 : View} (h : W.heap[g]? = some (.cells #[.slice f0.A f0.l.length f0.c] 66 (0, 0))) : W.cell? ⟨g, 0, none⟩ = some (.slice f0.A f0.l.length f0.c) := (blk_cell h 0).trans rfl
theorem IsS66.set_0 {w0 W : World} {g : Nat} {f0 : View} (h : IsS66 w0 W g f0) (x : View) (hx : VOK w0 x) : IsS66 w0 (W.setCell ⟨g, 0, none⟩ (.slice x.A x.l.length x.c)) g x := by
  obtain ⟨hb, hg, hv0⟩ := h
  exact ⟨by simpa using blk_set hb 0 (.slice x.A x.l.length x.c), hg, hx⟩
def View.tail (v : View) : View := ⟨if v.c = 1 then v.A else v.A.map fun a => a.add 1, v.c - 1, v.l.tail⟩
theorem VOK.tail {w0 : World} {v : View} (h : VOK w0 v) (hn : v.l ≠ []) : VOK w0 v.tail := by
  obtain ⟨A, c, l⟩ := v
  cases l with
  | nil => exact absurd rfl hn
  | cons x l =>
    obtain ⟨h1, h2⟩ := h
    have h3 := Kd.C_drop (m := 1) h1 (by simp) h2
    simp only [List.length_cons] at h2
    refine ⟨?_, by simp [View.tail]; omega⟩
    exact h3
def record_reader_num.f (s0_0 : View) : Option (Int × View) := some (if s0_0.l = [] then (0, s0_0) else (s0_0.l.headD 0, s0_0.tail))
set_option maxHeartbeats 400000 in
theorem num_nil (g : Nat) (A : Option Addr) (c : Nat) (w : World) (hb : w.heap[g]? = some (.cells #[.slice A 0 c] 66 (0, 0))) :
    Calls Try.prog 40 #[.pointer (some ⟨g, 0, none⟩)] w fun e w' => e = .returned (.int .i64 0) ∧ w = w' := by
  have hc : w.cell? ⟨g, 0, none⟩ = some (.slice A 0 c) := (blk_cell hb 0).trans rfl
  have hf := blk_frozen hb 0
  clear hb
  go_enter Try.func40, Try.ntmps40
  go_wp2
  go_ret
  exact ⟨rfl, rfl⟩
set_option maxHeartbeats 400000 in
theorem num_one (g : Nat) (ad : Addr) (x : Int) (w : World) (hb : w.heap[g]? = some (.cells #[.slice (some ad) 1 1] 66 (0, 0))) (hx : w.cell? ad = some (.int .i64 x)) (hne : ad.block ≠ g) :
    Calls Try.prog 40 #[.pointer (some ⟨g, 0, none⟩)] w fun e w' => e = .returned (.int .i64 x) ∧ w' = w.setCell ⟨g, 0, none⟩ (.slice (some ad) 0 0) := by
  have hc : w.cell? ⟨g, 0, none⟩ = some (.slice (some ad) 1 1) := (blk_cell hb 0).trans rfl
  have hf := blk_frozen hb 0
  clear hb
  go_enter Try.func40, Try.ntmps40
  go_wp2
  go_ret
  exact ⟨rfl, rfl⟩
set_option maxHeartbeats 400000 in
theorem num_cons (g : Nat) (ad : Addr) (n c : Nat) (x : Int) (w : World) (hm : n + 1 ≤ 9223372036854775807) (hb : w.heap[g]? = some (.cells #[.slice (some ad) (n + 1) c] 66 (0, 0))) (hx : w.cell? ad = some (.int .i64 x)) (hnc : n + 1 ≤ c) (h1 : ¬ c = 1) (hne : ad.block ≠ g) :
    Calls Try.prog 40 #[.pointer (some ⟨g, 0, none⟩)] w fun e w' => e = .returned (.int .i64 x) ∧ w' = w.setCell ⟨g, 0, none⟩ (.slice (some (ad.add 1)) n (c - 1)) := by
  have hc : w.cell? ⟨g, 0, none⟩ = some (.slice (some ad) (n + 1) c) := (blk_cell hb 0).trans rfl
  have hf := blk_frozen hb 0
  clear hb
  go_enter Try.func40, Try.ntmps40
  go_wp2
  go_ret
  exact ⟨rfl, rfl⟩
theorem keep_set_self (w : World) (g j : Nat) (u : Value) : KeepBut w (w.setCell ⟨g, j, none⟩ u) g none := KeepBut.set_ (KeepBut.refl w g none) j u
theorem record_reader_num.calls (g : Nat) (s0_0 : View) (r1 : Int) (r2 : View) (w0 w : World) (hI : IsS66 w0 w g s0_0) (hB : Below w0.heap.size w0 w) (h : record_reader_num.f s0_0 = some (r1, r2)) :
    Calls Try.prog 40 #[.pointer (some ⟨g, 0, none⟩)] w fun e w' => e = .returned (.int .i64 r1) ∧ IsS66 w0 w' g r2 ∧ Below w0.heap.size w0 w' ∧ KeepBut w w' g none := by
  have hI' := hI
  obtain ⟨hb, hg, hv⟩ := hI'
  obtain ⟨A, c, l⟩ := s0_0
  cases l with
  | nil =>
    simp [record_reader_num.f] at h
    obtain ⟨rfl, rfl⟩ := h
    refine (num_nil g A c w hb).mono ?_
    rintro e w' ⟨rfl, rfl⟩
    exact ⟨rfl, hI, hB, KeepBut.refl _ _ _⟩
  | cons x l =>
    have hvt := hv.tail (by simp)
    simp [record_reader_num.f] at h
    obtain ⟨rfl, rfl⟩ := h
    obtain ⟨hC, hlc⟩ := hv
    have hmax := Kd.C_max hC
    obtain ⟨ad, eA, hx⟩ := Kd.at_int hC 0 (by omega) (by simp)
    obtain rfl : A = some ad := eA
    rw [show ((0 : Int)).toNat = 0 from rfl, Addr.add_zero'] at hx
    have hx' : w0.cell? ad = some (.int .i64 x) := hx
    have hlt := World.block_lt_of_cell? w0 _ hx'
    have hxw : w.cell? ad = some (.int .i64 x) := (hB.cell hlt).trans hx'
    have hne : ad.block ≠ g := Nat.ne_of_lt (Nat.lt_of_lt_of_le hlt hg)
    simp only [List.length_cons] at hlc hmax
    have fin : ∀ u, u = Value.slice (View.tail ⟨some ad, c, x :: l⟩).A (View.tail ⟨some ad, c, x :: l⟩).l.length (View.tail ⟨some ad, c, x :: l⟩).c →
        IsS66 w0 (w.setCell ⟨g, 0, none⟩ u) g (View.tail ⟨some ad, c, x :: l⟩) ∧ Below w0.heap.size w0 (w.setCell ⟨g, 0, none⟩ u) ∧ KeepBut w (w.setCell ⟨g, 0, none⟩ u) g none := by
      intro u hu
      subst hu
      exact ⟨hI.set_0 _ hvt, below_set hB hg, keep_set_self _ _ _ _⟩
    by_cases h1 : c = 1
    · subst h1
      have hl : l = [] := List.eq_nil_of_length_eq_zero (by omega)
      subst hl
      refine (num_one g ad x w hb hxw hne).mono ?_
      rintro e w' ⟨rfl, rfl⟩
      exact ⟨rfl, fin _ (by simp [View.tail])⟩
    · refine (num_cons g ad l.length c x w hmax hb hxw hlc h1 hne).mono ?_
      rintro e w' ⟨rfl, rfl⟩
      exact ⟨rfl, fin _ (by simp [View.tail, h1])⟩
def record_reader_count.f (s0_0 : View) (a1 : Int) : Option (Int × View) := if 0 < a1 then (record_reader_num.f s0_0).bind fun t => some (mx 0 (mn t.1 ((t.2.l.length : Int) / a1)), t.2) else none
set_option maxHeartbeats 400000 in
theorem record_reader_count.calls (g : Nat) (s0_0 : View) (a1 : Int) (r1 : Int) (r2 : View) (w0 w : World) (hI : IsS66 w0 w g s0_0) (hB : Below w0.heap.size w0 w) (h : record_reader_count.f s0_0 a1 = some (r1, r2)) :
    Calls Try.prog 41 #[.pointer (some ⟨g, 0, none⟩), .int .i64 a1] w fun e w' => e = .returned (.int .i64 r1) ∧ IsS66 w0 w' g r2 ∧ Below w0.heap.size w0 w' ∧ KeepBut w w' g none := by
  unfold record_reader_count.f at h
  by_cases ha : 0 < a1
  · rw [if_pos ha] at h
    obtain ⟨t, ht, h⟩ := Option.bind_eq_some_iff.1 h
    obtain ⟨t1, t2⟩ := t
    have hr1 : mx 0 (mn t1 ((t2.l.length : Int) / a1)) = r1 := by simpa using congrArg (fun z => z.map Prod.fst) h
    have hr2 : t2 = r2 := by simpa using congrArg (fun z => z.map Prod.snd) h
    subst hr2
    have Hr := Lib.hid hr1
    clear h hr1
    have Hs := Lib.hid ht
    clear ht
    go_enter Try.func41, Try.ntmps41
    go_wp2_with fail
    refine (record_reader_num.calls g s0_0 t1 t2 w0 w hI hB Hs.out).mono ?_
    rintro e w' ⟨rfl, hI2, hB2, hK⟩
    have hm := Kd.C_max hI2.2.2.1
    have hc : w'.cell? ⟨g, 0, none⟩ = some (.slice t2.A t2.l.length t2.c) := cellS66_0 hI2.1
    have h0 : 0 ≤ (t2.l.length : Int) / a1 := Int.ediv_nonneg (by omega) (by omega)
    have h1 : (t2.l.length : Int) / a1 ≤ (t2.l.length : Int) := Int.ediv_le_self _ (by omega)
    have hq : wrap64 ((t2.l.length : Int) / a1) = (t2.l.length : Int) / a1 := by unfold wrap64; omega
    have Hq := Lib.hid hq
    clear hq h0 h1
    have Hr' : Hid (mx 0 (mn t1 (wrap64 ((t2.l.length : Int) / a1))) = r1) := Lib.hid (by rw [Hq.out]; exact Hr.out)
    clear Hq Hr
    generalize hz : wrap64 ((t2.l.length : Int) / a1) = q at Hr'
    by_cases c1 : q < t1
    · by_cases c2 : 0 < q
      all_goals
        subst hz
        go_wp2
        go_ret
        exact ⟨by rw [← Hr'.out]; unfold mx mn; first | (rw [if_pos c1, if_pos c2]; rfl) | (rw [if_pos c1, if_neg (by omega)]; rfl) | (rw [if_neg (show ¬ wrap64 ((t2.l.length : Int) / a1) < t1 by omega), if_pos c2]; rfl) | (rw [if_neg (show ¬ wrap64 ((t2.l.length : Int) / a1) < t1 by omega), if_neg (by omega)]; rfl), hI2, hB2, hK⟩
    · by_cases c2 : 0 < t1
      all_goals
        subst hz
        go_wp2
        go_ret
        exact ⟨by rw [← Hr'.out]; unfold mx mn; first | (rw [if_pos c1, if_pos c2]; rfl) | (rw [if_pos c1, if_neg (by omega)]; rfl) | (rw [if_neg (show ¬ wrap64 ((t2.l.length : Int) / a1) < t1 by omega), if_pos c2]; rfl) | (rw [if_neg (show ¬ wrap64 ((t2.l.length : Int) / a1) < t1 by omega), if_neg (by omega)]; rfl), hI2, hB2, hK⟩
  · rw [if_neg ha] at h
    exact absurd h (by simp)
mutual
def record_reader_read.l0 : Nat → Int → Int → View → Int → Int → Int → Int → Int → Int → List (S54) → Option (Int × Int × Int × Int × Int × List Int × (List (S52)) × Int × (List (S54)) × (List (S56)) × View)
 | 0, _, _, _, _, _, _, _, _, _, _ => none
 | k + 1, x11, x12, x1000, x261000, x261001, x261002, x261003, x261004, x261007, x261008 => if x12 < x11 then ((record_reader_num.f x1000).bind fun bt263 => ((record_reader_num.f bt263.2).bind fun bt265 => (if x261008.length < 8796093022208 then (record_reader_read.l0 k x11 (wrap64 (x12 + 1)) bt265.2 x261000 x261001 x261002 x261003 x261004 x261007 (x261008 ++ [(⟨bt263.1, bt265.1⟩ : S54)])) else (none)))) else ((record_reader_count.f x1000 4).bind fun bt270 => (record_reader_read.l1 k bt270.1 0 bt270.2 x261000 x261001 x261002 x261003 x261004 x261007 x261008 ([] : List (S56))))
def record_reader_read.l1 : Nat → Int → Int → View → Int → Int → Int → Int → Int → Int → List (S54) → List (S56) → Option (Int × Int × Int × Int × Int × List Int × (List (S52)) × Int × (List (S54)) × (List (S56)) × View)
 | 0, _, _, _, _, _, _, _, _, _, _, _ => none
 | k + 1, x26, x27, x1000, x261000, x261001, x261002, x261003, x261004, x261007, x261008, x261009 => if x27 < x26 then ((record_reader_num.f x1000).bind fun bt272 => ((record_reader_num.f bt272.2).bind fun bt274 => ((record_reader_num.f bt274.2).bind fun bt276 => ((record_reader_num.f bt276.2).bind fun bt278 => (if x261009.length < 4398046511104 then (record_reader_read.l1 k x26 (wrap64 (x27 + 1)) bt278.2 x261000 x261001 x261002 x261003 x261004 x261007 x261008 (x261009 ++ [(⟨bt272.1, bt274.1, bt276.1, bt278.1⟩ : S56)])) else (none)))))) else (some (x261000, x261001, x261002, x261003, x261004, ([] : List Int), ([] : List (S52)), x261007, x261008, x261009, x1000))
def record_reader_read.j2 : Nat → View → Int → Int → Int → Int → Int → Int → Option (Int × Int × Int × Int × Int × List Int × (List (S52)) × Int × (List (S54)) × (List (S56)) × View)
 | 0, _, _, _, _, _, _, _ => none
 | k + 1, x1000, x261000, x261001, x261002, x261003, x261004, x261007 => if x261000 = 1 then (record_reader_read.j3 k true x1000 x261000 x261001 x261002 x261003 x261004 x261007) else (record_reader_read.j3 k (x261000 == 2) x1000 x261000 x261001 x261002 x261003 x261004 x261007)
def record_reader_read.j3 : Nat → Bool → View → Int → Int → Int → Int → Int → Int → Option (Int × Int × Int × Int × Int × List Int × (List (S52)) × Int × (List (S54)) × (List (S56)) × View)
 | 0, _, _, _, _, _, _, _, _ => none
 | k + 1, x64, x1000, x261000, x261001, x261002, x261003, x261004, x261007 => if x64 = true then ((record_reader_num.f x1000).bind fun bt289 => ((record_reader_num.f bt289.2).bind fun bt291 => ((record_reader_count.f bt291.2 1).bind fun bt293 => (record_reader_read.l2 k bt293.1 0 bt293.2 x261000 x261001 x261002 bt289.1 bt291.1 ([] : List Int) x261007)))) else (some (x261000, x261001, x261002, x261003, x261004, ([] : List Int), ([] : List (S52)), x261007, ([] : List (S54)), ([] : List (S56)), x1000))
def record_reader_read.l2 : Nat → Int → Int → View → Int → Int → Int → Int → Int → List Int → Int → Option (Int × Int × Int × Int × Int × List Int × (List (S52)) × Int × (List (S54)) × (List (S56)) × View)
 | 0, _, _, _, _, _, _, _, _, _, _ => none
 | k + 1, x72, x73, x1000, x261000, x261001, x261002, x261003, x261004, x261005, x261007 => if x73 < x72 then ((record_reader_num.f x1000).bind fun bt295 => (if x261005.length < 17592186044416 then (record_reader_read.l2 k x72 (wrap64 (x73 + 1)) bt295.2 x261000 x261001 x261002 x261003 x261004 (x261005 ++ [bt295.1]) x261007) else (none))) else ((record_reader_count.f x1000 2).bind fun bt300 => (record_reader_read.l3 k bt300.1 0 bt300.2 x261000 x261001 x261002 x261003 x261004 x261005 ([] : List (S52)) x261007))
def record_reader_read.l3 : Nat → Int → Int → View → Int → Int → Int → Int → Int → List Int → List (S52) → Int → Option (Int × Int × Int × Int × Int × List Int × (List (S52)) × Int × (List (S54)) × (List (S56)) × View)
 | 0, _, _, _, _, _, _, _, _, _, _, _ => none
 | k + 1, x84, x85, x1000, x261000, x261001, x261002, x261003, x261004, x261005, x261006, x261007 => if x85 < x84 then ((record_reader_num.f x1000).bind fun bt302 => ((record_reader_num.f bt302.2).bind fun bt304 => (if x261006.length < 8796093022208 then (record_reader_read.l3 k x84 (wrap64 (x85 + 1)) bt304.2 x261000 x261001 x261002 x261003 x261004 x261005 (x261006 ++ [(⟨bt302.1, bt304.1⟩ : S52)]) x261007) else (none)))) else (some (x261000, x261001, x261002, x261003, x261004, x261005, x261006, x261007, ([] : List (S54)), ([] : List (S56)), x1000))
end
def record_reader_read.f (k : Nat) (s0_0 : View) : Option (Int × Int × Int × Int × Int × List Int × (List (S52)) × Int × (List (S54)) × (List (S56)) × View) := (record_reader_num.f s0_0).bind fun bt258 => (if bt258.1 = 5 then ((record_reader_count.f bt258.2 2).bind fun bt261 => (record_reader_read.l0 k bt261.1 0 bt261.2 bt258.1 0 0 0 0 0 ([] : List (S54)))) else ((record_reader_num.f bt258.2).bind fun bt283 => ((record_reader_num.f bt283.2).bind fun bt285 => (if bt258.1 = 2 then ((record_reader_num.f bt285.2).bind fun bt287 => (record_reader_read.j2 k bt287.2 bt258.1 bt283.1 bt285.1 0 0 bt287.1)) else (record_reader_read.j2 k bt285.2 bt258.1 bt283.1 bt285.1 0 0 0)))))
def record_reader_read.T5 : Bool × List (List Nat × List Nat) := (true, [([], []), ([0], [0]), ([], []), ([2], [2]), ([], []), ([4, 3], [4]), ([3, 5], [3, 5]), ([6], [6]), ([1, 7, 5], [1, 7]), ([0, 1, 2, 3, 4, 5, 6, 7, 8], []), ([9, 8, 8, 0, 1, 2, 3, 4, 5, 6, 7, 8], [8, 9])])
def record_reader_read.B5 : List Nat := [0, 1, 0, 4, 0, 28, 60, 124, 255, 511, 1023]
theorem record_reader_read.tab5 : rtab .any (opsOf Try.f26 5) = record_reader_read.T5 := by kernel_rfl
theorem record_reader_read.bits5 : waitsOk record_reader_read.T5.2 record_reader_read.B5 = true := by kernel_rfl
def record_reader_read.T9 : Bool × List (List Nat × List Nat) := (true, [([], []), ([0], [0]), ([], []), ([2], [2]), ([], []), ([4, 3], [4]), ([], []), ([6, 5], [6]), ([], []), ([8, 7], [8]), ([3, 5, 7, 9], [3, 5, 7, 9]), ([10], [10]), ([1, 11, 9], [1, 11]), ([0, 1, 2, 3, 4, 5, 6, 7, 8, 9, 10, 11, 12], []), ([13, 12, 12, 0, 1, 2, 3, 4, 5, 6, 7, 8, 9, 10, 11, 12], [12, 13])])
def record_reader_read.B9 : List Nat := [0, 1, 0, 4, 0, 28, 0, 124, 0, 508, 1020, 2044, 4095, 8191, 16383]
theorem record_reader_read.tab9 : rtab .any (opsOf Try.f26 9) = record_reader_read.T9 := by kernel_rfl
theorem record_reader_read.bits9 : waitsOk record_reader_read.T9.2 record_reader_read.B9 = true := by kernel_rfl
def record_reader_read.T19 : Bool × List (List Nat × List Nat) := (true, [([], []), ([0], [0]), ([], []), ([2], [2]), ([3], [3]), ([1, 4, 3], [1, 4]), ([0, 1, 2, 3, 4, 5], []), ([6, 5, 5, 0, 1, 2, 3, 4, 5], [5, 6])])
def record_reader_read.B19 : List Nat := [0, 1, 0, 4, 12, 31, 63, 127]
theorem record_reader_read.tab19 : rtab .any (opsOf Try.f26 19) = record_reader_read.T19 := by kernel_rfl
theorem record_reader_read.bits19 : waitsOk record_reader_read.T19.2 record_reader_read.B19 = true := by kernel_rfl
def record_reader_read.T23 : Bool × List (List Nat × List Nat) := (true, [([], []), ([0], [0]), ([], []), ([2], [2]), ([], []), ([4, 3], [4]), ([3, 5], [3, 5]), ([6], [6]), ([1, 7, 5], [1, 7]), ([0, 1, 2, 3, 4, 5, 6, 7, 8], []), ([9, 8, 8, 0, 1, 2, 3, 4, 5, 6, 7, 8], [8, 9])])
def record_reader_read.B23 : List Nat := [0, 1, 0, 4, 0, 28, 60, 124, 255, 511, 1023]
theorem record_reader_read.tab23 : rtab .any (opsOf Try.f26 23) = record_reader_read.T23 := by kernel_rfl
theorem record_reader_read.bits23 : waitsOk record_reader_read.T23.2 record_reader_read.B23 = true := by kernel_rfl
set_option maxHeartbeats 8000000 in
set_option maxRecDepth 100000 in
theorem record_reader_read.calls (k : Nat) (g : Nat) (s0_0 : View) (r1 : Int) (r2 : Int) (r3 : Int) (r4 : Int) (r5 : Int) (r6 : List Int) (r7 : List (S52)) (r8 : Int) (r9 : List (S54)) (r10 : List (S56)) (r11 : View) (w0 w : World) (hI : IsS66 w0 w g s0_0) (hB : Below w0.heap.size w0 w) (h : record_reader_read.f k s0_0 = some (r1, r2, r3, r4, r5, r6, r7, r8, r9, r10, r11)) :
  Calls Try.prog 26 #[.pointer (some ⟨g, 0, none⟩)] w fun e w' => ∃ v5_ v6_ v8_ v9_ : Value, e = .returned (.agg #[.int .i64 r1, .int .i64 r2, .int .i64 r3, .int .i64 r4, .int .i64 r5, v5_, v6_, .int .i64 r8, v8_, v9_]) ∧ Kd.R (Kd.int .i64) 3 w' w.heap.size (fun _ => True) v5_ r6 ∧ Kd.R k52 52 w' w.heap.size (fun _ => True) v6_ r7 ∧ Kd.R k54 54 w' w.heap.size (fun _ => True) v8_ r9 ∧ Kd.R k56 56 w' w.heap.size (fun _ => True) v9_ r10 ∧ IsS66 w0 w' g r11 ∧ Below w0.heap.size w0 w' ∧ KeepBut w w' g none := by
 have hu30 := Try.underlying30
 have hu54 := Try.underlying54
 have hu56 := Try.underlying56
 have hu52 := Try.underlying52
 have HI0 := Aside0.mk hI
 have HK := Aside0.mk (KeepBut.refl w g none)
 have HL := Aside0.mk hB.size
 clear hI
 have HW0 := Aside0.mk hB.size
 have HB := Aside0.mk hB
 clear hB
 have H : ((record_reader_num.f s0_0).bind fun bt258 => (if bt258.1 = 5 then ((record_reader_count.f bt258.2 2).bind fun bt261 => (record_reader_read.l0 k bt261.1 0 bt261.2 bt258.1 0 0 0 0 0 ([] : List (S54)))) else ((record_reader_num.f bt258.2).bind fun bt283 => ((record_reader_num.f bt283.2).bind fun bt285 => (if bt258.1 = 2 then ((record_reader_num.f bt285.2).bind fun bt287 => (record_reader_read.j2 k bt287.2 bt258.1 bt283.1 bt285.1 0 0 bt287.1)) else (record_reader_read.j2 k bt285.2 bt258.1 bt283.1 bt285.1 0 0 0)))))) = some (r1, r2, r3, r4, r5, r6, r7, r8, r9, r10, r11) := h
 clear h
 replace H := Option.bind_eq_some_iff.mp H
 obtain ⟨⟨t258, t259⟩, A20, H⟩ := H
 replace H : (if t258 = 5 then ((record_reader_count.f t259 2).bind fun bt261 => (record_reader_read.l0 k bt261.1 0 bt261.2 t258 0 0 0 0 0 ([] : List (S54)))) else ((record_reader_num.f t259).bind fun bt283 => ((record_reader_num.f bt283.2).bind fun bt285 => (if t258 = 2 then ((record_reader_num.f bt285.2).bind fun bt287 => (record_reader_read.j2 k bt287.2 t258 bt283.1 bt285.1 0 0 bt287.1)) else (record_reader_read.j2 k bt285.2 t258 bt283.1 bt285.1 0 0 0))))) = some (r1, r2, r3, r4, r5, r6, r7, r8, r9, r10, r11) := H
 have A2 := Aside0.mk A20
 clear A20
 by_cases c3 : t258 = 5
 ·rw [if_pos c3] at H
  have c3b0 : (t258 == 5) = true := beq_iff_eq.mpr c3
  have c3b1 : (t258 != 5) = false := bne_eq_false_iff_eq.mpr c3
  clear c3
  replace H := Option.bind_eq_some_iff.mp H
  obtain ⟨⟨t261, t262⟩, A40, H⟩ := H
  replace H : (record_reader_read.l0 k t261 0 t262 t258 0 0 0 0 0 ([] : List (S54))) = some (r1, r2, r3, r4, r5, r6, r7, r8, r9, r10, r11) := H
  have A4 := Aside0.mk A40
  clear A40
  have H' := Aside0.mk H
  clear H
  go_enter Try.func26, Try.ntmps26
  go_wp2_with (first | ((with_reducible refine gate_dst (N := 2) rfl ?_); refine box_event ?hg (N := 2) ?hd (cs := #[.int .i64 0, .int .i64 0, .int .i64 0, .int .i64 0, .int .i64 0, .slice none 0 0, .slice none 0 0, .int .i64 0, .slice none 0 0, .slice none 0 0]) (t := 30) ?hr ?_; (case hd => rfl); (case hg => rfl); (case hr => first | (go_simp; done) | (go_simp; rfl)); intro gb257 hg w5 hbox hb; have n0_ := Aside0.mk (IsS66.below (by repeat (first | (with_reducible first | exact HI0.out | apply IsS66.alloc | apply IsS66.drewN | apply IsS66.drew | apply IsS66.set_0) | exact HI0.out)) hb); have n1_ := Aside0.mk (KeepBut.trans (by repeat (first | (with_reducible first | exact HK.out | apply KeepBut.set_ | apply keep_drewN | apply keep_drew | apply keep_alloc) | exact HK.out)) (KeepBut.of_below hb g none) (.inl rfl)); have n2_ := Aside0.mk (below_step (by repeat (first | (with_reducible first | exact HB.out | apply bA | apply bN | apply bD | refine bS ?_ (IsS66.ge HI0.out)) | exact HB.out)) hb); have n3_ := Aside0.mk (hbox); have n4_ := Aside0.mk ((by rw [hg]; exact (keep_size (w := w) (g := g) (row := none) (by repeat (first | (with_reducible first | exact HK.out | apply KeepBut.set_ | apply keep_drewN | apply keep_drew | apply keep_alloc) | exact HK.out))) : w.heap.size ≤ gb257)); have n5_ := Aside0.mk ((Nat.le_trans HW0.out (by rw [hg]; exact (keep_size (w := w) (g := g) (row := none) (by repeat (first | (with_reducible first | exact HK.out | apply KeepBut.set_ | apply keep_drewN | apply keep_drew | apply keep_alloc) | exact HK.out))) : w.heap.size ≤ gb257) : w0.heap.size ≤ gb257)); have n6_ := Aside0.mk ((by rw [hg]; exact Nat.ne_of_lt (IsS66.lt (show IsS66 w0 _ g s0_0 from by repeat (first | (with_reducible first | exact HI0.out | apply IsS66.alloc | apply IsS66.drewN | apply IsS66.drew | apply IsS66.set_0) | exact HI0.out))) : g ≠ gb257)); have n7_ := Aside0.mk ((by rw [hg]; exact Nat.ne_of_gt (IsS66.lt (show IsS66 w0 _ g s0_0 from by repeat (first | (with_reducible first | exact HI0.out | apply IsS66.alloc | apply IsS66.drewN | apply IsS66.drew | apply IsS66.set_0) | exact HI0.out))) : gb257 ≠ g)); clear HI0; clear HK; clear HB; have HI0 := n0_; have HK := n1_; have HB := n2_; have BK257 := n3_; have GW257 := n4_; have GE257 := n5_; have NB0_257 := n6_; have NB257_0 := n7_; clear n0_ n1_ n2_ n3_ n4_ n5_ n6_ n7_; clear hb hbox hg) | ((with_reducible refine gate_callee (f := 40) rfl ?_); refine goesL_ (some 5) rfl rfl Try.func40 (by kernel_rfl) rfl #[.pointer (some ⟨g, 0, none⟩)] rfl (by (try simp only [List.map_toArray, List.map_cons, List.map_nil]); first | done | rfl | (simp only [List.length_drop, List.length_take]; rfl)) ?_; (with_reducible refine (record_reader_num.calls g s0_0 t258 t259 w0 _ ?side1 ?side2 A2.out).mono ?_); (case side1 => repeat (first | (with_reducible first | exact HI0.out | apply IsS66.alloc | apply IsS66.drewN | apply IsS66.drew | apply IsS66.set_0 | refine IsS66.far ?_ NB0_257.out _) | exact HI0.out)); (case side2 => repeat (first | (with_reducible first | exact HB.out | apply bA | apply bN | apply bD | refine bS ?_ (IsS66.ge HI0.out) | refine bS ?_ GE257.out) | exact HB.out)); rintro e w6 ⟨rfl, hi, hb, hk⟩; refine ⟨_, rfl, ?_⟩; have n0_ := Aside0.mk (KeepBut.blk hk (g' := gb257) (o := .cells #[.int .i64 0, .int .i64 0, .int .i64 0, .int .i64 0, .int .i64 0, .slice none 0 0, .slice none 0 0, .int .i64 0, .slice none 0 0, .slice none 0 0] 30 (0, 0)) (by (with_reducible repeat (first | refine kN ?_ _ | refine kZ ?_ | refine kA ?_ _)); exact BK257.out) NB257_0.out (by simp)); have n1_ := Aside0.mk (KeepBut.trans (by repeat (first | (with_reducible first | exact HK.out | apply KeepBut.set_ | apply keep_drewN | apply keep_drew | apply keep_alloc | refine keep_far ?_ GW257.out _) | exact HK.out)) hk (.inl rfl)); have n2_ := Aside0.mk (hb); have n3_ := Aside0.mk (hi); clear BK257; clear HK; clear HB; clear HI0; have BK257 := n0_; have HK := n1_; have HB := n2_; have HI0 := n3_; clear n0_ n1_ n2_ n3_; (try clear hb); (try clear hb2); (try clear hk); (try clear hi)) | ((with_reducible refine gate_dst (N := 3) rfl ?_); refine box_event ?hg (N := 3) ?hd (cs := #[.int .i64 0, .int .i64 0, .int .i64 0, .int .i64 0, .int .i64 0, .slice none 0 0, .slice none 0 0, .int .i64 0, .slice none 0 0, .slice none 0 0]) (t := 30) ?hr ?_; (case hd => rfl); (case hg => rfl); (case hr => first | (go_simp; done) | (go_simp; rfl)); intro gb260 hg w7 hbox hb; have n0_ := Aside0.mk (IsS66.below (by repeat (first | (with_reducible first | exact HI0.out | apply IsS66.alloc | apply IsS66.drewN | apply IsS66.drew | apply IsS66.set_0 | refine IsS66.far ?_ NB0_257.out _) | exact HI0.out)) hb); have n1_ := Aside0.mk (blk_below (g := gb257) (o := .cells #[.int .i64 0, .int .i64 0, .int .i64 0, .int .i64 0, .int .i64 0, .slice none 0 0, .slice none 0 0, .int .i64 0, .slice none 0 0, .slice none 0 0] 30 (0, 0)) (by (with_reducible repeat (first | refine kN ?_ _ | refine kZ ?_ | refine kA ?_ _)); exact BK257.out) hb); have n2_ := Aside0.mk (KeepBut.trans (by repeat (first | (with_reducible first | exact HK.out | apply KeepBut.set_ | apply keep_drewN | apply keep_drew | apply keep_alloc | refine keep_far ?_ GW257.out _) | exact HK.out)) (KeepBut.of_below hb g none) (.inl rfl)); have n3_ := Aside0.mk (below_step (by repeat (first | (with_reducible first | exact HB.out | apply bA | apply bN | apply bD | refine bS ?_ (IsS66.ge HI0.out) | refine bS ?_ GE257.out) | exact HB.out)) hb); have n4_ := Aside0.mk (hbox); have n5_ := Aside0.mk ((by rw [hg]; exact (keep_size (w := w) (g := g) (row := none) (by repeat (first | (with_reducible first | exact HK.out | apply KeepBut.set_ | apply keep_drewN | apply keep_drew | apply keep_alloc | refine keep_far ?_ GW257.out _) | exact HK.out))) : w.heap.size ≤ gb260)); have n6_ := Aside0.mk ((Nat.le_trans HW0.out (by rw [hg]; exact (keep_size (w := w) (g := g) (row := none) (by repeat (first | (with_reducible first | exact HK.out | apply KeepBut.set_ | apply keep_drewN | apply keep_drew | apply keep_alloc | refine keep_far ?_ GW257.out _) | exact HK.out))) : w.heap.size ≤ gb260) : w0.heap.size ≤ gb260)); have n7_ := Aside0.mk ((by rw [hg]; exact Nat.ne_of_lt (blk_lt (g := gb257) (o := .cells #[.int .i64 0, .int .i64 0, .int .i64 0, .int .i64 0, .int .i64 0, .slice none 0 0, .slice none 0 0, .int .i64 0, .slice none 0 0, .slice none 0 0] 30 (0, 0)) (by (with_reducible repeat (first | refine kN ?_ _ | refine kZ ?_ | refine kA ?_ _)); exact BK257.out)) : gb257 ≠ gb260)); have n8_ := Aside0.mk ((by rw [hg]; exact Nat.ne_of_gt (blk_lt (g := gb257) (o := .cells #[.int .i64 0, .int .i64 0, .int .i64 0, .int .i64 0, .int .i64 0, .slice none 0 0, .slice none 0 0, .int .i64 0, .slice none 0 0, .slice none 0 0] 30 (0, 0)) (by (with_reducible repeat (first | refine kN ?_ _ | refine kZ ?_ | refine kA ?_ _)); exact BK257.out)) : gb260 ≠ gb257)); have n9_ := Aside0.mk ((by rw [hg]; exact Nat.ne_of_lt (IsS66.lt (show IsS66 w0 _ g t259 from by repeat (first | (with_reducible first | exact HI0.out | apply IsS66.alloc | apply IsS66.drewN | apply IsS66.drew | apply IsS66.set_0 | refine IsS66.far ?_ NB0_257.out _) | exact HI0.out))) : g ≠ gb260)); have n10_ := Aside0.mk ((by rw [hg]; exact Nat.ne_of_gt (IsS66.lt (show IsS66 w0 _ g t259 from by repeat (first | (with_reducible first | exact HI0.out | apply IsS66.alloc | apply IsS66.drewN | apply IsS66.drew | apply IsS66.set_0 | refine IsS66.far ?_ NB0_257.out _) | exact HI0.out))) : gb260 ≠ g)); clear HI0; clear BK257; clear HK; clear HB; have HI0 := n0_; have BK257 := n1_; have HK := n2_; have HB := n3_; have BK260 := n4_; have GW260 := n5_; have GE260 := n6_; have NB257_260 := n7_; have NB260_257 := n8_; have NB0_260 := n9_; have NB260_0 := n10_; clear n0_ n1_ n2_ n3_ n4_ n5_ n6_ n7_ n8_ n9_ n10_; clear hb hbox hg; have hnb8 := NB260_257.out; have hnc8 := NB257_260.out; have hnb9 := NB260_0.out; have hnc9 := NB0_260.out; obtain ⟨hcz10_0, hcz10_1, hcz10_2, hcz10_3, hcz10_4, hcz10_5, hcz10_6, hcz10_7, hcz10_8, hcz10_9⟩ := ten_cells BK260.out; have hfz10 := ten_free BK260.out) | ((with_reducible refine gate_callee (f := 41) rfl ?_); refine goesL_ (some 11) rfl rfl Try.func41 (by kernel_rfl) rfl #[.pointer (some ⟨g, 0, none⟩), .int .i64 2] rfl (by (try simp only [List.map_toArray, List.map_cons, List.map_nil]); first | done | rfl | (simp only [List.length_drop, List.length_take]; rfl)) ?_; (with_reducible refine (record_reader_count.calls g t259 2 t261 t262 w0 _ ?side1 ?side2 A4.out).mono ?_); (case side1 => repeat (first | (with_reducible first | exact HI0.out | apply IsS66.alloc | apply IsS66.drewN | apply IsS66.drew | apply IsS66.set_0 | refine IsS66.far ?_ NB0_257.out _ | refine IsS66.far ?_ NB0_260.out _) | exact HI0.out)); (case side2 => repeat (first | (with_reducible first | exact HB.out | apply bA | apply bN | apply bD | refine bS ?_ (IsS66.ge HI0.out) | refine bS ?_ GE257.out | refine bS ?_ GE260.out) | exact HB.out)); rintro e w11 ⟨rfl, hi, hb, hk⟩; refine ⟨_, rfl, ?_⟩; have n0_ := Aside0.mk (KeepBut.blk hk (g' := gb257) (o := .cells #[.int .i64 0, .int .i64 0, .int .i64 0, .int .i64 0, .int .i64 0, .slice none 0 0, .slice none 0 0, .int .i64 0, .slice none 0 0, .slice none 0 0] 30 (0, 0)) (by (with_reducible repeat (first | refine kN ?_ _ | refine kZ ?_ | refine kA ?_ _)); refine blk_far ?_ NB257_260.out _; (with_reducible repeat (first | refine kN ?_ _ | refine kZ ?_ | refine kA ?_ _)); refine blk_far ?_ NB257_260.out _; (with_reducible repeat (first | refine kN ?_ _ | refine kZ ?_ | refine kA ?_ _)); refine blk_far ?_ NB257_260.out _; (with_reducible repeat (first | refine kN ?_ _ | refine kZ ?_ | refine kA ?_ _)); refine blk_far ?_ NB257_260.out _; (with_reducible repeat (first | refine kN ?_ _ | refine kZ ?_ | refine kA ?_ _)); refine blk_far ?_ NB257_260.out _; (with_reducible repeat (first | refine kN ?_ _ | refine kZ ?_ | refine kA ?_ _)); refine blk_far ?_ NB257_260.out _; (with_reducible repeat (first | refine kN ?_ _ | refine kZ ?_ | refine kA ?_ _)); refine blk_far ?_ NB257_260.out _; (with_reducible repeat (first | refine kN ?_ _ | refine kZ ?_ | refine kA ?_ _)); refine blk_far ?_ NB257_260.out _; (with_reducible repeat (first | refine kN ?_ _ | refine kZ ?_ | refine kA ?_ _)); refine blk_far ?_ NB257_260.out _; (with_reducible repeat (first | refine kN ?_ _ | refine kZ ?_ | refine kA ?_ _)); refine blk_far ?_ NB257_260.out _; (with_reducible repeat (first | refine kN ?_ _ | refine kZ ?_ | refine kA ?_ _)); exact BK257.out) NB257_0.out (by simp)); have n1_ := Aside0.mk (KeepBut.blk hk (g' := gb260) (o := .cells #[.int .i64 t258, .int .i64 0, .int .i64 0, .int .i64 0, .int .i64 0, .slice none 0 0, .slice none 0 0, .int .i64 0, .slice none 0 0, .slice none 0 0] 30 (0, 0)) (by (with_reducible repeat (first | refine kN ?_ _ | refine kZ ?_ | refine kA ?_ _)); refine blk_put (cs := #[.int .i64 t258, .int .i64 0, .int .i64 0, .int .i64 0, .int .i64 0, .slice none 0 0, .slice none 0 0, .int .i64 0, .slice none 0 0, .slice none 0 0]) ?_ 9 _ rfl; (with_reducible repeat (first | refine kN ?_ _ | refine kZ ?_ | refine kA ?_ _)); refine blk_put (cs := #[.int .i64 t258, .int .i64 0, .int .i64 0, .int .i64 0, .int .i64 0, .slice none 0 0, .slice none 0 0, .int .i64 0, .slice none 0 0, .slice none 0 0]) ?_ 8 _ rfl; (with_reducible repeat (first | refine kN ?_ _ | refine kZ ?_ | refine kA ?_ _)); refine blk_put (cs := #[.int .i64 t258, .int .i64 0, .int .i64 0, .int .i64 0, .int .i64 0, .slice none 0 0, .slice none 0 0, .int .i64 0, .slice none 0 0, .slice none 0 0]) ?_ 7 _ rfl; (with_reducible repeat (first | refine kN ?_ _ | refine kZ ?_ | refine kA ?_ _)); refine blk_put (cs := #[.int .i64 t258, .int .i64 0, .int .i64 0, .int .i64 0, .int .i64 0, .slice none 0 0, .slice none 0 0, .int .i64 0, .slice none 0 0, .slice none 0 0]) ?_ 6 _ rfl; (with_reducible repeat (first | refine kN ?_ _ | refine kZ ?_ | refine kA ?_ _)); refine blk_put (cs := #[.int .i64 t258, .int .i64 0, .int .i64 0, .int .i64 0, .int .i64 0, .slice none 0 0, .slice none 0 0, .int .i64 0, .slice none 0 0, .slice none 0 0]) ?_ 5 _ rfl; (with_reducible repeat (first | refine kN ?_ _ | refine kZ ?_ | refine kA ?_ _)); refine blk_put (cs := #[.int .i64 t258, .int .i64 0, .int .i64 0, .int .i64 0, .int .i64 0, .slice none 0 0, .slice none 0 0, .int .i64 0, .slice none 0 0, .slice none 0 0]) ?_ 4 _ rfl; (with_reducible repeat (first | refine kN ?_ _ | refine kZ ?_ | refine kA ?_ _)); refine blk_put (cs := #[.int .i64 t258, .int .i64 0, .int .i64 0, .int .i64 0, .int .i64 0, .slice none 0 0, .slice none 0 0, .int .i64 0, .slice none 0 0, .slice none 0 0]) ?_ 3 _ rfl; (with_reducible repeat (first | refine kN ?_ _ | refine kZ ?_ | refine kA ?_ _)); refine blk_put (cs := #[.int .i64 t258, .int .i64 0, .int .i64 0, .int .i64 0, .int .i64 0, .slice none 0 0, .slice none 0 0, .int .i64 0, .slice none 0 0, .slice none 0 0]) ?_ 2 _ rfl; (with_reducible repeat (first | refine kN ?_ _ | refine kZ ?_ | refine kA ?_ _)); refine blk_put (cs := #[.int .i64 t258, .int .i64 0, .int .i64 0, .int .i64 0, .int .i64 0, .slice none 0 0, .slice none 0 0, .int .i64 0, .slice none 0 0, .slice none 0 0]) ?_ 1 _ rfl; (with_reducible repeat (first | refine kN ?_ _ | refine kZ ?_ | refine kA ?_ _)); refine blk_put (cs := #[.int .i64 0, .int .i64 0, .int .i64 0, .int .i64 0, .int .i64 0, .slice none 0 0, .slice none 0 0, .int .i64 0, .slice none 0 0, .slice none 0 0]) ?_ 0 _ rfl; (with_reducible repeat (first | refine kN ?_ _ | refine kZ ?_ | refine kA ?_ _)); exact BK260.out) NB260_0.out (by simp)); have n2_ := Aside0.mk (KeepBut.trans (by repeat (first | (with_reducible first | exact HK.out | apply KeepBut.set_ | apply keep_drewN | apply keep_drew | apply keep_alloc | refine keep_far ?_ GW257.out _ | refine keep_far ?_ GW260.out _) | exact HK.out)) hk (.inl rfl)); have n3_ := Aside0.mk (hb); have n4_ := Aside0.mk (hi); clear BK257; clear BK260; clear HK; clear HB; clear HI0; have BK257 := n0_; have BK260 := n1_; have HK := n2_; have HB := n3_; have HI0 := n4_; clear n0_ n1_ n2_ n3_ n4_; (try clear hb); (try clear hb2); (try clear hk); (try clear hi)))
  go_loopg [12] k (fun kq v12 w' => ∃ (x12_1 : Int) (x1000_1 : View) (x261008_1 : List (S54)) (u261008 : Value), v12 = .int .i64 x12_1 ∧ Aside0 (record_reader_read.l0 kq t261 x12_1 x1000_1 t258 0 0 0 0 0 x261008_1 = some (r1, r2, r3, r4, r5, r6, r7, r8, r9, r10, r11)) ∧ Aside0 (kq ≤ k) ∧ Aside0 (Kd.R k54 54 w' w.heap.size (fun _ => True) u261008 x261008_1) ∧ Aside0 (w'.heap[gb257]? = some (.cells #[.int .i64 0, .int .i64 0, .int .i64 0, .int .i64 0, .int .i64 0, (.slice none 0 0), (.slice none 0 0), .int .i64 0, (.slice none 0 0), (.slice none 0 0)] 30 (0, 0))) ∧ Aside0 (w'.heap[gb260]? = some (.cells #[.int .i64 t258, .int .i64 0, .int .i64 0, .int .i64 0, .int .i64 0, (.slice none 0 0), (.slice none 0 0), .int .i64 0, u261008, (.slice none 0 0)] 30 (0, 0))) ∧ Aside0 (IsS66 w0 w' g x1000_1) ∧ Aside0 (KeepBut w w' g none) ∧ Aside0 (Below w0.heap.size w0 w'))
  case atStart => exact ⟨(0), (t262), (([] : List (S54))), (.slice none 0 0), (by first | rfl | (simp; done) | (simp [*]; done)), H', ⟨Nat.le_refl _⟩, ⟨by first | exact Kd.R_nil _ _ _ _ _ | exact Kd.N_nil _ _ _ _ _ | exact Kd.V_nil _ _ _ _ _ | exact Kd.Q_nil _ _ _ _ _ | exact Kd.S_nil _ _ _ _ _⟩, ⟨by (with_reducible repeat (first | refine kN ?_ _ | refine kZ ?_ | refine kA ?_ _)); exact BK257.out⟩, ⟨by (with_reducible repeat (first | refine kN ?_ _ | refine kZ ?_ | refine kA ?_ _)); exact BK260.out⟩, ⟨by repeat (first | (with_reducible first | exact HI0.out | apply IsS66.alloc | apply IsS66.drewN | apply IsS66.drew | apply IsS66.set_0 | refine IsS66.far ?_ NB0_257.out _ | refine IsS66.far ?_ NB0_260.out _) | exact HI0.out)⟩, ⟨by repeat (first | (with_reducible first | exact HK.out | apply KeepBut.set_ | apply keep_drewN | apply keep_drew | apply keep_alloc | refine keep_far ?_ GW257.out _ | refine keep_far ?_ GW260.out _) | exact HK.out)⟩, ⟨by repeat (first | (with_reducible first | exact HB.out | apply bA | apply bN | apply bD | refine bS ?_ (IsS66.ge HI0.out) | refine bS ?_ GE257.out | refine bS ?_ GE260.out) | exact HB.out)⟩⟩
  case round =>
   clear H'
   try clear c2
   try clear p2
   try clear c3
   try clear c3b0
   try clear c3b1
   try clear c4
   try clear c8
   try clear c9
   try clear hcz10_0 hcz10_1 hcz10_2 hcz10_3 hcz10_4 hcz10_5 hcz10_6 hcz10_7 hcz10_8 hcz10_9
   try clear hfz10
   obtain ⟨x12_1, x1000_1, x261008_1, u261008, rfl, HA, HK1, HO_261008, BK257, BK260, HI0, HK, HB⟩ := hrel
   cases gk with
   | zero => exact absurd HA.out (by simp [record_reader_read.l0])
   | succ k1 =>
    have H := HA.out
    clear HA
    simp only [record_reader_read.l0] at H
    by_cases c12 : x12_1 < t261
    ·rw [if_pos c12] at H
     have c12b0 : decide (x12_1 < t261) = true := decide_eq_true c12
     clear c12
     replace H := Option.bind_eq_some_iff.mp H
     obtain ⟨⟨t263, t264⟩, A130, H⟩ := H
     replace H : ((record_reader_num.f t264).bind fun bt265 => (if x261008_1.length < 8796093022208 then (record_reader_read.l0 k1 t261 (wrap64 (x12_1 + 1)) bt265.2 t258 0 0 0 0 0 (x261008_1 ++ [(⟨t263, bt265.1⟩ : S54)])) else (none))) = some (r1, r2, r3, r4, r5, r6, r7, r8, r9, r10, r11) := H
     have A13 := Aside0.mk A130
     clear A130
     replace H := Option.bind_eq_some_iff.mp H
     obtain ⟨⟨t265, t266⟩, A140, H⟩ := H
     replace H : (if x261008_1.length < 8796093022208 then (record_reader_read.l0 k1 t261 (wrap64 (x12_1 + 1)) t266 t258 0 0 0 0 0 (x261008_1 ++ [(⟨t263, t265⟩ : S54)])) else (none)) = some (r1, r2, r3, r4, r5, r6, r7, r8, r9, r10, r11) := H
     have A14 := Aside0.mk A140
     clear A140
     by_cases c15 : x261008_1.length < 8796093022208
     ·rw [if_pos c15] at H
      have LMc15 := Aside0.mk c15
      clear c15
      obtain ⟨y267, hy267⟩ : ∃ y_ : List (S54), y_ = (x261008_1 ++ [(⟨t263, t265⟩ : S54)]) := ⟨_, rfl⟩
      replace H : (record_reader_read.l0 k1 t261 (wrap64 (x12_1 + 1)) t266 t258 0 0 0 0 0 y267) = some (r1, r2, r3, r4, r5, r6, r7, r8, r9, r10, r11) := by first | (rw [hy267]; with_reducible exact H) | (have H2_ := (Option.bind_some _ _).symm.trans H; rw [hy267]; with_reducible exact H2_) | (have H2_ := (Option.bind_some _ _).symm.trans H; with_reducible exact H2_) | with_reducible exact H | (rw [hy267]; exact H) | exact H
      have Ny267 := Aside0.mk hy267
      clear hy267
      have H' := Aside0.mk H
      clear H
      try go_wp2
      have n0_ := Aside0.mk (rZ HO_261008.out)
      have n1_ := Aside0.mk (kZ BK257.out)
      have n2_ := Aside0.mk (kZ BK260.out)
      have n3_ := Aside0.mk (IsS66.drew HI0.out)
      have n4_ := Aside0.mk (keep_drew HK.out)
      have n5_ := Aside0.mk (bD HB.out)
      clear HO_261008
      clear BK257
      clear BK260
      clear HI0
      clear HK
      clear HB
      have HO_261008 := n0_
      have BK257 := n1_
      have BK260 := n2_
      have HI0 := n3_
      have HK := n4_
      have HB := n5_
      clear n0_ n1_ n2_ n3_ n4_ n5_
      refine start_ (n := 11) (S := fun w' => w'.cell? ⟨gb260, 0, none⟩ = some (.int .i64 t258) ∧ w'.cell? ⟨gb260, 1, none⟩ = some (.int .i64 0) ∧ w'.cell? ⟨gb260, 2, none⟩ = some (.int .i64 0) ∧ w'.cell? ⟨gb260, 3, none⟩ = some (.int .i64 0) ∧ w'.cell? ⟨gb260, 4, none⟩ = some (.int .i64 0) ∧ w'.cell? ⟨gb260, 5, none⟩ = some (.slice none 0 0) ∧ w'.cell? ⟨gb260, 6, none⟩ = some (.slice none 0 0) ∧ w'.cell? ⟨gb260, 7, none⟩ = some (.int .i64 0) ∧ w'.cell? ⟨gb260, 8, none⟩ = some (u261008) ∧ w'.cell? ⟨gb260, 9, none⟩ = some (.slice none 0 0)) (ds := [10]) #[false, false, false, false, false, false, false, false, false, false, false] (by kernel_rfl) rfl rfl (ten_cells BK260.out) (fun hHeld => ?_); refine with_tabW record_reader_read.tab5 record_reader_read.bits5 (fun HT_ HW_ => ?_)
      generalize wr.drew = w16 at HO_261008 BK257 BK260 HI0 HK HB hHeld ⊢
      refine pure_ (i := 0) (N := some 14) (v := ?_) (a' := ?_) #[true, false, false, false, false, false, false, false, false, false, false] rfl rfl (any_of HT_.out (by kernel_rfl)) (fun _ _ _ h => h) (Or.inl ⟨by rfl, ?_⟩) ?_ ?_
      rotate_left
      ·intro w'
       go_simp
       with_reducible rfl
      rotate_left
      ·simp only [Act.put, List.setIfInBounds_toArray, List.set_cons_zero, List.set_cons_succ, i64_w, i32_w]
       rfl
      refine pure_ (i := 2) (N := some 16) (v := ?_) (a' := ?_) #[true, false, true, false, false, false, false, false, false, false, false] rfl rfl (any_of HT_.out (by kernel_rfl)) (fun _ _ _ h => h) (Or.inl ⟨by rfl, ?_⟩) ?_ ?_
      rotate_left
      ·intro w'
       go_simp
       with_reducible rfl
      rotate_left
      ·simp only [Act.put, List.setIfInBounds_toArray, List.set_cons_zero, List.set_cons_succ, i64_w, i32_w]
       rfl
      refine pure_ (i := 4) (N := some 18) (v := ?_) (a' := ?_) #[true, false, true, false, true, false, false, false, false, false, false] rfl rfl (any_of HT_.out (by kernel_rfl)) (fun _ _ _ h => h) (Or.inl ⟨by rfl, ?_⟩) ?_ ?_
      rotate_left
      ·intro w'
       go_simp
       with_reducible rfl
      rotate_left
      ·simp only [Act.put, List.setIfInBounds_toArray, List.set_cons_zero, List.set_cons_succ, i64_w, i32_w]
       rfl
      refine take_ (i := 1) (N := some 15) (v := ?_) (a' := ?_) #[true, true, true, false, true, false, false, false, false, false, false] rfl rfl (take_ofW HT_.out HW_.out (by kernel_rfl)) (fun _ _ _ h => h) (Or.inl ⟨by rfl, ?_⟩) hHeld ?_ ?_
      rotate_left
      ·rintro w' ⟨s0, s1, s2, s3, s4, s5, s6, s7, s8, s9⟩
       go_simp
       with_reducible rfl
      rotate_left
      ·simp only [Act.put, List.setIfInBounds_toArray, List.set_cons_zero, List.set_cons_succ, i64_w, i32_w]
       rfl
      refine one_ (i := 3) (N := some 17) #[true, true, true, true, true, false, false, false, false, false, false] rfl rfl (one_of HT_.out (by kernel_rfl)) (by decide) (fun K hK => ?_)
      refine goes_ Try.func40 (by kernel_rfl) rfl #[.pointer (some ⟨g, 0, none⟩)] (by rfl) rfl rfl (by (try simp only [List.map_toArray, List.map_cons, List.map_nil]); first | done | rfl | (simp only [List.length_drop, List.length_take]; rfl)) ?_
      with_reducible refine (record_reader_num.calls g x1000_1 t263 t264 w0 _ ?side1 ?side2 A13.out).mono ?_
      (case side1 => repeat (first | (with_reducible first | exact HI0.out | apply IsS66.alloc | apply IsS66.drewN | apply IsS66.drew | apply IsS66.set_0 | refine IsS66.far ?_ NB0_257.out _ | refine IsS66.far ?_ NB0_260.out _) | exact HI0.out))
      (case side2 => repeat (first | (with_reducible first | exact HB.out | apply bA | apply bN | apply bD | refine bS ?_ (IsS66.ge HI0.out) | refine bS ?_ GE257.out | refine bS ?_ GE260.out) | exact HB.out))
      rintro e w17 ⟨rfl, hi, hb, hk⟩
      refine ⟨_, rfl, ?_⟩
      have n0_ := Aside0.mk (Kd.R_mono (Kd.R_keep (IsS66.apart (show IsS66 w0 _ g x1000_1 from by repeat (first | (with_reducible first | exact HI0.out | apply IsS66.alloc | apply IsS66.drewN | apply IsS66.drew | apply IsS66.set_0 | refine IsS66.far ?_ NB0_257.out _ | refine IsS66.far ?_ NB0_260.out _) | exact HI0.out)) (by (with_reducible repeat (first | apply rA | apply rN | apply rZ)); exact HO_261008.out) (by decide)) hk (fun _ h => h.2)) (fun _ h => h.1))
      have n1_ := Aside0.mk (KeepBut.blk hk (g' := gb257) (o := .cells #[.int .i64 0, .int .i64 0, .int .i64 0, .int .i64 0, .int .i64 0, .slice none 0 0, .slice none 0 0, .int .i64 0, .slice none 0 0, .slice none 0 0] 30 (0, 0)) (by (with_reducible repeat (first | refine kN ?_ _ | refine kZ ?_ | refine kA ?_ _)); exact BK257.out) NB257_0.out (by simp))
      have n2_ := Aside0.mk (KeepBut.blk hk (g' := gb260) (o := .cells #[.int .i64 t258, .int .i64 0, .int .i64 0, .int .i64 0, .int .i64 0, .slice none 0 0, .slice none 0 0, .int .i64 0, u261008, .slice none 0 0] 30 (0, 0)) (by (with_reducible repeat (first | refine kN ?_ _ | refine kZ ?_ | refine kA ?_ _)); exact BK260.out) NB260_0.out (by simp))
      have n3_ := Aside0.mk (KeepBut.trans (by repeat (first | (with_reducible first | exact HK.out | apply KeepBut.set_ | apply keep_drewN | apply keep_drew | apply keep_alloc | refine keep_far ?_ GW257.out _ | refine keep_far ?_ GW260.out _) | exact HK.out)) hk (.inl rfl))
      have n4_ := Aside0.mk (hb)
      have n5_ := Aside0.mk (hi)
      clear HO_261008
      clear BK257
      clear BK260
      clear HK
      clear HB
      clear HI0
      have HO_261008 := n0_
      have BK257 := n1_
      have BK260 := n2_
      have HK := n3_
      have HB := n4_
      have HI0 := n5_
      clear n0_ n1_ n2_ n3_ n4_ n5_
      (try clear hb)
      (try clear hb2)
      (try clear hk)
      (try clear hi)
      refine hK.out _ _ (ten_cells BK260.out) (fun hHeld => ?_)
      clear hK K
      refine norm_ (a' := ?_) ?_ ?_
      rotate_left
      ·show Act.put _ (some 17) _ = _
       simp only [Act.put, List.setIfInBounds_toArray, List.set_cons_zero, List.set_cons_succ, i64_w, i32_w]
       rfl
      refine one_ (i := 5) (N := some 19) #[true, true, true, true, true, true, false, false, false, false, false] rfl rfl (one_of HT_.out (by kernel_rfl)) (by decide) (fun K hK => ?_)
      refine goes_ Try.func40 (by kernel_rfl) rfl #[.pointer (some ⟨g, 0, none⟩)] (by rfl) rfl rfl (by (try simp only [List.map_toArray, List.map_cons, List.map_nil]); first | done | rfl | (simp only [List.length_drop, List.length_take]; rfl)) ?_
      with_reducible refine (record_reader_num.calls g t264 t265 t266 w0 _ ?side1 ?side2 A14.out).mono ?_
      (case side1 => repeat (first | (with_reducible first | exact HI0.out | apply IsS66.alloc | apply IsS66.drewN | apply IsS66.drew | apply IsS66.set_0 | refine IsS66.far ?_ NB0_257.out _ | refine IsS66.far ?_ NB0_260.out _) | exact HI0.out))
      (case side2 => repeat (first | (with_reducible first | exact HB.out | apply bA | apply bN | apply bD | refine bS ?_ (IsS66.ge HI0.out) | refine bS ?_ GE257.out | refine bS ?_ GE260.out) | exact HB.out))
      rintro e w18 ⟨rfl, hi, hb, hk⟩
      refine ⟨_, rfl, ?_⟩
      have n0_ := Aside0.mk (Kd.R_mono (Kd.R_keep (IsS66.apart (show IsS66 w0 _ g t264 from by repeat (first | (with_reducible first | exact HI0.out | apply IsS66.alloc | apply IsS66.drewN | apply IsS66.drew | apply IsS66.set_0 | refine IsS66.far ?_ NB0_257.out _ | refine IsS66.far ?_ NB0_260.out _) | exact HI0.out)) (by (with_reducible repeat (first | apply rA | apply rN | apply rZ)); exact HO_261008.out) (by decide)) hk (fun _ h => h.2)) (fun _ h => h.1))
      have n1_ := Aside0.mk (KeepBut.blk hk (g' := gb257) (o := .cells #[.int .i64 0, .int .i64 0, .int .i64 0, .int .i64 0, .int .i64 0, .slice none 0 0, .slice none 0 0, .int .i64 0, .slice none 0 0, .slice none 0 0] 30 (0, 0)) (by (with_reducible repeat (first | refine kN ?_ _ | refine kZ ?_ | refine kA ?_ _)); exact BK257.out) NB257_0.out (by simp))
      have n2_ := Aside0.mk (KeepBut.blk hk (g' := gb260) (o := .cells #[.int .i64 t258, .int .i64 0, .int .i64 0, .int .i64 0, .int .i64 0, .slice none 0 0, .slice none 0 0, .int .i64 0, u261008, .slice none 0 0] 30 (0, 0)) (by (with_reducible repeat (first | refine kN ?_ _ | refine kZ ?_ | refine kA ?_ _)); exact BK260.out) NB260_0.out (by simp))
      have n3_ := Aside0.mk (KeepBut.trans (by repeat (first | (with_reducible first | exact HK.out | apply KeepBut.set_ | apply keep_drewN | apply keep_drew | apply keep_alloc | refine keep_far ?_ GW257.out _ | refine keep_far ?_ GW260.out _) | exact HK.out)) hk (.inl rfl))
      have n4_ := Aside0.mk (hb)
      have n5_ := Aside0.mk (hi)
      clear HO_261008
      clear BK257
      clear BK260
      clear HK
      clear HB
      clear HI0
      have HO_261008 := n0_
      have BK257 := n1_
      have BK260 := n2_
      have HK := n3_
      have HB := n4_
      have HI0 := n5_
      clear n0_ n1_ n2_ n3_ n4_ n5_
      (try clear hb)
      (try clear hb2)
      (try clear hk)
      (try clear hi)
      refine hK.out _ _ (ten_cells BK260.out) (fun hHeld => ?_)
      clear hK K
      refine norm_ (a' := ?_) ?_ ?_
      rotate_left
      ·show Act.put _ (some 19) _ = _
       simp only [Act.put, List.setIfInBounds_toArray, List.set_cons_zero, List.set_cons_succ, i64_w, i32_w]
       rfl
      refine pure_ (i := 6) (N := some 20) (v := ?_) (a' := ?_) #[true, true, true, true, true, true, true, false, false, false, false] rfl rfl (any_of HT_.out (by kernel_rfl)) (fun _ _ _ h => h) (Or.inl ⟨by rfl, ?_⟩) ?_ ?_
      rotate_left
      ·intro w'
       go_simp
       with_reducible rfl
      rotate_left
      ·simp only [Act.put, List.setIfInBounds_toArray, List.set_cons_zero, List.set_cons_succ, i64_w, i32_w]
       rfl
      refine one_ (i := 7) (N := some 21) #[true, true, true, true, true, true, true, true, false, false, false] rfl rfl (one_of HT_.out (by kernel_rfl)) (by decide) (fun K hK => ?_)
      refine value_ (w1 := ?_) (v := ?_) (by rfl) rfl ?_ ?_
      rotate_left 2
      ·go_simp
       constructor
       ·rfl
       ·rfl
      refine hK.out _ _ (ten_cells (kA BK260.out _)) (fun hHeld => ?_)
      clear hK K
      refine norm_ (a' := ?_) ?_ ?_
      rotate_left
      ·show Act.put _ (some 21) _ = _
       simp only [Act.put, List.setIfInBounds_toArray, List.set_cons_zero, List.set_cons_succ, i64_w, i32_w]
       rfl
      refine one_ (i := 8) (N := some 22) #[true, true, true, true, true, true, true, true, true, false, false] rfl rfl (one_of HT_.out (by kernel_rfl)) (by decide) (fun K hK => ?_)
      refine Kd.R_append_step k54 w.heap.size (by rfl) (.tmp 15) (.tmp 21) 27 54 (.agg #[(.int .i64 0), (.int .i64 0)]) 16 rfl Try.underlying27 info54 rfl (by decide) (by omega) u261008 x261008_1 (⟨t263, t265⟩ : S54) [.int .i64 t263, .int .i64 t265] (fun _ => True) (fun _ => False) rfl rfl ?aP (fun _ hk => hk.elim) ?aF ?aO (Below.refl _ _) ?aS ?aL ?_
      (case aP => exact k54_mkM _ _ _ (⟨t263, t265⟩ : S54))
      (case aF => exact (fun _ _ => trivial))
      (case aO => exact (by (with_reducible repeat (first | apply rA | apply rN | apply rZ)); exact HO_261008.out))
      (case aS => exact (keep_size (w := w) (g := g) (row := none) (by repeat (first | (with_reducible first | exact HK.out | apply KeepBut.set_ | apply keep_drewN | apply keep_drew | apply keep_alloc | refine keep_far ?_ GW257.out _ | refine keep_far ?_ GW260.out _) | exact HK.out))))
      (case aL => have := LMc15.out; omega)
      intro v268 w19 ho hb hg hat
      rw [← Ny267.out] at ho
      have n0_ := Aside0.mk (blk_grown (g := gb257) (o := .cells #[.int .i64 0, .int .i64 0, .int .i64 0, .int .i64 0, .int .i64 0, .slice none 0 0, .slice none 0 0, .int .i64 0, .slice none 0 0, .slice none 0 0] 30 (0, 0)) (by (with_reducible repeat (first | refine kN ?_ _ | refine kZ ?_ | refine kA ?_ _)); exact BK257.out) hg (Kd.R_ne HO_261008.out BK257.out (by decide)))
      have n1_ := Aside0.mk (blk_grown (g := gb260) (o := .cells #[.int .i64 t258, .int .i64 0, .int .i64 0, .int .i64 0, .int .i64 0, .slice none 0 0, .slice none 0 0, .int .i64 0, u261008, .slice none 0 0] 30 (0, 0)) (by (with_reducible repeat (first | refine kN ?_ _ | refine kZ ?_ | refine kA ?_ _)); exact BK260.out) hg (Kd.R_ne HO_261008.out BK260.out (by decide)))
      have n2_ := Aside0.mk (IsS66.grown (by repeat (first | (with_reducible first | exact HI0.out | apply IsS66.alloc | apply IsS66.drewN | apply IsS66.drew | apply IsS66.set_0 | refine IsS66.far ?_ NB0_257.out _ | refine IsS66.far ?_ NB0_260.out _) | exact HI0.out)) hg (IsS66.own_ne HI0.out HO_261008.out (by decide)))
      have n3_ := Aside0.mk (below_weaken (by repeat (first | (with_reducible first | exact HB.out | apply bA | apply bN | apply bD | refine bS ?_ (IsS66.ge HI0.out) | refine bS ?_ GE257.out | refine bS ?_ GE260.out) | exact HB.out)) HL.out hb)
      have n4_ := Aside0.mk (KeepBut.trans (by repeat (first | (with_reducible first | exact HK.out | apply KeepBut.set_ | apply keep_drewN | apply keep_drew | apply keep_alloc | refine keep_far ?_ GW257.out _ | refine keep_far ?_ GW260.out _) | exact HK.out)) (KeepBut.of_grown hg g) (Kd.R_base2 HO_261008.out))
      have n5_ := Aside0.mk (ho)
      clear BK257
      clear BK260
      clear HI0
      clear HB
      clear HK
      clear HO_261008
      have BK257 := n0_
      have BK260 := n1_
      have HI0 := n2_
      have HB := n3_
      have HK := n4_
      have HO269 := n5_
      clear n0_ n1_ n2_ n3_ n4_ n5_
      clear ho hb hg hat
      obtain ⟨Ao20, co20, eo20⟩ := Kd.R_slice HO269.out
      (first | subst eo20 | (injection eo20 with f1_ f2_ f3_; have f4_ := f1_.symm; have f5_ := f3_.symm; clear f1_ f2_ f3_; subst f4_; subst f5_))
      refine hK.out _ _ (ten_cells BK260.out) (fun hHeld => ?_)
      clear hK K
      refine norm_ (a' := ?_) ?_ ?_
      rotate_left
      ·show Act.put _ (some 22) _ = _
       simp only [Act.put, List.setIfInBounds_toArray, List.set_cons_zero, List.set_cons_succ, i64_w, i32_w]
       rfl
      refine pure_ (i := 9) (N := some 23) (v := ?_) (a' := ?_) #[true, true, true, true, true, true, true, true, true, true, false] rfl rfl (any_of HT_.out (by kernel_rfl)) (fun _ _ _ h => h) (Or.inl ⟨by rfl, ?_⟩) ?_ ?_
      rotate_left
      ·intro w'
       go_simp
       with_reducible rfl
      rotate_left
      ·simp only [Act.put, List.setIfInBounds_toArray, List.set_cons_zero, List.set_cons_succ, i64_w, i32_w]
       rfl
      refine last_ (i := 10) (N := none) #[true, true, true, true, true, true, true, true, true, true, true] rfl rfl (one_of HT_.out (by kernel_rfl)) (by decide) (fun K hK => ?_)
      have hs21 : w19.cell? ⟨gb260, 8, none⟩ = some (u261008) := (blk_cell BK260.out 8).trans rfl
      have hfs21 := blk_frozen BK260.out 8
      have hns21_0 := NB257_260.out
      have hms21_0 := NB260_257.out
      refine skip_ (w1 := ?_) (by rfl) rfl ?_ ?_
      rotate_left
      ·go_simp
       rfl
      refine hK.out _ _ ?_
      clear hK K
      refine done_ (done_of HT_.out (by kernel_rfl)) ?_
      try go_wp2
      go_roundg k1
      case measure => have := HK1.out; omega
      case rel => exact ⟨(wrap64 (x12_1 + 1)), (t266), (y267), (.slice Ao20 y267.length co20), (by first | rfl | (simp; done) | (simp [*]; done)), H', ⟨by have := HK1.out; omega⟩, ⟨by (with_reducible repeat (first | apply rA | apply rN | apply rZ)); exact Kd.R_mono (Kd.R_far (p := ⟨gb260, 8, none⟩) (Kd.R_types HO269.out BK260.out (by decide)) (fun _ hk => hk.2) (.slice Ao20 y267.length co20)) (fun _ hk => trivial)⟩, ⟨by (with_reducible repeat (first | refine kN ?_ _ | refine kZ ?_ | refine kA ?_ _)); refine blk_far ?_ NB257_260.out _; (with_reducible repeat (first | refine kN ?_ _ | refine kZ ?_ | refine kA ?_ _)); exact BK257.out⟩, ⟨by (with_reducible repeat (first | refine kN ?_ _ | refine kZ ?_ | refine kA ?_ _)); refine blk_put (cs := #[.int .i64 t258, .int .i64 0, .int .i64 0, .int .i64 0, .int .i64 0, .slice none 0 0, .slice none 0 0, .int .i64 0, u261008, .slice none 0 0]) ?_ 8 _ rfl; (with_reducible repeat (first | refine kN ?_ _ | refine kZ ?_ | refine kA ?_ _)); exact BK260.out⟩, ⟨by repeat (first | (with_reducible first | exact HI0.out | apply IsS66.alloc | apply IsS66.drewN | apply IsS66.drew | apply IsS66.set_0 | refine IsS66.far ?_ NB0_257.out _ | refine IsS66.far ?_ NB0_260.out _) | exact HI0.out)⟩, ⟨by repeat (first | (with_reducible first | exact HK.out | apply KeepBut.set_ | apply keep_drewN | apply keep_drew | apply keep_alloc | refine keep_far ?_ GW257.out _ | refine keep_far ?_ GW260.out _) | exact HK.out)⟩, ⟨by repeat (first | (with_reducible first | exact HB.out | apply bA | apply bN | apply bD | refine bS ?_ (IsS66.ge HI0.out) | refine bS ?_ GE257.out | refine bS ?_ GE260.out) | exact HB.out)⟩⟩
     ·rw [if_neg c15] at H
      exact absurd H (by simp)
    ·rw [if_neg c12] at H
     have c12b0 : decide (x12_1 < t261) = false := decide_eq_false c12
     clear c12
     replace H := Option.bind_eq_some_iff.mp H
     obtain ⟨⟨t270, t271⟩, A220, H⟩ := H
     replace H : (record_reader_read.l1 k1 t270 0 t271 t258 0 0 0 0 0 x261008_1 ([] : List (S56))) = some (r1, r2, r3, r4, r5, r6, r7, r8, r9, r10, r11) := H
     have A22 := Aside0.mk A220
     clear A220
     have H' := Aside0.mk H
     clear H
     go_wp2_with (first | ((with_reducible refine gate_callee (f := 41) rfl ?_); refine goesL_ (some 26) rfl rfl Try.func41 (by kernel_rfl) rfl #[.pointer (some ⟨g, 0, none⟩), .int .i64 4] rfl (by (try simp only [List.map_toArray, List.map_cons, List.map_nil]); first | done | rfl | (simp only [List.length_drop, List.length_take]; rfl)) ?_; (with_reducible refine (record_reader_count.calls g x1000_1 4 t270 t271 w0 _ ?side1 ?side2 A22.out).mono ?_); (case side1 => repeat (first | (with_reducible first | exact HI0.out | apply IsS66.alloc | apply IsS66.drewN | apply IsS66.drew | apply IsS66.set_0 | refine IsS66.far ?_ NB0_257.out _ | refine IsS66.far ?_ NB0_260.out _) | exact HI0.out)); (case side2 => repeat (first | (with_reducible first | exact HB.out | apply bA | apply bN | apply bD | refine bS ?_ (IsS66.ge HI0.out) | refine bS ?_ GE257.out | refine bS ?_ GE260.out) | exact HB.out)); rintro e w23 ⟨rfl, hi, hb, hk⟩; refine ⟨_, rfl, ?_⟩; have n0_ := Aside0.mk (Kd.R_mono (Kd.R_keep (IsS66.apart (show IsS66 w0 _ g x1000_1 from by repeat (first | (with_reducible first | exact HI0.out | apply IsS66.alloc | apply IsS66.drewN | apply IsS66.drew | apply IsS66.set_0 | refine IsS66.far ?_ NB0_257.out _ | refine IsS66.far ?_ NB0_260.out _) | exact HI0.out)) (by (with_reducible repeat (first | apply rA | apply rN | apply rZ)); exact HO_261008.out) (by decide)) hk (fun _ h => h.2)) (fun _ h => h.1)); have n1_ := Aside0.mk (KeepBut.blk hk (g' := gb257) (o := .cells #[.int .i64 0, .int .i64 0, .int .i64 0, .int .i64 0, .int .i64 0, .slice none 0 0, .slice none 0 0, .int .i64 0, .slice none 0 0, .slice none 0 0] 30 (0, 0)) (by (with_reducible repeat (first | refine kN ?_ _ | refine kZ ?_ | refine kA ?_ _)); exact BK257.out) NB257_0.out (by simp)); have n2_ := Aside0.mk (KeepBut.blk hk (g' := gb260) (o := .cells #[.int .i64 t258, .int .i64 0, .int .i64 0, .int .i64 0, .int .i64 0, .slice none 0 0, .slice none 0 0, .int .i64 0, u261008, .slice none 0 0] 30 (0, 0)) (by (with_reducible repeat (first | refine kN ?_ _ | refine kZ ?_ | refine kA ?_ _)); exact BK260.out) NB260_0.out (by simp)); have n3_ := Aside0.mk (KeepBut.trans (by repeat (first | (with_reducible first | exact HK.out | apply KeepBut.set_ | apply keep_drewN | apply keep_drew | apply keep_alloc | refine keep_far ?_ GW257.out _ | refine keep_far ?_ GW260.out _) | exact HK.out)) hk (.inl rfl)); have n4_ := Aside0.mk (hb); have n5_ := Aside0.mk (hi); clear HO_261008; clear BK257; clear BK260; clear HK; clear HB; clear HI0; have HO_261008 := n0_; have BK257 := n1_; have BK260 := n2_; have HK := n3_; have HB := n4_; have HI0 := n5_; clear n0_ n1_ n2_ n3_ n4_ n5_; (try clear hb); (try clear hb2); (try clear hk); (try clear hi)))
     go_loopg [27] k1 (fun kq v27 w' => ∃ (x27_2 : Int) (x1000_2 : View) (x261009_2 : List (S56)) (u261009 : Value), v27 = .int .i64 x27_2 ∧ Aside0 (record_reader_read.l1 kq t270 x27_2 x1000_2 t258 0 0 0 0 0 x261008_1 x261009_2 = some (r1, r2, r3, r4, r5, r6, r7, r8, r9, r10, r11)) ∧ Aside0 (kq ≤ k1) ∧ Aside0 (Kd.R k54 54 w' w.heap.size (fun _ => True) u261008 x261008_1) ∧ Aside0 (Kd.R k56 56 w' w.heap.size (fun _ => True) u261009 x261009_2) ∧ Aside0 (w'.heap[gb257]? = some (.cells #[.int .i64 0, .int .i64 0, .int .i64 0, .int .i64 0, .int .i64 0, (.slice none 0 0), (.slice none 0 0), .int .i64 0, (.slice none 0 0), (.slice none 0 0)] 30 (0, 0))) ∧ Aside0 (w'.heap[gb260]? = some (.cells #[.int .i64 t258, .int .i64 0, .int .i64 0, .int .i64 0, .int .i64 0, (.slice none 0 0), (.slice none 0 0), .int .i64 0, u261008, u261009] 30 (0, 0))) ∧ Aside0 (IsS66 w0 w' g x1000_2) ∧ Aside0 (KeepBut w w' g none) ∧ Aside0 (Below w0.heap.size w0 w'))
     case atStart => exact ⟨(0), (t271), (([] : List (S56))), (.slice none 0 0), (by first | rfl | (simp; done) | (simp [*]; done)), H', ⟨Nat.le_refl _⟩, ⟨by (with_reducible repeat (first | apply rA | apply rN | apply rZ)); exact HO_261008.out⟩, ⟨by first | exact Kd.R_nil _ _ _ _ _ | exact Kd.N_nil _ _ _ _ _ | exact Kd.V_nil _ _ _ _ _ | exact Kd.Q_nil _ _ _ _ _ | exact Kd.S_nil _ _ _ _ _⟩, ⟨by (with_reducible repeat (first | refine kN ?_ _ | refine kZ ?_ | refine kA ?_ _)); exact BK257.out⟩, ⟨by (with_reducible repeat (first | refine kN ?_ _ | refine kZ ?_ | refine kA ?_ _)); exact BK260.out⟩, ⟨by repeat (first | (with_reducible first | exact HI0.out | apply IsS66.alloc | apply IsS66.drewN | apply IsS66.drew | apply IsS66.set_0 | refine IsS66.far ?_ NB0_257.out _ | refine IsS66.far ?_ NB0_260.out _) | exact HI0.out)⟩, ⟨by repeat (first | (with_reducible first | exact HK.out | apply KeepBut.set_ | apply keep_drewN | apply keep_drew | apply keep_alloc | refine keep_far ?_ GW257.out _ | refine keep_far ?_ GW260.out _) | exact HK.out)⟩, ⟨by repeat (first | (with_reducible first | exact HB.out | apply bA | apply bN | apply bD | refine bS ?_ (IsS66.ge HI0.out) | refine bS ?_ GE257.out | refine bS ?_ GE260.out) | exact HB.out)⟩⟩
     case round =>
      clear H'
      try clear c1
      try clear c2
      try clear p2
      try clear c3
      try clear c3b0
      try clear c3b1
      try clear c4
      try clear p6
      try clear c8
      try clear c9
      try clear c12
      try clear c12b0
      try clear c15
      try clear hcz10_0 hcz10_1 hcz10_2 hcz10_3 hcz10_4 hcz10_5 hcz10_6 hcz10_7 hcz10_8 hcz10_9
      try clear hfz10
      try clear p2
      obtain ⟨x27_2, x1000_2, x261009_2, u261009, rfl, HA, HK2, HO_261008, HO_261009, BK257, BK260, HI0, HK, HB⟩ := hrel
      cases gk with
      | zero => exact absurd HA.out (by simp [record_reader_read.l1])
      | succ k2 =>
       have H := HA.out
       clear HA
       simp only [record_reader_read.l1] at H
       by_cases c24 : x27_2 < t270
       ·rw [if_pos c24] at H
        have c24b0 : decide (x27_2 < t270) = true := decide_eq_true c24
        clear c24
        replace H := Option.bind_eq_some_iff.mp H
        obtain ⟨⟨t272, t273⟩, A250, H⟩ := H
        replace H : ((record_reader_num.f t273).bind fun bt274 => ((record_reader_num.f bt274.2).bind fun bt276 => ((record_reader_num.f bt276.2).bind fun bt278 => (if x261009_2.length < 4398046511104 then (record_reader_read.l1 k2 t270 (wrap64 (x27_2 + 1)) bt278.2 t258 0 0 0 0 0 x261008_1 (x261009_2 ++ [(⟨t272, bt274.1, bt276.1, bt278.1⟩ : S56)])) else (none))))) = some (r1, r2, r3, r4, r5, r6, r7, r8, r9, r10, r11) := H
        have A25 := Aside0.mk A250
        clear A250
        replace H := Option.bind_eq_some_iff.mp H
        obtain ⟨⟨t274, t275⟩, A260, H⟩ := H
        replace H : ((record_reader_num.f t275).bind fun bt276 => ((record_reader_num.f bt276.2).bind fun bt278 => (if x261009_2.length < 4398046511104 then (record_reader_read.l1 k2 t270 (wrap64 (x27_2 + 1)) bt278.2 t258 0 0 0 0 0 x261008_1 (x261009_2 ++ [(⟨t272, t274, bt276.1, bt278.1⟩ : S56)])) else (none)))) = some (r1, r2, r3, r4, r5, r6, r7, r8, r9, r10, r11) := H
        have A26 := Aside0.mk A260
        clear A260
        replace H := Option.bind_eq_some_iff.mp H
        obtain ⟨⟨t276, t277⟩, A270, H⟩ := H
        replace H : ((record_reader_num.f t277).bind fun bt278 => (if x261009_2.length < 4398046511104 then (record_reader_read.l1 k2 t270 (wrap64 (x27_2 + 1)) bt278.2 t258 0 0 0 0 0 x261008_1 (x261009_2 ++ [(⟨t272, t274, t276, bt278.1⟩ : S56)])) else (none))) = some (r1, r2, r3, r4, r5, r6, r7, r8, r9, r10, r11) := H
        have A27 := Aside0.mk A270
        clear A270
        replace H := Option.bind_eq_some_iff.mp H
        obtain ⟨⟨t278, t279⟩, A280, H⟩ := H
        replace H : (if x261009_2.length < 4398046511104 then (record_reader_read.l1 k2 t270 (wrap64 (x27_2 + 1)) t279 t258 0 0 0 0 0 x261008_1 (x261009_2 ++ [(⟨t272, t274, t276, t278⟩ : S56)])) else (none)) = some (r1, r2, r3, r4, r5, r6, r7, r8, r9, r10, r11) := H
        have A28 := Aside0.mk A280
        clear A280
        by_cases c29 : x261009_2.length < 4398046511104
        ·rw [if_pos c29] at H
         have LMc29 := Aside0.mk c29
         clear c29
         obtain ⟨y280, hy280⟩ : ∃ y_ : List (S56), y_ = (x261009_2 ++ [(⟨t272, t274, t276, t278⟩ : S56)]) := ⟨_, rfl⟩
         replace H : (record_reader_read.l1 k2 t270 (wrap64 (x27_2 + 1)) t279 t258 0 0 0 0 0 x261008_1 y280) = some (r1, r2, r3, r4, r5, r6, r7, r8, r9, r10, r11) := by first | (rw [hy280]; with_reducible exact H) | (have H2_ := (Option.bind_some _ _).symm.trans H; rw [hy280]; with_reducible exact H2_) | (have H2_ := (Option.bind_some _ _).symm.trans H; with_reducible exact H2_) | with_reducible exact H | (rw [hy280]; exact H) | exact H
         have Ny280 := Aside0.mk hy280
         clear hy280
         have H' := Aside0.mk H
         clear H
         try go_wp2
         have n0_ := Aside0.mk (rZ HO_261008.out)
         have n1_ := Aside0.mk (rZ HO_261009.out)
         have n2_ := Aside0.mk (kZ BK257.out)
         have n3_ := Aside0.mk (kZ BK260.out)
         have n4_ := Aside0.mk (IsS66.drew HI0.out)
         have n5_ := Aside0.mk (keep_drew HK.out)
         have n6_ := Aside0.mk (bD HB.out)
         clear HO_261008
         clear HO_261009
         clear BK257
         clear BK260
         clear HI0
         clear HK
         clear HB
         have HO_261008 := n0_
         have HO_261009 := n1_
         have BK257 := n2_
         have BK260 := n3_
         have HI0 := n4_
         have HK := n5_
         have HB := n6_
         clear n0_ n1_ n2_ n3_ n4_ n5_ n6_
         refine start_ (n := 15) (S := fun w' => w'.cell? ⟨gb260, 0, none⟩ = some (.int .i64 t258) ∧ w'.cell? ⟨gb260, 1, none⟩ = some (.int .i64 0) ∧ w'.cell? ⟨gb260, 2, none⟩ = some (.int .i64 0) ∧ w'.cell? ⟨gb260, 3, none⟩ = some (.int .i64 0) ∧ w'.cell? ⟨gb260, 4, none⟩ = some (.int .i64 0) ∧ w'.cell? ⟨gb260, 5, none⟩ = some (.slice none 0 0) ∧ w'.cell? ⟨gb260, 6, none⟩ = some (.slice none 0 0) ∧ w'.cell? ⟨gb260, 7, none⟩ = some (.int .i64 0) ∧ w'.cell? ⟨gb260, 8, none⟩ = some (u261008) ∧ w'.cell? ⟨gb260, 9, none⟩ = some (u261009)) (ds := [14]) #[false, false, false, false, false, false, false, false, false, false, false, false, false, false, false] (by kernel_rfl) rfl rfl (ten_cells BK260.out) (fun hHeld => ?_); refine with_tabW record_reader_read.tab9 record_reader_read.bits9 (fun HT_ HW_ => ?_)
         generalize wr.drew = w30 at HO_261008 HO_261009 BK257 BK260 HI0 HK HB hHeld ⊢
         refine pure_ (i := 0) (N := some 29) (v := ?_) (a' := ?_) #[true, false, false, false, false, false, false, false, false, false, false, false, false, false, false] rfl rfl (any_of HT_.out (by kernel_rfl)) (fun _ _ _ h => h) (Or.inl ⟨by rfl, ?_⟩) ?_ ?_
         rotate_left
         ·intro w'
          go_simp
          with_reducible rfl
         rotate_left
         ·simp only [Act.put, List.setIfInBounds_toArray, List.set_cons_zero, List.set_cons_succ, i64_w, i32_w]
          rfl
         refine pure_ (i := 2) (N := some 31) (v := ?_) (a' := ?_) #[true, false, true, false, false, false, false, false, false, false, false, false, false, false, false] rfl rfl (any_of HT_.out (by kernel_rfl)) (fun _ _ _ h => h) (Or.inl ⟨by rfl, ?_⟩) ?_ ?_
         rotate_left
         ·intro w'
          go_simp
          with_reducible rfl
         rotate_left
         ·simp only [Act.put, List.setIfInBounds_toArray, List.set_cons_zero, List.set_cons_succ, i64_w, i32_w]
          rfl
         refine pure_ (i := 4) (N := some 33) (v := ?_) (a' := ?_) #[true, false, true, false, true, false, false, false, false, false, false, false, false, false, false] rfl rfl (any_of HT_.out (by kernel_rfl)) (fun _ _ _ h => h) (Or.inl ⟨by rfl, ?_⟩) ?_ ?_
         rotate_left
         ·intro w'
          go_simp
          with_reducible rfl
         rotate_left
         ·simp only [Act.put, List.setIfInBounds_toArray, List.set_cons_zero, List.set_cons_succ, i64_w, i32_w]
          rfl
         refine pure_ (i := 6) (N := some 35) (v := ?_) (a' := ?_) #[true, false, true, false, true, false, true, false, false, false, false, false, false, false, false] rfl rfl (any_of HT_.out (by kernel_rfl)) (fun _ _ _ h => h) (Or.inl ⟨by rfl, ?_⟩) ?_ ?_
         rotate_left
         ·intro w'
          go_simp
          with_reducible rfl
         rotate_left
         ·simp only [Act.put, List.setIfInBounds_toArray, List.set_cons_zero, List.set_cons_succ, i64_w, i32_w]
          rfl
         refine pure_ (i := 8) (N := some 37) (v := ?_) (a' := ?_) #[true, false, true, false, true, false, true, false, true, false, false, false, false, false, false] rfl rfl (any_of HT_.out (by kernel_rfl)) (fun _ _ _ h => h) (Or.inl ⟨by rfl, ?_⟩) ?_ ?_
         rotate_left
         ·intro w'
          go_simp
          with_reducible rfl
         rotate_left
         ·simp only [Act.put, List.setIfInBounds_toArray, List.set_cons_zero, List.set_cons_succ, i64_w, i32_w]
          rfl
         refine take_ (i := 1) (N := some 30) (v := ?_) (a' := ?_) #[true, true, true, false, true, false, true, false, true, false, false, false, false, false, false] rfl rfl (take_ofW HT_.out HW_.out (by kernel_rfl)) (fun _ _ _ h => h) (Or.inl ⟨by rfl, ?_⟩) hHeld ?_ ?_
         rotate_left
         ·rintro w' ⟨s0, s1, s2, s3, s4, s5, s6, s7, s8, s9⟩
          go_simp
          with_reducible rfl
         rotate_left
         ·simp only [Act.put, List.setIfInBounds_toArray, List.set_cons_zero, List.set_cons_succ, i64_w, i32_w]
          rfl
         refine one_ (i := 3) (N := some 32) #[true, true, true, true, true, false, true, false, true, false, false, false, false, false, false] rfl rfl (one_of HT_.out (by kernel_rfl)) (by decide) (fun K hK => ?_)
         refine goes_ Try.func40 (by kernel_rfl) rfl #[.pointer (some ⟨g, 0, none⟩)] (by rfl) rfl rfl (by (try simp only [List.map_toArray, List.map_cons, List.map_nil]); first | done | rfl | (simp only [List.length_drop, List.length_take]; rfl)) ?_
         with_reducible refine (record_reader_num.calls g x1000_2 t272 t273 w0 _ ?side1 ?side2 A25.out).mono ?_
         (case side1 => repeat (first | (with_reducible first | exact HI0.out | apply IsS66.alloc | apply IsS66.drewN | apply IsS66.drew | apply IsS66.set_0 | refine IsS66.far ?_ NB0_257.out _ | refine IsS66.far ?_ NB0_260.out _) | exact HI0.out))
         (case side2 => repeat (first | (with_reducible first | exact HB.out | apply bA | apply bN | apply bD | refine bS ?_ (IsS66.ge HI0.out) | refine bS ?_ GE257.out | refine bS ?_ GE260.out) | exact HB.out))
         rintro e w31 ⟨rfl, hi, hb, hk⟩
         refine ⟨_, rfl, ?_⟩
         have n0_ := Aside0.mk (Kd.R_mono (Kd.R_keep (IsS66.apart (show IsS66 w0 _ g x1000_2 from by repeat (first | (with_reducible first | exact HI0.out | apply IsS66.alloc | apply IsS66.drewN | apply IsS66.drew | apply IsS66.set_0 | refine IsS66.far ?_ NB0_257.out _ | refine IsS66.far ?_ NB0_260.out _) | exact HI0.out)) (by (with_reducible repeat (first | apply rA | apply rN | apply rZ)); exact HO_261008.out) (by decide)) hk (fun _ h => h.2)) (fun _ h => h.1))
         have n1_ := Aside0.mk (Kd.R_mono (Kd.R_keep (IsS66.apart (show IsS66 w0 _ g x1000_2 from by repeat (first | (with_reducible first | exact HI0.out | apply IsS66.alloc | apply IsS66.drewN | apply IsS66.drew | apply IsS66.set_0 | refine IsS66.far ?_ NB0_257.out _ | refine IsS66.far ?_ NB0_260.out _) | exact HI0.out)) (by (with_reducible repeat (first | apply rA | apply rN | apply rZ)); exact HO_261009.out) (by decide)) hk (fun _ h => h.2)) (fun _ h => h.1))
         have n2_ := Aside0.mk (KeepBut.blk hk (g' := gb257) (o := .cells #[.int .i64 0, .int .i64 0, .int .i64 0, .int .i64 0, .int .i64 0, .slice none 0 0, .slice none 0 0, .int .i64 0, .slice none 0 0, .slice none 0 0] 30 (0, 0)) (by (with_reducible repeat (first | refine kN ?_ _ | refine kZ ?_ | refine kA ?_ _)); exact BK257.out) NB257_0.out (by simp))
         have n3_ := Aside0.mk (KeepBut.blk hk (g' := gb260) (o := .cells #[.int .i64 t258, .int .i64 0, .int .i64 0, .int .i64 0, .int .i64 0, .slice none 0 0, .slice none 0 0, .int .i64 0, u261008, u261009] 30 (0, 0)) (by (with_reducible repeat (first | refine kN ?_ _ | refine kZ ?_ | refine kA ?_ _)); exact BK260.out) NB260_0.out (by simp))
         have n4_ := Aside0.mk (KeepBut.trans (by repeat (first | (with_reducible first | exact HK.out | apply KeepBut.set_ | apply keep_drewN | apply keep_drew | apply keep_alloc | refine keep_far ?_ GW257.out _ | refine keep_far ?_ GW260.out _) | exact HK.out)) hk (.inl rfl))
         have n5_ := Aside0.mk (hb)
         have n6_ := Aside0.mk (hi)
         clear HO_261008
         clear HO_261009
         clear BK257
         clear BK260
         clear HK
         clear HB
         clear HI0
         have HO_261008 := n0_
         have HO_261009 := n1_
         have BK257 := n2_
         have BK260 := n3_
         have HK := n4_
         have HB := n5_
         have HI0 := n6_
         clear n0_ n1_ n2_ n3_ n4_ n5_ n6_
         (try clear hb)
         (try clear hb2)
         (try clear hk)
         (try clear hi)
         refine hK.out _ _ (ten_cells BK260.out) (fun hHeld => ?_)
         clear hK K
         refine norm_ (a' := ?_) ?_ ?_
         rotate_left
         ·show Act.put _ (some 32) _ = _
          simp only [Act.put, List.setIfInBounds_toArray, List.set_cons_zero, List.set_cons_succ, i64_w, i32_w]
          rfl
         refine one_ (i := 5) (N := some 34) #[true, true, true, true, true, true, true, false, true, false, false, false, false, false, false] rfl rfl (one_of HT_.out (by kernel_rfl)) (by decide) (fun K hK => ?_)
         refine goes_ Try.func40 (by kernel_rfl) rfl #[.pointer (some ⟨g, 0, none⟩)] (by rfl) rfl rfl (by (try simp only [List.map_toArray, List.map_cons, List.map_nil]); first | done | rfl | (simp only [List.length_drop, List.length_take]; rfl)) ?_
         with_reducible refine (record_reader_num.calls g t273 t274 t275 w0 _ ?side1 ?side2 A26.out).mono ?_
         (case side1 => repeat (first | (with_reducible first | exact HI0.out | apply IsS66.alloc | apply IsS66.drewN | apply IsS66.drew | apply IsS66.set_0 | refine IsS66.far ?_ NB0_257.out _ | refine IsS66.far ?_ NB0_260.out _) | exact HI0.out))
         (case side2 => repeat (first | (with_reducible first | exact HB.out | apply bA | apply bN | apply bD | refine bS ?_ (IsS66.ge HI0.out) | refine bS ?_ GE257.out | refine bS ?_ GE260.out) | exact HB.out))
         rintro e w32 ⟨rfl, hi, hb, hk⟩
         refine ⟨_, rfl, ?_⟩
         have n0_ := Aside0.mk (Kd.R_mono (Kd.R_keep (IsS66.apart (show IsS66 w0 _ g t273 from by repeat (first | (with_reducible first | exact HI0.out | apply IsS66.alloc | apply IsS66.drewN | apply IsS66.drew | apply IsS66.set_0 | refine IsS66.far ?_ NB0_257.out _ | refine IsS66.far ?_ NB0_260.out _) | exact HI0.out)) (by (with_reducible repeat (first | apply rA | apply rN | apply rZ)); exact HO_261008.out) (by decide)) hk (fun _ h => h.2)) (fun _ h => h.1))
         have n1_ := Aside0.mk (Kd.R_mono (Kd.R_keep (IsS66.apart (show IsS66 w0 _ g t273 from by repeat (first | (with_reducible first | exact HI0.out | apply IsS66.alloc | apply IsS66.drewN | apply IsS66.drew | apply IsS66.set_0 | refine IsS66.far ?_ NB0_257.out _ | refine IsS66.far ?_ NB0_260.out _) | exact HI0.out)) (by (with_reducible repeat (first | apply rA | apply rN | apply rZ)); exact HO_261009.out) (by decide)) hk (fun _ h => h.2)) (fun _ h => h.1))
         have n2_ := Aside0.mk (KeepBut.blk hk (g' := gb257) (o := .cells #[.int .i64 0, .int .i64 0, .int .i64 0, .int .i64 0, .int .i64 0, .slice none 0 0, .slice none 0 0, .int .i64 0, .slice none 0 0, .slice none 0 0] 30 (0, 0)) (by (with_reducible repeat (first | refine kN ?_ _ | refine kZ ?_ | refine kA ?_ _)); exact BK257.out) NB257_0.out (by simp))
         have n3_ := Aside0.mk (KeepBut.blk hk (g' := gb260) (o := .cells #[.int .i64 t258, .int .i64 0, .int .i64 0, .int .i64 0, .int .i64 0, .slice none 0 0, .slice none 0 0, .int .i64 0, u261008, u261009] 30 (0, 0)) (by (with_reducible repeat (first | refine kN ?_ _ | refine kZ ?_ | refine kA ?_ _)); exact BK260.out) NB260_0.out (by simp))
         have n4_ := Aside0.mk (KeepBut.trans (by repeat (first | (with_reducible first | exact HK.out | apply KeepBut.set_ | apply keep_drewN | apply keep_drew | apply keep_alloc | refine keep_far ?_ GW257.out _ | refine keep_far ?_ GW260.out _) | exact HK.out)) hk (.inl rfl))
         have n5_ := Aside0.mk (hb)
         have n6_ := Aside0.mk (hi)
         clear HO_261008
         clear HO_261009
         clear BK257
         clear BK260
         clear HK
         clear HB
         clear HI0
         have HO_261008 := n0_
         have HO_261009 := n1_
         have BK257 := n2_
         have BK260 := n3_
         have HK := n4_
         have HB := n5_
         have HI0 := n6_
         clear n0_ n1_ n2_ n3_ n4_ n5_ n6_
         (try clear hb)
         (try clear hb2)
         (try clear hk)
         (try clear hi)
         refine hK.out _ _ (ten_cells BK260.out) (fun hHeld => ?_)
         clear hK K
         refine norm_ (a' := ?_) ?_ ?_
         rotate_left
         ·show Act.put _ (some 34) _ = _
          simp only [Act.put, List.setIfInBounds_toArray, List.set_cons_zero, List.set_cons_succ, i64_w, i32_w]
          rfl
         refine one_ (i := 7) (N := some 36) #[true, true, true, true, true, true, true, true, true, false, false, false, false, false, false] rfl rfl (one_of HT_.out (by kernel_rfl)) (by decide) (fun K hK => ?_)
         refine goes_ Try.func40 (by kernel_rfl) rfl #[.pointer (some ⟨g, 0, none⟩)] (by rfl) rfl rfl (by (try simp only [List.map_toArray, List.map_cons, List.map_nil]); first | done | rfl | (simp only [List.length_drop, List.length_take]; rfl)) ?_
         with_reducible refine (record_reader_num.calls g t275 t276 t277 w0 _ ?side1 ?side2 A27.out).mono ?_
         (case side1 => repeat (first | (with_reducible first | exact HI0.out | apply IsS66.alloc | apply IsS66.drewN | apply IsS66.drew | apply IsS66.set_0 | refine IsS66.far ?_ NB0_257.out _ | refine IsS66.far ?_ NB0_260.out _) | exact HI0.out))
         (case side2 => repeat (first | (with_reducible first | exact HB.out | apply bA | apply bN | apply bD | refine bS ?_ (IsS66.ge HI0.out) | refine bS ?_ GE257.out | refine bS ?_ GE260.out) | exact HB.out))
         rintro e w33 ⟨rfl, hi, hb, hk⟩
         refine ⟨_, rfl, ?_⟩
         have n0_ := Aside0.mk (Kd.R_mono (Kd.R_keep (IsS66.apart (show IsS66 w0 _ g t275 from by repeat (first | (with_reducible first | exact HI0.out | apply IsS66.alloc | apply IsS66.drewN | apply IsS66.drew | apply IsS66.set_0 | refine IsS66.far ?_ NB0_257.out _ | refine IsS66.far ?_ NB0_260.out _) | exact HI0.out)) (by (with_reducible repeat (first | apply rA | apply rN | apply rZ)); exact HO_261008.out) (by decide)) hk (fun _ h => h.2)) (fun _ h => h.1))
         have n1_ := Aside0.mk (Kd.R_mono (Kd.R_keep (IsS66.apart (show IsS66 w0 _ g t275 from by repeat (first | (with_reducible first | exact HI0.out | apply IsS66.alloc | apply IsS66.drewN | apply IsS66.drew | apply IsS66.set_0 | refine IsS66.far ?_ NB0_257.out _ | refine IsS66.far ?_ NB0_260.out _) | exact HI0.out)) (by (with_reducible repeat (first | apply rA | apply rN | apply rZ)); exact HO_261009.out) (by decide)) hk (fun _ h => h.2)) (fun _ h => h.1))
         have n2_ := Aside0.mk (KeepBut.blk hk (g' := gb257) (o := .cells #[.int .i64 0, .int .i64 0, .int .i64 0, .int .i64 0, .int .i64 0, .slice none 0 0, .slice none 0 0, .int .i64 0, .slice none 0 0, .slice none 0 0] 30 (0, 0)) (by (with_reducible repeat (first | refine kN ?_ _ | refine kZ ?_ | refine kA ?_ _)); exact BK257.out) NB257_0.out (by simp))
         have n3_ := Aside0.mk (KeepBut.blk hk (g' := gb260) (o := .cells #[.int .i64 t258, .int .i64 0, .int .i64 0, .int .i64 0, .int .i64 0, .slice none 0 0, .slice none 0 0, .int .i64 0, u261008, u261009] 30 (0, 0)) (by (with_reducible repeat (first | refine kN ?_ _ | refine kZ ?_ | refine kA ?_ _)); exact BK260.out) NB260_0.out (by simp))
         have n4_ := Aside0.mk (KeepBut.trans (by repeat (first | (with_reducible first | exact HK.out | apply KeepBut.set_ | apply keep_drewN | apply keep_drew | apply keep_alloc | refine keep_far ?_ GW257.out _ | refine keep_far ?_ GW260.out _) | exact HK.out)) hk (.inl rfl))
         have n5_ := Aside0.mk (hb)
         have n6_ := Aside0.mk (hi)
         clear HO_261008
         clear HO_261009
         clear BK257
         clear BK260
         clear HK
         clear HB
         clear HI0
         have HO_261008 := n0_
         have HO_261009 := n1_
         have BK257 := n2_
         have BK260 := n3_
         have HK := n4_
         have HB := n5_
         have HI0 := n6_
         clear n0_ n1_ n2_ n3_ n4_ n5_ n6_
         (try clear hb)
         (try clear hb2)
         (try clear hk)
         (try clear hi)
         refine hK.out _ _ (ten_cells BK260.out) (fun hHeld => ?_)
         clear hK K
         refine norm_ (a' := ?_) ?_ ?_
         rotate_left
         ·show Act.put _ (some 36) _ = _
          simp only [Act.put, List.setIfInBounds_toArray, List.set_cons_zero, List.set_cons_succ, i64_w, i32_w]
          rfl
         refine one_ (i := 9) (N := some 38) #[true, true, true, true, true, true, true, true, true, true, false, false, false, false, false] rfl rfl (one_of HT_.out (by kernel_rfl)) (by decide) (fun K hK => ?_)
         refine goes_ Try.func40 (by kernel_rfl) rfl #[.pointer (some ⟨g, 0, none⟩)] (by rfl) rfl rfl (by (try simp only [List.map_toArray, List.map_cons, List.map_nil]); first | done | rfl | (simp only [List.length_drop, List.length_take]; rfl)) ?_
         with_reducible refine (record_reader_num.calls g t277 t278 t279 w0 _ ?side1 ?side2 A28.out).mono ?_
         (case side1 => repeat (first | (with_reducible first | exact HI0.out | apply IsS66.alloc | apply IsS66.drewN | apply IsS66.drew | apply IsS66.set_0 | refine IsS66.far ?_ NB0_257.out _ | refine IsS66.far ?_ NB0_260.out _) | exact HI0.out))
         (case side2 => repeat (first | (with_reducible first | exact HB.out | apply bA | apply bN | apply bD | refine bS ?_ (IsS66.ge HI0.out) | refine bS ?_ GE257.out | refine bS ?_ GE260.out) | exact HB.out))
         rintro e w34 ⟨rfl, hi, hb, hk⟩
         refine ⟨_, rfl, ?_⟩
         have n0_ := Aside0.mk (Kd.R_mono (Kd.R_keep (IsS66.apart (show IsS66 w0 _ g t277 from by repeat (first | (with_reducible first | exact HI0.out | apply IsS66.alloc | apply IsS66.drewN | apply IsS66.drew | apply IsS66.set_0 | refine IsS66.far ?_ NB0_257.out _ | refine IsS66.far ?_ NB0_260.out _) | exact HI0.out)) (by (with_reducible repeat (first | apply rA | apply rN | apply rZ)); exact HO_261008.out) (by decide)) hk (fun _ h => h.2)) (fun _ h => h.1))
         have n1_ := Aside0.mk (Kd.R_mono (Kd.R_keep (IsS66.apart (show IsS66 w0 _ g t277 from by repeat (first | (with_reducible first | exact HI0.out | apply IsS66.alloc | apply IsS66.drewN | apply IsS66.drew | apply IsS66.set_0 | refine IsS66.far ?_ NB0_257.out _ | refine IsS66.far ?_ NB0_260.out _) | exact HI0.out)) (by (with_reducible repeat (first | apply rA | apply rN | apply rZ)); exact HO_261009.out) (by decide)) hk (fun _ h => h.2)) (fun _ h => h.1))
         have n2_ := Aside0.mk (KeepBut.blk hk (g' := gb257) (o := .cells #[.int .i64 0, .int .i64 0, .int .i64 0, .int .i64 0, .int .i64 0, .slice none 0 0, .slice none 0 0, .int .i64 0, .slice none 0 0, .slice none 0 0] 30 (0, 0)) (by (with_reducible repeat (first | refine kN ?_ _ | refine kZ ?_ | refine kA ?_ _)); exact BK257.out) NB257_0.out (by simp))
         have n3_ := Aside0.mk (KeepBut.blk hk (g' := gb260) (o := .cells #[.int .i64 t258, .int .i64 0, .int .i64 0, .int .i64 0, .int .i64 0, .slice none 0 0, .slice none 0 0, .int .i64 0, u261008, u261009] 30 (0, 0)) (by (with_reducible repeat (first | refine kN ?_ _ | refine kZ ?_ | refine kA ?_ _)); exact BK260.out) NB260_0.out (by simp))
         have n4_ := Aside0.mk (KeepBut.trans (by repeat (first | (with_reducible first | exact HK.out | apply KeepBut.set_ | apply keep_drewN | apply keep_drew | apply keep_alloc | refine keep_far ?_ GW257.out _ | refine keep_far ?_ GW260.out _) | exact HK.out)) hk (.inl rfl))
         have n5_ := Aside0.mk (hb)
         have n6_ := Aside0.mk (hi)
         clear HO_261008
         clear HO_261009
         clear BK257
         clear BK260
         clear HK
         clear HB
         clear HI0
         have HO_261008 := n0_
         have HO_261009 := n1_
         have BK257 := n2_
         have BK260 := n3_
         have HK := n4_
         have HB := n5_
         have HI0 := n6_
         clear n0_ n1_ n2_ n3_ n4_ n5_ n6_
         (try clear hb)
         (try clear hb2)
         (try clear hk)
         (try clear hi)
         refine hK.out _ _ (ten_cells BK260.out) (fun hHeld => ?_)
         clear hK K
         refine norm_ (a' := ?_) ?_ ?_
         rotate_left
         ·show Act.put _ (some 38) _ = _
          simp only [Act.put, List.setIfInBounds_toArray, List.set_cons_zero, List.set_cons_succ, i64_w, i32_w]
          rfl
         refine pure_ (i := 10) (N := some 39) (v := ?_) (a' := ?_) #[true, true, true, true, true, true, true, true, true, true, true, false, false, false, false] rfl rfl (any_of HT_.out (by kernel_rfl)) (fun _ _ _ h => h) (Or.inl ⟨by rfl, ?_⟩) ?_ ?_
         rotate_left
         ·intro w'
          go_simp
          with_reducible rfl
         rotate_left
         ·simp only [Act.put, List.setIfInBounds_toArray, List.set_cons_zero, List.set_cons_succ, i64_w, i32_w]
          rfl
         refine one_ (i := 11) (N := some 40) #[true, true, true, true, true, true, true, true, true, true, true, true, false, false, false] rfl rfl (one_of HT_.out (by kernel_rfl)) (by decide) (fun K hK => ?_)
         refine value_ (w1 := ?_) (v := ?_) (by rfl) rfl ?_ ?_
         rotate_left 2
         ·go_simp
          constructor
          ·rfl
          ·rfl
         refine hK.out _ _ (ten_cells (kA BK260.out _)) (fun hHeld => ?_)
         clear hK K
         refine norm_ (a' := ?_) ?_ ?_
         rotate_left
         ·show Act.put _ (some 40) _ = _
          simp only [Act.put, List.setIfInBounds_toArray, List.set_cons_zero, List.set_cons_succ, i64_w, i32_w]
          rfl
         refine one_ (i := 12) (N := some 41) #[true, true, true, true, true, true, true, true, true, true, true, true, true, false, false] rfl rfl (one_of HT_.out (by kernel_rfl)) (by decide) (fun K hK => ?_)
         refine Kd.R_append_step k56 w.heap.size (by rfl) (.tmp 30) (.tmp 40) 28 56 (.agg #[(.int .i64 0), (.int .i64 0), (.int .i64 0), (.int .i64 0)]) 32 rfl Try.underlying28 info56 rfl (by decide) (by omega) u261009 x261009_2 (⟨t272, t274, t276, t278⟩ : S56) [.int .i64 t272, .int .i64 t274, .int .i64 t276, .int .i64 t278] (fun _ => True) (fun _ => False) rfl rfl ?aP (fun _ hk => hk.elim) ?aF ?aO (Below.refl _ _) ?aS ?aL ?_
         (case aP => exact k56_mkM _ _ _ (⟨t272, t274, t276, t278⟩ : S56))
         (case aF => exact (fun _ _ => trivial))
         (case aO => exact (by (with_reducible repeat (first | apply rA | apply rN | apply rZ)); exact HO_261009.out))
         (case aS => exact (keep_size (w := w) (g := g) (row := none) (by repeat (first | (with_reducible first | exact HK.out | apply KeepBut.set_ | apply keep_drewN | apply keep_drew | apply keep_alloc | refine keep_far ?_ GW257.out _ | refine keep_far ?_ GW260.out _) | exact HK.out))))
         (case aL => have := LMc29.out; omega)
         intro v281 w35 ho hb hg hat
         rw [← Ny280.out] at ho
         have n0_ := Aside0.mk (Kd.R_over' (by (with_reducible repeat (first | apply rA | apply rN | apply rZ)); exact HO_261008.out) (Kd.R_typed (by (with_reducible repeat (first | apply rA | apply rN | apply rZ)); exact HO_261009.out)) (by decide) hg)
         have n1_ := Aside0.mk (blk_grown (g := gb257) (o := .cells #[.int .i64 0, .int .i64 0, .int .i64 0, .int .i64 0, .int .i64 0, .slice none 0 0, .slice none 0 0, .int .i64 0, .slice none 0 0, .slice none 0 0] 30 (0, 0)) (by (with_reducible repeat (first | refine kN ?_ _ | refine kZ ?_ | refine kA ?_ _)); exact BK257.out) hg (Kd.R_ne HO_261009.out BK257.out (by decide)))
         have n2_ := Aside0.mk (blk_grown (g := gb260) (o := .cells #[.int .i64 t258, .int .i64 0, .int .i64 0, .int .i64 0, .int .i64 0, .slice none 0 0, .slice none 0 0, .int .i64 0, u261008, u261009] 30 (0, 0)) (by (with_reducible repeat (first | refine kN ?_ _ | refine kZ ?_ | refine kA ?_ _)); exact BK260.out) hg (Kd.R_ne HO_261009.out BK260.out (by decide)))
         have n3_ := Aside0.mk (IsS66.grown (by repeat (first | (with_reducible first | exact HI0.out | apply IsS66.alloc | apply IsS66.drewN | apply IsS66.drew | apply IsS66.set_0 | refine IsS66.far ?_ NB0_257.out _ | refine IsS66.far ?_ NB0_260.out _) | exact HI0.out)) hg (IsS66.own_ne HI0.out HO_261009.out (by decide)))
         have n4_ := Aside0.mk (below_weaken (by repeat (first | (with_reducible first | exact HB.out | apply bA | apply bN | apply bD | refine bS ?_ (IsS66.ge HI0.out) | refine bS ?_ GE257.out | refine bS ?_ GE260.out) | exact HB.out)) HL.out hb)
         have n5_ := Aside0.mk (KeepBut.trans (by repeat (first | (with_reducible first | exact HK.out | apply KeepBut.set_ | apply keep_drewN | apply keep_drew | apply keep_alloc | refine keep_far ?_ GW257.out _ | refine keep_far ?_ GW260.out _) | exact HK.out)) (KeepBut.of_grown hg g) (Kd.R_base2 HO_261009.out))
         have n6_ := Aside0.mk (ho)
         clear HO_261008
         clear BK257
         clear BK260
         clear HI0
         clear HB
         clear HK
         clear HO_261009
         have HO_261008 := n0_
         have BK257 := n1_
         have BK260 := n2_
         have HI0 := n3_
         have HB := n4_
         have HK := n5_
         have HO282 := n6_
         clear n0_ n1_ n2_ n3_ n4_ n5_ n6_
         clear ho hb hg hat
         obtain ⟨Ao36, co36, eo36⟩ := Kd.R_slice HO282.out
         (first | subst eo36 | (injection eo36 with f1_ f2_ f3_; have f4_ := f1_.symm; have f5_ := f3_.symm; clear f1_ f2_ f3_; subst f4_; subst f5_))
         refine hK.out _ _ (ten_cells BK260.out) (fun hHeld => ?_)
         clear hK K
         refine norm_ (a' := ?_) ?_ ?_
         rotate_left
         ·show Act.put _ (some 41) _ = _
          simp only [Act.put, List.setIfInBounds_toArray, List.set_cons_zero, List.set_cons_succ, i64_w, i32_w]
          rfl
         refine pure_ (i := 13) (N := some 42) (v := ?_) (a' := ?_) #[true, true, true, true, true, true, true, true, true, true, true, true, true, true, false] rfl rfl (any_of HT_.out (by kernel_rfl)) (fun _ _ _ h => h) (Or.inl ⟨by rfl, ?_⟩) ?_ ?_
         rotate_left
         ·intro w'
          go_simp
          with_reducible rfl
         rotate_left
         ·simp only [Act.put, List.setIfInBounds_toArray, List.set_cons_zero, List.set_cons_succ, i64_w, i32_w]
          rfl
         refine last_ (i := 14) (N := none) #[true, true, true, true, true, true, true, true, true, true, true, true, true, true, true] rfl rfl (one_of HT_.out (by kernel_rfl)) (by decide) (fun K hK => ?_)
         have hs37 : w35.cell? ⟨gb260, 9, none⟩ = some (u261009) := (blk_cell BK260.out 9).trans rfl
         have hfs37 := blk_frozen BK260.out 9
         have hns37_0 := NB257_260.out
         have hms37_0 := NB260_257.out
         refine skip_ (w1 := ?_) (by rfl) rfl ?_ ?_
         rotate_left
         ·go_simp
          rfl
         refine hK.out _ _ ?_
         clear hK K
         refine done_ (done_of HT_.out (by kernel_rfl)) ?_
         try go_wp2
         go_roundg k2
         case measure => have := HK1.out; have := HK2.out; omega
         case rel => exact ⟨(wrap64 (x27_2 + 1)), (t279), (y280), (.slice Ao36 y280.length co36), (by first | rfl | (simp; done) | (simp [*]; done)), H', ⟨by have := HK1.out; have := HK2.out; omega⟩, ⟨by (with_reducible repeat (first | apply rA | apply rN | apply rZ)); exact Kd.R_mono (Kd.R_far (p := ⟨gb260, 9, none⟩) (Kd.R_types HO_261008.out BK260.out (by decide)) (fun _ hk => hk.2) (.slice Ao36 y280.length co36)) (fun _ hk => trivial)⟩, ⟨by (with_reducible repeat (first | apply rA | apply rN | apply rZ)); exact Kd.R_mono (Kd.R_far (p := ⟨gb260, 9, none⟩) (Kd.R_types HO282.out BK260.out (by decide)) (fun _ hk => hk.2) (.slice Ao36 y280.length co36)) (fun _ hk => trivial)⟩, ⟨by (with_reducible repeat (first | refine kN ?_ _ | refine kZ ?_ | refine kA ?_ _)); refine blk_far ?_ NB257_260.out _; (with_reducible repeat (first | refine kN ?_ _ | refine kZ ?_ | refine kA ?_ _)); exact BK257.out⟩, ⟨by (with_reducible repeat (first | refine kN ?_ _ | refine kZ ?_ | refine kA ?_ _)); refine blk_put (cs := #[.int .i64 t258, .int .i64 0, .int .i64 0, .int .i64 0, .int .i64 0, .slice none 0 0, .slice none 0 0, .int .i64 0, u261008, u261009]) ?_ 9 _ rfl; (with_reducible repeat (first | refine kN ?_ _ | refine kZ ?_ | refine kA ?_ _)); exact BK260.out⟩, ⟨by repeat (first | (with_reducible first | exact HI0.out | apply IsS66.alloc | apply IsS66.drewN | apply IsS66.drew | apply IsS66.set_0 | refine IsS66.far ?_ NB0_257.out _ | refine IsS66.far ?_ NB0_260.out _) | exact HI0.out)⟩, ⟨by repeat (first | (with_reducible first | exact HK.out | apply KeepBut.set_ | apply keep_drewN | apply keep_drew | apply keep_alloc | refine keep_far ?_ GW257.out _ | refine keep_far ?_ GW260.out _) | exact HK.out)⟩, ⟨by repeat (first | (with_reducible first | exact HB.out | apply bA | apply bN | apply bD | refine bS ?_ (IsS66.ge HI0.out) | refine bS ?_ GE257.out | refine bS ?_ GE260.out) | exact HB.out)⟩⟩
        ·rw [if_neg c29] at H
         exact absurd H (by simp)
       ·rw [if_neg c24] at H
        have c24b0 : decide (x27_2 < t270) = false := decide_eq_false c24
        clear c24
        simp only [Option.some.injEq, Prod.mk.injEq] at H
        obtain ⟨rfl, rfl, rfl, rfl, rfl, rfl, rfl, rfl, rfl, rfl, rfl⟩ := H
        have hnb38 := NB260_257.out
        have hnc38 := NB257_260.out
        have hnb39 := NB260_0.out
        have hnc39 := NB0_260.out
        obtain ⟨hcz40_0, hcz40_1, hcz40_2, hcz40_3, hcz40_4, hcz40_5, hcz40_6, hcz40_7, hcz40_8, hcz40_9⟩ := ten_cells BK260.out
        have hfz40 := ten_free BK260.out
        have hnb41 := NB257_0.out
        have hnc41 := NB0_257.out
        obtain ⟨hcz42_0, hcz42_1, hcz42_2, hcz42_3, hcz42_4, hcz42_5, hcz42_6, hcz42_7, hcz42_8, hcz42_9⟩ := ten_cells BK257.out
        have hfz42 := ten_free BK257.out
        obtain ⟨Ao43, co43, eo43⟩ := Kd.R_slice HO_261008.out
        subst eo43
        obtain ⟨Ao44, co44, eo44⟩ := Kd.R_slice HO_261009.out
        subst eo44
        go_wp2
        refine bodyPost_ret (results_cell_row rfl _ _ gb257 30 #[.int .i64 t258, .int .i64 0, .int .i64 0, .int .i64 0, .int .i64 0, .slice none 0 0, .slice none 0 0, .int .i64 0, .slice Ao43 x261008_1.length co43, .slice Ao44 x261009_2.length co44] (0, 0) _ rfl (by (with_reducible repeat (first | refine kN ?_ _ | refine kZ ?_ | refine kA ?_ _)); refine blk_put (cs := #[.int .i64 t258, .int .i64 0, .int .i64 0, .int .i64 0, .int .i64 0, .slice none 0 0, .slice none 0 0, .int .i64 0, .slice Ao43 x261008_1.length co43, .slice none 0 0]) ?_ 9 _ rfl; (with_reducible repeat (first | refine kN ?_ _ | refine kZ ?_ | refine kA ?_ _)); refine blk_put (cs := #[.int .i64 t258, .int .i64 0, .int .i64 0, .int .i64 0, .int .i64 0, .slice none 0 0, .slice none 0 0, .int .i64 0, .slice none 0 0, .slice none 0 0]) ?_ 8 _ rfl; (with_reducible repeat (first | refine kN ?_ _ | refine kZ ?_ | refine kA ?_ _)); refine blk_put (cs := #[.int .i64 t258, .int .i64 0, .int .i64 0, .int .i64 0, .int .i64 0, .slice none 0 0, .slice none 0 0, .int .i64 0, .slice none 0 0, .slice none 0 0]) ?_ 7 _ rfl; (with_reducible repeat (first | refine kN ?_ _ | refine kZ ?_ | refine kA ?_ _)); refine blk_put (cs := #[.int .i64 t258, .int .i64 0, .int .i64 0, .int .i64 0, .int .i64 0, .slice none 0 0, .slice none 0 0, .int .i64 0, .slice none 0 0, .slice none 0 0]) ?_ 6 _ rfl; (with_reducible repeat (first | refine kN ?_ _ | refine kZ ?_ | refine kA ?_ _)); refine blk_put (cs := #[.int .i64 t258, .int .i64 0, .int .i64 0, .int .i64 0, .int .i64 0, .slice none 0 0, .slice none 0 0, .int .i64 0, .slice none 0 0, .slice none 0 0]) ?_ 5 _ rfl; (with_reducible repeat (first | refine kN ?_ _ | refine kZ ?_ | refine kA ?_ _)); refine blk_put (cs := #[.int .i64 t258, .int .i64 0, .int .i64 0, .int .i64 0, .int .i64 0, .slice none 0 0, .slice none 0 0, .int .i64 0, .slice none 0 0, .slice none 0 0]) ?_ 4 _ rfl; (with_reducible repeat (first | refine kN ?_ _ | refine kZ ?_ | refine kA ?_ _)); refine blk_put (cs := #[.int .i64 t258, .int .i64 0, .int .i64 0, .int .i64 0, .int .i64 0, .slice none 0 0, .slice none 0 0, .int .i64 0, .slice none 0 0, .slice none 0 0]) ?_ 3 _ rfl; (with_reducible repeat (first | refine kN ?_ _ | refine kZ ?_ | refine kA ?_ _)); refine blk_put (cs := #[.int .i64 t258, .int .i64 0, .int .i64 0, .int .i64 0, .int .i64 0, .slice none 0 0, .slice none 0 0, .int .i64 0, .slice none 0 0, .slice none 0 0]) ?_ 2 _ rfl; (with_reducible repeat (first | refine kN ?_ _ | refine kZ ?_ | refine kA ?_ _)); refine blk_put (cs := #[.int .i64 t258, .int .i64 0, .int .i64 0, .int .i64 0, .int .i64 0, .slice none 0 0, .slice none 0 0, .int .i64 0, .slice none 0 0, .slice none 0 0]) ?_ 1 _ rfl; (with_reducible repeat (first | refine kN ?_ _ | refine kZ ?_ | refine kA ?_ _)); refine blk_put (cs := #[.int .i64 0, .int .i64 0, .int .i64 0, .int .i64 0, .int .i64 0, .slice none 0 0, .slice none 0 0, .int .i64 0, .slice none 0 0, .slice none 0 0]) ?_ 0 _ rfl; (with_reducible repeat (first | refine kN ?_ _ | refine kZ ?_ | refine kA ?_ _)); exact BK257.out) Try.underlying30 rfl (by kernel_rfl)) rfl ?_
        exact ⟨_, _, _, _, by first | rfl | (simp [errW_none, errW_some] <;> rfl) | (simp [*, errW_none, errW_some] <;> rfl), by first | exact Kd.R_nil _ _ _ _ _ | exact Kd.N_nil _ _ _ _ _ | exact Kd.V_nil _ _ _ _ _ | exact Kd.Q_nil _ _ _ _ _ | exact Kd.S_nil _ _ _ _ _, by first | exact Kd.R_nil _ _ _ _ _ | exact Kd.N_nil _ _ _ _ _ | exact Kd.V_nil _ _ _ _ _ | exact Kd.Q_nil _ _ _ _ _ | exact Kd.S_nil _ _ _ _ _, by (with_reducible repeat (first | apply rA | apply rN | apply rZ)); exact Kd.R_mono (Kd.R_far (p := ⟨gb257, 9, none⟩) (Kd.R_far (p := ⟨gb257, 8, none⟩) (Kd.R_far (p := ⟨gb257, 7, none⟩) (Kd.R_far (p := ⟨gb257, 6, none⟩) (Kd.R_far (p := ⟨gb257, 5, none⟩) (Kd.R_far (p := ⟨gb257, 4, none⟩) (Kd.R_far (p := ⟨gb257, 3, none⟩) (Kd.R_far (p := ⟨gb257, 2, none⟩) (Kd.R_far (p := ⟨gb257, 1, none⟩) (Kd.R_far (p := ⟨gb257, 0, none⟩) (Kd.R_types HO_261008.out BK257.out (by decide)) (fun _ hk => hk.2) (.int .i64 t258)) (fun _ hk => hk.2) (.int .i64 0)) (fun _ hk => hk.2) (.int .i64 0)) (fun _ hk => hk.2) (.int .i64 0)) (fun _ hk => hk.2) (.int .i64 0)) (fun _ hk => hk.2) (.slice none 0 0)) (fun _ hk => hk.2) (.slice none 0 0)) (fun _ hk => hk.2) (.int .i64 0)) (fun _ hk => hk.2) (.slice Ao43 x261008_1.length co43)) (fun _ hk => hk.2) (.slice Ao44 x261009_2.length co44)) (fun _ hk => trivial), by (with_reducible repeat (first | apply rA | apply rN | apply rZ)); exact Kd.R_mono (Kd.R_far (p := ⟨gb257, 9, none⟩) (Kd.R_far (p := ⟨gb257, 8, none⟩) (Kd.R_far (p := ⟨gb257, 7, none⟩) (Kd.R_far (p := ⟨gb257, 6, none⟩) (Kd.R_far (p := ⟨gb257, 5, none⟩) (Kd.R_far (p := ⟨gb257, 4, none⟩) (Kd.R_far (p := ⟨gb257, 3, none⟩) (Kd.R_far (p := ⟨gb257, 2, none⟩) (Kd.R_far (p := ⟨gb257, 1, none⟩) (Kd.R_far (p := ⟨gb257, 0, none⟩) (Kd.R_types HO_261009.out BK257.out (by decide)) (fun _ hk => hk.2) (.int .i64 t258)) (fun _ hk => hk.2) (.int .i64 0)) (fun _ hk => hk.2) (.int .i64 0)) (fun _ hk => hk.2) (.int .i64 0)) (fun _ hk => hk.2) (.int .i64 0)) (fun _ hk => hk.2) (.slice none 0 0)) (fun _ hk => hk.2) (.slice none 0 0)) (fun _ hk => hk.2) (.int .i64 0)) (fun _ hk => hk.2) (.slice Ao43 x261008_1.length co43)) (fun _ hk => hk.2) (.slice Ao44 x261009_2.length co44)) (fun _ hk => trivial), by repeat (first | (with_reducible first | exact HI0.out | apply IsS66.alloc | apply IsS66.drewN | apply IsS66.drew | apply IsS66.set_0 | refine IsS66.far ?_ NB0_257.out _ | refine IsS66.far ?_ NB0_260.out _) | exact HI0.out), by repeat (first | (with_reducible first | exact HB.out | apply bA | apply bN | apply bD | refine bS ?_ (IsS66.ge HI0.out) | refine bS ?_ GE257.out | refine bS ?_ GE260.out) | exact HB.out), by repeat (first | (with_reducible first | exact HK.out | apply KeepBut.set_ | apply keep_drewN | apply keep_drew | apply keep_alloc | refine keep_far ?_ GW257.out _ | refine keep_far ?_ GW260.out _) | exact HK.out)⟩
 ·rw [if_neg c3] at H
  have c3b0 : (t258 == 5) = false := beq_eq_false_iff_ne.mpr c3
  have c3b1 : (t258 != 5) = true := bne_iff_ne.mpr c3
  replace H := Option.bind_eq_some_iff.mp H
  obtain ⟨⟨t283, t284⟩, A450, H⟩ := H
  replace H : ((record_reader_num.f t284).bind fun bt285 => (if t258 = 2 then ((record_reader_num.f bt285.2).bind fun bt287 => (record_reader_read.j2 k bt287.2 t258 t283 bt285.1 0 0 bt287.1)) else (record_reader_read.j2 k bt285.2 t258 t283 bt285.1 0 0 0))) = some (r1, r2, r3, r4, r5, r6, r7, r8, r9, r10, r11) := H
  have A45 := Aside0.mk A450
  clear A450
  replace H := Option.bind_eq_some_iff.mp H
  obtain ⟨⟨t285, t286⟩, A460, H⟩ := H
  replace H : (if t258 = 2 then ((record_reader_num.f t286).bind fun bt287 => (record_reader_read.j2 k bt287.2 t258 t283 t285 0 0 bt287.1)) else (record_reader_read.j2 k t286 t258 t283 t285 0 0 0)) = some (r1, r2, r3, r4, r5, r6, r7, r8, r9, r10, r11) := H
  have A46 := Aside0.mk A460
  clear A460
  have HC47 := Aside0.mk H
  clear H
  go_enter Try.func26, Try.ntmps26
  go_upto_if 53 with (first | ((with_reducible refine gate_dst (N := 2) rfl ?_); refine box_event ?hg (N := 2) ?hd (cs := #[.int .i64 0, .int .i64 0, .int .i64 0, .int .i64 0, .int .i64 0, .slice none 0 0, .slice none 0 0, .int .i64 0, .slice none 0 0, .slice none 0 0]) (t := 30) ?hr ?_; (case hd => rfl); (case hg => rfl); (case hr => first | (go_simp; done) | (go_simp; rfl)); intro gb257 hg w48 hbox hb; have n0_ := Aside0.mk (IsS66.below (by repeat (first | (with_reducible first | exact HI0.out | apply IsS66.alloc | apply IsS66.drewN | apply IsS66.drew | apply IsS66.set_0) | exact HI0.out)) hb); have n1_ := Aside0.mk (KeepBut.trans (by repeat (first | (with_reducible first | exact HK.out | apply KeepBut.set_ | apply keep_drewN | apply keep_drew | apply keep_alloc) | exact HK.out)) (KeepBut.of_below hb g none) (.inl rfl)); have n2_ := Aside0.mk (below_step (by repeat (first | (with_reducible first | exact HB.out | apply bA | apply bN | apply bD | refine bS ?_ (IsS66.ge HI0.out)) | exact HB.out)) hb); have n3_ := Aside0.mk (hbox); have n4_ := Aside0.mk ((by rw [hg]; exact (keep_size (w := w) (g := g) (row := none) (by repeat (first | (with_reducible first | exact HK.out | apply KeepBut.set_ | apply keep_drewN | apply keep_drew | apply keep_alloc) | exact HK.out))) : w.heap.size ≤ gb257)); have n5_ := Aside0.mk ((Nat.le_trans HW0.out (by rw [hg]; exact (keep_size (w := w) (g := g) (row := none) (by repeat (first | (with_reducible first | exact HK.out | apply KeepBut.set_ | apply keep_drewN | apply keep_drew | apply keep_alloc) | exact HK.out))) : w.heap.size ≤ gb257) : w0.heap.size ≤ gb257)); have n6_ := Aside0.mk ((by rw [hg]; exact Nat.ne_of_lt (IsS66.lt (show IsS66 w0 _ g s0_0 from by repeat (first | (with_reducible first | exact HI0.out | apply IsS66.alloc | apply IsS66.drewN | apply IsS66.drew | apply IsS66.set_0) | exact HI0.out))) : g ≠ gb257)); have n7_ := Aside0.mk ((by rw [hg]; exact Nat.ne_of_gt (IsS66.lt (show IsS66 w0 _ g s0_0 from by repeat (first | (with_reducible first | exact HI0.out | apply IsS66.alloc | apply IsS66.drewN | apply IsS66.drew | apply IsS66.set_0) | exact HI0.out))) : gb257 ≠ g)); clear HI0; clear HK; clear HB; have HI0 := n0_; have HK := n1_; have HB := n2_; have BK257 := n3_; have GW257 := n4_; have GE257 := n5_; have NB0_257 := n6_; have NB257_0 := n7_; clear n0_ n1_ n2_ n3_ n4_ n5_ n6_ n7_; clear hb hbox hg) | ((with_reducible refine gate_callee (f := 40) rfl ?_); refine goesL_ (some 5) rfl rfl Try.func40 (by kernel_rfl) rfl #[.pointer (some ⟨g, 0, none⟩)] rfl (by (try simp only [List.map_toArray, List.map_cons, List.map_nil]); first | done | rfl | (simp only [List.length_drop, List.length_take]; rfl)) ?_; (with_reducible refine (record_reader_num.calls g s0_0 t258 t259 w0 _ ?side1 ?side2 A2.out).mono ?_); (case side1 => repeat (first | (with_reducible first | exact HI0.out | apply IsS66.alloc | apply IsS66.drewN | apply IsS66.drew | apply IsS66.set_0 | refine IsS66.far ?_ NB0_257.out _) | exact HI0.out)); (case side2 => repeat (first | (with_reducible first | exact HB.out | apply bA | apply bN | apply bD | refine bS ?_ (IsS66.ge HI0.out) | refine bS ?_ GE257.out) | exact HB.out)); rintro e w49 ⟨rfl, hi, hb, hk⟩; refine ⟨_, rfl, ?_⟩; have n0_ := Aside0.mk (KeepBut.blk hk (g' := gb257) (o := .cells #[.int .i64 0, .int .i64 0, .int .i64 0, .int .i64 0, .int .i64 0, .slice none 0 0, .slice none 0 0, .int .i64 0, .slice none 0 0, .slice none 0 0] 30 (0, 0)) (by (with_reducible repeat (first | refine kN ?_ _ | refine kZ ?_ | refine kA ?_ _)); exact BK257.out) NB257_0.out (by simp)); have n1_ := Aside0.mk (KeepBut.trans (by repeat (first | (with_reducible first | exact HK.out | apply KeepBut.set_ | apply keep_drewN | apply keep_drew | apply keep_alloc | refine keep_far ?_ GW257.out _) | exact HK.out)) hk (.inl rfl)); have n2_ := Aside0.mk (hb); have n3_ := Aside0.mk (hi); clear BK257; clear HK; clear HB; clear HI0; have BK257 := n0_; have HK := n1_; have HB := n2_; have HI0 := n3_; clear n0_ n1_ n2_ n3_; (try clear hb); (try clear hb2); (try clear hk); (try clear hi)) | ((with_reducible refine gate_dst (N := 3) rfl ?_); refine box_event ?hg (N := 3) ?hd (cs := #[.int .i64 0, .int .i64 0, .int .i64 0, .int .i64 0, .int .i64 0, .slice none 0 0, .slice none 0 0, .int .i64 0, .slice none 0 0, .slice none 0 0]) (t := 30) ?hr ?_; (case hd => rfl); (case hg => rfl); (case hr => first | (go_simp; done) | (go_simp; rfl)); intro gb260 hg w50 hbox hb; have n0_ := Aside0.mk (IsS66.below (by repeat (first | (with_reducible first | exact HI0.out | apply IsS66.alloc | apply IsS66.drewN | apply IsS66.drew | apply IsS66.set_0 | refine IsS66.far ?_ NB0_257.out _) | exact HI0.out)) hb); have n1_ := Aside0.mk (blk_below (g := gb257) (o := .cells #[.int .i64 0, .int .i64 0, .int .i64 0, .int .i64 0, .int .i64 0, .slice none 0 0, .slice none 0 0, .int .i64 0, .slice none 0 0, .slice none 0 0] 30 (0, 0)) (by (with_reducible repeat (first | refine kN ?_ _ | refine kZ ?_ | refine kA ?_ _)); exact BK257.out) hb); have n2_ := Aside0.mk (KeepBut.trans (by repeat (first | (with_reducible first | exact HK.out | apply KeepBut.set_ | apply keep_drewN | apply keep_drew | apply keep_alloc | refine keep_far ?_ GW257.out _) | exact HK.out)) (KeepBut.of_below hb g none) (.inl rfl)); have n3_ := Aside0.mk (below_step (by repeat (first | (with_reducible first | exact HB.out | apply bA | apply bN | apply bD | refine bS ?_ (IsS66.ge HI0.out) | refine bS ?_ GE257.out) | exact HB.out)) hb); have n4_ := Aside0.mk (hbox); have n5_ := Aside0.mk ((by rw [hg]; exact (keep_size (w := w) (g := g) (row := none) (by repeat (first | (with_reducible first | exact HK.out | apply KeepBut.set_ | apply keep_drewN | apply keep_drew | apply keep_alloc | refine keep_far ?_ GW257.out _) | exact HK.out))) : w.heap.size ≤ gb260)); have n6_ := Aside0.mk ((Nat.le_trans HW0.out (by rw [hg]; exact (keep_size (w := w) (g := g) (row := none) (by repeat (first | (with_reducible first | exact HK.out | apply KeepBut.set_ | apply keep_drewN | apply keep_drew | apply keep_alloc | refine keep_far ?_ GW257.out _) | exact HK.out))) : w.heap.size ≤ gb260) : w0.heap.size ≤ gb260)); have n7_ := Aside0.mk ((by rw [hg]; exact Nat.ne_of_lt (blk_lt (g := gb257) (o := .cells #[.int .i64 0, .int .i64 0, .int .i64 0, .int .i64 0, .int .i64 0, .slice none 0 0, .slice none 0 0, .int .i64 0, .slice none 0 0, .slice none 0 0] 30 (0, 0)) (by (with_reducible repeat (first | refine kN ?_ _ | refine kZ ?_ | refine kA ?_ _)); exact BK257.out)) : gb257 ≠ gb260)); have n8_ := Aside0.mk ((by rw [hg]; exact Nat.ne_of_gt (blk_lt (g := gb257) (o := .cells #[.int .i64 0, .int .i64 0, .int .i64 0, .int .i64 0, .int .i64 0, .slice none 0 0, .slice none 0 0, .int .i64 0, .slice none 0 0, .slice none 0 0] 30 (0, 0)) (by (with_reducible repeat (first | refine kN ?_ _ | refine kZ ?_ | refine kA ?_ _)); exact BK257.out)) : gb260 ≠ gb257)); have n9_ := Aside0.mk ((by rw [hg]; exact Nat.ne_of_lt (IsS66.lt (show IsS66 w0 _ g t259 from by repeat (first | (with_reducible first | exact HI0.out | apply IsS66.alloc | apply IsS66.drewN | apply IsS66.drew | apply IsS66.set_0 | refine IsS66.far ?_ NB0_257.out _) | exact HI0.out))) : g ≠ gb260)); have n10_ := Aside0.mk ((by rw [hg]; exact Nat.ne_of_gt (IsS66.lt (show IsS66 w0 _ g t259 from by repeat (first | (with_reducible first | exact HI0.out | apply IsS66.alloc | apply IsS66.drewN | apply IsS66.drew | apply IsS66.set_0 | refine IsS66.far ?_ NB0_257.out _) | exact HI0.out))) : gb260 ≠ g)); clear HI0; clear BK257; clear HK; clear HB; have HI0 := n0_; have BK257 := n1_; have HK := n2_; have HB := n3_; have BK260 := n4_; have GW260 := n5_; have GE260 := n6_; have NB257_260 := n7_; have NB260_257 := n8_; have NB0_260 := n9_; have NB260_0 := n10_; clear n0_ n1_ n2_ n3_ n4_ n5_ n6_ n7_ n8_ n9_ n10_; clear hb hbox hg; have hnb51 := NB260_257.out; have hnc51 := NB257_260.out; have hnb52 := NB260_0.out; have hnc52 := NB0_260.out; obtain ⟨hcz53_0, hcz53_1, hcz53_2, hcz53_3, hcz53_4, hcz53_5, hcz53_6, hcz53_7, hcz53_8, hcz53_9⟩ := ten_cells BK260.out; have hfz53 := ten_free BK260.out) | ((with_reducible refine gate_callee (f := 40) rfl ?_); refine goesL_ (some 46) rfl rfl Try.func40 (by kernel_rfl) rfl #[.pointer (some ⟨g, 0, none⟩)] rfl (by (try simp only [List.map_toArray, List.map_cons, List.map_nil]); first | done | rfl | (simp only [List.length_drop, List.length_take]; rfl)) ?_; (with_reducible refine (record_reader_num.calls g t259 t283 t284 w0 _ ?side1 ?side2 A45.out).mono ?_); (case side1 => repeat (first | (with_reducible first | exact HI0.out | apply IsS66.alloc | apply IsS66.drewN | apply IsS66.drew | apply IsS66.set_0 | refine IsS66.far ?_ NB0_257.out _ | refine IsS66.far ?_ NB0_260.out _) | exact HI0.out)); (case side2 => repeat (first | (with_reducible first | exact HB.out | apply bA | apply bN | apply bD | refine bS ?_ (IsS66.ge HI0.out) | refine bS ?_ GE257.out | refine bS ?_ GE260.out) | exact HB.out)); rintro e w54 ⟨rfl, hi, hb, hk⟩; refine ⟨_, rfl, ?_⟩; have n0_ := Aside0.mk (KeepBut.blk hk (g' := gb257) (o := .cells #[.int .i64 0, .int .i64 0, .int .i64 0, .int .i64 0, .int .i64 0, .slice none 0 0, .slice none 0 0, .int .i64 0, .slice none 0 0, .slice none 0 0] 30 (0, 0)) (by (with_reducible repeat (first | refine kN ?_ _ | refine kZ ?_ | refine kA ?_ _)); refine blk_far ?_ NB257_260.out _; (with_reducible repeat (first | refine kN ?_ _ | refine kZ ?_ | refine kA ?_ _)); refine blk_far ?_ NB257_260.out _; (with_reducible repeat (first | refine kN ?_ _ | refine kZ ?_ | refine kA ?_ _)); refine blk_far ?_ NB257_260.out _; (with_reducible repeat (first | refine kN ?_ _ | refine kZ ?_ | refine kA ?_ _)); refine blk_far ?_ NB257_260.out _; (with_reducible repeat (first | refine kN ?_ _ | refine kZ ?_ | refine kA ?_ _)); refine blk_far ?_ NB257_260.out _; (with_reducible repeat (first | refine kN ?_ _ | refine kZ ?_ | refine kA ?_ _)); refine blk_far ?_ NB257_260.out _; (with_reducible repeat (first | refine kN ?_ _ | refine kZ ?_ | refine kA ?_ _)); refine blk_far ?_ NB257_260.out _; (with_reducible repeat (first | refine kN ?_ _ | refine kZ ?_ | refine kA ?_ _)); refine blk_far ?_ NB257_260.out _; (with_reducible repeat (first | refine kN ?_ _ | refine kZ ?_ | refine kA ?_ _)); refine blk_far ?_ NB257_260.out _; (with_reducible repeat (first | refine kN ?_ _ | refine kZ ?_ | refine kA ?_ _)); refine blk_far ?_ NB257_260.out _; (with_reducible repeat (first | refine kN ?_ _ | refine kZ ?_ | refine kA ?_ _)); exact BK257.out) NB257_0.out (by simp)); have n1_ := Aside0.mk (KeepBut.blk hk (g' := gb260) (o := .cells #[.int .i64 t258, .int .i64 0, .int .i64 0, .int .i64 0, .int .i64 0, .slice none 0 0, .slice none 0 0, .int .i64 0, .slice none 0 0, .slice none 0 0] 30 (0, 0)) (by (with_reducible repeat (first | refine kN ?_ _ | refine kZ ?_ | refine kA ?_ _)); refine blk_put (cs := #[.int .i64 t258, .int .i64 0, .int .i64 0, .int .i64 0, .int .i64 0, .slice none 0 0, .slice none 0 0, .int .i64 0, .slice none 0 0, .slice none 0 0]) ?_ 9 _ rfl; (with_reducible repeat (first | refine kN ?_ _ | refine kZ ?_ | refine kA ?_ _)); refine blk_put (cs := #[.int .i64 t258, .int .i64 0, .int .i64 0, .int .i64 0, .int .i64 0, .slice none 0 0, .slice none 0 0, .int .i64 0, .slice none 0 0, .slice none 0 0]) ?_ 8 _ rfl; (with_reducible repeat (first | refine kN ?_ _ | refine kZ ?_ | refine kA ?_ _)); refine blk_put (cs := #[.int .i64 t258, .int .i64 0, .int .i64 0, .int .i64 0, .int .i64 0, .slice none 0 0, .slice none 0 0, .int .i64 0, .slice none 0 0, .slice none 0 0]) ?_ 7 _ rfl; (with_reducible repeat (first | refine kN ?_ _ | refine kZ ?_ | refine kA ?_ _)); refine blk_put (cs := #[.int .i64 t258, .int .i64 0, .int .i64 0, .int .i64 0, .int .i64 0, .slice none 0 0, .slice none 0 0, .int .i64 0, .slice none 0 0, .slice none 0 0]) ?_ 6 _ rfl; (with_reducible repeat (first | refine kN ?_ _ | refine kZ ?_ | refine kA ?_ _)); refine blk_put (cs := #[.int .i64 t258, .int .i64 0, .int .i64 0, .int .i64 0, .int .i64 0, .slice none 0 0, .slice none 0 0, .int .i64 0, .slice none 0 0, .slice none 0 0]) ?_ 5 _ rfl; (with_reducible repeat (first | refine kN ?_ _ | refine kZ ?_ | refine kA ?_ _)); refine blk_put (cs := #[.int .i64 t258, .int .i64 0, .int .i64 0, .int .i64 0, .int .i64 0, .slice none 0 0, .slice none 0 0, .int .i64 0, .slice none 0 0, .slice none 0 0]) ?_ 4 _ rfl; (with_reducible repeat (first | refine kN ?_ _ | refine kZ ?_ | refine kA ?_ _)); refine blk_put (cs := #[.int .i64 t258, .int .i64 0, .int .i64 0, .int .i64 0, .int .i64 0, .slice none 0 0, .slice none 0 0, .int .i64 0, .slice none 0 0, .slice none 0 0]) ?_ 3 _ rfl; (with_reducible repeat (first | refine kN ?_ _ | refine kZ ?_ | refine kA ?_ _)); refine blk_put (cs := #[.int .i64 t258, .int .i64 0, .int .i64 0, .int .i64 0, .int .i64 0, .slice none 0 0, .slice none 0 0, .int .i64 0, .slice none 0 0, .slice none 0 0]) ?_ 2 _ rfl; (with_reducible repeat (first | refine kN ?_ _ | refine kZ ?_ | refine kA ?_ _)); refine blk_put (cs := #[.int .i64 t258, .int .i64 0, .int .i64 0, .int .i64 0, .int .i64 0, .slice none 0 0, .slice none 0 0, .int .i64 0, .slice none 0 0, .slice none 0 0]) ?_ 1 _ rfl; (with_reducible repeat (first | refine kN ?_ _ | refine kZ ?_ | refine kA ?_ _)); refine blk_put (cs := #[.int .i64 0, .int .i64 0, .int .i64 0, .int .i64 0, .int .i64 0, .slice none 0 0, .slice none 0 0, .int .i64 0, .slice none 0 0, .slice none 0 0]) ?_ 0 _ rfl; (with_reducible repeat (first | refine kN ?_ _ | refine kZ ?_ | refine kA ?_ _)); exact BK260.out) NB260_0.out (by simp)); have n2_ := Aside0.mk (KeepBut.trans (by repeat (first | (with_reducible first | exact HK.out | apply KeepBut.set_ | apply keep_drewN | apply keep_drew | apply keep_alloc | refine keep_far ?_ GW257.out _ | refine keep_far ?_ GW260.out _) | exact HK.out)) hk (.inl rfl)); have n3_ := Aside0.mk (hb); have n4_ := Aside0.mk (hi); clear BK257; clear BK260; clear HK; clear HB; clear HI0; have BK257 := n0_; have BK260 := n1_; have HK := n2_; have HB := n3_; have HI0 := n4_; clear n0_ n1_ n2_ n3_ n4_; (try clear hb); (try clear hb2); (try clear hk); (try clear hi)) | ((with_reducible refine gate_callee (f := 40) rfl ?_); refine goesL_ (some 48) rfl rfl Try.func40 (by kernel_rfl) rfl #[.pointer (some ⟨g, 0, none⟩)] rfl (by (try simp only [List.map_toArray, List.map_cons, List.map_nil]); first | done | rfl | (simp only [List.length_drop, List.length_take]; rfl)) ?_; (with_reducible refine (record_reader_num.calls g t284 t285 t286 w0 _ ?side1 ?side2 A46.out).mono ?_); (case side1 => repeat (first | (with_reducible first | exact HI0.out | apply IsS66.alloc | apply IsS66.drewN | apply IsS66.drew | apply IsS66.set_0 | refine IsS66.far ?_ NB0_257.out _ | refine IsS66.far ?_ NB0_260.out _) | exact HI0.out)); (case side2 => repeat (first | (with_reducible first | exact HB.out | apply bA | apply bN | apply bD | refine bS ?_ (IsS66.ge HI0.out) | refine bS ?_ GE257.out | refine bS ?_ GE260.out) | exact HB.out)); rintro e w55 ⟨rfl, hi, hb, hk⟩; refine ⟨_, rfl, ?_⟩; have n0_ := Aside0.mk (KeepBut.blk hk (g' := gb257) (o := .cells #[.int .i64 0, .int .i64 0, .int .i64 0, .int .i64 0, .int .i64 0, .slice none 0 0, .slice none 0 0, .int .i64 0, .slice none 0 0, .slice none 0 0] 30 (0, 0)) (by (with_reducible repeat (first | refine kN ?_ _ | refine kZ ?_ | refine kA ?_ _)); exact BK257.out) NB257_0.out (by simp)); have n1_ := Aside0.mk (KeepBut.blk hk (g' := gb260) (o := .cells #[.int .i64 t258, .int .i64 0, .int .i64 0, .int .i64 0, .int .i64 0, .slice none 0 0, .slice none 0 0, .int .i64 0, .slice none 0 0, .slice none 0 0] 30 (0, 0)) (by (with_reducible repeat (first | refine kN ?_ _ | refine kZ ?_ | refine kA ?_ _)); exact BK260.out) NB260_0.out (by simp)); have n2_ := Aside0.mk (KeepBut.trans (by repeat (first | (with_reducible first | exact HK.out | apply KeepBut.set_ | apply keep_drewN | apply keep_drew | apply keep_alloc | refine keep_far ?_ GW257.out _ | refine keep_far ?_ GW260.out _) | exact HK.out)) hk (.inl rfl)); have n3_ := Aside0.mk (hb); have n4_ := Aside0.mk (hi); clear BK257; clear BK260; clear HK; clear HB; clear HI0; have BK257 := n0_; have BK260 := n1_; have HK := n2_; have HB := n3_; have HI0 := n4_; clear n0_ n1_ n2_ n3_ n4_; (try clear hb); (try clear hb2); (try clear hk); (try clear hi); obtain ⟨hcz56_0, hcz56_1, hcz56_2, hcz56_3, hcz56_4, hcz56_5, hcz56_6, hcz56_7, hcz56_8, hcz56_9⟩ := ten_cells BK260.out; have hfz56 := ten_free BK260.out))
  (try simp only [Act.put, List.setIfInBounds_toArray, List.set_cons_zero, List.set_cons_succ])
  go_cut [] (fun wc => ∃ (kq : Nat) (x1000_46 : View) (x261007_46 : Int), Aside0 (record_reader_read.j2 kq x1000_46 t258 t283 t285 0 0 x261007_46 = some (r1, r2, r3, r4, r5, r6, r7, r8, r9, r10, r11)) ∧ Aside0 (kq ≤ k) ∧ Aside0 (wc.heap[gb257]? = some (.cells #[.int .i64 0, .int .i64 0, .int .i64 0, .int .i64 0, .int .i64 0, (.slice none 0 0), (.slice none 0 0), .int .i64 0, (.slice none 0 0), (.slice none 0 0)] 30 (0, 0))) ∧ Aside0 (wc.heap[gb260]? = some (.cells #[.int .i64 t258, .int .i64 t283, .int .i64 t285, .int .i64 0, .int .i64 0, (.slice none 0 0), (.slice none 0 0), .int .i64 x261007_46, (.slice none 0 0), (.slice none 0 0)] 30 (0, 0))) ∧ Aside0 (IsS66 w0 wc g x1000_46) ∧ Aside0 (KeepBut w wc g none) ∧ Aside0 (Below w0.heap.size w0 wc))
  case first =>
   have H := HC47.out
   clear HC47
   by_cases c57 : t258 = 2
   ·rw [if_pos c57] at H
    have c57b0 : (t258 == 2) = true := beq_iff_eq.mpr c57
    have c57b1 : (t258 != 2) = false := bne_eq_false_iff_eq.mpr c57
    clear c57
    (first | rw [c57b0] | (simp only [i64_w, i32_w]; rw [c57b0]) | skip)
    replace H := Option.bind_eq_some_iff.mp H
    obtain ⟨⟨t287, t288⟩, A580, H⟩ := H
    replace H : (record_reader_read.j2 k t288 t258 t283 t285 0 0 t287) = some (r1, r2, r3, r4, r5, r6, r7, r8, r9, r10, r11) := H
    have A58 := Aside0.mk A580
    clear A580
    have H' := Aside0.mk H
    clear H
    go_wp2_with (first | ((with_reducible refine gate_callee (f := 40) rfl ?_); refine goesL_ (some 55) rfl rfl Try.func40 (by kernel_rfl) rfl #[.pointer (some ⟨g, 0, none⟩)] rfl (by (try simp only [List.map_toArray, List.map_cons, List.map_nil]); first | done | rfl | (simp only [List.length_drop, List.length_take]; rfl)) ?_; (with_reducible refine (record_reader_num.calls g t286 t287 t288 w0 _ ?side1 ?side2 A58.out).mono ?_); (case side1 => repeat (first | (with_reducible first | exact HI0.out | apply IsS66.alloc | apply IsS66.drewN | apply IsS66.drew | apply IsS66.set_0 | refine IsS66.far ?_ NB0_257.out _ | refine IsS66.far ?_ NB0_260.out _) | exact HI0.out)); (case side2 => repeat (first | (with_reducible first | exact HB.out | apply bA | apply bN | apply bD | refine bS ?_ (IsS66.ge HI0.out) | refine bS ?_ GE257.out | refine bS ?_ GE260.out) | exact HB.out)); rintro e w59 ⟨rfl, hi, hb, hk⟩; refine ⟨_, rfl, ?_⟩; have n0_ := Aside0.mk (KeepBut.blk hk (g' := gb257) (o := .cells #[.int .i64 0, .int .i64 0, .int .i64 0, .int .i64 0, .int .i64 0, .slice none 0 0, .slice none 0 0, .int .i64 0, .slice none 0 0, .slice none 0 0] 30 (0, 0)) (by (with_reducible repeat (first | refine kN ?_ _ | refine kZ ?_ | refine kA ?_ _)); refine blk_far ?_ NB257_260.out _; (with_reducible repeat (first | refine kN ?_ _ | refine kZ ?_ | refine kA ?_ _)); refine blk_far ?_ NB257_260.out _; (with_reducible repeat (first | refine kN ?_ _ | refine kZ ?_ | refine kA ?_ _)); exact BK257.out) NB257_0.out (by simp)); have n1_ := Aside0.mk (KeepBut.blk hk (g' := gb260) (o := .cells #[.int .i64 t258, .int .i64 t283, .int .i64 t285, .int .i64 0, .int .i64 0, .slice none 0 0, .slice none 0 0, .int .i64 0, .slice none 0 0, .slice none 0 0] 30 (0, 0)) (by (with_reducible repeat (first | refine kN ?_ _ | refine kZ ?_ | refine kA ?_ _)); refine blk_put (cs := #[.int .i64 t258, .int .i64 t283, .int .i64 0, .int .i64 0, .int .i64 0, .slice none 0 0, .slice none 0 0, .int .i64 0, .slice none 0 0, .slice none 0 0]) ?_ 2 _ rfl; (with_reducible repeat (first | refine kN ?_ _ | refine kZ ?_ | refine kA ?_ _)); refine blk_put (cs := #[.int .i64 t258, .int .i64 0, .int .i64 0, .int .i64 0, .int .i64 0, .slice none 0 0, .slice none 0 0, .int .i64 0, .slice none 0 0, .slice none 0 0]) ?_ 1 _ rfl; (with_reducible repeat (first | refine kN ?_ _ | refine kZ ?_ | refine kA ?_ _)); exact BK260.out) NB260_0.out (by simp)); have n2_ := Aside0.mk (KeepBut.trans (by repeat (first | (with_reducible first | exact HK.out | apply KeepBut.set_ | apply keep_drewN | apply keep_drew | apply keep_alloc | refine keep_far ?_ GW257.out _ | refine keep_far ?_ GW260.out _) | exact HK.out)) hk (.inl rfl)); have n3_ := Aside0.mk (hb); have n4_ := Aside0.mk (hi); clear BK257; clear BK260; clear HK; clear HB; clear HI0; have BK257 := n0_; have BK260 := n1_; have HK := n2_; have HB := n3_; have HI0 := n4_; clear n0_ n1_ n2_ n3_ n4_; (try clear hb); (try clear hb2); (try clear hk); (try clear hi); have hnb60 := NB260_257.out; have hnc60 := NB257_260.out; have hnb61 := NB260_0.out; have hnc61 := NB0_260.out; obtain ⟨hcz62_0, hcz62_1, hcz62_2, hcz62_3, hcz62_4, hcz62_5, hcz62_6, hcz62_7, hcz62_8, hcz62_9⟩ := ten_cells BK260.out; have hfz62 := ten_free BK260.out))
    go_meet
    case rel => exact ⟨_, (t288), (t287), H', ⟨by first | omega | exact Nat.le_refl _⟩, ⟨by (with_reducible repeat (first | refine kN ?_ _ | refine kZ ?_ | refine kA ?_ _)); refine blk_far ?_ NB257_260.out _; (with_reducible repeat (first | refine kN ?_ _ | refine kZ ?_ | refine kA ?_ _)); exact BK257.out⟩, ⟨by (with_reducible repeat (first | refine kN ?_ _ | refine kZ ?_ | refine kA ?_ _)); refine blk_put (cs := #[.int .i64 t258, .int .i64 t283, .int .i64 t285, .int .i64 0, .int .i64 0, .slice none 0 0, .slice none 0 0, .int .i64 0, .slice none 0 0, .slice none 0 0]) ?_ 7 _ rfl; (with_reducible repeat (first | refine kN ?_ _ | refine kZ ?_ | refine kA ?_ _)); exact BK260.out⟩, ⟨by repeat (first | (with_reducible first | exact HI0.out | apply IsS66.alloc | apply IsS66.drewN | apply IsS66.drew | apply IsS66.set_0 | refine IsS66.far ?_ NB0_257.out _ | refine IsS66.far ?_ NB0_260.out _) | exact HI0.out)⟩, ⟨by repeat (first | (with_reducible first | exact HK.out | apply KeepBut.set_ | apply keep_drewN | apply keep_drew | apply keep_alloc | refine keep_far ?_ GW257.out _ | refine keep_far ?_ GW260.out _) | exact HK.out)⟩, ⟨by repeat (first | (with_reducible first | exact HB.out | apply bA | apply bN | apply bD | refine bS ?_ (IsS66.ge HI0.out) | refine bS ?_ GE257.out | refine bS ?_ GE260.out) | exact HB.out)⟩⟩
   ·rw [if_neg c57] at H
    have c57b0 : (t258 == 2) = false := beq_eq_false_iff_ne.mpr c57
    have c57b1 : (t258 != 2) = true := bne_iff_ne.mpr c57
    (first | rw [c57b0] | (simp only [i64_w, i32_w]; rw [c57b0]) | skip)
    have H' := Aside0.mk H
    clear H
    go_wp2
    go_meet
    case rel => exact ⟨_, (t286), (0), H', ⟨by first | omega | exact Nat.le_refl _⟩, ⟨by (with_reducible repeat (first | refine kN ?_ _ | refine kZ ?_ | refine kA ?_ _)); refine blk_far ?_ NB257_260.out _; (with_reducible repeat (first | refine kN ?_ _ | refine kZ ?_ | refine kA ?_ _)); refine blk_far ?_ NB257_260.out _; (with_reducible repeat (first | refine kN ?_ _ | refine kZ ?_ | refine kA ?_ _)); exact BK257.out⟩, ⟨by (with_reducible repeat (first | refine kN ?_ _ | refine kZ ?_ | refine kA ?_ _)); refine blk_put (cs := #[.int .i64 t258, .int .i64 t283, .int .i64 0, .int .i64 0, .int .i64 0, .slice none 0 0, .slice none 0 0, .int .i64 0, .slice none 0 0, .slice none 0 0]) ?_ 2 _ rfl; (with_reducible repeat (first | refine kN ?_ _ | refine kZ ?_ | refine kA ?_ _)); refine blk_put (cs := #[.int .i64 t258, .int .i64 0, .int .i64 0, .int .i64 0, .int .i64 0, .slice none 0 0, .slice none 0 0, .int .i64 0, .slice none 0 0, .slice none 0 0]) ?_ 1 _ rfl; (with_reducible repeat (first | refine kN ?_ _ | refine kZ ?_ | refine kA ?_ _)); exact BK260.out⟩, ⟨by repeat (first | (with_reducible first | exact HI0.out | apply IsS66.alloc | apply IsS66.drewN | apply IsS66.drew | apply IsS66.set_0 | refine IsS66.far ?_ NB0_257.out _ | refine IsS66.far ?_ NB0_260.out _) | exact HI0.out)⟩, ⟨by repeat (first | (with_reducible first | exact HK.out | apply KeepBut.set_ | apply keep_drewN | apply keep_drew | apply keep_alloc | refine keep_far ?_ GW257.out _ | refine keep_far ?_ GW260.out _) | exact HK.out)⟩, ⟨by repeat (first | (with_reducible first | exact HB.out | apply bA | apply bN | apply bD | refine bS ?_ (IsS66.ge HI0.out) | refine bS ?_ GE257.out | refine bS ?_ GE260.out) | exact HB.out)⟩⟩
  case rest =>
   clear HC47
   try clear c1
   try clear c2
   try clear p2
   try clear c3
   try clear c3b0
   try clear c3b1
   try clear c4
   try clear c5
   try clear c6
   try clear p6
   try clear c8
   try clear c9
   try clear c12
   try clear c12b0
   try clear c15
   try clear c24
   try clear c24b0
   try clear c26
   try clear c29
   try clear c38
   try clear c39
   try clear c40
   try clear c41
   try clear c51
   try clear c52
   try clear c57
   try clear c57b0
   try clear c57b1
   try clear c60
   try clear c61
   try clear hcz10_0 hcz10_1 hcz10_2 hcz10_3 hcz10_4 hcz10_5 hcz10_6 hcz10_7 hcz10_8 hcz10_9
   try clear hcz40_0 hcz40_1 hcz40_2 hcz40_3 hcz40_4 hcz40_5 hcz40_6 hcz40_7 hcz40_8 hcz40_9
   try clear hcz42_0 hcz42_1 hcz42_2 hcz42_3 hcz42_4 hcz42_5 hcz42_6 hcz42_7 hcz42_8 hcz42_9
   try clear hcz53_0 hcz53_1 hcz53_2 hcz53_3 hcz53_4 hcz53_5 hcz53_6 hcz53_7 hcz53_8 hcz53_9
   try clear hcz56_0 hcz56_1 hcz56_2 hcz56_3 hcz56_4 hcz56_5 hcz56_6 hcz56_7 hcz56_8 hcz56_9
   try clear hcz62_0 hcz62_1 hcz62_2 hcz62_3 hcz62_4 hcz62_5 hcz62_6 hcz62_7 hcz62_8 hcz62_9
   try clear hfz10
   try clear hfz40
   try clear hfz42
   try clear hfz53
   try clear hfz56
   try clear hfz62
   try clear p2
   try clear p6
   obtain ⟨kq, x1000_46, x261007_46, HA, HJ46, BK257, BK260, HI0, HK, HB⟩ := hcut
   cases kq with
   | zero => exact absurd HA.out (by simp [record_reader_read.j2])
   | succ kj46 =>
    have H := HA.out
    clear HA
    simp only [record_reader_read.j2] at H
    have HC63 := Aside0.mk H
    clear H
    go_upto_region 15 with (fail)
    go_cut [64] (fun v64 wc => ∃ (kq : Nat) (x64_62 : Bool), v64 = .bool x64_62 ∧ Aside0 (record_reader_read.j3 kq x64_62 x1000_46 t258 t283 t285 0 0 x261007_46 = some (r1, r2, r3, r4, r5, r6, r7, r8, r9, r10, r11)) ∧ Aside0 (kq ≤ kj46) ∧ Aside0 (wc.heap[gb257]? = some (.cells #[.int .i64 0, .int .i64 0, .int .i64 0, .int .i64 0, .int .i64 0, (.slice none 0 0), (.slice none 0 0), .int .i64 0, (.slice none 0 0), (.slice none 0 0)] 30 (0, 0))) ∧ Aside0 (wc.heap[gb260]? = some (.cells #[.int .i64 t258, .int .i64 t283, .int .i64 t285, .int .i64 0, .int .i64 0, (.slice none 0 0), (.slice none 0 0), .int .i64 x261007_46, (.slice none 0 0), (.slice none 0 0)] 30 (0, 0))) ∧ Aside0 (IsS66 w0 wc g x1000_46) ∧ Aside0 (KeepBut w wc g none) ∧ Aside0 (Below w0.heap.size w0 wc))
    case first =>
     have H := HC63.out
     clear HC63
     by_cases c64 : t258 = 1
     ·rw [if_pos c64] at H
      have c64b0 : (t258 == 1) = true := beq_iff_eq.mpr c64
      have c64b1 : (t258 != 1) = false := bne_eq_false_iff_eq.mpr c64
      clear c64
      (first | rw [c64b0] | (simp only [i64_w, i32_w]; rw [c64b0]) | skip)
      have H' := Aside0.mk H
      clear H
      have hnb65 := NB260_257.out
      have hnc65 := NB257_260.out
      have hnb66 := NB260_0.out
      have hnc66 := NB0_260.out
      obtain ⟨hcz67_0, hcz67_1, hcz67_2, hcz67_3, hcz67_4, hcz67_5, hcz67_6, hcz67_7, hcz67_8, hcz67_9⟩ := ten_cells BK260.out
      have hfz67 := ten_free BK260.out
      go_wp2
      go_meet
      case rel => exact ⟨_, (true), (by first | rfl | (simp; done) | (simp [*]; done)), H', ⟨by have := HJ46.out; first | omega | exact Nat.le_refl _⟩, ⟨by (with_reducible repeat (first | refine kN ?_ _ | refine kZ ?_ | refine kA ?_ _)); exact BK257.out⟩, ⟨by (with_reducible repeat (first | refine kN ?_ _ | refine kZ ?_ | refine kA ?_ _)); exact BK260.out⟩, ⟨by repeat (first | (with_reducible first | exact HI0.out | apply IsS66.alloc | apply IsS66.drewN | apply IsS66.drew | apply IsS66.set_0 | refine IsS66.far ?_ NB0_257.out _ | refine IsS66.far ?_ NB0_260.out _) | exact HI0.out)⟩, ⟨by repeat (first | (with_reducible first | exact HK.out | apply KeepBut.set_ | apply keep_drewN | apply keep_drew | apply keep_alloc | refine keep_far ?_ GW257.out _ | refine keep_far ?_ GW260.out _) | exact HK.out)⟩, ⟨by repeat (first | (with_reducible first | exact HB.out | apply bA | apply bN | apply bD | refine bS ?_ (IsS66.ge HI0.out) | refine bS ?_ GE257.out | refine bS ?_ GE260.out) | exact HB.out)⟩⟩
     ·rw [if_neg c64] at H
      have c64b0 : (t258 == 1) = false := beq_eq_false_iff_ne.mpr c64
      have c64b1 : (t258 != 1) = true := bne_iff_ne.mpr c64
      (first | rw [c64b0] | (simp only [i64_w, i32_w]; rw [c64b0]) | skip)
      have H' := Aside0.mk H
      clear H
      have hnb68 := NB260_257.out
      have hnc68 := NB257_260.out
      have hnb69 := NB260_0.out
      have hnc69 := NB0_260.out
      obtain ⟨hcz70_0, hcz70_1, hcz70_2, hcz70_3, hcz70_4, hcz70_5, hcz70_6, hcz70_7, hcz70_8, hcz70_9⟩ := ten_cells BK260.out
      have hfz70 := ten_free BK260.out
      go_wp2
      go_meet
      case rel => exact ⟨_, ((t258 == 2)), (by first | rfl | (simp; done) | (simp [*]; done)), H', ⟨by have := HJ46.out; first | omega | exact Nat.le_refl _⟩, ⟨by (with_reducible repeat (first | refine kN ?_ _ | refine kZ ?_ | refine kA ?_ _)); exact BK257.out⟩, ⟨by (with_reducible repeat (first | refine kN ?_ _ | refine kZ ?_ | refine kA ?_ _)); exact BK260.out⟩, ⟨by repeat (first | (with_reducible first | exact HI0.out | apply IsS66.alloc | apply IsS66.drewN | apply IsS66.drew | apply IsS66.set_0 | refine IsS66.far ?_ NB0_257.out _ | refine IsS66.far ?_ NB0_260.out _) | exact HI0.out)⟩, ⟨by repeat (first | (with_reducible first | exact HK.out | apply KeepBut.set_ | apply keep_drewN | apply keep_drew | apply keep_alloc | refine keep_far ?_ GW257.out _ | refine keep_far ?_ GW260.out _) | exact HK.out)⟩, ⟨by repeat (first | (with_reducible first | exact HB.out | apply bA | apply bN | apply bD | refine bS ?_ (IsS66.ge HI0.out) | refine bS ?_ GE257.out | refine bS ?_ GE260.out) | exact HB.out)⟩⟩
    case rest =>
     clear HC63
     try clear c1
     try clear c2
     try clear p2
     try clear c3
     try clear c3b0
     try clear c3b1
     try clear c4
     try clear c5
     try clear c6
     try clear p6
     try clear c8
     try clear c9
     try clear c12
     try clear c12b0
     try clear c15
     try clear c24
     try clear c24b0
     try clear c26
     try clear c29
     try clear c38
     try clear c39
     try clear c40
     try clear c41
     try clear c51
     try clear c52
     try clear c57
     try clear c57b0
     try clear c57b1
     try clear c60
     try clear c61
     try clear c64
     try clear c64b0
     try clear c64b1
     try clear p64
     try clear c65
     try clear c66
     try clear c68
     try clear c69
     try clear hcz10_0 hcz10_1 hcz10_2 hcz10_3 hcz10_4 hcz10_5 hcz10_6 hcz10_7 hcz10_8 hcz10_9
     try clear hcz40_0 hcz40_1 hcz40_2 hcz40_3 hcz40_4 hcz40_5 hcz40_6 hcz40_7 hcz40_8 hcz40_9
     try clear hcz42_0 hcz42_1 hcz42_2 hcz42_3 hcz42_4 hcz42_5 hcz42_6 hcz42_7 hcz42_8 hcz42_9
     try clear hcz53_0 hcz53_1 hcz53_2 hcz53_3 hcz53_4 hcz53_5 hcz53_6 hcz53_7 hcz53_8 hcz53_9
     try clear hcz56_0 hcz56_1 hcz56_2 hcz56_3 hcz56_4 hcz56_5 hcz56_6 hcz56_7 hcz56_8 hcz56_9
     try clear hcz62_0 hcz62_1 hcz62_2 hcz62_3 hcz62_4 hcz62_5 hcz62_6 hcz62_7 hcz62_8 hcz62_9
     try clear hcz67_0 hcz67_1 hcz67_2 hcz67_3 hcz67_4 hcz67_5 hcz67_6 hcz67_7 hcz67_8 hcz67_9
     try clear hcz70_0 hcz70_1 hcz70_2 hcz70_3 hcz70_4 hcz70_5 hcz70_6 hcz70_7 hcz70_8 hcz70_9
     try clear hfz10
     try clear hfz40
     try clear hfz42
     try clear hfz53
     try clear hfz56
     try clear hfz62
     try clear hfz67
     try clear hfz70
     try clear p2
     try clear p6
     obtain ⟨kq, x64_62, rfl, HA, HJ62, BK257, BK260, HI0, HK, HB⟩ := hcut
     cases kq with
     | zero => exact absurd HA.out (by simp [record_reader_read.j3])
     | succ kj62 =>
      have H := HA.out
      clear HA
      simp only [record_reader_read.j3] at H
      by_cases c71 : x64_62 = true
      ·subst c71
       have H1 : ((record_reader_num.f x1000_46).bind fun bt289 => ((record_reader_num.f bt289.2).bind fun bt291 => ((record_reader_count.f bt291.2 1).bind fun bt293 => (record_reader_read.l2 kj62 bt293.1 0 bt293.2 t258 t283 t285 bt289.1 bt291.1 ([] : List Int) x261007_46)))) = some (r1, r2, r3, r4, r5, r6, r7, r8, r9, r10, r11) := by rw [if_pos rfl] at H; exact H
       clear H
       have H := H1
       clear H1
       replace H := Option.bind_eq_some_iff.mp H
       obtain ⟨⟨t289, t290⟩, A720, H⟩ := H
       replace H : ((record_reader_num.f t290).bind fun bt291 => ((record_reader_count.f bt291.2 1).bind fun bt293 => (record_reader_read.l2 kj62 bt293.1 0 bt293.2 t258 t283 t285 t289 bt291.1 ([] : List Int) x261007_46))) = some (r1, r2, r3, r4, r5, r6, r7, r8, r9, r10, r11) := H
       have A72 := Aside0.mk A720
       clear A720
       replace H := Option.bind_eq_some_iff.mp H
       obtain ⟨⟨t291, t292⟩, A730, H⟩ := H
       replace H : ((record_reader_count.f t292 1).bind fun bt293 => (record_reader_read.l2 kj62 bt293.1 0 bt293.2 t258 t283 t285 t289 t291 ([] : List Int) x261007_46)) = some (r1, r2, r3, r4, r5, r6, r7, r8, r9, r10, r11) := H
       have A73 := Aside0.mk A730
       clear A730
       replace H := Option.bind_eq_some_iff.mp H
       obtain ⟨⟨t293, t294⟩, A740, H⟩ := H
       replace H : (record_reader_read.l2 kj62 t293 0 t294 t258 t283 t285 t289 t291 ([] : List Int) x261007_46) = some (r1, r2, r3, r4, r5, r6, r7, r8, r9, r10, r11) := H
       have A74 := Aside0.mk A740
       clear A740
       have H' := Aside0.mk H
       clear H
       go_wp2_with (first | ((with_reducible refine gate_callee (f := 40) rfl ?_); refine goesL_ (some 66) rfl rfl Try.func40 (by kernel_rfl) rfl #[.pointer (some ⟨g, 0, none⟩)] rfl (by (try simp only [List.map_toArray, List.map_cons, List.map_nil]); first | done | rfl | (simp only [List.length_drop, List.length_take]; rfl)) ?_; (with_reducible refine (record_reader_num.calls g x1000_46 t289 t290 w0 _ ?side1 ?side2 A72.out).mono ?_); (case side1 => repeat (first | (with_reducible first | exact HI0.out | apply IsS66.alloc | apply IsS66.drewN | apply IsS66.drew | apply IsS66.set_0 | refine IsS66.far ?_ NB0_257.out _ | refine IsS66.far ?_ NB0_260.out _) | exact HI0.out)); (case side2 => repeat (first | (with_reducible first | exact HB.out | apply bA | apply bN | apply bD | refine bS ?_ (IsS66.ge HI0.out) | refine bS ?_ GE257.out | refine bS ?_ GE260.out) | exact HB.out)); rintro e w75 ⟨rfl, hi, hb, hk⟩; refine ⟨_, rfl, ?_⟩; have n0_ := Aside0.mk (KeepBut.blk hk (g' := gb257) (o := .cells #[.int .i64 0, .int .i64 0, .int .i64 0, .int .i64 0, .int .i64 0, .slice none 0 0, .slice none 0 0, .int .i64 0, .slice none 0 0, .slice none 0 0] 30 (0, 0)) (by (with_reducible repeat (first | refine kN ?_ _ | refine kZ ?_ | refine kA ?_ _)); exact BK257.out) NB257_0.out (by simp)); have n1_ := Aside0.mk (KeepBut.blk hk (g' := gb260) (o := .cells #[.int .i64 t258, .int .i64 t283, .int .i64 t285, .int .i64 0, .int .i64 0, .slice none 0 0, .slice none 0 0, .int .i64 x261007_46, .slice none 0 0, .slice none 0 0] 30 (0, 0)) (by (with_reducible repeat (first | refine kN ?_ _ | refine kZ ?_ | refine kA ?_ _)); exact BK260.out) NB260_0.out (by simp)); have n2_ := Aside0.mk (KeepBut.trans (by repeat (first | (with_reducible first | exact HK.out | apply KeepBut.set_ | apply keep_drewN | apply keep_drew | apply keep_alloc | refine keep_far ?_ GW257.out _ | refine keep_far ?_ GW260.out _) | exact HK.out)) hk (.inl rfl)); have n3_ := Aside0.mk (hb); have n4_ := Aside0.mk (hi); clear BK257; clear BK260; clear HK; clear HB; clear HI0; have BK257 := n0_; have BK260 := n1_; have HK := n2_; have HB := n3_; have HI0 := n4_; clear n0_ n1_ n2_ n3_ n4_; (try clear hb); (try clear hb2); (try clear hk); (try clear hi)) | ((with_reducible refine gate_callee (f := 40) rfl ?_); refine goesL_ (some 68) rfl rfl Try.func40 (by kernel_rfl) rfl #[.pointer (some ⟨g, 0, none⟩)] rfl (by (try simp only [List.map_toArray, List.map_cons, List.map_nil]); first | done | rfl | (simp only [List.length_drop, List.length_take]; rfl)) ?_; (with_reducible refine (record_reader_num.calls g t290 t291 t292 w0 _ ?side1 ?side2 A73.out).mono ?_); (case side1 => repeat (first | (with_reducible first | exact HI0.out | apply IsS66.alloc | apply IsS66.drewN | apply IsS66.drew | apply IsS66.set_0 | refine IsS66.far ?_ NB0_257.out _ | refine IsS66.far ?_ NB0_260.out _) | exact HI0.out)); (case side2 => repeat (first | (with_reducible first | exact HB.out | apply bA | apply bN | apply bD | refine bS ?_ (IsS66.ge HI0.out) | refine bS ?_ GE257.out | refine bS ?_ GE260.out) | exact HB.out)); rintro e w76 ⟨rfl, hi, hb, hk⟩; refine ⟨_, rfl, ?_⟩; have n0_ := Aside0.mk (KeepBut.blk hk (g' := gb257) (o := .cells #[.int .i64 0, .int .i64 0, .int .i64 0, .int .i64 0, .int .i64 0, .slice none 0 0, .slice none 0 0, .int .i64 0, .slice none 0 0, .slice none 0 0] 30 (0, 0)) (by (with_reducible repeat (first | refine kN ?_ _ | refine kZ ?_ | refine kA ?_ _)); exact BK257.out) NB257_0.out (by simp)); have n1_ := Aside0.mk (KeepBut.blk hk (g' := gb260) (o := .cells #[.int .i64 t258, .int .i64 t283, .int .i64 t285, .int .i64 0, .int .i64 0, .slice none 0 0, .slice none 0 0, .int .i64 x261007_46, .slice none 0 0, .slice none 0 0] 30 (0, 0)) (by (with_reducible repeat (first | refine kN ?_ _ | refine kZ ?_ | refine kA ?_ _)); exact BK260.out) NB260_0.out (by simp)); have n2_ := Aside0.mk (KeepBut.trans (by repeat (first | (with_reducible first | exact HK.out | apply KeepBut.set_ | apply keep_drewN | apply keep_drew | apply keep_alloc | refine keep_far ?_ GW257.out _ | refine keep_far ?_ GW260.out _) | exact HK.out)) hk (.inl rfl)); have n3_ := Aside0.mk (hb); have n4_ := Aside0.mk (hi); clear BK257; clear BK260; clear HK; clear HB; clear HI0; have BK257 := n0_; have BK260 := n1_; have HK := n2_; have HB := n3_; have HI0 := n4_; clear n0_ n1_ n2_ n3_ n4_; (try clear hb); (try clear hb2); (try clear hk); (try clear hi); have hnb77 := NB260_257.out; have hnc77 := NB257_260.out; have hnb78 := NB260_0.out; have hnc78 := NB0_260.out; obtain ⟨hcz79_0, hcz79_1, hcz79_2, hcz79_3, hcz79_4, hcz79_5, hcz79_6, hcz79_7, hcz79_8, hcz79_9⟩ := ten_cells BK260.out; have hfz79 := ten_free BK260.out) | ((with_reducible refine gate_callee (f := 41) rfl ?_); refine goesL_ (some 72) rfl rfl Try.func41 (by kernel_rfl) rfl #[.pointer (some ⟨g, 0, none⟩), .int .i64 1] rfl (by (try simp only [List.map_toArray, List.map_cons, List.map_nil]); first | done | rfl | (simp only [List.length_drop, List.length_take]; rfl)) ?_; (with_reducible refine (record_reader_count.calls g t292 1 t293 t294 w0 _ ?side1 ?side2 A74.out).mono ?_); (case side1 => repeat (first | (with_reducible first | exact HI0.out | apply IsS66.alloc | apply IsS66.drewN | apply IsS66.drew | apply IsS66.set_0 | refine IsS66.far ?_ NB0_257.out _ | refine IsS66.far ?_ NB0_260.out _) | exact HI0.out)); (case side2 => repeat (first | (with_reducible first | exact HB.out | apply bA | apply bN | apply bD | refine bS ?_ (IsS66.ge HI0.out) | refine bS ?_ GE257.out | refine bS ?_ GE260.out) | exact HB.out)); rintro e w80 ⟨rfl, hi, hb, hk⟩; refine ⟨_, rfl, ?_⟩; have n0_ := Aside0.mk (KeepBut.blk hk (g' := gb257) (o := .cells #[.int .i64 0, .int .i64 0, .int .i64 0, .int .i64 0, .int .i64 0, .slice none 0 0, .slice none 0 0, .int .i64 0, .slice none 0 0, .slice none 0 0] 30 (0, 0)) (by (with_reducible repeat (first | refine kN ?_ _ | refine kZ ?_ | refine kA ?_ _)); refine blk_far ?_ NB257_260.out _; (with_reducible repeat (first | refine kN ?_ _ | refine kZ ?_ | refine kA ?_ _)); refine blk_far ?_ NB257_260.out _; (with_reducible repeat (first | refine kN ?_ _ | refine kZ ?_ | refine kA ?_ _)); exact BK257.out) NB257_0.out (by simp)); have n1_ := Aside0.mk (KeepBut.blk hk (g' := gb260) (o := .cells #[.int .i64 t258, .int .i64 t283, .int .i64 t285, .int .i64 t289, .int .i64 t291, .slice none 0 0, .slice none 0 0, .int .i64 x261007_46, .slice none 0 0, .slice none 0 0] 30 (0, 0)) (by (with_reducible repeat (first | refine kN ?_ _ | refine kZ ?_ | refine kA ?_ _)); refine blk_put (cs := #[.int .i64 t258, .int .i64 t283, .int .i64 t285, .int .i64 t289, .int .i64 0, .slice none 0 0, .slice none 0 0, .int .i64 x261007_46, .slice none 0 0, .slice none 0 0]) ?_ 4 _ rfl; (with_reducible repeat (first | refine kN ?_ _ | refine kZ ?_ | refine kA ?_ _)); refine blk_put (cs := #[.int .i64 t258, .int .i64 t283, .int .i64 t285, .int .i64 0, .int .i64 0, .slice none 0 0, .slice none 0 0, .int .i64 x261007_46, .slice none 0 0, .slice none 0 0]) ?_ 3 _ rfl; (with_reducible repeat (first | refine kN ?_ _ | refine kZ ?_ | refine kA ?_ _)); exact BK260.out) NB260_0.out (by simp)); have n2_ := Aside0.mk (KeepBut.trans (by repeat (first | (with_reducible first | exact HK.out | apply KeepBut.set_ | apply keep_drewN | apply keep_drew | apply keep_alloc | refine keep_far ?_ GW257.out _ | refine keep_far ?_ GW260.out _) | exact HK.out)) hk (.inl rfl)); have n3_ := Aside0.mk (hb); have n4_ := Aside0.mk (hi); clear BK257; clear BK260; clear HK; clear HB; clear HI0; have BK257 := n0_; have BK260 := n1_; have HK := n2_; have HB := n3_; have HI0 := n4_; clear n0_ n1_ n2_ n3_ n4_; (try clear hb); (try clear hb2); (try clear hk); (try clear hi)))
       go_loopg [73] kj62 (fun kq v73 w' => ∃ (x73_3 : Int) (x1000_3 : View) (x261005_3 : List Int) (u261005 : Value), v73 = .int .i64 x73_3 ∧ Aside0 (record_reader_read.l2 kq t293 x73_3 x1000_3 t258 t283 t285 t289 t291 x261005_3 x261007_46 = some (r1, r2, r3, r4, r5, r6, r7, r8, r9, r10, r11)) ∧ Aside0 (kq ≤ kj62) ∧ Aside0 (Kd.R (Kd.int .i64) 3 w' w.heap.size (fun _ => True) u261005 x261005_3) ∧ Aside0 (w'.heap[gb257]? = some (.cells #[.int .i64 0, .int .i64 0, .int .i64 0, .int .i64 0, .int .i64 0, (.slice none 0 0), (.slice none 0 0), .int .i64 0, (.slice none 0 0), (.slice none 0 0)] 30 (0, 0))) ∧ Aside0 (w'.heap[gb260]? = some (.cells #[.int .i64 t258, .int .i64 t283, .int .i64 t285, .int .i64 t289, .int .i64 t291, u261005, (.slice none 0 0), .int .i64 x261007_46, (.slice none 0 0), (.slice none 0 0)] 30 (0, 0))) ∧ Aside0 (IsS66 w0 w' g x1000_3) ∧ Aside0 (KeepBut w w' g none) ∧ Aside0 (Below w0.heap.size w0 w'))
       case atStart => exact ⟨(0), (t294), (([] : List Int)), (.slice none 0 0), (by first | rfl | (simp; done) | (simp [*]; done)), H', ⟨Nat.le_refl _⟩, ⟨by first | exact Kd.R_nil _ _ _ _ _ | exact Kd.N_nil _ _ _ _ _ | exact Kd.V_nil _ _ _ _ _ | exact Kd.Q_nil _ _ _ _ _ | exact Kd.S_nil _ _ _ _ _⟩, ⟨by (with_reducible repeat (first | refine kN ?_ _ | refine kZ ?_ | refine kA ?_ _)); exact BK257.out⟩, ⟨by (with_reducible repeat (first | refine kN ?_ _ | refine kZ ?_ | refine kA ?_ _)); exact BK260.out⟩, ⟨by repeat (first | (with_reducible first | exact HI0.out | apply IsS66.alloc | apply IsS66.drewN | apply IsS66.drew | apply IsS66.set_0 | refine IsS66.far ?_ NB0_257.out _ | refine IsS66.far ?_ NB0_260.out _) | exact HI0.out)⟩, ⟨by repeat (first | (with_reducible first | exact HK.out | apply KeepBut.set_ | apply keep_drewN | apply keep_drew | apply keep_alloc | refine keep_far ?_ GW257.out _ | refine keep_far ?_ GW260.out _) | exact HK.out)⟩, ⟨by repeat (first | (with_reducible first | exact HB.out | apply bA | apply bN | apply bD | refine bS ?_ (IsS66.ge HI0.out) | refine bS ?_ GE257.out | refine bS ?_ GE260.out) | exact HB.out)⟩⟩
       case round =>
        clear H'
        try clear c1
        try clear c2
        try clear p2
        try clear c3
        try clear c3b0
        try clear c3b1
        try clear c4
        try clear c5
        try clear c6
        try clear p6
        try clear c7
        try clear c8
        try clear c9
        try clear c12
        try clear c12b0
        try clear c15
        try clear c24
        try clear c24b0
        try clear c26
        try clear c29
        try clear c38
        try clear c39
        try clear c40
        try clear c41
        try clear c51
        try clear c52
        try clear c57
        try clear c57b0
        try clear c57b1
        try clear c60
        try clear c61
        try clear c64
        try clear c64b0
        try clear c64b1
        try clear p64
        try clear c65
        try clear c66
        try clear c68
        try clear c69
        try clear c71
        try clear c77
        try clear c78
        try clear hcz10_0 hcz10_1 hcz10_2 hcz10_3 hcz10_4 hcz10_5 hcz10_6 hcz10_7 hcz10_8 hcz10_9
        try clear hcz40_0 hcz40_1 hcz40_2 hcz40_3 hcz40_4 hcz40_5 hcz40_6 hcz40_7 hcz40_8 hcz40_9
        try clear hcz42_0 hcz42_1 hcz42_2 hcz42_3 hcz42_4 hcz42_5 hcz42_6 hcz42_7 hcz42_8 hcz42_9
        try clear hcz53_0 hcz53_1 hcz53_2 hcz53_3 hcz53_4 hcz53_5 hcz53_6 hcz53_7 hcz53_8 hcz53_9
        try clear hcz56_0 hcz56_1 hcz56_2 hcz56_3 hcz56_4 hcz56_5 hcz56_6 hcz56_7 hcz56_8 hcz56_9
        try clear hcz62_0 hcz62_1 hcz62_2 hcz62_3 hcz62_4 hcz62_5 hcz62_6 hcz62_7 hcz62_8 hcz62_9
        try clear hcz67_0 hcz67_1 hcz67_2 hcz67_3 hcz67_4 hcz67_5 hcz67_6 hcz67_7 hcz67_8 hcz67_9
        try clear hcz70_0 hcz70_1 hcz70_2 hcz70_3 hcz70_4 hcz70_5 hcz70_6 hcz70_7 hcz70_8 hcz70_9
        try clear hcz79_0 hcz79_1 hcz79_2 hcz79_3 hcz79_4 hcz79_5 hcz79_6 hcz79_7 hcz79_8 hcz79_9
        try clear hfz10
        try clear hfz40
        try clear hfz42
        try clear hfz53
        try clear hfz56
        try clear hfz62
        try clear hfz67
        try clear hfz70
        try clear hfz79
        try clear p2
        try clear p6
        try clear p64
        obtain ⟨x73_3, x1000_3, x261005_3, u261005, rfl, HA, HK3, HO_261005, BK257, BK260, HI0, HK, HB⟩ := hrel
        cases gk with
        | zero => exact absurd HA.out (by simp [record_reader_read.l2])
        | succ k3 =>
         have H := HA.out
         clear HA
         simp only [record_reader_read.l2] at H
         by_cases c81 : x73_3 < t293
         ·rw [if_pos c81] at H
          have c81b0 : decide (x73_3 < t293) = true := decide_eq_true c81
          clear c81
          replace H := Option.bind_eq_some_iff.mp H
          obtain ⟨⟨t295, t296⟩, A820, H⟩ := H
          replace H : (if x261005_3.length < 17592186044416 then (record_reader_read.l2 k3 t293 (wrap64 (x73_3 + 1)) t296 t258 t283 t285 t289 t291 (x261005_3 ++ [t295]) x261007_46) else (none)) = some (r1, r2, r3, r4, r5, r6, r7, r8, r9, r10, r11) := H
          have A82 := Aside0.mk A820
          clear A820
          by_cases c83 : x261005_3.length < 17592186044416
          ·rw [if_pos c83] at H
           have LMc83 := Aside0.mk c83
           clear c83
           obtain ⟨y297, hy297⟩ : ∃ y_ : List Int, y_ = (x261005_3 ++ [t295]) := ⟨_, rfl⟩
           replace H : (record_reader_read.l2 k3 t293 (wrap64 (x73_3 + 1)) t296 t258 t283 t285 t289 t291 y297 x261007_46) = some (r1, r2, r3, r4, r5, r6, r7, r8, r9, r10, r11) := by first | (rw [hy297]; with_reducible exact H) | (have H2_ := (Option.bind_some _ _).symm.trans H; rw [hy297]; with_reducible exact H2_) | (have H2_ := (Option.bind_some _ _).symm.trans H; with_reducible exact H2_) | with_reducible exact H | (rw [hy297]; exact H) | exact H
           have Ny297 := Aside0.mk hy297
           clear hy297
           have H' := Aside0.mk H
           clear H
           try go_wp2
           have n0_ := Aside0.mk (rZ HO_261005.out)
           have n1_ := Aside0.mk (kZ BK257.out)
           have n2_ := Aside0.mk (kZ BK260.out)
           have n3_ := Aside0.mk (IsS66.drew HI0.out)
           have n4_ := Aside0.mk (keep_drew HK.out)
           have n5_ := Aside0.mk (bD HB.out)
           clear HO_261005
           clear BK257
           clear BK260
           clear HI0
           clear HK
           clear HB
           have HO_261005 := n0_
           have BK257 := n1_
           have BK260 := n2_
           have HI0 := n3_
           have HK := n4_
           have HB := n5_
           clear n0_ n1_ n2_ n3_ n4_ n5_
           refine start_ (n := 8) (S := fun w' => w'.cell? ⟨gb260, 0, none⟩ = some (.int .i64 t258) ∧ w'.cell? ⟨gb260, 1, none⟩ = some (.int .i64 t283) ∧ w'.cell? ⟨gb260, 2, none⟩ = some (.int .i64 t285) ∧ w'.cell? ⟨gb260, 3, none⟩ = some (.int .i64 t289) ∧ w'.cell? ⟨gb260, 4, none⟩ = some (.int .i64 t291) ∧ w'.cell? ⟨gb260, 5, none⟩ = some (u261005) ∧ w'.cell? ⟨gb260, 6, none⟩ = some (.slice none 0 0) ∧ w'.cell? ⟨gb260, 7, none⟩ = some (.int .i64 x261007_46) ∧ w'.cell? ⟨gb260, 8, none⟩ = some (.slice none 0 0) ∧ w'.cell? ⟨gb260, 9, none⟩ = some (.slice none 0 0)) (ds := [7]) #[false, false, false, false, false, false, false, false] (by kernel_rfl) rfl rfl (ten_cells BK260.out) (fun hHeld => ?_); refine with_tabW record_reader_read.tab19 record_reader_read.bits19 (fun HT_ HW_ => ?_)
           generalize wr.drew = w84 at HO_261005 BK257 BK260 HI0 HK HB hHeld ⊢
           refine pure_ (i := 0) (N := some 75) (v := ?_) (a' := ?_) #[true, false, false, false, false, false, false, false] rfl rfl (any_of HT_.out (by kernel_rfl)) (fun _ _ _ h => h) (Or.inl ⟨by rfl, ?_⟩) ?_ ?_
           rotate_left
           ·intro w'
            go_simp
            with_reducible rfl
           rotate_left
           ·simp only [Act.put, List.setIfInBounds_toArray, List.set_cons_zero, List.set_cons_succ, i64_w, i32_w]
            rfl
           refine pure_ (i := 2) (N := some 77) (v := ?_) (a' := ?_) #[true, false, true, false, false, false, false, false] rfl rfl (any_of HT_.out (by kernel_rfl)) (fun _ _ _ h => h) (Or.inl ⟨by rfl, ?_⟩) ?_ ?_
           rotate_left
           ·intro w'
            go_simp
            with_reducible rfl
           rotate_left
           ·simp only [Act.put, List.setIfInBounds_toArray, List.set_cons_zero, List.set_cons_succ, i64_w, i32_w]
            rfl
           refine take_ (i := 1) (N := some 76) (v := ?_) (a' := ?_) #[true, true, true, false, false, false, false, false] rfl rfl (take_ofW HT_.out HW_.out (by kernel_rfl)) (fun _ _ _ h => h) (Or.inl ⟨by rfl, ?_⟩) hHeld ?_ ?_
           rotate_left
           ·rintro w' ⟨s0, s1, s2, s3, s4, s5, s6, s7, s8, s9⟩
            go_simp
            with_reducible rfl
           rotate_left
           ·simp only [Act.put, List.setIfInBounds_toArray, List.set_cons_zero, List.set_cons_succ, i64_w, i32_w]
            rfl
           refine one_ (i := 3) (N := some 78) #[true, true, true, true, false, false, false, false] rfl rfl (one_of HT_.out (by kernel_rfl)) (by decide) (fun K hK => ?_)
           refine goes_ Try.func40 (by kernel_rfl) rfl #[.pointer (some ⟨g, 0, none⟩)] (by rfl) rfl rfl (by (try simp only [List.map_toArray, List.map_cons, List.map_nil]); first | done | rfl | (simp only [List.length_drop, List.length_take]; rfl)) ?_
           with_reducible refine (record_reader_num.calls g x1000_3 t295 t296 w0 _ ?side1 ?side2 A82.out).mono ?_
           (case side1 => repeat (first | (with_reducible first | exact HI0.out | apply IsS66.alloc | apply IsS66.drewN | apply IsS66.drew | apply IsS66.set_0 | refine IsS66.far ?_ NB0_257.out _ | refine IsS66.far ?_ NB0_260.out _) | exact HI0.out))
           (case side2 => repeat (first | (with_reducible first | exact HB.out | apply bA | apply bN | apply bD | refine bS ?_ (IsS66.ge HI0.out) | refine bS ?_ GE257.out | refine bS ?_ GE260.out) | exact HB.out))
           rintro e w85 ⟨rfl, hi, hb, hk⟩
           refine ⟨_, rfl, ?_⟩
           have n0_ := Aside0.mk (Kd.R_mono (Kd.R_keep (IsS66.apart (show IsS66 w0 _ g x1000_3 from by repeat (first | (with_reducible first | exact HI0.out | apply IsS66.alloc | apply IsS66.drewN | apply IsS66.drew | apply IsS66.set_0 | refine IsS66.far ?_ NB0_257.out _ | refine IsS66.far ?_ NB0_260.out _) | exact HI0.out)) (by (with_reducible repeat (first | apply rA | apply rN | apply rZ)); exact HO_261005.out) (by decide)) hk (fun _ h => h.2)) (fun _ h => h.1))
           have n1_ := Aside0.mk (KeepBut.blk hk (g' := gb257) (o := .cells #[.int .i64 0, .int .i64 0, .int .i64 0, .int .i64 0, .int .i64 0, .slice none 0 0, .slice none 0 0, .int .i64 0, .slice none 0 0, .slice none 0 0] 30 (0, 0)) (by (with_reducible repeat (first | refine kN ?_ _ | refine kZ ?_ | refine kA ?_ _)); exact BK257.out) NB257_0.out (by simp))
           have n2_ := Aside0.mk (KeepBut.blk hk (g' := gb260) (o := .cells #[.int .i64 t258, .int .i64 t283, .int .i64 t285, .int .i64 t289, .int .i64 t291, u261005, .slice none 0 0, .int .i64 x261007_46, .slice none 0 0, .slice none 0 0] 30 (0, 0)) (by (with_reducible repeat (first | refine kN ?_ _ | refine kZ ?_ | refine kA ?_ _)); exact BK260.out) NB260_0.out (by simp))
           have n3_ := Aside0.mk (KeepBut.trans (by repeat (first | (with_reducible first | exact HK.out | apply KeepBut.set_ | apply keep_drewN | apply keep_drew | apply keep_alloc | refine keep_far ?_ GW257.out _ | refine keep_far ?_ GW260.out _) | exact HK.out)) hk (.inl rfl))
           have n4_ := Aside0.mk (hb)
           have n5_ := Aside0.mk (hi)
           clear HO_261005
           clear BK257
           clear BK260
           clear HK
           clear HB
           clear HI0
           have HO_261005 := n0_
           have BK257 := n1_
           have BK260 := n2_
           have HK := n3_
           have HB := n4_
           have HI0 := n5_
           clear n0_ n1_ n2_ n3_ n4_ n5_
           (try clear hb)
           (try clear hb2)
           (try clear hk)
           (try clear hi)
           refine hK.out _ _ (ten_cells BK260.out) (fun hHeld => ?_)
           clear hK K
           refine norm_ (a' := ?_) ?_ ?_
           rotate_left
           ·show Act.put _ (some 78) _ = _
            simp only [Act.put, List.setIfInBounds_toArray, List.set_cons_zero, List.set_cons_succ, i64_w, i32_w]
            rfl
           refine one_ (i := 4) (N := some 79) #[true, true, true, true, true, false, false, false] rfl rfl (one_of HT_.out (by kernel_rfl)) (by decide) (fun K hK => ?_)
           refine value_ (w1 := ?_) (v := ?_) (by rfl) rfl ?_ ?_
           rotate_left 2
           ·go_simp
            constructor
            ·rfl
            ·rfl
           refine hK.out _ _ (ten_cells (kA BK260.out _)) (fun hHeld => ?_)
           clear hK K
           refine norm_ (a' := ?_) ?_ ?_
           rotate_left
           ·show Act.put _ (some 79) _ = _
            simp only [Act.put, List.setIfInBounds_toArray, List.set_cons_zero, List.set_cons_succ, i64_w, i32_w]
            rfl
           refine one_ (i := 5) (N := some 80) #[true, true, true, true, true, true, false, false] rfl rfl (one_of HT_.out (by kernel_rfl)) (by decide) (fun K hK => ?_)
           refine Kd.R_append_step (Kd.int .i64) w.heap.size (by rfl) (.tmp 76) (.tmp 79) 25 3 (.int .i64 0) 8 rfl Try.underlying25 info3 rfl (by decide) (by omega) u261005 x261005_3 t295 [.int .i64 t295] (fun _ => True) (fun _ => False) rfl rfl ?aP (fun _ hk => hk.elim) ?aF ?aO (Below.refl _ _) ?aS ?aL ?_
           (case aP => exact rfl)
           (case aF => exact (fun _ _ => trivial))
           (case aO => exact (by (with_reducible repeat (first | apply rA | apply rN | apply rZ)); exact HO_261005.out))
           (case aS => exact (keep_size (w := w) (g := g) (row := none) (by repeat (first | (with_reducible first | exact HK.out | apply KeepBut.set_ | apply keep_drewN | apply keep_drew | apply keep_alloc | refine keep_far ?_ GW257.out _ | refine keep_far ?_ GW260.out _) | exact HK.out))))
           (case aL => have := LMc83.out; omega)
           intro v298 w86 ho hb hg hat
           rw [← Ny297.out] at ho
           have n0_ := Aside0.mk (blk_grown (g := gb257) (o := .cells #[.int .i64 0, .int .i64 0, .int .i64 0, .int .i64 0, .int .i64 0, .slice none 0 0, .slice none 0 0, .int .i64 0, .slice none 0 0, .slice none 0 0] 30 (0, 0)) (by (with_reducible repeat (first | refine kN ?_ _ | refine kZ ?_ | refine kA ?_ _)); exact BK257.out) hg (Kd.R_ne HO_261005.out BK257.out (by decide)))
           have n1_ := Aside0.mk (blk_grown (g := gb260) (o := .cells #[.int .i64 t258, .int .i64 t283, .int .i64 t285, .int .i64 t289, .int .i64 t291, u261005, .slice none 0 0, .int .i64 x261007_46, .slice none 0 0, .slice none 0 0] 30 (0, 0)) (by (with_reducible repeat (first | refine kN ?_ _ | refine kZ ?_ | refine kA ?_ _)); exact BK260.out) hg (Kd.R_ne HO_261005.out BK260.out (by decide)))
           have n2_ := Aside0.mk (IsS66.grown (by repeat (first | (with_reducible first | exact HI0.out | apply IsS66.alloc | apply IsS66.drewN | apply IsS66.drew | apply IsS66.set_0 | refine IsS66.far ?_ NB0_257.out _ | refine IsS66.far ?_ NB0_260.out _) | exact HI0.out)) hg (IsS66.own_ne HI0.out HO_261005.out (by decide)))
           have n3_ := Aside0.mk (below_weaken (by repeat (first | (with_reducible first | exact HB.out | apply bA | apply bN | apply bD | refine bS ?_ (IsS66.ge HI0.out) | refine bS ?_ GE257.out | refine bS ?_ GE260.out) | exact HB.out)) HL.out hb)
           have n4_ := Aside0.mk (KeepBut.trans (by repeat (first | (with_reducible first | exact HK.out | apply KeepBut.set_ | apply keep_drewN | apply keep_drew | apply keep_alloc | refine keep_far ?_ GW257.out _ | refine keep_far ?_ GW260.out _) | exact HK.out)) (KeepBut.of_grown hg g) (Kd.R_base2 HO_261005.out))
           have n5_ := Aside0.mk (ho)
           clear BK257
           clear BK260
           clear HI0
           clear HB
           clear HK
           clear HO_261005
           have BK257 := n0_
           have BK260 := n1_
           have HI0 := n2_
           have HB := n3_
           have HK := n4_
           have HO299 := n5_
           clear n0_ n1_ n2_ n3_ n4_ n5_
           clear ho hb hg hat
           obtain ⟨Ao87, co87, eo87⟩ := Kd.R_slice HO299.out
           (first | subst eo87 | (injection eo87 with f1_ f2_ f3_; have f4_ := f1_.symm; have f5_ := f3_.symm; clear f1_ f2_ f3_; subst f4_; subst f5_))
           refine hK.out _ _ (ten_cells BK260.out) (fun hHeld => ?_)
           clear hK K
           refine norm_ (a' := ?_) ?_ ?_
           rotate_left
           ·show Act.put _ (some 80) _ = _
            simp only [Act.put, List.setIfInBounds_toArray, List.set_cons_zero, List.set_cons_succ, i64_w, i32_w]
            rfl
           refine pure_ (i := 6) (N := some 81) (v := ?_) (a' := ?_) #[true, true, true, true, true, true, true, false] rfl rfl (any_of HT_.out (by kernel_rfl)) (fun _ _ _ h => h) (Or.inl ⟨by rfl, ?_⟩) ?_ ?_
           rotate_left
           ·intro w'
            go_simp
            with_reducible rfl
           rotate_left
           ·simp only [Act.put, List.setIfInBounds_toArray, List.set_cons_zero, List.set_cons_succ, i64_w, i32_w]
            rfl
           refine last_ (i := 7) (N := none) #[true, true, true, true, true, true, true, true] rfl rfl (one_of HT_.out (by kernel_rfl)) (by decide) (fun K hK => ?_)
           have hs88 : w86.cell? ⟨gb260, 5, none⟩ = some (u261005) := (blk_cell BK260.out 5).trans rfl
           have hfs88 := blk_frozen BK260.out 5
           have hns88_0 := NB257_260.out
           have hms88_0 := NB260_257.out
           refine skip_ (w1 := ?_) (by rfl) rfl ?_ ?_
           rotate_left
           ·go_simp
            rfl
           refine hK.out _ _ ?_
           clear hK K
           refine done_ (done_of HT_.out (by kernel_rfl)) ?_
           try go_wp2
           go_roundg k3
           case measure => have := HJ46.out; have := HJ62.out; have := HK3.out; omega
           case rel => exact ⟨(wrap64 (x73_3 + 1)), (t296), (y297), (.slice Ao87 y297.length co87), (by first | rfl | (simp; done) | (simp [*]; done)), H', ⟨by have := HJ46.out; have := HJ62.out; have := HK3.out; omega⟩, ⟨by (with_reducible repeat (first | apply rA | apply rN | apply rZ)); exact Kd.R_mono (Kd.R_far (p := ⟨gb260, 5, none⟩) (Kd.R_types HO299.out BK260.out (by decide)) (fun _ hk => hk.2) (.slice Ao87 y297.length co87)) (fun _ hk => trivial)⟩, ⟨by (with_reducible repeat (first | refine kN ?_ _ | refine kZ ?_ | refine kA ?_ _)); refine blk_far ?_ NB257_260.out _; (with_reducible repeat (first | refine kN ?_ _ | refine kZ ?_ | refine kA ?_ _)); exact BK257.out⟩, ⟨by (with_reducible repeat (first | refine kN ?_ _ | refine kZ ?_ | refine kA ?_ _)); refine blk_put (cs := #[.int .i64 t258, .int .i64 t283, .int .i64 t285, .int .i64 t289, .int .i64 t291, u261005, .slice none 0 0, .int .i64 x261007_46, .slice none 0 0, .slice none 0 0]) ?_ 5 _ rfl; (with_reducible repeat (first | refine kN ?_ _ | refine kZ ?_ | refine kA ?_ _)); exact BK260.out⟩, ⟨by repeat (first | (with_reducible first | exact HI0.out | apply IsS66.alloc | apply IsS66.drewN | apply IsS66.drew | apply IsS66.set_0 | refine IsS66.far ?_ NB0_257.out _ | refine IsS66.far ?_ NB0_260.out _) | exact HI0.out)⟩, ⟨by repeat (first | (with_reducible first | exact HK.out | apply KeepBut.set_ | apply keep_drewN | apply keep_drew | apply keep_alloc | refine keep_far ?_ GW257.out _ | refine keep_far ?_ GW260.out _) | exact HK.out)⟩, ⟨by repeat (first | (with_reducible first | exact HB.out | apply bA | apply bN | apply bD | refine bS ?_ (IsS66.ge HI0.out) | refine bS ?_ GE257.out | refine bS ?_ GE260.out) | exact HB.out)⟩⟩
          ·rw [if_neg c83] at H
           exact absurd H (by simp)
         ·rw [if_neg c81] at H
          have c81b0 : decide (x73_3 < t293) = false := decide_eq_false c81
          clear c81
          replace H := Option.bind_eq_some_iff.mp H
          obtain ⟨⟨t300, t301⟩, A890, H⟩ := H
          replace H : (record_reader_read.l3 k3 t300 0 t301 t258 t283 t285 t289 t291 x261005_3 ([] : List (S52)) x261007_46) = some (r1, r2, r3, r4, r5, r6, r7, r8, r9, r10, r11) := H
          have A89 := Aside0.mk A890
          clear A890
          have H' := Aside0.mk H
          clear H
          go_wp2_with (first | ((with_reducible refine gate_callee (f := 41) rfl ?_); refine goesL_ (some 84) rfl rfl Try.func41 (by kernel_rfl) rfl #[.pointer (some ⟨g, 0, none⟩), .int .i64 2] rfl (by (try simp only [List.map_toArray, List.map_cons, List.map_nil]); first | done | rfl | (simp only [List.length_drop, List.length_take]; rfl)) ?_; (with_reducible refine (record_reader_count.calls g x1000_3 2 t300 t301 w0 _ ?side1 ?side2 A89.out).mono ?_); (case side1 => repeat (first | (with_reducible first | exact HI0.out | apply IsS66.alloc | apply IsS66.drewN | apply IsS66.drew | apply IsS66.set_0 | refine IsS66.far ?_ NB0_257.out _ | refine IsS66.far ?_ NB0_260.out _) | exact HI0.out)); (case side2 => repeat (first | (with_reducible first | exact HB.out | apply bA | apply bN | apply bD | refine bS ?_ (IsS66.ge HI0.out) | refine bS ?_ GE257.out | refine bS ?_ GE260.out) | exact HB.out)); rintro e w90 ⟨rfl, hi, hb, hk⟩; refine ⟨_, rfl, ?_⟩; have n0_ := Aside0.mk (Kd.R_mono (Kd.R_keep (IsS66.apart (show IsS66 w0 _ g x1000_3 from by repeat (first | (with_reducible first | exact HI0.out | apply IsS66.alloc | apply IsS66.drewN | apply IsS66.drew | apply IsS66.set_0 | refine IsS66.far ?_ NB0_257.out _ | refine IsS66.far ?_ NB0_260.out _) | exact HI0.out)) (by (with_reducible repeat (first | apply rA | apply rN | apply rZ)); exact HO_261005.out) (by decide)) hk (fun _ h => h.2)) (fun _ h => h.1)); have n1_ := Aside0.mk (KeepBut.blk hk (g' := gb257) (o := .cells #[.int .i64 0, .int .i64 0, .int .i64 0, .int .i64 0, .int .i64 0, .slice none 0 0, .slice none 0 0, .int .i64 0, .slice none 0 0, .slice none 0 0] 30 (0, 0)) (by (with_reducible repeat (first | refine kN ?_ _ | refine kZ ?_ | refine kA ?_ _)); exact BK257.out) NB257_0.out (by simp)); have n2_ := Aside0.mk (KeepBut.blk hk (g' := gb260) (o := .cells #[.int .i64 t258, .int .i64 t283, .int .i64 t285, .int .i64 t289, .int .i64 t291, u261005, .slice none 0 0, .int .i64 x261007_46, .slice none 0 0, .slice none 0 0] 30 (0, 0)) (by (with_reducible repeat (first | refine kN ?_ _ | refine kZ ?_ | refine kA ?_ _)); exact BK260.out) NB260_0.out (by simp)); have n3_ := Aside0.mk (KeepBut.trans (by repeat (first | (with_reducible first | exact HK.out | apply KeepBut.set_ | apply keep_drewN | apply keep_drew | apply keep_alloc | refine keep_far ?_ GW257.out _ | refine keep_far ?_ GW260.out _) | exact HK.out)) hk (.inl rfl)); have n4_ := Aside0.mk (hb); have n5_ := Aside0.mk (hi); clear HO_261005; clear BK257; clear BK260; clear HK; clear HB; clear HI0; have HO_261005 := n0_; have BK257 := n1_; have BK260 := n2_; have HK := n3_; have HB := n4_; have HI0 := n5_; clear n0_ n1_ n2_ n3_ n4_ n5_; (try clear hb); (try clear hb2); (try clear hk); (try clear hi)))
          go_loopg [85] k3 (fun kq v85 w' => ∃ (x85_4 : Int) (x1000_4 : View) (x261006_4 : List (S52)) (u261006 : Value), v85 = .int .i64 x85_4 ∧ Aside0 (record_reader_read.l3 kq t300 x85_4 x1000_4 t258 t283 t285 t289 t291 x261005_3 x261006_4 x261007_46 = some (r1, r2, r3, r4, r5, r6, r7, r8, r9, r10, r11)) ∧ Aside0 (kq ≤ k3) ∧ Aside0 (Kd.R (Kd.int .i64) 3 w' w.heap.size (fun _ => True) u261005 x261005_3) ∧ Aside0 (Kd.R k52 52 w' w.heap.size (fun _ => True) u261006 x261006_4) ∧ Aside0 (w'.heap[gb257]? = some (.cells #[.int .i64 0, .int .i64 0, .int .i64 0, .int .i64 0, .int .i64 0, (.slice none 0 0), (.slice none 0 0), .int .i64 0, (.slice none 0 0), (.slice none 0 0)] 30 (0, 0))) ∧ Aside0 (w'.heap[gb260]? = some (.cells #[.int .i64 t258, .int .i64 t283, .int .i64 t285, .int .i64 t289, .int .i64 t291, u261005, u261006, .int .i64 x261007_46, (.slice none 0 0), (.slice none 0 0)] 30 (0, 0))) ∧ Aside0 (IsS66 w0 w' g x1000_4) ∧ Aside0 (KeepBut w w' g none) ∧ Aside0 (Below w0.heap.size w0 w'))
          case atStart => exact ⟨(0), (t301), (([] : List (S52))), (.slice none 0 0), (by first | rfl | (simp; done) | (simp [*]; done)), H', ⟨Nat.le_refl _⟩, ⟨by (with_reducible repeat (first | apply rA | apply rN | apply rZ)); exact HO_261005.out⟩, ⟨by first | exact Kd.R_nil _ _ _ _ _ | exact Kd.N_nil _ _ _ _ _ | exact Kd.V_nil _ _ _ _ _ | exact Kd.Q_nil _ _ _ _ _ | exact Kd.S_nil _ _ _ _ _⟩, ⟨by (with_reducible repeat (first | refine kN ?_ _ | refine kZ ?_ | refine kA ?_ _)); exact BK257.out⟩, ⟨by (with_reducible repeat (first | refine kN ?_ _ | refine kZ ?_ | refine kA ?_ _)); exact BK260.out⟩, ⟨by repeat (first | (with_reducible first | exact HI0.out | apply IsS66.alloc | apply IsS66.drewN | apply IsS66.drew | apply IsS66.set_0 | refine IsS66.far ?_ NB0_257.out _ | refine IsS66.far ?_ NB0_260.out _) | exact HI0.out)⟩, ⟨by repeat (first | (with_reducible first | exact HK.out | apply KeepBut.set_ | apply keep_drewN | apply keep_drew | apply keep_alloc | refine keep_far ?_ GW257.out _ | refine keep_far ?_ GW260.out _) | exact HK.out)⟩, ⟨by repeat (first | (with_reducible first | exact HB.out | apply bA | apply bN | apply bD | refine bS ?_ (IsS66.ge HI0.out) | refine bS ?_ GE257.out | refine bS ?_ GE260.out) | exact HB.out)⟩⟩
          case round =>
           clear H'
           try clear c1
           try clear c2
           try clear p2
           try clear c3
           try clear c3b0
           try clear c3b1
           try clear c4
           try clear c5
           try clear c6
           try clear p6
           try clear c7
           try clear c8
           try clear c9
           try clear c12
           try clear c12b0
           try clear c15
           try clear c24
           try clear c24b0
           try clear c26
           try clear c29
           try clear c38
           try clear c39
           try clear c40
           try clear c41
           try clear c51
           try clear c52
           try clear c57
           try clear c57b0
           try clear c57b1
           try clear c60
           try clear c61
           try clear c64
           try clear c64b0
           try clear c64b1
           try clear p64
           try clear c65
           try clear c66
           try clear c68
           try clear c69
           try clear c71
           try clear c77
           try clear c78
           try clear c81
           try clear c81b0
           try clear c83
           try clear hcz10_0 hcz10_1 hcz10_2 hcz10_3 hcz10_4 hcz10_5 hcz10_6 hcz10_7 hcz10_8 hcz10_9
           try clear hcz40_0 hcz40_1 hcz40_2 hcz40_3 hcz40_4 hcz40_5 hcz40_6 hcz40_7 hcz40_8 hcz40_9
           try clear hcz42_0 hcz42_1 hcz42_2 hcz42_3 hcz42_4 hcz42_5 hcz42_6 hcz42_7 hcz42_8 hcz42_9
           try clear hcz53_0 hcz53_1 hcz53_2 hcz53_3 hcz53_4 hcz53_5 hcz53_6 hcz53_7 hcz53_8 hcz53_9
           try clear hcz56_0 hcz56_1 hcz56_2 hcz56_3 hcz56_4 hcz56_5 hcz56_6 hcz56_7 hcz56_8 hcz56_9
           try clear hcz62_0 hcz62_1 hcz62_2 hcz62_3 hcz62_4 hcz62_5 hcz62_6 hcz62_7 hcz62_8 hcz62_9
           try clear hcz67_0 hcz67_1 hcz67_2 hcz67_3 hcz67_4 hcz67_5 hcz67_6 hcz67_7 hcz67_8 hcz67_9
           try clear hcz70_0 hcz70_1 hcz70_2 hcz70_3 hcz70_4 hcz70_5 hcz70_6 hcz70_7 hcz70_8 hcz70_9
           try clear hcz79_0 hcz79_1 hcz79_2 hcz79_3 hcz79_4 hcz79_5 hcz79_6 hcz79_7 hcz79_8 hcz79_9
           try clear hfz10
           try clear hfz40
           try clear hfz42
           try clear hfz53
           try clear hfz56
           try clear hfz62
           try clear hfz67
           try clear hfz70
           try clear hfz79
           try clear p2
           try clear p6
           try clear p64
           obtain ⟨x85_4, x1000_4, x261006_4, u261006, rfl, HA, HK4, HO_261005, HO_261006, BK257, BK260, HI0, HK, HB⟩ := hrel
           cases gk with
           | zero => exact absurd HA.out (by simp [record_reader_read.l3])
           | succ k4 =>
            have H := HA.out
            clear HA
            simp only [record_reader_read.l3] at H
            by_cases c91 : x85_4 < t300
            ·rw [if_pos c91] at H
             have c91b0 : decide (x85_4 < t300) = true := decide_eq_true c91
             clear c91
             replace H := Option.bind_eq_some_iff.mp H
             obtain ⟨⟨t302, t303⟩, A920, H⟩ := H
             replace H : ((record_reader_num.f t303).bind fun bt304 => (if x261006_4.length < 8796093022208 then (record_reader_read.l3 k4 t300 (wrap64 (x85_4 + 1)) bt304.2 t258 t283 t285 t289 t291 x261005_3 (x261006_4 ++ [(⟨t302, bt304.1⟩ : S52)]) x261007_46) else (none))) = some (r1, r2, r3, r4, r5, r6, r7, r8, r9, r10, r11) := H
             have A92 := Aside0.mk A920
             clear A920
             replace H := Option.bind_eq_some_iff.mp H
             obtain ⟨⟨t304, t305⟩, A930, H⟩ := H
             replace H : (if x261006_4.length < 8796093022208 then (record_reader_read.l3 k4 t300 (wrap64 (x85_4 + 1)) t305 t258 t283 t285 t289 t291 x261005_3 (x261006_4 ++ [(⟨t302, t304⟩ : S52)]) x261007_46) else (none)) = some (r1, r2, r3, r4, r5, r6, r7, r8, r9, r10, r11) := H
             have A93 := Aside0.mk A930
             clear A930
             by_cases c94 : x261006_4.length < 8796093022208
             ·rw [if_pos c94] at H
              have LMc94 := Aside0.mk c94
              clear c94
              obtain ⟨y306, hy306⟩ : ∃ y_ : List (S52), y_ = (x261006_4 ++ [(⟨t302, t304⟩ : S52)]) := ⟨_, rfl⟩
              replace H : (record_reader_read.l3 k4 t300 (wrap64 (x85_4 + 1)) t305 t258 t283 t285 t289 t291 x261005_3 y306 x261007_46) = some (r1, r2, r3, r4, r5, r6, r7, r8, r9, r10, r11) := by first | (rw [hy306]; with_reducible exact H) | (have H2_ := (Option.bind_some _ _).symm.trans H; rw [hy306]; with_reducible exact H2_) | (have H2_ := (Option.bind_some _ _).symm.trans H; with_reducible exact H2_) | with_reducible exact H | (rw [hy306]; exact H) | exact H
              have Ny306 := Aside0.mk hy306
              clear hy306
              have H' := Aside0.mk H
              clear H
              try go_wp2
              have n0_ := Aside0.mk (rZ HO_261005.out)
              have n1_ := Aside0.mk (rZ HO_261006.out)
              have n2_ := Aside0.mk (kZ BK257.out)
              have n3_ := Aside0.mk (kZ BK260.out)
              have n4_ := Aside0.mk (IsS66.drew HI0.out)
              have n5_ := Aside0.mk (keep_drew HK.out)
              have n6_ := Aside0.mk (bD HB.out)
              clear HO_261005
              clear HO_261006
              clear BK257
              clear BK260
              clear HI0
              clear HK
              clear HB
              have HO_261005 := n0_
              have HO_261006 := n1_
              have BK257 := n2_
              have BK260 := n3_
              have HI0 := n4_
              have HK := n5_
              have HB := n6_
              clear n0_ n1_ n2_ n3_ n4_ n5_ n6_
              refine start_ (n := 11) (S := fun w' => w'.cell? ⟨gb260, 0, none⟩ = some (.int .i64 t258) ∧ w'.cell? ⟨gb260, 1, none⟩ = some (.int .i64 t283) ∧ w'.cell? ⟨gb260, 2, none⟩ = some (.int .i64 t285) ∧ w'.cell? ⟨gb260, 3, none⟩ = some (.int .i64 t289) ∧ w'.cell? ⟨gb260, 4, none⟩ = some (.int .i64 t291) ∧ w'.cell? ⟨gb260, 5, none⟩ = some (u261005) ∧ w'.cell? ⟨gb260, 6, none⟩ = some (u261006) ∧ w'.cell? ⟨gb260, 7, none⟩ = some (.int .i64 x261007_46) ∧ w'.cell? ⟨gb260, 8, none⟩ = some (.slice none 0 0) ∧ w'.cell? ⟨gb260, 9, none⟩ = some (.slice none 0 0)) (ds := [10]) #[false, false, false, false, false, false, false, false, false, false, false] (by kernel_rfl) rfl rfl (ten_cells BK260.out) (fun hHeld => ?_); refine with_tabW record_reader_read.tab23 record_reader_read.bits23 (fun HT_ HW_ => ?_)
              generalize wr.drew = w95 at HO_261005 HO_261006 BK257 BK260 HI0 HK HB hHeld ⊢
              refine pure_ (i := 0) (N := some 87) (v := ?_) (a' := ?_) #[true, false, false, false, false, false, false, false, false, false, false] rfl rfl (any_of HT_.out (by kernel_rfl)) (fun _ _ _ h => h) (Or.inl ⟨by rfl, ?_⟩) ?_ ?_
              rotate_left
              ·intro w'
               go_simp
               with_reducible rfl
              rotate_left
              ·simp only [Act.put, List.setIfInBounds_toArray, List.set_cons_zero, List.set_cons_succ, i64_w, i32_w]
               rfl
              refine pure_ (i := 2) (N := some 89) (v := ?_) (a' := ?_) #[true, false, true, false, false, false, false, false, false, false, false] rfl rfl (any_of HT_.out (by kernel_rfl)) (fun _ _ _ h => h) (Or.inl ⟨by rfl, ?_⟩) ?_ ?_
              rotate_left
              ·intro w'
               go_simp
               with_reducible rfl
              rotate_left
              ·simp only [Act.put, List.setIfInBounds_toArray, List.set_cons_zero, List.set_cons_succ, i64_w, i32_w]
               rfl
              refine pure_ (i := 4) (N := some 91) (v := ?_) (a' := ?_) #[true, false, true, false, true, false, false, false, false, false, false] rfl rfl (any_of HT_.out (by kernel_rfl)) (fun _ _ _ h => h) (Or.inl ⟨by rfl, ?_⟩) ?_ ?_
              rotate_left
              ·intro w'
               go_simp
               with_reducible rfl
              rotate_left
              ·simp only [Act.put, List.setIfInBounds_toArray, List.set_cons_zero, List.set_cons_succ, i64_w, i32_w]
               rfl
              refine take_ (i := 1) (N := some 88) (v := ?_) (a' := ?_) #[true, true, true, false, true, false, false, false, false, false, false] rfl rfl (take_ofW HT_.out HW_.out (by kernel_rfl)) (fun _ _ _ h => h) (Or.inl ⟨by rfl, ?_⟩) hHeld ?_ ?_
              rotate_left
              ·rintro w' ⟨s0, s1, s2, s3, s4, s5, s6, s7, s8, s9⟩
               go_simp
               with_reducible rfl
              rotate_left
              ·simp only [Act.put, List.setIfInBounds_toArray, List.set_cons_zero, List.set_cons_succ, i64_w, i32_w]
               rfl
              refine one_ (i := 3) (N := some 90) #[true, true, true, true, true, false, false, false, false, false, false] rfl rfl (one_of HT_.out (by kernel_rfl)) (by decide) (fun K hK => ?_)
              refine goes_ Try.func40 (by kernel_rfl) rfl #[.pointer (some ⟨g, 0, none⟩)] (by rfl) rfl rfl (by (try simp only [List.map_toArray, List.map_cons, List.map_nil]); first | done | rfl | (simp only [List.length_drop, List.length_take]; rfl)) ?_
              with_reducible refine (record_reader_num.calls g x1000_4 t302 t303 w0 _ ?side1 ?side2 A92.out).mono ?_
              (case side1 => repeat (first | (with_reducible first | exact HI0.out | apply IsS66.alloc | apply IsS66.drewN | apply IsS66.drew | apply IsS66.set_0 | refine IsS66.far ?_ NB0_257.out _ | refine IsS66.far ?_ NB0_260.out _) | exact HI0.out))
              (case side2 => repeat (first | (with_reducible first | exact HB.out | apply bA | apply bN | apply bD | refine bS ?_ (IsS66.ge HI0.out) | refine bS ?_ GE257.out | refine bS ?_ GE260.out) | exact HB.out))
              rintro e w96 ⟨rfl, hi, hb, hk⟩
              refine ⟨_, rfl, ?_⟩
              have n0_ := Aside0.mk (Kd.R_mono (Kd.R_keep (IsS66.apart (show IsS66 w0 _ g x1000_4 from by repeat (first | (with_reducible first | exact HI0.out | apply IsS66.alloc | apply IsS66.drewN | apply IsS66.drew | apply IsS66.set_0 | refine IsS66.far ?_ NB0_257.out _ | refine IsS66.far ?_ NB0_260.out _) | exact HI0.out)) (by (with_reducible repeat (first | apply rA | apply rN | apply rZ)); exact HO_261005.out) (by decide)) hk (fun _ h => h.2)) (fun _ h => h.1))
              have n1_ := Aside0.mk (Kd.R_mono (Kd.R_keep (IsS66.apart (show IsS66 w0 _ g x1000_4 from by repeat (first | (with_reducible first | exact HI0.out | apply IsS66.alloc | apply IsS66.drewN | apply IsS66.drew | apply IsS66.set_0 | refine IsS66.far ?_ NB0_257.out _ | refine IsS66.far ?_ NB0_260.out _) | exact HI0.out)) (by (with_reducible repeat (first | apply rA | apply rN | apply rZ)); exact HO_261006.out) (by decide)) hk (fun _ h => h.2)) (fun _ h => h.1))
              have n2_ := Aside0.mk (KeepBut.blk hk (g' := gb257) (o := .cells #[.int .i64 0, .int .i64 0, .int .i64 0, .int .i64 0, .int .i64 0, .slice none 0 0, .slice none 0 0, .int .i64 0, .slice none 0 0, .slice none 0 0] 30 (0, 0)) (by (with_reducible repeat (first | refine kN ?_ _ | refine kZ ?_ | refine kA ?_ _)); exact BK257.out) NB257_0.out (by simp))
              have n3_ := Aside0.mk (KeepBut.blk hk (g' := gb260) (o := .cells #[.int .i64 t258, .int .i64 t283, .int .i64 t285, .int .i64 t289, .int .i64 t291, u261005, u261006, .int .i64 x261007_46, .slice none 0 0, .slice none 0 0] 30 (0, 0)) (by (with_reducible repeat (first | refine kN ?_ _ | refine kZ ?_ | refine kA ?_ _)); exact BK260.out) NB260_0.out (by simp))
              have n4_ := Aside0.mk (KeepBut.trans (by repeat (first | (with_reducible first | exact HK.out | apply KeepBut.set_ | apply keep_drewN | apply keep_drew | apply keep_alloc | refine keep_far ?_ GW257.out _ | refine keep_far ?_ GW260.out _) | exact HK.out)) hk (.inl rfl))
              have n5_ := Aside0.mk (hb)
              have n6_ := Aside0.mk (hi)
              clear HO_261005
              clear HO_261006
              clear BK257
              clear BK260
              clear HK
              clear HB
              clear HI0
              have HO_261005 := n0_
              have HO_261006 := n1_
              have BK257 := n2_
              have BK260 := n3_
              have HK := n4_
              have HB := n5_
              have HI0 := n6_
              clear n0_ n1_ n2_ n3_ n4_ n5_ n6_
              (try clear hb)
              (try clear hb2)
              (try clear hk)
              (try clear hi)
              refine hK.out _ _ (ten_cells BK260.out) (fun hHeld => ?_)
              clear hK K
              refine norm_ (a' := ?_) ?_ ?_
              rotate_left
              ·show Act.put _ (some 90) _ = _
               simp only [Act.put, List.setIfInBounds_toArray, List.set_cons_zero, List.set_cons_succ, i64_w, i32_w]
               rfl
              refine one_ (i := 5) (N := some 92) #[true, true, true, true, true, true, false, false, false, false, false] rfl rfl (one_of HT_.out (by kernel_rfl)) (by decide) (fun K hK => ?_)
              refine goes_ Try.func40 (by kernel_rfl) rfl #[.pointer (some ⟨g, 0, none⟩)] (by rfl) rfl rfl (by (try simp only [List.map_toArray, List.map_cons, List.map_nil]); first | done | rfl | (simp only [List.length_drop, List.length_take]; rfl)) ?_
              with_reducible refine (record_reader_num.calls g t303 t304 t305 w0 _ ?side1 ?side2 A93.out).mono ?_
              (case side1 => repeat (first | (with_reducible first | exact HI0.out | apply IsS66.alloc | apply IsS66.drewN | apply IsS66.drew | apply IsS66.set_0 | refine IsS66.far ?_ NB0_257.out _ | refine IsS66.far ?_ NB0_260.out _) | exact HI0.out))
              (case side2 => repeat (first | (with_reducible first | exact HB.out | apply bA | apply bN | apply bD | refine bS ?_ (IsS66.ge HI0.out) | refine bS ?_ GE257.out | refine bS ?_ GE260.out) | exact HB.out))
              rintro e w97 ⟨rfl, hi, hb, hk⟩
              refine ⟨_, rfl, ?_⟩
              have n0_ := Aside0.mk (Kd.R_mono (Kd.R_keep (IsS66.apart (show IsS66 w0 _ g t303 from by repeat (first | (with_reducible first | exact HI0.out | apply IsS66.alloc | apply IsS66.drewN | apply IsS66.drew | apply IsS66.set_0 | refine IsS66.far ?_ NB0_257.out _ | refine IsS66.far ?_ NB0_260.out _) | exact HI0.out)) (by (with_reducible repeat (first | apply rA | apply rN | apply rZ)); exact HO_261005.out) (by decide)) hk (fun _ h => h.2)) (fun _ h => h.1))
              have n1_ := Aside0.mk (Kd.R_mono (Kd.R_keep (IsS66.apart (show IsS66 w0 _ g t303 from by repeat (first | (with_reducible first | exact HI0.out | apply IsS66.alloc | apply IsS66.drewN | apply IsS66.drew | apply IsS66.set_0 | refine IsS66.far ?_ NB0_257.out _ | refine IsS66.far ?_ NB0_260.out _) | exact HI0.out)) (by (with_reducible repeat (first | apply rA | apply rN | apply rZ)); exact HO_261006.out) (by decide)) hk (fun _ h => h.2)) (fun _ h => h.1))
              have n2_ := Aside0.mk (KeepBut.blk hk (g' := gb257) (o := .cells #[.int .i64 0, .int .i64 0, .int .i64 0, .int .i64 0, .int .i64 0, .slice none 0 0, .slice none 0 0, .int .i64 0, .slice none 0 0, .slice none 0 0] 30 (0, 0)) (by (with_reducible repeat (first | refine kN ?_ _ | refine kZ ?_ | refine kA ?_ _)); exact BK257.out) NB257_0.out (by simp))
              have n3_ := Aside0.mk (KeepBut.blk hk (g' := gb260) (o := .cells #[.int .i64 t258, .int .i64 t283, .int .i64 t285, .int .i64 t289, .int .i64 t291, u261005, u261006, .int .i64 x261007_46, .slice none 0 0, .slice none 0 0] 30 (0, 0)) (by (with_reducible repeat (first | refine kN ?_ _ | refine kZ ?_ | refine kA ?_ _)); exact BK260.out) NB260_0.out (by simp))
              have n4_ := Aside0.mk (KeepBut.trans (by repeat (first | (with_reducible first | exact HK.out | apply KeepBut.set_ | apply keep_drewN | apply keep_drew | apply keep_alloc | refine keep_far ?_ GW257.out _ | refine keep_far ?_ GW260.out _) | exact HK.out)) hk (.inl rfl))
              have n5_ := Aside0.mk (hb)
              have n6_ := Aside0.mk (hi)
              clear HO_261005
              clear HO_261006
              clear BK257
              clear BK260
              clear HK
              clear HB
              clear HI0
              have HO_261005 := n0_
              have HO_261006 := n1_
              have BK257 := n2_
              have BK260 := n3_
              have HK := n4_
              have HB := n5_
              have HI0 := n6_
              clear n0_ n1_ n2_ n3_ n4_ n5_ n6_
              (try clear hb)
              (try clear hb2)
              (try clear hk)
              (try clear hi)
              refine hK.out _ _ (ten_cells BK260.out) (fun hHeld => ?_)
              clear hK K
              refine norm_ (a' := ?_) ?_ ?_
              rotate_left
              ·show Act.put _ (some 92) _ = _
               simp only [Act.put, List.setIfInBounds_toArray, List.set_cons_zero, List.set_cons_succ, i64_w, i32_w]
               rfl
              refine pure_ (i := 6) (N := some 93) (v := ?_) (a' := ?_) #[true, true, true, true, true, true, true, false, false, false, false] rfl rfl (any_of HT_.out (by kernel_rfl)) (fun _ _ _ h => h) (Or.inl ⟨by rfl, ?_⟩) ?_ ?_
              rotate_left
              ·intro w'
               go_simp
               with_reducible rfl
              rotate_left
              ·simp only [Act.put, List.setIfInBounds_toArray, List.set_cons_zero, List.set_cons_succ, i64_w, i32_w]
               rfl
              refine one_ (i := 7) (N := some 94) #[true, true, true, true, true, true, true, true, false, false, false] rfl rfl (one_of HT_.out (by kernel_rfl)) (by decide) (fun K hK => ?_)
              refine value_ (w1 := ?_) (v := ?_) (by rfl) rfl ?_ ?_
              rotate_left 2
              ·go_simp
               constructor
               ·rfl
               ·rfl
              refine hK.out _ _ (ten_cells (kA BK260.out _)) (fun hHeld => ?_)
              clear hK K
              refine norm_ (a' := ?_) ?_ ?_
              rotate_left
              ·show Act.put _ (some 94) _ = _
               simp only [Act.put, List.setIfInBounds_toArray, List.set_cons_zero, List.set_cons_succ, i64_w, i32_w]
               rfl
              refine one_ (i := 8) (N := some 95) #[true, true, true, true, true, true, true, true, true, false, false] rfl rfl (one_of HT_.out (by kernel_rfl)) (by decide) (fun K hK => ?_)
              refine Kd.R_append_step k52 w.heap.size (by rfl) (.tmp 88) (.tmp 94) 26 52 (.agg #[(.int .i64 0), (.int .i64 0)]) 16 rfl Try.underlying26 info52 rfl (by decide) (by omega) u261006 x261006_4 (⟨t302, t304⟩ : S52) [.int .i64 t302, .int .i64 t304] (fun _ => True) (fun _ => False) rfl rfl ?aP (fun _ hk => hk.elim) ?aF ?aO (Below.refl _ _) ?aS ?aL ?_
              (case aP => exact k52_mkM _ _ _ (⟨t302, t304⟩ : S52))
              (case aF => exact (fun _ _ => trivial))
              (case aO => exact (by (with_reducible repeat (first | apply rA | apply rN | apply rZ)); exact HO_261006.out))
              (case aS => exact (keep_size (w := w) (g := g) (row := none) (by repeat (first | (with_reducible first | exact HK.out | apply KeepBut.set_ | apply keep_drewN | apply keep_drew | apply keep_alloc | refine keep_far ?_ GW257.out _ | refine keep_far ?_ GW260.out _) | exact HK.out))))
              (case aL => have := LMc94.out; omega)
              intro v307 w98 ho hb hg hat
              rw [← Ny306.out] at ho
              have n0_ := Aside0.mk (Kd.R_over' (by (with_reducible repeat (first | apply rA | apply rN | apply rZ)); exact HO_261005.out) (Kd.R_typed (by (with_reducible repeat (first | apply rA | apply rN | apply rZ)); exact HO_261006.out)) (by decide) hg)
              have n1_ := Aside0.mk (blk_grown (g := gb257) (o := .cells #[.int .i64 0, .int .i64 0, .int .i64 0, .int .i64 0, .int .i64 0, .slice none 0 0, .slice none 0 0, .int .i64 0, .slice none 0 0, .slice none 0 0] 30 (0, 0)) (by (with_reducible repeat (first | refine kN ?_ _ | refine kZ ?_ | refine kA ?_ _)); exact BK257.out) hg (Kd.R_ne HO_261006.out BK257.out (by decide)))
              have n2_ := Aside0.mk (blk_grown (g := gb260) (o := .cells #[.int .i64 t258, .int .i64 t283, .int .i64 t285, .int .i64 t289, .int .i64 t291, u261005, u261006, .int .i64 x261007_46, .slice none 0 0, .slice none 0 0] 30 (0, 0)) (by (with_reducible repeat (first | refine kN ?_ _ | refine kZ ?_ | refine kA ?_ _)); exact BK260.out) hg (Kd.R_ne HO_261006.out BK260.out (by decide)))
              have n3_ := Aside0.mk (IsS66.grown (by repeat (first | (with_reducible first | exact HI0.out | apply IsS66.alloc | apply IsS66.drewN | apply IsS66.drew | apply IsS66.set_0 | refine IsS66.far ?_ NB0_257.out _ | refine IsS66.far ?_ NB0_260.out _) | exact HI0.out)) hg (IsS66.own_ne HI0.out HO_261006.out (by decide)))
              have n4_ := Aside0.mk (below_weaken (by repeat (first | (with_reducible first | exact HB.out | apply bA | apply bN | apply bD | refine bS ?_ (IsS66.ge HI0.out) | refine bS ?_ GE257.out | refine bS ?_ GE260.out) | exact HB.out)) HL.out hb)
              have n5_ := Aside0.mk (KeepBut.trans (by repeat (first | (with_reducible first | exact HK.out | apply KeepBut.set_ | apply keep_drewN | apply keep_drew | apply keep_alloc | refine keep_far ?_ GW257.out _ | refine keep_far ?_ GW260.out _) | exact HK.out)) (KeepBut.of_grown hg g) (Kd.R_base2 HO_261006.out))
              have n6_ := Aside0.mk (ho)
              clear HO_261005
              clear BK257
              clear BK260
              clear HI0
              clear HB
              clear HK
              clear HO_261006
              have HO_261005 := n0_
              have BK257 := n1_
              have BK260 := n2_
              have HI0 := n3_
              have HB := n4_
              have HK := n5_
              have HO308 := n6_
              clear n0_ n1_ n2_ n3_ n4_ n5_ n6_
              clear ho hb hg hat
              obtain ⟨Ao99, co99, eo99⟩ := Kd.R_slice HO308.out
              (first | subst eo99 | (injection eo99 with f1_ f2_ f3_; have f4_ := f1_.symm; have f5_ := f3_.symm; clear f1_ f2_ f3_; subst f4_; subst f5_))
              refine hK.out _ _ (ten_cells BK260.out) (fun hHeld => ?_)
              clear hK K
              refine norm_ (a' := ?_) ?_ ?_
              rotate_left
              ·show Act.put _ (some 95) _ = _
               simp only [Act.put, List.setIfInBounds_toArray, List.set_cons_zero, List.set_cons_succ, i64_w, i32_w]
               rfl
              refine pure_ (i := 9) (N := some 96) (v := ?_) (a' := ?_) #[true, true, true, true, true, true, true, true, true, true, false] rfl rfl (any_of HT_.out (by kernel_rfl)) (fun _ _ _ h => h) (Or.inl ⟨by rfl, ?_⟩) ?_ ?_
              rotate_left
              ·intro w'
               go_simp
               with_reducible rfl
              rotate_left
              ·simp only [Act.put, List.setIfInBounds_toArray, List.set_cons_zero, List.set_cons_succ, i64_w, i32_w]
               rfl
              refine last_ (i := 10) (N := none) #[true, true, true, true, true, true, true, true, true, true, true] rfl rfl (one_of HT_.out (by kernel_rfl)) (by decide) (fun K hK => ?_)
              have hs100 : w98.cell? ⟨gb260, 6, none⟩ = some (u261006) := (blk_cell BK260.out 6).trans rfl
              have hfs100 := blk_frozen BK260.out 6
              have hns100_0 := NB257_260.out
              have hms100_0 := NB260_257.out
              refine skip_ (w1 := ?_) (by rfl) rfl ?_ ?_
              rotate_left
              ·go_simp
               rfl
              refine hK.out _ _ ?_
              clear hK K
              refine done_ (done_of HT_.out (by kernel_rfl)) ?_
              try go_wp2
              go_roundg k4
              case measure => have := HJ46.out; have := HJ62.out; have := HK3.out; have := HK4.out; omega
              case rel => exact ⟨(wrap64 (x85_4 + 1)), (t305), (y306), (.slice Ao99 y306.length co99), (by first | rfl | (simp; done) | (simp [*]; done)), H', ⟨by have := HJ46.out; have := HJ62.out; have := HK3.out; have := HK4.out; omega⟩, ⟨by (with_reducible repeat (first | apply rA | apply rN | apply rZ)); exact Kd.R_mono (Kd.R_far (p := ⟨gb260, 6, none⟩) (Kd.R_types HO_261005.out BK260.out (by decide)) (fun _ hk => hk.2) (.slice Ao99 y306.length co99)) (fun _ hk => trivial)⟩, ⟨by (with_reducible repeat (first | apply rA | apply rN | apply rZ)); exact Kd.R_mono (Kd.R_far (p := ⟨gb260, 6, none⟩) (Kd.R_types HO308.out BK260.out (by decide)) (fun _ hk => hk.2) (.slice Ao99 y306.length co99)) (fun _ hk => trivial)⟩, ⟨by (with_reducible repeat (first | refine kN ?_ _ | refine kZ ?_ | refine kA ?_ _)); refine blk_far ?_ NB257_260.out _; (with_reducible repeat (first | refine kN ?_ _ | refine kZ ?_ | refine kA ?_ _)); exact BK257.out⟩, ⟨by (with_reducible repeat (first | refine kN ?_ _ | refine kZ ?_ | refine kA ?_ _)); refine blk_put (cs := #[.int .i64 t258, .int .i64 t283, .int .i64 t285, .int .i64 t289, .int .i64 t291, u261005, u261006, .int .i64 x261007_46, .slice none 0 0, .slice none 0 0]) ?_ 6 _ rfl; (with_reducible repeat (first | refine kN ?_ _ | refine kZ ?_ | refine kA ?_ _)); exact BK260.out⟩, ⟨by repeat (first | (with_reducible first | exact HI0.out | apply IsS66.alloc | apply IsS66.drewN | apply IsS66.drew | apply IsS66.set_0 | refine IsS66.far ?_ NB0_257.out _ | refine IsS66.far ?_ NB0_260.out _) | exact HI0.out)⟩, ⟨by repeat (first | (with_reducible first | exact HK.out | apply KeepBut.set_ | apply keep_drewN | apply keep_drew | apply keep_alloc | refine keep_far ?_ GW257.out _ | refine keep_far ?_ GW260.out _) | exact HK.out)⟩, ⟨by repeat (first | (with_reducible first | exact HB.out | apply bA | apply bN | apply bD | refine bS ?_ (IsS66.ge HI0.out) | refine bS ?_ GE257.out | refine bS ?_ GE260.out) | exact HB.out)⟩⟩
             ·rw [if_neg c94] at H
              exact absurd H (by simp)
            ·rw [if_neg c91] at H
             have c91b0 : decide (x85_4 < t300) = false := decide_eq_false c91
             clear c91
             simp only [Option.some.injEq, Prod.mk.injEq] at H
             obtain ⟨rfl, rfl, rfl, rfl, rfl, rfl, rfl, rfl, rfl, rfl, rfl⟩ := H
             have hnb101 := NB260_257.out
             have hnc101 := NB257_260.out
             have hnb102 := NB260_0.out
             have hnc102 := NB0_260.out
             obtain ⟨hcz103_0, hcz103_1, hcz103_2, hcz103_3, hcz103_4, hcz103_5, hcz103_6, hcz103_7, hcz103_8, hcz103_9⟩ := ten_cells BK260.out
             have hfz103 := ten_free BK260.out
             have hnb104 := NB257_0.out
             have hnc104 := NB0_257.out
             obtain ⟨hcz105_0, hcz105_1, hcz105_2, hcz105_3, hcz105_4, hcz105_5, hcz105_6, hcz105_7, hcz105_8, hcz105_9⟩ := ten_cells BK257.out
             have hfz105 := ten_free BK257.out
             obtain ⟨Ao106, co106, eo106⟩ := Kd.R_slice HO_261005.out
             subst eo106
             obtain ⟨Ao107, co107, eo107⟩ := Kd.R_slice HO_261006.out
             subst eo107
             go_wp2
             refine bodyPost_ret (results_cell_row rfl _ _ gb257 30 #[.int .i64 t258, .int .i64 t283, .int .i64 t285, .int .i64 t289, .int .i64 t291, .slice Ao106 x261005_3.length co106, .slice Ao107 x261006_4.length co107, .int .i64 x261007_46, .slice none 0 0, .slice none 0 0] (0, 0) _ rfl (by (with_reducible repeat (first | refine kN ?_ _ | refine kZ ?_ | refine kA ?_ _)); refine blk_put (cs := #[.int .i64 t258, .int .i64 t283, .int .i64 t285, .int .i64 t289, .int .i64 t291, .slice Ao106 x261005_3.length co106, .slice Ao107 x261006_4.length co107, .int .i64 x261007_46, .slice none 0 0, .slice none 0 0]) ?_ 9 _ rfl; (with_reducible repeat (first | refine kN ?_ _ | refine kZ ?_ | refine kA ?_ _)); refine blk_put (cs := #[.int .i64 t258, .int .i64 t283, .int .i64 t285, .int .i64 t289, .int .i64 t291, .slice Ao106 x261005_3.length co106, .slice Ao107 x261006_4.length co107, .int .i64 x261007_46, .slice none 0 0, .slice none 0 0]) ?_ 8 _ rfl; (with_reducible repeat (first | refine kN ?_ _ | refine kZ ?_ | refine kA ?_ _)); refine blk_put (cs := #[.int .i64 t258, .int .i64 t283, .int .i64 t285, .int .i64 t289, .int .i64 t291, .slice Ao106 x261005_3.length co106, .slice Ao107 x261006_4.length co107, .int .i64 0, .slice none 0 0, .slice none 0 0]) ?_ 7 _ rfl; (with_reducible repeat (first | refine kN ?_ _ | refine kZ ?_ | refine kA ?_ _)); refine blk_put (cs := #[.int .i64 t258, .int .i64 t283, .int .i64 t285, .int .i64 t289, .int .i64 t291, .slice Ao106 x261005_3.length co106, .slice none 0 0, .int .i64 0, .slice none 0 0, .slice none 0 0]) ?_ 6 _ rfl; (with_reducible repeat (first | refine kN ?_ _ | refine kZ ?_ | refine kA ?_ _)); refine blk_put (cs := #[.int .i64 t258, .int .i64 t283, .int .i64 t285, .int .i64 t289, .int .i64 t291, .slice none 0 0, .slice none 0 0, .int .i64 0, .slice none 0 0, .slice none 0 0]) ?_ 5 _ rfl; (with_reducible repeat (first | refine kN ?_ _ | refine kZ ?_ | refine kA ?_ _)); refine blk_put (cs := #[.int .i64 t258, .int .i64 t283, .int .i64 t285, .int .i64 t289, .int .i64 0, .slice none 0 0, .slice none 0 0, .int .i64 0, .slice none 0 0, .slice none 0 0]) ?_ 4 _ rfl; (with_reducible repeat (first | refine kN ?_ _ | refine kZ ?_ | refine kA ?_ _)); refine blk_put (cs := #[.int .i64 t258, .int .i64 t283, .int .i64 t285, .int .i64 0, .int .i64 0, .slice none 0 0, .slice none 0 0, .int .i64 0, .slice none 0 0, .slice none 0 0]) ?_ 3 _ rfl; (with_reducible repeat (first | refine kN ?_ _ | refine kZ ?_ | refine kA ?_ _)); refine blk_put (cs := #[.int .i64 t258, .int .i64 t283, .int .i64 0, .int .i64 0, .int .i64 0, .slice none 0 0, .slice none 0 0, .int .i64 0, .slice none 0 0, .slice none 0 0]) ?_ 2 _ rfl; (with_reducible repeat (first | refine kN ?_ _ | refine kZ ?_ | refine kA ?_ _)); refine blk_put (cs := #[.int .i64 t258, .int .i64 0, .int .i64 0, .int .i64 0, .int .i64 0, .slice none 0 0, .slice none 0 0, .int .i64 0, .slice none 0 0, .slice none 0 0]) ?_ 1 _ rfl; (with_reducible repeat (first | refine kN ?_ _ | refine kZ ?_ | refine kA ?_ _)); refine blk_put (cs := #[.int .i64 0, .int .i64 0, .int .i64 0, .int .i64 0, .int .i64 0, .slice none 0 0, .slice none 0 0, .int .i64 0, .slice none 0 0, .slice none 0 0]) ?_ 0 _ rfl; (with_reducible repeat (first | refine kN ?_ _ | refine kZ ?_ | refine kA ?_ _)); exact BK257.out) Try.underlying30 rfl (by kernel_rfl)) rfl ?_
             exact ⟨_, _, _, _, by first | rfl | (simp [errW_none, errW_some] <;> rfl) | (simp [*, errW_none, errW_some] <;> rfl), by (with_reducible repeat (first | apply rA | apply rN | apply rZ)); exact Kd.R_mono (Kd.R_far (p := ⟨gb257, 9, none⟩) (Kd.R_far (p := ⟨gb257, 8, none⟩) (Kd.R_far (p := ⟨gb257, 7, none⟩) (Kd.R_far (p := ⟨gb257, 6, none⟩) (Kd.R_far (p := ⟨gb257, 5, none⟩) (Kd.R_far (p := ⟨gb257, 4, none⟩) (Kd.R_far (p := ⟨gb257, 3, none⟩) (Kd.R_far (p := ⟨gb257, 2, none⟩) (Kd.R_far (p := ⟨gb257, 1, none⟩) (Kd.R_far (p := ⟨gb257, 0, none⟩) (Kd.R_types HO_261005.out BK257.out (by decide)) (fun _ hk => hk.2) (.int .i64 t258)) (fun _ hk => hk.2) (.int .i64 t283)) (fun _ hk => hk.2) (.int .i64 t285)) (fun _ hk => hk.2) (.int .i64 t289)) (fun _ hk => hk.2) (.int .i64 t291)) (fun _ hk => hk.2) (.slice Ao106 x261005_3.length co106)) (fun _ hk => hk.2) (.slice Ao107 x261006_4.length co107)) (fun _ hk => hk.2) (.int .i64 x261007_46)) (fun _ hk => hk.2) (.slice none 0 0)) (fun _ hk => hk.2) (.slice none 0 0)) (fun _ hk => trivial), by (with_reducible repeat (first | apply rA | apply rN | apply rZ)); exact Kd.R_mono (Kd.R_far (p := ⟨gb257, 9, none⟩) (Kd.R_far (p := ⟨gb257, 8, none⟩) (Kd.R_far (p := ⟨gb257, 7, none⟩) (Kd.R_far (p := ⟨gb257, 6, none⟩) (Kd.R_far (p := ⟨gb257, 5, none⟩) (Kd.R_far (p := ⟨gb257, 4, none⟩) (Kd.R_far (p := ⟨gb257, 3, none⟩) (Kd.R_far (p := ⟨gb257, 2, none⟩) (Kd.R_far (p := ⟨gb257, 1, none⟩) (Kd.R_far (p := ⟨gb257, 0, none⟩) (Kd.R_types HO_261006.out BK257.out (by decide)) (fun _ hk => hk.2) (.int .i64 t258)) (fun _ hk => hk.2) (.int .i64 t283)) (fun _ hk => hk.2) (.int .i64 t285)) (fun _ hk => hk.2) (.int .i64 t289)) (fun _ hk => hk.2) (.int .i64 t291)) (fun _ hk => hk.2) (.slice Ao106 x261005_3.length co106)) (fun _ hk => hk.2) (.slice Ao107 x261006_4.length co107)) (fun _ hk => hk.2) (.int .i64 x261007_46)) (fun _ hk => hk.2) (.slice none 0 0)) (fun _ hk => hk.2) (.slice none 0 0)) (fun _ hk => trivial), by first | exact Kd.R_nil _ _ _ _ _ | exact Kd.N_nil _ _ _ _ _ | exact Kd.V_nil _ _ _ _ _ | exact Kd.Q_nil _ _ _ _ _ | exact Kd.S_nil _ _ _ _ _, by first | exact Kd.R_nil _ _ _ _ _ | exact Kd.N_nil _ _ _ _ _ | exact Kd.V_nil _ _ _ _ _ | exact Kd.Q_nil _ _ _ _ _ | exact Kd.S_nil _ _ _ _ _, by repeat (first | (with_reducible first | exact HI0.out | apply IsS66.alloc | apply IsS66.drewN | apply IsS66.drew | apply IsS66.set_0 | refine IsS66.far ?_ NB0_257.out _ | refine IsS66.far ?_ NB0_260.out _) | exact HI0.out), by repeat (first | (with_reducible first | exact HB.out | apply bA | apply bN | apply bD | refine bS ?_ (IsS66.ge HI0.out) | refine bS ?_ GE257.out | refine bS ?_ GE260.out) | exact HB.out), by repeat (first | (with_reducible first | exact HK.out | apply KeepBut.set_ | apply keep_drewN | apply keep_drew | apply keep_alloc | refine keep_far ?_ GW257.out _ | refine keep_far ?_ GW260.out _) | exact HK.out)⟩
      ·replace c71 := Bool.eq_false_iff.mpr c71
       subst c71
       have H1 : (some (t258, t283, t285, 0, 0, ([] : List Int), ([] : List (S52)), x261007_46, ([] : List (S54)), ([] : List (S56)), x1000_46)) = some (r1, r2, r3, r4, r5, r6, r7, r8, r9, r10, r11) := by rw [if_neg (show ¬ (false = true) by decide)] at H; exact H
       clear H
       have H := H1
       clear H1
       simp only [Option.some.injEq, Prod.mk.injEq] at H
       obtain ⟨rfl, rfl, rfl, rfl, rfl, rfl, rfl, rfl, rfl, rfl, rfl⟩ := H
       have hnb108 := NB260_257.out
       have hnc108 := NB257_260.out
       have hnb109 := NB260_0.out
       have hnc109 := NB0_260.out
       obtain ⟨hcz110_0, hcz110_1, hcz110_2, hcz110_3, hcz110_4, hcz110_5, hcz110_6, hcz110_7, hcz110_8, hcz110_9⟩ := ten_cells BK260.out
       have hfz110 := ten_free BK260.out
       have hnb111 := NB257_0.out
       have hnc111 := NB0_257.out
       obtain ⟨hcz112_0, hcz112_1, hcz112_2, hcz112_3, hcz112_4, hcz112_5, hcz112_6, hcz112_7, hcz112_8, hcz112_9⟩ := ten_cells BK257.out
       have hfz112 := ten_free BK257.out
       go_wp2
       refine bodyPost_ret (results_cell_row rfl _ _ gb257 30 #[.int .i64 t258, .int .i64 t283, .int .i64 t285, .int .i64 0, .int .i64 0, .slice none 0 0, .slice none 0 0, .int .i64 x261007_46, .slice none 0 0, .slice none 0 0] (0, 0) _ rfl (by (with_reducible repeat (first | refine kN ?_ _ | refine kZ ?_ | refine kA ?_ _)); refine blk_put (cs := #[.int .i64 t258, .int .i64 t283, .int .i64 t285, .int .i64 0, .int .i64 0, .slice none 0 0, .slice none 0 0, .int .i64 x261007_46, .slice none 0 0, .slice none 0 0]) ?_ 9 _ rfl; (with_reducible repeat (first | refine kN ?_ _ | refine kZ ?_ | refine kA ?_ _)); refine blk_put (cs := #[.int .i64 t258, .int .i64 t283, .int .i64 t285, .int .i64 0, .int .i64 0, .slice none 0 0, .slice none 0 0, .int .i64 x261007_46, .slice none 0 0, .slice none 0 0]) ?_ 8 _ rfl; (with_reducible repeat (first | refine kN ?_ _ | refine kZ ?_ | refine kA ?_ _)); refine blk_put (cs := #[.int .i64 t258, .int .i64 t283, .int .i64 t285, .int .i64 0, .int .i64 0, .slice none 0 0, .slice none 0 0, .int .i64 0, .slice none 0 0, .slice none 0 0]) ?_ 7 _ rfl; (with_reducible repeat (first | refine kN ?_ _ | refine kZ ?_ | refine kA ?_ _)); refine blk_put (cs := #[.int .i64 t258, .int .i64 t283, .int .i64 t285, .int .i64 0, .int .i64 0, .slice none 0 0, .slice none 0 0, .int .i64 0, .slice none 0 0, .slice none 0 0]) ?_ 6 _ rfl; (with_reducible repeat (first | refine kN ?_ _ | refine kZ ?_ | refine kA ?_ _)); refine blk_put (cs := #[.int .i64 t258, .int .i64 t283, .int .i64 t285, .int .i64 0, .int .i64 0, .slice none 0 0, .slice none 0 0, .int .i64 0, .slice none 0 0, .slice none 0 0]) ?_ 5 _ rfl; (with_reducible repeat (first | refine kN ?_ _ | refine kZ ?_ | refine kA ?_ _)); refine blk_put (cs := #[.int .i64 t258, .int .i64 t283, .int .i64 t285, .int .i64 0, .int .i64 0, .slice none 0 0, .slice none 0 0, .int .i64 0, .slice none 0 0, .slice none 0 0]) ?_ 4 _ rfl; (with_reducible repeat (first | refine kN ?_ _ | refine kZ ?_ | refine kA ?_ _)); refine blk_put (cs := #[.int .i64 t258, .int .i64 t283, .int .i64 t285, .int .i64 0, .int .i64 0, .slice none 0 0, .slice none 0 0, .int .i64 0, .slice none 0 0, .slice none 0 0]) ?_ 3 _ rfl; (with_reducible repeat (first | refine kN ?_ _ | refine kZ ?_ | refine kA ?_ _)); refine blk_put (cs := #[.int .i64 t258, .int .i64 t283, .int .i64 0, .int .i64 0, .int .i64 0, .slice none 0 0, .slice none 0 0, .int .i64 0, .slice none 0 0, .slice none 0 0]) ?_ 2 _ rfl; (with_reducible repeat (first | refine kN ?_ _ | refine kZ ?_ | refine kA ?_ _)); refine blk_put (cs := #[.int .i64 t258, .int .i64 0, .int .i64 0, .int .i64 0, .int .i64 0, .slice none 0 0, .slice none 0 0, .int .i64 0, .slice none 0 0, .slice none 0 0]) ?_ 1 _ rfl; (with_reducible repeat (first | refine kN ?_ _ | refine kZ ?_ | refine kA ?_ _)); refine blk_put (cs := #[.int .i64 0, .int .i64 0, .int .i64 0, .int .i64 0, .int .i64 0, .slice none 0 0, .slice none 0 0, .int .i64 0, .slice none 0 0, .slice none 0 0]) ?_ 0 _ rfl; (with_reducible repeat (first | refine kN ?_ _ | refine kZ ?_ | refine kA ?_ _)); exact BK257.out) Try.underlying30 rfl (by kernel_rfl)) rfl ?_
       exact ⟨_, _, _, _, by first | rfl | (simp [errW_none, errW_some] <;> rfl) | (simp [*, errW_none, errW_some] <;> rfl), by first | exact Kd.R_nil _ _ _ _ _ | exact Kd.N_nil _ _ _ _ _ | exact Kd.V_nil _ _ _ _ _ | exact Kd.Q_nil _ _ _ _ _ | exact Kd.S_nil _ _ _ _ _, by first | exact Kd.R_nil _ _ _ _ _ | exact Kd.N_nil _ _ _ _ _ | exact Kd.V_nil _ _ _ _ _ | exact Kd.Q_nil _ _ _ _ _ | exact Kd.S_nil _ _ _ _ _, by first | exact Kd.R_nil _ _ _ _ _ | exact Kd.N_nil _ _ _ _ _ | exact Kd.V_nil _ _ _ _ _ | exact Kd.Q_nil _ _ _ _ _ | exact Kd.S_nil _ _ _ _ _, by first | exact Kd.R_nil _ _ _ _ _ | exact Kd.N_nil _ _ _ _ _ | exact Kd.V_nil _ _ _ _ _ | exact Kd.Q_nil _ _ _ _ _ | exact Kd.S_nil _ _ _ _ _, by repeat (first | (with_reducible first | exact HI0.out | apply IsS66.alloc | apply IsS66.drewN | apply IsS66.drew | apply IsS66.set_0 | refine IsS66.far ?_ NB0_257.out _ | refine IsS66.far ?_ NB0_260.out _) | exact HI0.out), by repeat (first | (with_reducible first | exact HB.out | apply bA | apply bN | apply bD | refine bS ?_ (IsS66.ge HI0.out) | refine bS ?_ GE257.out | refine bS ?_ GE260.out) | exact HB.out), by repeat (first | (with_reducible first | exact HK.out | apply KeepBut.set_ | apply keep_drewN | apply keep_drew | apply keep_alloc | refine keep_far ?_ GW257.out _ | refine keep_far ?_ GW260.out _) | exact HK.out)⟩
end Go.Proofs.Ytcplblpmgajmnaa.A
namespace Go.Proofs.Ytcplblpmgajmnaa.A
open Go.RowKit Go.Proofs.YtcplblpmgajmnaaW.PrintWords Go.Proofs.YtcplblpmgajmnaaW.PrintLast Go.Proofs.YtcplblpmgajmnaaW.PrintMore
set_option linter.unusedVariables false
set_option linter.unusedSimpArgs false
theorem num_f (v : View) : ∃ v', record_reader_num.f v = some (v.l.headD 0, v') ∧ v'.l = v.l.tail := by
  unfold record_reader_num.f
  cases h : v.l with
  | nil => exact ⟨v, by simp, by simp [h]⟩
  | cons x l => exact ⟨v.tail, by simp, by simp [View.tail, h]⟩
def cnt (l : List Int) (s : Nat) : Nat := min (l.headD 0).toNat (l.tail.length / s)
theorem count_f (v : View) (s : Nat) (hs : 0 < s) : ∃ v', record_reader_count.f v (s : Int) = some ((cnt v.l s : Int), v') ∧ v'.l = v.l.tail := by
  obtain ⟨v', h, hl⟩ := num_f v
  refine ⟨v', ?_, hl⟩
  unfold record_reader_count.f
  rw [if_pos (by omega), h, Option.bind_some, hl]
  congr 2
  unfold cnt mx mn
  have e : ((v.l.tail.length : Nat) : Int) / (s : Int) = ((v.l.tail.length / s : Nat) : Int) := by omega
  rw [e]
  generalize v.l.tail.length / s = q
  generalize v.l.headD 0 = n
  rcases Nat.le_total n.toNat q with h1 | h1
  · rw [Nat.min_eq_left h1]
    split <;> split <;> omega
  · rw [Nat.min_eq_right h1]
    split <;> split <;> omega
def takeI : Nat → List Int → List S52
  | 0, _ => []
  | c + 1, l => ⟨l.headD 0, l.tail.headD 0⟩ :: takeI c l.tail.tail
def takeD : Nat → List Int → List S54
  | 0, _ => []
  | c + 1, l => ⟨l.headD 0, l.tail.headD 0⟩ :: takeD c l.tail.tail
def takeA : Nat → List Int → List S56
  | 0, _ => []
  | c + 1, l => ⟨l.headD 0, l.tail.headD 0, l.tail.tail.headD 0, l.tail.tail.tail.headD 0⟩ :: takeA c l.tail.tail.tail.tail
def takeN : Nat → List Int → List Int
  | 0, _ => []
  | c + 1, l => l.headD 0 :: takeN c l.tail
theorem takeI_len (c : Nat) : ∀ l, (takeI c l).length = c := by
  induction c with
  | zero => intro l; rfl
  | succ c ih => intro l; simp [takeI, ih]
theorem takeD_len (c : Nat) : ∀ l, (takeD c l).length = c := by
  induction c with
  | zero => intro l; rfl
  | succ c ih => intro l; simp [takeD, ih]
theorem takeA_len (c : Nat) : ∀ l, (takeA c l).length = c := by
  induction c with
  | zero => intro l; rfl
  | succ c ih => intro l; simp [takeA, ih]
theorem takeN_len (c : Nat) : ∀ l, (takeN c l).length = c := by
  induction c with
  | zero => intro l; rfl
  | succ c ih => intro l; simp [takeN, ih]
def readBody (k t p n : Int) (l : List Int) : Rec :=
  let l2 := l.tail.tail
  let c1 := cnt l2 1
  let l3 := l2.tail.drop c1
  let c2 := cnt l3 2
  ⟨k, t, p, l.headD 0, l.tail.headD 0, takeN c1 l2.tail, takeI c2 l3.tail, n, [], []⟩
def readF (l : List Int) : Rec :=
  let k := l.headD 0
  let l1 := l.tail
  if k = 5 then
    let c1 := cnt l1 2
    let l3 := l1.tail.drop (2 * c1)
    ⟨k, 0, 0, 0, 0, [], [], 0, takeD c1 l1.tail, takeA (cnt l3 4) l3.tail⟩
  else
    let t := l1.headD 0
    let p := l1.tail.headD 0
    let l2 := l1.tail.tail
    if k = 2 then readBody k t p (l2.headD 0) l2.tail
    else if k = 1 then readBody k t p 0 l2
    else ⟨k, t, p, 0, 0, [], [], 0, [], []⟩
def outOf (r : Rec) (v : View) : Int × Int × Int × Int × Int × List Int × List S52 × Int × List S54 × List S56 × View := (r.k, r.t, r.p, r.g, r.o, r.args, r.imgs, r.n, r.di, r.ac, v)
theorem wr1 {i c : Nat} (h : i < c) (hc : c ≤ 5000) : wrap64 ((i : Int) + 1) = ((i + 1 : Nat) : Int) := by
  unfold wrap64
  omega
theorem read_l1 (c : Nat) (hc : c ≤ 5000) (k t p g o n : Int) (di : List S54) : ∀ (d i K : Nat) (v : View) (acc : List S56), i + d = c → d < K → acc.length + d ≤ 5000 →
    ∃ v', record_reader_read.l1 K (c : Int) (i : Int) v k t p g o n di acc = some (outOf ⟨k, t, p, g, o, [], [], n, di, acc ++ takeA d v.l⟩ v') := by
  intro d
  induction d with
  | zero =>
    intro i K v acc hd hK ha
    obtain ⟨K, rfl⟩ : ∃ m, K = m + 1 := ⟨K - 1, by omega⟩
    exact ⟨v, by rw [record_reader_read.l1, if_neg (by omega)]; simp [outOf, takeA]⟩
  | succ d ih =>
    intro i K v acc hd hK ha
    obtain ⟨K, rfl⟩ : ∃ m, K = m + 1 := ⟨K - 1, by omega⟩
    obtain ⟨v1, h1, e1⟩ := num_f v
    obtain ⟨v2, h2, e2⟩ := num_f v1
    obtain ⟨v3, h3, e3⟩ := num_f v2
    obtain ⟨v4, h4, e4⟩ := num_f v3
    obtain ⟨v', h'⟩ := ih (i + 1) K v4 (acc ++ [⟨v.l.headD 0, v1.l.headD 0, v2.l.headD 0, v3.l.headD 0⟩]) (by omega) (by omega) (by simp; omega)
    refine ⟨v', ?_⟩
    rw [record_reader_read.l1, if_pos (by omega), h1, Option.bind_some, h2, Option.bind_some, h3, Option.bind_some, h4, Option.bind_some, if_pos (by omega), wr1 (show i < c by omega) hc, h']
    rw [e4, e3, e2, e1]
    simp [takeA]
theorem read_l0 (c : Nat) (hc : c ≤ 5000) (k t p g o n : Int) : ∀ (d i K : Nat) (v : View) (acc : List S54), i + d = c → 10000 + d < K → acc.length + d ≤ 5000 → v.l.length ≤ 5000 →
    ∃ v', record_reader_read.l0 K (c : Int) (i : Int) v k t p g o n acc = some (outOf ⟨k, t, p, g, o, [], [], n, acc ++ takeD d v.l, takeA (cnt (v.l.drop (2 * d)) 4) (v.l.drop (2 * d)).tail⟩ v') := by
  intro d
  induction d with
  | zero =>
    intro i K v acc hd hK ha hv
    obtain ⟨K, rfl⟩ : ∃ m, K = m + 1 := ⟨K - 1, by omega⟩
    obtain ⟨v1, h1, e1⟩ := count_f v 4 (by omega)
    have hcn : cnt v.l 4 ≤ 5000 := by unfold cnt; simp; omega
    obtain ⟨v', h'⟩ := read_l1 (cnt v.l 4) hcn k t p g o n acc (cnt v.l 4) 0 K v1 [] (by omega) (by omega) (by simp; omega)
    refine ⟨v', ?_⟩
    rw [record_reader_read.l0, if_neg (by omega)]
    rw [show ((4 : Nat) : Int) = 4 from rfl] at h1
    rw [h1, Option.bind_some]
    rw [show ((0 : Nat) : Int) = 0 from rfl] at h'
    rw [h', e1]
    simp [takeD]
  | succ d ih =>
    intro i K v acc hd hK ha hv
    obtain ⟨K, rfl⟩ : ∃ m, K = m + 1 := ⟨K - 1, by omega⟩
    obtain ⟨v1, h1, e1⟩ := num_f v
    obtain ⟨v2, h2, e2⟩ := num_f v1
    obtain ⟨v', h'⟩ := ih (i + 1) K v2 (acc ++ [⟨v.l.headD 0, v1.l.headD 0⟩]) (by omega) (by omega) (by simp; omega) (by rw [e2, e1]; simp; omega)
    refine ⟨v', ?_⟩
    rw [record_reader_read.l0, if_pos (by omega), h1, Option.bind_some, h2, Option.bind_some, if_pos (by omega), wr1 (show i < c by omega) hc, h']
    rw [e2, e1]
    have ed : v.l.tail.tail.drop (2 * d) = v.l.drop (2 * (d + 1)) := by
      rw [← List.drop_one, ← List.drop_one, List.drop_drop, List.drop_drop]
      congr 1
      omega
    rw [ed]
    simp [takeD]
theorem read_l3 (c : Nat) (hc : c ≤ 5000) (k t p g o n : Int) (args : List Int) : ∀ (d i K : Nat) (v : View) (acc : List S52), i + d = c → d < K → acc.length + d ≤ 5000 →
    ∃ v', record_reader_read.l3 K (c : Int) (i : Int) v k t p g o args acc n = some (outOf ⟨k, t, p, g, o, args, acc ++ takeI d v.l, n, [], []⟩ v') := by
  intro d
  induction d with
  | zero =>
    intro i K v acc hd hK ha
    obtain ⟨K, rfl⟩ : ∃ m, K = m + 1 := ⟨K - 1, by omega⟩
    exact ⟨v, by rw [record_reader_read.l3, if_neg (by omega)]; simp [outOf, takeI]⟩
  | succ d ih =>
    intro i K v acc hd hK ha
    obtain ⟨K, rfl⟩ : ∃ m, K = m + 1 := ⟨K - 1, by omega⟩
    obtain ⟨v1, h1, e1⟩ := num_f v
    obtain ⟨v2, h2, e2⟩ := num_f v1
    obtain ⟨v', h'⟩ := ih (i + 1) K v2 (acc ++ [⟨v.l.headD 0, v1.l.headD 0⟩]) (by omega) (by omega) (by simp; omega)
    refine ⟨v', ?_⟩
    rw [record_reader_read.l3, if_pos (by omega), h1, Option.bind_some, h2, Option.bind_some, if_pos (by omega), wr1 (show i < c by omega) hc, h']
    rw [e2, e1]
    simp [takeI]
theorem read_l2 (c : Nat) (hc : c ≤ 5000) (k t p g o n : Int) : ∀ (d i K : Nat) (v : View) (acc : List Int), i + d = c → 10000 + d < K → acc.length + d ≤ 5000 → v.l.length ≤ 5000 →
    ∃ v', record_reader_read.l2 K (c : Int) (i : Int) v k t p g o acc n = some (outOf ⟨k, t, p, g, o, acc ++ takeN d v.l, takeI (cnt (v.l.drop d) 2) (v.l.drop d).tail, n, [], []⟩ v') := by
  intro d
  induction d with
  | zero =>
    intro i K v acc hd hK ha hv
    obtain ⟨K, rfl⟩ : ∃ m, K = m + 1 := ⟨K - 1, by omega⟩
    obtain ⟨v1, h1, e1⟩ := count_f v 2 (by omega)
    have hcn : cnt v.l 2 ≤ 5000 := by unfold cnt; simp; omega
    obtain ⟨v', h'⟩ := read_l3 (cnt v.l 2) hcn k t p g o n acc (cnt v.l 2) 0 K v1 [] (by omega) (by omega) (by simp; omega)
    refine ⟨v', ?_⟩
    rw [record_reader_read.l2, if_neg (by omega)]
    rw [show ((2 : Nat) : Int) = 2 from rfl] at h1
    rw [h1, Option.bind_some]
    rw [show ((0 : Nat) : Int) = 0 from rfl] at h'
    rw [h', e1]
    simp [takeN]
  | succ d ih =>
    intro i K v acc hd hK ha hv
    obtain ⟨K, rfl⟩ : ∃ m, K = m + 1 := ⟨K - 1, by omega⟩
    obtain ⟨v1, h1, e1⟩ := num_f v
    obtain ⟨v', h'⟩ := ih (i + 1) K v1 (acc ++ [v.l.headD 0]) (by omega) (by omega) (by simp; omega) (by rw [e1]; simp; omega)
    refine ⟨v', ?_⟩
    rw [record_reader_read.l2, if_pos (by omega), h1, Option.bind_some, if_pos (by omega), wr1 (show i < c by omega) hc, h']
    rw [e1]
    have ed : v.l.tail.drop d = v.l.drop (d + 1) := by
      rw [← List.drop_one, List.drop_drop]
      congr 1
      omega
    rw [ed]
    simp [takeN]
theorem read_j3 (v : View) (hv : v.l.length ≤ 5000) (b : Bool) (k t p g o n : Int) (K : Nat) (hK : 16000 < K) :
    ∃ v', record_reader_read.j3 K b v k t p g o n = some (outOf (if b = true then readBody k t p n v.l else ⟨k, t, p, g, o, [], [], n, [], []⟩) v') := by
  obtain ⟨K, rfl⟩ : ∃ m, K = m + 1 := ⟨K - 1, by omega⟩
  cases b with
  | false => exact ⟨v, by rw [record_reader_read.j3, if_neg (by simp), if_neg (by simp)]; rfl⟩
  | true =>
    obtain ⟨v1, h1, e1⟩ := num_f v
    obtain ⟨v2, h2, e2⟩ := num_f v1
    obtain ⟨v3, h3, e3⟩ := count_f v2 1 (by omega)
    have hcn : cnt v2.l 1 ≤ 5000 := by unfold cnt; rw [e2, e1]; simp; omega
    obtain ⟨v', h'⟩ := read_l2 (cnt v2.l 1) hcn k t p (v.l.headD 0) (v1.l.headD 0) n (cnt v2.l 1) 0 K v3 [] (by omega) (by omega) (by simp; omega) (by rw [e3, e2, e1]; simp; omega)
    refine ⟨v', ?_⟩
    rw [show ((1 : Nat) : Int) = 1 from rfl] at h3
    rw [show ((0 : Nat) : Int) = 0 from rfl] at h'
    rw [record_reader_read.j3, if_pos rfl, if_pos rfl, h1, Option.bind_some, h2, Option.bind_some, h3, Option.bind_some, h', e3, e2, e1]
    simp [readBody]
theorem read_j2 (v : View) (hv : v.l.length ≤ 5000) (k t p n : Int) (K : Nat) (hK : 17000 < K) :
    ∃ v', record_reader_read.j2 K v k t p 0 0 n = some (outOf (if k = 1 ∨ k = 2 then readBody k t p n v.l else ⟨k, t, p, 0, 0, [], [], n, [], []⟩) v') := by
  obtain ⟨K, rfl⟩ : ∃ m, K = m + 1 := ⟨K - 1, by omega⟩
  rw [record_reader_read.j2]
  by_cases h1 : k = 1
  · obtain ⟨v', h'⟩ := read_j3 v hv true k t p 0 0 n K (by omega)
    exact ⟨v', by rw [if_pos h1, h', if_pos rfl, if_pos (.inl h1)]⟩
  · obtain ⟨v', h'⟩ := read_j3 v hv (k == 2) k t p 0 0 n K (by omega)
    refine ⟨v', ?_⟩
    rw [if_neg h1, h']
    by_cases h2 : k = 2
    · rw [if_pos (by simp [h2]), if_pos (.inr h2)]
    · rw [if_neg (by simp [h2]), if_neg (by omega)]
theorem read_f (v : View) (hv : v.l.length ≤ 5000) (K : Nat) (hK : 20000 < K) : ∃ v', record_reader_read.f K v = some (outOf (readF v.l) v') := by
  obtain ⟨v1, h1, e1⟩ := num_f v
  unfold record_reader_read.f readF
  rw [h1, Option.bind_some]
  dsimp only
  by_cases h5 : v.l.headD 0 = 5
  · obtain ⟨v2, h2, e2⟩ := count_f v1 2 (by omega)
    have hcn : cnt v1.l 2 ≤ 5000 := by unfold cnt; rw [e1]; simp; omega
    obtain ⟨v', h'⟩ := read_l0 (cnt v1.l 2) hcn (v.l.headD 0) 0 0 0 0 0 (cnt v1.l 2) 0 K v2 [] (by omega) (by omega) (by simp; omega) (by rw [e2, e1]; simp; omega)
    refine ⟨v', ?_⟩
    rw [show ((2 : Nat) : Int) = 2 from rfl] at h2
    rw [show ((0 : Nat) : Int) = 0 from rfl] at h'
    rw [if_pos h5, if_pos h5, h2, Option.bind_some, h', e2, e1]
    simp
  · obtain ⟨v2, h2, e2⟩ := num_f v1
    obtain ⟨v3, h3, e3⟩ := num_f v2
    rw [if_neg h5, if_neg h5, h2, Option.bind_some, h3, Option.bind_some]
    have hv3 : v3.l.length ≤ 5000 := by rw [e3, e2, e1]; simp; omega
    by_cases hk2 : v.l.headD 0 = 2
    · obtain ⟨v4, h4, e4⟩ := num_f v3
      obtain ⟨v', h'⟩ := read_j2 v4 (by rw [e4]; simp; omega) (v.l.headD 0) (v1.l.headD 0) (v2.l.headD 0) (v3.l.headD 0) K (by omega)
      refine ⟨v', ?_⟩
      rw [if_pos hk2, if_pos hk2, h4, Option.bind_some, h', if_pos (.inr hk2), e4, e3, e2, e1]
    · obtain ⟨v', h'⟩ := read_j2 v3 hv3 (v.l.headD 0) (v1.l.headD 0) (v2.l.headD 0) 0 K (by omega)
      refine ⟨v', ?_⟩
      rw [if_neg hk2, if_neg hk2, h']
      by_cases hk1 : v.l.headD 0 = 1
      · rw [if_pos (.inl hk1), if_pos hk1, e3, e2, e1]
      · rw [if_neg (by omega), if_neg hk1, e2, e1]
end Go.Proofs.Ytcplblpmgajmnaa.A
namespace Go.Proofs.Ytcplblpmgajmnaa.A
open Go.RowKit Go.Proofs.YtcplblpmgajmnaaW.PrintWords Go.Proofs.YtcplblpmgajmnaaW.PrintLast Go.Proofs.YtcplblpmgajmnaaW.PrintMore
attribute [local go_sem] max2_int min2_int max_two min_two max_three min_three max_four min_four
set_option linter.unusedVariables false
set_option linter.unusedSimpArgs false
def wire_Take.f (l0 : List Int) : Option (Int × List Int × Option Int) := (wire_take.f l0).bind fun bt242 => (if bt242.2 = 0 then (some (0, ([] : List Int), some 4)) else (if 0 ≤ bt242.2 then (if bt242.2 ≤ (l0.length : Int) then ((slices_Clone_byte_byte.f (l0.drop (bt242.2 : Int).toNat)).bind fun t245 => (some (bt242.1, t245, none))) else (none)) else (none)))
set_option maxHeartbeats 8000000 in
set_option maxRecDepth 100000 in
theorem wire_Take.calls (A0 : Option Addr) (c0 : Nat) (l0 : List Int) (r1 : Int) (r2 : List Int) (r3 : Option Int) (w : World) (hr0 : Kd.C (Kd.int .u8) w A0 l0.length l0) (hc0 : l0.length ≤ c0) (h : wire_Take.f l0 = some (r1, r2, r3)) :
  Calls Try.prog 39 #[.slice A0 l0.length c0] w fun e w' => ∃ v1_ : Value, e = .returned (.tuple #[.int .i64 r1, v1_, errW r3]) ∧ Kd.R (Kd.int .u8) 5 w' w.heap.size (fun _ => True) v1_ r2 ∧ Below w.heap.size w w' := by
 have hu32 := Try.underlying32
 have hu44 := Try.underlying44
 have HR0 := Aside0.mk hr0
 have HC0 := Aside0.mk hc0
 clear hr0 hc0
 have HB := Aside0.mk (Below.refl w.heap.size w)
 have H : ((wire_take.f l0).bind fun bt242 => (if bt242.2 = 0 then (some (0, ([] : List Int), some 4)) else (if 0 ≤ bt242.2 then (if bt242.2 ≤ (l0.length : Int) then ((slices_Clone_byte_byte.f (l0.drop (bt242.2 : Int).toNat)).bind fun t245 => (some (bt242.1, t245, none))) else (none)) else (none)))) = some (r1, r2, r3) := h
 clear h
 replace H := Option.bind_eq_some_iff.mp H
 obtain ⟨⟨t242, t243⟩, A20, H⟩ := H
 replace H : (if t243 = 0 then (some (0, ([] : List Int), some 4)) else (if 0 ≤ t243 then (if t243 ≤ (l0.length : Int) then ((slices_Clone_byte_byte.f (l0.drop (t243 : Int).toNat)).bind fun t245 => (some (t242, t245, none))) else (none)) else (none))) = some (r1, r2, r3) := H
 have A2 := Aside0.mk A20
 clear A20
 by_cases c3 : t243 = 0
 ·rw [if_pos c3] at H
  have c3b0 : (t243 == 0) = true := beq_iff_eq.mpr c3
  have c3b1 : (t243 != 0) = false := bne_eq_false_iff_eq.mpr c3
  clear c3
  simp only [Option.some.injEq, Prod.mk.injEq] at H
  obtain ⟨rfl, rfl, rfl⟩ := H
  go_enter Try.func39, Try.ntmps39
  go_wp2_with (first | ((with_reducible refine gate_callee (f := 50) rfl ?_); refine goesL_ (some 9) rfl rfl Try.func50 (by kernel_rfl) rfl #[.slice A0 l0.length c0] rfl (by (try simp only [List.map_toArray, List.map_cons, List.map_nil]); first | done | rfl | (simp only [List.length_drop, List.length_take]; rfl)) ?_; (with_reducible refine (wire_take.calls _ _ l0 t242 t243 _ ?side1 ?side2 A2.out).mono ?_); (case side1 => repeat (first | exact HR0.out | (with_reducible refine qA ?_ _) | (with_reducible refine qN ?_ _) | (with_reducible refine qZ ?_))); (case side2 => exact HC0.out); rintro e w' ⟨rfl, ⟨nd, rfl⟩⟩; refine ⟨_, rfl, ?_⟩))
  go_ret3
  exact ⟨_, by first | rfl | (simp [errW_none, errW_some] <;> rfl) | (simp [*, errW_none, errW_some] <;> rfl), by first | exact Kd.R_nil _ _ _ _ _ | exact Kd.N_nil _ _ _ _ _ | exact Kd.V_nil _ _ _ _ _ | exact Kd.Q_nil _ _ _ _ _ | exact Kd.S_nil _ _ _ _ _, by repeat (first | (with_reducible first | exact HB.out | apply bA | apply bN | apply bD) | exact HB.out)⟩
 ·rw [if_neg c3] at H
  have c3b0 : (t243 == 0) = false := beq_eq_false_iff_ne.mpr c3
  have c3b1 : (t243 != 0) = true := bne_iff_ne.mpr c3
  by_cases c4 : 0 ≤ t243
  ·rw [if_pos c4] at H
   have c4b0 := eq_true c4
   have c4b1 : decide (0 ≤ t243) = true := decide_eq_true c4
   clear c4
   by_cases c5 : t243 ≤ (l0.length : Int)
   ·rw [if_pos c5] at H
    have c5b0 := eq_true c5
    have c5b1 : decide (t243 ≤ (l0.length : Int)) = true := decide_eq_true c5
    clear c5
    replace H := Option.bind_eq_some_iff.mp H
    obtain ⟨t245, A60, H⟩ := H
    replace H : (some (t242, t245, none)) = some (r1, r2, r3) := H
    have A6 := Aside0.mk A60
    clear A60
    simp only [Option.some.injEq, Prod.mk.injEq] at H
    obtain ⟨rfl, rfl, rfl⟩ := H
    go_enter Try.func39, Try.ntmps39
    go_wp2_with (first | ((with_reducible refine gate_callee (f := 50) rfl ?_); refine goesL_ (some 9) rfl rfl Try.func50 (by kernel_rfl) rfl #[.slice A0 l0.length c0] rfl (by (try simp only [List.map_toArray, List.map_cons, List.map_nil]); first | done | rfl | (simp only [List.length_drop, List.length_take]; rfl)) ?_; (with_reducible refine (wire_take.calls _ _ l0 t242 t243 _ ?side1 ?side2 A2.out).mono ?_); (case side1 => repeat (first | exact HR0.out | (with_reducible refine qA ?_ _) | (with_reducible refine qN ?_ _) | (with_reducible refine qZ ?_))); (case side2 => exact HC0.out); rintro e w' ⟨rfl, ⟨nd, rfl⟩⟩; refine ⟨_, rfl, ?_⟩; obtain ⟨i07, hi07, _, hsz7, _⟩ := info_parts info5; obtain ⟨A7, hcut7, hA7, hC7⟩ := print_drop_of (P := Try.prog) (Value.int .u8) 0 22 5 .i64 Try.underlying22 hi07 hsz7 A0 c0 l0 t243 (of_decide_eq_true (by first | (with_reducible assumption) | assumption)) (of_decide_eq_true (by first | (with_reducible assumption) | assumption)) HC0.out; have HR244 := Aside0.mk (Kd.C_of_reads (h1 := fun _ => rfl) (hA7 _ (Kd.reads_of_C HR0.out))); have HC244 := Aside0.mk hC7; clear hA7 hC7 hi07 hsz7) | ((with_reducible refine gate_callee (f := 51) rfl ?_); refine goesL_ (some 19) rfl rfl Try.func51 (by kernel_rfl) rfl #[.slice A7 (l0.drop (t243 : Int).toNat).length (c0 - t243.toNat)] rfl (by (try simp only [List.map_toArray, List.map_cons, List.map_nil]); first | done | (rw [show (l0.drop (t243 : Int).toNat).length = (l0.length - t243.toNat) from List.length_drop] <;> rfl) | rfl | (simp only [List.length_drop, List.length_take]; rfl)) ?_; (with_reducible refine (slices_Clone_byte_byte.calls _ _ (l0.drop (t243 : Int).toNat) t245 _ ?side1 ?side2 A6.out).mono ?_); (case side1 => repeat (first | exact HR244.out | (with_reducible refine qA ?_ _) | (with_reducible refine qN ?_ _) | (with_reducible refine qZ ?_))); (case side2 => exact HC244.out); rintro e w8 ⟨v246, rfl, ho0, hb⟩; refine ⟨_, rfl, ?_⟩; have n0_ := Aside0.mk (Kd.R_lower ho0 (below_size (by repeat (first | (with_reducible first | exact HB.out | apply bA | apply bN | apply bD) | exact HB.out)))); have n1_ := Aside0.mk (below_step (by repeat (first | (with_reducible first | exact HB.out | apply bA | apply bN | apply bD) | exact HB.out)) hb); clear HB; have HO247 := n0_; have HB := n1_; clear n0_ n1_; (try clear hb); (try clear hb2); (try clear hk); (try clear hi); (try clear ho0)))
    go_ret3
    exact ⟨_, by first | rfl | (simp [errW_none, errW_some] <;> rfl) | (simp [*, errW_none, errW_some] <;> rfl), by (with_reducible repeat (first | apply rA | apply rN | apply rZ)); exact HO247.out, by repeat (first | (with_reducible first | exact HB.out | apply bA | apply bN | apply bD) | exact HB.out)⟩
   ·rw [if_neg c5] at H
    exact absurd H (by simp)
  ·rw [if_neg c4] at H
   exact absurd H (by simp)
end Go.Proofs.Ytcplblpmgajmnaa.A
namespace Go.Proofs.Ytcplblpmgajmnaa.A
open Go.RowKit Go.Proofs.YtcplblpmgajmnaaW.PrintWords Go.Proofs.YtcplblpmgajmnaaW.PrintLast Go.Proofs.YtcplblpmgajmnaaW.PrintMore
set_option linter.unusedVariables false
set_option linter.unusedSimpArgs false
def tk (l : List Int) : Int × Int := tkL l (min l.length 10) 0 0
theorem tkL_size (l : List Int) : ∀ (d i : Nat) (u : Int), (tkL l d i u).2 = 0 ∨ ((i : Int) < (tkL l d i u).2 ∧ (tkL l d i u).2 ≤ (i : Int) + d) := by
  intro d
  induction d with
  | zero => intro i u; exact .inl rfl
  | succ d ih =>
    intro i u
    rw [tkL]
    split
    · exact .inl rfl
    · split
      · split
        · exact .inl rfl
        · exact .inr ⟨by simp only; omega, by simp only; omega⟩
      · rcases ih (i + 1) (tkU u (l.getD i 0) i) with h | h
        · exact .inl h
        · exact .inr ⟨by omega, by omega⟩
theorem tk_size (l : List Int) : (tk l).2 = 0 ∨ (0 < (tk l).2 ∧ (tk l).2 ≤ l.length) := by
  rcases tkL_size l (min l.length 10) 0 0 with h | h
  · exact .inl h
  · exact .inr ⟨h.1, by have := h.2; unfold tk; omega⟩
def parse : Nat → List Int → Option (List Int)
  | 0, _ => some []
  | k + 1, l => if l = [] then some [] else if (tk l).2 = 0 then none else (parse k (l.drop (tk l).2.toNat)).map fun ns => (tk l).1 :: ns
theorem take_f {l : List Int} (hl : l.length ≤ 4096) : wire_Take.f l = some (if (tk l).2 = 0 then (0, [], some 4) else ((tk l).1, l.drop (tk l).2.toNat, none)) := by
  unfold wire_Take.f wire_take.f
  rw [Option.bind_some]
  show (if (tk l).2 = 0 then _ else _) = _
  by_cases h : (tk l).2 = 0
  · rw [if_pos h, if_pos h]
  · have hs := (tk_size l).resolve_left h
    have e : slices_Clone_byte_byte.f (l.drop (tk l).2.toNat) = some (l.drop (tk l).2.toNat) := by
      unfold slices_Clone_byte_byte.f
      rw [if_pos (by rw [List.length_drop]; omega)]
    rw [if_neg h, if_neg h]
    show (if 0 ≤ (tk l).2 then (if (tk l).2 ≤ (l.length : Int) then ((slices_Clone_byte_byte.f (l.drop (tk l).2.toNat)).bind fun t245 => (some ((tk l).1, t245, none))) else none) else none) = _
    rw [if_pos (by omega), if_pos (by omega), e, Option.bind_some]
theorem parse_fuel : ∀ (k j : Nat) (l : List Int), l.length ≤ k → l.length ≤ j → parse k l = parse j l := by
  intro k
  induction k with
  | zero =>
    intro j l hk hj
    obtain rfl : l = [] := List.eq_nil_of_length_eq_zero (by omega)
    cases j <;> simp [parse]
  | succ k ih =>
    intro j l hk hj
    by_cases hl : l = []
    · subst hl
      cases j <;> simp [parse]
    · have hpos : 0 < l.length := List.length_pos_iff.2 hl
      obtain ⟨j, rfl⟩ : ∃ m, j = m + 1 := ⟨j - 1, by omega⟩
      rw [parse, parse, if_neg hl, if_neg hl]
      by_cases h0 : (tk l).2 = 0
      · rw [if_pos h0, if_pos h0]
      · have hs := (tk_size l).resolve_left h0
        rw [if_neg h0, if_neg h0, ih j _ (by rw [List.length_drop]; omega) (by rw [List.length_drop]; omega)]
def numsOut : Option (List Int) → List Int × Bool
  | some ns => (ns, true)
  | none => ([], false)
set_option maxHeartbeats 4000000 in
theorem numbers_walk (A0 : Option Addr) (c0 : Nat) (l0 : List Int) (w : World) (hr0 : Kd.C (Kd.int .u8) w A0 l0.length l0) (hc0 : l0.length ≤ c0) (hl : l0.length ≤ 4096) (r : List Int × Bool) (h : numsOut (parse l0.length l0) = r) :
    Calls Try.prog 25 #[.slice A0 l0.length c0] w fun e w' => ∃ v0_ : Value, e = .returned (.tuple #[v0_, .bool r.2]) ∧ Kd.R (Kd.int .i64) 3 w' w.heap.size (fun _ => True) v0_ r.1 ∧ Below w.heap.size w w' := by
  have hu32 := Try.underlying32
  have hu44 := Try.underlying44
  have HR := Aside0.mk hr0
  have HC := Aside0.mk hc0
  have H := Lib.hid h
  clear hr0 hc0 h
  go_enter Try.func25, Try.ntmps25
  go_wp2
  go_loopw [0, 4] (fun v0 v4 wr => ∃ (A : Option Addr) (c : Nat) (x ns : List Int), v0 = .slice A x.length c ∧ x.length ≤ c ∧ ns.length + x.length ≤ 4096 ∧ Aside0 (Kd.C (Kd.int .u8) wr A x.length x) ∧ Aside0 (Kd.R (Kd.int .i64) 3 wr w.heap.size (fun _ => True) v4 ns) ∧ Aside0 (Below w.heap.size w wr) ∧ Hid (numsOut ((parse x.length x).map fun z => ns ++ z) = r)) (fun v0 _ _ => match v0 with | .slice _ n _ => n | _ => 0)
  case atStart => exact ⟨A0, c0, l0, [], rfl, HC.out, by simpa using hl, HR, ⟨Kd.R_nil _ _ _ _ _⟩, ⟨Below.refl _ _⟩, Lib.hid (by rw [← H.out]; cases parse l0.length l0 <;> simp)⟩
  case round =>
    clear HR HC H hl
    obtain ⟨A, c, x, ns, rfl, hxc, HL, HR, HO, HB, H⟩ := hrel
    by_cases hx : x.length = 0
    · obtain rfl : x = [] := List.eq_nil_of_length_eq_zero hx
      obtain rfl : (ns, true) = r := by have h := H.out; simpa [parse, numsOut] using h
      clear H
      go_wp2
      go_ret2
      exact ⟨_, rfl, HO.out, HB.out⟩
    · have hx0 : 0 < x.length := by omega
      have hlen : decide (0 < (x.length : Int)) = true := decide_eq_true (by omega)
      have HT := Lib.hid (take_f (l := x) (by omega))
      have HX0 := Lib.hid hx
      have hxe : x ≠ [] := fun e => hx (by rw [e]; rfl)
      obtain ⟨m, hm⟩ : ∃ m, x.length = m + 1 := ⟨x.length - 1, by omega⟩
      have hH := H.out
      rw [hm, parse, if_neg hxe] at hH
      have Hm := Lib.hid hm
      clear hx hxe hm
      by_cases h0 : (tk x).2 = 0
      · rw [if_pos h0] at hH
        obtain rfl : ([], false) = r := hH
        have HT' := HT.out
        rw [if_pos h0] at HT'
        have HT := Lib.hid HT'
        clear HT' h0 H
        go_wp2_with fail
        refine (wire_Take.calls _ _ x _ _ _ _ HR.out hxc HT.out).mono ?_
        rintro e w1 ⟨v1, rfl, ho1, hb⟩
        have HB1 := Aside0.mk (below_then HB.out HB.out.size hb)
        clear ho1 hb
        try simp only [errW_none, errW_some]
        go_wp2
        go_ret2
        exact ⟨_, rfl, Kd.R_nil _ _ _ _ _, HB1.out⟩
      · rw [if_neg h0] at hH
        have HT' := HT.out
        rw [if_neg h0] at HT'
        have hsz := (tk_size x).resolve_left h0
        have HT := Lib.hid HT'
        have HS := Lib.hid hsz
        obtain ⟨n, Hn⟩ : ∃ n, Hid ((tk x).1 = n) := ⟨_, Lib.hid rfl⟩
        obtain ⟨y, Hy⟩ : ∃ y, Hid (x.drop (tk x).2.toNat = y) := ⟨_, Lib.hid rfl⟩
        rw [Hn.out, Hy.out] at HT hH
        have hyl : y.length < x.length := by
          rw [← Hy.out, List.length_drop]
          have := HS.out
          omega
        have hp : parse m y = parse y.length y := parse_fuel _ _ _ (by have := Hm.out; omega) (Nat.le_refl _)
        have Hf : Hid (numsOut ((parse y.length y).map fun z => (ns ++ [n]) ++ z) = r) := Lib.hid (by rw [← hH, ← hp]; cases parse m y <;> simp)
        clear HT' h0 hsz hH hp H
        go_wp2_with fail
        refine (wire_Take.calls _ _ x _ _ _ _ HR.out hxc HT.out).mono ?_
        rintro e w1 ⟨v1, rfl, ho1, hb⟩
        have HX := Aside0.mk (Kd.R_lower ho1 HB.out.size)
        have HB1 := Aside0.mk (below_then HB.out HB.out.size hb)
        have HO1 := Aside0.mk (Kd.R_below HO.out hb)
        clear ho1 hb HB HO
        have HB := HB1
        have HO := HO1
        clear HB1 HO1
        try simp only [errW_none, errW_some]
        go_wp2_with (first | ((with_reducible refine gate_builtin (b := .append) (xs := #[.tmp 19, .tmp 21]) rfl ?_); at_builtin; refine Kd.R_append (Kd.int .i64) (w0 := w) w.heap.size rfl (.tmp 19) (.tmp 21) 25 3 (.int .i64 0) 8 rfl Try.underlying25 info3 rfl (by decide) (by omega) u4 ns n [.int .i64 n] (fun _ => True) (fun _ => False) rfl rfl ?aP (fun _ hk => hk.elim) ?aF ?aO ?aB ?aS ?aL ?_; (case aP => exact rfl); (case aB => exact (by repeat (first | (with_reducible first | exact HB.out | apply below_alloc | apply pw_below_drewN | apply below_drew1) | exact HB.out))); (case aF => exact (fun _ _ => trivial)); (case aO => exact (by (with_reducible repeat (first | apply Kd.R_alloc | apply Kd.R_drewN | apply Kd.R_drew)); exact HO.out)); (case aS => exact (below_size (by repeat (first | (with_reducible first | exact HB.out | apply below_alloc | apply pw_below_drewN | apply below_drew1) | exact HB.out)))); (case aL => have := HL; omega); intro v9 w6 ho hb hg hat; have HX' := Aside0.mk (Kd.R_mono (Kd.R_grown (Kd.R_apart' HX.out (Kd.R_typed HO.out) (by decide)) hg (fun k hk => hk.2)) (fun _ _ => trivial)); have n0_ := Aside0.mk (hb); have n1_ := Aside0.mk (ho); clear HB; clear HO; have HB := n0_; have HO := n1_; clear n0_ n1_; clear ho hb hg hat))
        obtain ⟨A', c', e', hc', hC'⟩ := Kd.R_reads HX'.out
        subst e'
        go_roundw
        case rel => exact ⟨A', c', y, ns ++ [n], rfl, hc', by rw [List.length_append]; simp only [List.length_singleton]; omega, ⟨hC'⟩, HO, HB, Hf⟩
        case measure => simp; omega
theorem cnt_of (c : Nat) (s : Nat) (hs : 0 < s) (rest : List Int) (h : s * c ≤ rest.length) : cnt ((c : Int) :: rest) s = c := by
  unfold cnt
  have : c ≤ rest.length / s := (Nat.le_div_iff_mul_le hs).2 (by rw [Nat.mul_comm]; exact h)
  simp
  omega
theorem takeD_of (di : List S54) (rest : List Int) : takeD di.length (dirtyNums di ++ rest) = di := by
  induction di with
  | nil => rfl
  | cons x di ih => simp [dirtyNums] at ih ⊢; simp [takeD, ih]
theorem takeI_of (im : List S52) (rest : List Int) : takeI im.length (imgNums im ++ rest) = im := by
  induction im with
  | nil => rfl
  | cons x im ih => simp [imgNums] at ih ⊢; simp [takeI, ih]
theorem takeA_of (ac : List S56) (rest : List Int) : takeA ac.length (activeNums ac ++ rest) = ac := by
  induction ac with
  | nil => rfl
  | cons x ac ih => simp [activeNums] at ih ⊢; simp [takeA, ih]
theorem takeN_of (l : List Int) (rest : List Int) : takeN l.length (l ++ rest) = l := by
  induction l with
  | nil => rfl
  | cons x l ih => simp [takeN, ih]
theorem drop_app {l : List Int} (rest : List Int) {n : Nat} (h : n = l.length) : (l ++ rest).drop n = rest := by
  subst h
  simp
theorem readBody_of (r : Rec) (k t p n : Int) (zs : List Int) : readBody k t p n (r.body ++ zs) = ⟨k, t, p, r.g, r.o, r.args, r.imgs, n, [], []⟩ := by
  have e : r.body ++ zs = r.g :: r.o :: (r.args.length : Int) :: (r.args ++ ((r.imgs.length : Int) :: (imgNums r.imgs ++ zs))) := by simp [Rec.body]
  rw [e]
  unfold readBody
  simp only [List.tail_cons, List.headD_cons]
  rw [cnt_of r.args.length 1 (by omega) _ (by simp), takeN_of, drop_app _ rfl, cnt_of r.imgs.length 2 (by omega) _ (by simp [imgNums_len]), List.tail_cons, takeI_of]
theorem readF_one (t p : Int) (l : List Int) : readF (1 :: t :: p :: l) = readBody 1 t p 0 l := by
  simp [readF]
theorem readF_two (t p n : Int) (l : List Int) : readF (2 :: t :: p :: n :: l) = readBody 2 t p n l := by
  simp [readF]
theorem readF_few (k t p : Int) (h : k = 3 ∨ k = 4) (l : List Int) : readF (k :: t :: p :: l) = ⟨k, t, p, 0, 0, [], [], 0, [], []⟩ := by
  rcases h with rfl | rfl <;> simp [readF]
theorem readF_five (l : List Int) : readF (5 :: l) = ⟨5, 0, 0, 0, 0, [], [], 0, takeD (cnt l 2) l.tail, takeA (cnt (l.tail.drop (2 * cnt l 2)) 4) (l.tail.drop (2 * cnt l 2)).tail⟩ := by
  simp [readF]
theorem readF_of (r : Rec) (h : r.Ok) (zs : List Int) : readF (r.nums ++ zs) = r := by
  obtain ⟨k, t, p, g, o, args, imgs, n, di, ac⟩ := r
  rcases h with ⟨h1, _, he⟩ | ⟨h2, _, he⟩ | ⟨h3, _, he⟩ | ⟨h5, _, he⟩
  · simp only at h1 he
    obtain ⟨rfl, rfl, rfl⟩ := he
    subst h1
    have e : (Rec.mk 1 t p g o args imgs 0 [] []).nums ++ zs = 1 :: t :: p :: ((Rec.mk 1 t p g o args imgs 0 [] []).body ++ zs) := by simp [Rec.nums]
    rw [e, readF_one, readBody_of]
  · simp only at h2 he
    obtain ⟨rfl, rfl⟩ := he
    subst h2
    have e : (Rec.mk 2 t p g o args imgs n [] []).nums ++ zs = 2 :: t :: p :: n :: ((Rec.mk 2 t p g o args imgs n [] []).body ++ zs) := by simp [Rec.nums]
    rw [e, readF_two, readBody_of]
  · simp only at h3 he
    obtain ⟨rfl, rfl, rfl, rfl, rfl, rfl, rfl⟩ := he
    have e : (Rec.mk k t p 0 0 [] [] 0 [] []).nums ++ zs = k :: t :: p :: zs := by
      unfold Rec.nums
      simp only
      rw [if_neg (by omega), if_neg (by omega), if_neg (by omega)]
      rfl
    rw [e, readF_few k t p h3]
  · simp only at h5 he
    obtain ⟨rfl, rfl, rfl, rfl, rfl, rfl, rfl⟩ := he
    subst h5
    have e : (Rec.mk 5 0 0 0 0 [] [] 0 di ac).nums ++ zs = 5 :: (di.length : Int) :: (dirtyNums di ++ ((ac.length : Int) :: (activeNums ac ++ zs))) := by simp [Rec.nums]
    rw [e, readF_five, cnt_of di.length 2 (by omega) _ (by simp [dirtyNums_len]), List.tail_cons, takeD_of, drop_app _ (dirtyNums_len di).symm, cnt_of ac.length 4 (by omega) _ (by simp [activeNums_len]), List.tail_cons, takeA_of]
theorem tk_enc {x : Int} (h : I64 x) (rest : List Int) : tk (enc x ++ rest) = (x, ((enc x).length : Int)) := by
  have hz := zig_lt h.1 h.2
  have hl := digits_len10 hz
  have := tkL_digits rest (zig x) 0 (min (enc x ++ rest).length 10) 0 (enc x ++ rest) (by rfl) (by rw [List.length_append]; unfold enc; omega) (by decide) (by simpa using hz) (by omega)
  unfold tk
  have e0 : ((0 : Nat) : Int) = 0 := rfl
  rw [e0] at this
  rw [this]
  simp only [Nat.zero_add, Nat.pow_zero, Nat.mul_one, tkR_zig h]
  congr 1
  simp [enc]
theorem enc_pos (x : Int) : 0 < (enc x).length := by unfold enc; exact digits_pos _
theorem parse_flat (xs : List Int) (h : ∀ x ∈ xs, I64 x) : ∀ k, (xs.flatMap enc).length ≤ k → parse k (xs.flatMap enc) = some xs := by
  induction xs with
  | nil => intro k _; cases k <;> simp [parse]
  | cons x xs ih =>
    intro k hk
    have hp := enc_pos x
    rw [List.flatMap_cons] at hk ⊢
    rw [List.length_append] at hk
    obtain ⟨k, rfl⟩ : ∃ m, k = m + 1 := ⟨k - 1, by omega⟩
    rw [parse, if_neg (by intro e; have := congrArg List.length e; rw [List.length_append, List.length_nil] at this; omega), tk_enc (h x (by simp)), if_neg (by show ¬ ((enc x).length : Int) = 0; omega)]
    simp only [Int.toNat_natCast]
    rw [drop_app _ rfl, ih (fun y hy => h y (List.mem_cons_of_mem _ hy)) k (by have := hp; omega)]
    rfl
theorem tkR_i64 (u : Int) : I64 (tkR u) := by
  unfold tkR
  rw [xor_i64_bv, IntKind.wrap_i64]
  exact ⟨by omega, by omega⟩
theorem tkL_i64 (l : List Int) : ∀ (d i : Nat) (u : Int), I64 (tkL l d i u).1 := by
  intro d
  induction d with
  | zero => intro i u; exact ⟨by simp [tkL], by simp [tkL]⟩
  | succ d ih =>
    intro i u
    rw [tkL]
    split
    · exact ⟨by simp, by simp⟩
    · split
      · split
        · exact ⟨by simp, by simp⟩
        · exact tkR_i64 _
      · exact ih _ _
theorem parse_i64 : ∀ (k : Nat) (l ns : List Int), parse k l = some ns → (∀ x ∈ ns, I64 x) ∧ ns.length ≤ l.length := by
  intro k
  induction k with
  | zero => intro l ns h; simp [parse] at h; subst h; simp
  | succ k ih =>
    intro l ns h
    rw [parse] at h
    split at h
    · obtain rfl := Option.some.inj h; simp
    · split at h
      · exact absurd h (by simp)
      · rename_i h1 h0
        have hs := (tk_size l).resolve_left h0
        cases hp : parse k (l.drop (tk l).2.toNat) with
        | none => rw [hp] at h; exact absurd h (by simp)
        | some ms =>
          rw [hp] at h
          obtain rfl := Option.some.inj h
          obtain ⟨i1, i2⟩ := ih _ _ hp
          rw [List.length_drop] at i2
          refine ⟨fun x hx => ?_, by simp only [List.length_cons]; omega⟩
          rcases List.mem_cons.1 hx with rfl | hx
          · exact tkL_i64 _ _ _ _
          · exact i1 x hx
theorem headD_i64 {l : List Int} (h : ∀ x ∈ l, I64 x) : I64 (l.headD 0) := by
  cases l with
  | nil => exact ⟨by simp, by simp⟩
  | cons x l => exact h x (by simp)
theorem tail_i64 {l : List Int} (h : ∀ x ∈ l, I64 x) : ∀ x ∈ l.tail, I64 x := fun x hx => h x (List.mem_of_mem_tail hx)
theorem drop_i64 {l : List Int} (h : ∀ x ∈ l, I64 x) (n : Nat) : ∀ x ∈ l.drop n, I64 x := fun x hx => h x (List.mem_of_mem_drop hx)
theorem takeN_i64 (c : Nat) : ∀ l : List Int, (∀ x ∈ l, I64 x) → ∀ x ∈ takeN c l, I64 x := by
  induction c with
  | zero => intro l h x hx; simp [takeN] at hx
  | succ c ih =>
    intro l h x hx
    rcases List.mem_cons.1 hx with rfl | hx
    · exact headD_i64 h
    · exact ih _ (tail_i64 h) x hx
theorem takeI_i64 (c : Nat) : ∀ l : List Int, (∀ x ∈ l, I64 x) → ∀ x ∈ takeI c l, I64 x.f0 ∧ I64 x.f1 := by
  induction c with
  | zero => intro l h x hx; simp [takeI] at hx
  | succ c ih =>
    intro l h x hx
    rcases List.mem_cons.1 hx with rfl | hx
    · exact ⟨headD_i64 h, headD_i64 (tail_i64 h)⟩
    · exact ih _ (tail_i64 (tail_i64 h)) x hx
theorem takeD_i64 (c : Nat) : ∀ l : List Int, (∀ x ∈ l, I64 x) → ∀ x ∈ takeD c l, I64 x.f0 ∧ I64 x.f1 := by
  induction c with
  | zero => intro l h x hx; simp [takeD] at hx
  | succ c ih =>
    intro l h x hx
    rcases List.mem_cons.1 hx with rfl | hx
    · exact ⟨headD_i64 h, headD_i64 (tail_i64 h)⟩
    · exact ih _ (tail_i64 (tail_i64 h)) x hx
theorem takeA_i64 (c : Nat) : ∀ l : List Int, (∀ x ∈ l, I64 x) → ∀ x ∈ takeA c l, I64 x.f0 ∧ I64 x.f1 ∧ I64 x.f2 ∧ I64 x.f3 := by
  induction c with
  | zero => intro l h x hx; simp [takeA] at hx
  | succ c ih =>
    intro l h x hx
    rcases List.mem_cons.1 hx with rfl | hx
    · exact ⟨headD_i64 h, headD_i64 (tail_i64 h), headD_i64 (tail_i64 (tail_i64 h)), headD_i64 (tail_i64 (tail_i64 (tail_i64 h)))⟩
    · exact ih _ (tail_i64 (tail_i64 (tail_i64 (tail_i64 h)))) x hx
theorem zero_i64 : I64 0 := ⟨by decide, by decide⟩
theorem cnt_le (l : List Int) (s : Nat) : cnt l s ≤ l.length := by
  unfold cnt
  have h1 := Nat.div_le_self l.tail.length s
  simp at h1 ⊢
  omega
theorem readBody_fits {l : List Int} (h : ∀ x ∈ l, I64 x) (hl : l.length ≤ 5000) {k t p n : Int} (hk : I64 k) (ht : I64 t) (hp : I64 p) (hn : I64 n) : (readBody k t p n l).Fits := by
  have h2 := tail_i64 (tail_i64 h)
  have c1 := cnt_le l.tail.tail 1
  have c2 := cnt_le (l.tail.tail.tail.drop (cnt l.tail.tail 1)) 2
  have l2 : l.tail.tail.length ≤ 5000 := by simp; omega
  have l3 : (l.tail.tail.tail.drop (cnt l.tail.tail 1)).length ≤ 5000 := by simp; omega
  exact { k := hk, t := ht, p := hp, n := hn, g := headD_i64 h, o := headD_i64 (tail_i64 h), args := takeN_i64 _ _ (tail_i64 h2), imgs := takeI_i64 _ _ (tail_i64 (drop_i64 (tail_i64 h2) _)), di := by simp [readBody], ac := by simp [readBody], largs := by simp only [readBody, takeN_len]; omega, limgs := by simp only [readBody, takeI_len]; omega, ldi := by simp [readBody], lac := by simp [readBody] }
theorem readF_fits {l : List Int} (h : ∀ x ∈ l, I64 x) (hl : l.length ≤ 5000) : (readF l).Fits := by
  unfold readF
  simp only
  split
  · have h1 := tail_i64 h
    have c1 := cnt_le l.tail 2
    have c2 := cnt_le (l.tail.tail.drop (2 * cnt l.tail 2)) 4
    have l1 : l.tail.length ≤ 5000 := by simp; omega
    have l3 : (l.tail.tail.drop (2 * cnt l.tail 2)).length ≤ 5000 := by simp; omega
    exact { k := headD_i64 h, t := zero_i64, p := zero_i64, n := zero_i64, g := zero_i64, o := zero_i64, args := by simp, imgs := by simp, di := takeD_i64 _ _ (tail_i64 h1), ac := takeA_i64 _ _ (tail_i64 (drop_i64 (tail_i64 h1) _)), largs := by simp, limgs := by simp, ldi := by simp only [takeD_len]; omega, lac := by simp only [takeA_len]; omega }
  · have h1 := tail_i64 h
    have h2 := tail_i64 (tail_i64 h1)
    have l2 : l.tail.tail.tail.length ≤ 5000 := by simp; omega
    have l3 : l.tail.tail.tail.tail.length ≤ 5000 := by simp; omega
    split
    · exact readBody_fits (tail_i64 h2) l3 (headD_i64 h) (headD_i64 h1) (headD_i64 (tail_i64 h1)) (headD_i64 h2)
    · split
      · exact readBody_fits h2 l2 (headD_i64 h) (headD_i64 h1) (headD_i64 (tail_i64 h1)) zero_i64
      · exact { k := headD_i64 h, t := headD_i64 h1, p := headD_i64 (tail_i64 h1), n := zero_i64, g := zero_i64, o := zero_i64, args := by simp, imgs := by simp, di := by simp, ac := by simp, largs := by simp, limgs := by simp, ldi := by simp, lac := by simp }
def decodeF (b : List Int) : Rec × Option Int :=
  if b.length > 4096 then (Rec.zero, some 4)
  else match parse b.length b with
    | none => (Rec.zero, some 4)
    | some ns => if (readF ns).enc = (b, none) then (readF ns, none) else (Rec.zero, some 4)
theorem enc_ok {r : Rec} {b : List Int} (h : r.enc = (b, none)) : r.Ok ∧ r.bytes = b ∧ b.length ≤ 4096 := by
  unfold Rec.enc at h
  split at h
  · rename_i ho
    split at h
    · exact absurd h (by simp)
    · rename_i hl
      obtain ⟨rfl, _⟩ := Prod.mk.inj h
      exact ⟨ho, rfl, by omega⟩
  · exact absurd h (by simp)
theorem decode_bytes {r : Rec} (hf : r.Fits) {b : List Int} (h : r.enc = (b, none)) : decodeF b = (r, none) := by
  obtain ⟨ho, rfl, hl⟩ := enc_ok h
  unfold decodeF
  have e : readF r.nums = r := by have := readF_of r ho []; rwa [List.append_nil] at this
  rw [if_neg (by omega), show parse r.bytes.length r.bytes = some r.nums from parse_flat r.nums hf.nums_fits _ (Nat.le_refl _)]
  simp only [e]
  rw [if_pos h]
theorem decode_cases (b : List Int) : decodeF b = (Rec.zero, some 4) ∨ ∃ r : Rec, r.Fits ∧ r.enc = (b, none) ∧ decodeF b = (r, none) := by
  unfold decodeF
  split
  · exact .inl rfl
  · rename_i hl
    cases hp : parse b.length b with
    | none => exact .inl rfl
    | some ns =>
      obtain ⟨h1, h2⟩ := parse_i64 _ _ _ hp
      simp only
      split
      · rename_i he
        exact .inr ⟨readF ns, readF_fits h1 (by omega), he, rfl⟩
      · exact .inl rfl
end Go.Proofs.Ytcplblpmgajmnaa.A
namespace Go.Proofs.Ytcplblpmgajmnaa.A
open Go.RowKit Go.Proofs.YtcplblpmgajmnaaW.PrintWords Go.Proofs.YtcplblpmgajmnaaW.PrintLast Go.Proofs.YtcplblpmgajmnaaW.PrintMore
attribute [local go_sem] max2_int min2_int max_two min_two max_three min_three max_four min_four
set_option linter.unusedVariables false
set_option linter.unusedSimpArgs false
def bytes_Equal.f (l0 : List Int) (l1 : List Int) : Option (Bool) := some ((strOfNums l0).toList == (strOfNums l1).toList)
set_option maxHeartbeats 8000000 in
set_option maxRecDepth 100000 in
theorem bytes_Equal.calls (A0 : Option Addr) (c0 : Nat) (l0 : List Int) (A1 : Option Addr) (c1 : Nat) (l1 : List Int) (r : Bool) (w : World) (hr0 : Kd.C (Kd.int .u8) w A0 l0.length l0) (hc0 : l0.length ≤ c0) (hr1 : Kd.C (Kd.int .u8) w A1 l1.length l1) (hc1 : l1.length ≤ c1) (h : bytes_Equal.f l0 l1 = some r) :
  Calls Try.prog 27 #[.slice A0 l0.length c0, .slice A1 l1.length c1] w fun e w' => e = .returned (.bool r) ∧ Drawn0 w w' := by
 have HR0 := Aside0.mk hr0
 have HC0 := Aside0.mk hc0
 clear hr0 hc0
 have HR1 := Aside0.mk hr1
 have HC1 := Aside0.mk hc1
 clear hr1 hc1
 have H : (some ((strOfNums l0).toList == (strOfNums l1).toList)) = some r := h
 clear h
 obtain rfl := Option.some.inj H
 have hcv3 := Kd.C_string (P := Try.prog) (A := A0) (c := c0) Try.underlying22 Try.underlying5 Try.underlying9 HR0.out
 have hcv4 := Kd.C_string (P := Try.prog) (A := A1) (c := c1) Try.underlying22 Try.underlying5 Try.underlying9 HR1.out
 go_enter Try.func27, Try.ntmps27
 go_wp2
 go_ret
 exact ⟨by first | rfl | (simp; done) | (simp [*]; done), by repeat (first | exact Drawn0.refl _ | apply Drawn0.step)⟩
end Go.Proofs.Ytcplblpmgajmnaa.A
namespace Go.Proofs.Ytcplblpmgajmnaa.A
open Go.RowKit Go.Proofs.YtcplblpmgajmnaaW.PrintWords Go.Proofs.YtcplblpmgajmnaaW.PrintLast Go.Proofs.YtcplblpmgajmnaaW.PrintMore
set_option linter.unusedVariables false
set_option linter.unusedSimpArgs false
instance (l : List Int) : Decidable (Bytes l) := inferInstanceAs (Decidable (∀ c ∈ l, 0 ≤ c ∧ c ≤ 255))
theorem str_inj : ∀ {a b : List Int}, Bytes a → Bytes b → (strOfNums a).toList = (strOfNums b).toList → a = b := by
  intro a b ha hb h
  have e : ∀ l : List Int, (strOfNums l).toList = l.map fun n => UInt8.ofNat n.toNat := fun l => by simp [strOfNums, Go.ByteArray.toList_eq]
  rw [e, e] at h
  induction a generalizing b with
  | nil => cases b with
    | nil => rfl
    | cons y b => simp at h
  | cons x a ih => cases b with
    | nil => simp at h
    | cons y b =>
      simp only [List.map_cons, List.cons.injEq] at h
      have hx := ha x (by simp)
      have hy := hb y (by simp)
      have h1 := congrArg UInt8.toNat h.1
      rw [UInt8.toNat_ofNat', UInt8.toNat_ofNat'] at h1
      rw [ih (fun c hc => ha c (List.mem_cons_of_mem _ hc)) (fun c hc => hb c (List.mem_cons_of_mem _ hc)) h.2, show x = y by omega]
theorem str_eq {a b : List Int} (ha : Bytes a) (hb : Bytes b) : ((strOfNums a).toList == (strOfNums b).toList) = decide (a = b) := by
  by_cases h : a = b
  · subst h; simp
  · rw [decide_eq_false h, beq_eq_false_iff_ne]
    exact fun e => h (str_inj ha hb e)
theorem own_ten {α : Type} {d : Kd α} {e : Nat} {W : World} {base g m : Nat} {v : Value} {xs : List α} {v0 v1 v2 v3 v4 v5 v6 v7 v8 v9 : Value} (h : d.R e W base (fun _ => True) v xs) (hg : g < base) (hb : m ≤ g) :
    d.R e ((((((((((W.setCell ⟨g, 0, none⟩ v0).setCell ⟨g, 1, none⟩ v1).setCell ⟨g, 2, none⟩ v2).setCell ⟨g, 3, none⟩ v3).setCell ⟨g, 4, none⟩ v4).setCell ⟨g, 5, none⟩ v5).setCell ⟨g, 6, none⟩ v6).setCell ⟨g, 7, none⟩ v7).setCell ⟨g, 8, none⟩ v8).setCell ⟨g, 9, none⟩ v9) m (fun _ => True) v xs := by
  have hq : ∀ k, base ≤ k → k ≠ g := fun k hk => by omega
  have h0 := Kd.R_mono (Kd.R_bound h) (ok' := fun k => base ≤ k) (fun k hk => hk.2.1)
  exact Kd.R_lower (Kd.R_mono (Kd.R_far (Kd.R_far (Kd.R_far (Kd.R_far (Kd.R_far (Kd.R_far (Kd.R_far (Kd.R_far (Kd.R_far (Kd.R_far h0 hq v0) hq v1) hq v2) hq v3) hq v4) hq v5) hq v6) hq v7) hq v8) hq v9) (fun _ _ => trivial)) (by omega)
def RecV (r : Rec) (v5 v6 v8 v9 : Value) : Value := .agg #[.int .i64 r.k, .int .i64 r.t, .int .i64 r.p, .int .i64 r.g, .int .i64 r.o, v5, v6, .int .i64 r.n, v8, v9]
set_option maxHeartbeats 4000000 in
set_option maxRecDepth 100000 in
theorem decode_none (A0 : Option Addr) (c0 : Nat) (l0 : List Int) (w : World) (hr0 : Kd.C (Kd.int .u8) w A0 l0.length l0) (hc0 : l0.length ≤ c0) (h : l0.length > 4096 ∨ (¬ l0.length > 4096 ∧ parse l0.length l0 = none)) :
    Calls Try.prog 12 #[.slice A0 l0.length c0] w fun e w' => e = .returned (.tuple #[.agg #[.int .i64 0, .int .i64 0, .int .i64 0, .int .i64 0, .int .i64 0, .slice none 0 0, .slice none 0 0, .int .i64 0, .slice none 0 0, .slice none 0 0], errW (some 4)]) ∧ Below w.heap.size w w' := by
  have hu30 := Try.underlying30
  have hu32 := Try.underlying32
  have hu44 := Try.underlying44
  have HR0 := Aside0.mk hr0
  clear hr0
  rcases h with h | ⟨h, hp⟩
  · have h1 : decide (4096 < (l0.length : Int)) = true := decide_eq_true (by omega)
    have Hh := Lib.hid h
    clear h
    go_enter Try.func12, Try.ntmps12
    go_wp2
    refine bodyPost_ret (results_ct rfl _ _ w.heap.size 30 #[.int .i64 0, .int .i64 0, .int .i64 0, .int .i64 0, .int .i64 0, .slice none 0 0, .slice none 0 0, .int .i64 0, .slice none 0 0, .slice none 0 0] (0, 0) _ rfl (heap_alloc_new w _) Try.underlying30 rfl (by kernel_rfl)) rfl ⟨rfl, by (with_reducible repeat (refine below_set ?_ (by omega))); exact below_alloc (Below.refl _ _) _⟩
  · have h1 : decide (4096 < (l0.length : Int)) = false := decide_eq_false (by omega)
    have Hh := Lib.hid h
    have Hp := Lib.hid hp
    clear h hp
    go_enter Try.func12, Try.ntmps12
    go_wp2_with fail
    refine (numbers_walk A0 c0 l0 _ (Kd.C_alloc HR0.out _) hc0 (by have := Hh.out; omega) ([], false) (by rw [Hp.out]; rfl)).mono ?_
    rintro e w1 ⟨v1, rfl, ho, hb⟩
    have BK1 := Lib.hid (blk_below (heap_alloc_new w _) hb)
    have HB := Lib.hid (below_then (below_alloc (Below.refl w.heap.size w) _) (by rw [World.size_alloc]; omega) hb)
    clear hb ho
    obtain ⟨d_0, d_1, d_2, d_3, d_4, d_5, d_6, d_7, d_8, d_9⟩ := ten_cells BK1.out
    have hfr := ten_free BK1.out
    go_wp2
    refine bodyPost_ret (results_ct rfl _ _ w.heap.size 30 #[.int .i64 0, .int .i64 0, .int .i64 0, .int .i64 0, .int .i64 0, .slice none 0 0, .slice none 0 0, .int .i64 0, .slice none 0 0, .slice none 0 0] (0, 0) _ rfl (by with_reducible exact blk_put10 BK1.out _ _ _ _ _ _ _ _ _ _) Try.underlying30 rfl (by kernel_rfl)) rfl ⟨rfl, by (with_reducible repeat (refine below_set ?_ (by omega))); exact HB.out⟩
set_option maxHeartbeats 4000000 in
set_option maxRecDepth 100000 in
theorem decode_some (A0 : Option Addr) (c0 : Nat) (l0 : List Int) (w : World) (hr0 : Kd.C (Kd.int .u8) w A0 l0.length l0) (hc0 : l0.length ≤ c0) (hb0 : Bytes l0) (h : ¬ l0.length > 4096) (ns : List Int) (hp : parse l0.length l0 = some ns) (r : Rec) (hr : readF ns = r) (s : Rec) (x : Option Int) (hb0r : (if r.enc = (l0, none) then (r, none) else (Rec.zero, some 4)) = (s, x)) :
    Calls Try.prog 12 #[.slice A0 l0.length c0] w fun e w' => ∃ (v5 v6 v8 v9 : Value), e = .returned (.tuple #[RecV s v5 v6 v8 v9, errW x]) ∧ Kd.R (Kd.int .i64) 3 w' w.heap.size (fun _ => True) v5 s.args ∧ Kd.R k52 52 w' w.heap.size (fun _ => True) v6 s.imgs ∧ Kd.R k54 54 w' w.heap.size (fun _ => True) v8 s.di ∧ Kd.R k56 56 w' w.heap.size (fun _ => True) v9 s.ac ∧ Below w.heap.size w w' := by
  have hu30 := Try.underlying30
  have hu32 := Try.underlying32
  have hu44 := Try.underlying44
  have hu66 := Try.underlying66
  have HR0 := Aside0.mk hr0
  clear hr0
  have h1 : decide (4096 < (l0.length : Int)) = false := decide_eq_false (by omega)
  have Hh := Lib.hid h
  have Hp := Lib.hid hp
  have Hr := Lib.hid hr
  have H0 := Lib.hid hb0
  clear h hp hr hb0
  go_enter Try.func12, Try.ntmps12
  go_wp2_with fail
  refine (numbers_walk A0 c0 l0 _ (Kd.C_alloc HR0.out _) hc0 (by have := Hh.out; omega) (ns, true) (by rw [Hp.out]; rfl)).mono ?_
  rintro e w1 ⟨v1, rfl, ho, hb⟩
  have BK1 := Lib.hid (blk_below (heap_alloc_new w _) hb)
  have HB := Lib.hid (below_then (below_alloc (Below.refl w.heap.size w) _) (by rw [World.size_alloc]; omega) hb)
  clear hb
  obtain ⟨A1, c1, rfl, hc1, hC1⟩ := Kd.R_reads ho
  replace hC1 := Aside0.mk hC1
  clear ho
  go_wp2_with fail
  obtain ⟨v', hv'⟩ := read_f ⟨A1, c1, ns⟩ (by show ns.length ≤ 5000; have := (parse_i64 _ _ _ Hp.out).2; have := Hh.out; omega) 20001 (by omega)
  have hv2 : record_reader_read.f 20001 ⟨A1, c1, ns⟩ = some (outOf r v') := hv'.trans (by rw [show readF (View.mk A1 c1 ns).l = r from Hr.out])
  have Hf := Lib.hid (show r.Fits by rw [← Hr.out]; exact readF_fits (parse_i64 _ _ _ Hp.out).1 (by have := (parse_i64 _ _ _ Hp.out).2; have := Hh.out; omega))
  clear hv'
  refine (record_reader_read.calls 20001 w1.heap.size ⟨A1, c1, ns⟩ r.k r.t r.p r.g r.o r.args r.imgs r.n r.di r.ac v' w1 _ ⟨heap_alloc_new _ _, Nat.le_refl _, hC1.out, hc1⟩ (below_alloc (Below.refl _ _) _) hv2).mono ?_
  rintro e w2 ⟨v5, v6, v8, v9, rfl, h5, h6, h8, h9, _, hbb, _⟩
  have BK2 := Lib.hid (blk_below BK1.out hbb)
  have HB2 := Lib.hid (below_then HB.out HB.out.size hbb)
  have hsz : w.heap.size ≤ w1.heap.size := HB.out.size
  have hlt : w.heap.size < w2.heap.size := blk_lt BK2.out
  have hlt1 : w.heap.size < (w1.alloc (Obj.cells #[Value.slice A1 ns.length c1] 66)).heap.size := by rw [World.size_alloc]; omega
  have H5 := Aside0.mk h5
  have H6 := Aside0.mk h6
  have H8 := Aside0.mk h8
  have H9 := Aside0.mk h9
  clear hbb hv2 BK1 HB
  obtain ⟨A5, c5, e5, hc5, hC5⟩ := Kd.R_reads h5
  obtain ⟨A6, c6, e6, hc6, hC6⟩ := Kd.R_reads h6
  obtain ⟨A8, c8, e8, hc8, hC8⟩ := Kd.R_reads h8
  obtain ⟨A9, c9, e9, hc9, hC9⟩ := Kd.R_reads h9
  subst e5 e6 e8 e9
  replace hC5 := Aside0.mk hC5
  replace hC6 := Aside0.mk hC6
  replace hC8 := Aside0.mk hC8
  replace hC9 := Aside0.mk hC9
  clear h5 h6 h8 h9
  have HS := Lib.hid hb0r
  go_wp2_with fail
  have hWb : ∀ o, Below w2.heap.size w2 (w2.alloc o) := fun o => below_alloc (Below.refl _ _) o
  obtain ⟨b, x, he⟩ : ∃ b x, r.enc = (b, x) := ⟨_, _, rfl⟩
  have HE := Lib.hid he
  clear he
  refine (record_Encode.calls 700001 r.k r.t r.p r.g r.o _ _ r.args _ _ r.imgs r.n _ _ r.di _ _ r.ac b x _ (Kd.C_below hC5.out (hWb _)) hc5 (Kd.C_below hC6.out (hWb _)) hc6 (Kd.C_below hC8.out (hWb _)) hc8 (Kd.C_below hC9.out (hWb _)) hc9 ((Encode_f Hf.out 700001 (by omega)).trans (by rw [HE.out]))).mono ?_
  rintro e w3 ⟨v3, rfl, ho3, hb3⟩
  have BK6 := Lib.hid (blk_below (heap_alloc_new w2 _) hb3)
  have HB3 := Lib.hid (below_then (below_alloc (Below.refl w2.heap.size w2) _) (by rw [World.size_alloc]; omega) hb3)
  have BK3 := Lib.hid (blk_below BK2.out HB3.out)
  obtain ⟨A3, c3, e3, hc3, hC3⟩ := Kd.R_reads ho3
  subst e3
  replace hC3 := Aside0.mk hC3
  clear hb3 ho3 hWb
  have hR0 : w3.heap.size ≥ w2.heap.size := HB3.out.size
  obtain ⟨d_0, d_1, d_2, d_3, d_4, d_5, d_6, d_7, d_8, d_9⟩ := ten_cells BK3.out
  have hfr := ten_free BK3.out
  obtain ⟨x_0, x_1, x_2, x_3, x_4, x_5, x_6, x_7, x_8, x_9⟩ := ten_cells BK6.out
  have HBt := Lib.hid (below_then HB2.out HB2.out.size HB3.out)
  have HC0 := Aside0.mk (Kd.C_below HR0.out HBt.out)
  rcases x with _ | x
  · simp only [errW_none]
    have hq : Bytes b := by
      have := (enc_ok HE.out).2.1
      rw [← this]
      exact bytes_flat _
    have HQ := Lib.hid (str_eq hq H0.out)
    have HE2 := HE.out
    by_cases hbl : b = l0
    · subst hbl
      have hd : decide (b = b) = true := decide_eq_true rfl
      have HF := Lib.hid (show bytes_Equal.f b b = some true by unfold bytes_Equal.f; rw [HQ.out, hd])
      obtain ⟨rfl, rfl⟩ := Prod.mk.inj (HS.out.symm.trans (if_pos HE.out))
      clear hq hd HE2
      go_wp2_with fail
      refine (bytes_Equal.calls _ _ b _ _ b true _ hC3.out hc3 HC0.out hc0 HF.out).mono ?_
      rintro e w4 ⟨rfl, hdr⟩
      have hb4 := hdr.below
      replace BK3 := Lib.hid (blk_below BK3.out hb4)
      replace BK6 := Lib.hid (blk_below BK6.out hb4)
      replace HBt := Lib.hid (below_then HBt.out HBt.out.size hb4)
      replace HB3 := Lib.hid (below_then HB3.out HB3.out.size hb4)
      clear hb4 hdr d_0 d_1 d_2 d_3 d_4 d_5 d_6 d_7 d_8 d_9 hfr x_0 x_1 x_2 x_3 x_4 x_5 x_6 x_7 x_8 x_9
      obtain ⟨d_0, d_1, d_2, d_3, d_4, d_5, d_6, d_7, d_8, d_9⟩ := ten_cells BK3.out
      have hfr := ten_free BK3.out
      obtain ⟨x_0, x_1, x_2, x_3, x_4, x_5, x_6, x_7, x_8, x_9⟩ := ten_cells BK6.out
      go_wp2
      refine bodyPost_ret (results_ct rfl _ _ w.heap.size 30 #[.int .i64 s.k, .int .i64 s.t, .int .i64 s.p, .int .i64 s.g, .int .i64 s.o, .slice A5 s.args.length c5, .slice A6 s.imgs.length c6, .int .i64 s.n, .slice A8 s.di.length c8, .slice A9 s.ac.length c9] (0, 0) _ rfl (by with_reducible exact blk_put10 BK3.out _ _ _ _ _ _ _ _ _ _) Try.underlying30 rfl (by kernel_rfl)) rfl ⟨_, _, _, _, rfl, ?_, ?_, ?_, ?_, ?_⟩
      · exact own_ten (Kd.R_below H5.out HB3.out) hlt1 (Nat.le_refl _)
      · exact own_ten (Kd.R_below H6.out HB3.out) hlt1 (Nat.le_refl _)
      · exact own_ten (Kd.R_below H8.out HB3.out) hlt1 (Nat.le_refl _)
      · exact own_ten (Kd.R_below H9.out HB3.out) hlt1 (Nat.le_refl _)
      · (with_reducible repeat (refine below_set ?_ (by omega))); exact HBt.out
    · have hd : decide (b = l0) = false := decide_eq_false hbl
      have HF := Lib.hid (show bytes_Equal.f b l0 = some false by unfold bytes_Equal.f; rw [HQ.out, hd])
      obtain ⟨rfl, rfl⟩ := Prod.mk.inj (HS.out.symm.trans (if_neg (by rw [HE.out]; intro h; exact hbl (Prod.mk.inj h).1)))
      clear hq hd HE2 hbl
      go_wp2_with fail
      refine (bytes_Equal.calls _ _ b _ _ l0 false _ hC3.out hc3 HC0.out hc0 HF.out).mono ?_
      rintro e w4 ⟨rfl, hdr⟩
      have hb4 := hdr.below
      replace BK3 := Lib.hid (blk_below BK3.out hb4)
      replace HBt := Lib.hid (below_then HBt.out HBt.out.size hb4)
      clear hb4 hdr d_0 d_1 d_2 d_3 d_4 d_5 d_6 d_7 d_8 d_9 hfr x_0 x_1 x_2 x_3 x_4 x_5 x_6 x_7 x_8 x_9
      obtain ⟨d_0, d_1, d_2, d_3, d_4, d_5, d_6, d_7, d_8, d_9⟩ := ten_cells BK3.out
      have hfr := ten_free BK3.out
      go_wp2
      refine bodyPost_ret (results_ct rfl _ _ w.heap.size 30 #[.int .i64 0, .int .i64 0, .int .i64 0, .int .i64 0, .int .i64 0, .slice none 0 0, .slice none 0 0, .int .i64 0, .slice none 0 0, .slice none 0 0] (0, 0) _ rfl (by with_reducible exact blk_put10 BK3.out _ _ _ _ _ _ _ _ _ _) Try.underlying30 rfl (by kernel_rfl)) rfl ⟨_, _, _, _, rfl, Kd.R_nil _ _ _ _ _, Kd.R_nil _ _ _ _ _, Kd.R_nil _ _ _ _ _, Kd.R_nil _ _ _ _ _, ?_⟩
      (with_reducible repeat (refine below_set ?_ (by omega))); exact HBt.out
  · simp only [errW_some]
    obtain ⟨rfl, rfl⟩ := Prod.mk.inj (HS.out.symm.trans (if_neg (by rw [HE.out]; intro h; exact absurd (Prod.mk.inj h).2 (by simp))))
    go_wp2
    refine bodyPost_ret (results_ct rfl _ _ w.heap.size 30 #[.int .i64 0, .int .i64 0, .int .i64 0, .int .i64 0, .int .i64 0, .slice none 0 0, .slice none 0 0, .int .i64 0, .slice none 0 0, .slice none 0 0] (0, 0) _ rfl (by with_reducible exact blk_put10 BK3.out _ _ _ _ _ _ _ _ _ _) Try.underlying30 rfl (by kernel_rfl)) rfl ⟨_, _, _, _, rfl, Kd.R_nil _ _ _ _ _, Kd.R_nil _ _ _ _ _, Kd.R_nil _ _ _ _ _, Kd.R_nil _ _ _ _ _, ?_⟩
    (with_reducible repeat (refine below_set ?_ (by omega))); exact HBt.out
theorem decode_rec (A0 : Option Addr) (c0 : Nat) (l0 : List Int) (w : World) (hr0 : Kd.C (Kd.int .u8) w A0 l0.length l0) (hc0 : l0.length ≤ c0) (hb0 : Bytes l0) (s : Rec) (x : Option Int) (h : decodeF l0 = (s, x)) :
    Calls Try.prog 12 #[.slice A0 l0.length c0] w fun e w' => ∃ (v5 v6 v8 v9 : Value), e = .returned (.tuple #[RecV s v5 v6 v8 v9, errW x]) ∧ Kd.R (Kd.int .i64) 3 w' w.heap.size (fun _ => True) v5 s.args ∧ Kd.R k52 52 w' w.heap.size (fun _ => True) v6 s.imgs ∧ Kd.R k54 54 w' w.heap.size (fun _ => True) v8 s.di ∧ Kd.R k56 56 w' w.heap.size (fun _ => True) v9 s.ac ∧ Below w.heap.size w w' := by
  have no : l0.length > 4096 ∨ (¬ l0.length > 4096 ∧ parse l0.length l0 = none) → (s, x) = (Rec.zero, some 4) → Calls Try.prog 12 #[.slice A0 l0.length c0] w fun e w' => ∃ (v5 v6 v8 v9 : Value), e = .returned (.tuple #[RecV s v5 v6 v8 v9, errW x]) ∧ Kd.R (Kd.int .i64) 3 w' w.heap.size (fun _ => True) v5 s.args ∧ Kd.R k52 52 w' w.heap.size (fun _ => True) v6 s.imgs ∧ Kd.R k54 54 w' w.heap.size (fun _ => True) v8 s.di ∧ Kd.R k56 56 w' w.heap.size (fun _ => True) v9 s.ac ∧ Below w.heap.size w w' := by
    intro hn e
    obtain ⟨rfl, rfl⟩ := Prod.mk.inj e
    refine (decode_none A0 c0 l0 w hr0 hc0 hn).mono ?_
    rintro e w' ⟨rfl, hb⟩
    exact ⟨_, _, _, _, rfl, Kd.R_nil _ _ _ _ _, Kd.R_nil _ _ _ _ _, Kd.R_nil _ _ _ _ _, Kd.R_nil _ _ _ _ _, hb⟩
  unfold decodeF at h
  split at h
  · exact no (.inl ‹_›) h.symm
  · split at h
    · exact no (.inr ⟨‹_›, ‹_›⟩) h.symm
    · exact decode_some A0 c0 l0 w hr0 hc0 hb0 ‹_› _ ‹_› _ rfl s x h
def Rec.ex : Rec := ⟨3, 3, 9, 0, 0, [], [], 0, [], []⟩
theorem ex_fits : Rec.ex.Fits :=
  { k := ⟨by decide, by decide⟩, t := ⟨by decide, by decide⟩, p := ⟨by decide, by decide⟩, n := zero_i64, g := zero_i64, o := zero_i64, args := by simp [Rec.ex], imgs := by simp [Rec.ex], di := by simp [Rec.ex], ac := by simp [Rec.ex], largs := by simp [Rec.ex], limgs := by simp [Rec.ex], ldi := by simp [Rec.ex], lac := by simp [Rec.ex] }
theorem ex_bytes : Rec.ex.bytes = [6, 6, 18] := by
  have h1 : enc 3 = [6] := by unfold enc; rw [show zig 3 = 6 by decide, digits_lt (by decide)]; rfl
  have h2 : enc 9 = [18] := by unfold enc; rw [show zig 9 = 18 by decide, digits_lt (by decide)]; rfl
  show [3, 3, 9].flatMap enc = _
  simp [h1, h2]
theorem ex_enc : Rec.ex.enc = ([6, 6, 18], none) := by
  unfold Rec.enc
  rw [if_pos (show Rec.ex.Ok from .inr (.inr (.inl ⟨.inl rfl, ⟨by decide, by decide⟩, rfl, rfl, rfl, rfl, rfl, rfl, rfl⟩))), ex_bytes]
  rfl
set_option maxHeartbeats 4000000 in
set_option maxRecDepth 100000 in
theorem alive_true (w : World) : Calls Try.prog 10 #[] w fun e w' => e = .returned (.bool true) ∧ Below w.heap.size w w' := by
  have hu30 := Try.underlying30
  have hu32 := Try.underlying32
  have hu44 := Try.underlying44
  obtain ⟨b, Hbl⟩ : ∃ b : List Int, Hid (b = [6, 6, 18]) := ⟨_, Lib.hid rfl⟩
  have Hs : ((strOfNums b).toList == ([6, 6, 18] : List UInt8)) = true := by rw [Hbl.out]; simp [strOfNums, Go.ByteArray.toList_eq]
  go_enter Try.func10, Try.ntmps10
  go_wp2_with fail
  refine (record_Encode.calls 700001 3 3 9 0 0 none 0 [] none 0 [] 0 none 0 [] none 0 [] b none _ (Kd.C_nil _ _) (Nat.le_refl _) (Kd.C_nil _ _) (Nat.le_refl _) (Kd.C_nil _ _) (Nat.le_refl _) (Kd.C_nil _ _) (Nat.le_refl _) ((Encode_f ex_fits 700001 (by omega)).trans (by rw [ex_enc, Hbl.out]))).mono ?_
  rintro e w1 ⟨v1, rfl, ho1, hb⟩
  have HB := Lib.hid hb
  obtain ⟨A1, c1, e1, hc1, hC1⟩ := Kd.R_reads ho1
  subst e1
  replace hC1 := Aside0.mk hC1
  clear hb ho1
  simp only [errW_none]
  go_wp2_with fail
  refine (decode_rec A1 c1 b _ hC1.out hc1 (by rw [Hbl.out]; decide) Rec.ex none (by rw [Hbl.out]; exact decode_bytes ex_fits ex_enc)).mono ?_
  rintro e w2 ⟨v5, v6, v8, v9, rfl, h5, h6, h8, h9, hbb⟩
  have HB2 := Lib.hid (below_then HB.out HB.out.size hbb)
  replace hC1 := Aside0.mk (Kd.C_below hC1.out hbb)
  obtain ⟨A5, c5, e5, _, _⟩ := Kd.R_reads h5
  obtain ⟨A6, c6, e6, _, _⟩ := Kd.R_reads h6
  obtain ⟨A8, c8, e8, _, _⟩ := Kd.R_reads h8
  obtain ⟨A9, c9, e9, _, _⟩ := Kd.R_reads h9
  subst e5 e6 e8 e9
  clear h5 h6 h8 h9 hbb HB
  have hcv := fun o => Kd.C_string (P := Try.prog) (A := A1) (c := c1) Try.underlying22 Try.underlying5 Try.underlying9 (Kd.C_alloc hC1.out o)
  simp only [errW_none, RecV, Rec.ex]
  go_wp2
  go_ret
  exact ⟨by rfl, by (with_reducible repeat (first | apply below_alloc | apply pw_below_drewN | apply below_drew1)); exact HB2.out⟩
end Go.Proofs.Ytcplblpmgajmnaa.A
namespace Go.Proofs.Ytcplblpmgajmnaa.A
open Go.RowKit Go.Proofs.YtcplblpmgajmnaaW.PrintWords Go.Proofs.YtcplblpmgajmnaaW.PrintLast Go.Proofs.YtcplblpmgajmnaaW.PrintMore
attribute [local go_sem] max2_int min2_int max_two min_two max_three min_three max_four min_four
set_option linter.unusedVariables false
set_option linter.unusedSimpArgs false
def palimpsestlaw16_large.f (a0_0 : Int) (a0_1 : Int) (a0_2 : Int) (a0_3 : Int) (a0_4 : Int) (l0_5 : List Int) (l0_6 : List (S52)) (a0_7 : Int) (l0_8 : List (S54)) (l0_9 : List (S56)) : Option (Bool) := some (decide ((wrap64 ((wrap64 ((wrap64 ((l0_5.length : Int) + (l0_6.length : Int))) + (l0_8.length : Int))) + (l0_9.length : Int))) > 3000))
set_option maxHeartbeats 8000000 in
set_option maxRecDepth 100000 in
theorem palimpsestlaw16_large.calls (a0_0 : Int) (a0_1 : Int) (a0_2 : Int) (a0_3 : Int) (a0_4 : Int) (A0_5 : Option Addr) (c0_5 : Nat) (l0_5 : List Int) (A0_6 : Option Addr) (c0_6 : Nat) (l0_6 : List (S52)) (a0_7 : Int) (A0_8 : Option Addr) (c0_8 : Nat) (l0_8 : List (S54)) (A0_9 : Option Addr) (c0_9 : Nat) (l0_9 : List (S56)) (r : Bool) (w : World) (hr0_5 : Kd.C (Kd.int .i64) w A0_5 l0_5.length l0_5) (hc0_5 : l0_5.length ≤ c0_5) (hr0_6 : Kd.C k52 w A0_6 l0_6.length l0_6) (hc0_6 : l0_6.length ≤ c0_6) (hr0_8 : Kd.C k54 w A0_8 l0_8.length l0_8) (hc0_8 : l0_8.length ≤ c0_8) (hr0_9 : Kd.C k56 w A0_9 l0_9.length l0_9) (hc0_9 : l0_9.length ≤ c0_9) (h : palimpsestlaw16_large.f a0_0 a0_1 a0_2 a0_3 a0_4 l0_5 l0_6 a0_7 l0_8 l0_9 = some r) :
  Calls Try.prog 17 #[.agg #[.int .i64 a0_0, .int .i64 a0_1, .int .i64 a0_2, .int .i64 a0_3, .int .i64 a0_4, .slice A0_5 l0_5.length c0_5, .slice A0_6 l0_6.length c0_6, .int .i64 a0_7, .slice A0_8 l0_8.length c0_8, .slice A0_9 l0_9.length c0_9]] w fun e w' => e = .returned (.bool r) ∧ Below w.heap.size w w' := by
 have hu30 := Try.underlying30
 have HR0_5 := Aside0.mk hr0_5
 have HC0_5 := Aside0.mk hc0_5
 clear hr0_5 hc0_5
 have HR0_6 := Aside0.mk hr0_6
 have HC0_6 := Aside0.mk hc0_6
 clear hr0_6 hc0_6
 have HR0_8 := Aside0.mk hr0_8
 have HC0_8 := Aside0.mk hc0_8
 clear hr0_8 hc0_8
 have HR0_9 := Aside0.mk hr0_9
 have HC0_9 := Aside0.mk hc0_9
 clear hr0_9 hc0_9
 have HB := Aside0.mk (Below.refl w.heap.size w)
 have H : (some (decide ((wrap64 ((wrap64 ((wrap64 ((l0_5.length : Int) + (l0_6.length : Int))) + (l0_8.length : Int))) + (l0_9.length : Int))) > 3000))) = some r := h
 clear h
 obtain rfl := Option.some.inj H
 go_enter Try.func17, Try.ntmps17
 go_wp2_with (first | ((with_reducible refine gate_dst (N := 1) rfl ?_); refine box_event ?hg (N := 1) ?hd (cs := #[.int .i64 a0_0, .int .i64 a0_1, .int .i64 a0_2, .int .i64 a0_3, .int .i64 a0_4, .slice A0_5 l0_5.length c0_5, .slice A0_6 l0_6.length c0_6, .int .i64 a0_7, .slice A0_8 l0_8.length c0_8, .slice A0_9 l0_9.length c0_9]) (t := 30) ?hr ?_; (case hd => rfl); (case hg => rfl); (case hr => first | (go_simp; done) | (go_simp; rfl)); intro gb436 hg w2 hbox hb; have n0_ := Aside0.mk (below_step (by repeat (first | (with_reducible first | exact HB.out | apply bA | apply bN | apply bD) | exact HB.out)) hb); have n1_ := Aside0.mk (hbox); have n2_ := Aside0.mk ((by rw [hg]; exact (below_size (by repeat (first | (with_reducible first | exact HB.out | apply bA | apply bN | apply bD) | exact HB.out))) : w.heap.size ≤ gb436)); have n3_ := Aside0.mk ((by rw [hg]; exact (below_size (by repeat (first | (with_reducible first | exact HB.out | apply bA | apply bN | apply bD) | exact HB.out))) : w.heap.size ≤ gb436)); clear HB; have HB := n0_; have BK436 := n1_; have GW436 := n2_; have GE436 := n3_; clear n0_ n1_ n2_ n3_; clear hb hbox hg; obtain ⟨hcz3_0, hcz3_1, hcz3_2, hcz3_3, hcz3_4, hcz3_5, hcz3_6, hcz3_7, hcz3_8, hcz3_9⟩ := ten_cells BK436.out; have hfz3 := ten_free BK436.out))
 go_ret
 exact ⟨by first | rfl | (simp [errW_none, errW_some] <;> rfl) | (simp [*, errW_none, errW_some] <;> rfl), by repeat (first | (with_reducible first | exact HB.out | apply bA | apply bN | apply bD | refine bS ?_ GE436.out) | exact HB.out)⟩
end Go.Proofs.Ytcplblpmgajmnaa.A
namespace Go.Proofs.Ytcplblpmgajmnaa.A
open Go.RowKit Go.Proofs.YtcplblpmgajmnaaW.PrintWords Go.Proofs.YtcplblpmgajmnaaW.PrintLast Go.Proofs.YtcplblpmgajmnaaW.PrintMore
set_option linter.unusedVariables false
set_option linter.unusedSimpArgs false
structure Lies where
  A5 : Option Addr
  c5 : Nat
  A6 : Option Addr
  c6 : Nat
  A8 : Option Addr
  c8 : Nat
  A9 : Option Addr
  c9 : Nat
structure RIn (w : World) (r : Rec) (a : Lies) : Prop where
  C5 : Kd.C (Kd.int .i64) w a.A5 r.args.length r.args
  L5 : r.args.length ≤ a.c5
  C6 : Kd.C k52 w a.A6 r.imgs.length r.imgs
  L6 : r.imgs.length ≤ a.c6
  C8 : Kd.C k54 w a.A8 r.di.length r.di
  L8 : r.di.length ≤ a.c8
  C9 : Kd.C k56 w a.A9 r.ac.length r.ac
  L9 : r.ac.length ≤ a.c9
theorem RIn.below {w w1 : World} {r : Rec} {a : Lies} (h : RIn w r a) (hb : Below w.heap.size w w1) : RIn w1 r a :=
  ⟨Kd.C_below h.C5 hb, h.L5, Kd.C_below h.C6 hb, h.L6, Kd.C_below h.C8 hb, h.L8, Kd.C_below h.C9 hb, h.L9⟩
theorem RIn.alloc {w : World} {r : Rec} {a : Lies} (h : RIn w r a) (o : Obj) : RIn (w.alloc o) r a := h.below (below_alloc (Below.refl _ _) o)
def Rec.cells (r : Rec) (a : Lies) : Array Value := #[.int .i64 r.k, .int .i64 r.t, .int .i64 r.p, .int .i64 r.g, .int .i64 r.o, .slice a.A5 r.args.length a.c5, .slice a.A6 r.imgs.length a.c6, .int .i64 r.n, .slice a.A8 r.di.length a.c8, .slice a.A9 r.ac.length a.c9]
structure Rec.Wide (r : Rec) : Prop where
  k : I64 r.k
  t : I64 r.t
  p : I64 r.p
  g : I64 r.g
  o : I64 r.o
  n : I64 r.n
  args : ∀ x ∈ r.args, I64 x
  imgs : ∀ x ∈ r.imgs, I64 x.f0 ∧ I64 x.f1
  di : ∀ x ∈ r.di, I64 x.f0 ∧ I64 x.f1
  ac : ∀ x ∈ r.ac, I64 x.f0 ∧ I64 x.f1 ∧ I64 x.f2 ∧ I64 x.f3
  largs : r.args.length < 17592186044416
  limgs : r.imgs.length < 8796093022208
  ldi : r.di.length < 8796093022208
  lac : r.ac.length < 4398046511104
def Rec.many (r : Rec) : Nat := r.args.length + r.imgs.length + r.di.length + r.ac.length
theorem Rec.Wide.fits {r : Rec} (h : r.Wide) (hl : ¬ r.many > 3000) : r.Fits := by
  unfold Rec.many at hl
  exact { k := h.k, t := h.t, p := h.p, g := h.g, o := h.o, n := h.n, args := h.args, imgs := h.imgs, di := h.di, ac := h.ac, largs := by omega, limgs := by omega, ldi := by omega, lac := by omega }
theorem large_c {r : Rec} {a : Lies} {w : World} (h : RIn w r a) (hw : r.Wide) : Calls Try.prog 17 #[.agg (r.cells a)] w fun e w' => e = .returned (.bool (decide (r.many > 3000))) ∧ Below w.heap.size w w' := by
  refine palimpsestlaw16_large.calls r.k r.t r.p r.g r.o a.A5 a.c5 r.args a.A6 a.c6 r.imgs r.n a.A8 a.c8 r.di a.A9 a.c9 r.ac _ w h.C5 h.L5 h.C6 h.L6 h.C8 h.L8 h.C9 h.L9 ?_
  have h1 := hw.largs
  have h2 := hw.limgs
  have h3 := hw.ldi
  have h4 := hw.lac
  unfold palimpsestlaw16_large.f Rec.many
  congr 1
  rw [decide_eq_decide]
  unfold wrap64
  omega
theorem enc_c {r : Rec} {a : Lies} {w : World} (h : RIn w r a) (hf : r.Fits) : Calls Try.prog 18 #[.agg (r.cells a)] w fun e w' => ∃ A c, e = .returned (.tuple #[.slice A r.enc.1.length c, errW r.enc.2]) ∧ r.enc.1.length ≤ c ∧ Kd.C (Kd.int .u8) w' A r.enc.1.length r.enc.1 ∧ Below w.heap.size w w' := by
  refine (record_Encode.calls 700001 r.k r.t r.p r.g r.o a.A5 a.c5 r.args a.A6 a.c6 r.imgs r.n a.A8 a.c8 r.di a.A9 a.c9 r.ac r.enc.1 r.enc.2 w h.C5 h.L5 h.C6 h.L6 h.C8 h.L8 h.C9 h.L9 (Encode_f hf 700001 (by omega))).mono ?_
  rintro e w' ⟨v, rfl, ho, hb⟩
  obtain ⟨A, c, rfl, hc, hC⟩ := Kd.R_reads ho
  exact ⟨A, c, rfl, hc, hC, hb⟩
theorem check_c {r : Rec} {a : Lies} {w : World} (h : RIn w r a) : Calls Try.prog 20 #[.agg (r.cells a)] w fun e w' => e = .returned (errW (if r.Ok then none else some 2)) ∧ Below w.heap.size w w' :=
  record_Check.calls r.k r.t r.p r.g r.o a.A5 a.c5 r.args a.A6 a.c6 r.imgs r.n a.A8 a.c8 r.di a.A9 a.c9 r.ac _ w h.C5 h.L5 h.C6 h.L6 h.C8 h.L8 h.C9 h.L9 rfl
theorem decode_c {A0 : Option Addr} {c0 : Nat} {l0 : List Int} {w : World} (hr0 : Kd.C (Kd.int .u8) w A0 l0.length l0) (hc0 : l0.length ≤ c0) (hb0 : Bytes l0) {s : Rec} {x : Option Int} (h : decodeF l0 = (s, x)) :
    Calls Try.prog 12 #[.slice A0 l0.length c0] w fun e w' => ∃ a, e = .returned (.tuple #[.agg (s.cells a), errW x]) ∧ RIn w' s a ∧ Below w.heap.size w w' := by
  refine (decode_rec A0 c0 l0 w hr0 hc0 hb0 s x h).mono ?_
  rintro e w' ⟨v5, v6, v8, v9, rfl, h5, h6, h8, h9, hb⟩
  obtain ⟨A5, c5, rfl, hc5, hC5⟩ := Kd.R_reads h5
  obtain ⟨A6, c6, rfl, hc6, hC6⟩ := Kd.R_reads h6
  obtain ⟨A8, c8, rfl, hc8, hC8⟩ := Kd.R_reads h8
  obtain ⟨A9, c9, rfl, hc9, hC9⟩ := Kd.R_reads h9
  exact ⟨⟨A5, c5, A6, c6, A8, c8, A9, c9⟩, rfl, ⟨hC5, hc5, hC6, hc6, hC8, hc8, hC9, hc9⟩, hb⟩
theorem enc_err {r : Rec} {b : List Int} {x : Int} (h : r.enc = (b, some x)) : b = [] ∧ x = 2 := by
  unfold Rec.enc at h
  split at h
  · split at h
    · obtain ⟨h1, h2⟩ := Prod.mk.inj h
      exact ⟨h1.symm, (Option.some.inj h2).symm⟩
    · exact absurd (Prod.mk.inj h).2 (by simp)
  · obtain ⟨h1, h2⟩ := Prod.mk.inj h
    exact ⟨h1.symm, (Option.some.inj h2).symm⟩
theorem enc_some {r : Rec} {b : List Int} (h : r.enc = (b, none)) : 0 < b.length ∧ b.length ≤ 4096 ∧ Bytes b := by
  obtain ⟨ho, rfl, hl⟩ := enc_ok h
  refine ⟨?_, hl, bytes_flat _⟩
  have e : ∃ l, r.nums = r.k :: l := by
    unfold Rec.nums
    split
    · exact ⟨_, rfl⟩
    · split
      · exact ⟨_, rfl⟩
      · split <;> exact ⟨_, rfl⟩
  obtain ⟨l, e⟩ := e
  unfold Rec.bytes
  rw [e, List.flatMap_cons, List.length_append]
  have := enc_pos r.k
  omega
end Go.Proofs.Ytcplblpmgajmnaa.A
