/-
  Joined by wip/prune.py out of: AxF26, PureE.
-/
import Derived.Test.YtcplblpmgajmnaaBc4
namespace Go.Proofs.Ytcplblpmgajmnaa.A
open Go.RowKit Go.Proofs.YtcplblpmgajmnaaW.PrintWords Go.Proofs.YtcplblpmgajmnaaW.PrintLast Go.Proofs.YtcplblpmgajmnaaW.PrintMore
attribute [local go_sem] max2_int min2_int max_two min_two max_three min_three max_four min_four   -- for this text's walks alone
set_option linter.unusedVariables false
set_option linter.unusedSimpArgs false
mutual
def record_reader_read.l0 : Nat → Int → Int → View → Int → Int → Int → Int → Int → Int → List (S54) → Option (Int × Int × Int × Int × Int × List Int × (List (S52)) × Int × (List (S54)) × (List (S56)) × View)
  | 0, _, _, _, _, _, _, _, _, _, _ => none
  | k + 1, x11, x12, x1000, x261000, x261001, x261002, x261003, x261004, x261007, x261008 => if x12 < x11 then ((record_reader_num.f x1000).bind fun bt263 => ((record_reader_num.f bt263.2).bind fun bt265 => (if x261008.length < 8796093022208 then (record_reader_read.l0 k x11 (wrap64 (x12 + 1)) bt265.2 x261000 x261001 x261002 x261003 x261004 x261007 (x261008 ++ [(⟨bt263.1, bt265.1⟩ : S54)])) else (none)))) else ((record_reader_count.f x1000 4).bind fun bt270 => (record_reader_read.l1 k bt270.1 0 bt270.2 x261000 x261001 x261002 x261003 x261004 x261007 x261008 ([] : List (S56))))
def record_reader_read.l1 : Nat → Int → Int → View → Int → Int → Int → Int → Int → Int → List (S54) → List (S56) → Option (Int × Int × Int × Int × Int × List Int × (List (S52)) × Int × (List (S54)) × (List (S56)) × View)
  | 0, _, _, _, _, _, _, _, _, _, _, _ => none
  | k + 1, x26, x27, x1000, x261000, x261001, x261002, x261003, x261004, x261007, x261008, x261009 => if x27 < x26 then ((record_reader_num.f x1000).bind fun bt272 => ((record_reader_num.f bt272.2).bind fun bt274 => ((record_reader_num.f bt274.2).bind fun bt276 => ((record_reader_num.f bt276.2).bind fun bt278 => (if x261009.length < 4398046511104 then (record_reader_read.l1 k x26 (wrap64 (x27 + 1)) bt278.2 x261000 x261001 x261002 x261003 x261004 x261007 x261008 (x261009 ++ [(⟨bt272.1, bt274.1, bt276.1, bt278.1⟩ : S56)])) else (none)))))) else (some (x261000, x261001, x261002, x261003, x261004, ([] : List Int), ([] : List (S52)), x261007, x261008, x261009, x1000))
def record_reader_read.j2 : Nat → View → Int → Int → Int → Int → Int → Int → Option (Int × Int × Int × Int × Int × List Int × (List (S52)) × Int × (List (S54)) × (List (S56)) × View)
  | 0, _, _, _, _, _, _, _ => none
  | k + 1, x1000, x261000, x261001, x261002, x261003, x261004, x261007 => if x261000 = 1 then (record_reader_read.j3 k true x1000 x261000 x261001 x261002 x261003 x261004 x261007) else (record_reader_read.j3 k (x261000 == 2) x1000 x261000 x261001 x261002 x261003 x261004 x261007)
def record_reader_read.j3 : Nat → Bool → View → Int → Int → Int → Int → Int → Int → Option (Int × Int × Int × Int × Int × List Int × (List (S52)) × Int × (List (S54)) × (List (S56)) × View)
  | 0, _, _, _, _, _, _, _, _ => none
  | k + 1, x64, x1000, x261000, x261001, x261002, x261003, x261004, x261007 => if x64 = true then ((record_reader_num.f x1000).bind fun bt289 => ((record_reader_num.f bt289.2).bind fun bt291 => ((record_reader_count.f bt291.2 1).bind fun bt293 => (record_reader_read.l2 k bt293.1 0 bt293.2 x261000 x261001 x261002 bt289.1 bt291.1 ([] : List Int) x261007)))) else (some (x261000, x261001, x261002, x261003, x261004, ([] : List Int), ([] : List (S52)), x261007, ([] : List (S54)), ([] : List (S56)), x1000))
def record_reader_read.l2 : Nat → Int → Int → View → Int → Int → Int → Int → Int → List Int → Int → Option (Int × Int × Int × Int × Int × List Int × (List (S52)) × Int × (List (S54)) × (List (S56)) × View)
  | 0, _, _, _, _, _, _, _, _, _, _ => none
  | k + 1, x72, x73, x1000, x261000, x261001, x261002, x261003, x261004, x261005, x261007 => if x73 < x72 then ((record_reader_num.f x1000).bind fun bt295 => (if x261005.length < 17592186044416 then (record_reader_read.l2 k x72 (wrap64 (x73 + 1)) bt295.2 x261000 x261001 x261002 x261003 x261004 (x261005 ++ [bt295.1]) x261007) else (none))) else ((record_reader_count.f x1000 2).bind fun bt300 => (record_reader_read.l3 k bt300.1 0 bt300.2 x261000 x261001 x261002 x261003 x261004 x261005 ([] : List (S52)) x261007))
def record_reader_read.l3 : Nat → Int → Int → View → Int → Int → Int → Int → Int → List Int → List (S52) → Int → Option (Int × Int × Int × Int × Int × List Int × (List (S52)) × Int × (List (S54)) × (List (S56)) × View)
  | 0, _, _, _, _, _, _, _, _, _, _, _ => none
  | k + 1, x84, x85, x1000, x261000, x261001, x261002, x261003, x261004, x261005, x261006, x261007 => if x85 < x84 then ((record_reader_num.f x1000).bind fun bt302 => ((record_reader_num.f bt302.2).bind fun bt304 => (if x261006.length < 8796093022208 then (record_reader_read.l3 k x84 (wrap64 (x85 + 1)) bt304.2 x261000 x261001 x261002 x261003 x261004 x261005 (x261006 ++ [(⟨bt302.1, bt304.1⟩ : S52)]) x261007) else (none)))) else (some (x261000, x261001, x261002, x261003, x261004, x261005, x261006, x261007, ([] : List (S54)), ([] : List (S56)), x1000))
end
def record_reader_read.f (k : Nat) (s0_0 : View) : Option (Int × Int × Int × Int × Int × List Int × (List (S52)) × Int × (List (S54)) × (List (S56)) × View) := (record_reader_num.f s0_0).bind fun bt258 => (if bt258.1 = 5 then ((record_reader_count.f bt258.2 2).bind fun bt261 => (record_reader_read.l0 k bt261.1 0 bt261.2 bt258.1 0 0 0 0 0 ([] : List (S54)))) else ((record_reader_num.f bt258.2).bind fun bt283 => ((record_reader_num.f bt283.2).bind fun bt285 => (if bt258.1 = 2 then ((record_reader_num.f bt285.2).bind fun bt287 => (record_reader_read.j2 k bt287.2 bt258.1 bt283.1 bt285.1 0 0 bt287.1)) else (record_reader_read.j2 k bt285.2 bt258.1 bt283.1 bt285.1 0 0 0)))))
theorem record_reader_read.mono_l : ∀ k, (∀ y0 y1 y2 y3 y4 y5 y6 y7 y8 y9, LeO (record_reader_read.l0 k y0 y1 y2 y3 y4 y5 y6 y7 y8 y9) (record_reader_read.l0 (k + 1) y0 y1 y2 y3 y4 y5 y6 y7 y8 y9)) ∧ (∀ y0 y1 y2 y3 y4 y5 y6 y7 y8 y9 y10, LeO (record_reader_read.l1 k y0 y1 y2 y3 y4 y5 y6 y7 y8 y9 y10) (record_reader_read.l1 (k + 1) y0 y1 y2 y3 y4 y5 y6 y7 y8 y9 y10)) ∧ (∀ y0 y1 y2 y3 y4 y5 y6, LeO (record_reader_read.j2 k y0 y1 y2 y3 y4 y5 y6) (record_reader_read.j2 (k + 1) y0 y1 y2 y3 y4 y5 y6)) ∧ (∀ y0 y1 y2 y3 y4 y5 y6 y7, LeO (record_reader_read.j3 k y0 y1 y2 y3 y4 y5 y6 y7) (record_reader_read.j3 (k + 1) y0 y1 y2 y3 y4 y5 y6 y7)) ∧ (∀ y0 y1 y2 y3 y4 y5 y6 y7 y8 y9, LeO (record_reader_read.l2 k y0 y1 y2 y3 y4 y5 y6 y7 y8 y9) (record_reader_read.l2 (k + 1) y0 y1 y2 y3 y4 y5 y6 y7 y8 y9)) ∧ (∀ y0 y1 y2 y3 y4 y5 y6 y7 y8 y9 y10, LeO (record_reader_read.l3 k y0 y1 y2 y3 y4 y5 y6 y7 y8 y9 y10) (record_reader_read.l3 (k + 1) y0 y1 y2 y3 y4 y5 y6 y7 y8 y9 y10))
  | 0 => ⟨fun _ _ _ _ _ _ _ _ _ _ r h => by simp [record_reader_read.l0] at h, fun _ _ _ _ _ _ _ _ _ _ _ r h => by simp [record_reader_read.l1] at h, fun _ _ _ _ _ _ _ r h => by simp [record_reader_read.j2] at h, fun _ _ _ _ _ _ _ _ r h => by simp [record_reader_read.j3] at h, fun _ _ _ _ _ _ _ _ _ _ r h => by simp [record_reader_read.l2] at h, fun _ _ _ _ _ _ _ _ _ _ _ r h => by simp [record_reader_read.l3] at h⟩
  | k + 1 => by
    obtain ⟨ih0, ih1, ih2, ih3, ih4, ih5⟩ := record_reader_read.mono_l k
    refine ⟨?_, ?_, ?_, ?_, ?_, ?_⟩
    · intro y0 y1 y2 y3 y4 y5 y6 y7 y8 y9
      unfold record_reader_read.l0
      repeat' first
      | (with_reducible exact ih0 _ _ _ _ _ _ _ _ _ _)
      | (with_reducible exact ih1 _ _ _ _ _ _ _ _ _ _ _)
      | (with_reducible exact ih2 _ _ _ _ _ _ _)
      | (with_reducible exact ih3 _ _ _ _ _ _ _ _)
      | (with_reducible exact ih4 _ _ _ _ _ _ _ _ _ _)
      | (with_reducible exact ih5 _ _ _ _ _ _ _ _ _ _ _)
      | (with_reducible exact LeO.refl _)
      | (with_reducible exact LeO.none _)
      | (with_reducible refine LeO.ite ?_ ?_)
      | (with_reducible refine LeO.bind ?_ (fun _ => ?_))
      | exact ih0 _ _ _ _ _ _ _ _ _ _
      | exact ih1 _ _ _ _ _ _ _ _ _ _ _
      | exact ih2 _ _ _ _ _ _ _
      | exact ih3 _ _ _ _ _ _ _ _
      | exact ih4 _ _ _ _ _ _ _ _ _ _
      | exact ih5 _ _ _ _ _ _ _ _ _ _ _
      | exact LeO.none _
      | refine LeO.ite ?_ ?_
      | refine LeO.bind ?_ (fun _ => ?_)
    · intro y0 y1 y2 y3 y4 y5 y6 y7 y8 y9 y10
      unfold record_reader_read.l1
      repeat' first
      | (with_reducible exact ih0 _ _ _ _ _ _ _ _ _ _)
      | (with_reducible exact ih1 _ _ _ _ _ _ _ _ _ _ _)
      | (with_reducible exact ih2 _ _ _ _ _ _ _)
      | (with_reducible exact ih3 _ _ _ _ _ _ _ _)
      | (with_reducible exact ih4 _ _ _ _ _ _ _ _ _ _)
      | (with_reducible exact ih5 _ _ _ _ _ _ _ _ _ _ _)
      | (with_reducible exact LeO.refl _)
      | (with_reducible exact LeO.none _)
      | (with_reducible refine LeO.ite ?_ ?_)
      | (with_reducible refine LeO.bind ?_ (fun _ => ?_))
      | exact ih0 _ _ _ _ _ _ _ _ _ _
      | exact ih1 _ _ _ _ _ _ _ _ _ _ _
      | exact ih2 _ _ _ _ _ _ _
      | exact ih3 _ _ _ _ _ _ _ _
      | exact ih4 _ _ _ _ _ _ _ _ _ _
      | exact ih5 _ _ _ _ _ _ _ _ _ _ _
      | exact LeO.none _
      | refine LeO.ite ?_ ?_
      | refine LeO.bind ?_ (fun _ => ?_)
    · intro y0 y1 y2 y3 y4 y5 y6
      unfold record_reader_read.j2
      repeat' first
      | (with_reducible exact ih0 _ _ _ _ _ _ _ _ _ _)
      | (with_reducible exact ih1 _ _ _ _ _ _ _ _ _ _ _)
      | (with_reducible exact ih2 _ _ _ _ _ _ _)
      | (with_reducible exact ih3 _ _ _ _ _ _ _ _)
      | (with_reducible exact ih4 _ _ _ _ _ _ _ _ _ _)
      | (with_reducible exact ih5 _ _ _ _ _ _ _ _ _ _ _)
      | (with_reducible exact LeO.refl _)
      | (with_reducible exact LeO.none _)
      | (with_reducible refine LeO.ite ?_ ?_)
      | (with_reducible refine LeO.bind ?_ (fun _ => ?_))
      | exact ih0 _ _ _ _ _ _ _ _ _ _
      | exact ih1 _ _ _ _ _ _ _ _ _ _ _
      | exact ih2 _ _ _ _ _ _ _
      | exact ih3 _ _ _ _ _ _ _ _
      | exact ih4 _ _ _ _ _ _ _ _ _ _
      | exact ih5 _ _ _ _ _ _ _ _ _ _ _
      | exact LeO.none _
      | refine LeO.ite ?_ ?_
      | refine LeO.bind ?_ (fun _ => ?_)
    · intro y0 y1 y2 y3 y4 y5 y6 y7
      unfold record_reader_read.j3
      repeat' first
      | (with_reducible exact ih0 _ _ _ _ _ _ _ _ _ _)
      | (with_reducible exact ih1 _ _ _ _ _ _ _ _ _ _ _)
      | (with_reducible exact ih2 _ _ _ _ _ _ _)
      | (with_reducible exact ih3 _ _ _ _ _ _ _ _)
      | (with_reducible exact ih4 _ _ _ _ _ _ _ _ _ _)
      | (with_reducible exact ih5 _ _ _ _ _ _ _ _ _ _ _)
      | (with_reducible exact LeO.refl _)
      | (with_reducible exact LeO.none _)
      | (with_reducible refine LeO.ite ?_ ?_)
      | (with_reducible refine LeO.bind ?_ (fun _ => ?_))
      | exact ih0 _ _ _ _ _ _ _ _ _ _
      | exact ih1 _ _ _ _ _ _ _ _ _ _ _
      | exact ih2 _ _ _ _ _ _ _
      | exact ih3 _ _ _ _ _ _ _ _
      | exact ih4 _ _ _ _ _ _ _ _ _ _
      | exact ih5 _ _ _ _ _ _ _ _ _ _ _
      | exact LeO.none _
      | refine LeO.ite ?_ ?_
      | refine LeO.bind ?_ (fun _ => ?_)
    · intro y0 y1 y2 y3 y4 y5 y6 y7 y8 y9
      unfold record_reader_read.l2
      repeat' first
      | (with_reducible exact ih0 _ _ _ _ _ _ _ _ _ _)
      | (with_reducible exact ih1 _ _ _ _ _ _ _ _ _ _ _)
      | (with_reducible exact ih2 _ _ _ _ _ _ _)
      | (with_reducible exact ih3 _ _ _ _ _ _ _ _)
      | (with_reducible exact ih4 _ _ _ _ _ _ _ _ _ _)
      | (with_reducible exact ih5 _ _ _ _ _ _ _ _ _ _ _)
      | (with_reducible exact LeO.refl _)
      | (with_reducible exact LeO.none _)
      | (with_reducible refine LeO.ite ?_ ?_)
      | (with_reducible refine LeO.bind ?_ (fun _ => ?_))
      | exact ih0 _ _ _ _ _ _ _ _ _ _
      | exact ih1 _ _ _ _ _ _ _ _ _ _ _
      | exact ih2 _ _ _ _ _ _ _
      | exact ih3 _ _ _ _ _ _ _ _
      | exact ih4 _ _ _ _ _ _ _ _ _ _
      | exact ih5 _ _ _ _ _ _ _ _ _ _ _
      | exact LeO.none _
      | refine LeO.ite ?_ ?_
      | refine LeO.bind ?_ (fun _ => ?_)
    · intro y0 y1 y2 y3 y4 y5 y6 y7 y8 y9 y10
      unfold record_reader_read.l3
      repeat' first
      | (with_reducible exact ih0 _ _ _ _ _ _ _ _ _ _)
      | (with_reducible exact ih1 _ _ _ _ _ _ _ _ _ _ _)
      | (with_reducible exact ih2 _ _ _ _ _ _ _)
      | (with_reducible exact ih3 _ _ _ _ _ _ _ _)
      | (with_reducible exact ih4 _ _ _ _ _ _ _ _ _ _)
      | (with_reducible exact ih5 _ _ _ _ _ _ _ _ _ _ _)
      | (with_reducible exact LeO.refl _)
      | (with_reducible exact LeO.none _)
      | (with_reducible refine LeO.ite ?_ ?_)
      | (with_reducible refine LeO.bind ?_ (fun _ => ?_))
      | exact ih0 _ _ _ _ _ _ _ _ _ _
      | exact ih1 _ _ _ _ _ _ _ _ _ _ _
      | exact ih2 _ _ _ _ _ _ _
      | exact ih3 _ _ _ _ _ _ _ _
      | exact ih4 _ _ _ _ _ _ _ _ _ _
      | exact ih5 _ _ _ _ _ _ _ _ _ _ _
      | exact LeO.none _
      | refine LeO.ite ?_ ?_
      | refine LeO.bind ?_ (fun _ => ?_)
theorem record_reader_read.mono : ∀ a0 k, LeO (record_reader_read.f k a0) (record_reader_read.f (k + 1) a0) := by
  intro a0 k
  obtain ⟨ih0, ih1, ih2, ih3, ih4, ih5⟩ := record_reader_read.mono_l k
  unfold record_reader_read.f
  repeat' first
      | (with_reducible exact ih0 _ _ _ _ _ _ _ _ _ _)
      | (with_reducible exact ih1 _ _ _ _ _ _ _ _ _ _ _)
      | (with_reducible exact ih2 _ _ _ _ _ _ _)
      | (with_reducible exact ih3 _ _ _ _ _ _ _ _)
      | (with_reducible exact ih4 _ _ _ _ _ _ _ _ _ _)
      | (with_reducible exact ih5 _ _ _ _ _ _ _ _ _ _ _)
      | (with_reducible exact LeO.refl _)
      | (with_reducible exact LeO.none _)
      | (with_reducible refine LeO.ite ?_ ?_)
      | (with_reducible refine LeO.bind ?_ (fun _ => ?_))
      | exact ih0 _ _ _ _ _ _ _ _ _ _
      | exact ih1 _ _ _ _ _ _ _ _ _ _ _
      | exact ih2 _ _ _ _ _ _ _
      | exact ih3 _ _ _ _ _ _ _ _
      | exact ih4 _ _ _ _ _ _ _ _ _ _
      | exact ih5 _ _ _ _ _ _ _ _ _ _ _
      | exact LeO.none _
      | refine LeO.ite ?_ ?_
      | refine LeO.bind ?_ (fun _ => ?_)
def record_reader_read.T5 : Bool × List (List Nat × List Nat) := (true, [([], []), ([0], [0]), ([], []), ([2], [2]), ([], []), ([4, 3], [4]), ([3, 5], [3, 5]), ([6], [6]), ([1, 7, 5], [1, 7]), ([0, 1, 2, 3, 4, 5, 6, 7, 8], []), ([9, 8, 8, 0, 1, 2, 3, 4, 5, 6, 7, 8], [8, 9])])
def record_reader_read.B5 : List Nat := [0, 1, 0, 4, 0, 28, 60, 124, 255, 511, 1023]
theorem record_reader_read.tab5 : rtab .any (opsOf Try.f26 5) = record_reader_read.T5 := by kernel_rfl
theorem record_reader_read.bits5 : waitsOk record_reader_read.T5.2 record_reader_read.B5 = true := by kernel_rfl
def record_reader_read.T9 : Bool × List (List Nat × List Nat) := (true, [([], []), ([0], [0]), ([], []), ([2], [2]), ([], []), ([4, 3], [4]), ([], []), ([6, 5], [6]), ([], []), ([8, 7], [8]), ([3, 5, 7, 9], [3, 5, 7, 9]), ([10], [10]), ([1, 11, 9], [1, 11]), ([0, 1, 2, 3, 4, 5, 6, 7, 8, 9, 10, 11, 12], []), ([13, 12, 12, 0, 1, 2, 3, 4, 5, 6, 7, 8, 9, 10, 11, 12], [12, 13])])
def record_reader_read.B9 : List Nat := [0, 1, 0, 4, 0, 28, 0, 124, 0, 508, 1020, 2044, 4095, 8191, 16383]
theorem record_reader_read.tab9 : rtab .any (opsOf Try.f26 9) = record_reader_read.T9 := by kernel_rfl
theorem record_reader_read.bits9 : waitsOk record_reader_read.T9.2 record_reader_read.B9 = true := by kernel_rfl
def record_reader_read.T19 : Bool × List (List Nat × List Nat) := (true, [([], []), ([0], [0]), ([], []), ([2], [2]), ([3], [3]), ([1, 4, 3], [1, 4]), ([0, 1, 2, 3, 4, 5], []), ([6, 5, 5, 0, 1, 2, 3, 4, 5], [5, 6])])
def record_reader_read.B19 : List Nat := [0, 1, 0, 4, 12, 31, 63, 127]
theorem record_reader_read.tab19 : rtab .any (opsOf Try.f26 19) = record_reader_read.T19 := by kernel_rfl
theorem record_reader_read.bits19 : waitsOk record_reader_read.T19.2 record_reader_read.B19 = true := by kernel_rfl
def record_reader_read.T23 : Bool × List (List Nat × List Nat) := (true, [([], []), ([0], [0]), ([], []), ([2], [2]), ([], []), ([4, 3], [4]), ([3, 5], [3, 5]), ([6], [6]), ([1, 7, 5], [1, 7]), ([0, 1, 2, 3, 4, 5, 6, 7, 8], []), ([9, 8, 8, 0, 1, 2, 3, 4, 5, 6, 7, 8], [8, 9])])
def record_reader_read.B23 : List Nat := [0, 1, 0, 4, 0, 28, 60, 124, 255, 511, 1023]
theorem record_reader_read.tab23 : rtab .any (opsOf Try.f26 23) = record_reader_read.T23 := by kernel_rfl
theorem record_reader_read.bits23 : waitsOk record_reader_read.T23.2 record_reader_read.B23 = true := by kernel_rfl
set_option maxHeartbeats 8000000 in
set_option maxRecDepth 100000 in
theorem record_reader_read.calls (k : Nat) (g : Nat) (s0_0 : View) (r1 : Int) (r2 : Int) (r3 : Int) (r4 : Int) (r5 : Int) (r6 : List Int) (r7 : List (S52)) (r8 : Int) (r9 : List (S54)) (r10 : List (S56)) (r11 : View) (w0 w : World) (hI : IsS66 w0 w g s0_0) (hB : Below w0.heap.size w0 w) (h : record_reader_read.f k s0_0 = some (r1, r2, r3, r4, r5, r6, r7, r8, r9, r10, r11)) :
    Calls Try.prog 26 #[.pointer (some ⟨g, 0, none⟩)] w fun e w' => ∃ v5_ v6_ v8_ v9_ : Value, e = .returned (.agg #[.int .i64 r1, .int .i64 r2, .int .i64 r3, .int .i64 r4, .int .i64 r5, v5_, v6_, .int .i64 r8, v8_, v9_]) ∧ Kd.R (Kd.int .i64) 3 w' w.heap.size (fun _ => True) v5_ r6 ∧ Kd.R k52 52 w' w.heap.size (fun _ => True) v6_ r7 ∧ Kd.R k54 54 w' w.heap.size (fun _ => True) v8_ r9 ∧ Kd.R k56 56 w' w.heap.size (fun _ => True) v9_ r10 ∧ IsS66 w0 w' g r11 ∧ Below w0.heap.size w0 w' ∧ KeepBut w w' g none := by
  have hu30 := Try.underlying30
  have hu54 := Try.underlying54
  have hu56 := Try.underlying56
  have hu52 := Try.underlying52
  have HI0 := Aside0.mk hI
  have HK := Aside0.mk (KeepBut.refl w g none)
  have HL := Aside0.mk hB.size
  clear hI
  have HW0 := Aside0.mk hB.size
  have HB := Aside0.mk hB
  clear hB
  have H : ((record_reader_num.f s0_0).bind fun bt258 => (if bt258.1 = 5 then ((record_reader_count.f bt258.2 2).bind fun bt261 => (record_reader_read.l0 k bt261.1 0 bt261.2 bt258.1 0 0 0 0 0 ([] : List (S54)))) else ((record_reader_num.f bt258.2).bind fun bt283 => ((record_reader_num.f bt283.2).bind fun bt285 => (if bt258.1 = 2 then ((record_reader_num.f bt285.2).bind fun bt287 => (record_reader_read.j2 k bt287.2 bt258.1 bt283.1 bt285.1 0 0 bt287.1)) else (record_reader_read.j2 k bt285.2 bt258.1 bt283.1 bt285.1 0 0 0)))))) = some (r1, r2, r3, r4, r5, r6, r7, r8, r9, r10, r11) := h
  clear h
  replace H := Option.bind_eq_some_iff.mp H
  obtain ⟨⟨t258, t259⟩, A20, H⟩ := H
  replace H : (if t258 = 5 then ((record_reader_count.f t259 2).bind fun bt261 => (record_reader_read.l0 k bt261.1 0 bt261.2 t258 0 0 0 0 0 ([] : List (S54)))) else ((record_reader_num.f t259).bind fun bt283 => ((record_reader_num.f bt283.2).bind fun bt285 => (if t258 = 2 then ((record_reader_num.f bt285.2).bind fun bt287 => (record_reader_read.j2 k bt287.2 t258 bt283.1 bt285.1 0 0 bt287.1)) else (record_reader_read.j2 k bt285.2 t258 bt283.1 bt285.1 0 0 0))))) = some (r1, r2, r3, r4, r5, r6, r7, r8, r9, r10, r11) := H
  have A2 := Aside0.mk A20
  clear A20
  by_cases c3 : t258 = 5
  · rw [if_pos c3] at H
    have c3b0 : (t258 == 5) = true := beq_iff_eq.mpr c3
    have c3b1 : (t258 != 5) = false := bne_eq_false_iff_eq.mpr c3
    clear c3
    replace H := Option.bind_eq_some_iff.mp H
    obtain ⟨⟨t261, t262⟩, A40, H⟩ := H
    replace H : (record_reader_read.l0 k t261 0 t262 t258 0 0 0 0 0 ([] : List (S54))) = some (r1, r2, r3, r4, r5, r6, r7, r8, r9, r10, r11) := H
    have A4 := Aside0.mk A40
    clear A40
    have H' := Aside0.mk H
    clear H
    go_enter Try.func26, Try.ntmps26
    go_wp2_with (first | ((with_reducible refine gate_dst (N := 2) rfl ?_); refine box_event ?hg (N := 2) ?hd (cs := #[.int .i64 0, .int .i64 0, .int .i64 0, .int .i64 0, .int .i64 0, .slice none 0 0, .slice none 0 0, .int .i64 0, .slice none 0 0, .slice none 0 0]) (t := 30) ?hr ?_; (case hd => rfl); (case hg => rfl); (case hr => first | (go_simp; done) | (go_simp; rfl)); intro gb257 hg w5 hbox hb; have n0_ := Aside0.mk (IsS66.below (by repeat (first | (with_reducible first | exact HI0.out | apply IsS66.alloc | apply IsS66.drewN | apply IsS66.drew | apply IsS66.set_0) | exact HI0.out)) hb); have n1_ := Aside0.mk (KeepBut.trans (by repeat (first | (with_reducible first | exact HK.out | apply KeepBut.set_ | apply keep_drewN | apply keep_drew | apply keep_alloc) | exact HK.out)) (KeepBut.of_below hb g none) (.inl rfl)); have n2_ := Aside0.mk (below_step (by repeat (first | (with_reducible first | exact HB.out | apply below_alloc | apply pw_below_drewN | apply below_drew1 | refine below_set ?_ (IsS66.ge HI0.out)) | exact HB.out)) hb); have n3_ := Aside0.mk (hbox); have n4_ := Aside0.mk ((by rw [hg]; exact (keep_size (w := w) (g := g) (row := none) (by repeat (first | (with_reducible first | exact HK.out | apply KeepBut.set_ | apply keep_drewN | apply keep_drew | apply keep_alloc) | exact HK.out))) : w.heap.size ≤ gb257)); have n5_ := Aside0.mk ((Nat.le_trans HW0.out (by rw [hg]; exact (keep_size (w := w) (g := g) (row := none) (by repeat (first | (with_reducible first | exact HK.out | apply KeepBut.set_ | apply keep_drewN | apply keep_drew | apply keep_alloc) | exact HK.out))) : w.heap.size ≤ gb257) : w0.heap.size ≤ gb257)); have n6_ := Aside0.mk ((by rw [hg]; exact Nat.ne_of_lt (IsS66.lt (show IsS66 w0 _ g s0_0 from by repeat (first | (with_reducible first | exact HI0.out | apply IsS66.alloc | apply IsS66.drewN | apply IsS66.drew | apply IsS66.set_0) | exact HI0.out))) : g ≠ gb257)); have n7_ := Aside0.mk ((by rw [hg]; exact Nat.ne_of_gt (IsS66.lt (show IsS66 w0 _ g s0_0 from by repeat (first | (with_reducible first | exact HI0.out | apply IsS66.alloc | apply IsS66.drewN | apply IsS66.drew | apply IsS66.set_0) | exact HI0.out))) : gb257 ≠ g)); clear HI0; clear HK; clear HB; have HI0 := n0_; have HK := n1_; have HB := n2_; have BK257 := n3_; have GW257 := n4_; have GE257 := n5_; have NB0_257 := n6_; have NB257_0 := n7_; clear n0_ n1_ n2_ n3_ n4_ n5_ n6_ n7_; clear hb hbox hg) | ((with_reducible refine gate_callee (f := 40) rfl ?_); refine goesL_ (some 5) rfl rfl Try.func40 (by kernel_rfl) rfl #[.pointer (some ⟨g, 0, none⟩)] rfl (by (try simp only [List.map_toArray, List.map_cons, List.map_nil]); first | done | rfl | (simp only [List.length_drop, List.length_take]; rfl)) ?_; (with_reducible refine (record_reader_num.calls g s0_0 t258 t259 w0 _ ?side1 ?side2 A2.out).mono ?_); (case side1 => repeat (first | (with_reducible first | exact HI0.out | apply IsS66.alloc | apply IsS66.drewN | apply IsS66.drew | apply IsS66.set_0 | refine IsS66.far ?_ NB0_257.out _) | exact HI0.out)); (case side2 => repeat (first | (with_reducible first | exact HB.out | apply below_alloc | apply pw_below_drewN | apply below_drew1 | refine below_set ?_ (IsS66.ge HI0.out) | refine below_set ?_ GE257.out) | exact HB.out)); rintro e w6 ⟨rfl, hi, hb, hk⟩; refine ⟨_, rfl, ?_⟩; have n0_ := Aside0.mk (KeepBut.blk hk (g' := gb257) (o := .cells #[.int .i64 0, .int .i64 0, .int .i64 0, .int .i64 0, .int .i64 0, .slice none 0 0, .slice none 0 0, .int .i64 0, .slice none 0 0, .slice none 0 0] 30 (0, 0)) (by (with_reducible repeat (first | refine blk_drewN ?_ _ | refine blk_drew ?_ | refine blk_alloc ?_ _)); exact BK257.out) NB257_0.out (by simp)); have n1_ := Aside0.mk (KeepBut.trans (by repeat (first | (with_reducible first | exact HK.out | apply KeepBut.set_ | apply keep_drewN | apply keep_drew | apply keep_alloc | refine keep_far ?_ GW257.out _) | exact HK.out)) hk (.inl rfl)); have n2_ := Aside0.mk (hb); have n3_ := Aside0.mk (hi); clear BK257; clear HK; clear HB; clear HI0; have BK257 := n0_; have HK := n1_; have HB := n2_; have HI0 := n3_; clear n0_ n1_ n2_ n3_; (try clear hb); (try clear hb2); (try clear hk); (try clear hi)) | ((with_reducible refine gate_dst (N := 3) rfl ?_); refine box_event ?hg (N := 3) ?hd (cs := #[.int .i64 0, .int .i64 0, .int .i64 0, .int .i64 0, .int .i64 0, .slice none 0 0, .slice none 0 0, .int .i64 0, .slice none 0 0, .slice none 0 0]) (t := 30) ?hr ?_; (case hd => rfl); (case hg => rfl); (case hr => first | (go_simp; done) | (go_simp; rfl)); intro gb260 hg w7 hbox hb; have n0_ := Aside0.mk (IsS66.below (by repeat (first | (with_reducible first | exact HI0.out | apply IsS66.alloc | apply IsS66.drewN | apply IsS66.drew | apply IsS66.set_0 | refine IsS66.far ?_ NB0_257.out _) | exact HI0.out)) hb); have n1_ := Aside0.mk (blk_below (g := gb257) (o := .cells #[.int .i64 0, .int .i64 0, .int .i64 0, .int .i64 0, .int .i64 0, .slice none 0 0, .slice none 0 0, .int .i64 0, .slice none 0 0, .slice none 0 0] 30 (0, 0)) (by (with_reducible repeat (first | refine blk_drewN ?_ _ | refine blk_drew ?_ | refine blk_alloc ?_ _)); exact BK257.out) hb); have n2_ := Aside0.mk (KeepBut.trans (by repeat (first | (with_reducible first | exact HK.out | apply KeepBut.set_ | apply keep_drewN | apply keep_drew | apply keep_alloc | refine keep_far ?_ GW257.out _) | exact HK.out)) (KeepBut.of_below hb g none) (.inl rfl)); have n3_ := Aside0.mk (below_step (by repeat (first | (with_reducible first | exact HB.out | apply below_alloc | apply pw_below_drewN | apply below_drew1 | refine below_set ?_ (IsS66.ge HI0.out) | refine below_set ?_ GE257.out) | exact HB.out)) hb); have n4_ := Aside0.mk (hbox); have n5_ := Aside0.mk ((by rw [hg]; exact (keep_size (w := w) (g := g) (row := none) (by repeat (first | (with_reducible first | exact HK.out | apply KeepBut.set_ | apply keep_drewN | apply keep_drew | apply keep_alloc | refine keep_far ?_ GW257.out _) | exact HK.out))) : w.heap.size ≤ gb260)); have n6_ := Aside0.mk ((Nat.le_trans HW0.out (by rw [hg]; exact (keep_size (w := w) (g := g) (row := none) (by repeat (first | (with_reducible first | exact HK.out | apply KeepBut.set_ | apply keep_drewN | apply keep_drew | apply keep_alloc | refine keep_far ?_ GW257.out _) | exact HK.out))) : w.heap.size ≤ gb260) : w0.heap.size ≤ gb260)); have n7_ := Aside0.mk ((by rw [hg]; exact Nat.ne_of_lt (blk_lt (g := gb257) (o := .cells #[.int .i64 0, .int .i64 0, .int .i64 0, .int .i64 0, .int .i64 0, .slice none 0 0, .slice none 0 0, .int .i64 0, .slice none 0 0, .slice none 0 0] 30 (0, 0)) (by (with_reducible repeat (first | refine blk_drewN ?_ _ | refine blk_drew ?_ | refine blk_alloc ?_ _)); exact BK257.out)) : gb257 ≠ gb260)); have n8_ := Aside0.mk ((by rw [hg]; exact Nat.ne_of_gt (blk_lt (g := gb257) (o := .cells #[.int .i64 0, .int .i64 0, .int .i64 0, .int .i64 0, .int .i64 0, .slice none 0 0, .slice none 0 0, .int .i64 0, .slice none 0 0, .slice none 0 0] 30 (0, 0)) (by (with_reducible repeat (first | refine blk_drewN ?_ _ | refine blk_drew ?_ | refine blk_alloc ?_ _)); exact BK257.out)) : gb260 ≠ gb257)); have n9_ := Aside0.mk ((by rw [hg]; exact Nat.ne_of_lt (IsS66.lt (show IsS66 w0 _ g t259 from by repeat (first | (with_reducible first | exact HI0.out | apply IsS66.alloc | apply IsS66.drewN | apply IsS66.drew | apply IsS66.set_0 | refine IsS66.far ?_ NB0_257.out _) | exact HI0.out))) : g ≠ gb260)); have n10_ := Aside0.mk ((by rw [hg]; exact Nat.ne_of_gt (IsS66.lt (show IsS66 w0 _ g t259 from by repeat (first | (with_reducible first | exact HI0.out | apply IsS66.alloc | apply IsS66.drewN | apply IsS66.drew | apply IsS66.set_0 | refine IsS66.far ?_ NB0_257.out _) | exact HI0.out))) : gb260 ≠ g)); clear HI0; clear BK257; clear HK; clear HB; have HI0 := n0_; have BK257 := n1_; have HK := n2_; have HB := n3_; have BK260 := n4_; have GW260 := n5_; have GE260 := n6_; have NB257_260 := n7_; have NB260_257 := n8_; have NB0_260 := n9_; have NB260_0 := n10_; clear n0_ n1_ n2_ n3_ n4_ n5_ n6_ n7_ n8_ n9_ n10_; clear hb hbox hg; have hnb8 := NB260_257.out; have hnc8 := NB257_260.out; have hnb9 := NB260_0.out; have hnc9 := NB0_260.out; have hcz10_0 : w7.cell? ⟨gb260, 0, none⟩ = some (.int .i64 0) := (blk_cell BK260.out 0).trans rfl; have hcz10_1 : w7.cell? ⟨gb260, 1, none⟩ = some (.int .i64 0) := (blk_cell BK260.out 1).trans rfl; have hcz10_2 : w7.cell? ⟨gb260, 2, none⟩ = some (.int .i64 0) := (blk_cell BK260.out 2).trans rfl; have hcz10_3 : w7.cell? ⟨gb260, 3, none⟩ = some (.int .i64 0) := (blk_cell BK260.out 3).trans rfl; have hcz10_4 : w7.cell? ⟨gb260, 4, none⟩ = some (.int .i64 0) := (blk_cell BK260.out 4).trans rfl; have hcz10_5 : w7.cell? ⟨gb260, 5, none⟩ = some (.slice none 0 0) := (blk_cell BK260.out 5).trans rfl; have hcz10_6 : w7.cell? ⟨gb260, 6, none⟩ = some (.slice none 0 0) := (blk_cell BK260.out 6).trans rfl; have hcz10_7 : w7.cell? ⟨gb260, 7, none⟩ = some (.int .i64 0) := (blk_cell BK260.out 7).trans rfl; have hcz10_8 : w7.cell? ⟨gb260, 8, none⟩ = some (.slice none 0 0) := (blk_cell BK260.out 8).trans rfl; have hcz10_9 : w7.cell? ⟨gb260, 9, none⟩ = some (.slice none 0 0) := (blk_cell BK260.out 9).trans rfl; have hfz10_0 := blk_frozen BK260.out 0; have hfz10_1 := blk_frozen BK260.out 1; have hfz10_2 := blk_frozen BK260.out 2; have hfz10_3 := blk_frozen BK260.out 3; have hfz10_4 := blk_frozen BK260.out 4; have hfz10_5 := blk_frozen BK260.out 5; have hfz10_6 := blk_frozen BK260.out 6; have hfz10_7 := blk_frozen BK260.out 7; have hfz10_8 := blk_frozen BK260.out 8; have hfz10_9 := blk_frozen BK260.out 9) | ((with_reducible refine gate_callee (f := 41) rfl ?_); refine goesL_ (some 11) rfl rfl Try.func41 (by kernel_rfl) rfl #[.pointer (some ⟨g, 0, none⟩), .int .i64 2] rfl (by (try simp only [List.map_toArray, List.map_cons, List.map_nil]); first | done | rfl | (simp only [List.length_drop, List.length_take]; rfl)) ?_; (with_reducible refine (record_reader_count.calls g t259 2 t261 t262 w0 _ ?side1 ?side2 A4.out).mono ?_); (case side1 => repeat (first | (with_reducible first | exact HI0.out | apply IsS66.alloc | apply IsS66.drewN | apply IsS66.drew | apply IsS66.set_0 | refine IsS66.far ?_ NB0_257.out _ | refine IsS66.far ?_ NB0_260.out _) | exact HI0.out)); (case side2 => repeat (first | (with_reducible first | exact HB.out | apply below_alloc | apply pw_below_drewN | apply below_drew1 | refine below_set ?_ (IsS66.ge HI0.out) | refine below_set ?_ GE257.out | refine below_set ?_ GE260.out) | exact HB.out)); rintro e w11 ⟨rfl, hi, hb, hk⟩; refine ⟨_, rfl, ?_⟩; have n0_ := Aside0.mk (KeepBut.blk hk (g' := gb257) (o := .cells #[.int .i64 0, .int .i64 0, .int .i64 0, .int .i64 0, .int .i64 0, .slice none 0 0, .slice none 0 0, .int .i64 0, .slice none 0 0, .slice none 0 0] 30 (0, 0)) (by (with_reducible repeat (first | refine blk_drewN ?_ _ | refine blk_drew ?_ | refine blk_alloc ?_ _)); refine blk_far ?_ NB257_260.out _; (with_reducible repeat (first | refine blk_drewN ?_ _ | refine blk_drew ?_ | refine blk_alloc ?_ _)); refine blk_far ?_ NB257_260.out _; (with_reducible repeat (first | refine blk_drewN ?_ _ | refine blk_drew ?_ | refine blk_alloc ?_ _)); refine blk_far ?_ NB257_260.out _; (with_reducible repeat (first | refine blk_drewN ?_ _ | refine blk_drew ?_ | refine blk_alloc ?_ _)); refine blk_far ?_ NB257_260.out _; (with_reducible repeat (first | refine blk_drewN ?_ _ | refine blk_drew ?_ | refine blk_alloc ?_ _)); refine blk_far ?_ NB257_260.out _; (with_reducible repeat (first | refine blk_drewN ?_ _ | refine blk_drew ?_ | refine blk_alloc ?_ _)); refine blk_far ?_ NB257_260.out _; (with_reducible repeat (first | refine blk_drewN ?_ _ | refine blk_drew ?_ | refine blk_alloc ?_ _)); refine blk_far ?_ NB257_260.out _; (with_reducible repeat (first | refine blk_drewN ?_ _ | refine blk_drew ?_ | refine blk_alloc ?_ _)); refine blk_far ?_ NB257_260.out _; (with_reducible repeat (first | refine blk_drewN ?_ _ | refine blk_drew ?_ | refine blk_alloc ?_ _)); refine blk_far ?_ NB257_260.out _; (with_reducible repeat (first | refine blk_drewN ?_ _ | refine blk_drew ?_ | refine blk_alloc ?_ _)); refine blk_far ?_ NB257_260.out _; (with_reducible repeat (first | refine blk_drewN ?_ _ | refine blk_drew ?_ | refine blk_alloc ?_ _)); exact BK257.out) NB257_0.out (by simp)); have n1_ := Aside0.mk (KeepBut.blk hk (g' := gb260) (o := .cells #[.int .i64 t258, .int .i64 0, .int .i64 0, .int .i64 0, .int .i64 0, .slice none 0 0, .slice none 0 0, .int .i64 0, .slice none 0 0, .slice none 0 0] 30 (0, 0)) (by (with_reducible repeat (first | refine blk_drewN ?_ _ | refine blk_drew ?_ | refine blk_alloc ?_ _)); refine blk_put (cs := #[.int .i64 t258, .int .i64 0, .int .i64 0, .int .i64 0, .int .i64 0, .slice none 0 0, .slice none 0 0, .int .i64 0, .slice none 0 0, .slice none 0 0]) ?_ 9 _ rfl; (with_reducible repeat (first | refine blk_drewN ?_ _ | refine blk_drew ?_ | refine blk_alloc ?_ _)); refine blk_put (cs := #[.int .i64 t258, .int .i64 0, .int .i64 0, .int .i64 0, .int .i64 0, .slice none 0 0, .slice none 0 0, .int .i64 0, .slice none 0 0, .slice none 0 0]) ?_ 8 _ rfl; (with_reducible repeat (first | refine blk_drewN ?_ _ | refine blk_drew ?_ | refine blk_alloc ?_ _)); refine blk_put (cs := #[.int .i64 t258, .int .i64 0, .int .i64 0, .int .i64 0, .int .i64 0, .slice none 0 0, .slice none 0 0, .int .i64 0, .slice none 0 0, .slice none 0 0]) ?_ 7 _ rfl; (with_reducible repeat (first | refine blk_drewN ?_ _ | refine blk_drew ?_ | refine blk_alloc ?_ _)); refine blk_put (cs := #[.int .i64 t258, .int .i64 0, .int .i64 0, .int .i64 0, .int .i64 0, .slice none 0 0, .slice none 0 0, .int .i64 0, .slice none 0 0, .slice none 0 0]) ?_ 6 _ rfl; (with_reducible repeat (first | refine blk_drewN ?_ _ | refine blk_drew ?_ | refine blk_alloc ?_ _)); refine blk_put (cs := #[.int .i64 t258, .int .i64 0, .int .i64 0, .int .i64 0, .int .i64 0, .slice none 0 0, .slice none 0 0, .int .i64 0, .slice none 0 0, .slice none 0 0]) ?_ 5 _ rfl; (with_reducible repeat (first | refine blk_drewN ?_ _ | refine blk_drew ?_ | refine blk_alloc ?_ _)); refine blk_put (cs := #[.int .i64 t258, .int .i64 0, .int .i64 0, .int .i64 0, .int .i64 0, .slice none 0 0, .slice none 0 0, .int .i64 0, .slice none 0 0, .slice none 0 0]) ?_ 4 _ rfl; (with_reducible repeat (first | refine blk_drewN ?_ _ | refine blk_drew ?_ | refine blk_alloc ?_ _)); refine blk_put (cs := #[.int .i64 t258, .int .i64 0, .int .i64 0, .int .i64 0, .int .i64 0, .slice none 0 0, .slice none 0 0, .int .i64 0, .slice none 0 0, .slice none 0 0]) ?_ 3 _ rfl; (with_reducible repeat (first | refine blk_drewN ?_ _ | refine blk_drew ?_ | refine blk_alloc ?_ _)); refine blk_put (cs := #[.int .i64 t258, .int .i64 0, .int .i64 0, .int .i64 0, .int .i64 0, .slice none 0 0, .slice none 0 0, .int .i64 0, .slice none 0 0, .slice none 0 0]) ?_ 2 _ rfl; (with_reducible repeat (first | refine blk_drewN ?_ _ | refine blk_drew ?_ | refine blk_alloc ?_ _)); refine blk_put (cs := #[.int .i64 t258, .int .i64 0, .int .i64 0, .int .i64 0, .int .i64 0, .slice none 0 0, .slice none 0 0, .int .i64 0, .slice none 0 0, .slice none 0 0]) ?_ 1 _ rfl; (with_reducible repeat (first | refine blk_drewN ?_ _ | refine blk_drew ?_ | refine blk_alloc ?_ _)); refine blk_put (cs := #[.int .i64 0, .int .i64 0, .int .i64 0, .int .i64 0, .int .i64 0, .slice none 0 0, .slice none 0 0, .int .i64 0, .slice none 0 0, .slice none 0 0]) ?_ 0 _ rfl; (with_reducible repeat (first | refine blk_drewN ?_ _ | refine blk_drew ?_ | refine blk_alloc ?_ _)); exact BK260.out) NB260_0.out (by simp)); have n2_ := Aside0.mk (KeepBut.trans (by repeat (first | (with_reducible first | exact HK.out | apply KeepBut.set_ | apply keep_drewN | apply keep_drew | apply keep_alloc | refine keep_far ?_ GW257.out _ | refine keep_far ?_ GW260.out _) | exact HK.out)) hk (.inl rfl)); have n3_ := Aside0.mk (hb); have n4_ := Aside0.mk (hi); clear BK257; clear BK260; clear HK; clear HB; clear HI0; have BK257 := n0_; have BK260 := n1_; have HK := n2_; have HB := n3_; have HI0 := n4_; clear n0_ n1_ n2_ n3_ n4_; (try clear hb); (try clear hb2); (try clear hk); (try clear hi)))
    go_loopg [12] k (fun kq v12 w' => ∃ (x12_1 : Int) (x1000_1 : View) (x261008_1 : List (S54)) (u261008 : Value), v12 = .int .i64 x12_1 ∧ Aside0 (record_reader_read.l0 kq t261 x12_1 x1000_1 t258 0 0 0 0 0 x261008_1 = some (r1, r2, r3, r4, r5, r6, r7, r8, r9, r10, r11)) ∧ Aside0 (kq ≤ k) ∧ Aside0 (Kd.R k54 54 w' w.heap.size (fun _ => True) u261008 x261008_1) ∧ Aside0 (w'.heap[gb257]? = some (.cells #[.int .i64 0, .int .i64 0, .int .i64 0, .int .i64 0, .int .i64 0, (.slice none 0 0), (.slice none 0 0), .int .i64 0, (.slice none 0 0), (.slice none 0 0)] 30 (0, 0))) ∧ Aside0 (w'.heap[gb260]? = some (.cells #[.int .i64 t258, .int .i64 0, .int .i64 0, .int .i64 0, .int .i64 0, (.slice none 0 0), (.slice none 0 0), .int .i64 0, u261008, (.slice none 0 0)] 30 (0, 0))) ∧ Aside0 (IsS66 w0 w' g x1000_1) ∧ Aside0 (KeepBut w w' g none) ∧ Aside0 (Below w0.heap.size w0 w'))
    case atStart => exact ⟨(0), (t262), (([] : List (S54))), (.slice none 0 0), (by first | rfl | (simp; done) | (simp [*]; done)), H', ⟨Nat.le_refl _⟩, ⟨by first | exact Kd.R_nil _ _ _ _ _ | exact Kd.N_nil _ _ _ _ _ | exact Kd.V_nil _ _ _ _ _ | exact Kd.Q_nil _ _ _ _ _ | exact Kd.S_nil _ _ _ _ _⟩, ⟨by (with_reducible repeat (first | refine blk_drewN ?_ _ | refine blk_drew ?_ | refine blk_alloc ?_ _)); exact BK257.out⟩, ⟨by (with_reducible repeat (first | refine blk_drewN ?_ _ | refine blk_drew ?_ | refine blk_alloc ?_ _)); exact BK260.out⟩, ⟨by repeat (first | (with_reducible first | exact HI0.out | apply IsS66.alloc | apply IsS66.drewN | apply IsS66.drew | apply IsS66.set_0 | refine IsS66.far ?_ NB0_257.out _ | refine IsS66.far ?_ NB0_260.out _) | exact HI0.out)⟩, ⟨by repeat (first | (with_reducible first | exact HK.out | apply KeepBut.set_ | apply keep_drewN | apply keep_drew | apply keep_alloc | refine keep_far ?_ GW257.out _ | refine keep_far ?_ GW260.out _) | exact HK.out)⟩, ⟨by repeat (first | (with_reducible first | exact HB.out | apply below_alloc | apply pw_below_drewN | apply below_drew1 | refine below_set ?_ (IsS66.ge HI0.out) | refine below_set ?_ GE257.out | refine below_set ?_ GE260.out) | exact HB.out)⟩⟩
    case round =>
      clear H'
      try clear c2
      try clear p2
      try clear c3
      try clear c3b0
      try clear c3b1
      try clear c4
      try clear c8
      try clear c9
      try clear hcz10_0
      try clear hcz10_1
      try clear hcz10_2
      try clear hcz10_3
      try clear hcz10_4
      try clear hcz10_5
      try clear hcz10_6
      try clear hcz10_7
      try clear hcz10_8
      try clear hcz10_9
      try clear hfz10_0
      try clear hfz10_1
      try clear hfz10_2
      try clear hfz10_3
      try clear hfz10_4
      try clear hfz10_5
      try clear hfz10_6
      try clear hfz10_7
      try clear hfz10_8
      try clear hfz10_9
      obtain ⟨x12_1, x1000_1, x261008_1, u261008, rfl, HA, HK1, HO_261008, BK257, BK260, HI0, HK, HB⟩ := hrel
      cases gk with
      | zero => exact absurd HA.out (by simp [record_reader_read.l0])
      | succ k1 =>
        have H := HA.out
        clear HA
        simp only [record_reader_read.l0] at H
        by_cases c12 : x12_1 < t261
        · rw [if_pos c12] at H
          have c12b0 : decide (x12_1 < t261) = true := decide_eq_true c12
          clear c12
          replace H := Option.bind_eq_some_iff.mp H
          obtain ⟨⟨t263, t264⟩, A130, H⟩ := H
          replace H : ((record_reader_num.f t264).bind fun bt265 => (if x261008_1.length < 8796093022208 then (record_reader_read.l0 k1 t261 (wrap64 (x12_1 + 1)) bt265.2 t258 0 0 0 0 0 (x261008_1 ++ [(⟨t263, bt265.1⟩ : S54)])) else (none))) = some (r1, r2, r3, r4, r5, r6, r7, r8, r9, r10, r11) := H
          have A13 := Aside0.mk A130
          clear A130
          replace H := Option.bind_eq_some_iff.mp H
          obtain ⟨⟨t265, t266⟩, A140, H⟩ := H
          replace H : (if x261008_1.length < 8796093022208 then (record_reader_read.l0 k1 t261 (wrap64 (x12_1 + 1)) t266 t258 0 0 0 0 0 (x261008_1 ++ [(⟨t263, t265⟩ : S54)])) else (none)) = some (r1, r2, r3, r4, r5, r6, r7, r8, r9, r10, r11) := H
          have A14 := Aside0.mk A140
          clear A140
          by_cases c15 : x261008_1.length < 8796093022208
          · rw [if_pos c15] at H
            have LMc15 := Aside0.mk c15
            clear c15
            obtain ⟨y267, hy267⟩ : ∃ y_ : List (S54), y_ = (x261008_1 ++ [(⟨t263, t265⟩ : S54)]) := ⟨_, rfl⟩
            replace H : (record_reader_read.l0 k1 t261 (wrap64 (x12_1 + 1)) t266 t258 0 0 0 0 0 y267) = some (r1, r2, r3, r4, r5, r6, r7, r8, r9, r10, r11) := by first | (rw [hy267]; with_reducible exact H) | (have H2_ := (Option.bind_some _ _).symm.trans H; rw [hy267]; with_reducible exact H2_) | (have H2_ := (Option.bind_some _ _).symm.trans H; with_reducible exact H2_) | with_reducible exact H | (rw [hy267]; exact H) | exact H
            have Ny267 := Aside0.mk hy267
            clear hy267
            have H' := Aside0.mk H
            clear H
            try go_wp2
            have n0_ := Aside0.mk (Kd.R_drew HO_261008.out)
            have n1_ := Aside0.mk (blk_drew BK257.out)
            have n2_ := Aside0.mk (blk_drew BK260.out)
            have n3_ := Aside0.mk (IsS66.drew HI0.out)
            have n4_ := Aside0.mk (keep_drew HK.out)
            have n5_ := Aside0.mk (below_drew1 HB.out)
            clear HO_261008
            clear BK257
            clear BK260
            clear HI0
            clear HK
            clear HB
            have HO_261008 := n0_
            have BK257 := n1_
            have BK260 := n2_
            have HI0 := n3_
            have HK := n4_
            have HB := n5_
            clear n0_ n1_ n2_ n3_ n4_ n5_
            refine start_ (n := 11) (S := fun w' => w'.cell? ⟨gb260, 0, none⟩ = some (.int .i64 t258) ∧ w'.cell? ⟨gb260, 1, none⟩ = some (.int .i64 0) ∧ w'.cell? ⟨gb260, 2, none⟩ = some (.int .i64 0) ∧ w'.cell? ⟨gb260, 3, none⟩ = some (.int .i64 0) ∧ w'.cell? ⟨gb260, 4, none⟩ = some (.int .i64 0) ∧ w'.cell? ⟨gb260, 5, none⟩ = some (.slice none 0 0) ∧ w'.cell? ⟨gb260, 6, none⟩ = some (.slice none 0 0) ∧ w'.cell? ⟨gb260, 7, none⟩ = some (.int .i64 0) ∧ w'.cell? ⟨gb260, 8, none⟩ = some (u261008) ∧ w'.cell? ⟨gb260, 9, none⟩ = some (.slice none 0 0)) (ds := [10]) #[false, false, false, false, false, false, false, false, false, false, false] (by kernel_rfl) rfl rfl ⟨(blk_cell BK260.out 0).trans rfl, (blk_cell BK260.out 1).trans rfl, (blk_cell BK260.out 2).trans rfl, (blk_cell BK260.out 3).trans rfl, (blk_cell BK260.out 4).trans rfl, (blk_cell BK260.out 5).trans rfl, (blk_cell BK260.out 6).trans rfl, (blk_cell BK260.out 7).trans rfl, (blk_cell BK260.out 8).trans rfl, (blk_cell BK260.out 9).trans rfl⟩ (fun hHeld => ?_); refine with_tabW record_reader_read.tab5 record_reader_read.bits5 (fun HT_ HW_ => ?_)
            generalize wr.drew = w16 at HO_261008 BK257 BK260 HI0 HK HB hHeld ⊢
            refine pure_ (i := 0) (N := some 14) (v := ?_) (a' := ?_) #[true, false, false, false, false, false, false, false, false, false, false] rfl rfl (any_of HT_.out (by kernel_rfl)) (fun _ _ _ h => h) (Or.inl ⟨by rfl, ?_⟩) ?_ ?_
            rotate_left
            · intro w'
              go_simp
              with_reducible rfl
            rotate_left
            · simp only [Act.put, List.setIfInBounds_toArray, List.set_cons_zero, List.set_cons_succ, i64_w, i32_w]
              rfl
            refine pure_ (i := 2) (N := some 16) (v := ?_) (a' := ?_) #[true, false, true, false, false, false, false, false, false, false, false] rfl rfl (any_of HT_.out (by kernel_rfl)) (fun _ _ _ h => h) (Or.inl ⟨by rfl, ?_⟩) ?_ ?_
            rotate_left
            · intro w'
              go_simp
              with_reducible rfl
            rotate_left
            · simp only [Act.put, List.setIfInBounds_toArray, List.set_cons_zero, List.set_cons_succ, i64_w, i32_w]
              rfl
            refine pure_ (i := 4) (N := some 18) (v := ?_) (a' := ?_) #[true, false, true, false, true, false, false, false, false, false, false] rfl rfl (any_of HT_.out (by kernel_rfl)) (fun _ _ _ h => h) (Or.inl ⟨by rfl, ?_⟩) ?_ ?_
            rotate_left
            · intro w'
              go_simp
              with_reducible rfl
            rotate_left
            · simp only [Act.put, List.setIfInBounds_toArray, List.set_cons_zero, List.set_cons_succ, i64_w, i32_w]
              rfl
            refine take_ (i := 1) (N := some 15) (v := ?_) (a' := ?_) #[true, true, true, false, true, false, false, false, false, false, false] rfl rfl (take_ofW HT_.out HW_.out (by kernel_rfl)) (fun _ _ _ h => h) (Or.inl ⟨by rfl, ?_⟩) hHeld ?_ ?_
            rotate_left
            · rintro w' ⟨s0, s1, s2, s3, s4, s5, s6, s7, s8, s9⟩
              go_simp
              with_reducible rfl
            rotate_left
            · simp only [Act.put, List.setIfInBounds_toArray, List.set_cons_zero, List.set_cons_succ, i64_w, i32_w]
              rfl
            refine one_ (i := 3) (N := some 17) #[true, true, true, true, true, false, false, false, false, false, false] rfl rfl (one_of HT_.out (by kernel_rfl)) (by decide) (fun K hK => ?_)
            refine goes_ Try.func40 (by kernel_rfl) rfl #[.pointer (some ⟨g, 0, none⟩)] (by rfl) rfl rfl (by (try simp only [List.map_toArray, List.map_cons, List.map_nil]); first | done | rfl | (simp only [List.length_drop, List.length_take]; rfl)) ?_
            with_reducible refine (record_reader_num.calls g x1000_1 t263 t264 w0 _ ?side1 ?side2 A13.out).mono ?_
            (case side1 => repeat (first | (with_reducible first | exact HI0.out | apply IsS66.alloc | apply IsS66.drewN | apply IsS66.drew | apply IsS66.set_0 | refine IsS66.far ?_ NB0_257.out _ | refine IsS66.far ?_ NB0_260.out _) | exact HI0.out))
            (case side2 => repeat (first | (with_reducible first | exact HB.out | apply below_alloc | apply pw_below_drewN | apply below_drew1 | refine below_set ?_ (IsS66.ge HI0.out) | refine below_set ?_ GE257.out | refine below_set ?_ GE260.out) | exact HB.out))
            rintro e w17 ⟨rfl, hi, hb, hk⟩
            refine ⟨_, rfl, ?_⟩
            have n0_ := Aside0.mk (Kd.R_mono (Kd.R_keep (IsS66.apart (show IsS66 w0 _ g x1000_1 from by repeat (first | (with_reducible first | exact HI0.out | apply IsS66.alloc | apply IsS66.drewN | apply IsS66.drew | apply IsS66.set_0 | refine IsS66.far ?_ NB0_257.out _ | refine IsS66.far ?_ NB0_260.out _) | exact HI0.out)) (by (with_reducible repeat (first | apply Kd.R_alloc | apply Kd.R_drewN | apply Kd.R_drew)); exact HO_261008.out) (by decide)) hk (fun _ h => h.2)) (fun _ h => h.1))
            have n1_ := Aside0.mk (KeepBut.blk hk (g' := gb257) (o := .cells #[.int .i64 0, .int .i64 0, .int .i64 0, .int .i64 0, .int .i64 0, .slice none 0 0, .slice none 0 0, .int .i64 0, .slice none 0 0, .slice none 0 0] 30 (0, 0)) (by (with_reducible repeat (first | refine blk_drewN ?_ _ | refine blk_drew ?_ | refine blk_alloc ?_ _)); exact BK257.out) NB257_0.out (by simp))
            have n2_ := Aside0.mk (KeepBut.blk hk (g' := gb260) (o := .cells #[.int .i64 t258, .int .i64 0, .int .i64 0, .int .i64 0, .int .i64 0, .slice none 0 0, .slice none 0 0, .int .i64 0, u261008, .slice none 0 0] 30 (0, 0)) (by (with_reducible repeat (first | refine blk_drewN ?_ _ | refine blk_drew ?_ | refine blk_alloc ?_ _)); exact BK260.out) NB260_0.out (by simp))
            have n3_ := Aside0.mk (KeepBut.trans (by repeat (first | (with_reducible first | exact HK.out | apply KeepBut.set_ | apply keep_drewN | apply keep_drew | apply keep_alloc | refine keep_far ?_ GW257.out _ | refine keep_far ?_ GW260.out _) | exact HK.out)) hk (.inl rfl))
            have n4_ := Aside0.mk (hb)
            have n5_ := Aside0.mk (hi)
            clear HO_261008
            clear BK257
            clear BK260
            clear HK
            clear HB
            clear HI0
            have HO_261008 := n0_
            have BK257 := n1_
            have BK260 := n2_
            have HK := n3_
            have HB := n4_
            have HI0 := n5_
            clear n0_ n1_ n2_ n3_ n4_ n5_
            (try clear hb)
            (try clear hb2)
            (try clear hk)
            (try clear hi)
            refine hK.out _ _ ⟨(blk_cell BK260.out 0).trans rfl, (blk_cell BK260.out 1).trans rfl, (blk_cell BK260.out 2).trans rfl, (blk_cell BK260.out 3).trans rfl, (blk_cell BK260.out 4).trans rfl, (blk_cell BK260.out 5).trans rfl, (blk_cell BK260.out 6).trans rfl, (blk_cell BK260.out 7).trans rfl, (blk_cell BK260.out 8).trans rfl, (blk_cell BK260.out 9).trans rfl⟩ (fun hHeld => ?_)
            clear hK K
            refine norm_ (a' := ?_) ?_ ?_
            rotate_left
            · show Act.put _ (some 17) _ = _
              simp only [Act.put, List.setIfInBounds_toArray, List.set_cons_zero, List.set_cons_succ, i64_w, i32_w]
              rfl
            refine one_ (i := 5) (N := some 19) #[true, true, true, true, true, true, false, false, false, false, false] rfl rfl (one_of HT_.out (by kernel_rfl)) (by decide) (fun K hK => ?_)
            refine goes_ Try.func40 (by kernel_rfl) rfl #[.pointer (some ⟨g, 0, none⟩)] (by rfl) rfl rfl (by (try simp only [List.map_toArray, List.map_cons, List.map_nil]); first | done | rfl | (simp only [List.length_drop, List.length_take]; rfl)) ?_
            with_reducible refine (record_reader_num.calls g t264 t265 t266 w0 _ ?side1 ?side2 A14.out).mono ?_
            (case side1 => repeat (first | (with_reducible first | exact HI0.out | apply IsS66.alloc | apply IsS66.drewN | apply IsS66.drew | apply IsS66.set_0 | refine IsS66.far ?_ NB0_257.out _ | refine IsS66.far ?_ NB0_260.out _) | exact HI0.out))
            (case side2 => repeat (first | (with_reducible first | exact HB.out | apply below_alloc | apply pw_below_drewN | apply below_drew1 | refine below_set ?_ (IsS66.ge HI0.out) | refine below_set ?_ GE257.out | refine below_set ?_ GE260.out) | exact HB.out))
            rintro e w18 ⟨rfl, hi, hb, hk⟩
            refine ⟨_, rfl, ?_⟩
            have n0_ := Aside0.mk (Kd.R_mono (Kd.R_keep (IsS66.apart (show IsS66 w0 _ g t264 from by repeat (first | (with_reducible first | exact HI0.out | apply IsS66.alloc | apply IsS66.drewN | apply IsS66.drew | apply IsS66.set_0 | refine IsS66.far ?_ NB0_257.out _ | refine IsS66.far ?_ NB0_260.out _) | exact HI0.out)) (by (with_reducible repeat (first | apply Kd.R_alloc | apply Kd.R_drewN | apply Kd.R_drew)); exact HO_261008.out) (by decide)) hk (fun _ h => h.2)) (fun _ h => h.1))
            have n1_ := Aside0.mk (KeepBut.blk hk (g' := gb257) (o := .cells #[.int .i64 0, .int .i64 0, .int .i64 0, .int .i64 0, .int .i64 0, .slice none 0 0, .slice none 0 0, .int .i64 0, .slice none 0 0, .slice none 0 0] 30 (0, 0)) (by (with_reducible repeat (first | refine blk_drewN ?_ _ | refine blk_drew ?_ | refine blk_alloc ?_ _)); exact BK257.out) NB257_0.out (by simp))
            have n2_ := Aside0.mk (KeepBut.blk hk (g' := gb260) (o := .cells #[.int .i64 t258, .int .i64 0, .int .i64 0, .int .i64 0, .int .i64 0, .slice none 0 0, .slice none 0 0, .int .i64 0, u261008, .slice none 0 0] 30 (0, 0)) (by (with_reducible repeat (first | refine blk_drewN ?_ _ | refine blk_drew ?_ | refine blk_alloc ?_ _)); exact BK260.out) NB260_0.out (by simp))
            have n3_ := Aside0.mk (KeepBut.trans (by repeat (first | (with_reducible first | exact HK.out | apply KeepBut.set_ | apply keep_drewN | apply keep_drew | apply keep_alloc | refine keep_far ?_ GW257.out _ | refine keep_far ?_ GW260.out _) | exact HK.out)) hk (.inl rfl))
            have n4_ := Aside0.mk (hb)
            have n5_ := Aside0.mk (hi)
            clear HO_261008
            clear BK257
            clear BK260
            clear HK
            clear HB
            clear HI0
            have HO_261008 := n0_
            have BK257 := n1_
            have BK260 := n2_
            have HK := n3_
            have HB := n4_
            have HI0 := n5_
            clear n0_ n1_ n2_ n3_ n4_ n5_
            (try clear hb)
            (try clear hb2)
            (try clear hk)
            (try clear hi)
            refine hK.out _ _ ⟨(blk_cell BK260.out 0).trans rfl, (blk_cell BK260.out 1).trans rfl, (blk_cell BK260.out 2).trans rfl, (blk_cell BK260.out 3).trans rfl, (blk_cell BK260.out 4).trans rfl, (blk_cell BK260.out 5).trans rfl, (blk_cell BK260.out 6).trans rfl, (blk_cell BK260.out 7).trans rfl, (blk_cell BK260.out 8).trans rfl, (blk_cell BK260.out 9).trans rfl⟩ (fun hHeld => ?_)
            clear hK K
            refine norm_ (a' := ?_) ?_ ?_
            rotate_left
            · show Act.put _ (some 19) _ = _
              simp only [Act.put, List.setIfInBounds_toArray, List.set_cons_zero, List.set_cons_succ, i64_w, i32_w]
              rfl
            refine pure_ (i := 6) (N := some 20) (v := ?_) (a' := ?_) #[true, true, true, true, true, true, true, false, false, false, false] rfl rfl (any_of HT_.out (by kernel_rfl)) (fun _ _ _ h => h) (Or.inl ⟨by rfl, ?_⟩) ?_ ?_
            rotate_left
            · intro w'
              go_simp
              with_reducible rfl
            rotate_left
            · simp only [Act.put, List.setIfInBounds_toArray, List.set_cons_zero, List.set_cons_succ, i64_w, i32_w]
              rfl
            refine one_ (i := 7) (N := some 21) #[true, true, true, true, true, true, true, true, false, false, false] rfl rfl (one_of HT_.out (by kernel_rfl)) (by decide) (fun K hK => ?_)
            refine value_ (w1 := ?_) (v := ?_) (by rfl) rfl ?_ ?_
            rotate_left 2
            · go_simp
              constructor
              · rfl
              · rfl
            refine hK.out _ _ ⟨(blk_cell (blk_alloc BK260.out _) 0).trans rfl, (blk_cell (blk_alloc BK260.out _) 1).trans rfl, (blk_cell (blk_alloc BK260.out _) 2).trans rfl, (blk_cell (blk_alloc BK260.out _) 3).trans rfl, (blk_cell (blk_alloc BK260.out _) 4).trans rfl, (blk_cell (blk_alloc BK260.out _) 5).trans rfl, (blk_cell (blk_alloc BK260.out _) 6).trans rfl, (blk_cell (blk_alloc BK260.out _) 7).trans rfl, (blk_cell (blk_alloc BK260.out _) 8).trans rfl, (blk_cell (blk_alloc BK260.out _) 9).trans rfl⟩ (fun hHeld => ?_)
            clear hK K
            refine norm_ (a' := ?_) ?_ ?_
            rotate_left
            · show Act.put _ (some 21) _ = _
              simp only [Act.put, List.setIfInBounds_toArray, List.set_cons_zero, List.set_cons_succ, i64_w, i32_w]
              rfl
            refine one_ (i := 8) (N := some 22) #[true, true, true, true, true, true, true, true, true, false, false] rfl rfl (one_of HT_.out (by kernel_rfl)) (by decide) (fun K hK => ?_)
            refine Kd.R_append_step k54 w.heap.size (by rfl) (.tmp 15) (.tmp 21) 27 54 (.agg #[(.int .i64 0), (.int .i64 0)]) 16 rfl Try.underlying27 info54 rfl (by decide) (by omega) u261008 x261008_1 (⟨t263, t265⟩ : S54) [.int .i64 t263, .int .i64 t265] (fun _ => True) (fun _ => False) rfl rfl ?aP (fun _ hk => hk.elim) ?aF ?aO (Below.refl _ _) ?aS ?aL ?_
            (case aP => exact k54_mkM _ _ _ (⟨t263, t265⟩ : S54))
            (case aF => exact (fun _ _ => trivial))
            (case aO => exact (by (with_reducible repeat (first | apply Kd.R_alloc | apply Kd.R_drewN | apply Kd.R_drew)); exact HO_261008.out))
            (case aS => exact (keep_size (w := w) (g := g) (row := none) (by repeat (first | (with_reducible first | exact HK.out | apply KeepBut.set_ | apply keep_drewN | apply keep_drew | apply keep_alloc | refine keep_far ?_ GW257.out _ | refine keep_far ?_ GW260.out _) | exact HK.out))))
            (case aL => have := LMc15.out; omega)
            intro v268 w19 ho hb hg hat
            rw [← Ny267.out] at ho
            have n0_ := Aside0.mk (blk_grown (g := gb257) (o := .cells #[.int .i64 0, .int .i64 0, .int .i64 0, .int .i64 0, .int .i64 0, .slice none 0 0, .slice none 0 0, .int .i64 0, .slice none 0 0, .slice none 0 0] 30 (0, 0)) (by (with_reducible repeat (first | refine blk_drewN ?_ _ | refine blk_drew ?_ | refine blk_alloc ?_ _)); exact BK257.out) hg (Kd.R_ne HO_261008.out BK257.out (by decide)))
            have n1_ := Aside0.mk (blk_grown (g := gb260) (o := .cells #[.int .i64 t258, .int .i64 0, .int .i64 0, .int .i64 0, .int .i64 0, .slice none 0 0, .slice none 0 0, .int .i64 0, u261008, .slice none 0 0] 30 (0, 0)) (by (with_reducible repeat (first | refine blk_drewN ?_ _ | refine blk_drew ?_ | refine blk_alloc ?_ _)); exact BK260.out) hg (Kd.R_ne HO_261008.out BK260.out (by decide)))
            have n2_ := Aside0.mk (IsS66.grown (by repeat (first | (with_reducible first | exact HI0.out | apply IsS66.alloc | apply IsS66.drewN | apply IsS66.drew | apply IsS66.set_0 | refine IsS66.far ?_ NB0_257.out _ | refine IsS66.far ?_ NB0_260.out _) | exact HI0.out)) hg (IsS66.own_ne HI0.out HO_261008.out (by decide)))
            have n3_ := Aside0.mk (below_weaken (by repeat (first | (with_reducible first | exact HB.out | apply below_alloc | apply pw_below_drewN | apply below_drew1 | refine below_set ?_ (IsS66.ge HI0.out) | refine below_set ?_ GE257.out | refine below_set ?_ GE260.out) | exact HB.out)) HL.out hb)
            have n4_ := Aside0.mk (KeepBut.trans (by repeat (first | (with_reducible first | exact HK.out | apply KeepBut.set_ | apply keep_drewN | apply keep_drew | apply keep_alloc | refine keep_far ?_ GW257.out _ | refine keep_far ?_ GW260.out _) | exact HK.out)) (KeepBut.of_grown hg g) (Kd.R_base2 HO_261008.out))
            have n5_ := Aside0.mk (ho)
            clear BK257
            clear BK260
            clear HI0
            clear HB
            clear HK
            clear HO_261008
            have BK257 := n0_
            have BK260 := n1_
            have HI0 := n2_
            have HB := n3_
            have HK := n4_
            have HO269 := n5_
            clear n0_ n1_ n2_ n3_ n4_ n5_
            clear ho hb hg hat
            obtain ⟨Ao20, co20, eo20⟩ := Kd.R_slice HO269.out
            (first | subst eo20 | (injection eo20 with f1_ f2_ f3_; have f4_ := f1_.symm; have f5_ := f3_.symm; clear f1_ f2_ f3_; subst f4_; subst f5_))
            refine hK.out _ _ ⟨(blk_cell BK260.out 0).trans rfl, (blk_cell BK260.out 1).trans rfl, (blk_cell BK260.out 2).trans rfl, (blk_cell BK260.out 3).trans rfl, (blk_cell BK260.out 4).trans rfl, (blk_cell BK260.out 5).trans rfl, (blk_cell BK260.out 6).trans rfl, (blk_cell BK260.out 7).trans rfl, (blk_cell BK260.out 8).trans rfl, (blk_cell BK260.out 9).trans rfl⟩ (fun hHeld => ?_)
            clear hK K
            refine norm_ (a' := ?_) ?_ ?_
            rotate_left
            · show Act.put _ (some 22) _ = _
              simp only [Act.put, List.setIfInBounds_toArray, List.set_cons_zero, List.set_cons_succ, i64_w, i32_w]
              rfl
            refine pure_ (i := 9) (N := some 23) (v := ?_) (a' := ?_) #[true, true, true, true, true, true, true, true, true, true, false] rfl rfl (any_of HT_.out (by kernel_rfl)) (fun _ _ _ h => h) (Or.inl ⟨by rfl, ?_⟩) ?_ ?_
            rotate_left
            · intro w'
              go_simp
              with_reducible rfl
            rotate_left
            · simp only [Act.put, List.setIfInBounds_toArray, List.set_cons_zero, List.set_cons_succ, i64_w, i32_w]
              rfl
            refine last_ (i := 10) (N := none) #[true, true, true, true, true, true, true, true, true, true, true] rfl rfl (one_of HT_.out (by kernel_rfl)) (by decide) (fun K hK => ?_)
            have hs21 : w19.cell? ⟨gb260, 8, none⟩ = some (u261008) := (blk_cell BK260.out 8).trans rfl
            have hfs21 := blk_frozen BK260.out 8
            have hns21_0 := NB257_260.out
            have hms21_0 := NB260_257.out
            refine skip_ (w1 := ?_) (by rfl) rfl ?_ ?_
            rotate_left
            · go_simp
              rfl
            refine hK.out _ _ ?_
            clear hK K
            refine done_ (done_of HT_.out (by kernel_rfl)) ?_
            try go_wp2
            go_roundg k1
            case measure => have := HK1.out; omega
            case rel => exact ⟨(wrap64 (x12_1 + 1)), (t266), (y267), (.slice Ao20 y267.length co20), (by first | rfl | (simp; done) | (simp [*]; done)), H', ⟨by have := HK1.out; omega⟩, ⟨by (with_reducible repeat (first | apply Kd.R_alloc | apply Kd.R_drewN | apply Kd.R_drew)); exact Kd.R_mono (Kd.R_far (p := ⟨gb260, 8, none⟩) (Kd.R_types HO269.out BK260.out (by decide)) (fun _ hk => hk.2) (.slice Ao20 y267.length co20)) (fun _ hk => trivial)⟩, ⟨by (with_reducible repeat (first | refine blk_drewN ?_ _ | refine blk_drew ?_ | refine blk_alloc ?_ _)); refine blk_far ?_ NB257_260.out _; (with_reducible repeat (first | refine blk_drewN ?_ _ | refine blk_drew ?_ | refine blk_alloc ?_ _)); exact BK257.out⟩, ⟨by (with_reducible repeat (first | refine blk_drewN ?_ _ | refine blk_drew ?_ | refine blk_alloc ?_ _)); refine blk_put (cs := #[.int .i64 t258, .int .i64 0, .int .i64 0, .int .i64 0, .int .i64 0, .slice none 0 0, .slice none 0 0, .int .i64 0, u261008, .slice none 0 0]) ?_ 8 _ rfl; (with_reducible repeat (first | refine blk_drewN ?_ _ | refine blk_drew ?_ | refine blk_alloc ?_ _)); exact BK260.out⟩, ⟨by repeat (first | (with_reducible first | exact HI0.out | apply IsS66.alloc | apply IsS66.drewN | apply IsS66.drew | apply IsS66.set_0 | refine IsS66.far ?_ NB0_257.out _ | refine IsS66.far ?_ NB0_260.out _) | exact HI0.out)⟩, ⟨by repeat (first | (with_reducible first | exact HK.out | apply KeepBut.set_ | apply keep_drewN | apply keep_drew | apply keep_alloc | refine keep_far ?_ GW257.out _ | refine keep_far ?_ GW260.out _) | exact HK.out)⟩, ⟨by repeat (first | (with_reducible first | exact HB.out | apply below_alloc | apply pw_below_drewN | apply below_drew1 | refine below_set ?_ (IsS66.ge HI0.out) | refine below_set ?_ GE257.out | refine below_set ?_ GE260.out) | exact HB.out)⟩⟩
          · rw [if_neg c15] at H
            exact absurd H (by simp)
        · rw [if_neg c12] at H
          have c12b0 : decide (x12_1 < t261) = false := decide_eq_false c12
          clear c12
          replace H := Option.bind_eq_some_iff.mp H
          obtain ⟨⟨t270, t271⟩, A220, H⟩ := H
          replace H : (record_reader_read.l1 k1 t270 0 t271 t258 0 0 0 0 0 x261008_1 ([] : List (S56))) = some (r1, r2, r3, r4, r5, r6, r7, r8, r9, r10, r11) := H
          have A22 := Aside0.mk A220
          clear A220
          have H' := Aside0.mk H
          clear H
          go_wp2_with (first | ((with_reducible refine gate_callee (f := 41) rfl ?_); refine goesL_ (some 26) rfl rfl Try.func41 (by kernel_rfl) rfl #[.pointer (some ⟨g, 0, none⟩), .int .i64 4] rfl (by (try simp only [List.map_toArray, List.map_cons, List.map_nil]); first | done | rfl | (simp only [List.length_drop, List.length_take]; rfl)) ?_; (with_reducible refine (record_reader_count.calls g x1000_1 4 t270 t271 w0 _ ?side1 ?side2 A22.out).mono ?_); (case side1 => repeat (first | (with_reducible first | exact HI0.out | apply IsS66.alloc | apply IsS66.drewN | apply IsS66.drew | apply IsS66.set_0 | refine IsS66.far ?_ NB0_257.out _ | refine IsS66.far ?_ NB0_260.out _) | exact HI0.out)); (case side2 => repeat (first | (with_reducible first | exact HB.out | apply below_alloc | apply pw_below_drewN | apply below_drew1 | refine below_set ?_ (IsS66.ge HI0.out) | refine below_set ?_ GE257.out | refine below_set ?_ GE260.out) | exact HB.out)); rintro e w23 ⟨rfl, hi, hb, hk⟩; refine ⟨_, rfl, ?_⟩; have n0_ := Aside0.mk (Kd.R_mono (Kd.R_keep (IsS66.apart (show IsS66 w0 _ g x1000_1 from by repeat (first | (with_reducible first | exact HI0.out | apply IsS66.alloc | apply IsS66.drewN | apply IsS66.drew | apply IsS66.set_0 | refine IsS66.far ?_ NB0_257.out _ | refine IsS66.far ?_ NB0_260.out _) | exact HI0.out)) (by (with_reducible repeat (first | apply Kd.R_alloc | apply Kd.R_drewN | apply Kd.R_drew)); exact HO_261008.out) (by decide)) hk (fun _ h => h.2)) (fun _ h => h.1)); have n1_ := Aside0.mk (KeepBut.blk hk (g' := gb257) (o := .cells #[.int .i64 0, .int .i64 0, .int .i64 0, .int .i64 0, .int .i64 0, .slice none 0 0, .slice none 0 0, .int .i64 0, .slice none 0 0, .slice none 0 0] 30 (0, 0)) (by (with_reducible repeat (first | refine blk_drewN ?_ _ | refine blk_drew ?_ | refine blk_alloc ?_ _)); exact BK257.out) NB257_0.out (by simp)); have n2_ := Aside0.mk (KeepBut.blk hk (g' := gb260) (o := .cells #[.int .i64 t258, .int .i64 0, .int .i64 0, .int .i64 0, .int .i64 0, .slice none 0 0, .slice none 0 0, .int .i64 0, u261008, .slice none 0 0] 30 (0, 0)) (by (with_reducible repeat (first | refine blk_drewN ?_ _ | refine blk_drew ?_ | refine blk_alloc ?_ _)); exact BK260.out) NB260_0.out (by simp)); have n3_ := Aside0.mk (KeepBut.trans (by repeat (first | (with_reducible first | exact HK.out | apply KeepBut.set_ | apply keep_drewN | apply keep_drew | apply keep_alloc | refine keep_far ?_ GW257.out _ | refine keep_far ?_ GW260.out _) | exact HK.out)) hk (.inl rfl)); have n4_ := Aside0.mk (hb); have n5_ := Aside0.mk (hi); clear HO_261008; clear BK257; clear BK260; clear HK; clear HB; clear HI0; have HO_261008 := n0_; have BK257 := n1_; have BK260 := n2_; have HK := n3_; have HB := n4_; have HI0 := n5_; clear n0_ n1_ n2_ n3_ n4_ n5_; (try clear hb); (try clear hb2); (try clear hk); (try clear hi)))
          go_loopg [27] k1 (fun kq v27 w' => ∃ (x27_2 : Int) (x1000_2 : View) (x261009_2 : List (S56)) (u261009 : Value), v27 = .int .i64 x27_2 ∧ Aside0 (record_reader_read.l1 kq t270 x27_2 x1000_2 t258 0 0 0 0 0 x261008_1 x261009_2 = some (r1, r2, r3, r4, r5, r6, r7, r8, r9, r10, r11)) ∧ Aside0 (kq ≤ k1) ∧ Aside0 (Kd.R k54 54 w' w.heap.size (fun _ => True) u261008 x261008_1) ∧ Aside0 (Kd.R k56 56 w' w.heap.size (fun _ => True) u261009 x261009_2) ∧ Aside0 (w'.heap[gb257]? = some (.cells #[.int .i64 0, .int .i64 0, .int .i64 0, .int .i64 0, .int .i64 0, (.slice none 0 0), (.slice none 0 0), .int .i64 0, (.slice none 0 0), (.slice none 0 0)] 30 (0, 0))) ∧ Aside0 (w'.heap[gb260]? = some (.cells #[.int .i64 t258, .int .i64 0, .int .i64 0, .int .i64 0, .int .i64 0, (.slice none 0 0), (.slice none 0 0), .int .i64 0, u261008, u261009] 30 (0, 0))) ∧ Aside0 (IsS66 w0 w' g x1000_2) ∧ Aside0 (KeepBut w w' g none) ∧ Aside0 (Below w0.heap.size w0 w'))
          case atStart => exact ⟨(0), (t271), (([] : List (S56))), (.slice none 0 0), (by first | rfl | (simp; done) | (simp [*]; done)), H', ⟨Nat.le_refl _⟩, ⟨by (with_reducible repeat (first | apply Kd.R_alloc | apply Kd.R_drewN | apply Kd.R_drew)); exact HO_261008.out⟩, ⟨by first | exact Kd.R_nil _ _ _ _ _ | exact Kd.N_nil _ _ _ _ _ | exact Kd.V_nil _ _ _ _ _ | exact Kd.Q_nil _ _ _ _ _ | exact Kd.S_nil _ _ _ _ _⟩, ⟨by (with_reducible repeat (first | refine blk_drewN ?_ _ | refine blk_drew ?_ | refine blk_alloc ?_ _)); exact BK257.out⟩, ⟨by (with_reducible repeat (first | refine blk_drewN ?_ _ | refine blk_drew ?_ | refine blk_alloc ?_ _)); exact BK260.out⟩, ⟨by repeat (first | (with_reducible first | exact HI0.out | apply IsS66.alloc | apply IsS66.drewN | apply IsS66.drew | apply IsS66.set_0 | refine IsS66.far ?_ NB0_257.out _ | refine IsS66.far ?_ NB0_260.out _) | exact HI0.out)⟩, ⟨by repeat (first | (with_reducible first | exact HK.out | apply KeepBut.set_ | apply keep_drewN | apply keep_drew | apply keep_alloc | refine keep_far ?_ GW257.out _ | refine keep_far ?_ GW260.out _) | exact HK.out)⟩, ⟨by repeat (first | (with_reducible first | exact HB.out | apply below_alloc | apply pw_below_drewN | apply below_drew1 | refine below_set ?_ (IsS66.ge HI0.out) | refine below_set ?_ GE257.out | refine below_set ?_ GE260.out) | exact HB.out)⟩⟩
          case round =>
            clear H'
            try clear c1
            try clear c2
            try clear p2
            try clear c3
            try clear c3b0
            try clear c3b1
            try clear c4
            try clear p6
            try clear c8
            try clear c9
            try clear c12
            try clear c12b0
            try clear c15
            try clear hcz10_0
            try clear hcz10_1
            try clear hcz10_2
            try clear hcz10_3
            try clear hcz10_4
            try clear hcz10_5
            try clear hcz10_6
            try clear hcz10_7
            try clear hcz10_8
            try clear hcz10_9
            try clear hfz10_0
            try clear hfz10_1
            try clear hfz10_2
            try clear hfz10_3
            try clear hfz10_4
            try clear hfz10_5
            try clear hfz10_6
            try clear hfz10_7
            try clear hfz10_8
            try clear hfz10_9
            try clear p2
            obtain ⟨x27_2, x1000_2, x261009_2, u261009, rfl, HA, HK2, HO_261008, HO_261009, BK257, BK260, HI0, HK, HB⟩ := hrel
            cases gk with
            | zero => exact absurd HA.out (by simp [record_reader_read.l1])
            | succ k2 =>
              have H := HA.out
              clear HA
              simp only [record_reader_read.l1] at H
              by_cases c24 : x27_2 < t270
              · rw [if_pos c24] at H
                have c24b0 : decide (x27_2 < t270) = true := decide_eq_true c24
                clear c24
                replace H := Option.bind_eq_some_iff.mp H
                obtain ⟨⟨t272, t273⟩, A250, H⟩ := H
                replace H : ((record_reader_num.f t273).bind fun bt274 => ((record_reader_num.f bt274.2).bind fun bt276 => ((record_reader_num.f bt276.2).bind fun bt278 => (if x261009_2.length < 4398046511104 then (record_reader_read.l1 k2 t270 (wrap64 (x27_2 + 1)) bt278.2 t258 0 0 0 0 0 x261008_1 (x261009_2 ++ [(⟨t272, bt274.1, bt276.1, bt278.1⟩ : S56)])) else (none))))) = some (r1, r2, r3, r4, r5, r6, r7, r8, r9, r10, r11) := H
                have A25 := Aside0.mk A250
                clear A250
                replace H := Option.bind_eq_some_iff.mp H
                obtain ⟨⟨t274, t275⟩, A260, H⟩ := H
                replace H : ((record_reader_num.f t275).bind fun bt276 => ((record_reader_num.f bt276.2).bind fun bt278 => (if x261009_2.length < 4398046511104 then (record_reader_read.l1 k2 t270 (wrap64 (x27_2 + 1)) bt278.2 t258 0 0 0 0 0 x261008_1 (x261009_2 ++ [(⟨t272, t274, bt276.1, bt278.1⟩ : S56)])) else (none)))) = some (r1, r2, r3, r4, r5, r6, r7, r8, r9, r10, r11) := H
                have A26 := Aside0.mk A260
                clear A260
                replace H := Option.bind_eq_some_iff.mp H
                obtain ⟨⟨t276, t277⟩, A270, H⟩ := H
                replace H : ((record_reader_num.f t277).bind fun bt278 => (if x261009_2.length < 4398046511104 then (record_reader_read.l1 k2 t270 (wrap64 (x27_2 + 1)) bt278.2 t258 0 0 0 0 0 x261008_1 (x261009_2 ++ [(⟨t272, t274, t276, bt278.1⟩ : S56)])) else (none))) = some (r1, r2, r3, r4, r5, r6, r7, r8, r9, r10, r11) := H
                have A27 := Aside0.mk A270
                clear A270
                replace H := Option.bind_eq_some_iff.mp H
                obtain ⟨⟨t278, t279⟩, A280, H⟩ := H
                replace H : (if x261009_2.length < 4398046511104 then (record_reader_read.l1 k2 t270 (wrap64 (x27_2 + 1)) t279 t258 0 0 0 0 0 x261008_1 (x261009_2 ++ [(⟨t272, t274, t276, t278⟩ : S56)])) else (none)) = some (r1, r2, r3, r4, r5, r6, r7, r8, r9, r10, r11) := H
                have A28 := Aside0.mk A280
                clear A280
                by_cases c29 : x261009_2.length < 4398046511104
                · rw [if_pos c29] at H
                  have LMc29 := Aside0.mk c29
                  clear c29
                  obtain ⟨y280, hy280⟩ : ∃ y_ : List (S56), y_ = (x261009_2 ++ [(⟨t272, t274, t276, t278⟩ : S56)]) := ⟨_, rfl⟩
                  replace H : (record_reader_read.l1 k2 t270 (wrap64 (x27_2 + 1)) t279 t258 0 0 0 0 0 x261008_1 y280) = some (r1, r2, r3, r4, r5, r6, r7, r8, r9, r10, r11) := by first | (rw [hy280]; with_reducible exact H) | (have H2_ := (Option.bind_some _ _).symm.trans H; rw [hy280]; with_reducible exact H2_) | (have H2_ := (Option.bind_some _ _).symm.trans H; with_reducible exact H2_) | with_reducible exact H | (rw [hy280]; exact H) | exact H
                  have Ny280 := Aside0.mk hy280
                  clear hy280
                  have H' := Aside0.mk H
                  clear H
                  try go_wp2
                  have n0_ := Aside0.mk (Kd.R_drew HO_261008.out)
                  have n1_ := Aside0.mk (Kd.R_drew HO_261009.out)
                  have n2_ := Aside0.mk (blk_drew BK257.out)
                  have n3_ := Aside0.mk (blk_drew BK260.out)
                  have n4_ := Aside0.mk (IsS66.drew HI0.out)
                  have n5_ := Aside0.mk (keep_drew HK.out)
                  have n6_ := Aside0.mk (below_drew1 HB.out)
                  clear HO_261008
                  clear HO_261009
                  clear BK257
                  clear BK260
                  clear HI0
                  clear HK
                  clear HB
                  have HO_261008 := n0_
                  have HO_261009 := n1_
                  have BK257 := n2_
                  have BK260 := n3_
                  have HI0 := n4_
                  have HK := n5_
                  have HB := n6_
                  clear n0_ n1_ n2_ n3_ n4_ n5_ n6_
                  refine start_ (n := 15) (S := fun w' => w'.cell? ⟨gb260, 0, none⟩ = some (.int .i64 t258) ∧ w'.cell? ⟨gb260, 1, none⟩ = some (.int .i64 0) ∧ w'.cell? ⟨gb260, 2, none⟩ = some (.int .i64 0) ∧ w'.cell? ⟨gb260, 3, none⟩ = some (.int .i64 0) ∧ w'.cell? ⟨gb260, 4, none⟩ = some (.int .i64 0) ∧ w'.cell? ⟨gb260, 5, none⟩ = some (.slice none 0 0) ∧ w'.cell? ⟨gb260, 6, none⟩ = some (.slice none 0 0) ∧ w'.cell? ⟨gb260, 7, none⟩ = some (.int .i64 0) ∧ w'.cell? ⟨gb260, 8, none⟩ = some (u261008) ∧ w'.cell? ⟨gb260, 9, none⟩ = some (u261009)) (ds := [14]) #[false, false, false, false, false, false, false, false, false, false, false, false, false, false, false] (by kernel_rfl) rfl rfl ⟨(blk_cell BK260.out 0).trans rfl, (blk_cell BK260.out 1).trans rfl, (blk_cell BK260.out 2).trans rfl, (blk_cell BK260.out 3).trans rfl, (blk_cell BK260.out 4).trans rfl, (blk_cell BK260.out 5).trans rfl, (blk_cell BK260.out 6).trans rfl, (blk_cell BK260.out 7).trans rfl, (blk_cell BK260.out 8).trans rfl, (blk_cell BK260.out 9).trans rfl⟩ (fun hHeld => ?_); refine with_tabW record_reader_read.tab9 record_reader_read.bits9 (fun HT_ HW_ => ?_)
                  generalize wr.drew = w30 at HO_261008 HO_261009 BK257 BK260 HI0 HK HB hHeld ⊢
                  refine pure_ (i := 0) (N := some 29) (v := ?_) (a' := ?_) #[true, false, false, false, false, false, false, false, false, false, false, false, false, false, false] rfl rfl (any_of HT_.out (by kernel_rfl)) (fun _ _ _ h => h) (Or.inl ⟨by rfl, ?_⟩) ?_ ?_
                  rotate_left
                  · intro w'
                    go_simp
                    with_reducible rfl
                  rotate_left
                  · simp only [Act.put, List.setIfInBounds_toArray, List.set_cons_zero, List.set_cons_succ, i64_w, i32_w]
                    rfl
                  refine pure_ (i := 2) (N := some 31) (v := ?_) (a' := ?_) #[true, false, true, false, false, false, false, false, false, false, false, false, false, false, false] rfl rfl (any_of HT_.out (by kernel_rfl)) (fun _ _ _ h => h) (Or.inl ⟨by rfl, ?_⟩) ?_ ?_
                  rotate_left
                  · intro w'
                    go_simp
                    with_reducible rfl
                  rotate_left
                  · simp only [Act.put, List.setIfInBounds_toArray, List.set_cons_zero, List.set_cons_succ, i64_w, i32_w]
                    rfl
                  refine pure_ (i := 4) (N := some 33) (v := ?_) (a' := ?_) #[true, false, true, false, true, false, false, false, false, false, false, false, false, false, false] rfl rfl (any_of HT_.out (by kernel_rfl)) (fun _ _ _ h => h) (Or.inl ⟨by rfl, ?_⟩) ?_ ?_
                  rotate_left
                  · intro w'
                    go_simp
                    with_reducible rfl
                  rotate_left
                  · simp only [Act.put, List.setIfInBounds_toArray, List.set_cons_zero, List.set_cons_succ, i64_w, i32_w]
                    rfl
                  refine pure_ (i := 6) (N := some 35) (v := ?_) (a' := ?_) #[true, false, true, false, true, false, true, false, false, false, false, false, false, false, false] rfl rfl (any_of HT_.out (by kernel_rfl)) (fun _ _ _ h => h) (Or.inl ⟨by rfl, ?_⟩) ?_ ?_
                  rotate_left
                  · intro w'
                    go_simp
                    with_reducible rfl
                  rotate_left
                  · simp only [Act.put, List.setIfInBounds_toArray, List.set_cons_zero, List.set_cons_succ, i64_w, i32_w]
                    rfl
                  refine pure_ (i := 8) (N := some 37) (v := ?_) (a' := ?_) #[true, false, true, false, true, false, true, false, true, false, false, false, false, false, false] rfl rfl (any_of HT_.out (by kernel_rfl)) (fun _ _ _ h => h) (Or.inl ⟨by rfl, ?_⟩) ?_ ?_
                  rotate_left
                  · intro w'
                    go_simp
                    with_reducible rfl
                  rotate_left
                  · simp only [Act.put, List.setIfInBounds_toArray, List.set_cons_zero, List.set_cons_succ, i64_w, i32_w]
                    rfl
                  refine take_ (i := 1) (N := some 30) (v := ?_) (a' := ?_) #[true, true, true, false, true, false, true, false, true, false, false, false, false, false, false] rfl rfl (take_ofW HT_.out HW_.out (by kernel_rfl)) (fun _ _ _ h => h) (Or.inl ⟨by rfl, ?_⟩) hHeld ?_ ?_
                  rotate_left
                  · rintro w' ⟨s0, s1, s2, s3, s4, s5, s6, s7, s8, s9⟩
                    go_simp
                    with_reducible rfl
                  rotate_left
                  · simp only [Act.put, List.setIfInBounds_toArray, List.set_cons_zero, List.set_cons_succ, i64_w, i32_w]
                    rfl
                  refine one_ (i := 3) (N := some 32) #[true, true, true, true, true, false, true, false, true, false, false, false, false, false, false] rfl rfl (one_of HT_.out (by kernel_rfl)) (by decide) (fun K hK => ?_)
                  refine goes_ Try.func40 (by kernel_rfl) rfl #[.pointer (some ⟨g, 0, none⟩)] (by rfl) rfl rfl (by (try simp only [List.map_toArray, List.map_cons, List.map_nil]); first | done | rfl | (simp only [List.length_drop, List.length_take]; rfl)) ?_
                  with_reducible refine (record_reader_num.calls g x1000_2 t272 t273 w0 _ ?side1 ?side2 A25.out).mono ?_
                  (case side1 => repeat (first | (with_reducible first | exact HI0.out | apply IsS66.alloc | apply IsS66.drewN | apply IsS66.drew | apply IsS66.set_0 | refine IsS66.far ?_ NB0_257.out _ | refine IsS66.far ?_ NB0_260.out _) | exact HI0.out))
                  (case side2 => repeat (first | (with_reducible first | exact HB.out | apply below_alloc | apply pw_below_drewN | apply below_drew1 | refine below_set ?_ (IsS66.ge HI0.out) | refine below_set ?_ GE257.out | refine below_set ?_ GE260.out) | exact HB.out))
                  rintro e w31 ⟨rfl, hi, hb, hk⟩
                  refine ⟨_, rfl, ?_⟩
                  have n0_ := Aside0.mk (Kd.R_mono (Kd.R_keep (IsS66.apart (show IsS66 w0 _ g x1000_2 from by repeat (first | (with_reducible first | exact HI0.out | apply IsS66.alloc | apply IsS66.drewN | apply IsS66.drew | apply IsS66.set_0 | refine IsS66.far ?_ NB0_257.out _ | refine IsS66.far ?_ NB0_260.out _) | exact HI0.out)) (by (with_reducible repeat (first | apply Kd.R_alloc | apply Kd.R_drewN | apply Kd.R_drew)); exact HO_261008.out) (by decide)) hk (fun _ h => h.2)) (fun _ h => h.1))
                  have n1_ := Aside0.mk (Kd.R_mono (Kd.R_keep (IsS66.apart (show IsS66 w0 _ g x1000_2 from by repeat (first | (with_reducible first | exact HI0.out | apply IsS66.alloc | apply IsS66.drewN | apply IsS66.drew | apply IsS66.set_0 | refine IsS66.far ?_ NB0_257.out _ | refine IsS66.far ?_ NB0_260.out _) | exact HI0.out)) (by (with_reducible repeat (first | apply Kd.R_alloc | apply Kd.R_drewN | apply Kd.R_drew)); exact HO_261009.out) (by decide)) hk (fun _ h => h.2)) (fun _ h => h.1))
                  have n2_ := Aside0.mk (KeepBut.blk hk (g' := gb257) (o := .cells #[.int .i64 0, .int .i64 0, .int .i64 0, .int .i64 0, .int .i64 0, .slice none 0 0, .slice none 0 0, .int .i64 0, .slice none 0 0, .slice none 0 0] 30 (0, 0)) (by (with_reducible repeat (first | refine blk_drewN ?_ _ | refine blk_drew ?_ | refine blk_alloc ?_ _)); exact BK257.out) NB257_0.out (by simp))
                  have n3_ := Aside0.mk (KeepBut.blk hk (g' := gb260) (o := .cells #[.int .i64 t258, .int .i64 0, .int .i64 0, .int .i64 0, .int .i64 0, .slice none 0 0, .slice none 0 0, .int .i64 0, u261008, u261009] 30 (0, 0)) (by (with_reducible repeat (first | refine blk_drewN ?_ _ | refine blk_drew ?_ | refine blk_alloc ?_ _)); exact BK260.out) NB260_0.out (by simp))
                  have n4_ := Aside0.mk (KeepBut.trans (by repeat (first | (with_reducible first | exact HK.out | apply KeepBut.set_ | apply keep_drewN | apply keep_drew | apply keep_alloc | refine keep_far ?_ GW257.out _ | refine keep_far ?_ GW260.out _) | exact HK.out)) hk (.inl rfl))
                  have n5_ := Aside0.mk (hb)
                  have n6_ := Aside0.mk (hi)
                  clear HO_261008
                  clear HO_261009
                  clear BK257
                  clear BK260
                  clear HK
                  clear HB
                  clear HI0
                  have HO_261008 := n0_
                  have HO_261009 := n1_
                  have BK257 := n2_
                  have BK260 := n3_
                  have HK := n4_
                  have HB := n5_
                  have HI0 := n6_
                  clear n0_ n1_ n2_ n3_ n4_ n5_ n6_
                  (try clear hb)
                  (try clear hb2)
                  (try clear hk)
                  (try clear hi)
                  refine hK.out _ _ ⟨(blk_cell BK260.out 0).trans rfl, (blk_cell BK260.out 1).trans rfl, (blk_cell BK260.out 2).trans rfl, (blk_cell BK260.out 3).trans rfl, (blk_cell BK260.out 4).trans rfl, (blk_cell BK260.out 5).trans rfl, (blk_cell BK260.out 6).trans rfl, (blk_cell BK260.out 7).trans rfl, (blk_cell BK260.out 8).trans rfl, (blk_cell BK260.out 9).trans rfl⟩ (fun hHeld => ?_)
                  clear hK K
                  refine norm_ (a' := ?_) ?_ ?_
                  rotate_left
                  · show Act.put _ (some 32) _ = _
                    simp only [Act.put, List.setIfInBounds_toArray, List.set_cons_zero, List.set_cons_succ, i64_w, i32_w]
                    rfl
                  refine one_ (i := 5) (N := some 34) #[true, true, true, true, true, true, true, false, true, false, false, false, false, false, false] rfl rfl (one_of HT_.out (by kernel_rfl)) (by decide) (fun K hK => ?_)
                  refine goes_ Try.func40 (by kernel_rfl) rfl #[.pointer (some ⟨g, 0, none⟩)] (by rfl) rfl rfl (by (try simp only [List.map_toArray, List.map_cons, List.map_nil]); first | done | rfl | (simp only [List.length_drop, List.length_take]; rfl)) ?_
                  with_reducible refine (record_reader_num.calls g t273 t274 t275 w0 _ ?side1 ?side2 A26.out).mono ?_
                  (case side1 => repeat (first | (with_reducible first | exact HI0.out | apply IsS66.alloc | apply IsS66.drewN | apply IsS66.drew | apply IsS66.set_0 | refine IsS66.far ?_ NB0_257.out _ | refine IsS66.far ?_ NB0_260.out _) | exact HI0.out))
                  (case side2 => repeat (first | (with_reducible first | exact HB.out | apply below_alloc | apply pw_below_drewN | apply below_drew1 | refine below_set ?_ (IsS66.ge HI0.out) | refine below_set ?_ GE257.out | refine below_set ?_ GE260.out) | exact HB.out))
                  rintro e w32 ⟨rfl, hi, hb, hk⟩
                  refine ⟨_, rfl, ?_⟩
                  have n0_ := Aside0.mk (Kd.R_mono (Kd.R_keep (IsS66.apart (show IsS66 w0 _ g t273 from by repeat (first | (with_reducible first | exact HI0.out | apply IsS66.alloc | apply IsS66.drewN | apply IsS66.drew | apply IsS66.set_0 | refine IsS66.far ?_ NB0_257.out _ | refine IsS66.far ?_ NB0_260.out _) | exact HI0.out)) (by (with_reducible repeat (first | apply Kd.R_alloc | apply Kd.R_drewN | apply Kd.R_drew)); exact HO_261008.out) (by decide)) hk (fun _ h => h.2)) (fun _ h => h.1))
                  have n1_ := Aside0.mk (Kd.R_mono (Kd.R_keep (IsS66.apart (show IsS66 w0 _ g t273 from by repeat (first | (with_reducible first | exact HI0.out | apply IsS66.alloc | apply IsS66.drewN | apply IsS66.drew | apply IsS66.set_0 | refine IsS66.far ?_ NB0_257.out _ | refine IsS66.far ?_ NB0_260.out _) | exact HI0.out)) (by (with_reducible repeat (first | apply Kd.R_alloc | apply Kd.R_drewN | apply Kd.R_drew)); exact HO_261009.out) (by decide)) hk (fun _ h => h.2)) (fun _ h => h.1))
                  have n2_ := Aside0.mk (KeepBut.blk hk (g' := gb257) (o := .cells #[.int .i64 0, .int .i64 0, .int .i64 0, .int .i64 0, .int .i64 0, .slice none 0 0, .slice none 0 0, .int .i64 0, .slice none 0 0, .slice none 0 0] 30 (0, 0)) (by (with_reducible repeat (first | refine blk_drewN ?_ _ | refine blk_drew ?_ | refine blk_alloc ?_ _)); exact BK257.out) NB257_0.out (by simp))
                  have n3_ := Aside0.mk (KeepBut.blk hk (g' := gb260) (o := .cells #[.int .i64 t258, .int .i64 0, .int .i64 0, .int .i64 0, .int .i64 0, .slice none 0 0, .slice none 0 0, .int .i64 0, u261008, u261009] 30 (0, 0)) (by (with_reducible repeat (first | refine blk_drewN ?_ _ | refine blk_drew ?_ | refine blk_alloc ?_ _)); exact BK260.out) NB260_0.out (by simp))
                  have n4_ := Aside0.mk (KeepBut.trans (by repeat (first | (with_reducible first | exact HK.out | apply KeepBut.set_ | apply keep_drewN | apply keep_drew | apply keep_alloc | refine keep_far ?_ GW257.out _ | refine keep_far ?_ GW260.out _) | exact HK.out)) hk (.inl rfl))
                  have n5_ := Aside0.mk (hb)
                  have n6_ := Aside0.mk (hi)
                  clear HO_261008
                  clear HO_261009
                  clear BK257
                  clear BK260
                  clear HK
                  clear HB
                  clear HI0
                  have HO_261008 := n0_
                  have HO_261009 := n1_
                  have BK257 := n2_
                  have BK260 := n3_
                  have HK := n4_
                  have HB := n5_
                  have HI0 := n6_
                  clear n0_ n1_ n2_ n3_ n4_ n5_ n6_
                  (try clear hb)
                  (try clear hb2)
                  (try clear hk)
                  (try clear hi)
                  refine hK.out _ _ ⟨(blk_cell BK260.out 0).trans rfl, (blk_cell BK260.out 1).trans rfl, (blk_cell BK260.out 2).trans rfl, (blk_cell BK260.out 3).trans rfl, (blk_cell BK260.out 4).trans rfl, (blk_cell BK260.out 5).trans rfl, (blk_cell BK260.out 6).trans rfl, (blk_cell BK260.out 7).trans rfl, (blk_cell BK260.out 8).trans rfl, (blk_cell BK260.out 9).trans rfl⟩ (fun hHeld => ?_)
                  clear hK K
                  refine norm_ (a' := ?_) ?_ ?_
                  rotate_left
                  · show Act.put _ (some 34) _ = _
                    simp only [Act.put, List.setIfInBounds_toArray, List.set_cons_zero, List.set_cons_succ, i64_w, i32_w]
                    rfl
                  refine one_ (i := 7) (N := some 36) #[true, true, true, true, true, true, true, true, true, false, false, false, false, false, false] rfl rfl (one_of HT_.out (by kernel_rfl)) (by decide) (fun K hK => ?_)
                  refine goes_ Try.func40 (by kernel_rfl) rfl #[.pointer (some ⟨g, 0, none⟩)] (by rfl) rfl rfl (by (try simp only [List.map_toArray, List.map_cons, List.map_nil]); first | done | rfl | (simp only [List.length_drop, List.length_take]; rfl)) ?_
                  with_reducible refine (record_reader_num.calls g t275 t276 t277 w0 _ ?side1 ?side2 A27.out).mono ?_
                  (case side1 => repeat (first | (with_reducible first | exact HI0.out | apply IsS66.alloc | apply IsS66.drewN | apply IsS66.drew | apply IsS66.set_0 | refine IsS66.far ?_ NB0_257.out _ | refine IsS66.far ?_ NB0_260.out _) | exact HI0.out))
                  (case side2 => repeat (first | (with_reducible first | exact HB.out | apply below_alloc | apply pw_below_drewN | apply below_drew1 | refine below_set ?_ (IsS66.ge HI0.out) | refine below_set ?_ GE257.out | refine below_set ?_ GE260.out) | exact HB.out))
                  rintro e w33 ⟨rfl, hi, hb, hk⟩
                  refine ⟨_, rfl, ?_⟩
                  have n0_ := Aside0.mk (Kd.R_mono (Kd.R_keep (IsS66.apart (show IsS66 w0 _ g t275 from by repeat (first | (with_reducible first | exact HI0.out | apply IsS66.alloc | apply IsS66.drewN | apply IsS66.drew | apply IsS66.set_0 | refine IsS66.far ?_ NB0_257.out _ | refine IsS66.far ?_ NB0_260.out _) | exact HI0.out)) (by (with_reducible repeat (first | apply Kd.R_alloc | apply Kd.R_drewN | apply Kd.R_drew)); exact HO_261008.out) (by decide)) hk (fun _ h => h.2)) (fun _ h => h.1))
                  have n1_ := Aside0.mk (Kd.R_mono (Kd.R_keep (IsS66.apart (show IsS66 w0 _ g t275 from by repeat (first | (with_reducible first | exact HI0.out | apply IsS66.alloc | apply IsS66.drewN | apply IsS66.drew | apply IsS66.set_0 | refine IsS66.far ?_ NB0_257.out _ | refine IsS66.far ?_ NB0_260.out _) | exact HI0.out)) (by (with_reducible repeat (first | apply Kd.R_alloc | apply Kd.R_drewN | apply Kd.R_drew)); exact HO_261009.out) (by decide)) hk (fun _ h => h.2)) (fun _ h => h.1))
                  have n2_ := Aside0.mk (KeepBut.blk hk (g' := gb257) (o := .cells #[.int .i64 0, .int .i64 0, .int .i64 0, .int .i64 0, .int .i64 0, .slice none 0 0, .slice none 0 0, .int .i64 0, .slice none 0 0, .slice none 0 0] 30 (0, 0)) (by (with_reducible repeat (first | refine blk_drewN ?_ _ | refine blk_drew ?_ | refine blk_alloc ?_ _)); exact BK257.out) NB257_0.out (by simp))
                  have n3_ := Aside0.mk (KeepBut.blk hk (g' := gb260) (o := .cells #[.int .i64 t258, .int .i64 0, .int .i64 0, .int .i64 0, .int .i64 0, .slice none 0 0, .slice none 0 0, .int .i64 0, u261008, u261009] 30 (0, 0)) (by (with_reducible repeat (first | refine blk_drewN ?_ _ | refine blk_drew ?_ | refine blk_alloc ?_ _)); exact BK260.out) NB260_0.out (by simp))
                  have n4_ := Aside0.mk (KeepBut.trans (by repeat (first | (with_reducible first | exact HK.out | apply KeepBut.set_ | apply keep_drewN | apply keep_drew | apply keep_alloc | refine keep_far ?_ GW257.out _ | refine keep_far ?_ GW260.out _) | exact HK.out)) hk (.inl rfl))
                  have n5_ := Aside0.mk (hb)
                  have n6_ := Aside0.mk (hi)
                  clear HO_261008
                  clear HO_261009
                  clear BK257
                  clear BK260
                  clear HK
                  clear HB
                  clear HI0
                  have HO_261008 := n0_
                  have HO_261009 := n1_
                  have BK257 := n2_
                  have BK260 := n3_
                  have HK := n4_
                  have HB := n5_
                  have HI0 := n6_
                  clear n0_ n1_ n2_ n3_ n4_ n5_ n6_
                  (try clear hb)
                  (try clear hb2)
                  (try clear hk)
                  (try clear hi)
                  refine hK.out _ _ ⟨(blk_cell BK260.out 0).trans rfl, (blk_cell BK260.out 1).trans rfl, (blk_cell BK260.out 2).trans rfl, (blk_cell BK260.out 3).trans rfl, (blk_cell BK260.out 4).trans rfl, (blk_cell BK260.out 5).trans rfl, (blk_cell BK260.out 6).trans rfl, (blk_cell BK260.out 7).trans rfl, (blk_cell BK260.out 8).trans rfl, (blk_cell BK260.out 9).trans rfl⟩ (fun hHeld => ?_)
                  clear hK K
                  refine norm_ (a' := ?_) ?_ ?_
                  rotate_left
                  · show Act.put _ (some 36) _ = _
                    simp only [Act.put, List.setIfInBounds_toArray, List.set_cons_zero, List.set_cons_succ, i64_w, i32_w]
                    rfl
                  refine one_ (i := 9) (N := some 38) #[true, true, true, true, true, true, true, true, true, true, false, false, false, false, false] rfl rfl (one_of HT_.out (by kernel_rfl)) (by decide) (fun K hK => ?_)
                  refine goes_ Try.func40 (by kernel_rfl) rfl #[.pointer (some ⟨g, 0, none⟩)] (by rfl) rfl rfl (by (try simp only [List.map_toArray, List.map_cons, List.map_nil]); first | done | rfl | (simp only [List.length_drop, List.length_take]; rfl)) ?_
                  with_reducible refine (record_reader_num.calls g t277 t278 t279 w0 _ ?side1 ?side2 A28.out).mono ?_
                  (case side1 => repeat (first | (with_reducible first | exact HI0.out | apply IsS66.alloc | apply IsS66.drewN | apply IsS66.drew | apply IsS66.set_0 | refine IsS66.far ?_ NB0_257.out _ | refine IsS66.far ?_ NB0_260.out _) | exact HI0.out))
                  (case side2 => repeat (first | (with_reducible first | exact HB.out | apply below_alloc | apply pw_below_drewN | apply below_drew1 | refine below_set ?_ (IsS66.ge HI0.out) | refine below_set ?_ GE257.out | refine below_set ?_ GE260.out) | exact HB.out))
                  rintro e w34 ⟨rfl, hi, hb, hk⟩
                  refine ⟨_, rfl, ?_⟩
                  have n0_ := Aside0.mk (Kd.R_mono (Kd.R_keep (IsS66.apart (show IsS66 w0 _ g t277 from by repeat (first | (with_reducible first | exact HI0.out | apply IsS66.alloc | apply IsS66.drewN | apply IsS66.drew | apply IsS66.set_0 | refine IsS66.far ?_ NB0_257.out _ | refine IsS66.far ?_ NB0_260.out _) | exact HI0.out)) (by (with_reducible repeat (first | apply Kd.R_alloc | apply Kd.R_drewN | apply Kd.R_drew)); exact HO_261008.out) (by decide)) hk (fun _ h => h.2)) (fun _ h => h.1))
                  have n1_ := Aside0.mk (Kd.R_mono (Kd.R_keep (IsS66.apart (show IsS66 w0 _ g t277 from by repeat (first | (with_reducible first | exact HI0.out | apply IsS66.alloc | apply IsS66.drewN | apply IsS66.drew | apply IsS66.set_0 | refine IsS66.far ?_ NB0_257.out _ | refine IsS66.far ?_ NB0_260.out _) | exact HI0.out)) (by (with_reducible repeat (first | apply Kd.R_alloc | apply Kd.R_drewN | apply Kd.R_drew)); exact HO_261009.out) (by decide)) hk (fun _ h => h.2)) (fun _ h => h.1))
                  have n2_ := Aside0.mk (KeepBut.blk hk (g' := gb257) (o := .cells #[.int .i64 0, .int .i64 0, .int .i64 0, .int .i64 0, .int .i64 0, .slice none 0 0, .slice none 0 0, .int .i64 0, .slice none 0 0, .slice none 0 0] 30 (0, 0)) (by (with_reducible repeat (first | refine blk_drewN ?_ _ | refine blk_drew ?_ | refine blk_alloc ?_ _)); exact BK257.out) NB257_0.out (by simp))
                  have n3_ := Aside0.mk (KeepBut.blk hk (g' := gb260) (o := .cells #[.int .i64 t258, .int .i64 0, .int .i64 0, .int .i64 0, .int .i64 0, .slice none 0 0, .slice none 0 0, .int .i64 0, u261008, u261009] 30 (0, 0)) (by (with_reducible repeat (first | refine blk_drewN ?_ _ | refine blk_drew ?_ | refine blk_alloc ?_ _)); exact BK260.out) NB260_0.out (by simp))
                  have n4_ := Aside0.mk (KeepBut.trans (by repeat (first | (with_reducible first | exact HK.out | apply KeepBut.set_ | apply keep_drewN | apply keep_drew | apply keep_alloc | refine keep_far ?_ GW257.out _ | refine keep_far ?_ GW260.out _) | exact HK.out)) hk (.inl rfl))
                  have n5_ := Aside0.mk (hb)
                  have n6_ := Aside0.mk (hi)
                  clear HO_261008
                  clear HO_261009
                  clear BK257
                  clear BK260
                  clear HK
                  clear HB
                  clear HI0
                  have HO_261008 := n0_
                  have HO_261009 := n1_
                  have BK257 := n2_
                  have BK260 := n3_
                  have HK := n4_
                  have HB := n5_
                  have HI0 := n6_
                  clear n0_ n1_ n2_ n3_ n4_ n5_ n6_
                  (try clear hb)
                  (try clear hb2)
                  (try clear hk)
                  (try clear hi)
                  refine hK.out _ _ ⟨(blk_cell BK260.out 0).trans rfl, (blk_cell BK260.out 1).trans rfl, (blk_cell BK260.out 2).trans rfl, (blk_cell BK260.out 3).trans rfl, (blk_cell BK260.out 4).trans rfl, (blk_cell BK260.out 5).trans rfl, (blk_cell BK260.out 6).trans rfl, (blk_cell BK260.out 7).trans rfl, (blk_cell BK260.out 8).trans rfl, (blk_cell BK260.out 9).trans rfl⟩ (fun hHeld => ?_)
                  clear hK K
                  refine norm_ (a' := ?_) ?_ ?_
                  rotate_left
                  · show Act.put _ (some 38) _ = _
                    simp only [Act.put, List.setIfInBounds_toArray, List.set_cons_zero, List.set_cons_succ, i64_w, i32_w]
                    rfl
                  refine pure_ (i := 10) (N := some 39) (v := ?_) (a' := ?_) #[true, true, true, true, true, true, true, true, true, true, true, false, false, false, false] rfl rfl (any_of HT_.out (by kernel_rfl)) (fun _ _ _ h => h) (Or.inl ⟨by rfl, ?_⟩) ?_ ?_
                  rotate_left
                  · intro w'
                    go_simp
                    with_reducible rfl
                  rotate_left
                  · simp only [Act.put, List.setIfInBounds_toArray, List.set_cons_zero, List.set_cons_succ, i64_w, i32_w]
                    rfl
                  refine one_ (i := 11) (N := some 40) #[true, true, true, true, true, true, true, true, true, true, true, true, false, false, false] rfl rfl (one_of HT_.out (by kernel_rfl)) (by decide) (fun K hK => ?_)
                  refine value_ (w1 := ?_) (v := ?_) (by rfl) rfl ?_ ?_
                  rotate_left 2
                  · go_simp
                    constructor
                    · rfl
                    · rfl
                  refine hK.out _ _ ⟨(blk_cell (blk_alloc BK260.out _) 0).trans rfl, (blk_cell (blk_alloc BK260.out _) 1).trans rfl, (blk_cell (blk_alloc BK260.out _) 2).trans rfl, (blk_cell (blk_alloc BK260.out _) 3).trans rfl, (blk_cell (blk_alloc BK260.out _) 4).trans rfl, (blk_cell (blk_alloc BK260.out _) 5).trans rfl, (blk_cell (blk_alloc BK260.out _) 6).trans rfl, (blk_cell (blk_alloc BK260.out _) 7).trans rfl, (blk_cell (blk_alloc BK260.out _) 8).trans rfl, (blk_cell (blk_alloc BK260.out _) 9).trans rfl⟩ (fun hHeld => ?_)
                  clear hK K
                  refine norm_ (a' := ?_) ?_ ?_
                  rotate_left
                  · show Act.put _ (some 40) _ = _
                    simp only [Act.put, List.setIfInBounds_toArray, List.set_cons_zero, List.set_cons_succ, i64_w, i32_w]
                    rfl
                  refine one_ (i := 12) (N := some 41) #[true, true, true, true, true, true, true, true, true, true, true, true, true, false, false] rfl rfl (one_of HT_.out (by kernel_rfl)) (by decide) (fun K hK => ?_)
                  refine Kd.R_append_step k56 w.heap.size (by rfl) (.tmp 30) (.tmp 40) 28 56 (.agg #[(.int .i64 0), (.int .i64 0), (.int .i64 0), (.int .i64 0)]) 32 rfl Try.underlying28 info56 rfl (by decide) (by omega) u261009 x261009_2 (⟨t272, t274, t276, t278⟩ : S56) [.int .i64 t272, .int .i64 t274, .int .i64 t276, .int .i64 t278] (fun _ => True) (fun _ => False) rfl rfl ?aP (fun _ hk => hk.elim) ?aF ?aO (Below.refl _ _) ?aS ?aL ?_
                  (case aP => exact k56_mkM _ _ _ (⟨t272, t274, t276, t278⟩ : S56))
                  (case aF => exact (fun _ _ => trivial))
                  (case aO => exact (by (with_reducible repeat (first | apply Kd.R_alloc | apply Kd.R_drewN | apply Kd.R_drew)); exact HO_261009.out))
                  (case aS => exact (keep_size (w := w) (g := g) (row := none) (by repeat (first | (with_reducible first | exact HK.out | apply KeepBut.set_ | apply keep_drewN | apply keep_drew | apply keep_alloc | refine keep_far ?_ GW257.out _ | refine keep_far ?_ GW260.out _) | exact HK.out))))
                  (case aL => have := LMc29.out; omega)
                  intro v281 w35 ho hb hg hat
                  rw [← Ny280.out] at ho
                  have n0_ := Aside0.mk (Kd.R_over' (by (with_reducible repeat (first | apply Kd.R_alloc | apply Kd.R_drewN | apply Kd.R_drew)); exact HO_261008.out) (Kd.R_typed (by (with_reducible repeat (first | apply Kd.R_alloc | apply Kd.R_drewN | apply Kd.R_drew)); exact HO_261009.out)) (by decide) hg)
                  have n1_ := Aside0.mk (blk_grown (g := gb257) (o := .cells #[.int .i64 0, .int .i64 0, .int .i64 0, .int .i64 0, .int .i64 0, .slice none 0 0, .slice none 0 0, .int .i64 0, .slice none 0 0, .slice none 0 0] 30 (0, 0)) (by (with_reducible repeat (first | refine blk_drewN ?_ _ | refine blk_drew ?_ | refine blk_alloc ?_ _)); exact BK257.out) hg (Kd.R_ne HO_261009.out BK257.out (by decide)))
                  have n2_ := Aside0.mk (blk_grown (g := gb260) (o := .cells #[.int .i64 t258, .int .i64 0, .int .i64 0, .int .i64 0, .int .i64 0, .slice none 0 0, .slice none 0 0, .int .i64 0, u261008, u261009] 30 (0, 0)) (by (with_reducible repeat (first | refine blk_drewN ?_ _ | refine blk_drew ?_ | refine blk_alloc ?_ _)); exact BK260.out) hg (Kd.R_ne HO_261009.out BK260.out (by decide)))
                  have n3_ := Aside0.mk (IsS66.grown (by repeat (first | (with_reducible first | exact HI0.out | apply IsS66.alloc | apply IsS66.drewN | apply IsS66.drew | apply IsS66.set_0 | refine IsS66.far ?_ NB0_257.out _ | refine IsS66.far ?_ NB0_260.out _) | exact HI0.out)) hg (IsS66.own_ne HI0.out HO_261009.out (by decide)))
                  have n4_ := Aside0.mk (below_weaken (by repeat (first | (with_reducible first | exact HB.out | apply below_alloc | apply pw_below_drewN | apply below_drew1 | refine below_set ?_ (IsS66.ge HI0.out) | refine below_set ?_ GE257.out | refine below_set ?_ GE260.out) | exact HB.out)) HL.out hb)
                  have n5_ := Aside0.mk (KeepBut.trans (by repeat (first | (with_reducible first | exact HK.out | apply KeepBut.set_ | apply keep_drewN | apply keep_drew | apply keep_alloc | refine keep_far ?_ GW257.out _ | refine keep_far ?_ GW260.out _) | exact HK.out)) (KeepBut.of_grown hg g) (Kd.R_base2 HO_261009.out))
                  have n6_ := Aside0.mk (ho)
                  clear HO_261008
                  clear BK257
                  clear BK260
                  clear HI0
                  clear HB
                  clear HK
                  clear HO_261009
                  have HO_261008 := n0_
                  have BK257 := n1_
                  have BK260 := n2_
                  have HI0 := n3_
                  have HB := n4_
                  have HK := n5_
                  have HO282 := n6_
                  clear n0_ n1_ n2_ n3_ n4_ n5_ n6_
                  clear ho hb hg hat
                  obtain ⟨Ao36, co36, eo36⟩ := Kd.R_slice HO282.out
                  (first | subst eo36 | (injection eo36 with f1_ f2_ f3_; have f4_ := f1_.symm; have f5_ := f3_.symm; clear f1_ f2_ f3_; subst f4_; subst f5_))
                  refine hK.out _ _ ⟨(blk_cell BK260.out 0).trans rfl, (blk_cell BK260.out 1).trans rfl, (blk_cell BK260.out 2).trans rfl, (blk_cell BK260.out 3).trans rfl, (blk_cell BK260.out 4).trans rfl, (blk_cell BK260.out 5).trans rfl, (blk_cell BK260.out 6).trans rfl, (blk_cell BK260.out 7).trans rfl, (blk_cell BK260.out 8).trans rfl, (blk_cell BK260.out 9).trans rfl⟩ (fun hHeld => ?_)
                  clear hK K
                  refine norm_ (a' := ?_) ?_ ?_
                  rotate_left
                  · show Act.put _ (some 41) _ = _
                    simp only [Act.put, List.setIfInBounds_toArray, List.set_cons_zero, List.set_cons_succ, i64_w, i32_w]
                    rfl
                  refine pure_ (i := 13) (N := some 42) (v := ?_) (a' := ?_) #[true, true, true, true, true, true, true, true, true, true, true, true, true, true, false] rfl rfl (any_of HT_.out (by kernel_rfl)) (fun _ _ _ h => h) (Or.inl ⟨by rfl, ?_⟩) ?_ ?_
                  rotate_left
                  · intro w'
                    go_simp
                    with_reducible rfl
                  rotate_left
                  · simp only [Act.put, List.setIfInBounds_toArray, List.set_cons_zero, List.set_cons_succ, i64_w, i32_w]
                    rfl
                  refine last_ (i := 14) (N := none) #[true, true, true, true, true, true, true, true, true, true, true, true, true, true, true] rfl rfl (one_of HT_.out (by kernel_rfl)) (by decide) (fun K hK => ?_)
                  have hs37 : w35.cell? ⟨gb260, 9, none⟩ = some (u261009) := (blk_cell BK260.out 9).trans rfl
                  have hfs37 := blk_frozen BK260.out 9
                  have hns37_0 := NB257_260.out
                  have hms37_0 := NB260_257.out
                  refine skip_ (w1 := ?_) (by rfl) rfl ?_ ?_
                  rotate_left
                  · go_simp
                    rfl
                  refine hK.out _ _ ?_
                  clear hK K
                  refine done_ (done_of HT_.out (by kernel_rfl)) ?_
                  try go_wp2
                  go_roundg k2
                  case measure => have := HK1.out; have := HK2.out; omega
                  case rel => exact ⟨(wrap64 (x27_2 + 1)), (t279), (y280), (.slice Ao36 y280.length co36), (by first | rfl | (simp; done) | (simp [*]; done)), H', ⟨by have := HK1.out; have := HK2.out; omega⟩, ⟨by (with_reducible repeat (first | apply Kd.R_alloc | apply Kd.R_drewN | apply Kd.R_drew)); exact Kd.R_mono (Kd.R_far (p := ⟨gb260, 9, none⟩) (Kd.R_types HO_261008.out BK260.out (by decide)) (fun _ hk => hk.2) (.slice Ao36 y280.length co36)) (fun _ hk => trivial)⟩, ⟨by (with_reducible repeat (first | apply Kd.R_alloc | apply Kd.R_drewN | apply Kd.R_drew)); exact Kd.R_mono (Kd.R_far (p := ⟨gb260, 9, none⟩) (Kd.R_types HO282.out BK260.out (by decide)) (fun _ hk => hk.2) (.slice Ao36 y280.length co36)) (fun _ hk => trivial)⟩, ⟨by (with_reducible repeat (first | refine blk_drewN ?_ _ | refine blk_drew ?_ | refine blk_alloc ?_ _)); refine blk_far ?_ NB257_260.out _; (with_reducible repeat (first | refine blk_drewN ?_ _ | refine blk_drew ?_ | refine blk_alloc ?_ _)); exact BK257.out⟩, ⟨by (with_reducible repeat (first | refine blk_drewN ?_ _ | refine blk_drew ?_ | refine blk_alloc ?_ _)); refine blk_put (cs := #[.int .i64 t258, .int .i64 0, .int .i64 0, .int .i64 0, .int .i64 0, .slice none 0 0, .slice none 0 0, .int .i64 0, u261008, u261009]) ?_ 9 _ rfl; (with_reducible repeat (first | refine blk_drewN ?_ _ | refine blk_drew ?_ | refine blk_alloc ?_ _)); exact BK260.out⟩, ⟨by repeat (first | (with_reducible first | exact HI0.out | apply IsS66.alloc | apply IsS66.drewN | apply IsS66.drew | apply IsS66.set_0 | refine IsS66.far ?_ NB0_257.out _ | refine IsS66.far ?_ NB0_260.out _) | exact HI0.out)⟩, ⟨by repeat (first | (with_reducible first | exact HK.out | apply KeepBut.set_ | apply keep_drewN | apply keep_drew | apply keep_alloc | refine keep_far ?_ GW257.out _ | refine keep_far ?_ GW260.out _) | exact HK.out)⟩, ⟨by repeat (first | (with_reducible first | exact HB.out | apply below_alloc | apply pw_below_drewN | apply below_drew1 | refine below_set ?_ (IsS66.ge HI0.out) | refine below_set ?_ GE257.out | refine below_set ?_ GE260.out) | exact HB.out)⟩⟩
                · rw [if_neg c29] at H
                  exact absurd H (by simp)
              · rw [if_neg c24] at H
                have c24b0 : decide (x27_2 < t270) = false := decide_eq_false c24
                clear c24
                simp only [Option.some.injEq, Prod.mk.injEq] at H
                obtain ⟨rfl, rfl, rfl, rfl, rfl, rfl, rfl, rfl, rfl, rfl, rfl⟩ := H
                have hnb38 := NB260_257.out
                have hnc38 := NB257_260.out
                have hnb39 := NB260_0.out
                have hnc39 := NB0_260.out
                have hcz40_0 : wr.cell? ⟨gb260, 0, none⟩ = some (.int .i64 t258) := (blk_cell BK260.out 0).trans rfl
                have hcz40_1 : wr.cell? ⟨gb260, 1, none⟩ = some (.int .i64 0) := (blk_cell BK260.out 1).trans rfl
                have hcz40_2 : wr.cell? ⟨gb260, 2, none⟩ = some (.int .i64 0) := (blk_cell BK260.out 2).trans rfl
                have hcz40_3 : wr.cell? ⟨gb260, 3, none⟩ = some (.int .i64 0) := (blk_cell BK260.out 3).trans rfl
                have hcz40_4 : wr.cell? ⟨gb260, 4, none⟩ = some (.int .i64 0) := (blk_cell BK260.out 4).trans rfl
                have hcz40_5 : wr.cell? ⟨gb260, 5, none⟩ = some (.slice none 0 0) := (blk_cell BK260.out 5).trans rfl
                have hcz40_6 : wr.cell? ⟨gb260, 6, none⟩ = some (.slice none 0 0) := (blk_cell BK260.out 6).trans rfl
                have hcz40_7 : wr.cell? ⟨gb260, 7, none⟩ = some (.int .i64 0) := (blk_cell BK260.out 7).trans rfl
                have hcz40_8 : wr.cell? ⟨gb260, 8, none⟩ = some (u261008) := (blk_cell BK260.out 8).trans rfl
                have hcz40_9 : wr.cell? ⟨gb260, 9, none⟩ = some (u261009) := (blk_cell BK260.out 9).trans rfl
                have hfz40_0 := blk_frozen BK260.out 0
                have hfz40_1 := blk_frozen BK260.out 1
                have hfz40_2 := blk_frozen BK260.out 2
                have hfz40_3 := blk_frozen BK260.out 3
                have hfz40_4 := blk_frozen BK260.out 4
                have hfz40_5 := blk_frozen BK260.out 5
                have hfz40_6 := blk_frozen BK260.out 6
                have hfz40_7 := blk_frozen BK260.out 7
                have hfz40_8 := blk_frozen BK260.out 8
                have hfz40_9 := blk_frozen BK260.out 9
                have hnb41 := NB257_0.out
                have hnc41 := NB0_257.out
                have hcz42_0 : wr.cell? ⟨gb257, 0, none⟩ = some (.int .i64 0) := (blk_cell BK257.out 0).trans rfl
                have hcz42_1 : wr.cell? ⟨gb257, 1, none⟩ = some (.int .i64 0) := (blk_cell BK257.out 1).trans rfl
                have hcz42_2 : wr.cell? ⟨gb257, 2, none⟩ = some (.int .i64 0) := (blk_cell BK257.out 2).trans rfl
                have hcz42_3 : wr.cell? ⟨gb257, 3, none⟩ = some (.int .i64 0) := (blk_cell BK257.out 3).trans rfl
                have hcz42_4 : wr.cell? ⟨gb257, 4, none⟩ = some (.int .i64 0) := (blk_cell BK257.out 4).trans rfl
                have hcz42_5 : wr.cell? ⟨gb257, 5, none⟩ = some (.slice none 0 0) := (blk_cell BK257.out 5).trans rfl
                have hcz42_6 : wr.cell? ⟨gb257, 6, none⟩ = some (.slice none 0 0) := (blk_cell BK257.out 6).trans rfl
                have hcz42_7 : wr.cell? ⟨gb257, 7, none⟩ = some (.int .i64 0) := (blk_cell BK257.out 7).trans rfl
                have hcz42_8 : wr.cell? ⟨gb257, 8, none⟩ = some (.slice none 0 0) := (blk_cell BK257.out 8).trans rfl
                have hcz42_9 : wr.cell? ⟨gb257, 9, none⟩ = some (.slice none 0 0) := (blk_cell BK257.out 9).trans rfl
                have hfz42_0 := blk_frozen BK257.out 0
                have hfz42_1 := blk_frozen BK257.out 1
                have hfz42_2 := blk_frozen BK257.out 2
                have hfz42_3 := blk_frozen BK257.out 3
                have hfz42_4 := blk_frozen BK257.out 4
                have hfz42_5 := blk_frozen BK257.out 5
                have hfz42_6 := blk_frozen BK257.out 6
                have hfz42_7 := blk_frozen BK257.out 7
                have hfz42_8 := blk_frozen BK257.out 8
                have hfz42_9 := blk_frozen BK257.out 9
                obtain ⟨Ao43, co43, eo43⟩ := Kd.R_slice HO_261008.out
                subst eo43
                obtain ⟨Ao44, co44, eo44⟩ := Kd.R_slice HO_261009.out
                subst eo44
                go_wp2
                refine bodyPost_ret (results_cell_row rfl _ _ gb257 30 #[.int .i64 t258, .int .i64 0, .int .i64 0, .int .i64 0, .int .i64 0, .slice none 0 0, .slice none 0 0, .int .i64 0, .slice Ao43 x261008_1.length co43, .slice Ao44 x261009_2.length co44] (0, 0) _ rfl (by (with_reducible repeat (first | refine blk_drewN ?_ _ | refine blk_drew ?_ | refine blk_alloc ?_ _)); refine blk_put (cs := #[.int .i64 t258, .int .i64 0, .int .i64 0, .int .i64 0, .int .i64 0, .slice none 0 0, .slice none 0 0, .int .i64 0, .slice Ao43 x261008_1.length co43, .slice none 0 0]) ?_ 9 _ rfl; (with_reducible repeat (first | refine blk_drewN ?_ _ | refine blk_drew ?_ | refine blk_alloc ?_ _)); refine blk_put (cs := #[.int .i64 t258, .int .i64 0, .int .i64 0, .int .i64 0, .int .i64 0, .slice none 0 0, .slice none 0 0, .int .i64 0, .slice none 0 0, .slice none 0 0]) ?_ 8 _ rfl; (with_reducible repeat (first | refine blk_drewN ?_ _ | refine blk_drew ?_ | refine blk_alloc ?_ _)); refine blk_put (cs := #[.int .i64 t258, .int .i64 0, .int .i64 0, .int .i64 0, .int .i64 0, .slice none 0 0, .slice none 0 0, .int .i64 0, .slice none 0 0, .slice none 0 0]) ?_ 7 _ rfl; (with_reducible repeat (first | refine blk_drewN ?_ _ | refine blk_drew ?_ | refine blk_alloc ?_ _)); refine blk_put (cs := #[.int .i64 t258, .int .i64 0, .int .i64 0, .int .i64 0, .int .i64 0, .slice none 0 0, .slice none 0 0, .int .i64 0, .slice none 0 0, .slice none 0 0]) ?_ 6 _ rfl; (with_reducible repeat (first | refine blk_drewN ?_ _ | refine blk_drew ?_ | refine blk_alloc ?_ _)); refine blk_put (cs := #[.int .i64 t258, .int .i64 0, .int .i64 0, .int .i64 0, .int .i64 0, .slice none 0 0, .slice none 0 0, .int .i64 0, .slice none 0 0, .slice none 0 0]) ?_ 5 _ rfl; (with_reducible repeat (first | refine blk_drewN ?_ _ | refine blk_drew ?_ | refine blk_alloc ?_ _)); refine blk_put (cs := #[.int .i64 t258, .int .i64 0, .int .i64 0, .int .i64 0, .int .i64 0, .slice none 0 0, .slice none 0 0, .int .i64 0, .slice none 0 0, .slice none 0 0]) ?_ 4 _ rfl; (with_reducible repeat (first | refine blk_drewN ?_ _ | refine blk_drew ?_ | refine blk_alloc ?_ _)); refine blk_put (cs := #[.int .i64 t258, .int .i64 0, .int .i64 0, .int .i64 0, .int .i64 0, .slice none 0 0, .slice none 0 0, .int .i64 0, .slice none 0 0, .slice none 0 0]) ?_ 3 _ rfl; (with_reducible repeat (first | refine blk_drewN ?_ _ | refine blk_drew ?_ | refine blk_alloc ?_ _)); refine blk_put (cs := #[.int .i64 t258, .int .i64 0, .int .i64 0, .int .i64 0, .int .i64 0, .slice none 0 0, .slice none 0 0, .int .i64 0, .slice none 0 0, .slice none 0 0]) ?_ 2 _ rfl; (with_reducible repeat (first | refine blk_drewN ?_ _ | refine blk_drew ?_ | refine blk_alloc ?_ _)); refine blk_put (cs := #[.int .i64 t258, .int .i64 0, .int .i64 0, .int .i64 0, .int .i64 0, .slice none 0 0, .slice none 0 0, .int .i64 0, .slice none 0 0, .slice none 0 0]) ?_ 1 _ rfl; (with_reducible repeat (first | refine blk_drewN ?_ _ | refine blk_drew ?_ | refine blk_alloc ?_ _)); refine blk_put (cs := #[.int .i64 0, .int .i64 0, .int .i64 0, .int .i64 0, .int .i64 0, .slice none 0 0, .slice none 0 0, .int .i64 0, .slice none 0 0, .slice none 0 0]) ?_ 0 _ rfl; (with_reducible repeat (first | refine blk_drewN ?_ _ | refine blk_drew ?_ | refine blk_alloc ?_ _)); exact BK257.out) Try.underlying30 rfl (by kernel_rfl)) rfl ?_
                exact ⟨_, _, _, _, by first | rfl | (simp [errW_none, errW_some] <;> rfl) | (simp [*, errW_none, errW_some] <;> rfl), by first | exact Kd.R_nil _ _ _ _ _ | exact Kd.N_nil _ _ _ _ _ | exact Kd.V_nil _ _ _ _ _ | exact Kd.Q_nil _ _ _ _ _ | exact Kd.S_nil _ _ _ _ _, by first | exact Kd.R_nil _ _ _ _ _ | exact Kd.N_nil _ _ _ _ _ | exact Kd.V_nil _ _ _ _ _ | exact Kd.Q_nil _ _ _ _ _ | exact Kd.S_nil _ _ _ _ _, by (with_reducible repeat (first | apply Kd.R_alloc | apply Kd.R_drewN | apply Kd.R_drew)); exact Kd.R_mono (Kd.R_far (p := ⟨gb257, 9, none⟩) (Kd.R_far (p := ⟨gb257, 8, none⟩) (Kd.R_far (p := ⟨gb257, 7, none⟩) (Kd.R_far (p := ⟨gb257, 6, none⟩) (Kd.R_far (p := ⟨gb257, 5, none⟩) (Kd.R_far (p := ⟨gb257, 4, none⟩) (Kd.R_far (p := ⟨gb257, 3, none⟩) (Kd.R_far (p := ⟨gb257, 2, none⟩) (Kd.R_far (p := ⟨gb257, 1, none⟩) (Kd.R_far (p := ⟨gb257, 0, none⟩) (Kd.R_types HO_261008.out BK257.out (by decide)) (fun _ hk => hk.2) (.int .i64 t258)) (fun _ hk => hk.2) (.int .i64 0)) (fun _ hk => hk.2) (.int .i64 0)) (fun _ hk => hk.2) (.int .i64 0)) (fun _ hk => hk.2) (.int .i64 0)) (fun _ hk => hk.2) (.slice none 0 0)) (fun _ hk => hk.2) (.slice none 0 0)) (fun _ hk => hk.2) (.int .i64 0)) (fun _ hk => hk.2) (.slice Ao43 x261008_1.length co43)) (fun _ hk => hk.2) (.slice Ao44 x261009_2.length co44)) (fun _ hk => trivial), by (with_reducible repeat (first | apply Kd.R_alloc | apply Kd.R_drewN | apply Kd.R_drew)); exact Kd.R_mono (Kd.R_far (p := ⟨gb257, 9, none⟩) (Kd.R_far (p := ⟨gb257, 8, none⟩) (Kd.R_far (p := ⟨gb257, 7, none⟩) (Kd.R_far (p := ⟨gb257, 6, none⟩) (Kd.R_far (p := ⟨gb257, 5, none⟩) (Kd.R_far (p := ⟨gb257, 4, none⟩) (Kd.R_far (p := ⟨gb257, 3, none⟩) (Kd.R_far (p := ⟨gb257, 2, none⟩) (Kd.R_far (p := ⟨gb257, 1, none⟩) (Kd.R_far (p := ⟨gb257, 0, none⟩) (Kd.R_types HO_261009.out BK257.out (by decide)) (fun _ hk => hk.2) (.int .i64 t258)) (fun _ hk => hk.2) (.int .i64 0)) (fun _ hk => hk.2) (.int .i64 0)) (fun _ hk => hk.2) (.int .i64 0)) (fun _ hk => hk.2) (.int .i64 0)) (fun _ hk => hk.2) (.slice none 0 0)) (fun _ hk => hk.2) (.slice none 0 0)) (fun _ hk => hk.2) (.int .i64 0)) (fun _ hk => hk.2) (.slice Ao43 x261008_1.length co43)) (fun _ hk => hk.2) (.slice Ao44 x261009_2.length co44)) (fun _ hk => trivial), by repeat (first | (with_reducible first | exact HI0.out | apply IsS66.alloc | apply IsS66.drewN | apply IsS66.drew | apply IsS66.set_0 | refine IsS66.far ?_ NB0_257.out _ | refine IsS66.far ?_ NB0_260.out _) | exact HI0.out), by repeat (first | (with_reducible first | exact HB.out | apply below_alloc | apply pw_below_drewN | apply below_drew1 | refine below_set ?_ (IsS66.ge HI0.out) | refine below_set ?_ GE257.out | refine below_set ?_ GE260.out) | exact HB.out), by repeat (first | (with_reducible first | exact HK.out | apply KeepBut.set_ | apply keep_drewN | apply keep_drew | apply keep_alloc | refine keep_far ?_ GW257.out _ | refine keep_far ?_ GW260.out _) | exact HK.out)⟩
  · rw [if_neg c3] at H
    have c3b0 : (t258 == 5) = false := beq_eq_false_iff_ne.mpr c3
    have c3b1 : (t258 != 5) = true := bne_iff_ne.mpr c3
    replace H := Option.bind_eq_some_iff.mp H
    obtain ⟨⟨t283, t284⟩, A450, H⟩ := H
    replace H : ((record_reader_num.f t284).bind fun bt285 => (if t258 = 2 then ((record_reader_num.f bt285.2).bind fun bt287 => (record_reader_read.j2 k bt287.2 t258 t283 bt285.1 0 0 bt287.1)) else (record_reader_read.j2 k bt285.2 t258 t283 bt285.1 0 0 0))) = some (r1, r2, r3, r4, r5, r6, r7, r8, r9, r10, r11) := H
    have A45 := Aside0.mk A450
    clear A450
    replace H := Option.bind_eq_some_iff.mp H
    obtain ⟨⟨t285, t286⟩, A460, H⟩ := H
    replace H : (if t258 = 2 then ((record_reader_num.f t286).bind fun bt287 => (record_reader_read.j2 k bt287.2 t258 t283 t285 0 0 bt287.1)) else (record_reader_read.j2 k t286 t258 t283 t285 0 0 0)) = some (r1, r2, r3, r4, r5, r6, r7, r8, r9, r10, r11) := H
    have A46 := Aside0.mk A460
    clear A460
    have HC47 := Aside0.mk H
    clear H
    go_enter Try.func26, Try.ntmps26
    go_upto_if 53 with (first | ((with_reducible refine gate_dst (N := 2) rfl ?_); refine box_event ?hg (N := 2) ?hd (cs := #[.int .i64 0, .int .i64 0, .int .i64 0, .int .i64 0, .int .i64 0, .slice none 0 0, .slice none 0 0, .int .i64 0, .slice none 0 0, .slice none 0 0]) (t := 30) ?hr ?_; (case hd => rfl); (case hg => rfl); (case hr => first | (go_simp; done) | (go_simp; rfl)); intro gb257 hg w48 hbox hb; have n0_ := Aside0.mk (IsS66.below (by repeat (first | (with_reducible first | exact HI0.out | apply IsS66.alloc | apply IsS66.drewN | apply IsS66.drew | apply IsS66.set_0) | exact HI0.out)) hb); have n1_ := Aside0.mk (KeepBut.trans (by repeat (first | (with_reducible first | exact HK.out | apply KeepBut.set_ | apply keep_drewN | apply keep_drew | apply keep_alloc) | exact HK.out)) (KeepBut.of_below hb g none) (.inl rfl)); have n2_ := Aside0.mk (below_step (by repeat (first | (with_reducible first | exact HB.out | apply below_alloc | apply pw_below_drewN | apply below_drew1 | refine below_set ?_ (IsS66.ge HI0.out)) | exact HB.out)) hb); have n3_ := Aside0.mk (hbox); have n4_ := Aside0.mk ((by rw [hg]; exact (keep_size (w := w) (g := g) (row := none) (by repeat (first | (with_reducible first | exact HK.out | apply KeepBut.set_ | apply keep_drewN | apply keep_drew | apply keep_alloc) | exact HK.out))) : w.heap.size ≤ gb257)); have n5_ := Aside0.mk ((Nat.le_trans HW0.out (by rw [hg]; exact (keep_size (w := w) (g := g) (row := none) (by repeat (first | (with_reducible first | exact HK.out | apply KeepBut.set_ | apply keep_drewN | apply keep_drew | apply keep_alloc) | exact HK.out))) : w.heap.size ≤ gb257) : w0.heap.size ≤ gb257)); have n6_ := Aside0.mk ((by rw [hg]; exact Nat.ne_of_lt (IsS66.lt (show IsS66 w0 _ g s0_0 from by repeat (first | (with_reducible first | exact HI0.out | apply IsS66.alloc | apply IsS66.drewN | apply IsS66.drew | apply IsS66.set_0) | exact HI0.out))) : g ≠ gb257)); have n7_ := Aside0.mk ((by rw [hg]; exact Nat.ne_of_gt (IsS66.lt (show IsS66 w0 _ g s0_0 from by repeat (first | (with_reducible first | exact HI0.out | apply IsS66.alloc | apply IsS66.drewN | apply IsS66.drew | apply IsS66.set_0) | exact HI0.out))) : gb257 ≠ g)); clear HI0; clear HK; clear HB; have HI0 := n0_; have HK := n1_; have HB := n2_; have BK257 := n3_; have GW257 := n4_; have GE257 := n5_; have NB0_257 := n6_; have NB257_0 := n7_; clear n0_ n1_ n2_ n3_ n4_ n5_ n6_ n7_; clear hb hbox hg) | ((with_reducible refine gate_callee (f := 40) rfl ?_); refine goesL_ (some 5) rfl rfl Try.func40 (by kernel_rfl) rfl #[.pointer (some ⟨g, 0, none⟩)] rfl (by (try simp only [List.map_toArray, List.map_cons, List.map_nil]); first | done | rfl | (simp only [List.length_drop, List.length_take]; rfl)) ?_; (with_reducible refine (record_reader_num.calls g s0_0 t258 t259 w0 _ ?side1 ?side2 A2.out).mono ?_); (case side1 => repeat (first | (with_reducible first | exact HI0.out | apply IsS66.alloc | apply IsS66.drewN | apply IsS66.drew | apply IsS66.set_0 | refine IsS66.far ?_ NB0_257.out _) | exact HI0.out)); (case side2 => repeat (first | (with_reducible first | exact HB.out | apply below_alloc | apply pw_below_drewN | apply below_drew1 | refine below_set ?_ (IsS66.ge HI0.out) | refine below_set ?_ GE257.out) | exact HB.out)); rintro e w49 ⟨rfl, hi, hb, hk⟩; refine ⟨_, rfl, ?_⟩; have n0_ := Aside0.mk (KeepBut.blk hk (g' := gb257) (o := .cells #[.int .i64 0, .int .i64 0, .int .i64 0, .int .i64 0, .int .i64 0, .slice none 0 0, .slice none 0 0, .int .i64 0, .slice none 0 0, .slice none 0 0] 30 (0, 0)) (by (with_reducible repeat (first | refine blk_drewN ?_ _ | refine blk_drew ?_ | refine blk_alloc ?_ _)); exact BK257.out) NB257_0.out (by simp)); have n1_ := Aside0.mk (KeepBut.trans (by repeat (first | (with_reducible first | exact HK.out | apply KeepBut.set_ | apply keep_drewN | apply keep_drew | apply keep_alloc | refine keep_far ?_ GW257.out _) | exact HK.out)) hk (.inl rfl)); have n2_ := Aside0.mk (hb); have n3_ := Aside0.mk (hi); clear BK257; clear HK; clear HB; clear HI0; have BK257 := n0_; have HK := n1_; have HB := n2_; have HI0 := n3_; clear n0_ n1_ n2_ n3_; (try clear hb); (try clear hb2); (try clear hk); (try clear hi)) | ((with_reducible refine gate_dst (N := 3) rfl ?_); refine box_event ?hg (N := 3) ?hd (cs := #[.int .i64 0, .int .i64 0, .int .i64 0, .int .i64 0, .int .i64 0, .slice none 0 0, .slice none 0 0, .int .i64 0, .slice none 0 0, .slice none 0 0]) (t := 30) ?hr ?_; (case hd => rfl); (case hg => rfl); (case hr => first | (go_simp; done) | (go_simp; rfl)); intro gb260 hg w50 hbox hb; have n0_ := Aside0.mk (IsS66.below (by repeat (first | (with_reducible first | exact HI0.out | apply IsS66.alloc | apply IsS66.drewN | apply IsS66.drew | apply IsS66.set_0 | refine IsS66.far ?_ NB0_257.out _) | exact HI0.out)) hb); have n1_ := Aside0.mk (blk_below (g := gb257) (o := .cells #[.int .i64 0, .int .i64 0, .int .i64 0, .int .i64 0, .int .i64 0, .slice none 0 0, .slice none 0 0, .int .i64 0, .slice none 0 0, .slice none 0 0] 30 (0, 0)) (by (with_reducible repeat (first | refine blk_drewN ?_ _ | refine blk_drew ?_ | refine blk_alloc ?_ _)); exact BK257.out) hb); have n2_ := Aside0.mk (KeepBut.trans (by repeat (first | (with_reducible first | exact HK.out | apply KeepBut.set_ | apply keep_drewN | apply keep_drew | apply keep_alloc | refine keep_far ?_ GW257.out _) | exact HK.out)) (KeepBut.of_below hb g none) (.inl rfl)); have n3_ := Aside0.mk (below_step (by repeat (first | (with_reducible first | exact HB.out | apply below_alloc | apply pw_below_drewN | apply below_drew1 | refine below_set ?_ (IsS66.ge HI0.out) | refine below_set ?_ GE257.out) | exact HB.out)) hb); have n4_ := Aside0.mk (hbox); have n5_ := Aside0.mk ((by rw [hg]; exact (keep_size (w := w) (g := g) (row := none) (by repeat (first | (with_reducible first | exact HK.out | apply KeepBut.set_ | apply keep_drewN | apply keep_drew | apply keep_alloc | refine keep_far ?_ GW257.out _) | exact HK.out))) : w.heap.size ≤ gb260)); have n6_ := Aside0.mk ((Nat.le_trans HW0.out (by rw [hg]; exact (keep_size (w := w) (g := g) (row := none) (by repeat (first | (with_reducible first | exact HK.out | apply KeepBut.set_ | apply keep_drewN | apply keep_drew | apply keep_alloc | refine keep_far ?_ GW257.out _) | exact HK.out))) : w.heap.size ≤ gb260) : w0.heap.size ≤ gb260)); have n7_ := Aside0.mk ((by rw [hg]; exact Nat.ne_of_lt (blk_lt (g := gb257) (o := .cells #[.int .i64 0, .int .i64 0, .int .i64 0, .int .i64 0, .int .i64 0, .slice none 0 0, .slice none 0 0, .int .i64 0, .slice none 0 0, .slice none 0 0] 30 (0, 0)) (by (with_reducible repeat (first | refine blk_drewN ?_ _ | refine blk_drew ?_ | refine blk_alloc ?_ _)); exact BK257.out)) : gb257 ≠ gb260)); have n8_ := Aside0.mk ((by rw [hg]; exact Nat.ne_of_gt (blk_lt (g := gb257) (o := .cells #[.int .i64 0, .int .i64 0, .int .i64 0, .int .i64 0, .int .i64 0, .slice none 0 0, .slice none 0 0, .int .i64 0, .slice none 0 0, .slice none 0 0] 30 (0, 0)) (by (with_reducible repeat (first | refine blk_drewN ?_ _ | refine blk_drew ?_ | refine blk_alloc ?_ _)); exact BK257.out)) : gb260 ≠ gb257)); have n9_ := Aside0.mk ((by rw [hg]; exact Nat.ne_of_lt (IsS66.lt (show IsS66 w0 _ g t259 from by repeat (first | (with_reducible first | exact HI0.out | apply IsS66.alloc | apply IsS66.drewN | apply IsS66.drew | apply IsS66.set_0 | refine IsS66.far ?_ NB0_257.out _) | exact HI0.out))) : g ≠ gb260)); have n10_ := Aside0.mk ((by rw [hg]; exact Nat.ne_of_gt (IsS66.lt (show IsS66 w0 _ g t259 from by repeat (first | (with_reducible first | exact HI0.out | apply IsS66.alloc | apply IsS66.drewN | apply IsS66.drew | apply IsS66.set_0 | refine IsS66.far ?_ NB0_257.out _) | exact HI0.out))) : gb260 ≠ g)); clear HI0; clear BK257; clear HK; clear HB; have HI0 := n0_; have BK257 := n1_; have HK := n2_; have HB := n3_; have BK260 := n4_; have GW260 := n5_; have GE260 := n6_; have NB257_260 := n7_; have NB260_257 := n8_; have NB0_260 := n9_; have NB260_0 := n10_; clear n0_ n1_ n2_ n3_ n4_ n5_ n6_ n7_ n8_ n9_ n10_; clear hb hbox hg; have hnb51 := NB260_257.out; have hnc51 := NB257_260.out; have hnb52 := NB260_0.out; have hnc52 := NB0_260.out; have hcz53_0 : w50.cell? ⟨gb260, 0, none⟩ = some (.int .i64 0) := (blk_cell BK260.out 0).trans rfl; have hcz53_1 : w50.cell? ⟨gb260, 1, none⟩ = some (.int .i64 0) := (blk_cell BK260.out 1).trans rfl; have hcz53_2 : w50.cell? ⟨gb260, 2, none⟩ = some (.int .i64 0) := (blk_cell BK260.out 2).trans rfl; have hcz53_3 : w50.cell? ⟨gb260, 3, none⟩ = some (.int .i64 0) := (blk_cell BK260.out 3).trans rfl; have hcz53_4 : w50.cell? ⟨gb260, 4, none⟩ = some (.int .i64 0) := (blk_cell BK260.out 4).trans rfl; have hcz53_5 : w50.cell? ⟨gb260, 5, none⟩ = some (.slice none 0 0) := (blk_cell BK260.out 5).trans rfl; have hcz53_6 : w50.cell? ⟨gb260, 6, none⟩ = some (.slice none 0 0) := (blk_cell BK260.out 6).trans rfl; have hcz53_7 : w50.cell? ⟨gb260, 7, none⟩ = some (.int .i64 0) := (blk_cell BK260.out 7).trans rfl; have hcz53_8 : w50.cell? ⟨gb260, 8, none⟩ = some (.slice none 0 0) := (blk_cell BK260.out 8).trans rfl; have hcz53_9 : w50.cell? ⟨gb260, 9, none⟩ = some (.slice none 0 0) := (blk_cell BK260.out 9).trans rfl; have hfz53_0 := blk_frozen BK260.out 0; have hfz53_1 := blk_frozen BK260.out 1; have hfz53_2 := blk_frozen BK260.out 2; have hfz53_3 := blk_frozen BK260.out 3; have hfz53_4 := blk_frozen BK260.out 4; have hfz53_5 := blk_frozen BK260.out 5; have hfz53_6 := blk_frozen BK260.out 6; have hfz53_7 := blk_frozen BK260.out 7; have hfz53_8 := blk_frozen BK260.out 8; have hfz53_9 := blk_frozen BK260.out 9) | ((with_reducible refine gate_callee (f := 40) rfl ?_); refine goesL_ (some 46) rfl rfl Try.func40 (by kernel_rfl) rfl #[.pointer (some ⟨g, 0, none⟩)] rfl (by (try simp only [List.map_toArray, List.map_cons, List.map_nil]); first | done | rfl | (simp only [List.length_drop, List.length_take]; rfl)) ?_; (with_reducible refine (record_reader_num.calls g t259 t283 t284 w0 _ ?side1 ?side2 A45.out).mono ?_); (case side1 => repeat (first | (with_reducible first | exact HI0.out | apply IsS66.alloc | apply IsS66.drewN | apply IsS66.drew | apply IsS66.set_0 | refine IsS66.far ?_ NB0_257.out _ | refine IsS66.far ?_ NB0_260.out _) | exact HI0.out)); (case side2 => repeat (first | (with_reducible first | exact HB.out | apply below_alloc | apply pw_below_drewN | apply below_drew1 | refine below_set ?_ (IsS66.ge HI0.out) | refine below_set ?_ GE257.out | refine below_set ?_ GE260.out) | exact HB.out)); rintro e w54 ⟨rfl, hi, hb, hk⟩; refine ⟨_, rfl, ?_⟩; have n0_ := Aside0.mk (KeepBut.blk hk (g' := gb257) (o := .cells #[.int .i64 0, .int .i64 0, .int .i64 0, .int .i64 0, .int .i64 0, .slice none 0 0, .slice none 0 0, .int .i64 0, .slice none 0 0, .slice none 0 0] 30 (0, 0)) (by (with_reducible repeat (first | refine blk_drewN ?_ _ | refine blk_drew ?_ | refine blk_alloc ?_ _)); refine blk_far ?_ NB257_260.out _; (with_reducible repeat (first | refine blk_drewN ?_ _ | refine blk_drew ?_ | refine blk_alloc ?_ _)); refine blk_far ?_ NB257_260.out _; (with_reducible repeat (first | refine blk_drewN ?_ _ | refine blk_drew ?_ | refine blk_alloc ?_ _)); refine blk_far ?_ NB257_260.out _; (with_reducible repeat (first | refine blk_drewN ?_ _ | refine blk_drew ?_ | refine blk_alloc ?_ _)); refine blk_far ?_ NB257_260.out _; (with_reducible repeat (first | refine blk_drewN ?_ _ | refine blk_drew ?_ | refine blk_alloc ?_ _)); refine blk_far ?_ NB257_260.out _; (with_reducible repeat (first | refine blk_drewN ?_ _ | refine blk_drew ?_ | refine blk_alloc ?_ _)); refine blk_far ?_ NB257_260.out _; (with_reducible repeat (first | refine blk_drewN ?_ _ | refine blk_drew ?_ | refine blk_alloc ?_ _)); refine blk_far ?_ NB257_260.out _; (with_reducible repeat (first | refine blk_drewN ?_ _ | refine blk_drew ?_ | refine blk_alloc ?_ _)); refine blk_far ?_ NB257_260.out _; (with_reducible repeat (first | refine blk_drewN ?_ _ | refine blk_drew ?_ | refine blk_alloc ?_ _)); refine blk_far ?_ NB257_260.out _; (with_reducible repeat (first | refine blk_drewN ?_ _ | refine blk_drew ?_ | refine blk_alloc ?_ _)); refine blk_far ?_ NB257_260.out _; (with_reducible repeat (first | refine blk_drewN ?_ _ | refine blk_drew ?_ | refine blk_alloc ?_ _)); exact BK257.out) NB257_0.out (by simp)); have n1_ := Aside0.mk (KeepBut.blk hk (g' := gb260) (o := .cells #[.int .i64 t258, .int .i64 0, .int .i64 0, .int .i64 0, .int .i64 0, .slice none 0 0, .slice none 0 0, .int .i64 0, .slice none 0 0, .slice none 0 0] 30 (0, 0)) (by (with_reducible repeat (first | refine blk_drewN ?_ _ | refine blk_drew ?_ | refine blk_alloc ?_ _)); refine blk_put (cs := #[.int .i64 t258, .int .i64 0, .int .i64 0, .int .i64 0, .int .i64 0, .slice none 0 0, .slice none 0 0, .int .i64 0, .slice none 0 0, .slice none 0 0]) ?_ 9 _ rfl; (with_reducible repeat (first | refine blk_drewN ?_ _ | refine blk_drew ?_ | refine blk_alloc ?_ _)); refine blk_put (cs := #[.int .i64 t258, .int .i64 0, .int .i64 0, .int .i64 0, .int .i64 0, .slice none 0 0, .slice none 0 0, .int .i64 0, .slice none 0 0, .slice none 0 0]) ?_ 8 _ rfl; (with_reducible repeat (first | refine blk_drewN ?_ _ | refine blk_drew ?_ | refine blk_alloc ?_ _)); refine blk_put (cs := #[.int .i64 t258, .int .i64 0, .int .i64 0, .int .i64 0, .int .i64 0, .slice none 0 0, .slice none 0 0, .int .i64 0, .slice none 0 0, .slice none 0 0]) ?_ 7 _ rfl; (with_reducible repeat (first | refine blk_drewN ?_ _ | refine blk_drew ?_ | refine blk_alloc ?_ _)); refine blk_put (cs := #[.int .i64 t258, .int .i64 0, .int .i64 0, .int .i64 0, .int .i64 0, .slice none 0 0, .slice none 0 0, .int .i64 0, .slice none 0 0, .slice none 0 0]) ?_ 6 _ rfl; (with_reducible repeat (first | refine blk_drewN ?_ _ | refine blk_drew ?_ | refine blk_alloc ?_ _)); refine blk_put (cs := #[.int .i64 t258, .int .i64 0, .int .i64 0, .int .i64 0, .int .i64 0, .slice none 0 0, .slice none 0 0, .int .i64 0, .slice none 0 0, .slice none 0 0]) ?_ 5 _ rfl; (with_reducible repeat (first | refine blk_drewN ?_ _ | refine blk_drew ?_ | refine blk_alloc ?_ _)); refine blk_put (cs := #[.int .i64 t258, .int .i64 0, .int .i64 0, .int .i64 0, .int .i64 0, .slice none 0 0, .slice none 0 0, .int .i64 0, .slice none 0 0, .slice none 0 0]) ?_ 4 _ rfl; (with_reducible repeat (first | refine blk_drewN ?_ _ | refine blk_drew ?_ | refine blk_alloc ?_ _)); refine blk_put (cs := #[.int .i64 t258, .int .i64 0, .int .i64 0, .int .i64 0, .int .i64 0, .slice none 0 0, .slice none 0 0, .int .i64 0, .slice none 0 0, .slice none 0 0]) ?_ 3 _ rfl; (with_reducible repeat (first | refine blk_drewN ?_ _ | refine blk_drew ?_ | refine blk_alloc ?_ _)); refine blk_put (cs := #[.int .i64 t258, .int .i64 0, .int .i64 0, .int .i64 0, .int .i64 0, .slice none 0 0, .slice none 0 0, .int .i64 0, .slice none 0 0, .slice none 0 0]) ?_ 2 _ rfl; (with_reducible repeat (first | refine blk_drewN ?_ _ | refine blk_drew ?_ | refine blk_alloc ?_ _)); refine blk_put (cs := #[.int .i64 t258, .int .i64 0, .int .i64 0, .int .i64 0, .int .i64 0, .slice none 0 0, .slice none 0 0, .int .i64 0, .slice none 0 0, .slice none 0 0]) ?_ 1 _ rfl; (with_reducible repeat (first | refine blk_drewN ?_ _ | refine blk_drew ?_ | refine blk_alloc ?_ _)); refine blk_put (cs := #[.int .i64 0, .int .i64 0, .int .i64 0, .int .i64 0, .int .i64 0, .slice none 0 0, .slice none 0 0, .int .i64 0, .slice none 0 0, .slice none 0 0]) ?_ 0 _ rfl; (with_reducible repeat (first | refine blk_drewN ?_ _ | refine blk_drew ?_ | refine blk_alloc ?_ _)); exact BK260.out) NB260_0.out (by simp)); have n2_ := Aside0.mk (KeepBut.trans (by repeat (first | (with_reducible first | exact HK.out | apply KeepBut.set_ | apply keep_drewN | apply keep_drew | apply keep_alloc | refine keep_far ?_ GW257.out _ | refine keep_far ?_ GW260.out _) | exact HK.out)) hk (.inl rfl)); have n3_ := Aside0.mk (hb); have n4_ := Aside0.mk (hi); clear BK257; clear BK260; clear HK; clear HB; clear HI0; have BK257 := n0_; have BK260 := n1_; have HK := n2_; have HB := n3_; have HI0 := n4_; clear n0_ n1_ n2_ n3_ n4_; (try clear hb); (try clear hb2); (try clear hk); (try clear hi)) | ((with_reducible refine gate_callee (f := 40) rfl ?_); refine goesL_ (some 48) rfl rfl Try.func40 (by kernel_rfl) rfl #[.pointer (some ⟨g, 0, none⟩)] rfl (by (try simp only [List.map_toArray, List.map_cons, List.map_nil]); first | done | rfl | (simp only [List.length_drop, List.length_take]; rfl)) ?_; (with_reducible refine (record_reader_num.calls g t284 t285 t286 w0 _ ?side1 ?side2 A46.out).mono ?_); (case side1 => repeat (first | (with_reducible first | exact HI0.out | apply IsS66.alloc | apply IsS66.drewN | apply IsS66.drew | apply IsS66.set_0 | refine IsS66.far ?_ NB0_257.out _ | refine IsS66.far ?_ NB0_260.out _) | exact HI0.out)); (case side2 => repeat (first | (with_reducible first | exact HB.out | apply below_alloc | apply pw_below_drewN | apply below_drew1 | refine below_set ?_ (IsS66.ge HI0.out) | refine below_set ?_ GE257.out | refine below_set ?_ GE260.out) | exact HB.out)); rintro e w55 ⟨rfl, hi, hb, hk⟩; refine ⟨_, rfl, ?_⟩; have n0_ := Aside0.mk (KeepBut.blk hk (g' := gb257) (o := .cells #[.int .i64 0, .int .i64 0, .int .i64 0, .int .i64 0, .int .i64 0, .slice none 0 0, .slice none 0 0, .int .i64 0, .slice none 0 0, .slice none 0 0] 30 (0, 0)) (by (with_reducible repeat (first | refine blk_drewN ?_ _ | refine blk_drew ?_ | refine blk_alloc ?_ _)); exact BK257.out) NB257_0.out (by simp)); have n1_ := Aside0.mk (KeepBut.blk hk (g' := gb260) (o := .cells #[.int .i64 t258, .int .i64 0, .int .i64 0, .int .i64 0, .int .i64 0, .slice none 0 0, .slice none 0 0, .int .i64 0, .slice none 0 0, .slice none 0 0] 30 (0, 0)) (by (with_reducible repeat (first | refine blk_drewN ?_ _ | refine blk_drew ?_ | refine blk_alloc ?_ _)); exact BK260.out) NB260_0.out (by simp)); have n2_ := Aside0.mk (KeepBut.trans (by repeat (first | (with_reducible first | exact HK.out | apply KeepBut.set_ | apply keep_drewN | apply keep_drew | apply keep_alloc | refine keep_far ?_ GW257.out _ | refine keep_far ?_ GW260.out _) | exact HK.out)) hk (.inl rfl)); have n3_ := Aside0.mk (hb); have n4_ := Aside0.mk (hi); clear BK257; clear BK260; clear HK; clear HB; clear HI0; have BK257 := n0_; have BK260 := n1_; have HK := n2_; have HB := n3_; have HI0 := n4_; clear n0_ n1_ n2_ n3_ n4_; (try clear hb); (try clear hb2); (try clear hk); (try clear hi); have hcz56_0 : w55.cell? ⟨gb260, 0, none⟩ = some (.int .i64 t258) := (blk_cell BK260.out 0).trans rfl; have hcz56_1 : w55.cell? ⟨gb260, 1, none⟩ = some (.int .i64 0) := (blk_cell BK260.out 1).trans rfl; have hcz56_2 : w55.cell? ⟨gb260, 2, none⟩ = some (.int .i64 0) := (blk_cell BK260.out 2).trans rfl; have hcz56_3 : w55.cell? ⟨gb260, 3, none⟩ = some (.int .i64 0) := (blk_cell BK260.out 3).trans rfl; have hcz56_4 : w55.cell? ⟨gb260, 4, none⟩ = some (.int .i64 0) := (blk_cell BK260.out 4).trans rfl; have hcz56_5 : w55.cell? ⟨gb260, 5, none⟩ = some (.slice none 0 0) := (blk_cell BK260.out 5).trans rfl; have hcz56_6 : w55.cell? ⟨gb260, 6, none⟩ = some (.slice none 0 0) := (blk_cell BK260.out 6).trans rfl; have hcz56_7 : w55.cell? ⟨gb260, 7, none⟩ = some (.int .i64 0) := (blk_cell BK260.out 7).trans rfl; have hcz56_8 : w55.cell? ⟨gb260, 8, none⟩ = some (.slice none 0 0) := (blk_cell BK260.out 8).trans rfl; have hcz56_9 : w55.cell? ⟨gb260, 9, none⟩ = some (.slice none 0 0) := (blk_cell BK260.out 9).trans rfl; have hfz56_0 := blk_frozen BK260.out 0; have hfz56_1 := blk_frozen BK260.out 1; have hfz56_2 := blk_frozen BK260.out 2; have hfz56_3 := blk_frozen BK260.out 3; have hfz56_4 := blk_frozen BK260.out 4; have hfz56_5 := blk_frozen BK260.out 5; have hfz56_6 := blk_frozen BK260.out 6; have hfz56_7 := blk_frozen BK260.out 7; have hfz56_8 := blk_frozen BK260.out 8; have hfz56_9 := blk_frozen BK260.out 9))
    (try simp only [Act.put, List.setIfInBounds_toArray, List.set_cons_zero, List.set_cons_succ])
    go_cut [] (fun wc => ∃ (kq : Nat) (x1000_46 : View) (x261007_46 : Int), Aside0 (record_reader_read.j2 kq x1000_46 t258 t283 t285 0 0 x261007_46 = some (r1, r2, r3, r4, r5, r6, r7, r8, r9, r10, r11)) ∧ Aside0 (kq ≤ k) ∧ Aside0 (wc.heap[gb257]? = some (.cells #[.int .i64 0, .int .i64 0, .int .i64 0, .int .i64 0, .int .i64 0, (.slice none 0 0), (.slice none 0 0), .int .i64 0, (.slice none 0 0), (.slice none 0 0)] 30 (0, 0))) ∧ Aside0 (wc.heap[gb260]? = some (.cells #[.int .i64 t258, .int .i64 t283, .int .i64 t285, .int .i64 0, .int .i64 0, (.slice none 0 0), (.slice none 0 0), .int .i64 x261007_46, (.slice none 0 0), (.slice none 0 0)] 30 (0, 0))) ∧ Aside0 (IsS66 w0 wc g x1000_46) ∧ Aside0 (KeepBut w wc g none) ∧ Aside0 (Below w0.heap.size w0 wc))
    case first =>
      have H := HC47.out
      clear HC47
      by_cases c57 : t258 = 2
      · rw [if_pos c57] at H
        have c57b0 : (t258 == 2) = true := beq_iff_eq.mpr c57
        have c57b1 : (t258 != 2) = false := bne_eq_false_iff_eq.mpr c57
        clear c57
        (first | rw [c57b0] | (simp only [i64_w, i32_w]; rw [c57b0]) | skip)
        replace H := Option.bind_eq_some_iff.mp H
        obtain ⟨⟨t287, t288⟩, A580, H⟩ := H
        replace H : (record_reader_read.j2 k t288 t258 t283 t285 0 0 t287) = some (r1, r2, r3, r4, r5, r6, r7, r8, r9, r10, r11) := H
        have A58 := Aside0.mk A580
        clear A580
        have H' := Aside0.mk H
        clear H
        go_wp2_with (first | ((with_reducible refine gate_callee (f := 40) rfl ?_); refine goesL_ (some 55) rfl rfl Try.func40 (by kernel_rfl) rfl #[.pointer (some ⟨g, 0, none⟩)] rfl (by (try simp only [List.map_toArray, List.map_cons, List.map_nil]); first | done | rfl | (simp only [List.length_drop, List.length_take]; rfl)) ?_; (with_reducible refine (record_reader_num.calls g t286 t287 t288 w0 _ ?side1 ?side2 A58.out).mono ?_); (case side1 => repeat (first | (with_reducible first | exact HI0.out | apply IsS66.alloc | apply IsS66.drewN | apply IsS66.drew | apply IsS66.set_0 | refine IsS66.far ?_ NB0_257.out _ | refine IsS66.far ?_ NB0_260.out _) | exact HI0.out)); (case side2 => repeat (first | (with_reducible first | exact HB.out | apply below_alloc | apply pw_below_drewN | apply below_drew1 | refine below_set ?_ (IsS66.ge HI0.out) | refine below_set ?_ GE257.out | refine below_set ?_ GE260.out) | exact HB.out)); rintro e w59 ⟨rfl, hi, hb, hk⟩; refine ⟨_, rfl, ?_⟩; have n0_ := Aside0.mk (KeepBut.blk hk (g' := gb257) (o := .cells #[.int .i64 0, .int .i64 0, .int .i64 0, .int .i64 0, .int .i64 0, .slice none 0 0, .slice none 0 0, .int .i64 0, .slice none 0 0, .slice none 0 0] 30 (0, 0)) (by (with_reducible repeat (first | refine blk_drewN ?_ _ | refine blk_drew ?_ | refine blk_alloc ?_ _)); refine blk_far ?_ NB257_260.out _; (with_reducible repeat (first | refine blk_drewN ?_ _ | refine blk_drew ?_ | refine blk_alloc ?_ _)); refine blk_far ?_ NB257_260.out _; (with_reducible repeat (first | refine blk_drewN ?_ _ | refine blk_drew ?_ | refine blk_alloc ?_ _)); exact BK257.out) NB257_0.out (by simp)); have n1_ := Aside0.mk (KeepBut.blk hk (g' := gb260) (o := .cells #[.int .i64 t258, .int .i64 t283, .int .i64 t285, .int .i64 0, .int .i64 0, .slice none 0 0, .slice none 0 0, .int .i64 0, .slice none 0 0, .slice none 0 0] 30 (0, 0)) (by (with_reducible repeat (first | refine blk_drewN ?_ _ | refine blk_drew ?_ | refine blk_alloc ?_ _)); refine blk_put (cs := #[.int .i64 t258, .int .i64 t283, .int .i64 0, .int .i64 0, .int .i64 0, .slice none 0 0, .slice none 0 0, .int .i64 0, .slice none 0 0, .slice none 0 0]) ?_ 2 _ rfl; (with_reducible repeat (first | refine blk_drewN ?_ _ | refine blk_drew ?_ | refine blk_alloc ?_ _)); refine blk_put (cs := #[.int .i64 t258, .int .i64 0, .int .i64 0, .int .i64 0, .int .i64 0, .slice none 0 0, .slice none 0 0, .int .i64 0, .slice none 0 0, .slice none 0 0]) ?_ 1 _ rfl; (with_reducible repeat (first | refine blk_drewN ?_ _ | refine blk_drew ?_ | refine blk_alloc ?_ _)); exact BK260.out) NB260_0.out (by simp)); have n2_ := Aside0.mk (KeepBut.trans (by repeat (first | (with_reducible first | exact HK.out | apply KeepBut.set_ | apply keep_drewN | apply keep_drew | apply keep_alloc | refine keep_far ?_ GW257.out _ | refine keep_far ?_ GW260.out _) | exact HK.out)) hk (.inl rfl)); have n3_ := Aside0.mk (hb); have n4_ := Aside0.mk (hi); clear BK257; clear BK260; clear HK; clear HB; clear HI0; have BK257 := n0_; have BK260 := n1_; have HK := n2_; have HB := n3_; have HI0 := n4_; clear n0_ n1_ n2_ n3_ n4_; (try clear hb); (try clear hb2); (try clear hk); (try clear hi); have hnb60 := NB260_257.out; have hnc60 := NB257_260.out; have hnb61 := NB260_0.out; have hnc61 := NB0_260.out; have hcz62_0 : w59.cell? ⟨gb260, 0, none⟩ = some (.int .i64 t258) := (blk_cell BK260.out 0).trans rfl; have hcz62_1 : w59.cell? ⟨gb260, 1, none⟩ = some (.int .i64 t283) := (blk_cell BK260.out 1).trans rfl; have hcz62_2 : w59.cell? ⟨gb260, 2, none⟩ = some (.int .i64 t285) := (blk_cell BK260.out 2).trans rfl; have hcz62_3 : w59.cell? ⟨gb260, 3, none⟩ = some (.int .i64 0) := (blk_cell BK260.out 3).trans rfl; have hcz62_4 : w59.cell? ⟨gb260, 4, none⟩ = some (.int .i64 0) := (blk_cell BK260.out 4).trans rfl; have hcz62_5 : w59.cell? ⟨gb260, 5, none⟩ = some (.slice none 0 0) := (blk_cell BK260.out 5).trans rfl; have hcz62_6 : w59.cell? ⟨gb260, 6, none⟩ = some (.slice none 0 0) := (blk_cell BK260.out 6).trans rfl; have hcz62_7 : w59.cell? ⟨gb260, 7, none⟩ = some (.int .i64 0) := (blk_cell BK260.out 7).trans rfl; have hcz62_8 : w59.cell? ⟨gb260, 8, none⟩ = some (.slice none 0 0) := (blk_cell BK260.out 8).trans rfl; have hcz62_9 : w59.cell? ⟨gb260, 9, none⟩ = some (.slice none 0 0) := (blk_cell BK260.out 9).trans rfl; have hfz62_0 := blk_frozen BK260.out 0; have hfz62_1 := blk_frozen BK260.out 1; have hfz62_2 := blk_frozen BK260.out 2; have hfz62_3 := blk_frozen BK260.out 3; have hfz62_4 := blk_frozen BK260.out 4; have hfz62_5 := blk_frozen BK260.out 5; have hfz62_6 := blk_frozen BK260.out 6; have hfz62_7 := blk_frozen BK260.out 7; have hfz62_8 := blk_frozen BK260.out 8; have hfz62_9 := blk_frozen BK260.out 9))
        go_meet
        case rel => exact ⟨_, (t288), (t287), H', ⟨by first | omega | exact Nat.le_refl _⟩, ⟨by (with_reducible repeat (first | refine blk_drewN ?_ _ | refine blk_drew ?_ | refine blk_alloc ?_ _)); refine blk_far ?_ NB257_260.out _; (with_reducible repeat (first | refine blk_drewN ?_ _ | refine blk_drew ?_ | refine blk_alloc ?_ _)); exact BK257.out⟩, ⟨by (with_reducible repeat (first | refine blk_drewN ?_ _ | refine blk_drew ?_ | refine blk_alloc ?_ _)); refine blk_put (cs := #[.int .i64 t258, .int .i64 t283, .int .i64 t285, .int .i64 0, .int .i64 0, .slice none 0 0, .slice none 0 0, .int .i64 0, .slice none 0 0, .slice none 0 0]) ?_ 7 _ rfl; (with_reducible repeat (first | refine blk_drewN ?_ _ | refine blk_drew ?_ | refine blk_alloc ?_ _)); exact BK260.out⟩, ⟨by repeat (first | (with_reducible first | exact HI0.out | apply IsS66.alloc | apply IsS66.drewN | apply IsS66.drew | apply IsS66.set_0 | refine IsS66.far ?_ NB0_257.out _ | refine IsS66.far ?_ NB0_260.out _) | exact HI0.out)⟩, ⟨by repeat (first | (with_reducible first | exact HK.out | apply KeepBut.set_ | apply keep_drewN | apply keep_drew | apply keep_alloc | refine keep_far ?_ GW257.out _ | refine keep_far ?_ GW260.out _) | exact HK.out)⟩, ⟨by repeat (first | (with_reducible first | exact HB.out | apply below_alloc | apply pw_below_drewN | apply below_drew1 | refine below_set ?_ (IsS66.ge HI0.out) | refine below_set ?_ GE257.out | refine below_set ?_ GE260.out) | exact HB.out)⟩⟩
      · rw [if_neg c57] at H
        have c57b0 : (t258 == 2) = false := beq_eq_false_iff_ne.mpr c57
        have c57b1 : (t258 != 2) = true := bne_iff_ne.mpr c57
        (first | rw [c57b0] | (simp only [i64_w, i32_w]; rw [c57b0]) | skip)
        have H' := Aside0.mk H
        clear H
        go_wp2
        go_meet
        case rel => exact ⟨_, (t286), (0), H', ⟨by first | omega | exact Nat.le_refl _⟩, ⟨by (with_reducible repeat (first | refine blk_drewN ?_ _ | refine blk_drew ?_ | refine blk_alloc ?_ _)); refine blk_far ?_ NB257_260.out _; (with_reducible repeat (first | refine blk_drewN ?_ _ | refine blk_drew ?_ | refine blk_alloc ?_ _)); refine blk_far ?_ NB257_260.out _; (with_reducible repeat (first | refine blk_drewN ?_ _ | refine blk_drew ?_ | refine blk_alloc ?_ _)); exact BK257.out⟩, ⟨by (with_reducible repeat (first | refine blk_drewN ?_ _ | refine blk_drew ?_ | refine blk_alloc ?_ _)); refine blk_put (cs := #[.int .i64 t258, .int .i64 t283, .int .i64 0, .int .i64 0, .int .i64 0, .slice none 0 0, .slice none 0 0, .int .i64 0, .slice none 0 0, .slice none 0 0]) ?_ 2 _ rfl; (with_reducible repeat (first | refine blk_drewN ?_ _ | refine blk_drew ?_ | refine blk_alloc ?_ _)); refine blk_put (cs := #[.int .i64 t258, .int .i64 0, .int .i64 0, .int .i64 0, .int .i64 0, .slice none 0 0, .slice none 0 0, .int .i64 0, .slice none 0 0, .slice none 0 0]) ?_ 1 _ rfl; (with_reducible repeat (first | refine blk_drewN ?_ _ | refine blk_drew ?_ | refine blk_alloc ?_ _)); exact BK260.out⟩, ⟨by repeat (first | (with_reducible first | exact HI0.out | apply IsS66.alloc | apply IsS66.drewN | apply IsS66.drew | apply IsS66.set_0 | refine IsS66.far ?_ NB0_257.out _ | refine IsS66.far ?_ NB0_260.out _) | exact HI0.out)⟩, ⟨by repeat (first | (with_reducible first | exact HK.out | apply KeepBut.set_ | apply keep_drewN | apply keep_drew | apply keep_alloc | refine keep_far ?_ GW257.out _ | refine keep_far ?_ GW260.out _) | exact HK.out)⟩, ⟨by repeat (first | (with_reducible first | exact HB.out | apply below_alloc | apply pw_below_drewN | apply below_drew1 | refine below_set ?_ (IsS66.ge HI0.out) | refine below_set ?_ GE257.out | refine below_set ?_ GE260.out) | exact HB.out)⟩⟩
    case rest =>
      clear HC47
      try clear c1
      try clear c2
      try clear p2
      try clear c3
      try clear c3b0
      try clear c3b1
      try clear c4
      try clear c5
      try clear c6
      try clear p6
      try clear c8
      try clear c9
      try clear c12
      try clear c12b0
      try clear c15
      try clear c24
      try clear c24b0
      try clear c26
      try clear c29
      try clear c38
      try clear c39
      try clear c40
      try clear c41
      try clear c51
      try clear c52
      try clear c57
      try clear c57b0
      try clear c57b1
      try clear c60
      try clear c61
      try clear hcz10_0
      try clear hcz10_1
      try clear hcz10_2
      try clear hcz10_3
      try clear hcz10_4
      try clear hcz10_5
      try clear hcz10_6
      try clear hcz10_7
      try clear hcz10_8
      try clear hcz10_9
      try clear hcz40_0
      try clear hcz40_1
      try clear hcz40_2
      try clear hcz40_3
      try clear hcz40_4
      try clear hcz40_5
      try clear hcz40_6
      try clear hcz40_7
      try clear hcz40_8
      try clear hcz40_9
      try clear hcz42_0
      try clear hcz42_1
      try clear hcz42_2
      try clear hcz42_3
      try clear hcz42_4
      try clear hcz42_5
      try clear hcz42_6
      try clear hcz42_7
      try clear hcz42_8
      try clear hcz42_9
      try clear hcz53_0
      try clear hcz53_1
      try clear hcz53_2
      try clear hcz53_3
      try clear hcz53_4
      try clear hcz53_5
      try clear hcz53_6
      try clear hcz53_7
      try clear hcz53_8
      try clear hcz53_9
      try clear hcz56_0
      try clear hcz56_1
      try clear hcz56_2
      try clear hcz56_3
      try clear hcz56_4
      try clear hcz56_5
      try clear hcz56_6
      try clear hcz56_7
      try clear hcz56_8
      try clear hcz56_9
      try clear hcz62_0
      try clear hcz62_1
      try clear hcz62_2
      try clear hcz62_3
      try clear hcz62_4
      try clear hcz62_5
      try clear hcz62_6
      try clear hcz62_7
      try clear hcz62_8
      try clear hcz62_9
      try clear hfz10_0
      try clear hfz10_1
      try clear hfz10_2
      try clear hfz10_3
      try clear hfz10_4
      try clear hfz10_5
      try clear hfz10_6
      try clear hfz10_7
      try clear hfz10_8
      try clear hfz10_9
      try clear hfz40_0
      try clear hfz40_1
      try clear hfz40_2
      try clear hfz40_3
      try clear hfz40_4
      try clear hfz40_5
      try clear hfz40_6
      try clear hfz40_7
      try clear hfz40_8
      try clear hfz40_9
      try clear hfz42_0
      try clear hfz42_1
      try clear hfz42_2
      try clear hfz42_3
      try clear hfz42_4
      try clear hfz42_5
      try clear hfz42_6
      try clear hfz42_7
      try clear hfz42_8
      try clear hfz42_9
      try clear hfz53_0
      try clear hfz53_1
      try clear hfz53_2
      try clear hfz53_3
      try clear hfz53_4
      try clear hfz53_5
      try clear hfz53_6
      try clear hfz53_7
      try clear hfz53_8
      try clear hfz53_9
      try clear hfz56_0
      try clear hfz56_1
      try clear hfz56_2
      try clear hfz56_3
      try clear hfz56_4
      try clear hfz56_5
      try clear hfz56_6
      try clear hfz56_7
      try clear hfz56_8
      try clear hfz56_9
      try clear hfz62_0
      try clear hfz62_1
      try clear hfz62_2
      try clear hfz62_3
      try clear hfz62_4
      try clear hfz62_5
      try clear hfz62_6
      try clear hfz62_7
      try clear hfz62_8
      try clear hfz62_9
      try clear p2
      try clear p6
      obtain ⟨kq, x1000_46, x261007_46, HA, HJ46, BK257, BK260, HI0, HK, HB⟩ := hcut
      cases kq with
      | zero => exact absurd HA.out (by simp [record_reader_read.j2])
      | succ kj46 =>
        have H := HA.out
        clear HA
        simp only [record_reader_read.j2] at H
        have HC63 := Aside0.mk H
        clear H
        go_upto_region 15 with (fail)
        go_cut [64] (fun v64 wc => ∃ (kq : Nat) (x64_62 : Bool), v64 = .bool x64_62 ∧ Aside0 (record_reader_read.j3 kq x64_62 x1000_46 t258 t283 t285 0 0 x261007_46 = some (r1, r2, r3, r4, r5, r6, r7, r8, r9, r10, r11)) ∧ Aside0 (kq ≤ kj46) ∧ Aside0 (wc.heap[gb257]? = some (.cells #[.int .i64 0, .int .i64 0, .int .i64 0, .int .i64 0, .int .i64 0, (.slice none 0 0), (.slice none 0 0), .int .i64 0, (.slice none 0 0), (.slice none 0 0)] 30 (0, 0))) ∧ Aside0 (wc.heap[gb260]? = some (.cells #[.int .i64 t258, .int .i64 t283, .int .i64 t285, .int .i64 0, .int .i64 0, (.slice none 0 0), (.slice none 0 0), .int .i64 x261007_46, (.slice none 0 0), (.slice none 0 0)] 30 (0, 0))) ∧ Aside0 (IsS66 w0 wc g x1000_46) ∧ Aside0 (KeepBut w wc g none) ∧ Aside0 (Below w0.heap.size w0 wc))
        case first =>
          have H := HC63.out
          clear HC63
          by_cases c64 : t258 = 1
          · rw [if_pos c64] at H
            have c64b0 : (t258 == 1) = true := beq_iff_eq.mpr c64
            have c64b1 : (t258 != 1) = false := bne_eq_false_iff_eq.mpr c64
            clear c64
            (first | rw [c64b0] | (simp only [i64_w, i32_w]; rw [c64b0]) | skip)
            have H' := Aside0.mk H
            clear H
            have hnb65 := NB260_257.out
            have hnc65 := NB257_260.out
            have hnb66 := NB260_0.out
            have hnc66 := NB0_260.out
            have hcz67_0 : wc.cell? ⟨gb260, 0, none⟩ = some (.int .i64 t258) := (blk_cell BK260.out 0).trans rfl
            have hcz67_1 : wc.cell? ⟨gb260, 1, none⟩ = some (.int .i64 t283) := (blk_cell BK260.out 1).trans rfl
            have hcz67_2 : wc.cell? ⟨gb260, 2, none⟩ = some (.int .i64 t285) := (blk_cell BK260.out 2).trans rfl
            have hcz67_3 : wc.cell? ⟨gb260, 3, none⟩ = some (.int .i64 0) := (blk_cell BK260.out 3).trans rfl
            have hcz67_4 : wc.cell? ⟨gb260, 4, none⟩ = some (.int .i64 0) := (blk_cell BK260.out 4).trans rfl
            have hcz67_5 : wc.cell? ⟨gb260, 5, none⟩ = some (.slice none 0 0) := (blk_cell BK260.out 5).trans rfl
            have hcz67_6 : wc.cell? ⟨gb260, 6, none⟩ = some (.slice none 0 0) := (blk_cell BK260.out 6).trans rfl
            have hcz67_7 : wc.cell? ⟨gb260, 7, none⟩ = some (.int .i64 x261007_46) := (blk_cell BK260.out 7).trans rfl
            have hcz67_8 : wc.cell? ⟨gb260, 8, none⟩ = some (.slice none 0 0) := (blk_cell BK260.out 8).trans rfl
            have hcz67_9 : wc.cell? ⟨gb260, 9, none⟩ = some (.slice none 0 0) := (blk_cell BK260.out 9).trans rfl
            have hfz67_0 := blk_frozen BK260.out 0
            have hfz67_1 := blk_frozen BK260.out 1
            have hfz67_2 := blk_frozen BK260.out 2
            have hfz67_3 := blk_frozen BK260.out 3
            have hfz67_4 := blk_frozen BK260.out 4
            have hfz67_5 := blk_frozen BK260.out 5
            have hfz67_6 := blk_frozen BK260.out 6
            have hfz67_7 := blk_frozen BK260.out 7
            have hfz67_8 := blk_frozen BK260.out 8
            have hfz67_9 := blk_frozen BK260.out 9
            go_wp2
            go_meet
            case rel => exact ⟨_, (true), (by first | rfl | (simp; done) | (simp [*]; done)), H', ⟨by have := HJ46.out; first | omega | exact Nat.le_refl _⟩, ⟨by (with_reducible repeat (first | refine blk_drewN ?_ _ | refine blk_drew ?_ | refine blk_alloc ?_ _)); exact BK257.out⟩, ⟨by (with_reducible repeat (first | refine blk_drewN ?_ _ | refine blk_drew ?_ | refine blk_alloc ?_ _)); exact BK260.out⟩, ⟨by repeat (first | (with_reducible first | exact HI0.out | apply IsS66.alloc | apply IsS66.drewN | apply IsS66.drew | apply IsS66.set_0 | refine IsS66.far ?_ NB0_257.out _ | refine IsS66.far ?_ NB0_260.out _) | exact HI0.out)⟩, ⟨by repeat (first | (with_reducible first | exact HK.out | apply KeepBut.set_ | apply keep_drewN | apply keep_drew | apply keep_alloc | refine keep_far ?_ GW257.out _ | refine keep_far ?_ GW260.out _) | exact HK.out)⟩, ⟨by repeat (first | (with_reducible first | exact HB.out | apply below_alloc | apply pw_below_drewN | apply below_drew1 | refine below_set ?_ (IsS66.ge HI0.out) | refine below_set ?_ GE257.out | refine below_set ?_ GE260.out) | exact HB.out)⟩⟩
          · rw [if_neg c64] at H
            have c64b0 : (t258 == 1) = false := beq_eq_false_iff_ne.mpr c64
            have c64b1 : (t258 != 1) = true := bne_iff_ne.mpr c64
            (first | rw [c64b0] | (simp only [i64_w, i32_w]; rw [c64b0]) | skip)
            have H' := Aside0.mk H
            clear H
            have hnb68 := NB260_257.out
            have hnc68 := NB257_260.out
            have hnb69 := NB260_0.out
            have hnc69 := NB0_260.out
            have hcz70_0 : wc.cell? ⟨gb260, 0, none⟩ = some (.int .i64 t258) := (blk_cell BK260.out 0).trans rfl
            have hcz70_1 : wc.cell? ⟨gb260, 1, none⟩ = some (.int .i64 t283) := (blk_cell BK260.out 1).trans rfl
            have hcz70_2 : wc.cell? ⟨gb260, 2, none⟩ = some (.int .i64 t285) := (blk_cell BK260.out 2).trans rfl
            have hcz70_3 : wc.cell? ⟨gb260, 3, none⟩ = some (.int .i64 0) := (blk_cell BK260.out 3).trans rfl
            have hcz70_4 : wc.cell? ⟨gb260, 4, none⟩ = some (.int .i64 0) := (blk_cell BK260.out 4).trans rfl
            have hcz70_5 : wc.cell? ⟨gb260, 5, none⟩ = some (.slice none 0 0) := (blk_cell BK260.out 5).trans rfl
            have hcz70_6 : wc.cell? ⟨gb260, 6, none⟩ = some (.slice none 0 0) := (blk_cell BK260.out 6).trans rfl
            have hcz70_7 : wc.cell? ⟨gb260, 7, none⟩ = some (.int .i64 x261007_46) := (blk_cell BK260.out 7).trans rfl
            have hcz70_8 : wc.cell? ⟨gb260, 8, none⟩ = some (.slice none 0 0) := (blk_cell BK260.out 8).trans rfl
            have hcz70_9 : wc.cell? ⟨gb260, 9, none⟩ = some (.slice none 0 0) := (blk_cell BK260.out 9).trans rfl
            have hfz70_0 := blk_frozen BK260.out 0
            have hfz70_1 := blk_frozen BK260.out 1
            have hfz70_2 := blk_frozen BK260.out 2
            have hfz70_3 := blk_frozen BK260.out 3
            have hfz70_4 := blk_frozen BK260.out 4
            have hfz70_5 := blk_frozen BK260.out 5
            have hfz70_6 := blk_frozen BK260.out 6
            have hfz70_7 := blk_frozen BK260.out 7
            have hfz70_8 := blk_frozen BK260.out 8
            have hfz70_9 := blk_frozen BK260.out 9
            go_wp2
            go_meet
            case rel => exact ⟨_, ((t258 == 2)), (by first | rfl | (simp; done) | (simp [*]; done)), H', ⟨by have := HJ46.out; first | omega | exact Nat.le_refl _⟩, ⟨by (with_reducible repeat (first | refine blk_drewN ?_ _ | refine blk_drew ?_ | refine blk_alloc ?_ _)); exact BK257.out⟩, ⟨by (with_reducible repeat (first | refine blk_drewN ?_ _ | refine blk_drew ?_ | refine blk_alloc ?_ _)); exact BK260.out⟩, ⟨by repeat (first | (with_reducible first | exact HI0.out | apply IsS66.alloc | apply IsS66.drewN | apply IsS66.drew | apply IsS66.set_0 | refine IsS66.far ?_ NB0_257.out _ | refine IsS66.far ?_ NB0_260.out _) | exact HI0.out)⟩, ⟨by repeat (first | (with_reducible first | exact HK.out | apply KeepBut.set_ | apply keep_drewN | apply keep_drew | apply keep_alloc | refine keep_far ?_ GW257.out _ | refine keep_far ?_ GW260.out _) | exact HK.out)⟩, ⟨by repeat (first | (with_reducible first | exact HB.out | apply below_alloc | apply pw_below_drewN | apply below_drew1 | refine below_set ?_ (IsS66.ge HI0.out) | refine below_set ?_ GE257.out | refine below_set ?_ GE260.out) | exact HB.out)⟩⟩
        case rest =>
          clear HC63
          try clear c1
          try clear c2
          try clear p2
          try clear c3
          try clear c3b0
          try clear c3b1
          try clear c4
          try clear c5
          try clear c6
          try clear p6
          try clear c8
          try clear c9
          try clear c12
          try clear c12b0
          try clear c15
          try clear c24
          try clear c24b0
          try clear c26
          try clear c29
          try clear c38
          try clear c39
          try clear c40
          try clear c41
          try clear c51
          try clear c52
          try clear c57
          try clear c57b0
          try clear c57b1
          try clear c60
          try clear c61
          try clear c64
          try clear c64b0
          try clear c64b1
          try clear p64
          try clear c65
          try clear c66
          try clear c68
          try clear c69
          try clear hcz10_0
          try clear hcz10_1
          try clear hcz10_2
          try clear hcz10_3
          try clear hcz10_4
          try clear hcz10_5
          try clear hcz10_6
          try clear hcz10_7
          try clear hcz10_8
          try clear hcz10_9
          try clear hcz40_0
          try clear hcz40_1
          try clear hcz40_2
          try clear hcz40_3
          try clear hcz40_4
          try clear hcz40_5
          try clear hcz40_6
          try clear hcz40_7
          try clear hcz40_8
          try clear hcz40_9
          try clear hcz42_0
          try clear hcz42_1
          try clear hcz42_2
          try clear hcz42_3
          try clear hcz42_4
          try clear hcz42_5
          try clear hcz42_6
          try clear hcz42_7
          try clear hcz42_8
          try clear hcz42_9
          try clear hcz53_0
          try clear hcz53_1
          try clear hcz53_2
          try clear hcz53_3
          try clear hcz53_4
          try clear hcz53_5
          try clear hcz53_6
          try clear hcz53_7
          try clear hcz53_8
          try clear hcz53_9
          try clear hcz56_0
          try clear hcz56_1
          try clear hcz56_2
          try clear hcz56_3
          try clear hcz56_4
          try clear hcz56_5
          try clear hcz56_6
          try clear hcz56_7
          try clear hcz56_8
          try clear hcz56_9
          try clear hcz62_0
          try clear hcz62_1
          try clear hcz62_2
          try clear hcz62_3
          try clear hcz62_4
          try clear hcz62_5
          try clear hcz62_6
          try clear hcz62_7
          try clear hcz62_8
          try clear hcz62_9
          try clear hcz67_0
          try clear hcz67_1
          try clear hcz67_2
          try clear hcz67_3
          try clear hcz67_4
          try clear hcz67_5
          try clear hcz67_6
          try clear hcz67_7
          try clear hcz67_8
          try clear hcz67_9
          try clear hcz70_0
          try clear hcz70_1
          try clear hcz70_2
          try clear hcz70_3
          try clear hcz70_4
          try clear hcz70_5
          try clear hcz70_6
          try clear hcz70_7
          try clear hcz70_8
          try clear hcz70_9
          try clear hfz10_0
          try clear hfz10_1
          try clear hfz10_2
          try clear hfz10_3
          try clear hfz10_4
          try clear hfz10_5
          try clear hfz10_6
          try clear hfz10_7
          try clear hfz10_8
          try clear hfz10_9
          try clear hfz40_0
          try clear hfz40_1
          try clear hfz40_2
          try clear hfz40_3
          try clear hfz40_4
          try clear hfz40_5
          try clear hfz40_6
          try clear hfz40_7
          try clear hfz40_8
          try clear hfz40_9
          try clear hfz42_0
          try clear hfz42_1
          try clear hfz42_2
          try clear hfz42_3
          try clear hfz42_4
          try clear hfz42_5
          try clear hfz42_6
          try clear hfz42_7
          try clear hfz42_8
          try clear hfz42_9
          try clear hfz53_0
          try clear hfz53_1
          try clear hfz53_2
          try clear hfz53_3
          try clear hfz53_4
          try clear hfz53_5
          try clear hfz53_6
          try clear hfz53_7
          try clear hfz53_8
          try clear hfz53_9
          try clear hfz56_0
          try clear hfz56_1
          try clear hfz56_2
          try clear hfz56_3
          try clear hfz56_4
          try clear hfz56_5
          try clear hfz56_6
          try clear hfz56_7
          try clear hfz56_8
          try clear hfz56_9
          try clear hfz62_0
          try clear hfz62_1
          try clear hfz62_2
          try clear hfz62_3
          try clear hfz62_4
          try clear hfz62_5
          try clear hfz62_6
          try clear hfz62_7
          try clear hfz62_8
          try clear hfz62_9
          try clear hfz67_0
          try clear hfz67_1
          try clear hfz67_2
          try clear hfz67_3
          try clear hfz67_4
          try clear hfz67_5
          try clear hfz67_6
          try clear hfz67_7
          try clear hfz67_8
          try clear hfz67_9
          try clear hfz70_0
          try clear hfz70_1
          try clear hfz70_2
          try clear hfz70_3
          try clear hfz70_4
          try clear hfz70_5
          try clear hfz70_6
          try clear hfz70_7
          try clear hfz70_8
          try clear hfz70_9
          try clear p2
          try clear p6
          obtain ⟨kq, x64_62, rfl, HA, HJ62, BK257, BK260, HI0, HK, HB⟩ := hcut
          cases kq with
          | zero => exact absurd HA.out (by simp [record_reader_read.j3])
          | succ kj62 =>
            have H := HA.out
            clear HA
            simp only [record_reader_read.j3] at H
            by_cases c71 : x64_62 = true
            · subst c71
              have H1 : ((record_reader_num.f x1000_46).bind fun bt289 => ((record_reader_num.f bt289.2).bind fun bt291 => ((record_reader_count.f bt291.2 1).bind fun bt293 => (record_reader_read.l2 kj62 bt293.1 0 bt293.2 t258 t283 t285 bt289.1 bt291.1 ([] : List Int) x261007_46)))) = some (r1, r2, r3, r4, r5, r6, r7, r8, r9, r10, r11) := by rw [if_pos rfl] at H; exact H
              clear H
              have H := H1
              clear H1
              replace H := Option.bind_eq_some_iff.mp H
              obtain ⟨⟨t289, t290⟩, A720, H⟩ := H
              replace H : ((record_reader_num.f t290).bind fun bt291 => ((record_reader_count.f bt291.2 1).bind fun bt293 => (record_reader_read.l2 kj62 bt293.1 0 bt293.2 t258 t283 t285 t289 bt291.1 ([] : List Int) x261007_46))) = some (r1, r2, r3, r4, r5, r6, r7, r8, r9, r10, r11) := H
              have A72 := Aside0.mk A720
              clear A720
              replace H := Option.bind_eq_some_iff.mp H
              obtain ⟨⟨t291, t292⟩, A730, H⟩ := H
              replace H : ((record_reader_count.f t292 1).bind fun bt293 => (record_reader_read.l2 kj62 bt293.1 0 bt293.2 t258 t283 t285 t289 t291 ([] : List Int) x261007_46)) = some (r1, r2, r3, r4, r5, r6, r7, r8, r9, r10, r11) := H
              have A73 := Aside0.mk A730
              clear A730
              replace H := Option.bind_eq_some_iff.mp H
              obtain ⟨⟨t293, t294⟩, A740, H⟩ := H
              replace H : (record_reader_read.l2 kj62 t293 0 t294 t258 t283 t285 t289 t291 ([] : List Int) x261007_46) = some (r1, r2, r3, r4, r5, r6, r7, r8, r9, r10, r11) := H
              have A74 := Aside0.mk A740
              clear A740
              have H' := Aside0.mk H
              clear H
              go_wp2_with (first | ((with_reducible refine gate_callee (f := 40) rfl ?_); refine goesL_ (some 66) rfl rfl Try.func40 (by kernel_rfl) rfl #[.pointer (some ⟨g, 0, none⟩)] rfl (by (try simp only [List.map_toArray, List.map_cons, List.map_nil]); first | done | rfl | (simp only [List.length_drop, List.length_take]; rfl)) ?_; (with_reducible refine (record_reader_num.calls g x1000_46 t289 t290 w0 _ ?side1 ?side2 A72.out).mono ?_); (case side1 => repeat (first | (with_reducible first | exact HI0.out | apply IsS66.alloc | apply IsS66.drewN | apply IsS66.drew | apply IsS66.set_0 | refine IsS66.far ?_ NB0_257.out _ | refine IsS66.far ?_ NB0_260.out _) | exact HI0.out)); (case side2 => repeat (first | (with_reducible first | exact HB.out | apply below_alloc | apply pw_below_drewN | apply below_drew1 | refine below_set ?_ (IsS66.ge HI0.out) | refine below_set ?_ GE257.out | refine below_set ?_ GE260.out) | exact HB.out)); rintro e w75 ⟨rfl, hi, hb, hk⟩; refine ⟨_, rfl, ?_⟩; have n0_ := Aside0.mk (KeepBut.blk hk (g' := gb257) (o := .cells #[.int .i64 0, .int .i64 0, .int .i64 0, .int .i64 0, .int .i64 0, .slice none 0 0, .slice none 0 0, .int .i64 0, .slice none 0 0, .slice none 0 0] 30 (0, 0)) (by (with_reducible repeat (first | refine blk_drewN ?_ _ | refine blk_drew ?_ | refine blk_alloc ?_ _)); exact BK257.out) NB257_0.out (by simp)); have n1_ := Aside0.mk (KeepBut.blk hk (g' := gb260) (o := .cells #[.int .i64 t258, .int .i64 t283, .int .i64 t285, .int .i64 0, .int .i64 0, .slice none 0 0, .slice none 0 0, .int .i64 x261007_46, .slice none 0 0, .slice none 0 0] 30 (0, 0)) (by (with_reducible repeat (first | refine blk_drewN ?_ _ | refine blk_drew ?_ | refine blk_alloc ?_ _)); exact BK260.out) NB260_0.out (by simp)); have n2_ := Aside0.mk (KeepBut.trans (by repeat (first | (with_reducible first | exact HK.out | apply KeepBut.set_ | apply keep_drewN | apply keep_drew | apply keep_alloc | refine keep_far ?_ GW257.out _ | refine keep_far ?_ GW260.out _) | exact HK.out)) hk (.inl rfl)); have n3_ := Aside0.mk (hb); have n4_ := Aside0.mk (hi); clear BK257; clear BK260; clear HK; clear HB; clear HI0; have BK257 := n0_; have BK260 := n1_; have HK := n2_; have HB := n3_; have HI0 := n4_; clear n0_ n1_ n2_ n3_ n4_; (try clear hb); (try clear hb2); (try clear hk); (try clear hi)) | ((with_reducible refine gate_callee (f := 40) rfl ?_); refine goesL_ (some 68) rfl rfl Try.func40 (by kernel_rfl) rfl #[.pointer (some ⟨g, 0, none⟩)] rfl (by (try simp only [List.map_toArray, List.map_cons, List.map_nil]); first | done | rfl | (simp only [List.length_drop, List.length_take]; rfl)) ?_; (with_reducible refine (record_reader_num.calls g t290 t291 t292 w0 _ ?side1 ?side2 A73.out).mono ?_); (case side1 => repeat (first | (with_reducible first | exact HI0.out | apply IsS66.alloc | apply IsS66.drewN | apply IsS66.drew | apply IsS66.set_0 | refine IsS66.far ?_ NB0_257.out _ | refine IsS66.far ?_ NB0_260.out _) | exact HI0.out)); (case side2 => repeat (first | (with_reducible first | exact HB.out | apply below_alloc | apply pw_below_drewN | apply below_drew1 | refine below_set ?_ (IsS66.ge HI0.out) | refine below_set ?_ GE257.out | refine below_set ?_ GE260.out) | exact HB.out)); rintro e w76 ⟨rfl, hi, hb, hk⟩; refine ⟨_, rfl, ?_⟩; have n0_ := Aside0.mk (KeepBut.blk hk (g' := gb257) (o := .cells #[.int .i64 0, .int .i64 0, .int .i64 0, .int .i64 0, .int .i64 0, .slice none 0 0, .slice none 0 0, .int .i64 0, .slice none 0 0, .slice none 0 0] 30 (0, 0)) (by (with_reducible repeat (first | refine blk_drewN ?_ _ | refine blk_drew ?_ | refine blk_alloc ?_ _)); exact BK257.out) NB257_0.out (by simp)); have n1_ := Aside0.mk (KeepBut.blk hk (g' := gb260) (o := .cells #[.int .i64 t258, .int .i64 t283, .int .i64 t285, .int .i64 0, .int .i64 0, .slice none 0 0, .slice none 0 0, .int .i64 x261007_46, .slice none 0 0, .slice none 0 0] 30 (0, 0)) (by (with_reducible repeat (first | refine blk_drewN ?_ _ | refine blk_drew ?_ | refine blk_alloc ?_ _)); exact BK260.out) NB260_0.out (by simp)); have n2_ := Aside0.mk (KeepBut.trans (by repeat (first | (with_reducible first | exact HK.out | apply KeepBut.set_ | apply keep_drewN | apply keep_drew | apply keep_alloc | refine keep_far ?_ GW257.out _ | refine keep_far ?_ GW260.out _) | exact HK.out)) hk (.inl rfl)); have n3_ := Aside0.mk (hb); have n4_ := Aside0.mk (hi); clear BK257; clear BK260; clear HK; clear HB; clear HI0; have BK257 := n0_; have BK260 := n1_; have HK := n2_; have HB := n3_; have HI0 := n4_; clear n0_ n1_ n2_ n3_ n4_; (try clear hb); (try clear hb2); (try clear hk); (try clear hi); have hnb77 := NB260_257.out; have hnc77 := NB257_260.out; have hnb78 := NB260_0.out; have hnc78 := NB0_260.out; have hcz79_0 : w76.cell? ⟨gb260, 0, none⟩ = some (.int .i64 t258) := (blk_cell BK260.out 0).trans rfl; have hcz79_1 : w76.cell? ⟨gb260, 1, none⟩ = some (.int .i64 t283) := (blk_cell BK260.out 1).trans rfl; have hcz79_2 : w76.cell? ⟨gb260, 2, none⟩ = some (.int .i64 t285) := (blk_cell BK260.out 2).trans rfl; have hcz79_3 : w76.cell? ⟨gb260, 3, none⟩ = some (.int .i64 0) := (blk_cell BK260.out 3).trans rfl; have hcz79_4 : w76.cell? ⟨gb260, 4, none⟩ = some (.int .i64 0) := (blk_cell BK260.out 4).trans rfl; have hcz79_5 : w76.cell? ⟨gb260, 5, none⟩ = some (.slice none 0 0) := (blk_cell BK260.out 5).trans rfl; have hcz79_6 : w76.cell? ⟨gb260, 6, none⟩ = some (.slice none 0 0) := (blk_cell BK260.out 6).trans rfl; have hcz79_7 : w76.cell? ⟨gb260, 7, none⟩ = some (.int .i64 x261007_46) := (blk_cell BK260.out 7).trans rfl; have hcz79_8 : w76.cell? ⟨gb260, 8, none⟩ = some (.slice none 0 0) := (blk_cell BK260.out 8).trans rfl; have hcz79_9 : w76.cell? ⟨gb260, 9, none⟩ = some (.slice none 0 0) := (blk_cell BK260.out 9).trans rfl; have hfz79_0 := blk_frozen BK260.out 0; have hfz79_1 := blk_frozen BK260.out 1; have hfz79_2 := blk_frozen BK260.out 2; have hfz79_3 := blk_frozen BK260.out 3; have hfz79_4 := blk_frozen BK260.out 4; have hfz79_5 := blk_frozen BK260.out 5; have hfz79_6 := blk_frozen BK260.out 6; have hfz79_7 := blk_frozen BK260.out 7; have hfz79_8 := blk_frozen BK260.out 8; have hfz79_9 := blk_frozen BK260.out 9) | ((with_reducible refine gate_callee (f := 41) rfl ?_); refine goesL_ (some 72) rfl rfl Try.func41 (by kernel_rfl) rfl #[.pointer (some ⟨g, 0, none⟩), .int .i64 1] rfl (by (try simp only [List.map_toArray, List.map_cons, List.map_nil]); first | done | rfl | (simp only [List.length_drop, List.length_take]; rfl)) ?_; (with_reducible refine (record_reader_count.calls g t292 1 t293 t294 w0 _ ?side1 ?side2 A74.out).mono ?_); (case side1 => repeat (first | (with_reducible first | exact HI0.out | apply IsS66.alloc | apply IsS66.drewN | apply IsS66.drew | apply IsS66.set_0 | refine IsS66.far ?_ NB0_257.out _ | refine IsS66.far ?_ NB0_260.out _) | exact HI0.out)); (case side2 => repeat (first | (with_reducible first | exact HB.out | apply below_alloc | apply pw_below_drewN | apply below_drew1 | refine below_set ?_ (IsS66.ge HI0.out) | refine below_set ?_ GE257.out | refine below_set ?_ GE260.out) | exact HB.out)); rintro e w80 ⟨rfl, hi, hb, hk⟩; refine ⟨_, rfl, ?_⟩; have n0_ := Aside0.mk (KeepBut.blk hk (g' := gb257) (o := .cells #[.int .i64 0, .int .i64 0, .int .i64 0, .int .i64 0, .int .i64 0, .slice none 0 0, .slice none 0 0, .int .i64 0, .slice none 0 0, .slice none 0 0] 30 (0, 0)) (by (with_reducible repeat (first | refine blk_drewN ?_ _ | refine blk_drew ?_ | refine blk_alloc ?_ _)); refine blk_far ?_ NB257_260.out _; (with_reducible repeat (first | refine blk_drewN ?_ _ | refine blk_drew ?_ | refine blk_alloc ?_ _)); refine blk_far ?_ NB257_260.out _; (with_reducible repeat (first | refine blk_drewN ?_ _ | refine blk_drew ?_ | refine blk_alloc ?_ _)); exact BK257.out) NB257_0.out (by simp)); have n1_ := Aside0.mk (KeepBut.blk hk (g' := gb260) (o := .cells #[.int .i64 t258, .int .i64 t283, .int .i64 t285, .int .i64 t289, .int .i64 t291, .slice none 0 0, .slice none 0 0, .int .i64 x261007_46, .slice none 0 0, .slice none 0 0] 30 (0, 0)) (by (with_reducible repeat (first | refine blk_drewN ?_ _ | refine blk_drew ?_ | refine blk_alloc ?_ _)); refine blk_put (cs := #[.int .i64 t258, .int .i64 t283, .int .i64 t285, .int .i64 t289, .int .i64 0, .slice none 0 0, .slice none 0 0, .int .i64 x261007_46, .slice none 0 0, .slice none 0 0]) ?_ 4 _ rfl; (with_reducible repeat (first | refine blk_drewN ?_ _ | refine blk_drew ?_ | refine blk_alloc ?_ _)); refine blk_put (cs := #[.int .i64 t258, .int .i64 t283, .int .i64 t285, .int .i64 0, .int .i64 0, .slice none 0 0, .slice none 0 0, .int .i64 x261007_46, .slice none 0 0, .slice none 0 0]) ?_ 3 _ rfl; (with_reducible repeat (first | refine blk_drewN ?_ _ | refine blk_drew ?_ | refine blk_alloc ?_ _)); exact BK260.out) NB260_0.out (by simp)); have n2_ := Aside0.mk (KeepBut.trans (by repeat (first | (with_reducible first | exact HK.out | apply KeepBut.set_ | apply keep_drewN | apply keep_drew | apply keep_alloc | refine keep_far ?_ GW257.out _ | refine keep_far ?_ GW260.out _) | exact HK.out)) hk (.inl rfl)); have n3_ := Aside0.mk (hb); have n4_ := Aside0.mk (hi); clear BK257; clear BK260; clear HK; clear HB; clear HI0; have BK257 := n0_; have BK260 := n1_; have HK := n2_; have HB := n3_; have HI0 := n4_; clear n0_ n1_ n2_ n3_ n4_; (try clear hb); (try clear hb2); (try clear hk); (try clear hi)))
              go_loopg [73] kj62 (fun kq v73 w' => ∃ (x73_3 : Int) (x1000_3 : View) (x261005_3 : List Int) (u261005 : Value), v73 = .int .i64 x73_3 ∧ Aside0 (record_reader_read.l2 kq t293 x73_3 x1000_3 t258 t283 t285 t289 t291 x261005_3 x261007_46 = some (r1, r2, r3, r4, r5, r6, r7, r8, r9, r10, r11)) ∧ Aside0 (kq ≤ kj62) ∧ Aside0 (Kd.R (Kd.int .i64) 3 w' w.heap.size (fun _ => True) u261005 x261005_3) ∧ Aside0 (w'.heap[gb257]? = some (.cells #[.int .i64 0, .int .i64 0, .int .i64 0, .int .i64 0, .int .i64 0, (.slice none 0 0), (.slice none 0 0), .int .i64 0, (.slice none 0 0), (.slice none 0 0)] 30 (0, 0))) ∧ Aside0 (w'.heap[gb260]? = some (.cells #[.int .i64 t258, .int .i64 t283, .int .i64 t285, .int .i64 t289, .int .i64 t291, u261005, (.slice none 0 0), .int .i64 x261007_46, (.slice none 0 0), (.slice none 0 0)] 30 (0, 0))) ∧ Aside0 (IsS66 w0 w' g x1000_3) ∧ Aside0 (KeepBut w w' g none) ∧ Aside0 (Below w0.heap.size w0 w'))
              case atStart => exact ⟨(0), (t294), (([] : List Int)), (.slice none 0 0), (by first | rfl | (simp; done) | (simp [*]; done)), H', ⟨Nat.le_refl _⟩, ⟨by first | exact Kd.R_nil _ _ _ _ _ | exact Kd.N_nil _ _ _ _ _ | exact Kd.V_nil _ _ _ _ _ | exact Kd.Q_nil _ _ _ _ _ | exact Kd.S_nil _ _ _ _ _⟩, ⟨by (with_reducible repeat (first | refine blk_drewN ?_ _ | refine blk_drew ?_ | refine blk_alloc ?_ _)); exact BK257.out⟩, ⟨by (with_reducible repeat (first | refine blk_drewN ?_ _ | refine blk_drew ?_ | refine blk_alloc ?_ _)); exact BK260.out⟩, ⟨by repeat (first | (with_reducible first | exact HI0.out | apply IsS66.alloc | apply IsS66.drewN | apply IsS66.drew | apply IsS66.set_0 | refine IsS66.far ?_ NB0_257.out _ | refine IsS66.far ?_ NB0_260.out _) | exact HI0.out)⟩, ⟨by repeat (first | (with_reducible first | exact HK.out | apply KeepBut.set_ | apply keep_drewN | apply keep_drew | apply keep_alloc | refine keep_far ?_ GW257.out _ | refine keep_far ?_ GW260.out _) | exact HK.out)⟩, ⟨by repeat (first | (with_reducible first | exact HB.out | apply below_alloc | apply pw_below_drewN | apply below_drew1 | refine below_set ?_ (IsS66.ge HI0.out) | refine below_set ?_ GE257.out | refine below_set ?_ GE260.out) | exact HB.out)⟩⟩
              case round =>
                clear H'
                try clear c1
                try clear c2
                try clear p2
                try clear c3
                try clear c3b0
                try clear c3b1
                try clear c4
                try clear c5
                try clear c6
                try clear p6
                try clear c7
                try clear c8
                try clear c9
                try clear c12
                try clear c12b0
                try clear c15
                try clear c24
                try clear c24b0
                try clear c26
                try clear c29
                try clear c38
                try clear c39
                try clear c40
                try clear c41
                try clear c51
                try clear c52
                try clear c57
                try clear c57b0
                try clear c57b1
                try clear c60
                try clear c61
                try clear c64
                try clear c64b0
                try clear c64b1
                try clear p64
                try clear c65
                try clear c66
                try clear c68
                try clear c69
                try clear c71
                try clear c77
                try clear c78
                try clear hcz10_0
                try clear hcz10_1
                try clear hcz10_2
                try clear hcz10_3
                try clear hcz10_4
                try clear hcz10_5
                try clear hcz10_6
                try clear hcz10_7
                try clear hcz10_8
                try clear hcz10_9
                try clear hcz40_0
                try clear hcz40_1
                try clear hcz40_2
                try clear hcz40_3
                try clear hcz40_4
                try clear hcz40_5
                try clear hcz40_6
                try clear hcz40_7
                try clear hcz40_8
                try clear hcz40_9
                try clear hcz42_0
                try clear hcz42_1
                try clear hcz42_2
                try clear hcz42_3
                try clear hcz42_4
                try clear hcz42_5
                try clear hcz42_6
                try clear hcz42_7
                try clear hcz42_8
                try clear hcz42_9
                try clear hcz53_0
                try clear hcz53_1
                try clear hcz53_2
                try clear hcz53_3
                try clear hcz53_4
                try clear hcz53_5
                try clear hcz53_6
                try clear hcz53_7
                try clear hcz53_8
                try clear hcz53_9
                try clear hcz56_0
                try clear hcz56_1
                try clear hcz56_2
                try clear hcz56_3
                try clear hcz56_4
                try clear hcz56_5
                try clear hcz56_6
                try clear hcz56_7
                try clear hcz56_8
                try clear hcz56_9
                try clear hcz62_0
                try clear hcz62_1
                try clear hcz62_2
                try clear hcz62_3
                try clear hcz62_4
                try clear hcz62_5
                try clear hcz62_6
                try clear hcz62_7
                try clear hcz62_8
                try clear hcz62_9
                try clear hcz67_0
                try clear hcz67_1
                try clear hcz67_2
                try clear hcz67_3
                try clear hcz67_4
                try clear hcz67_5
                try clear hcz67_6
                try clear hcz67_7
                try clear hcz67_8
                try clear hcz67_9
                try clear hcz70_0
                try clear hcz70_1
                try clear hcz70_2
                try clear hcz70_3
                try clear hcz70_4
                try clear hcz70_5
                try clear hcz70_6
                try clear hcz70_7
                try clear hcz70_8
                try clear hcz70_9
                try clear hcz79_0
                try clear hcz79_1
                try clear hcz79_2
                try clear hcz79_3
                try clear hcz79_4
                try clear hcz79_5
                try clear hcz79_6
                try clear hcz79_7
                try clear hcz79_8
                try clear hcz79_9
                try clear hfz10_0
                try clear hfz10_1
                try clear hfz10_2
                try clear hfz10_3
                try clear hfz10_4
                try clear hfz10_5
                try clear hfz10_6
                try clear hfz10_7
                try clear hfz10_8
                try clear hfz10_9
                try clear hfz40_0
                try clear hfz40_1
                try clear hfz40_2
                try clear hfz40_3
                try clear hfz40_4
                try clear hfz40_5
                try clear hfz40_6
                try clear hfz40_7
                try clear hfz40_8
                try clear hfz40_9
                try clear hfz42_0
                try clear hfz42_1
                try clear hfz42_2
                try clear hfz42_3
                try clear hfz42_4
                try clear hfz42_5
                try clear hfz42_6
                try clear hfz42_7
                try clear hfz42_8
                try clear hfz42_9
                try clear hfz53_0
                try clear hfz53_1
                try clear hfz53_2
                try clear hfz53_3
                try clear hfz53_4
                try clear hfz53_5
                try clear hfz53_6
                try clear hfz53_7
                try clear hfz53_8
                try clear hfz53_9
                try clear hfz56_0
                try clear hfz56_1
                try clear hfz56_2
                try clear hfz56_3
                try clear hfz56_4
                try clear hfz56_5
                try clear hfz56_6
                try clear hfz56_7
                try clear hfz56_8
                try clear hfz56_9
                try clear hfz62_0
                try clear hfz62_1
                try clear hfz62_2
                try clear hfz62_3
                try clear hfz62_4
                try clear hfz62_5
                try clear hfz62_6
                try clear hfz62_7
                try clear hfz62_8
                try clear hfz62_9
                try clear hfz67_0
                try clear hfz67_1
                try clear hfz67_2
                try clear hfz67_3
                try clear hfz67_4
                try clear hfz67_5
                try clear hfz67_6
                try clear hfz67_7
                try clear hfz67_8
                try clear hfz67_9
                try clear hfz70_0
                try clear hfz70_1
                try clear hfz70_2
                try clear hfz70_3
                try clear hfz70_4
                try clear hfz70_5
                try clear hfz70_6
                try clear hfz70_7
                try clear hfz70_8
                try clear hfz70_9
                try clear hfz79_0
                try clear hfz79_1
                try clear hfz79_2
                try clear hfz79_3
                try clear hfz79_4
                try clear hfz79_5
                try clear hfz79_6
                try clear hfz79_7
                try clear hfz79_8
                try clear hfz79_9
                try clear p2
                try clear p6
                try clear p64
                obtain ⟨x73_3, x1000_3, x261005_3, u261005, rfl, HA, HK3, HO_261005, BK257, BK260, HI0, HK, HB⟩ := hrel
                cases gk with
                | zero => exact absurd HA.out (by simp [record_reader_read.l2])
                | succ k3 =>
                  have H := HA.out
                  clear HA
                  simp only [record_reader_read.l2] at H
                  by_cases c81 : x73_3 < t293
                  · rw [if_pos c81] at H
                    have c81b0 : decide (x73_3 < t293) = true := decide_eq_true c81
                    clear c81
                    replace H := Option.bind_eq_some_iff.mp H
                    obtain ⟨⟨t295, t296⟩, A820, H⟩ := H
                    replace H : (if x261005_3.length < 17592186044416 then (record_reader_read.l2 k3 t293 (wrap64 (x73_3 + 1)) t296 t258 t283 t285 t289 t291 (x261005_3 ++ [t295]) x261007_46) else (none)) = some (r1, r2, r3, r4, r5, r6, r7, r8, r9, r10, r11) := H
                    have A82 := Aside0.mk A820
                    clear A820
                    by_cases c83 : x261005_3.length < 17592186044416
                    · rw [if_pos c83] at H
                      have LMc83 := Aside0.mk c83
                      clear c83
                      obtain ⟨y297, hy297⟩ : ∃ y_ : List Int, y_ = (x261005_3 ++ [t295]) := ⟨_, rfl⟩
                      replace H : (record_reader_read.l2 k3 t293 (wrap64 (x73_3 + 1)) t296 t258 t283 t285 t289 t291 y297 x261007_46) = some (r1, r2, r3, r4, r5, r6, r7, r8, r9, r10, r11) := by first | (rw [hy297]; with_reducible exact H) | (have H2_ := (Option.bind_some _ _).symm.trans H; rw [hy297]; with_reducible exact H2_) | (have H2_ := (Option.bind_some _ _).symm.trans H; with_reducible exact H2_) | with_reducible exact H | (rw [hy297]; exact H) | exact H
                      have Ny297 := Aside0.mk hy297
                      clear hy297
                      have H' := Aside0.mk H
                      clear H
                      try go_wp2
                      have n0_ := Aside0.mk (Kd.R_drew HO_261005.out)
                      have n1_ := Aside0.mk (blk_drew BK257.out)
                      have n2_ := Aside0.mk (blk_drew BK260.out)
                      have n3_ := Aside0.mk (IsS66.drew HI0.out)
                      have n4_ := Aside0.mk (keep_drew HK.out)
                      have n5_ := Aside0.mk (below_drew1 HB.out)
                      clear HO_261005
                      clear BK257
                      clear BK260
                      clear HI0
                      clear HK
                      clear HB
                      have HO_261005 := n0_
                      have BK257 := n1_
                      have BK260 := n2_
                      have HI0 := n3_
                      have HK := n4_
                      have HB := n5_
                      clear n0_ n1_ n2_ n3_ n4_ n5_
                      refine start_ (n := 8) (S := fun w' => w'.cell? ⟨gb260, 0, none⟩ = some (.int .i64 t258) ∧ w'.cell? ⟨gb260, 1, none⟩ = some (.int .i64 t283) ∧ w'.cell? ⟨gb260, 2, none⟩ = some (.int .i64 t285) ∧ w'.cell? ⟨gb260, 3, none⟩ = some (.int .i64 t289) ∧ w'.cell? ⟨gb260, 4, none⟩ = some (.int .i64 t291) ∧ w'.cell? ⟨gb260, 5, none⟩ = some (u261005) ∧ w'.cell? ⟨gb260, 6, none⟩ = some (.slice none 0 0) ∧ w'.cell? ⟨gb260, 7, none⟩ = some (.int .i64 x261007_46) ∧ w'.cell? ⟨gb260, 8, none⟩ = some (.slice none 0 0) ∧ w'.cell? ⟨gb260, 9, none⟩ = some (.slice none 0 0)) (ds := [7]) #[false, false, false, false, false, false, false, false] (by kernel_rfl) rfl rfl ⟨(blk_cell BK260.out 0).trans rfl, (blk_cell BK260.out 1).trans rfl, (blk_cell BK260.out 2).trans rfl, (blk_cell BK260.out 3).trans rfl, (blk_cell BK260.out 4).trans rfl, (blk_cell BK260.out 5).trans rfl, (blk_cell BK260.out 6).trans rfl, (blk_cell BK260.out 7).trans rfl, (blk_cell BK260.out 8).trans rfl, (blk_cell BK260.out 9).trans rfl⟩ (fun hHeld => ?_); refine with_tabW record_reader_read.tab19 record_reader_read.bits19 (fun HT_ HW_ => ?_)
                      generalize wr.drew = w84 at HO_261005 BK257 BK260 HI0 HK HB hHeld ⊢
                      refine pure_ (i := 0) (N := some 75) (v := ?_) (a' := ?_) #[true, false, false, false, false, false, false, false] rfl rfl (any_of HT_.out (by kernel_rfl)) (fun _ _ _ h => h) (Or.inl ⟨by rfl, ?_⟩) ?_ ?_
                      rotate_left
                      · intro w'
                        go_simp
                        with_reducible rfl
                      rotate_left
                      · simp only [Act.put, List.setIfInBounds_toArray, List.set_cons_zero, List.set_cons_succ, i64_w, i32_w]
                        rfl
                      refine pure_ (i := 2) (N := some 77) (v := ?_) (a' := ?_) #[true, false, true, false, false, false, false, false] rfl rfl (any_of HT_.out (by kernel_rfl)) (fun _ _ _ h => h) (Or.inl ⟨by rfl, ?_⟩) ?_ ?_
                      rotate_left
                      · intro w'
                        go_simp
                        with_reducible rfl
                      rotate_left
                      · simp only [Act.put, List.setIfInBounds_toArray, List.set_cons_zero, List.set_cons_succ, i64_w, i32_w]
                        rfl
                      refine take_ (i := 1) (N := some 76) (v := ?_) (a' := ?_) #[true, true, true, false, false, false, false, false] rfl rfl (take_ofW HT_.out HW_.out (by kernel_rfl)) (fun _ _ _ h => h) (Or.inl ⟨by rfl, ?_⟩) hHeld ?_ ?_
                      rotate_left
                      · rintro w' ⟨s0, s1, s2, s3, s4, s5, s6, s7, s8, s9⟩
                        go_simp
                        with_reducible rfl
                      rotate_left
                      · simp only [Act.put, List.setIfInBounds_toArray, List.set_cons_zero, List.set_cons_succ, i64_w, i32_w]
                        rfl
                      refine one_ (i := 3) (N := some 78) #[true, true, true, true, false, false, false, false] rfl rfl (one_of HT_.out (by kernel_rfl)) (by decide) (fun K hK => ?_)
                      refine goes_ Try.func40 (by kernel_rfl) rfl #[.pointer (some ⟨g, 0, none⟩)] (by rfl) rfl rfl (by (try simp only [List.map_toArray, List.map_cons, List.map_nil]); first | done | rfl | (simp only [List.length_drop, List.length_take]; rfl)) ?_
                      with_reducible refine (record_reader_num.calls g x1000_3 t295 t296 w0 _ ?side1 ?side2 A82.out).mono ?_
                      (case side1 => repeat (first | (with_reducible first | exact HI0.out | apply IsS66.alloc | apply IsS66.drewN | apply IsS66.drew | apply IsS66.set_0 | refine IsS66.far ?_ NB0_257.out _ | refine IsS66.far ?_ NB0_260.out _) | exact HI0.out))
                      (case side2 => repeat (first | (with_reducible first | exact HB.out | apply below_alloc | apply pw_below_drewN | apply below_drew1 | refine below_set ?_ (IsS66.ge HI0.out) | refine below_set ?_ GE257.out | refine below_set ?_ GE260.out) | exact HB.out))
                      rintro e w85 ⟨rfl, hi, hb, hk⟩
                      refine ⟨_, rfl, ?_⟩
                      have n0_ := Aside0.mk (Kd.R_mono (Kd.R_keep (IsS66.apart (show IsS66 w0 _ g x1000_3 from by repeat (first | (with_reducible first | exact HI0.out | apply IsS66.alloc | apply IsS66.drewN | apply IsS66.drew | apply IsS66.set_0 | refine IsS66.far ?_ NB0_257.out _ | refine IsS66.far ?_ NB0_260.out _) | exact HI0.out)) (by (with_reducible repeat (first | apply Kd.R_alloc | apply Kd.R_drewN | apply Kd.R_drew)); exact HO_261005.out) (by decide)) hk (fun _ h => h.2)) (fun _ h => h.1))
                      have n1_ := Aside0.mk (KeepBut.blk hk (g' := gb257) (o := .cells #[.int .i64 0, .int .i64 0, .int .i64 0, .int .i64 0, .int .i64 0, .slice none 0 0, .slice none 0 0, .int .i64 0, .slice none 0 0, .slice none 0 0] 30 (0, 0)) (by (with_reducible repeat (first | refine blk_drewN ?_ _ | refine blk_drew ?_ | refine blk_alloc ?_ _)); exact BK257.out) NB257_0.out (by simp))
                      have n2_ := Aside0.mk (KeepBut.blk hk (g' := gb260) (o := .cells #[.int .i64 t258, .int .i64 t283, .int .i64 t285, .int .i64 t289, .int .i64 t291, u261005, .slice none 0 0, .int .i64 x261007_46, .slice none 0 0, .slice none 0 0] 30 (0, 0)) (by (with_reducible repeat (first | refine blk_drewN ?_ _ | refine blk_drew ?_ | refine blk_alloc ?_ _)); exact BK260.out) NB260_0.out (by simp))
                      have n3_ := Aside0.mk (KeepBut.trans (by repeat (first | (with_reducible first | exact HK.out | apply KeepBut.set_ | apply keep_drewN | apply keep_drew | apply keep_alloc | refine keep_far ?_ GW257.out _ | refine keep_far ?_ GW260.out _) | exact HK.out)) hk (.inl rfl))
                      have n4_ := Aside0.mk (hb)
                      have n5_ := Aside0.mk (hi)
                      clear HO_261005
                      clear BK257
                      clear BK260
                      clear HK
                      clear HB
                      clear HI0
                      have HO_261005 := n0_
                      have BK257 := n1_
                      have BK260 := n2_
                      have HK := n3_
                      have HB := n4_
                      have HI0 := n5_
                      clear n0_ n1_ n2_ n3_ n4_ n5_
                      (try clear hb)
                      (try clear hb2)
                      (try clear hk)
                      (try clear hi)
                      refine hK.out _ _ ⟨(blk_cell BK260.out 0).trans rfl, (blk_cell BK260.out 1).trans rfl, (blk_cell BK260.out 2).trans rfl, (blk_cell BK260.out 3).trans rfl, (blk_cell BK260.out 4).trans rfl, (blk_cell BK260.out 5).trans rfl, (blk_cell BK260.out 6).trans rfl, (blk_cell BK260.out 7).trans rfl, (blk_cell BK260.out 8).trans rfl, (blk_cell BK260.out 9).trans rfl⟩ (fun hHeld => ?_)
                      clear hK K
                      refine norm_ (a' := ?_) ?_ ?_
                      rotate_left
                      · show Act.put _ (some 78) _ = _
                        simp only [Act.put, List.setIfInBounds_toArray, List.set_cons_zero, List.set_cons_succ, i64_w, i32_w]
                        rfl
                      refine one_ (i := 4) (N := some 79) #[true, true, true, true, true, false, false, false] rfl rfl (one_of HT_.out (by kernel_rfl)) (by decide) (fun K hK => ?_)
                      refine value_ (w1 := ?_) (v := ?_) (by rfl) rfl ?_ ?_
                      rotate_left 2
                      · go_simp
                        constructor
                        · rfl
                        · rfl
                      refine hK.out _ _ ⟨(blk_cell (blk_alloc BK260.out _) 0).trans rfl, (blk_cell (blk_alloc BK260.out _) 1).trans rfl, (blk_cell (blk_alloc BK260.out _) 2).trans rfl, (blk_cell (blk_alloc BK260.out _) 3).trans rfl, (blk_cell (blk_alloc BK260.out _) 4).trans rfl, (blk_cell (blk_alloc BK260.out _) 5).trans rfl, (blk_cell (blk_alloc BK260.out _) 6).trans rfl, (blk_cell (blk_alloc BK260.out _) 7).trans rfl, (blk_cell (blk_alloc BK260.out _) 8).trans rfl, (blk_cell (blk_alloc BK260.out _) 9).trans rfl⟩ (fun hHeld => ?_)
                      clear hK K
                      refine norm_ (a' := ?_) ?_ ?_
                      rotate_left
                      · show Act.put _ (some 79) _ = _
                        simp only [Act.put, List.setIfInBounds_toArray, List.set_cons_zero, List.set_cons_succ, i64_w, i32_w]
                        rfl
                      refine one_ (i := 5) (N := some 80) #[true, true, true, true, true, true, false, false] rfl rfl (one_of HT_.out (by kernel_rfl)) (by decide) (fun K hK => ?_)
                      refine Kd.R_append_step (Kd.int .i64) w.heap.size (by rfl) (.tmp 76) (.tmp 79) 25 3 (.int .i64 0) 8 rfl Try.underlying25 info3 rfl (by decide) (by omega) u261005 x261005_3 t295 [.int .i64 t295] (fun _ => True) (fun _ => False) rfl rfl ?aP (fun _ hk => hk.elim) ?aF ?aO (Below.refl _ _) ?aS ?aL ?_
                      (case aP => exact rfl)
                      (case aF => exact (fun _ _ => trivial))
                      (case aO => exact (by (with_reducible repeat (first | apply Kd.R_alloc | apply Kd.R_drewN | apply Kd.R_drew)); exact HO_261005.out))
                      (case aS => exact (keep_size (w := w) (g := g) (row := none) (by repeat (first | (with_reducible first | exact HK.out | apply KeepBut.set_ | apply keep_drewN | apply keep_drew | apply keep_alloc | refine keep_far ?_ GW257.out _ | refine keep_far ?_ GW260.out _) | exact HK.out))))
                      (case aL => have := LMc83.out; omega)
                      intro v298 w86 ho hb hg hat
                      rw [← Ny297.out] at ho
                      have n0_ := Aside0.mk (blk_grown (g := gb257) (o := .cells #[.int .i64 0, .int .i64 0, .int .i64 0, .int .i64 0, .int .i64 0, .slice none 0 0, .slice none 0 0, .int .i64 0, .slice none 0 0, .slice none 0 0] 30 (0, 0)) (by (with_reducible repeat (first | refine blk_drewN ?_ _ | refine blk_drew ?_ | refine blk_alloc ?_ _)); exact BK257.out) hg (Kd.R_ne HO_261005.out BK257.out (by decide)))
                      have n1_ := Aside0.mk (blk_grown (g := gb260) (o := .cells #[.int .i64 t258, .int .i64 t283, .int .i64 t285, .int .i64 t289, .int .i64 t291, u261005, .slice none 0 0, .int .i64 x261007_46, .slice none 0 0, .slice none 0 0] 30 (0, 0)) (by (with_reducible repeat (first | refine blk_drewN ?_ _ | refine blk_drew ?_ | refine blk_alloc ?_ _)); exact BK260.out) hg (Kd.R_ne HO_261005.out BK260.out (by decide)))
                      have n2_ := Aside0.mk (IsS66.grown (by repeat (first | (with_reducible first | exact HI0.out | apply IsS66.alloc | apply IsS66.drewN | apply IsS66.drew | apply IsS66.set_0 | refine IsS66.far ?_ NB0_257.out _ | refine IsS66.far ?_ NB0_260.out _) | exact HI0.out)) hg (IsS66.own_ne HI0.out HO_261005.out (by decide)))
                      have n3_ := Aside0.mk (below_weaken (by repeat (first | (with_reducible first | exact HB.out | apply below_alloc | apply pw_below_drewN | apply below_drew1 | refine below_set ?_ (IsS66.ge HI0.out) | refine below_set ?_ GE257.out | refine below_set ?_ GE260.out) | exact HB.out)) HL.out hb)
                      have n4_ := Aside0.mk (KeepBut.trans (by repeat (first | (with_reducible first | exact HK.out | apply KeepBut.set_ | apply keep_drewN | apply keep_drew | apply keep_alloc | refine keep_far ?_ GW257.out _ | refine keep_far ?_ GW260.out _) | exact HK.out)) (KeepBut.of_grown hg g) (Kd.R_base2 HO_261005.out))
                      have n5_ := Aside0.mk (ho)
                      clear BK257
                      clear BK260
                      clear HI0
                      clear HB
                      clear HK
                      clear HO_261005
                      have BK257 := n0_
                      have BK260 := n1_
                      have HI0 := n2_
                      have HB := n3_
                      have HK := n4_
                      have HO299 := n5_
                      clear n0_ n1_ n2_ n3_ n4_ n5_
                      clear ho hb hg hat
                      obtain ⟨Ao87, co87, eo87⟩ := Kd.R_slice HO299.out
                      (first | subst eo87 | (injection eo87 with f1_ f2_ f3_; have f4_ := f1_.symm; have f5_ := f3_.symm; clear f1_ f2_ f3_; subst f4_; subst f5_))
                      refine hK.out _ _ ⟨(blk_cell BK260.out 0).trans rfl, (blk_cell BK260.out 1).trans rfl, (blk_cell BK260.out 2).trans rfl, (blk_cell BK260.out 3).trans rfl, (blk_cell BK260.out 4).trans rfl, (blk_cell BK260.out 5).trans rfl, (blk_cell BK260.out 6).trans rfl, (blk_cell BK260.out 7).trans rfl, (blk_cell BK260.out 8).trans rfl, (blk_cell BK260.out 9).trans rfl⟩ (fun hHeld => ?_)
                      clear hK K
                      refine norm_ (a' := ?_) ?_ ?_
                      rotate_left
                      · show Act.put _ (some 80) _ = _
                        simp only [Act.put, List.setIfInBounds_toArray, List.set_cons_zero, List.set_cons_succ, i64_w, i32_w]
                        rfl
                      refine pure_ (i := 6) (N := some 81) (v := ?_) (a' := ?_) #[true, true, true, true, true, true, true, false] rfl rfl (any_of HT_.out (by kernel_rfl)) (fun _ _ _ h => h) (Or.inl ⟨by rfl, ?_⟩) ?_ ?_
                      rotate_left
                      · intro w'
                        go_simp
                        with_reducible rfl
                      rotate_left
                      · simp only [Act.put, List.setIfInBounds_toArray, List.set_cons_zero, List.set_cons_succ, i64_w, i32_w]
                        rfl
                      refine last_ (i := 7) (N := none) #[true, true, true, true, true, true, true, true] rfl rfl (one_of HT_.out (by kernel_rfl)) (by decide) (fun K hK => ?_)
                      have hs88 : w86.cell? ⟨gb260, 5, none⟩ = some (u261005) := (blk_cell BK260.out 5).trans rfl
                      have hfs88 := blk_frozen BK260.out 5
                      have hns88_0 := NB257_260.out
                      have hms88_0 := NB260_257.out
                      refine skip_ (w1 := ?_) (by rfl) rfl ?_ ?_
                      rotate_left
                      · go_simp
                        rfl
                      refine hK.out _ _ ?_
                      clear hK K
                      refine done_ (done_of HT_.out (by kernel_rfl)) ?_
                      try go_wp2
                      go_roundg k3
                      case measure => have := HJ46.out; have := HJ62.out; have := HK3.out; omega
                      case rel => exact ⟨(wrap64 (x73_3 + 1)), (t296), (y297), (.slice Ao87 y297.length co87), (by first | rfl | (simp; done) | (simp [*]; done)), H', ⟨by have := HJ46.out; have := HJ62.out; have := HK3.out; omega⟩, ⟨by (with_reducible repeat (first | apply Kd.R_alloc | apply Kd.R_drewN | apply Kd.R_drew)); exact Kd.R_mono (Kd.R_far (p := ⟨gb260, 5, none⟩) (Kd.R_types HO299.out BK260.out (by decide)) (fun _ hk => hk.2) (.slice Ao87 y297.length co87)) (fun _ hk => trivial)⟩, ⟨by (with_reducible repeat (first | refine blk_drewN ?_ _ | refine blk_drew ?_ | refine blk_alloc ?_ _)); refine blk_far ?_ NB257_260.out _; (with_reducible repeat (first | refine blk_drewN ?_ _ | refine blk_drew ?_ | refine blk_alloc ?_ _)); exact BK257.out⟩, ⟨by (with_reducible repeat (first | refine blk_drewN ?_ _ | refine blk_drew ?_ | refine blk_alloc ?_ _)); refine blk_put (cs := #[.int .i64 t258, .int .i64 t283, .int .i64 t285, .int .i64 t289, .int .i64 t291, u261005, .slice none 0 0, .int .i64 x261007_46, .slice none 0 0, .slice none 0 0]) ?_ 5 _ rfl; (with_reducible repeat (first | refine blk_drewN ?_ _ | refine blk_drew ?_ | refine blk_alloc ?_ _)); exact BK260.out⟩, ⟨by repeat (first | (with_reducible first | exact HI0.out | apply IsS66.alloc | apply IsS66.drewN | apply IsS66.drew | apply IsS66.set_0 | refine IsS66.far ?_ NB0_257.out _ | refine IsS66.far ?_ NB0_260.out _) | exact HI0.out)⟩, ⟨by repeat (first | (with_reducible first | exact HK.out | apply KeepBut.set_ | apply keep_drewN | apply keep_drew | apply keep_alloc | refine keep_far ?_ GW257.out _ | refine keep_far ?_ GW260.out _) | exact HK.out)⟩, ⟨by repeat (first | (with_reducible first | exact HB.out | apply below_alloc | apply pw_below_drewN | apply below_drew1 | refine below_set ?_ (IsS66.ge HI0.out) | refine below_set ?_ GE257.out | refine below_set ?_ GE260.out) | exact HB.out)⟩⟩
                    · rw [if_neg c83] at H
                      exact absurd H (by simp)
                  · rw [if_neg c81] at H
                    have c81b0 : decide (x73_3 < t293) = false := decide_eq_false c81
                    clear c81
                    replace H := Option.bind_eq_some_iff.mp H
                    obtain ⟨⟨t300, t301⟩, A890, H⟩ := H
                    replace H : (record_reader_read.l3 k3 t300 0 t301 t258 t283 t285 t289 t291 x261005_3 ([] : List (S52)) x261007_46) = some (r1, r2, r3, r4, r5, r6, r7, r8, r9, r10, r11) := H
                    have A89 := Aside0.mk A890
                    clear A890
                    have H' := Aside0.mk H
                    clear H
                    go_wp2_with (first | ((with_reducible refine gate_callee (f := 41) rfl ?_); refine goesL_ (some 84) rfl rfl Try.func41 (by kernel_rfl) rfl #[.pointer (some ⟨g, 0, none⟩), .int .i64 2] rfl (by (try simp only [List.map_toArray, List.map_cons, List.map_nil]); first | done | rfl | (simp only [List.length_drop, List.length_take]; rfl)) ?_; (with_reducible refine (record_reader_count.calls g x1000_3 2 t300 t301 w0 _ ?side1 ?side2 A89.out).mono ?_); (case side1 => repeat (first | (with_reducible first | exact HI0.out | apply IsS66.alloc | apply IsS66.drewN | apply IsS66.drew | apply IsS66.set_0 | refine IsS66.far ?_ NB0_257.out _ | refine IsS66.far ?_ NB0_260.out _) | exact HI0.out)); (case side2 => repeat (first | (with_reducible first | exact HB.out | apply below_alloc | apply pw_below_drewN | apply below_drew1 | refine below_set ?_ (IsS66.ge HI0.out) | refine below_set ?_ GE257.out | refine below_set ?_ GE260.out) | exact HB.out)); rintro e w90 ⟨rfl, hi, hb, hk⟩; refine ⟨_, rfl, ?_⟩; have n0_ := Aside0.mk (Kd.R_mono (Kd.R_keep (IsS66.apart (show IsS66 w0 _ g x1000_3 from by repeat (first | (with_reducible first | exact HI0.out | apply IsS66.alloc | apply IsS66.drewN | apply IsS66.drew | apply IsS66.set_0 | refine IsS66.far ?_ NB0_257.out _ | refine IsS66.far ?_ NB0_260.out _) | exact HI0.out)) (by (with_reducible repeat (first | apply Kd.R_alloc | apply Kd.R_drewN | apply Kd.R_drew)); exact HO_261005.out) (by decide)) hk (fun _ h => h.2)) (fun _ h => h.1)); have n1_ := Aside0.mk (KeepBut.blk hk (g' := gb257) (o := .cells #[.int .i64 0, .int .i64 0, .int .i64 0, .int .i64 0, .int .i64 0, .slice none 0 0, .slice none 0 0, .int .i64 0, .slice none 0 0, .slice none 0 0] 30 (0, 0)) (by (with_reducible repeat (first | refine blk_drewN ?_ _ | refine blk_drew ?_ | refine blk_alloc ?_ _)); exact BK257.out) NB257_0.out (by simp)); have n2_ := Aside0.mk (KeepBut.blk hk (g' := gb260) (o := .cells #[.int .i64 t258, .int .i64 t283, .int .i64 t285, .int .i64 t289, .int .i64 t291, u261005, .slice none 0 0, .int .i64 x261007_46, .slice none 0 0, .slice none 0 0] 30 (0, 0)) (by (with_reducible repeat (first | refine blk_drewN ?_ _ | refine blk_drew ?_ | refine blk_alloc ?_ _)); exact BK260.out) NB260_0.out (by simp)); have n3_ := Aside0.mk (KeepBut.trans (by repeat (first | (with_reducible first | exact HK.out | apply KeepBut.set_ | apply keep_drewN | apply keep_drew | apply keep_alloc | refine keep_far ?_ GW257.out _ | refine keep_far ?_ GW260.out _) | exact HK.out)) hk (.inl rfl)); have n4_ := Aside0.mk (hb); have n5_ := Aside0.mk (hi); clear HO_261005; clear BK257; clear BK260; clear HK; clear HB; clear HI0; have HO_261005 := n0_; have BK257 := n1_; have BK260 := n2_; have HK := n3_; have HB := n4_; have HI0 := n5_; clear n0_ n1_ n2_ n3_ n4_ n5_; (try clear hb); (try clear hb2); (try clear hk); (try clear hi)))
                    go_loopg [85] k3 (fun kq v85 w' => ∃ (x85_4 : Int) (x1000_4 : View) (x261006_4 : List (S52)) (u261006 : Value), v85 = .int .i64 x85_4 ∧ Aside0 (record_reader_read.l3 kq t300 x85_4 x1000_4 t258 t283 t285 t289 t291 x261005_3 x261006_4 x261007_46 = some (r1, r2, r3, r4, r5, r6, r7, r8, r9, r10, r11)) ∧ Aside0 (kq ≤ k3) ∧ Aside0 (Kd.R (Kd.int .i64) 3 w' w.heap.size (fun _ => True) u261005 x261005_3) ∧ Aside0 (Kd.R k52 52 w' w.heap.size (fun _ => True) u261006 x261006_4) ∧ Aside0 (w'.heap[gb257]? = some (.cells #[.int .i64 0, .int .i64 0, .int .i64 0, .int .i64 0, .int .i64 0, (.slice none 0 0), (.slice none 0 0), .int .i64 0, (.slice none 0 0), (.slice none 0 0)] 30 (0, 0))) ∧ Aside0 (w'.heap[gb260]? = some (.cells #[.int .i64 t258, .int .i64 t283, .int .i64 t285, .int .i64 t289, .int .i64 t291, u261005, u261006, .int .i64 x261007_46, (.slice none 0 0), (.slice none 0 0)] 30 (0, 0))) ∧ Aside0 (IsS66 w0 w' g x1000_4) ∧ Aside0 (KeepBut w w' g none) ∧ Aside0 (Below w0.heap.size w0 w'))
                    case atStart => exact ⟨(0), (t301), (([] : List (S52))), (.slice none 0 0), (by first | rfl | (simp; done) | (simp [*]; done)), H', ⟨Nat.le_refl _⟩, ⟨by (with_reducible repeat (first | apply Kd.R_alloc | apply Kd.R_drewN | apply Kd.R_drew)); exact HO_261005.out⟩, ⟨by first | exact Kd.R_nil _ _ _ _ _ | exact Kd.N_nil _ _ _ _ _ | exact Kd.V_nil _ _ _ _ _ | exact Kd.Q_nil _ _ _ _ _ | exact Kd.S_nil _ _ _ _ _⟩, ⟨by (with_reducible repeat (first | refine blk_drewN ?_ _ | refine blk_drew ?_ | refine blk_alloc ?_ _)); exact BK257.out⟩, ⟨by (with_reducible repeat (first | refine blk_drewN ?_ _ | refine blk_drew ?_ | refine blk_alloc ?_ _)); exact BK260.out⟩, ⟨by repeat (first | (with_reducible first | exact HI0.out | apply IsS66.alloc | apply IsS66.drewN | apply IsS66.drew | apply IsS66.set_0 | refine IsS66.far ?_ NB0_257.out _ | refine IsS66.far ?_ NB0_260.out _) | exact HI0.out)⟩, ⟨by repeat (first | (with_reducible first | exact HK.out | apply KeepBut.set_ | apply keep_drewN | apply keep_drew | apply keep_alloc | refine keep_far ?_ GW257.out _ | refine keep_far ?_ GW260.out _) | exact HK.out)⟩, ⟨by repeat (first | (with_reducible first | exact HB.out | apply below_alloc | apply pw_below_drewN | apply below_drew1 | refine below_set ?_ (IsS66.ge HI0.out) | refine below_set ?_ GE257.out | refine below_set ?_ GE260.out) | exact HB.out)⟩⟩
                    case round =>
                      clear H'
                      try clear c1
                      try clear c2
                      try clear p2
                      try clear c3
                      try clear c3b0
                      try clear c3b1
                      try clear c4
                      try clear c5
                      try clear c6
                      try clear p6
                      try clear c7
                      try clear c8
                      try clear c9
                      try clear c12
                      try clear c12b0
                      try clear c15
                      try clear c24
                      try clear c24b0
                      try clear c26
                      try clear c29
                      try clear c38
                      try clear c39
                      try clear c40
                      try clear c41
                      try clear c51
                      try clear c52
                      try clear c57
                      try clear c57b0
                      try clear c57b1
                      try clear c60
                      try clear c61
                      try clear c64
                      try clear c64b0
                      try clear c64b1
                      try clear p64
                      try clear c65
                      try clear c66
                      try clear c68
                      try clear c69
                      try clear c71
                      try clear c77
                      try clear c78
                      try clear c81
                      try clear c81b0
                      try clear c83
                      try clear hcz10_0
                      try clear hcz10_1
                      try clear hcz10_2
                      try clear hcz10_3
                      try clear hcz10_4
                      try clear hcz10_5
                      try clear hcz10_6
                      try clear hcz10_7
                      try clear hcz10_8
                      try clear hcz10_9
                      try clear hcz40_0
                      try clear hcz40_1
                      try clear hcz40_2
                      try clear hcz40_3
                      try clear hcz40_4
                      try clear hcz40_5
                      try clear hcz40_6
                      try clear hcz40_7
                      try clear hcz40_8
                      try clear hcz40_9
                      try clear hcz42_0
                      try clear hcz42_1
                      try clear hcz42_2
                      try clear hcz42_3
                      try clear hcz42_4
                      try clear hcz42_5
                      try clear hcz42_6
                      try clear hcz42_7
                      try clear hcz42_8
                      try clear hcz42_9
                      try clear hcz53_0
                      try clear hcz53_1
                      try clear hcz53_2
                      try clear hcz53_3
                      try clear hcz53_4
                      try clear hcz53_5
                      try clear hcz53_6
                      try clear hcz53_7
                      try clear hcz53_8
                      try clear hcz53_9
                      try clear hcz56_0
                      try clear hcz56_1
                      try clear hcz56_2
                      try clear hcz56_3
                      try clear hcz56_4
                      try clear hcz56_5
                      try clear hcz56_6
                      try clear hcz56_7
                      try clear hcz56_8
                      try clear hcz56_9
                      try clear hcz62_0
                      try clear hcz62_1
                      try clear hcz62_2
                      try clear hcz62_3
                      try clear hcz62_4
                      try clear hcz62_5
                      try clear hcz62_6
                      try clear hcz62_7
                      try clear hcz62_8
                      try clear hcz62_9
                      try clear hcz67_0
                      try clear hcz67_1
                      try clear hcz67_2
                      try clear hcz67_3
                      try clear hcz67_4
                      try clear hcz67_5
                      try clear hcz67_6
                      try clear hcz67_7
                      try clear hcz67_8
                      try clear hcz67_9
                      try clear hcz70_0
                      try clear hcz70_1
                      try clear hcz70_2
                      try clear hcz70_3
                      try clear hcz70_4
                      try clear hcz70_5
                      try clear hcz70_6
                      try clear hcz70_7
                      try clear hcz70_8
                      try clear hcz70_9
                      try clear hcz79_0
                      try clear hcz79_1
                      try clear hcz79_2
                      try clear hcz79_3
                      try clear hcz79_4
                      try clear hcz79_5
                      try clear hcz79_6
                      try clear hcz79_7
                      try clear hcz79_8
                      try clear hcz79_9
                      try clear hfz10_0
                      try clear hfz10_1
                      try clear hfz10_2
                      try clear hfz10_3
                      try clear hfz10_4
                      try clear hfz10_5
                      try clear hfz10_6
                      try clear hfz10_7
                      try clear hfz10_8
                      try clear hfz10_9
                      try clear hfz40_0
                      try clear hfz40_1
                      try clear hfz40_2
                      try clear hfz40_3
                      try clear hfz40_4
                      try clear hfz40_5
                      try clear hfz40_6
                      try clear hfz40_7
                      try clear hfz40_8
                      try clear hfz40_9
                      try clear hfz42_0
                      try clear hfz42_1
                      try clear hfz42_2
                      try clear hfz42_3
                      try clear hfz42_4
                      try clear hfz42_5
                      try clear hfz42_6
                      try clear hfz42_7
                      try clear hfz42_8
                      try clear hfz42_9
                      try clear hfz53_0
                      try clear hfz53_1
                      try clear hfz53_2
                      try clear hfz53_3
                      try clear hfz53_4
                      try clear hfz53_5
                      try clear hfz53_6
                      try clear hfz53_7
                      try clear hfz53_8
                      try clear hfz53_9
                      try clear hfz56_0
                      try clear hfz56_1
                      try clear hfz56_2
                      try clear hfz56_3
                      try clear hfz56_4
                      try clear hfz56_5
                      try clear hfz56_6
                      try clear hfz56_7
                      try clear hfz56_8
                      try clear hfz56_9
                      try clear hfz62_0
                      try clear hfz62_1
                      try clear hfz62_2
                      try clear hfz62_3
                      try clear hfz62_4
                      try clear hfz62_5
                      try clear hfz62_6
                      try clear hfz62_7
                      try clear hfz62_8
                      try clear hfz62_9
                      try clear hfz67_0
                      try clear hfz67_1
                      try clear hfz67_2
                      try clear hfz67_3
                      try clear hfz67_4
                      try clear hfz67_5
                      try clear hfz67_6
                      try clear hfz67_7
                      try clear hfz67_8
                      try clear hfz67_9
                      try clear hfz70_0
                      try clear hfz70_1
                      try clear hfz70_2
                      try clear hfz70_3
                      try clear hfz70_4
                      try clear hfz70_5
                      try clear hfz70_6
                      try clear hfz70_7
                      try clear hfz70_8
                      try clear hfz70_9
                      try clear hfz79_0
                      try clear hfz79_1
                      try clear hfz79_2
                      try clear hfz79_3
                      try clear hfz79_4
                      try clear hfz79_5
                      try clear hfz79_6
                      try clear hfz79_7
                      try clear hfz79_8
                      try clear hfz79_9
                      try clear p2
                      try clear p6
                      try clear p64
                      obtain ⟨x85_4, x1000_4, x261006_4, u261006, rfl, HA, HK4, HO_261005, HO_261006, BK257, BK260, HI0, HK, HB⟩ := hrel
                      cases gk with
                      | zero => exact absurd HA.out (by simp [record_reader_read.l3])
                      | succ k4 =>
                        have H := HA.out
                        clear HA
                        simp only [record_reader_read.l3] at H
                        by_cases c91 : x85_4 < t300
                        · rw [if_pos c91] at H
                          have c91b0 : decide (x85_4 < t300) = true := decide_eq_true c91
                          clear c91
                          replace H := Option.bind_eq_some_iff.mp H
                          obtain ⟨⟨t302, t303⟩, A920, H⟩ := H
                          replace H : ((record_reader_num.f t303).bind fun bt304 => (if x261006_4.length < 8796093022208 then (record_reader_read.l3 k4 t300 (wrap64 (x85_4 + 1)) bt304.2 t258 t283 t285 t289 t291 x261005_3 (x261006_4 ++ [(⟨t302, bt304.1⟩ : S52)]) x261007_46) else (none))) = some (r1, r2, r3, r4, r5, r6, r7, r8, r9, r10, r11) := H
                          have A92 := Aside0.mk A920
                          clear A920
                          replace H := Option.bind_eq_some_iff.mp H
                          obtain ⟨⟨t304, t305⟩, A930, H⟩ := H
                          replace H : (if x261006_4.length < 8796093022208 then (record_reader_read.l3 k4 t300 (wrap64 (x85_4 + 1)) t305 t258 t283 t285 t289 t291 x261005_3 (x261006_4 ++ [(⟨t302, t304⟩ : S52)]) x261007_46) else (none)) = some (r1, r2, r3, r4, r5, r6, r7, r8, r9, r10, r11) := H
                          have A93 := Aside0.mk A930
                          clear A930
                          by_cases c94 : x261006_4.length < 8796093022208
                          · rw [if_pos c94] at H
                            have LMc94 := Aside0.mk c94
                            clear c94
                            obtain ⟨y306, hy306⟩ : ∃ y_ : List (S52), y_ = (x261006_4 ++ [(⟨t302, t304⟩ : S52)]) := ⟨_, rfl⟩
                            replace H : (record_reader_read.l3 k4 t300 (wrap64 (x85_4 + 1)) t305 t258 t283 t285 t289 t291 x261005_3 y306 x261007_46) = some (r1, r2, r3, r4, r5, r6, r7, r8, r9, r10, r11) := by first | (rw [hy306]; with_reducible exact H) | (have H2_ := (Option.bind_some _ _).symm.trans H; rw [hy306]; with_reducible exact H2_) | (have H2_ := (Option.bind_some _ _).symm.trans H; with_reducible exact H2_) | with_reducible exact H | (rw [hy306]; exact H) | exact H
                            have Ny306 := Aside0.mk hy306
                            clear hy306
                            have H' := Aside0.mk H
                            clear H
                            try go_wp2
                            have n0_ := Aside0.mk (Kd.R_drew HO_261005.out)
                            have n1_ := Aside0.mk (Kd.R_drew HO_261006.out)
                            have n2_ := Aside0.mk (blk_drew BK257.out)
                            have n3_ := Aside0.mk (blk_drew BK260.out)
                            have n4_ := Aside0.mk (IsS66.drew HI0.out)
                            have n5_ := Aside0.mk (keep_drew HK.out)
                            have n6_ := Aside0.mk (below_drew1 HB.out)
                            clear HO_261005
                            clear HO_261006
                            clear BK257
                            clear BK260
                            clear HI0
                            clear HK
                            clear HB
                            have HO_261005 := n0_
                            have HO_261006 := n1_
                            have BK257 := n2_
                            have BK260 := n3_
                            have HI0 := n4_
                            have HK := n5_
                            have HB := n6_
                            clear n0_ n1_ n2_ n3_ n4_ n5_ n6_
                            refine start_ (n := 11) (S := fun w' => w'.cell? ⟨gb260, 0, none⟩ = some (.int .i64 t258) ∧ w'.cell? ⟨gb260, 1, none⟩ = some (.int .i64 t283) ∧ w'.cell? ⟨gb260, 2, none⟩ = some (.int .i64 t285) ∧ w'.cell? ⟨gb260, 3, none⟩ = some (.int .i64 t289) ∧ w'.cell? ⟨gb260, 4, none⟩ = some (.int .i64 t291) ∧ w'.cell? ⟨gb260, 5, none⟩ = some (u261005) ∧ w'.cell? ⟨gb260, 6, none⟩ = some (u261006) ∧ w'.cell? ⟨gb260, 7, none⟩ = some (.int .i64 x261007_46) ∧ w'.cell? ⟨gb260, 8, none⟩ = some (.slice none 0 0) ∧ w'.cell? ⟨gb260, 9, none⟩ = some (.slice none 0 0)) (ds := [10]) #[false, false, false, false, false, false, false, false, false, false, false] (by kernel_rfl) rfl rfl ⟨(blk_cell BK260.out 0).trans rfl, (blk_cell BK260.out 1).trans rfl, (blk_cell BK260.out 2).trans rfl, (blk_cell BK260.out 3).trans rfl, (blk_cell BK260.out 4).trans rfl, (blk_cell BK260.out 5).trans rfl, (blk_cell BK260.out 6).trans rfl, (blk_cell BK260.out 7).trans rfl, (blk_cell BK260.out 8).trans rfl, (blk_cell BK260.out 9).trans rfl⟩ (fun hHeld => ?_); refine with_tabW record_reader_read.tab23 record_reader_read.bits23 (fun HT_ HW_ => ?_)
                            generalize wr.drew = w95 at HO_261005 HO_261006 BK257 BK260 HI0 HK HB hHeld ⊢
                            refine pure_ (i := 0) (N := some 87) (v := ?_) (a' := ?_) #[true, false, false, false, false, false, false, false, false, false, false] rfl rfl (any_of HT_.out (by kernel_rfl)) (fun _ _ _ h => h) (Or.inl ⟨by rfl, ?_⟩) ?_ ?_
                            rotate_left
                            · intro w'
                              go_simp
                              with_reducible rfl
                            rotate_left
                            · simp only [Act.put, List.setIfInBounds_toArray, List.set_cons_zero, List.set_cons_succ, i64_w, i32_w]
                              rfl
                            refine pure_ (i := 2) (N := some 89) (v := ?_) (a' := ?_) #[true, false, true, false, false, false, false, false, false, false, false] rfl rfl (any_of HT_.out (by kernel_rfl)) (fun _ _ _ h => h) (Or.inl ⟨by rfl, ?_⟩) ?_ ?_
                            rotate_left
                            · intro w'
                              go_simp
                              with_reducible rfl
                            rotate_left
                            · simp only [Act.put, List.setIfInBounds_toArray, List.set_cons_zero, List.set_cons_succ, i64_w, i32_w]
                              rfl
                            refine pure_ (i := 4) (N := some 91) (v := ?_) (a' := ?_) #[true, false, true, false, true, false, false, false, false, false, false] rfl rfl (any_of HT_.out (by kernel_rfl)) (fun _ _ _ h => h) (Or.inl ⟨by rfl, ?_⟩) ?_ ?_
                            rotate_left
                            · intro w'
                              go_simp
                              with_reducible rfl
                            rotate_left
                            · simp only [Act.put, List.setIfInBounds_toArray, List.set_cons_zero, List.set_cons_succ, i64_w, i32_w]
                              rfl
                            refine take_ (i := 1) (N := some 88) (v := ?_) (a' := ?_) #[true, true, true, false, true, false, false, false, false, false, false] rfl rfl (take_ofW HT_.out HW_.out (by kernel_rfl)) (fun _ _ _ h => h) (Or.inl ⟨by rfl, ?_⟩) hHeld ?_ ?_
                            rotate_left
                            · rintro w' ⟨s0, s1, s2, s3, s4, s5, s6, s7, s8, s9⟩
                              go_simp
                              with_reducible rfl
                            rotate_left
                            · simp only [Act.put, List.setIfInBounds_toArray, List.set_cons_zero, List.set_cons_succ, i64_w, i32_w]
                              rfl
                            refine one_ (i := 3) (N := some 90) #[true, true, true, true, true, false, false, false, false, false, false] rfl rfl (one_of HT_.out (by kernel_rfl)) (by decide) (fun K hK => ?_)
                            refine goes_ Try.func40 (by kernel_rfl) rfl #[.pointer (some ⟨g, 0, none⟩)] (by rfl) rfl rfl (by (try simp only [List.map_toArray, List.map_cons, List.map_nil]); first | done | rfl | (simp only [List.length_drop, List.length_take]; rfl)) ?_
                            with_reducible refine (record_reader_num.calls g x1000_4 t302 t303 w0 _ ?side1 ?side2 A92.out).mono ?_
                            (case side1 => repeat (first | (with_reducible first | exact HI0.out | apply IsS66.alloc | apply IsS66.drewN | apply IsS66.drew | apply IsS66.set_0 | refine IsS66.far ?_ NB0_257.out _ | refine IsS66.far ?_ NB0_260.out _) | exact HI0.out))
                            (case side2 => repeat (first | (with_reducible first | exact HB.out | apply below_alloc | apply pw_below_drewN | apply below_drew1 | refine below_set ?_ (IsS66.ge HI0.out) | refine below_set ?_ GE257.out | refine below_set ?_ GE260.out) | exact HB.out))
                            rintro e w96 ⟨rfl, hi, hb, hk⟩
                            refine ⟨_, rfl, ?_⟩
                            have n0_ := Aside0.mk (Kd.R_mono (Kd.R_keep (IsS66.apart (show IsS66 w0 _ g x1000_4 from by repeat (first | (with_reducible first | exact HI0.out | apply IsS66.alloc | apply IsS66.drewN | apply IsS66.drew | apply IsS66.set_0 | refine IsS66.far ?_ NB0_257.out _ | refine IsS66.far ?_ NB0_260.out _) | exact HI0.out)) (by (with_reducible repeat (first | apply Kd.R_alloc | apply Kd.R_drewN | apply Kd.R_drew)); exact HO_261005.out) (by decide)) hk (fun _ h => h.2)) (fun _ h => h.1))
                            have n1_ := Aside0.mk (Kd.R_mono (Kd.R_keep (IsS66.apart (show IsS66 w0 _ g x1000_4 from by repeat (first | (with_reducible first | exact HI0.out | apply IsS66.alloc | apply IsS66.drewN | apply IsS66.drew | apply IsS66.set_0 | refine IsS66.far ?_ NB0_257.out _ | refine IsS66.far ?_ NB0_260.out _) | exact HI0.out)) (by (with_reducible repeat (first | apply Kd.R_alloc | apply Kd.R_drewN | apply Kd.R_drew)); exact HO_261006.out) (by decide)) hk (fun _ h => h.2)) (fun _ h => h.1))
                            have n2_ := Aside0.mk (KeepBut.blk hk (g' := gb257) (o := .cells #[.int .i64 0, .int .i64 0, .int .i64 0, .int .i64 0, .int .i64 0, .slice none 0 0, .slice none 0 0, .int .i64 0, .slice none 0 0, .slice none 0 0] 30 (0, 0)) (by (with_reducible repeat (first | refine blk_drewN ?_ _ | refine blk_drew ?_ | refine blk_alloc ?_ _)); exact BK257.out) NB257_0.out (by simp))
                            have n3_ := Aside0.mk (KeepBut.blk hk (g' := gb260) (o := .cells #[.int .i64 t258, .int .i64 t283, .int .i64 t285, .int .i64 t289, .int .i64 t291, u261005, u261006, .int .i64 x261007_46, .slice none 0 0, .slice none 0 0] 30 (0, 0)) (by (with_reducible repeat (first | refine blk_drewN ?_ _ | refine blk_drew ?_ | refine blk_alloc ?_ _)); exact BK260.out) NB260_0.out (by simp))
                            have n4_ := Aside0.mk (KeepBut.trans (by repeat (first | (with_reducible first | exact HK.out | apply KeepBut.set_ | apply keep_drewN | apply keep_drew | apply keep_alloc | refine keep_far ?_ GW257.out _ | refine keep_far ?_ GW260.out _) | exact HK.out)) hk (.inl rfl))
                            have n5_ := Aside0.mk (hb)
                            have n6_ := Aside0.mk (hi)
                            clear HO_261005
                            clear HO_261006
                            clear BK257
                            clear BK260
                            clear HK
                            clear HB
                            clear HI0
                            have HO_261005 := n0_
                            have HO_261006 := n1_
                            have BK257 := n2_
                            have BK260 := n3_
                            have HK := n4_
                            have HB := n5_
                            have HI0 := n6_
                            clear n0_ n1_ n2_ n3_ n4_ n5_ n6_
                            (try clear hb)
                            (try clear hb2)
                            (try clear hk)
                            (try clear hi)
                            refine hK.out _ _ ⟨(blk_cell BK260.out 0).trans rfl, (blk_cell BK260.out 1).trans rfl, (blk_cell BK260.out 2).trans rfl, (blk_cell BK260.out 3).trans rfl, (blk_cell BK260.out 4).trans rfl, (blk_cell BK260.out 5).trans rfl, (blk_cell BK260.out 6).trans rfl, (blk_cell BK260.out 7).trans rfl, (blk_cell BK260.out 8).trans rfl, (blk_cell BK260.out 9).trans rfl⟩ (fun hHeld => ?_)
                            clear hK K
                            refine norm_ (a' := ?_) ?_ ?_
                            rotate_left
                            · show Act.put _ (some 90) _ = _
                              simp only [Act.put, List.setIfInBounds_toArray, List.set_cons_zero, List.set_cons_succ, i64_w, i32_w]
                              rfl
                            refine one_ (i := 5) (N := some 92) #[true, true, true, true, true, true, false, false, false, false, false] rfl rfl (one_of HT_.out (by kernel_rfl)) (by decide) (fun K hK => ?_)
                            refine goes_ Try.func40 (by kernel_rfl) rfl #[.pointer (some ⟨g, 0, none⟩)] (by rfl) rfl rfl (by (try simp only [List.map_toArray, List.map_cons, List.map_nil]); first | done | rfl | (simp only [List.length_drop, List.length_take]; rfl)) ?_
                            with_reducible refine (record_reader_num.calls g t303 t304 t305 w0 _ ?side1 ?side2 A93.out).mono ?_
                            (case side1 => repeat (first | (with_reducible first | exact HI0.out | apply IsS66.alloc | apply IsS66.drewN | apply IsS66.drew | apply IsS66.set_0 | refine IsS66.far ?_ NB0_257.out _ | refine IsS66.far ?_ NB0_260.out _) | exact HI0.out))
                            (case side2 => repeat (first | (with_reducible first | exact HB.out | apply below_alloc | apply pw_below_drewN | apply below_drew1 | refine below_set ?_ (IsS66.ge HI0.out) | refine below_set ?_ GE257.out | refine below_set ?_ GE260.out) | exact HB.out))
                            rintro e w97 ⟨rfl, hi, hb, hk⟩
                            refine ⟨_, rfl, ?_⟩
                            have n0_ := Aside0.mk (Kd.R_mono (Kd.R_keep (IsS66.apart (show IsS66 w0 _ g t303 from by repeat (first | (with_reducible first | exact HI0.out | apply IsS66.alloc | apply IsS66.drewN | apply IsS66.drew | apply IsS66.set_0 | refine IsS66.far ?_ NB0_257.out _ | refine IsS66.far ?_ NB0_260.out _) | exact HI0.out)) (by (with_reducible repeat (first | apply Kd.R_alloc | apply Kd.R_drewN | apply Kd.R_drew)); exact HO_261005.out) (by decide)) hk (fun _ h => h.2)) (fun _ h => h.1))
                            have n1_ := Aside0.mk (Kd.R_mono (Kd.R_keep (IsS66.apart (show IsS66 w0 _ g t303 from by repeat (first | (with_reducible first | exact HI0.out | apply IsS66.alloc | apply IsS66.drewN | apply IsS66.drew | apply IsS66.set_0 | refine IsS66.far ?_ NB0_257.out _ | refine IsS66.far ?_ NB0_260.out _) | exact HI0.out)) (by (with_reducible repeat (first | apply Kd.R_alloc | apply Kd.R_drewN | apply Kd.R_drew)); exact HO_261006.out) (by decide)) hk (fun _ h => h.2)) (fun _ h => h.1))
                            have n2_ := Aside0.mk (KeepBut.blk hk (g' := gb257) (o := .cells #[.int .i64 0, .int .i64 0, .int .i64 0, .int .i64 0, .int .i64 0, .slice none 0 0, .slice none 0 0, .int .i64 0, .slice none 0 0, .slice none 0 0] 30 (0, 0)) (by (with_reducible repeat (first | refine blk_drewN ?_ _ | refine blk_drew ?_ | refine blk_alloc ?_ _)); exact BK257.out) NB257_0.out (by simp))
                            have n3_ := Aside0.mk (KeepBut.blk hk (g' := gb260) (o := .cells #[.int .i64 t258, .int .i64 t283, .int .i64 t285, .int .i64 t289, .int .i64 t291, u261005, u261006, .int .i64 x261007_46, .slice none 0 0, .slice none 0 0] 30 (0, 0)) (by (with_reducible repeat (first | refine blk_drewN ?_ _ | refine blk_drew ?_ | refine blk_alloc ?_ _)); exact BK260.out) NB260_0.out (by simp))
                            have n4_ := Aside0.mk (KeepBut.trans (by repeat (first | (with_reducible first | exact HK.out | apply KeepBut.set_ | apply keep_drewN | apply keep_drew | apply keep_alloc | refine keep_far ?_ GW257.out _ | refine keep_far ?_ GW260.out _) | exact HK.out)) hk (.inl rfl))
                            have n5_ := Aside0.mk (hb)
                            have n6_ := Aside0.mk (hi)
                            clear HO_261005
                            clear HO_261006
                            clear BK257
                            clear BK260
                            clear HK
                            clear HB
                            clear HI0
                            have HO_261005 := n0_
                            have HO_261006 := n1_
                            have BK257 := n2_
                            have BK260 := n3_
                            have HK := n4_
                            have HB := n5_
                            have HI0 := n6_
                            clear n0_ n1_ n2_ n3_ n4_ n5_ n6_
                            (try clear hb)
                            (try clear hb2)
                            (try clear hk)
                            (try clear hi)
                            refine hK.out _ _ ⟨(blk_cell BK260.out 0).trans rfl, (blk_cell BK260.out 1).trans rfl, (blk_cell BK260.out 2).trans rfl, (blk_cell BK260.out 3).trans rfl, (blk_cell BK260.out 4).trans rfl, (blk_cell BK260.out 5).trans rfl, (blk_cell BK260.out 6).trans rfl, (blk_cell BK260.out 7).trans rfl, (blk_cell BK260.out 8).trans rfl, (blk_cell BK260.out 9).trans rfl⟩ (fun hHeld => ?_)
                            clear hK K
                            refine norm_ (a' := ?_) ?_ ?_
                            rotate_left
                            · show Act.put _ (some 92) _ = _
                              simp only [Act.put, List.setIfInBounds_toArray, List.set_cons_zero, List.set_cons_succ, i64_w, i32_w]
                              rfl
                            refine pure_ (i := 6) (N := some 93) (v := ?_) (a' := ?_) #[true, true, true, true, true, true, true, false, false, false, false] rfl rfl (any_of HT_.out (by kernel_rfl)) (fun _ _ _ h => h) (Or.inl ⟨by rfl, ?_⟩) ?_ ?_
                            rotate_left
                            · intro w'
                              go_simp
                              with_reducible rfl
                            rotate_left
                            · simp only [Act.put, List.setIfInBounds_toArray, List.set_cons_zero, List.set_cons_succ, i64_w, i32_w]
                              rfl
                            refine one_ (i := 7) (N := some 94) #[true, true, true, true, true, true, true, true, false, false, false] rfl rfl (one_of HT_.out (by kernel_rfl)) (by decide) (fun K hK => ?_)
                            refine value_ (w1 := ?_) (v := ?_) (by rfl) rfl ?_ ?_
                            rotate_left 2
                            · go_simp
                              constructor
                              · rfl
                              · rfl
                            refine hK.out _ _ ⟨(blk_cell (blk_alloc BK260.out _) 0).trans rfl, (blk_cell (blk_alloc BK260.out _) 1).trans rfl, (blk_cell (blk_alloc BK260.out _) 2).trans rfl, (blk_cell (blk_alloc BK260.out _) 3).trans rfl, (blk_cell (blk_alloc BK260.out _) 4).trans rfl, (blk_cell (blk_alloc BK260.out _) 5).trans rfl, (blk_cell (blk_alloc BK260.out _) 6).trans rfl, (blk_cell (blk_alloc BK260.out _) 7).trans rfl, (blk_cell (blk_alloc BK260.out _) 8).trans rfl, (blk_cell (blk_alloc BK260.out _) 9).trans rfl⟩ (fun hHeld => ?_)
                            clear hK K
                            refine norm_ (a' := ?_) ?_ ?_
                            rotate_left
                            · show Act.put _ (some 94) _ = _
                              simp only [Act.put, List.setIfInBounds_toArray, List.set_cons_zero, List.set_cons_succ, i64_w, i32_w]
                              rfl
                            refine one_ (i := 8) (N := some 95) #[true, true, true, true, true, true, true, true, true, false, false] rfl rfl (one_of HT_.out (by kernel_rfl)) (by decide) (fun K hK => ?_)
                            refine Kd.R_append_step k52 w.heap.size (by rfl) (.tmp 88) (.tmp 94) 26 52 (.agg #[(.int .i64 0), (.int .i64 0)]) 16 rfl Try.underlying26 info52 rfl (by decide) (by omega) u261006 x261006_4 (⟨t302, t304⟩ : S52) [.int .i64 t302, .int .i64 t304] (fun _ => True) (fun _ => False) rfl rfl ?aP (fun _ hk => hk.elim) ?aF ?aO (Below.refl _ _) ?aS ?aL ?_
                            (case aP => exact k52_mkM _ _ _ (⟨t302, t304⟩ : S52))
                            (case aF => exact (fun _ _ => trivial))
                            (case aO => exact (by (with_reducible repeat (first | apply Kd.R_alloc | apply Kd.R_drewN | apply Kd.R_drew)); exact HO_261006.out))
                            (case aS => exact (keep_size (w := w) (g := g) (row := none) (by repeat (first | (with_reducible first | exact HK.out | apply KeepBut.set_ | apply keep_drewN | apply keep_drew | apply keep_alloc | refine keep_far ?_ GW257.out _ | refine keep_far ?_ GW260.out _) | exact HK.out))))
                            (case aL => have := LMc94.out; omega)
                            intro v307 w98 ho hb hg hat
                            rw [← Ny306.out] at ho
                            have n0_ := Aside0.mk (Kd.R_over' (by (with_reducible repeat (first | apply Kd.R_alloc | apply Kd.R_drewN | apply Kd.R_drew)); exact HO_261005.out) (Kd.R_typed (by (with_reducible repeat (first | apply Kd.R_alloc | apply Kd.R_drewN | apply Kd.R_drew)); exact HO_261006.out)) (by decide) hg)
                            have n1_ := Aside0.mk (blk_grown (g := gb257) (o := .cells #[.int .i64 0, .int .i64 0, .int .i64 0, .int .i64 0, .int .i64 0, .slice none 0 0, .slice none 0 0, .int .i64 0, .slice none 0 0, .slice none 0 0] 30 (0, 0)) (by (with_reducible repeat (first | refine blk_drewN ?_ _ | refine blk_drew ?_ | refine blk_alloc ?_ _)); exact BK257.out) hg (Kd.R_ne HO_261006.out BK257.out (by decide)))
                            have n2_ := Aside0.mk (blk_grown (g := gb260) (o := .cells #[.int .i64 t258, .int .i64 t283, .int .i64 t285, .int .i64 t289, .int .i64 t291, u261005, u261006, .int .i64 x261007_46, .slice none 0 0, .slice none 0 0] 30 (0, 0)) (by (with_reducible repeat (first | refine blk_drewN ?_ _ | refine blk_drew ?_ | refine blk_alloc ?_ _)); exact BK260.out) hg (Kd.R_ne HO_261006.out BK260.out (by decide)))
                            have n3_ := Aside0.mk (IsS66.grown (by repeat (first | (with_reducible first | exact HI0.out | apply IsS66.alloc | apply IsS66.drewN | apply IsS66.drew | apply IsS66.set_0 | refine IsS66.far ?_ NB0_257.out _ | refine IsS66.far ?_ NB0_260.out _) | exact HI0.out)) hg (IsS66.own_ne HI0.out HO_261006.out (by decide)))
                            have n4_ := Aside0.mk (below_weaken (by repeat (first | (with_reducible first | exact HB.out | apply below_alloc | apply pw_below_drewN | apply below_drew1 | refine below_set ?_ (IsS66.ge HI0.out) | refine below_set ?_ GE257.out | refine below_set ?_ GE260.out) | exact HB.out)) HL.out hb)
                            have n5_ := Aside0.mk (KeepBut.trans (by repeat (first | (with_reducible first | exact HK.out | apply KeepBut.set_ | apply keep_drewN | apply keep_drew | apply keep_alloc | refine keep_far ?_ GW257.out _ | refine keep_far ?_ GW260.out _) | exact HK.out)) (KeepBut.of_grown hg g) (Kd.R_base2 HO_261006.out))
                            have n6_ := Aside0.mk (ho)
                            clear HO_261005
                            clear BK257
                            clear BK260
                            clear HI0
                            clear HB
                            clear HK
                            clear HO_261006
                            have HO_261005 := n0_
                            have BK257 := n1_
                            have BK260 := n2_
                            have HI0 := n3_
                            have HB := n4_
                            have HK := n5_
                            have HO308 := n6_
                            clear n0_ n1_ n2_ n3_ n4_ n5_ n6_
                            clear ho hb hg hat
                            obtain ⟨Ao99, co99, eo99⟩ := Kd.R_slice HO308.out
                            (first | subst eo99 | (injection eo99 with f1_ f2_ f3_; have f4_ := f1_.symm; have f5_ := f3_.symm; clear f1_ f2_ f3_; subst f4_; subst f5_))
                            refine hK.out _ _ ⟨(blk_cell BK260.out 0).trans rfl, (blk_cell BK260.out 1).trans rfl, (blk_cell BK260.out 2).trans rfl, (blk_cell BK260.out 3).trans rfl, (blk_cell BK260.out 4).trans rfl, (blk_cell BK260.out 5).trans rfl, (blk_cell BK260.out 6).trans rfl, (blk_cell BK260.out 7).trans rfl, (blk_cell BK260.out 8).trans rfl, (blk_cell BK260.out 9).trans rfl⟩ (fun hHeld => ?_)
                            clear hK K
                            refine norm_ (a' := ?_) ?_ ?_
                            rotate_left
                            · show Act.put _ (some 95) _ = _
                              simp only [Act.put, List.setIfInBounds_toArray, List.set_cons_zero, List.set_cons_succ, i64_w, i32_w]
                              rfl
                            refine pure_ (i := 9) (N := some 96) (v := ?_) (a' := ?_) #[true, true, true, true, true, true, true, true, true, true, false] rfl rfl (any_of HT_.out (by kernel_rfl)) (fun _ _ _ h => h) (Or.inl ⟨by rfl, ?_⟩) ?_ ?_
                            rotate_left
                            · intro w'
                              go_simp
                              with_reducible rfl
                            rotate_left
                            · simp only [Act.put, List.setIfInBounds_toArray, List.set_cons_zero, List.set_cons_succ, i64_w, i32_w]
                              rfl
                            refine last_ (i := 10) (N := none) #[true, true, true, true, true, true, true, true, true, true, true] rfl rfl (one_of HT_.out (by kernel_rfl)) (by decide) (fun K hK => ?_)
                            have hs100 : w98.cell? ⟨gb260, 6, none⟩ = some (u261006) := (blk_cell BK260.out 6).trans rfl
                            have hfs100 := blk_frozen BK260.out 6
                            have hns100_0 := NB257_260.out
                            have hms100_0 := NB260_257.out
                            refine skip_ (w1 := ?_) (by rfl) rfl ?_ ?_
                            rotate_left
                            · go_simp
                              rfl
                            refine hK.out _ _ ?_
                            clear hK K
                            refine done_ (done_of HT_.out (by kernel_rfl)) ?_
                            try go_wp2
                            go_roundg k4
                            case measure => have := HJ46.out; have := HJ62.out; have := HK3.out; have := HK4.out; omega
                            case rel => exact ⟨(wrap64 (x85_4 + 1)), (t305), (y306), (.slice Ao99 y306.length co99), (by first | rfl | (simp; done) | (simp [*]; done)), H', ⟨by have := HJ46.out; have := HJ62.out; have := HK3.out; have := HK4.out; omega⟩, ⟨by (with_reducible repeat (first | apply Kd.R_alloc | apply Kd.R_drewN | apply Kd.R_drew)); exact Kd.R_mono (Kd.R_far (p := ⟨gb260, 6, none⟩) (Kd.R_types HO_261005.out BK260.out (by decide)) (fun _ hk => hk.2) (.slice Ao99 y306.length co99)) (fun _ hk => trivial)⟩, ⟨by (with_reducible repeat (first | apply Kd.R_alloc | apply Kd.R_drewN | apply Kd.R_drew)); exact Kd.R_mono (Kd.R_far (p := ⟨gb260, 6, none⟩) (Kd.R_types HO308.out BK260.out (by decide)) (fun _ hk => hk.2) (.slice Ao99 y306.length co99)) (fun _ hk => trivial)⟩, ⟨by (with_reducible repeat (first | refine blk_drewN ?_ _ | refine blk_drew ?_ | refine blk_alloc ?_ _)); refine blk_far ?_ NB257_260.out _; (with_reducible repeat (first | refine blk_drewN ?_ _ | refine blk_drew ?_ | refine blk_alloc ?_ _)); exact BK257.out⟩, ⟨by (with_reducible repeat (first | refine blk_drewN ?_ _ | refine blk_drew ?_ | refine blk_alloc ?_ _)); refine blk_put (cs := #[.int .i64 t258, .int .i64 t283, .int .i64 t285, .int .i64 t289, .int .i64 t291, u261005, u261006, .int .i64 x261007_46, .slice none 0 0, .slice none 0 0]) ?_ 6 _ rfl; (with_reducible repeat (first | refine blk_drewN ?_ _ | refine blk_drew ?_ | refine blk_alloc ?_ _)); exact BK260.out⟩, ⟨by repeat (first | (with_reducible first | exact HI0.out | apply IsS66.alloc | apply IsS66.drewN | apply IsS66.drew | apply IsS66.set_0 | refine IsS66.far ?_ NB0_257.out _ | refine IsS66.far ?_ NB0_260.out _) | exact HI0.out)⟩, ⟨by repeat (first | (with_reducible first | exact HK.out | apply KeepBut.set_ | apply keep_drewN | apply keep_drew | apply keep_alloc | refine keep_far ?_ GW257.out _ | refine keep_far ?_ GW260.out _) | exact HK.out)⟩, ⟨by repeat (first | (with_reducible first | exact HB.out | apply below_alloc | apply pw_below_drewN | apply below_drew1 | refine below_set ?_ (IsS66.ge HI0.out) | refine below_set ?_ GE257.out | refine below_set ?_ GE260.out) | exact HB.out)⟩⟩
                          · rw [if_neg c94] at H
                            exact absurd H (by simp)
                        · rw [if_neg c91] at H
                          have c91b0 : decide (x85_4 < t300) = false := decide_eq_false c91
                          clear c91
                          simp only [Option.some.injEq, Prod.mk.injEq] at H
                          obtain ⟨rfl, rfl, rfl, rfl, rfl, rfl, rfl, rfl, rfl, rfl, rfl⟩ := H
                          have hnb101 := NB260_257.out
                          have hnc101 := NB257_260.out
                          have hnb102 := NB260_0.out
                          have hnc102 := NB0_260.out
                          have hcz103_0 : wr.cell? ⟨gb260, 0, none⟩ = some (.int .i64 t258) := (blk_cell BK260.out 0).trans rfl
                          have hcz103_1 : wr.cell? ⟨gb260, 1, none⟩ = some (.int .i64 t283) := (blk_cell BK260.out 1).trans rfl
                          have hcz103_2 : wr.cell? ⟨gb260, 2, none⟩ = some (.int .i64 t285) := (blk_cell BK260.out 2).trans rfl
                          have hcz103_3 : wr.cell? ⟨gb260, 3, none⟩ = some (.int .i64 t289) := (blk_cell BK260.out 3).trans rfl
                          have hcz103_4 : wr.cell? ⟨gb260, 4, none⟩ = some (.int .i64 t291) := (blk_cell BK260.out 4).trans rfl
                          have hcz103_5 : wr.cell? ⟨gb260, 5, none⟩ = some (u261005) := (blk_cell BK260.out 5).trans rfl
                          have hcz103_6 : wr.cell? ⟨gb260, 6, none⟩ = some (u261006) := (blk_cell BK260.out 6).trans rfl
                          have hcz103_7 : wr.cell? ⟨gb260, 7, none⟩ = some (.int .i64 x261007_46) := (blk_cell BK260.out 7).trans rfl
                          have hcz103_8 : wr.cell? ⟨gb260, 8, none⟩ = some (.slice none 0 0) := (blk_cell BK260.out 8).trans rfl
                          have hcz103_9 : wr.cell? ⟨gb260, 9, none⟩ = some (.slice none 0 0) := (blk_cell BK260.out 9).trans rfl
                          have hfz103_0 := blk_frozen BK260.out 0
                          have hfz103_1 := blk_frozen BK260.out 1
                          have hfz103_2 := blk_frozen BK260.out 2
                          have hfz103_3 := blk_frozen BK260.out 3
                          have hfz103_4 := blk_frozen BK260.out 4
                          have hfz103_5 := blk_frozen BK260.out 5
                          have hfz103_6 := blk_frozen BK260.out 6
                          have hfz103_7 := blk_frozen BK260.out 7
                          have hfz103_8 := blk_frozen BK260.out 8
                          have hfz103_9 := blk_frozen BK260.out 9
                          have hnb104 := NB257_0.out
                          have hnc104 := NB0_257.out
                          have hcz105_0 : wr.cell? ⟨gb257, 0, none⟩ = some (.int .i64 0) := (blk_cell BK257.out 0).trans rfl
                          have hcz105_1 : wr.cell? ⟨gb257, 1, none⟩ = some (.int .i64 0) := (blk_cell BK257.out 1).trans rfl
                          have hcz105_2 : wr.cell? ⟨gb257, 2, none⟩ = some (.int .i64 0) := (blk_cell BK257.out 2).trans rfl
                          have hcz105_3 : wr.cell? ⟨gb257, 3, none⟩ = some (.int .i64 0) := (blk_cell BK257.out 3).trans rfl
                          have hcz105_4 : wr.cell? ⟨gb257, 4, none⟩ = some (.int .i64 0) := (blk_cell BK257.out 4).trans rfl
                          have hcz105_5 : wr.cell? ⟨gb257, 5, none⟩ = some (.slice none 0 0) := (blk_cell BK257.out 5).trans rfl
                          have hcz105_6 : wr.cell? ⟨gb257, 6, none⟩ = some (.slice none 0 0) := (blk_cell BK257.out 6).trans rfl
                          have hcz105_7 : wr.cell? ⟨gb257, 7, none⟩ = some (.int .i64 0) := (blk_cell BK257.out 7).trans rfl
                          have hcz105_8 : wr.cell? ⟨gb257, 8, none⟩ = some (.slice none 0 0) := (blk_cell BK257.out 8).trans rfl
                          have hcz105_9 : wr.cell? ⟨gb257, 9, none⟩ = some (.slice none 0 0) := (blk_cell BK257.out 9).trans rfl
                          have hfz105_0 := blk_frozen BK257.out 0
                          have hfz105_1 := blk_frozen BK257.out 1
                          have hfz105_2 := blk_frozen BK257.out 2
                          have hfz105_3 := blk_frozen BK257.out 3
                          have hfz105_4 := blk_frozen BK257.out 4
                          have hfz105_5 := blk_frozen BK257.out 5
                          have hfz105_6 := blk_frozen BK257.out 6
                          have hfz105_7 := blk_frozen BK257.out 7
                          have hfz105_8 := blk_frozen BK257.out 8
                          have hfz105_9 := blk_frozen BK257.out 9
                          obtain ⟨Ao106, co106, eo106⟩ := Kd.R_slice HO_261005.out
                          subst eo106
                          obtain ⟨Ao107, co107, eo107⟩ := Kd.R_slice HO_261006.out
                          subst eo107
                          go_wp2
                          refine bodyPost_ret (results_cell_row rfl _ _ gb257 30 #[.int .i64 t258, .int .i64 t283, .int .i64 t285, .int .i64 t289, .int .i64 t291, .slice Ao106 x261005_3.length co106, .slice Ao107 x261006_4.length co107, .int .i64 x261007_46, .slice none 0 0, .slice none 0 0] (0, 0) _ rfl (by (with_reducible repeat (first | refine blk_drewN ?_ _ | refine blk_drew ?_ | refine blk_alloc ?_ _)); refine blk_put (cs := #[.int .i64 t258, .int .i64 t283, .int .i64 t285, .int .i64 t289, .int .i64 t291, .slice Ao106 x261005_3.length co106, .slice Ao107 x261006_4.length co107, .int .i64 x261007_46, .slice none 0 0, .slice none 0 0]) ?_ 9 _ rfl; (with_reducible repeat (first | refine blk_drewN ?_ _ | refine blk_drew ?_ | refine blk_alloc ?_ _)); refine blk_put (cs := #[.int .i64 t258, .int .i64 t283, .int .i64 t285, .int .i64 t289, .int .i64 t291, .slice Ao106 x261005_3.length co106, .slice Ao107 x261006_4.length co107, .int .i64 x261007_46, .slice none 0 0, .slice none 0 0]) ?_ 8 _ rfl; (with_reducible repeat (first | refine blk_drewN ?_ _ | refine blk_drew ?_ | refine blk_alloc ?_ _)); refine blk_put (cs := #[.int .i64 t258, .int .i64 t283, .int .i64 t285, .int .i64 t289, .int .i64 t291, .slice Ao106 x261005_3.length co106, .slice Ao107 x261006_4.length co107, .int .i64 0, .slice none 0 0, .slice none 0 0]) ?_ 7 _ rfl; (with_reducible repeat (first | refine blk_drewN ?_ _ | refine blk_drew ?_ | refine blk_alloc ?_ _)); refine blk_put (cs := #[.int .i64 t258, .int .i64 t283, .int .i64 t285, .int .i64 t289, .int .i64 t291, .slice Ao106 x261005_3.length co106, .slice none 0 0, .int .i64 0, .slice none 0 0, .slice none 0 0]) ?_ 6 _ rfl; (with_reducible repeat (first | refine blk_drewN ?_ _ | refine blk_drew ?_ | refine blk_alloc ?_ _)); refine blk_put (cs := #[.int .i64 t258, .int .i64 t283, .int .i64 t285, .int .i64 t289, .int .i64 t291, .slice none 0 0, .slice none 0 0, .int .i64 0, .slice none 0 0, .slice none 0 0]) ?_ 5 _ rfl; (with_reducible repeat (first | refine blk_drewN ?_ _ | refine blk_drew ?_ | refine blk_alloc ?_ _)); refine blk_put (cs := #[.int .i64 t258, .int .i64 t283, .int .i64 t285, .int .i64 t289, .int .i64 0, .slice none 0 0, .slice none 0 0, .int .i64 0, .slice none 0 0, .slice none 0 0]) ?_ 4 _ rfl; (with_reducible repeat (first | refine blk_drewN ?_ _ | refine blk_drew ?_ | refine blk_alloc ?_ _)); refine blk_put (cs := #[.int .i64 t258, .int .i64 t283, .int .i64 t285, .int .i64 0, .int .i64 0, .slice none 0 0, .slice none 0 0, .int .i64 0, .slice none 0 0, .slice none 0 0]) ?_ 3 _ rfl; (with_reducible repeat (first | refine blk_drewN ?_ _ | refine blk_drew ?_ | refine blk_alloc ?_ _)); refine blk_put (cs := #[.int .i64 t258, .int .i64 t283, .int .i64 0, .int .i64 0, .int .i64 0, .slice none 0 0, .slice none 0 0, .int .i64 0, .slice none 0 0, .slice none 0 0]) ?_ 2 _ rfl; (with_reducible repeat (first | refine blk_drewN ?_ _ | refine blk_drew ?_ | refine blk_alloc ?_ _)); refine blk_put (cs := #[.int .i64 t258, .int .i64 0, .int .i64 0, .int .i64 0, .int .i64 0, .slice none 0 0, .slice none 0 0, .int .i64 0, .slice none 0 0, .slice none 0 0]) ?_ 1 _ rfl; (with_reducible repeat (first | refine blk_drewN ?_ _ | refine blk_drew ?_ | refine blk_alloc ?_ _)); refine blk_put (cs := #[.int .i64 0, .int .i64 0, .int .i64 0, .int .i64 0, .int .i64 0, .slice none 0 0, .slice none 0 0, .int .i64 0, .slice none 0 0, .slice none 0 0]) ?_ 0 _ rfl; (with_reducible repeat (first | refine blk_drewN ?_ _ | refine blk_drew ?_ | refine blk_alloc ?_ _)); exact BK257.out) Try.underlying30 rfl (by kernel_rfl)) rfl ?_
                          exact ⟨_, _, _, _, by first | rfl | (simp [errW_none, errW_some] <;> rfl) | (simp [*, errW_none, errW_some] <;> rfl), by (with_reducible repeat (first | apply Kd.R_alloc | apply Kd.R_drewN | apply Kd.R_drew)); exact Kd.R_mono (Kd.R_far (p := ⟨gb257, 9, none⟩) (Kd.R_far (p := ⟨gb257, 8, none⟩) (Kd.R_far (p := ⟨gb257, 7, none⟩) (Kd.R_far (p := ⟨gb257, 6, none⟩) (Kd.R_far (p := ⟨gb257, 5, none⟩) (Kd.R_far (p := ⟨gb257, 4, none⟩) (Kd.R_far (p := ⟨gb257, 3, none⟩) (Kd.R_far (p := ⟨gb257, 2, none⟩) (Kd.R_far (p := ⟨gb257, 1, none⟩) (Kd.R_far (p := ⟨gb257, 0, none⟩) (Kd.R_types HO_261005.out BK257.out (by decide)) (fun _ hk => hk.2) (.int .i64 t258)) (fun _ hk => hk.2) (.int .i64 t283)) (fun _ hk => hk.2) (.int .i64 t285)) (fun _ hk => hk.2) (.int .i64 t289)) (fun _ hk => hk.2) (.int .i64 t291)) (fun _ hk => hk.2) (.slice Ao106 x261005_3.length co106)) (fun _ hk => hk.2) (.slice Ao107 x261006_4.length co107)) (fun _ hk => hk.2) (.int .i64 x261007_46)) (fun _ hk => hk.2) (.slice none 0 0)) (fun _ hk => hk.2) (.slice none 0 0)) (fun _ hk => trivial), by (with_reducible repeat (first | apply Kd.R_alloc | apply Kd.R_drewN | apply Kd.R_drew)); exact Kd.R_mono (Kd.R_far (p := ⟨gb257, 9, none⟩) (Kd.R_far (p := ⟨gb257, 8, none⟩) (Kd.R_far (p := ⟨gb257, 7, none⟩) (Kd.R_far (p := ⟨gb257, 6, none⟩) (Kd.R_far (p := ⟨gb257, 5, none⟩) (Kd.R_far (p := ⟨gb257, 4, none⟩) (Kd.R_far (p := ⟨gb257, 3, none⟩) (Kd.R_far (p := ⟨gb257, 2, none⟩) (Kd.R_far (p := ⟨gb257, 1, none⟩) (Kd.R_far (p := ⟨gb257, 0, none⟩) (Kd.R_types HO_261006.out BK257.out (by decide)) (fun _ hk => hk.2) (.int .i64 t258)) (fun _ hk => hk.2) (.int .i64 t283)) (fun _ hk => hk.2) (.int .i64 t285)) (fun _ hk => hk.2) (.int .i64 t289)) (fun _ hk => hk.2) (.int .i64 t291)) (fun _ hk => hk.2) (.slice Ao106 x261005_3.length co106)) (fun _ hk => hk.2) (.slice Ao107 x261006_4.length co107)) (fun _ hk => hk.2) (.int .i64 x261007_46)) (fun _ hk => hk.2) (.slice none 0 0)) (fun _ hk => hk.2) (.slice none 0 0)) (fun _ hk => trivial), by first | exact Kd.R_nil _ _ _ _ _ | exact Kd.N_nil _ _ _ _ _ | exact Kd.V_nil _ _ _ _ _ | exact Kd.Q_nil _ _ _ _ _ | exact Kd.S_nil _ _ _ _ _, by first | exact Kd.R_nil _ _ _ _ _ | exact Kd.N_nil _ _ _ _ _ | exact Kd.V_nil _ _ _ _ _ | exact Kd.Q_nil _ _ _ _ _ | exact Kd.S_nil _ _ _ _ _, by repeat (first | (with_reducible first | exact HI0.out | apply IsS66.alloc | apply IsS66.drewN | apply IsS66.drew | apply IsS66.set_0 | refine IsS66.far ?_ NB0_257.out _ | refine IsS66.far ?_ NB0_260.out _) | exact HI0.out), by repeat (first | (with_reducible first | exact HB.out | apply below_alloc | apply pw_below_drewN | apply below_drew1 | refine below_set ?_ (IsS66.ge HI0.out) | refine below_set ?_ GE257.out | refine below_set ?_ GE260.out) | exact HB.out), by repeat (first | (with_reducible first | exact HK.out | apply KeepBut.set_ | apply keep_drewN | apply keep_drew | apply keep_alloc | refine keep_far ?_ GW257.out _ | refine keep_far ?_ GW260.out _) | exact HK.out)⟩
            · replace c71 := Bool.eq_false_iff.mpr c71
              subst c71
              have H1 : (some (t258, t283, t285, 0, 0, ([] : List Int), ([] : List (S52)), x261007_46, ([] : List (S54)), ([] : List (S56)), x1000_46)) = some (r1, r2, r3, r4, r5, r6, r7, r8, r9, r10, r11) := by rw [if_neg (show ¬ (false = true) by decide)] at H; exact H
              clear H
              have H := H1
              clear H1
              simp only [Option.some.injEq, Prod.mk.injEq] at H
              obtain ⟨rfl, rfl, rfl, rfl, rfl, rfl, rfl, rfl, rfl, rfl, rfl⟩ := H
              have hnb108 := NB260_257.out
              have hnc108 := NB257_260.out
              have hnb109 := NB260_0.out
              have hnc109 := NB0_260.out
              have hcz110_0 : wc.cell? ⟨gb260, 0, none⟩ = some (.int .i64 t258) := (blk_cell BK260.out 0).trans rfl
              have hcz110_1 : wc.cell? ⟨gb260, 1, none⟩ = some (.int .i64 t283) := (blk_cell BK260.out 1).trans rfl
              have hcz110_2 : wc.cell? ⟨gb260, 2, none⟩ = some (.int .i64 t285) := (blk_cell BK260.out 2).trans rfl
              have hcz110_3 : wc.cell? ⟨gb260, 3, none⟩ = some (.int .i64 0) := (blk_cell BK260.out 3).trans rfl
              have hcz110_4 : wc.cell? ⟨gb260, 4, none⟩ = some (.int .i64 0) := (blk_cell BK260.out 4).trans rfl
              have hcz110_5 : wc.cell? ⟨gb260, 5, none⟩ = some (.slice none 0 0) := (blk_cell BK260.out 5).trans rfl
              have hcz110_6 : wc.cell? ⟨gb260, 6, none⟩ = some (.slice none 0 0) := (blk_cell BK260.out 6).trans rfl
              have hcz110_7 : wc.cell? ⟨gb260, 7, none⟩ = some (.int .i64 x261007_46) := (blk_cell BK260.out 7).trans rfl
              have hcz110_8 : wc.cell? ⟨gb260, 8, none⟩ = some (.slice none 0 0) := (blk_cell BK260.out 8).trans rfl
              have hcz110_9 : wc.cell? ⟨gb260, 9, none⟩ = some (.slice none 0 0) := (blk_cell BK260.out 9).trans rfl
              have hfz110_0 := blk_frozen BK260.out 0
              have hfz110_1 := blk_frozen BK260.out 1
              have hfz110_2 := blk_frozen BK260.out 2
              have hfz110_3 := blk_frozen BK260.out 3
              have hfz110_4 := blk_frozen BK260.out 4
              have hfz110_5 := blk_frozen BK260.out 5
              have hfz110_6 := blk_frozen BK260.out 6
              have hfz110_7 := blk_frozen BK260.out 7
              have hfz110_8 := blk_frozen BK260.out 8
              have hfz110_9 := blk_frozen BK260.out 9
              have hnb111 := NB257_0.out
              have hnc111 := NB0_257.out
              have hcz112_0 : wc.cell? ⟨gb257, 0, none⟩ = some (.int .i64 0) := (blk_cell BK257.out 0).trans rfl
              have hcz112_1 : wc.cell? ⟨gb257, 1, none⟩ = some (.int .i64 0) := (blk_cell BK257.out 1).trans rfl
              have hcz112_2 : wc.cell? ⟨gb257, 2, none⟩ = some (.int .i64 0) := (blk_cell BK257.out 2).trans rfl
              have hcz112_3 : wc.cell? ⟨gb257, 3, none⟩ = some (.int .i64 0) := (blk_cell BK257.out 3).trans rfl
              have hcz112_4 : wc.cell? ⟨gb257, 4, none⟩ = some (.int .i64 0) := (blk_cell BK257.out 4).trans rfl
              have hcz112_5 : wc.cell? ⟨gb257, 5, none⟩ = some (.slice none 0 0) := (blk_cell BK257.out 5).trans rfl
              have hcz112_6 : wc.cell? ⟨gb257, 6, none⟩ = some (.slice none 0 0) := (blk_cell BK257.out 6).trans rfl
              have hcz112_7 : wc.cell? ⟨gb257, 7, none⟩ = some (.int .i64 0) := (blk_cell BK257.out 7).trans rfl
              have hcz112_8 : wc.cell? ⟨gb257, 8, none⟩ = some (.slice none 0 0) := (blk_cell BK257.out 8).trans rfl
              have hcz112_9 : wc.cell? ⟨gb257, 9, none⟩ = some (.slice none 0 0) := (blk_cell BK257.out 9).trans rfl
              have hfz112_0 := blk_frozen BK257.out 0
              have hfz112_1 := blk_frozen BK257.out 1
              have hfz112_2 := blk_frozen BK257.out 2
              have hfz112_3 := blk_frozen BK257.out 3
              have hfz112_4 := blk_frozen BK257.out 4
              have hfz112_5 := blk_frozen BK257.out 5
              have hfz112_6 := blk_frozen BK257.out 6
              have hfz112_7 := blk_frozen BK257.out 7
              have hfz112_8 := blk_frozen BK257.out 8
              have hfz112_9 := blk_frozen BK257.out 9
              go_wp2
              refine bodyPost_ret (results_cell_row rfl _ _ gb257 30 #[.int .i64 t258, .int .i64 t283, .int .i64 t285, .int .i64 0, .int .i64 0, .slice none 0 0, .slice none 0 0, .int .i64 x261007_46, .slice none 0 0, .slice none 0 0] (0, 0) _ rfl (by (with_reducible repeat (first | refine blk_drewN ?_ _ | refine blk_drew ?_ | refine blk_alloc ?_ _)); refine blk_put (cs := #[.int .i64 t258, .int .i64 t283, .int .i64 t285, .int .i64 0, .int .i64 0, .slice none 0 0, .slice none 0 0, .int .i64 x261007_46, .slice none 0 0, .slice none 0 0]) ?_ 9 _ rfl; (with_reducible repeat (first | refine blk_drewN ?_ _ | refine blk_drew ?_ | refine blk_alloc ?_ _)); refine blk_put (cs := #[.int .i64 t258, .int .i64 t283, .int .i64 t285, .int .i64 0, .int .i64 0, .slice none 0 0, .slice none 0 0, .int .i64 x261007_46, .slice none 0 0, .slice none 0 0]) ?_ 8 _ rfl; (with_reducible repeat (first | refine blk_drewN ?_ _ | refine blk_drew ?_ | refine blk_alloc ?_ _)); refine blk_put (cs := #[.int .i64 t258, .int .i64 t283, .int .i64 t285, .int .i64 0, .int .i64 0, .slice none 0 0, .slice none 0 0, .int .i64 0, .slice none 0 0, .slice none 0 0]) ?_ 7 _ rfl; (with_reducible repeat (first | refine blk_drewN ?_ _ | refine blk_drew ?_ | refine blk_alloc ?_ _)); refine blk_put (cs := #[.int .i64 t258, .int .i64 t283, .int .i64 t285, .int .i64 0, .int .i64 0, .slice none 0 0, .slice none 0 0, .int .i64 0, .slice none 0 0, .slice none 0 0]) ?_ 6 _ rfl; (with_reducible repeat (first | refine blk_drewN ?_ _ | refine blk_drew ?_ | refine blk_alloc ?_ _)); refine blk_put (cs := #[.int .i64 t258, .int .i64 t283, .int .i64 t285, .int .i64 0, .int .i64 0, .slice none 0 0, .slice none 0 0, .int .i64 0, .slice none 0 0, .slice none 0 0]) ?_ 5 _ rfl; (with_reducible repeat (first | refine blk_drewN ?_ _ | refine blk_drew ?_ | refine blk_alloc ?_ _)); refine blk_put (cs := #[.int .i64 t258, .int .i64 t283, .int .i64 t285, .int .i64 0, .int .i64 0, .slice none 0 0, .slice none 0 0, .int .i64 0, .slice none 0 0, .slice none 0 0]) ?_ 4 _ rfl; (with_reducible repeat (first | refine blk_drewN ?_ _ | refine blk_drew ?_ | refine blk_alloc ?_ _)); refine blk_put (cs := #[.int .i64 t258, .int .i64 t283, .int .i64 t285, .int .i64 0, .int .i64 0, .slice none 0 0, .slice none 0 0, .int .i64 0, .slice none 0 0, .slice none 0 0]) ?_ 3 _ rfl; (with_reducible repeat (first | refine blk_drewN ?_ _ | refine blk_drew ?_ | refine blk_alloc ?_ _)); refine blk_put (cs := #[.int .i64 t258, .int .i64 t283, .int .i64 0, .int .i64 0, .int .i64 0, .slice none 0 0, .slice none 0 0, .int .i64 0, .slice none 0 0, .slice none 0 0]) ?_ 2 _ rfl; (with_reducible repeat (first | refine blk_drewN ?_ _ | refine blk_drew ?_ | refine blk_alloc ?_ _)); refine blk_put (cs := #[.int .i64 t258, .int .i64 0, .int .i64 0, .int .i64 0, .int .i64 0, .slice none 0 0, .slice none 0 0, .int .i64 0, .slice none 0 0, .slice none 0 0]) ?_ 1 _ rfl; (with_reducible repeat (first | refine blk_drewN ?_ _ | refine blk_drew ?_ | refine blk_alloc ?_ _)); refine blk_put (cs := #[.int .i64 0, .int .i64 0, .int .i64 0, .int .i64 0, .int .i64 0, .slice none 0 0, .slice none 0 0, .int .i64 0, .slice none 0 0, .slice none 0 0]) ?_ 0 _ rfl; (with_reducible repeat (first | refine blk_drewN ?_ _ | refine blk_drew ?_ | refine blk_alloc ?_ _)); exact BK257.out) Try.underlying30 rfl (by kernel_rfl)) rfl ?_
              exact ⟨_, _, _, _, by first | rfl | (simp [errW_none, errW_some] <;> rfl) | (simp [*, errW_none, errW_some] <;> rfl), by first | exact Kd.R_nil _ _ _ _ _ | exact Kd.N_nil _ _ _ _ _ | exact Kd.V_nil _ _ _ _ _ | exact Kd.Q_nil _ _ _ _ _ | exact Kd.S_nil _ _ _ _ _, by first | exact Kd.R_nil _ _ _ _ _ | exact Kd.N_nil _ _ _ _ _ | exact Kd.V_nil _ _ _ _ _ | exact Kd.Q_nil _ _ _ _ _ | exact Kd.S_nil _ _ _ _ _, by first | exact Kd.R_nil _ _ _ _ _ | exact Kd.N_nil _ _ _ _ _ | exact Kd.V_nil _ _ _ _ _ | exact Kd.Q_nil _ _ _ _ _ | exact Kd.S_nil _ _ _ _ _, by first | exact Kd.R_nil _ _ _ _ _ | exact Kd.N_nil _ _ _ _ _ | exact Kd.V_nil _ _ _ _ _ | exact Kd.Q_nil _ _ _ _ _ | exact Kd.S_nil _ _ _ _ _, by repeat (first | (with_reducible first | exact HI0.out | apply IsS66.alloc | apply IsS66.drewN | apply IsS66.drew | apply IsS66.set_0 | refine IsS66.far ?_ NB0_257.out _ | refine IsS66.far ?_ NB0_260.out _) | exact HI0.out), by repeat (first | (with_reducible first | exact HB.out | apply below_alloc | apply pw_below_drewN | apply below_drew1 | refine below_set ?_ (IsS66.ge HI0.out) | refine below_set ?_ GE257.out | refine below_set ?_ GE260.out) | exact HB.out), by repeat (first | (with_reducible first | exact HK.out | apply KeepBut.set_ | apply keep_drewN | apply keep_drew | apply keep_alloc | refine keep_far ?_ GW257.out _ | refine keep_far ?_ GW260.out _) | exact HK.out)⟩
end Go.Proofs.Ytcplblpmgajmnaa.A
namespace Go.Proofs.Ytcplblpmgajmnaa.A
open Go.RowKit Go.Proofs.YtcplblpmgajmnaaW.PrintWords Go.Proofs.YtcplblpmgajmnaaW.PrintLast Go.Proofs.YtcplblpmgajmnaaW.PrintMore
set_option linter.unusedVariables false
set_option linter.unusedSimpArgs false
theorem num_f (v : View) : ∃ v', record_reader_num.f v = some (v.l.headD 0, v') ∧ v'.l = v.l.tail := by
  unfold record_reader_num.f
  cases h : v.l with
  | nil => exact ⟨v, by simp, by simp [h]⟩
  | cons x l => exact ⟨v.tail, by simp, by simp [View.tail, h]⟩
def cnt (l : List Int) (s : Nat) : Nat := min (l.headD 0).toNat (l.tail.length / s)
theorem count_f (v : View) (s : Nat) (hs : 0 < s) : ∃ v', record_reader_count.f v (s : Int) = some ((cnt v.l s : Int), v') ∧ v'.l = v.l.tail := by
  obtain ⟨v', h, hl⟩ := num_f v
  refine ⟨v', ?_, hl⟩
  unfold record_reader_count.f
  rw [if_pos (by omega), h, Option.bind_some, hl]
  congr 2
  unfold cnt mx mn
  have e : ((v.l.tail.length : Nat) : Int) / (s : Int) = ((v.l.tail.length / s : Nat) : Int) := by omega
  rw [e]
  generalize v.l.tail.length / s = q
  generalize v.l.headD 0 = n
  rcases Nat.le_total n.toNat q with h1 | h1
  · rw [Nat.min_eq_left h1]
    split <;> split <;> omega
  · rw [Nat.min_eq_right h1]
    split <;> split <;> omega
def takeI : Nat → List Int → List S52
  | 0, _ => []
  | c + 1, l => ⟨l.headD 0, l.tail.headD 0⟩ :: takeI c l.tail.tail
def takeD : Nat → List Int → List S54
  | 0, _ => []
  | c + 1, l => ⟨l.headD 0, l.tail.headD 0⟩ :: takeD c l.tail.tail
def takeA : Nat → List Int → List S56
  | 0, _ => []
  | c + 1, l => ⟨l.headD 0, l.tail.headD 0, l.tail.tail.headD 0, l.tail.tail.tail.headD 0⟩ :: takeA c l.tail.tail.tail.tail
def takeN : Nat → List Int → List Int
  | 0, _ => []
  | c + 1, l => l.headD 0 :: takeN c l.tail
theorem takeI_len (c : Nat) : ∀ l, (takeI c l).length = c := by
  induction c with
  | zero => intro l; rfl
  | succ c ih => intro l; simp [takeI, ih]
theorem takeD_len (c : Nat) : ∀ l, (takeD c l).length = c := by
  induction c with
  | zero => intro l; rfl
  | succ c ih => intro l; simp [takeD, ih]
theorem takeA_len (c : Nat) : ∀ l, (takeA c l).length = c := by
  induction c with
  | zero => intro l; rfl
  | succ c ih => intro l; simp [takeA, ih]
theorem takeN_len (c : Nat) : ∀ l, (takeN c l).length = c := by
  induction c with
  | zero => intro l; rfl
  | succ c ih => intro l; simp [takeN, ih]
def readBody (k t p n : Int) (l : List Int) : Rec :=
  let l2 := l.tail.tail
  let c1 := cnt l2 1
  let l3 := l2.tail.drop c1
  let c2 := cnt l3 2
  ⟨k, t, p, l.headD 0, l.tail.headD 0, takeN c1 l2.tail, takeI c2 l3.tail, n, [], []⟩
def readF (l : List Int) : Rec :=
  let k := l.headD 0
  let l1 := l.tail
  if k = 5 then
    let c1 := cnt l1 2
    let l3 := l1.tail.drop (2 * c1)
    ⟨k, 0, 0, 0, 0, [], [], 0, takeD c1 l1.tail, takeA (cnt l3 4) l3.tail⟩
  else
    let t := l1.headD 0
    let p := l1.tail.headD 0
    let l2 := l1.tail.tail
    if k = 2 then readBody k t p (l2.headD 0) l2.tail
    else if k = 1 then readBody k t p 0 l2
    else ⟨k, t, p, 0, 0, [], [], 0, [], []⟩
def outOf (r : Rec) (v : View) : Int × Int × Int × Int × Int × List Int × List S52 × Int × List S54 × List S56 × View := (r.k, r.t, r.p, r.g, r.o, r.args, r.imgs, r.n, r.di, r.ac, v)
theorem wr1 {i c : Nat} (h : i < c) (hc : c ≤ 5000) : wrap64 ((i : Int) + 1) = ((i + 1 : Nat) : Int) := by
  unfold wrap64
  omega
theorem read_l1 (c : Nat) (hc : c ≤ 5000) (k t p g o n : Int) (di : List S54) : ∀ (d i K : Nat) (v : View) (acc : List S56), i + d = c → d < K → acc.length + d ≤ 5000 →
    ∃ v', record_reader_read.l1 K (c : Int) (i : Int) v k t p g o n di acc = some (outOf ⟨k, t, p, g, o, [], [], n, di, acc ++ takeA d v.l⟩ v') := by
  intro d
  induction d with
  | zero =>
    intro i K v acc hd hK ha
    obtain ⟨K, rfl⟩ : ∃ m, K = m + 1 := ⟨K - 1, by omega⟩
    exact ⟨v, by rw [record_reader_read.l1, if_neg (by omega)]; simp [outOf, takeA]⟩
  | succ d ih =>
    intro i K v acc hd hK ha
    obtain ⟨K, rfl⟩ : ∃ m, K = m + 1 := ⟨K - 1, by omega⟩
    obtain ⟨v1, h1, e1⟩ := num_f v
    obtain ⟨v2, h2, e2⟩ := num_f v1
    obtain ⟨v3, h3, e3⟩ := num_f v2
    obtain ⟨v4, h4, e4⟩ := num_f v3
    obtain ⟨v', h'⟩ := ih (i + 1) K v4 (acc ++ [⟨v.l.headD 0, v1.l.headD 0, v2.l.headD 0, v3.l.headD 0⟩]) (by omega) (by omega) (by simp; omega)
    refine ⟨v', ?_⟩
    rw [record_reader_read.l1, if_pos (by omega), h1, Option.bind_some, h2, Option.bind_some, h3, Option.bind_some, h4, Option.bind_some, if_pos (by omega), wr1 (show i < c by omega) hc, h']
    rw [e4, e3, e2, e1]
    simp [takeA]
theorem read_l0 (c : Nat) (hc : c ≤ 5000) (k t p g o n : Int) : ∀ (d i K : Nat) (v : View) (acc : List S54), i + d = c → 10000 + d < K → acc.length + d ≤ 5000 → v.l.length ≤ 5000 →
    ∃ v', record_reader_read.l0 K (c : Int) (i : Int) v k t p g o n acc = some (outOf ⟨k, t, p, g, o, [], [], n, acc ++ takeD d v.l, takeA (cnt (v.l.drop (2 * d)) 4) (v.l.drop (2 * d)).tail⟩ v') := by
  intro d
  induction d with
  | zero =>
    intro i K v acc hd hK ha hv
    obtain ⟨K, rfl⟩ : ∃ m, K = m + 1 := ⟨K - 1, by omega⟩
    obtain ⟨v1, h1, e1⟩ := count_f v 4 (by omega)
    have hcn : cnt v.l 4 ≤ 5000 := by unfold cnt; simp; omega
    obtain ⟨v', h'⟩ := read_l1 (cnt v.l 4) hcn k t p g o n acc (cnt v.l 4) 0 K v1 [] (by omega) (by omega) (by simp; omega)
    refine ⟨v', ?_⟩
    rw [record_reader_read.l0, if_neg (by omega)]
    rw [show ((4 : Nat) : Int) = 4 from rfl] at h1
    rw [h1, Option.bind_some]
    rw [show ((0 : Nat) : Int) = 0 from rfl] at h'
    rw [h', e1]
    simp [takeD]
  | succ d ih =>
    intro i K v acc hd hK ha hv
    obtain ⟨K, rfl⟩ : ∃ m, K = m + 1 := ⟨K - 1, by omega⟩
    obtain ⟨v1, h1, e1⟩ := num_f v
    obtain ⟨v2, h2, e2⟩ := num_f v1
    obtain ⟨v', h'⟩ := ih (i + 1) K v2 (acc ++ [⟨v.l.headD 0, v1.l.headD 0⟩]) (by omega) (by omega) (by simp; omega) (by rw [e2, e1]; simp; omega)
    refine ⟨v', ?_⟩
    rw [record_reader_read.l0, if_pos (by omega), h1, Option.bind_some, h2, Option.bind_some, if_pos (by omega), wr1 (show i < c by omega) hc, h']
    rw [e2, e1]
    have ed : v.l.tail.tail.drop (2 * d) = v.l.drop (2 * (d + 1)) := by
      rw [← List.drop_one, ← List.drop_one, List.drop_drop, List.drop_drop]
      congr 1
      omega
    rw [ed]
    simp [takeD]
theorem read_l3 (c : Nat) (hc : c ≤ 5000) (k t p g o n : Int) (args : List Int) : ∀ (d i K : Nat) (v : View) (acc : List S52), i + d = c → d < K → acc.length + d ≤ 5000 →
    ∃ v', record_reader_read.l3 K (c : Int) (i : Int) v k t p g o args acc n = some (outOf ⟨k, t, p, g, o, args, acc ++ takeI d v.l, n, [], []⟩ v') := by
  intro d
  induction d with
  | zero =>
    intro i K v acc hd hK ha
    obtain ⟨K, rfl⟩ : ∃ m, K = m + 1 := ⟨K - 1, by omega⟩
    exact ⟨v, by rw [record_reader_read.l3, if_neg (by omega)]; simp [outOf, takeI]⟩
  | succ d ih =>
    intro i K v acc hd hK ha
    obtain ⟨K, rfl⟩ : ∃ m, K = m + 1 := ⟨K - 1, by omega⟩
    obtain ⟨v1, h1, e1⟩ := num_f v
    obtain ⟨v2, h2, e2⟩ := num_f v1
    obtain ⟨v', h'⟩ := ih (i + 1) K v2 (acc ++ [⟨v.l.headD 0, v1.l.headD 0⟩]) (by omega) (by omega) (by simp; omega)
    refine ⟨v', ?_⟩
    rw [record_reader_read.l3, if_pos (by omega), h1, Option.bind_some, h2, Option.bind_some, if_pos (by omega), wr1 (show i < c by omega) hc, h']
    rw [e2, e1]
    simp [takeI]
theorem read_l2 (c : Nat) (hc : c ≤ 5000) (k t p g o n : Int) : ∀ (d i K : Nat) (v : View) (acc : List Int), i + d = c → 10000 + d < K → acc.length + d ≤ 5000 → v.l.length ≤ 5000 →
    ∃ v', record_reader_read.l2 K (c : Int) (i : Int) v k t p g o acc n = some (outOf ⟨k, t, p, g, o, acc ++ takeN d v.l, takeI (cnt (v.l.drop d) 2) (v.l.drop d).tail, n, [], []⟩ v') := by
  intro d
  induction d with
  | zero =>
    intro i K v acc hd hK ha hv
    obtain ⟨K, rfl⟩ : ∃ m, K = m + 1 := ⟨K - 1, by omega⟩
    obtain ⟨v1, h1, e1⟩ := count_f v 2 (by omega)
    have hcn : cnt v.l 2 ≤ 5000 := by unfold cnt; simp; omega
    obtain ⟨v', h'⟩ := read_l3 (cnt v.l 2) hcn k t p g o n acc (cnt v.l 2) 0 K v1 [] (by omega) (by omega) (by simp; omega)
    refine ⟨v', ?_⟩
    rw [record_reader_read.l2, if_neg (by omega)]
    rw [show ((2 : Nat) : Int) = 2 from rfl] at h1
    rw [h1, Option.bind_some]
    rw [show ((0 : Nat) : Int) = 0 from rfl] at h'
    rw [h', e1]
    simp [takeN]
  | succ d ih =>
    intro i K v acc hd hK ha hv
    obtain ⟨K, rfl⟩ : ∃ m, K = m + 1 := ⟨K - 1, by omega⟩
    obtain ⟨v1, h1, e1⟩ := num_f v
    obtain ⟨v', h'⟩ := ih (i + 1) K v1 (acc ++ [v.l.headD 0]) (by omega) (by omega) (by simp; omega) (by rw [e1]; simp; omega)
    refine ⟨v', ?_⟩
    rw [record_reader_read.l2, if_pos (by omega), h1, Option.bind_some, if_pos (by omega), wr1 (show i < c by omega) hc, h']
    rw [e1]
    have ed : v.l.tail.drop d = v.l.drop (d + 1) := by
      rw [← List.drop_one, List.drop_drop]
      congr 1
      omega
    rw [ed]
    simp [takeN]
theorem read_j3 (v : View) (hv : v.l.length ≤ 5000) (b : Bool) (k t p g o n : Int) (K : Nat) (hK : 16000 < K) :
    ∃ v', record_reader_read.j3 K b v k t p g o n = some (outOf (if b = true then readBody k t p n v.l else ⟨k, t, p, g, o, [], [], n, [], []⟩) v') := by
  obtain ⟨K, rfl⟩ : ∃ m, K = m + 1 := ⟨K - 1, by omega⟩
  cases b with
  | false => exact ⟨v, by rw [record_reader_read.j3, if_neg (by simp), if_neg (by simp)]; rfl⟩
  | true =>
    obtain ⟨v1, h1, e1⟩ := num_f v
    obtain ⟨v2, h2, e2⟩ := num_f v1
    obtain ⟨v3, h3, e3⟩ := count_f v2 1 (by omega)
    have hcn : cnt v2.l 1 ≤ 5000 := by unfold cnt; rw [e2, e1]; simp; omega
    obtain ⟨v', h'⟩ := read_l2 (cnt v2.l 1) hcn k t p (v.l.headD 0) (v1.l.headD 0) n (cnt v2.l 1) 0 K v3 [] (by omega) (by omega) (by simp; omega) (by rw [e3, e2, e1]; simp; omega)
    refine ⟨v', ?_⟩
    rw [show ((1 : Nat) : Int) = 1 from rfl] at h3
    rw [show ((0 : Nat) : Int) = 0 from rfl] at h'
    rw [record_reader_read.j3, if_pos rfl, if_pos rfl, h1, Option.bind_some, h2, Option.bind_some, h3, Option.bind_some, h', e3, e2, e1]
    simp [readBody]
theorem read_j2 (v : View) (hv : v.l.length ≤ 5000) (k t p n : Int) (K : Nat) (hK : 17000 < K) :
    ∃ v', record_reader_read.j2 K v k t p 0 0 n = some (outOf (if k = 1 ∨ k = 2 then readBody k t p n v.l else ⟨k, t, p, 0, 0, [], [], n, [], []⟩) v') := by
  obtain ⟨K, rfl⟩ : ∃ m, K = m + 1 := ⟨K - 1, by omega⟩
  rw [record_reader_read.j2]
  by_cases h1 : k = 1
  · obtain ⟨v', h'⟩ := read_j3 v hv true k t p 0 0 n K (by omega)
    exact ⟨v', by rw [if_pos h1, h', if_pos rfl, if_pos (.inl h1)]⟩
  · obtain ⟨v', h'⟩ := read_j3 v hv (k == 2) k t p 0 0 n K (by omega)
    refine ⟨v', ?_⟩
    rw [if_neg h1, h']
    by_cases h2 : k = 2
    · rw [if_pos (by simp [h2]), if_pos (.inr h2)]
    · rw [if_neg (by simp [h2]), if_neg (by omega)]
theorem read_f (v : View) (hv : v.l.length ≤ 5000) (K : Nat) (hK : 20000 < K) : ∃ v', record_reader_read.f K v = some (outOf (readF v.l) v') := by
  obtain ⟨v1, h1, e1⟩ := num_f v
  unfold record_reader_read.f readF
  rw [h1, Option.bind_some]
  dsimp only
  by_cases h5 : v.l.headD 0 = 5
  · obtain ⟨v2, h2, e2⟩ := count_f v1 2 (by omega)
    have hcn : cnt v1.l 2 ≤ 5000 := by unfold cnt; rw [e1]; simp; omega
    obtain ⟨v', h'⟩ := read_l0 (cnt v1.l 2) hcn (v.l.headD 0) 0 0 0 0 0 (cnt v1.l 2) 0 K v2 [] (by omega) (by omega) (by simp; omega) (by rw [e2, e1]; simp; omega)
    refine ⟨v', ?_⟩
    rw [show ((2 : Nat) : Int) = 2 from rfl] at h2
    rw [show ((0 : Nat) : Int) = 0 from rfl] at h'
    rw [if_pos h5, if_pos h5, h2, Option.bind_some, h', e2, e1]
    simp
  · obtain ⟨v2, h2, e2⟩ := num_f v1
    obtain ⟨v3, h3, e3⟩ := num_f v2
    rw [if_neg h5, if_neg h5, h2, Option.bind_some, h3, Option.bind_some]
    have hv3 : v3.l.length ≤ 5000 := by rw [e3, e2, e1]; simp; omega
    by_cases hk2 : v.l.headD 0 = 2
    · obtain ⟨v4, h4, e4⟩ := num_f v3
      obtain ⟨v', h'⟩ := read_j2 v4 (by rw [e4]; simp; omega) (v.l.headD 0) (v1.l.headD 0) (v2.l.headD 0) (v3.l.headD 0) K (by omega)
      refine ⟨v', ?_⟩
      rw [if_pos hk2, if_pos hk2, h4, Option.bind_some, h', if_pos (.inr hk2), e4, e3, e2, e1]
    · obtain ⟨v', h'⟩ := read_j2 v3 hv3 (v.l.headD 0) (v1.l.headD 0) (v2.l.headD 0) 0 K (by omega)
      refine ⟨v', ?_⟩
      rw [if_neg hk2, if_neg hk2, h']
      by_cases hk1 : v.l.headD 0 = 1
      · rw [if_pos (.inl hk1), if_pos hk1, e3, e2, e1]
      · rw [if_neg (by omega), if_neg hk1, e2, e1]
end Go.Proofs.Ytcplblpmgajmnaa.A
