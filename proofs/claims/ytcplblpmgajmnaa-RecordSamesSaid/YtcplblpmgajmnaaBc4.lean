/-
  Joined by wip/prune.py out of: AxF30, AxF18, PureD, HNum.
-/
import Derived.Test.YtcplblpmgajmnaaBc3
import Derived.Lib.Hide
namespace Go.Proofs.Ytcplblpmgajmnaa.A
open Go.RowKit Go.Proofs.YtcplblpmgajmnaaW.PrintWords Go.Proofs.YtcplblpmgajmnaaW.PrintLast Go.Proofs.YtcplblpmgajmnaaW.PrintMore
attribute [local go_sem] max2_int min2_int max_two min_two max_three min_three max_four min_four   -- for this text's walks alone
set_option linter.unusedVariables false
set_option linter.unusedSimpArgs false
mutual
def record_write.j2 : Nat → List Int → Int → Int → Int → Int → Int → List Int → List (S52) → Int → List (S54) → List (S56) → Option (List Int)
  | 0, _, _, _, _, _, _, _, _, _, _, _ => none
  | k + 1, x3, x161000, x161001, x161002, x161003, x161004, x161005, x161006, x161007, x161008, x161009 => if x161000 = 1 then (record_write.j3 k x3 true x161000 x161001 x161002 x161003 x161004 x161005 x161006 x161007 x161008 x161009) else (record_write.j3 k x3 (x161000 == 2) x161000 x161001 x161002 x161003 x161004 x161005 x161006 x161007 x161008 x161009)
def record_write.j3 : Nat → List Int → Bool → Int → Int → Int → Int → Int → List Int → List (S52) → Int → List (S54) → List (S56) → Option (List Int)
  | 0, _, _, _, _, _, _, _, _, _, _, _, _ => none
  | k + 1, x3, x90, x161000, x161001, x161002, x161003, x161004, x161005, x161006, x161007, x161008, x161009 => if x90 = true then ((some (([x161003, x161004, (x161005.length : Int)] : List Int) : List Int)).bind fun y207 => (if x3.length + y207.length < 17592186044416 then ((some (x3 ++ y207 : List Int)).bind fun y210 => (if y210.length + x161005.length < 17592186044416 then ((some (y210 ++ x161005 : List Int)).bind fun y213 => ((some (([(x161006.length : Int)] : List Int) : List Int)).bind fun y216 => (if y213.length + y216.length < 17592186044416 then (record_write.l2 k (y213 ++ y216) x161006 (x161006.length : Int) 0) else (none)))) else (none))) else (none))) else ((wire_Put.f k ([] : List Int) x3).bind fun t233 => (some t233))
def record_write.l2 : Nat → List Int → List (S52) → Int → Int → Option (List Int)
  | 0, _, _, _, _ => none
  | k + 1, x3, x111, x112, x113 => if x113 < x112 then (if 0 ≤ x113 then (if x113 < (x111.length : Int) then ((some (([(rd_T52 x111 x113).f0, (rd_T52 x111 x113).f1] : List Int) : List Int)).bind fun y224 => (if x3.length + y224.length < 17592186044416 then (record_write.l2 k (x3 ++ y224) x111 x112 (wrap64 (x113 + 1))) else (none))) else (none)) else (none)) else ((wire_Put.f k ([] : List Int) x3).bind fun t230 => (some t230))
def record_write.l0 : Nat → List Int → List (S54) → Int → Int → Int → Int → Int → Int → Int → List Int → List (S52) → Int → List (S54) → List (S56) → Option (List Int)
  | 0, _, _, _, _, _, _, _, _, _, _, _, _, _, _ => none
  | k + 1, x3, x31, x32, x33, x161000, x161001, x161002, x161003, x161004, x161005, x161006, x161007, x161008, x161009 => if x33 < x32 then (if 0 ≤ x33 then (if x33 < (x31.length : Int) then ((some (([(rd_T54 x31 x33).f0, (rd_T54 x31 x33).f1] : List Int) : List Int)).bind fun y172 => (if x3.length + y172.length < 17592186044416 then (record_write.l0 k (x3 ++ y172) x31 x32 (wrap64 (x33 + 1)) x161000 x161001 x161002 x161003 x161004 x161005 x161006 x161007 x161008 x161009) else (none))) else (none)) else (none)) else ((some (([(x161009.length : Int)] : List Int) : List Int)).bind fun y178 => (if x3.length + y178.length < 17592186044416 then (record_write.l1 k (x3 ++ y178) x161009 (x161009.length : Int) 0) else (none)))
def record_write.l1 : Nat → List Int → List (S56) → Int → Int → Option (List Int)
  | 0, _, _, _, _ => none
  | k + 1, x3, x52, x53, x54 => if x54 < x53 then (if 0 ≤ x54 then (if x54 < (x52.length : Int) then ((some (([(rd_T56 x52 x54).f0, (rd_T56 x52 x54).f1, (rd_T56 x52 x54).f2, (rd_T56 x52 x54).f3] : List Int) : List Int)).bind fun y186 => (if x3.length + y186.length < 17592186044416 then (record_write.l1 k (x3 ++ y186) x52 x53 (wrap64 (x54 + 1))) else (none))) else (none)) else (none)) else ((wire_Put.f k ([] : List Int) x3).bind fun t192 => (some t192))
end
def record_write.f (k : Nat) (a0_0 : Int) (a0_1 : Int) (a0_2 : Int) (a0_3 : Int) (a0_4 : Int) (l0_5 : List Int) (l0_6 : List (S52)) (a0_7 : Int) (l0_8 : List (S54)) (l0_9 : List (S56)) : Option (List Int) := (some (([a0_0] : List Int) : List Int)).bind fun y161 => (if a0_0 = 5 then ((some (([(l0_8.length : Int)] : List Int) : List Int)).bind fun y164 => (if y161.length + y164.length < 17592186044416 then (record_write.l0 k (y161 ++ y164) l0_8 (l0_8.length : Int) 0 a0_0 a0_1 a0_2 a0_3 a0_4 l0_5 l0_6 a0_7 l0_8 l0_9) else (none))) else (if a0_0 = 2 then ((some (([a0_1, a0_2, a0_7] : List Int) : List Int)).bind fun y195 => (if y161.length + y195.length < 17592186044416 then (record_write.j2 k (y161 ++ y195) a0_0 a0_1 a0_2 a0_3 a0_4 l0_5 l0_6 a0_7 l0_8 l0_9) else (none))) else ((some (([a0_1, a0_2] : List Int) : List Int)).bind fun y201 => (if y161.length + y201.length < 17592186044416 then (record_write.j2 k (y161 ++ y201) a0_0 a0_1 a0_2 a0_3 a0_4 l0_5 l0_6 a0_7 l0_8 l0_9) else (none)))))
theorem record_write.mono_l : ∀ k, (∀ y0 y1 y2 y3 y4 y5 y6 y7 y8 y9 y10, LeO (record_write.j2 k y0 y1 y2 y3 y4 y5 y6 y7 y8 y9 y10) (record_write.j2 (k + 1) y0 y1 y2 y3 y4 y5 y6 y7 y8 y9 y10)) ∧ (∀ y0 y1 y2 y3 y4 y5 y6 y7 y8 y9 y10 y11, LeO (record_write.j3 k y0 y1 y2 y3 y4 y5 y6 y7 y8 y9 y10 y11) (record_write.j3 (k + 1) y0 y1 y2 y3 y4 y5 y6 y7 y8 y9 y10 y11)) ∧ (∀ y0 y1 y2 y3, LeO (record_write.l2 k y0 y1 y2 y3) (record_write.l2 (k + 1) y0 y1 y2 y3)) ∧ (∀ y0 y1 y2 y3 y4 y5 y6 y7 y8 y9 y10 y11 y12 y13, LeO (record_write.l0 k y0 y1 y2 y3 y4 y5 y6 y7 y8 y9 y10 y11 y12 y13) (record_write.l0 (k + 1) y0 y1 y2 y3 y4 y5 y6 y7 y8 y9 y10 y11 y12 y13)) ∧ (∀ y0 y1 y2 y3, LeO (record_write.l1 k y0 y1 y2 y3) (record_write.l1 (k + 1) y0 y1 y2 y3))
  | 0 => ⟨fun _ _ _ _ _ _ _ _ _ _ _ r h => by simp [record_write.j2] at h, fun _ _ _ _ _ _ _ _ _ _ _ _ r h => by simp [record_write.j3] at h, fun _ _ _ _ r h => by simp [record_write.l2] at h, fun _ _ _ _ _ _ _ _ _ _ _ _ _ _ r h => by simp [record_write.l0] at h, fun _ _ _ _ r h => by simp [record_write.l1] at h⟩
  | k + 1 => by
    obtain ⟨ih0, ih1, ih2, ih3, ih4⟩ := record_write.mono_l k
    refine ⟨?_, ?_, ?_, ?_, ?_⟩
    · intro y0 y1 y2 y3 y4 y5 y6 y7 y8 y9 y10
      unfold record_write.j2
      repeat' first
      | (with_reducible exact ih0 _ _ _ _ _ _ _ _ _ _ _)
      | (with_reducible exact ih1 _ _ _ _ _ _ _ _ _ _ _ _)
      | (with_reducible exact ih2 _ _ _ _)
      | (with_reducible exact ih3 _ _ _ _ _ _ _ _ _ _ _ _ _ _)
      | (with_reducible exact ih4 _ _ _ _)
      | (with_reducible exact wire_Put.mono _ _ _)
      | (with_reducible exact LeO.refl _)
      | (with_reducible exact LeO.none _)
      | (with_reducible refine LeO.ite ?_ ?_)
      | (with_reducible refine LeO.bind ?_ (fun _ => ?_))
      | exact ih0 _ _ _ _ _ _ _ _ _ _ _
      | exact ih1 _ _ _ _ _ _ _ _ _ _ _ _
      | exact ih2 _ _ _ _
      | exact ih3 _ _ _ _ _ _ _ _ _ _ _ _ _ _
      | exact ih4 _ _ _ _
      | exact wire_Put.mono _ _ _
      | exact LeO.none _
      | refine LeO.ite ?_ ?_
      | refine LeO.bind ?_ (fun _ => ?_)
    · intro y0 y1 y2 y3 y4 y5 y6 y7 y8 y9 y10 y11
      unfold record_write.j3
      repeat' first
      | (with_reducible exact ih0 _ _ _ _ _ _ _ _ _ _ _)
      | (with_reducible exact ih1 _ _ _ _ _ _ _ _ _ _ _ _)
      | (with_reducible exact ih2 _ _ _ _)
      | (with_reducible exact ih3 _ _ _ _ _ _ _ _ _ _ _ _ _ _)
      | (with_reducible exact ih4 _ _ _ _)
      | (with_reducible exact wire_Put.mono _ _ _)
      | (with_reducible exact LeO.refl _)
      | (with_reducible exact LeO.none _)
      | (with_reducible refine LeO.ite ?_ ?_)
      | (with_reducible refine LeO.bind ?_ (fun _ => ?_))
      | exact ih0 _ _ _ _ _ _ _ _ _ _ _
      | exact ih1 _ _ _ _ _ _ _ _ _ _ _ _
      | exact ih2 _ _ _ _
      | exact ih3 _ _ _ _ _ _ _ _ _ _ _ _ _ _
      | exact ih4 _ _ _ _
      | exact wire_Put.mono _ _ _
      | exact LeO.none _
      | refine LeO.ite ?_ ?_
      | refine LeO.bind ?_ (fun _ => ?_)
    · intro y0 y1 y2 y3
      unfold record_write.l2
      repeat' first
      | (with_reducible exact ih0 _ _ _ _ _ _ _ _ _ _ _)
      | (with_reducible exact ih1 _ _ _ _ _ _ _ _ _ _ _ _)
      | (with_reducible exact ih2 _ _ _ _)
      | (with_reducible exact ih3 _ _ _ _ _ _ _ _ _ _ _ _ _ _)
      | (with_reducible exact ih4 _ _ _ _)
      | (with_reducible exact wire_Put.mono _ _ _)
      | (with_reducible exact LeO.refl _)
      | (with_reducible exact LeO.none _)
      | (with_reducible refine LeO.ite ?_ ?_)
      | (with_reducible refine LeO.bind ?_ (fun _ => ?_))
      | exact ih0 _ _ _ _ _ _ _ _ _ _ _
      | exact ih1 _ _ _ _ _ _ _ _ _ _ _ _
      | exact ih2 _ _ _ _
      | exact ih3 _ _ _ _ _ _ _ _ _ _ _ _ _ _
      | exact ih4 _ _ _ _
      | exact wire_Put.mono _ _ _
      | exact LeO.none _
      | refine LeO.ite ?_ ?_
      | refine LeO.bind ?_ (fun _ => ?_)
    · intro y0 y1 y2 y3 y4 y5 y6 y7 y8 y9 y10 y11 y12 y13
      unfold record_write.l0
      repeat' first
      | (with_reducible exact ih0 _ _ _ _ _ _ _ _ _ _ _)
      | (with_reducible exact ih1 _ _ _ _ _ _ _ _ _ _ _ _)
      | (with_reducible exact ih2 _ _ _ _)
      | (with_reducible exact ih3 _ _ _ _ _ _ _ _ _ _ _ _ _ _)
      | (with_reducible exact ih4 _ _ _ _)
      | (with_reducible exact wire_Put.mono _ _ _)
      | (with_reducible exact LeO.refl _)
      | (with_reducible exact LeO.none _)
      | (with_reducible refine LeO.ite ?_ ?_)
      | (with_reducible refine LeO.bind ?_ (fun _ => ?_))
      | exact ih0 _ _ _ _ _ _ _ _ _ _ _
      | exact ih1 _ _ _ _ _ _ _ _ _ _ _ _
      | exact ih2 _ _ _ _
      | exact ih3 _ _ _ _ _ _ _ _ _ _ _ _ _ _
      | exact ih4 _ _ _ _
      | exact wire_Put.mono _ _ _
      | exact LeO.none _
      | refine LeO.ite ?_ ?_
      | refine LeO.bind ?_ (fun _ => ?_)
    · intro y0 y1 y2 y3
      unfold record_write.l1
      repeat' first
      | (with_reducible exact ih0 _ _ _ _ _ _ _ _ _ _ _)
      | (with_reducible exact ih1 _ _ _ _ _ _ _ _ _ _ _ _)
      | (with_reducible exact ih2 _ _ _ _)
      | (with_reducible exact ih3 _ _ _ _ _ _ _ _ _ _ _ _ _ _)
      | (with_reducible exact ih4 _ _ _ _)
      | (with_reducible exact wire_Put.mono _ _ _)
      | (with_reducible exact LeO.refl _)
      | (with_reducible exact LeO.none _)
      | (with_reducible refine LeO.ite ?_ ?_)
      | (with_reducible refine LeO.bind ?_ (fun _ => ?_))
      | exact ih0 _ _ _ _ _ _ _ _ _ _ _
      | exact ih1 _ _ _ _ _ _ _ _ _ _ _ _
      | exact ih2 _ _ _ _
      | exact ih3 _ _ _ _ _ _ _ _ _ _ _ _ _ _
      | exact ih4 _ _ _ _
      | exact wire_Put.mono _ _ _
      | exact LeO.none _
      | refine LeO.ite ?_ ?_
      | refine LeO.bind ?_ (fun _ => ?_)
theorem record_write.mono : ∀ a0 a1 a2 a3 a4 a5 a6 a7 a8 a9 k, LeO (record_write.f k a0 a1 a2 a3 a4 a5 a6 a7 a8 a9) (record_write.f (k + 1) a0 a1 a2 a3 a4 a5 a6 a7 a8 a9) := by
  intro a0 a1 a2 a3 a4 a5 a6 a7 a8 a9 k
  obtain ⟨ih0, ih1, ih2, ih3, ih4⟩ := record_write.mono_l k
  unfold record_write.f
  repeat' first
      | (with_reducible exact ih0 _ _ _ _ _ _ _ _ _ _ _)
      | (with_reducible exact ih1 _ _ _ _ _ _ _ _ _ _ _ _)
      | (with_reducible exact ih2 _ _ _ _)
      | (with_reducible exact ih3 _ _ _ _ _ _ _ _ _ _ _ _ _ _)
      | (with_reducible exact ih4 _ _ _ _)
      | (with_reducible exact wire_Put.mono _ _ _)
      | (with_reducible exact LeO.refl _)
      | (with_reducible exact LeO.none _)
      | (with_reducible refine LeO.ite ?_ ?_)
      | (with_reducible refine LeO.bind ?_ (fun _ => ?_))
      | exact ih0 _ _ _ _ _ _ _ _ _ _ _
      | exact ih1 _ _ _ _ _ _ _ _ _ _ _ _
      | exact ih2 _ _ _ _
      | exact ih3 _ _ _ _ _ _ _ _ _ _ _ _ _ _
      | exact ih4 _ _ _ _
      | exact wire_Put.mono _ _ _
      | exact LeO.none _
      | refine LeO.ite ?_ ?_
      | refine LeO.bind ?_ (fun _ => ?_)
def record_write.T22 : Bool × List (List Nat × List Nat) := (true, [([], []), ([], []), ([1], [1]), ([0, 2], [0, 2]), ([], []), ([4], [4]), ([5], [5]), ([6], [6]), ([3, 7, 3], [3, 7]), ([8, 8, 0, 1, 2, 3, 4, 5, 6, 7, 8], [0, 8])])
def record_write.B22 : List Nat := [0, 0, 2, 7, 0, 16, 48, 112, 255, 511]
theorem record_write.tab22 : rtab .any (opsOf Try.f30 22) = record_write.T22 := by kernel_rfl
theorem record_write.bits22 : waitsOk record_write.T22.2 record_write.B22 = true := by kernel_rfl
set_option maxHeartbeats 8000000 in
set_option maxRecDepth 100000 in
theorem record_write.calls (k : Nat) (a0_0 : Int) (a0_1 : Int) (a0_2 : Int) (a0_3 : Int) (a0_4 : Int) (A0_5 : Option Addr) (c0_5 : Nat) (l0_5 : List Int) (A0_6 : Option Addr) (c0_6 : Nat) (l0_6 : List (S52)) (a0_7 : Int) (A0_8 : Option Addr) (c0_8 : Nat) (l0_8 : List (S54)) (A0_9 : Option Addr) (c0_9 : Nat) (l0_9 : List (S56)) (r : List Int) (w : World) (hr0_5 : Kd.C (Kd.int .i64) w A0_5 l0_5.length l0_5) (hc0_5 : l0_5.length ≤ c0_5) (hr0_6 : Kd.C k52 w A0_6 l0_6.length l0_6) (hc0_6 : l0_6.length ≤ c0_6) (hr0_8 : Kd.C k54 w A0_8 l0_8.length l0_8) (hc0_8 : l0_8.length ≤ c0_8) (hr0_9 : Kd.C k56 w A0_9 l0_9.length l0_9) (hc0_9 : l0_9.length ≤ c0_9) (h : record_write.f k a0_0 a0_1 a0_2 a0_3 a0_4 l0_5 l0_6 a0_7 l0_8 l0_9 = some r) :
    Calls Try.prog 30 #[.agg #[.int .i64 a0_0, .int .i64 a0_1, .int .i64 a0_2, .int .i64 a0_3, .int .i64 a0_4, .slice A0_5 l0_5.length c0_5, .slice A0_6 l0_6.length c0_6, .int .i64 a0_7, .slice A0_8 l0_8.length c0_8, .slice A0_9 l0_9.length c0_9]] w fun e w' => ∃ v0_ : Value, e = .returned (v0_) ∧ Kd.R (Kd.int .u8) 5 w' w.heap.size (fun _ => True) v0_ r ∧ Below w.heap.size w w' := by
  have hu30 := Try.underlying30
  have hu54 := Try.underlying54
  have hu56 := Try.underlying56
  have hu52 := Try.underlying52
  have HR0_5 := Aside0.mk hr0_5
  have HC0_5 := Aside0.mk hc0_5
  clear hr0_5 hc0_5
  have HR0_6 := Aside0.mk hr0_6
  have HC0_6 := Aside0.mk hc0_6
  clear hr0_6 hc0_6
  have HR0_8 := Aside0.mk hr0_8
  have HC0_8 := Aside0.mk hc0_8
  clear hr0_8 hc0_8
  have HR0_9 := Aside0.mk hr0_9
  have HC0_9 := Aside0.mk hc0_9
  clear hr0_9 hc0_9
  have HB := Aside0.mk (Below.refl w.heap.size w)
  have H : ((some (([a0_0] : List Int) : List Int)).bind fun y161 => (if a0_0 = 5 then ((some (([(l0_8.length : Int)] : List Int) : List Int)).bind fun y164 => (if y161.length + y164.length < 17592186044416 then (record_write.l0 k (y161 ++ y164) l0_8 (l0_8.length : Int) 0 a0_0 a0_1 a0_2 a0_3 a0_4 l0_5 l0_6 a0_7 l0_8 l0_9) else (none))) else (if a0_0 = 2 then ((some (([a0_1, a0_2, a0_7] : List Int) : List Int)).bind fun y195 => (if y161.length + y195.length < 17592186044416 then (record_write.j2 k (y161 ++ y195) a0_0 a0_1 a0_2 a0_3 a0_4 l0_5 l0_6 a0_7 l0_8 l0_9) else (none))) else ((some (([a0_1, a0_2] : List Int) : List Int)).bind fun y201 => (if y161.length + y201.length < 17592186044416 then (record_write.j2 k (y161 ++ y201) a0_0 a0_1 a0_2 a0_3 a0_4 l0_5 l0_6 a0_7 l0_8 l0_9) else (none)))))) = some r := h
  clear h
  obtain ⟨y161, hy161⟩ : ∃ y_ : List Int, y_ = (([a0_0] : List Int)) := ⟨_, rfl⟩
  replace H : (if a0_0 = 5 then ((some (([(l0_8.length : Int)] : List Int) : List Int)).bind fun y164 => (if y161.length + y164.length < 17592186044416 then (record_write.l0 k (y161 ++ y164) l0_8 (l0_8.length : Int) 0 a0_0 a0_1 a0_2 a0_3 a0_4 l0_5 l0_6 a0_7 l0_8 l0_9) else (none))) else (if a0_0 = 2 then ((some (([a0_1, a0_2, a0_7] : List Int) : List Int)).bind fun y195 => (if y161.length + y195.length < 17592186044416 then (record_write.j2 k (y161 ++ y195) a0_0 a0_1 a0_2 a0_3 a0_4 l0_5 l0_6 a0_7 l0_8 l0_9) else (none))) else ((some (([a0_1, a0_2] : List Int) : List Int)).bind fun y201 => (if y161.length + y201.length < 17592186044416 then (record_write.j2 k (y161 ++ y201) a0_0 a0_1 a0_2 a0_3 a0_4 l0_5 l0_6 a0_7 l0_8 l0_9) else (none))))) = some r := by first | (rw [hy161]; with_reducible exact H) | (have H2_ := (Option.bind_some _ _).symm.trans H; rw [hy161]; with_reducible exact H2_) | (have H2_ := (Option.bind_some _ _).symm.trans H; with_reducible exact H2_) | with_reducible exact H | (rw [hy161]; exact H) | exact H
  have Ny161 := Aside0.mk hy161
  clear hy161
  have HC2 := Aside0.mk H
  clear H
  go_enter Try.func30, Try.ntmps30
  go_upto_block 0 with (first | ((with_reducible refine gate_dst (N := 1) rfl ?_); refine box_event ?hg (N := 1) ?hd (cs := #[.int .i64 a0_0, .int .i64 a0_1, .int .i64 a0_2, .int .i64 a0_3, .int .i64 a0_4, .slice A0_5 l0_5.length c0_5, .slice A0_6 l0_6.length c0_6, .int .i64 a0_7, .slice A0_8 l0_8.length c0_8, .slice A0_9 l0_9.length c0_9]) (t := 30) ?hr ?_; (case hd => rfl); (case hg => rfl); (case hr => first | (go_simp; done) | (go_simp; rfl)); intro gb160 hg w3 hbox hb; have n0_ := Aside0.mk (below_step (by repeat (first | (with_reducible first | exact HB.out | apply below_alloc | apply pw_below_drewN | apply below_drew1) | exact HB.out)) hb); have n1_ := Aside0.mk (hbox); have n2_ := Aside0.mk ((by rw [hg]; exact (below_size (by repeat (first | (with_reducible first | exact HB.out | apply below_alloc | apply pw_below_drewN | apply below_drew1) | exact HB.out))) : w.heap.size ≤ gb160)); have n3_ := Aside0.mk ((by rw [hg]; exact (below_size (by repeat (first | (with_reducible first | exact HB.out | apply below_alloc | apply pw_below_drewN | apply below_drew1) | exact HB.out))) : w.heap.size ≤ gb160)); clear HB; have HB := n0_; have BK160 := n1_; have GW160 := n2_; have GE160 := n3_; clear n0_ n1_ n2_ n3_; clear hb hbox hg; have hcz4_0 : w3.cell? ⟨gb160, 0, none⟩ = some (.int .i64 a0_0) := (blk_cell BK160.out 0).trans rfl; have hcz4_1 : w3.cell? ⟨gb160, 1, none⟩ = some (.int .i64 a0_1) := (blk_cell BK160.out 1).trans rfl; have hcz4_2 : w3.cell? ⟨gb160, 2, none⟩ = some (.int .i64 a0_2) := (blk_cell BK160.out 2).trans rfl; have hcz4_3 : w3.cell? ⟨gb160, 3, none⟩ = some (.int .i64 a0_3) := (blk_cell BK160.out 3).trans rfl; have hcz4_4 : w3.cell? ⟨gb160, 4, none⟩ = some (.int .i64 a0_4) := (blk_cell BK160.out 4).trans rfl; have hcz4_5 : w3.cell? ⟨gb160, 5, none⟩ = some (.slice A0_5 l0_5.length c0_5) := (blk_cell BK160.out 5).trans rfl; have hcz4_6 : w3.cell? ⟨gb160, 6, none⟩ = some (.slice A0_6 l0_6.length c0_6) := (blk_cell BK160.out 6).trans rfl; have hcz4_7 : w3.cell? ⟨gb160, 7, none⟩ = some (.int .i64 a0_7) := (blk_cell BK160.out 7).trans rfl; have hcz4_8 : w3.cell? ⟨gb160, 8, none⟩ = some (.slice A0_8 l0_8.length c0_8) := (blk_cell BK160.out 8).trans rfl; have hcz4_9 : w3.cell? ⟨gb160, 9, none⟩ = some (.slice A0_9 l0_9.length c0_9) := (blk_cell BK160.out 9).trans rfl; have hfz4_0 := blk_frozen BK160.out 0; have hfz4_1 := blk_frozen BK160.out 1; have hfz4_2 := blk_frozen BK160.out 2; have hfz4_3 := blk_frozen BK160.out 3; have hfz4_4 := blk_frozen BK160.out 4; have hfz4_5 := blk_frozen BK160.out 5; have hfz4_6 := blk_frozen BK160.out 6; have hfz4_7 := blk_frozen BK160.out 7; have hfz4_8 := blk_frozen BK160.out 8; have hfz4_9 := blk_frozen BK160.out 9) | ((with_reducible refine gate_dst (N := 12) rfl ?_); refine Kd.R_lit (Kd.int .i64) _ 3 ?hg (N := 12) ?hd (xs := ([a0_0] : List Int)) (inner := [.int .i64 a0_0]) (ok := fun _ => True) (okp := fun _ => True) ?hr ?hp (fun _ hk => hk) trivial (Below.refl _ _) (Nat.le_refl _) (by simp) ?_; (case hd => rfl); (case hg => rfl); (case hr => first | (go_simp; done) | (go_simp; rfl)); (case hp => exact (Reps.one (show Kd.M (Kd.int .i64) _ _ _ a0_0 [.int .i64 a0_0] from rfl) (Reps.none _ _))); intro v162 w5 ho6 hb hg_ hnew_; clear hg_ hnew_; (first | rw [← Ny161.out] at ho6 | (simp only [Int.reduceToNat] at ho6; rw [← Ny161.out] at ho6)); have n0_ := Aside0.mk (Kd.R_lower ho6 (below_size (by repeat (first | (with_reducible first | exact HB.out | apply below_alloc | apply pw_below_drewN | apply below_drew1 | refine below_set ?_ GE160.out) | exact HB.out)))); have n1_ := Aside0.mk (blk_below (g := gb160) (o := .cells #[.int .i64 a0_0, .int .i64 a0_1, .int .i64 a0_2, .int .i64 a0_3, .int .i64 a0_4, .slice A0_5 l0_5.length c0_5, .slice A0_6 l0_6.length c0_6, .int .i64 a0_7, .slice A0_8 l0_8.length c0_8, .slice A0_9 l0_9.length c0_9] 30 (0, 0)) (by (with_reducible repeat (first | refine blk_drewN ?_ _ | refine blk_drew ?_ | refine blk_alloc ?_ _)); exact BK160.out) hb); have n2_ := Aside0.mk (below_step (by repeat (first | (with_reducible first | exact HB.out | apply below_alloc | apply pw_below_drewN | apply below_drew1 | refine below_set ?_ GE160.out) | exact HB.out)) hb); clear BK160; clear HB; have HO163 := n0_; have BK160 := n1_; have HB := n2_; clear n0_ n1_ n2_; clear hb ho6; have hcz7_0 : w5.cell? ⟨gb160, 0, none⟩ = some (.int .i64 a0_0) := (blk_cell BK160.out 0).trans rfl; have hcz7_1 : w5.cell? ⟨gb160, 1, none⟩ = some (.int .i64 a0_1) := (blk_cell BK160.out 1).trans rfl; have hcz7_2 : w5.cell? ⟨gb160, 2, none⟩ = some (.int .i64 a0_2) := (blk_cell BK160.out 2).trans rfl; have hcz7_3 : w5.cell? ⟨gb160, 3, none⟩ = some (.int .i64 a0_3) := (blk_cell BK160.out 3).trans rfl; have hcz7_4 : w5.cell? ⟨gb160, 4, none⟩ = some (.int .i64 a0_4) := (blk_cell BK160.out 4).trans rfl; have hcz7_5 : w5.cell? ⟨gb160, 5, none⟩ = some (.slice A0_5 l0_5.length c0_5) := (blk_cell BK160.out 5).trans rfl; have hcz7_6 : w5.cell? ⟨gb160, 6, none⟩ = some (.slice A0_6 l0_6.length c0_6) := (blk_cell BK160.out 6).trans rfl; have hcz7_7 : w5.cell? ⟨gb160, 7, none⟩ = some (.int .i64 a0_7) := (blk_cell BK160.out 7).trans rfl; have hcz7_8 : w5.cell? ⟨gb160, 8, none⟩ = some (.slice A0_8 l0_8.length c0_8) := (blk_cell BK160.out 8).trans rfl; have hcz7_9 : w5.cell? ⟨gb160, 9, none⟩ = some (.slice A0_9 l0_9.length c0_9) := (blk_cell BK160.out 9).trans rfl; have hfz7_0 := blk_frozen BK160.out 0; have hfz7_1 := blk_frozen BK160.out 1; have hfz7_2 := blk_frozen BK160.out 2; have hfz7_3 := blk_frozen BK160.out 3; have hfz7_4 := blk_frozen BK160.out 4; have hfz7_5 := blk_frozen BK160.out 5; have hfz7_6 := blk_frozen BK160.out 6; have hfz7_7 := blk_frozen BK160.out 7; have hfz7_8 := blk_frozen BK160.out 8; have hfz7_9 := blk_frozen BK160.out 9))
  (try simp only [Act.put, List.setIfInBounds_toArray, List.set_cons_zero, List.set_cons_succ])
  go_cut [3] (fun v3 wc => ∃ (kq : Nat) (x3_1 : List Int), Aside0 (record_write.j2 kq x3_1 a0_0 a0_1 a0_2 a0_3 a0_4 l0_5 l0_6 a0_7 l0_8 l0_9 = some r) ∧ Aside0 (kq ≤ k) ∧ Aside0 (Kd.R (Kd.int .i64) 3 wc w.heap.size (fun _ => True) v3 x3_1) ∧ Aside0 (wc.heap[gb160]? = some (.cells #[.int .i64 a0_0, .int .i64 a0_1, .int .i64 a0_2, .int .i64 a0_3, .int .i64 a0_4, (.slice A0_5 l0_5.length c0_5), (.slice A0_6 l0_6.length c0_6), .int .i64 a0_7, (.slice A0_8 l0_8.length c0_8), (.slice A0_9 l0_9.length c0_9)] 30 (0, 0))) ∧ Aside0 (Below w.heap.size w wc))
  case first =>
    have H := HC2.out
    clear HC2
    by_cases c8 : a0_0 = 5
    · rw [if_pos c8] at H
      have c8b0 : (a0_0 == 5) = true := beq_iff_eq.mpr c8
      have c8b1 : (a0_0 != 5) = false := bne_eq_false_iff_eq.mpr c8
      clear c8
      (first | rw [c8b0] | (simp only [i64_w, i32_w]; rw [c8b0]) | skip)
      obtain ⟨y164, hy164⟩ : ∃ y_ : List Int, y_ = (([(l0_8.length : Int)] : List Int)) := ⟨_, rfl⟩
      replace H : (if y161.length + y164.length < 17592186044416 then (record_write.l0 k (y161 ++ y164) l0_8 (l0_8.length : Int) 0 a0_0 a0_1 a0_2 a0_3 a0_4 l0_5 l0_6 a0_7 l0_8 l0_9) else (none)) = some r := by first | (rw [hy164]; with_reducible exact H) | (have H2_ := (Option.bind_some _ _).symm.trans H; rw [hy164]; with_reducible exact H2_) | (have H2_ := (Option.bind_some _ _).symm.trans H; with_reducible exact H2_) | with_reducible exact H | (rw [hy164]; exact H) | exact H
      have Ny164 := Aside0.mk hy164
      clear hy164
      by_cases c9 : y161.length + y164.length < 17592186044416
      · rw [if_pos c9] at H
        have LMc9 := Aside0.mk c9
        clear c9
        obtain ⟨y167, hy167⟩ : ∃ y_ : List Int, y_ = (y161 ++ y164) := ⟨_, rfl⟩
        replace H : (record_write.l0 k y167 l0_8 (l0_8.length : Int) 0 a0_0 a0_1 a0_2 a0_3 a0_4 l0_5 l0_6 a0_7 l0_8 l0_9) = some r := by first | (rw [hy167]; with_reducible exact H) | (have H2_ := (Option.bind_some _ _).symm.trans H; rw [hy167]; with_reducible exact H2_) | (have H2_ := (Option.bind_some _ _).symm.trans H; with_reducible exact H2_) | with_reducible exact H | (rw [hy167]; exact H) | exact H
        have Ny167 := Aside0.mk hy167
        clear hy167
        have H' := Aside0.mk H
        clear H
        have hcz10_0 : w5.cell? ⟨gb160, 0, none⟩ = some (.int .i64 a0_0) := (blk_cell BK160.out 0).trans rfl
        have hcz10_1 : w5.cell? ⟨gb160, 1, none⟩ = some (.int .i64 a0_1) := (blk_cell BK160.out 1).trans rfl
        have hcz10_2 : w5.cell? ⟨gb160, 2, none⟩ = some (.int .i64 a0_2) := (blk_cell BK160.out 2).trans rfl
        have hcz10_3 : w5.cell? ⟨gb160, 3, none⟩ = some (.int .i64 a0_3) := (blk_cell BK160.out 3).trans rfl
        have hcz10_4 : w5.cell? ⟨gb160, 4, none⟩ = some (.int .i64 a0_4) := (blk_cell BK160.out 4).trans rfl
        have hcz10_5 : w5.cell? ⟨gb160, 5, none⟩ = some (.slice A0_5 l0_5.length c0_5) := (blk_cell BK160.out 5).trans rfl
        have hcz10_6 : w5.cell? ⟨gb160, 6, none⟩ = some (.slice A0_6 l0_6.length c0_6) := (blk_cell BK160.out 6).trans rfl
        have hcz10_7 : w5.cell? ⟨gb160, 7, none⟩ = some (.int .i64 a0_7) := (blk_cell BK160.out 7).trans rfl
        have hcz10_8 : w5.cell? ⟨gb160, 8, none⟩ = some (.slice A0_8 l0_8.length c0_8) := (blk_cell BK160.out 8).trans rfl
        have hcz10_9 : w5.cell? ⟨gb160, 9, none⟩ = some (.slice A0_9 l0_9.length c0_9) := (blk_cell BK160.out 9).trans rfl
        have hfz10_0 := blk_frozen BK160.out 0
        have hfz10_1 := blk_frozen BK160.out 1
        have hfz10_2 := blk_frozen BK160.out 2
        have hfz10_3 := blk_frozen BK160.out 3
        have hfz10_4 := blk_frozen BK160.out 4
        have hfz10_5 := blk_frozen BK160.out 5
        have hfz10_6 := blk_frozen BK160.out 6
        have hfz10_7 := blk_frozen BK160.out 7
        have hfz10_8 := blk_frozen BK160.out 8
        have hfz10_9 := blk_frozen BK160.out 9
        go_wp2_with (first | ((with_reducible refine gate_dst (N := 28) rfl ?_); refine Kd.R_lit (Kd.int .i64) _ 3 ?hg (N := 28) ?hd (xs := ([(l0_8.length : Int)] : List Int)) (inner := [.int .i64 (l0_8.length : Int)]) (ok := fun _ => True) (okp := fun _ => True) ?hr ?hp (fun _ hk => hk) trivial (Below.refl _ _) (Nat.le_refl _) (by simp) ?_; (case hd => rfl); (case hg => rfl); (case hr => first | (go_simp; done) | (go_simp; rfl)); (case hp => exact (Reps.one (show Kd.M (Kd.int .i64) _ _ _ (l0_8.length : Int) [.int .i64 (l0_8.length : Int)] from rfl) (Reps.none _ _))); intro v165 w11 ho12 hb hg_ hnew_; clear hg_ hnew_; (first | rw [← Ny164.out] at ho12 | (simp only [Int.reduceToNat] at ho12; rw [← Ny164.out] at ho12)); have n0_ := Aside0.mk (Kd.R_elder' (by (with_reducible repeat (first | apply Kd.R_alloc | apply Kd.R_drewN | apply Kd.R_drew)); exact HO163.out) (Kd.R_base ho12) hb); have n1_ := Aside0.mk (Kd.R_lower (Kd.R_new' ho12 (Kd.R_lt (by (with_reducible repeat (first | apply Kd.R_alloc | apply Kd.R_drewN | apply Kd.R_drew)); exact HO163.out))) (below_size (by repeat (first | (with_reducible first | exact HB.out | apply below_alloc | apply pw_below_drewN | apply below_drew1 | refine below_set ?_ GE160.out) | exact HB.out)))); have n2_ := Aside0.mk (blk_below (g := gb160) (o := .cells #[.int .i64 a0_0, .int .i64 a0_1, .int .i64 a0_2, .int .i64 a0_3, .int .i64 a0_4, .slice A0_5 l0_5.length c0_5, .slice A0_6 l0_6.length c0_6, .int .i64 a0_7, .slice A0_8 l0_8.length c0_8, .slice A0_9 l0_9.length c0_9] 30 (0, 0)) (by (with_reducible repeat (first | refine blk_drewN ?_ _ | refine blk_drew ?_ | refine blk_alloc ?_ _)); exact BK160.out) hb); have n3_ := Aside0.mk (below_step (by repeat (first | (with_reducible first | exact HB.out | apply below_alloc | apply pw_below_drewN | apply below_drew1 | refine below_set ?_ GE160.out) | exact HB.out)) hb); clear HO163; clear BK160; clear HB; have HO163 := n0_; have HO166 := n1_; have BK160 := n2_; have HB := n3_; clear n0_ n1_ n2_ n3_; clear hb ho12; obtain ⟨Ao14, co14, eo14⟩ := Kd.R_slice HO166.out; subst eo14) | ((with_reducible refine gate_builtin (b := .append) (xs := #[.tmp 24, .tmp 28]) rfl ?_); at_builtin; refine Kd.R_append_rows (Kd.int .i64) (w0 := w) w.heap.size rfl (.tmp 24) (.tmp 28) 25 3 (.int .i64 0) 8 rfl Try.underlying25 info3 rfl (by decide) (by omega) v162 y161 y164 _ _ _ (fun k_ => some k_ ≠ (.slice Ao14 y164.length co14 : Value).ownBlock) (fun _ => False) rfl rfl ?aO ?aR (fun _ _ h => h) (fun _ h => h.elim) ?aF ?aB ?aS ?aL ?_; (case aR => repeat (first | exact (Kd.R_reads' HO166.out).2.2 | (with_reducible refine Kd.C_alloc ?_ _) | (with_reducible refine Kd.C_drewN ?_ _) | (with_reducible refine Kd.C_drew ?_))); (case aB => exact (by repeat (first | (with_reducible first | exact HB.out | apply below_alloc | apply pw_below_drewN | apply below_drew1 | refine below_set ?_ GE160.out) | exact HB.out))); (case aF => exact (fun k_ hk => Kd.fresh' (Kd.R_lt (by (with_reducible repeat (first | apply Kd.R_alloc | apply Kd.R_drewN | apply Kd.R_drew)); exact HO166.out)) k_ hk)); (case aO => exact (by (with_reducible repeat (first | apply Kd.R_alloc | apply Kd.R_drewN | apply Kd.R_drew)); exact Kd.R_mono HO163.out (fun _ hk => hk.2))); (case aS => exact (below_size (by repeat (first | (with_reducible first | exact HB.out | apply below_alloc | apply pw_below_drewN | apply below_drew1 | refine below_set ?_ GE160.out) | exact HB.out)))); (case aL => have := LMc9.out; omega); intro v168 w13 ho hb hg hat; rw [← Ny167.out] at ho; have n0_ := Aside0.mk (blk_grown (g := gb160) (o := .cells #[.int .i64 a0_0, .int .i64 a0_1, .int .i64 a0_2, .int .i64 a0_3, .int .i64 a0_4, .slice A0_5 l0_5.length c0_5, .slice A0_6 l0_6.length c0_6, .int .i64 a0_7, .slice A0_8 l0_8.length c0_8, .slice A0_9 l0_9.length c0_9] 30 (0, 0)) (by (with_reducible repeat (first | refine blk_drewN ?_ _ | refine blk_drew ?_ | refine blk_alloc ?_ _)); exact BK160.out) hg (Kd.R_ne HO163.out BK160.out (by decide))); have n1_ := Aside0.mk (Kd.R_after (ok := (fun _ => True)) (by (with_reducible repeat (first | apply Kd.R_alloc | apply Kd.R_drewN | apply Kd.R_drew)); exact HO166.out) hg hat); have n2_ := Aside0.mk (hb); have n3_ := Aside0.mk (ho); clear BK160; clear HO166; clear HB; clear HO163; have BK160 := n0_; have HO166 := n1_; have HB := n2_; have HO169 := n3_; clear n0_ n1_ n2_ n3_; clear ho hb hg hat; have hcz15_0 : w13.cell? ⟨gb160, 0, none⟩ = some (.int .i64 a0_0) := (blk_cell BK160.out 0).trans rfl; have hcz15_1 : w13.cell? ⟨gb160, 1, none⟩ = some (.int .i64 a0_1) := (blk_cell BK160.out 1).trans rfl; have hcz15_2 : w13.cell? ⟨gb160, 2, none⟩ = some (.int .i64 a0_2) := (blk_cell BK160.out 2).trans rfl; have hcz15_3 : w13.cell? ⟨gb160, 3, none⟩ = some (.int .i64 a0_3) := (blk_cell BK160.out 3).trans rfl; have hcz15_4 : w13.cell? ⟨gb160, 4, none⟩ = some (.int .i64 a0_4) := (blk_cell BK160.out 4).trans rfl; have hcz15_5 : w13.cell? ⟨gb160, 5, none⟩ = some (.slice A0_5 l0_5.length c0_5) := (blk_cell BK160.out 5).trans rfl; have hcz15_6 : w13.cell? ⟨gb160, 6, none⟩ = some (.slice A0_6 l0_6.length c0_6) := (blk_cell BK160.out 6).trans rfl; have hcz15_7 : w13.cell? ⟨gb160, 7, none⟩ = some (.int .i64 a0_7) := (blk_cell BK160.out 7).trans rfl; have hcz15_8 : w13.cell? ⟨gb160, 8, none⟩ = some (.slice A0_8 l0_8.length c0_8) := (blk_cell BK160.out 8).trans rfl; have hcz15_9 : w13.cell? ⟨gb160, 9, none⟩ = some (.slice A0_9 l0_9.length c0_9) := (blk_cell BK160.out 9).trans rfl; have hfz15_0 := blk_frozen BK160.out 0; have hfz15_1 := blk_frozen BK160.out 1; have hfz15_2 := blk_frozen BK160.out 2; have hfz15_3 := blk_frozen BK160.out 3; have hfz15_4 := blk_frozen BK160.out 4; have hfz15_5 := blk_frozen BK160.out 5; have hfz15_6 := blk_frozen BK160.out 6; have hfz15_7 := blk_frozen BK160.out 7; have hfz15_8 := blk_frozen BK160.out 8; have hfz15_9 := blk_frozen BK160.out 9))
        go_loopg [3, 33] k (fun kq v3 v33 w' => ∃ (x3_1 : List Int) (x33_1 : Int), v33 = .int .i64 x33_1 ∧ Aside0 (record_write.l0 kq x3_1 l0_8 (l0_8.length : Int) x33_1 a0_0 a0_1 a0_2 a0_3 a0_4 l0_5 l0_6 a0_7 l0_8 l0_9 = some r) ∧ Aside0 (kq ≤ k) ∧ Aside0 (Kd.R (Kd.int .i64) 3 w' w.heap.size (fun _ => True) v3 x3_1) ∧ Aside0 (w'.heap[gb160]? = some (.cells #[.int .i64 a0_0, .int .i64 a0_1, .int .i64 a0_2, .int .i64 a0_3, .int .i64 a0_4, (.slice A0_5 l0_5.length c0_5), (.slice A0_6 l0_6.length c0_6), .int .i64 a0_7, (.slice A0_8 l0_8.length c0_8), (.slice A0_9 l0_9.length c0_9)] 30 (0, 0))) ∧ Aside0 (Below w.heap.size w w'))
        case atStart => exact ⟨(y167), (0), (by first | rfl | (simp; done) | (simp [*]; done)), H', ⟨Nat.le_refl _⟩, ⟨by (with_reducible repeat (first | apply Kd.R_alloc | apply Kd.R_drewN | apply Kd.R_drew)); exact Kd.R_mono HO169.out (fun _ hk => trivial)⟩, ⟨by (with_reducible repeat (first | refine blk_drewN ?_ _ | refine blk_drew ?_ | refine blk_alloc ?_ _)); exact BK160.out⟩, ⟨by repeat (first | (with_reducible first | exact HB.out | apply below_alloc | apply pw_below_drewN | apply below_drew1 | refine below_set ?_ GE160.out) | exact HB.out)⟩⟩
        case round =>
          clear H'
          try clear p2
          try clear c3
          try clear c8
          try clear c8b0
          try clear c8b1
          try clear c9
          try clear hcz10_0
          try clear hcz10_1
          try clear hcz10_2
          try clear hcz10_3
          try clear hcz10_4
          try clear hcz10_5
          try clear hcz10_6
          try clear hcz10_7
          try clear hcz10_8
          try clear hcz10_9
          try clear hcz15_0
          try clear hcz15_1
          try clear hcz15_2
          try clear hcz15_3
          try clear hcz15_4
          try clear hcz15_5
          try clear hcz15_6
          try clear hcz15_7
          try clear hcz15_8
          try clear hcz15_9
          try clear hcz4_0
          try clear hcz4_1
          try clear hcz4_2
          try clear hcz4_3
          try clear hcz4_4
          try clear hcz4_5
          try clear hcz4_6
          try clear hcz4_7
          try clear hcz4_8
          try clear hcz4_9
          try clear hcz7_0
          try clear hcz7_1
          try clear hcz7_2
          try clear hcz7_3
          try clear hcz7_4
          try clear hcz7_5
          try clear hcz7_6
          try clear hcz7_7
          try clear hcz7_8
          try clear hcz7_9
          try clear hfz10_0
          try clear hfz10_1
          try clear hfz10_2
          try clear hfz10_3
          try clear hfz10_4
          try clear hfz10_5
          try clear hfz10_6
          try clear hfz10_7
          try clear hfz10_8
          try clear hfz10_9
          try clear hfz15_0
          try clear hfz15_1
          try clear hfz15_2
          try clear hfz15_3
          try clear hfz15_4
          try clear hfz15_5
          try clear hfz15_6
          try clear hfz15_7
          try clear hfz15_8
          try clear hfz15_9
          try clear hfz4_0
          try clear hfz4_1
          try clear hfz4_2
          try clear hfz4_3
          try clear hfz4_4
          try clear hfz4_5
          try clear hfz4_6
          try clear hfz4_7
          try clear hfz4_8
          try clear hfz4_9
          try clear hfz7_0
          try clear hfz7_1
          try clear hfz7_2
          try clear hfz7_3
          try clear hfz7_4
          try clear hfz7_5
          try clear hfz7_6
          try clear hfz7_7
          try clear hfz7_8
          try clear hfz7_9
          obtain ⟨x3_1, x33_1, rfl, HA, HK1, HO_3, BK160, HB⟩ := hrel
          cases gk with
          | zero => exact absurd HA.out (by simp [record_write.l0])
          | succ k1 =>
            have H := HA.out
            clear HA
            simp only [record_write.l0] at H
            by_cases c16 : x33_1 < (l0_8.length : Int)
            · rw [if_pos c16] at H
              have c16b0 : decide (x33_1 < (l0_8.length : Int)) = true := decide_eq_true c16
              clear c16
              by_cases c17 : 0 ≤ x33_1
              · rw [if_pos c17] at H
                have c17b0 : decide (0 ≤ x33_1) = true := decide_eq_true c17
                clear c17
                by_cases c18 : x33_1 < (l0_8.length : Int)
                · rw [if_pos c18] at H
                  have c18b0 : decide (x33_1 < (l0_8.length : Int)) = true := decide_eq_true c18
                  clear c18
                  obtain ⟨y172, hy172⟩ : ∃ y_ : List Int, y_ = (([(rd_T54 l0_8 x33_1).f0, (rd_T54 l0_8 x33_1).f1] : List Int)) := ⟨_, rfl⟩
                  replace H : (if x3_1.length + y172.length < 17592186044416 then (record_write.l0 k1 (x3_1 ++ y172) l0_8 (l0_8.length : Int) (wrap64 (x33_1 + 1)) a0_0 a0_1 a0_2 a0_3 a0_4 l0_5 l0_6 a0_7 l0_8 l0_9) else (none)) = some r := by first | (rw [hy172]; with_reducible exact H) | (have H2_ := (Option.bind_some _ _).symm.trans H; rw [hy172]; with_reducible exact H2_) | (have H2_ := (Option.bind_some _ _).symm.trans H; with_reducible exact H2_) | with_reducible exact H | (rw [hy172]; exact H) | exact H
                  have Ny172 := Aside0.mk hy172
                  clear hy172
                  by_cases c19 : x3_1.length + y172.length < 17592186044416
                  · rw [if_pos c19] at H
                    have LMc19 := Aside0.mk c19
                    clear c19
                    obtain ⟨y175, hy175⟩ : ∃ y_ : List Int, y_ = (x3_1 ++ y172) := ⟨_, rfl⟩
                    replace H : (record_write.l0 k1 y175 l0_8 (l0_8.length : Int) (wrap64 (x33_1 + 1)) a0_0 a0_1 a0_2 a0_3 a0_4 l0_5 l0_6 a0_7 l0_8 l0_9) = some r := by first | (rw [hy175]; with_reducible exact H) | (have H2_ := (Option.bind_some _ _).symm.trans H; rw [hy175]; with_reducible exact H2_) | (have H2_ := (Option.bind_some _ _).symm.trans H; with_reducible exact H2_) | with_reducible exact H | (rw [hy175]; exact H) | exact H
                    have Ny175 := Aside0.mk hy175
                    clear hy175
                    have H' := Aside0.mk H
                    clear H
                    have p170 : 0 ≤ (x33_1 : Int) := of_decide_eq_true (by first | (with_reducible assumption) | assumption)
                    have q170 : x33_1 < (l0_8.length : Int) := of_decide_eq_true (by first | (with_reducible assumption) | assumption)
                    obtain ⟨ad170, e170, hx170_0, hx170_1⟩ := at_T54 HR0_8.out x33_1 p170 q170
                    cases e170
                    replace hx170_0 := (HB.out.cell (World.block_lt_of_cell? w _ hx170_0)).trans hx170_0
                    replace hx170_1 := (HB.out.cell (World.block_lt_of_cell? w _ hx170_1)).trans hx170_1
                    replace p170 := eq_true p170
                    replace q170 := eq_true q170
                    go_wp2_with (first | ((with_reducible refine gate_dst (N := 5) rfl ?_); refine box_event ?hg (N := 5) ?hd (cs := #[.int .i64 0, .int .i64 0]) (t := 54) ?hr ?_; (case hd => rfl); (case hg => rfl); (case hr => first | (go_simp; done) | (go_simp; rfl)); intro gb171 hg w20 hbox hb; have n0_ := Aside0.mk (Kd.R_below (by (with_reducible repeat (first | apply Kd.R_alloc | apply Kd.R_drewN | apply Kd.R_drew)); exact HO_3.out) hb); have n1_ := Aside0.mk (blk_below (g := gb160) (o := .cells #[.int .i64 a0_0, .int .i64 a0_1, .int .i64 a0_2, .int .i64 a0_3, .int .i64 a0_4, .slice A0_5 l0_5.length c0_5, .slice A0_6 l0_6.length c0_6, .int .i64 a0_7, .slice (some ad170) l0_8.length c0_8, .slice A0_9 l0_9.length c0_9] 30 (0, 0)) (by (with_reducible repeat (first | refine blk_drewN ?_ _ | refine blk_drew ?_ | refine blk_alloc ?_ _)); exact BK160.out) hb); have n2_ := Aside0.mk (below_step (by repeat (first | (with_reducible first | exact HB.out | apply below_alloc | apply pw_below_drewN | apply below_drew1 | refine below_set ?_ GE160.out) | exact HB.out)) hb); have n3_ := Aside0.mk (hbox); have n4_ := Aside0.mk ((by rw [hg]; exact (below_size (by repeat (first | (with_reducible first | exact HB.out | apply below_alloc | apply pw_below_drewN | apply below_drew1 | refine below_set ?_ GE160.out) | exact HB.out))) : w.heap.size ≤ gb171)); have n5_ := Aside0.mk ((by rw [hg]; exact (below_size (by repeat (first | (with_reducible first | exact HB.out | apply below_alloc | apply pw_below_drewN | apply below_drew1 | refine below_set ?_ GE160.out) | exact HB.out))) : w.heap.size ≤ gb171)); have n6_ := Aside0.mk ((by rw [hg]; exact Nat.ne_of_lt (blk_lt (g := gb160) (o := .cells #[.int .i64 a0_0, .int .i64 a0_1, .int .i64 a0_2, .int .i64 a0_3, .int .i64 a0_4, .slice A0_5 l0_5.length c0_5, .slice A0_6 l0_6.length c0_6, .int .i64 a0_7, .slice (some ad170) l0_8.length c0_8, .slice A0_9 l0_9.length c0_9] 30 (0, 0)) (by (with_reducible repeat (first | refine blk_drewN ?_ _ | refine blk_drew ?_ | refine blk_alloc ?_ _)); exact BK160.out)) : gb160 ≠ gb171)); have n7_ := Aside0.mk ((by rw [hg]; exact Nat.ne_of_gt (blk_lt (g := gb160) (o := .cells #[.int .i64 a0_0, .int .i64 a0_1, .int .i64 a0_2, .int .i64 a0_3, .int .i64 a0_4, .slice A0_5 l0_5.length c0_5, .slice A0_6 l0_6.length c0_6, .int .i64 a0_7, .slice (some ad170) l0_8.length c0_8, .slice A0_9 l0_9.length c0_9] 30 (0, 0)) (by (with_reducible repeat (first | refine blk_drewN ?_ _ | refine blk_drew ?_ | refine blk_alloc ?_ _)); exact BK160.out)) : gb171 ≠ gb160)); clear HO_3; clear BK160; clear HB; have HO_3 := n0_; have BK160 := n1_; have HB := n2_; have BK171 := n3_; have GW171 := n4_; have GE171 := n5_; have NB160_171 := n6_; have NB171_160 := n7_; clear n0_ n1_ n2_ n3_ n4_ n5_ n6_ n7_; clear hb hbox hg; have hnb21 := NB171_160.out; have hnc21 := NB160_171.out; have hcz22_0 : w20.cell? ⟨gb171, 0, none⟩ = some (.int .i64 0) := (blk_cell BK171.out 0).trans rfl; have hcz22_1 : w20.cell? ⟨gb171, 1, none⟩ = some (.int .i64 0) := (blk_cell BK171.out 1).trans rfl; have hfz22_0 := blk_frozen BK171.out 0; have hfz22_1 := blk_frozen BK171.out 1) | ((with_reducible refine gate_dst (N := 42) rfl ?_); refine Kd.R_lit (Kd.int .i64) _ 3 ?hg (N := 42) ?hd (xs := ([(rd_T54 l0_8 x33_1).f0, (rd_T54 l0_8 x33_1).f1] : List Int)) (inner := [.int .i64 ((rd_T54 l0_8 x33_1).f0), .int .i64 ((rd_T54 l0_8 x33_1).f1)]) (ok := fun _ => True) (okp := fun _ => True) ?hr ?hp (fun _ hk => hk) trivial (Below.refl _ _) (Nat.le_refl _) (by simp) ?_; (case hd => rfl); (case hg => rfl); (case hr => first | (go_simp; done) | (go_simp; rfl)); (case hp => exact (Reps.one (show Kd.M (Kd.int .i64) _ _ _ ((rd_T54 l0_8 x33_1).f0) [.int .i64 ((rd_T54 l0_8 x33_1).f0)] from rfl) (Reps.one (show Kd.M (Kd.int .i64) _ _ _ ((rd_T54 l0_8 x33_1).f1) [.int .i64 ((rd_T54 l0_8 x33_1).f1)] from rfl) (Reps.none _ _)))); intro v173 w23 ho24 hb hg_ hnew_; clear hg_ hnew_; (first | rw [← Ny172.out] at ho24 | (simp only [Int.reduceToNat] at ho24; rw [← Ny172.out] at ho24)); have n0_ := Aside0.mk (Kd.R_elder' (by (with_reducible repeat (first | apply Kd.R_alloc | apply Kd.R_drewN | apply Kd.R_drew)); exact (Kd.R_mono (Kd.R_far (p := ⟨gb171, 1, none⟩) (Kd.R_far (p := ⟨gb171, 0, none⟩) (Kd.R_types HO_3.out BK171.out (by decide)) (fun _ hk => hk.2) (.int .i64 ((rd_T54 l0_8 x33_1).f0))) (fun _ hk => hk.2) (.int .i64 ((rd_T54 l0_8 x33_1).f1))) (fun _ h_ => h_.1))) (Kd.R_base ho24) hb); have n1_ := Aside0.mk (Kd.R_lower (Kd.R_new' ho24 (Kd.R_lt (by (with_reducible repeat (first | apply Kd.R_alloc | apply Kd.R_drewN | apply Kd.R_drew)); exact (Kd.R_mono (Kd.R_far (p := ⟨gb171, 1, none⟩) (Kd.R_far (p := ⟨gb171, 0, none⟩) (Kd.R_types HO_3.out BK171.out (by decide)) (fun _ hk => hk.2) (.int .i64 ((rd_T54 l0_8 x33_1).f0))) (fun _ hk => hk.2) (.int .i64 ((rd_T54 l0_8 x33_1).f1))) (fun _ h_ => h_.1))))) (below_size (by repeat (first | (with_reducible first | exact HB.out | apply below_alloc | apply pw_below_drewN | apply below_drew1 | refine below_set ?_ GE160.out | refine below_set ?_ GE171.out) | exact HB.out)))); have n2_ := Aside0.mk (blk_below (g := gb160) (o := .cells #[.int .i64 a0_0, .int .i64 a0_1, .int .i64 a0_2, .int .i64 a0_3, .int .i64 a0_4, .slice A0_5 l0_5.length c0_5, .slice A0_6 l0_6.length c0_6, .int .i64 a0_7, .slice (some ad170) l0_8.length c0_8, .slice A0_9 l0_9.length c0_9] 30 (0, 0)) (by (with_reducible repeat (first | refine blk_drewN ?_ _ | refine blk_drew ?_ | refine blk_alloc ?_ _)); refine blk_far ?_ NB160_171.out _; (with_reducible repeat (first | refine blk_drewN ?_ _ | refine blk_drew ?_ | refine blk_alloc ?_ _)); refine blk_far ?_ NB160_171.out _; (with_reducible repeat (first | refine blk_drewN ?_ _ | refine blk_drew ?_ | refine blk_alloc ?_ _)); exact BK160.out) hb); have n3_ := Aside0.mk (blk_below (g := gb171) (o := .cells #[.int .i64 ((rd_T54 l0_8 x33_1).f0), .int .i64 ((rd_T54 l0_8 x33_1).f1)] 54 (0, 0)) (by (with_reducible repeat (first | refine blk_drewN ?_ _ | refine blk_drew ?_ | refine blk_alloc ?_ _)); refine blk_put (cs := #[.int .i64 ((rd_T54 l0_8 x33_1).f0), .int .i64 0]) ?_ 1 _ rfl; (with_reducible repeat (first | refine blk_drewN ?_ _ | refine blk_drew ?_ | refine blk_alloc ?_ _)); refine blk_put (cs := #[.int .i64 0, .int .i64 0]) ?_ 0 _ rfl; (with_reducible repeat (first | refine blk_drewN ?_ _ | refine blk_drew ?_ | refine blk_alloc ?_ _)); exact BK171.out) hb); have n4_ := Aside0.mk (below_step (by repeat (first | (with_reducible first | exact HB.out | apply below_alloc | apply pw_below_drewN | apply below_drew1 | refine below_set ?_ GE160.out | refine below_set ?_ GE171.out) | exact HB.out)) hb); clear HO_3; clear BK160; clear BK171; clear HB; have HO_3 := n0_; have HO174 := n1_; have BK160 := n2_; have BK171 := n3_; have HB := n4_; clear n0_ n1_ n2_ n3_ n4_; clear hb ho24; obtain ⟨Ao26, co26, eo26⟩ := Kd.R_slice HO174.out; subst eo26) | ((with_reducible refine gate_builtin (b := .append) (xs := #[.tmp 37, .tmp 42]) rfl ?_); at_builtin; refine Kd.R_append_rows (Kd.int .i64) (w0 := w) w.heap.size rfl (.tmp 37) (.tmp 42) 25 3 (.int .i64 0) 8 rfl Try.underlying25 info3 rfl (by decide) (by omega) u3 x3_1 y172 _ _ _ (fun k_ => some k_ ≠ (.slice Ao26 y172.length co26 : Value).ownBlock) (fun _ => False) rfl rfl ?aO ?aR (fun _ _ h => h) (fun _ h => h.elim) ?aF ?aB ?aS ?aL ?_; (case aR => repeat (first | exact (Kd.R_reads' HO174.out).2.2 | (with_reducible refine Kd.C_alloc ?_ _) | (with_reducible refine Kd.C_drewN ?_ _) | (with_reducible refine Kd.C_drew ?_))); (case aB => exact (by repeat (first | (with_reducible first | exact HB.out | apply below_alloc | apply pw_below_drewN | apply below_drew1 | refine below_set ?_ GE160.out | refine below_set ?_ GE171.out) | exact HB.out))); (case aF => exact (fun k_ hk => Kd.fresh' (Kd.R_lt (by (with_reducible repeat (first | apply Kd.R_alloc | apply Kd.R_drewN | apply Kd.R_drew)); exact HO174.out)) k_ hk)); (case aO => exact (by (with_reducible repeat (first | apply Kd.R_alloc | apply Kd.R_drewN | apply Kd.R_drew)); exact Kd.R_mono HO_3.out (fun _ hk => hk.2))); (case aS => exact (below_size (by repeat (first | (with_reducible first | exact HB.out | apply below_alloc | apply pw_below_drewN | apply below_drew1 | refine below_set ?_ GE160.out | refine below_set ?_ GE171.out) | exact HB.out)))); (case aL => have := LMc19.out; omega); intro v176 w25 ho hb hg hat; rw [← Ny175.out] at ho; have n0_ := Aside0.mk (blk_grown (g := gb160) (o := .cells #[.int .i64 a0_0, .int .i64 a0_1, .int .i64 a0_2, .int .i64 a0_3, .int .i64 a0_4, .slice A0_5 l0_5.length c0_5, .slice A0_6 l0_6.length c0_6, .int .i64 a0_7, .slice (some ad170) l0_8.length c0_8, .slice A0_9 l0_9.length c0_9] 30 (0, 0)) (by (with_reducible repeat (first | refine blk_drewN ?_ _ | refine blk_drew ?_ | refine blk_alloc ?_ _)); exact BK160.out) hg (Kd.R_ne HO_3.out BK160.out (by decide))); have n1_ := Aside0.mk (blk_grown (g := gb171) (o := .cells #[.int .i64 ((rd_T54 l0_8 x33_1).f0), .int .i64 ((rd_T54 l0_8 x33_1).f1)] 54 (0, 0)) (by (with_reducible repeat (first | refine blk_drewN ?_ _ | refine blk_drew ?_ | refine blk_alloc ?_ _)); exact BK171.out) hg (Kd.R_ne HO_3.out BK171.out (by decide))); have n2_ := Aside0.mk (Kd.R_after (ok := (fun _ => True)) (by (with_reducible repeat (first | apply Kd.R_alloc | apply Kd.R_drewN | apply Kd.R_drew)); exact HO174.out) hg hat); have n3_ := Aside0.mk (hb); have n4_ := Aside0.mk (ho); clear BK160; clear BK171; clear HO174; clear HB; clear HO_3; have BK160 := n0_; have BK171 := n1_; have HO174 := n2_; have HB := n3_; have HO177 := n4_; clear n0_ n1_ n2_ n3_ n4_; clear ho hb hg hat))
                    go_roundg k1
                    case measure => have := HK1.out; omega
                    case rel => exact ⟨(y175), (wrap64 (x33_1 + 1)), (by first | rfl | (simp; done) | (simp [*]; done)), H', ⟨by have := HK1.out; omega⟩, ⟨by (with_reducible repeat (first | apply Kd.R_alloc | apply Kd.R_drewN | apply Kd.R_drew)); exact Kd.R_mono HO177.out (fun _ hk => trivial)⟩, ⟨by (with_reducible repeat (first | refine blk_drewN ?_ _ | refine blk_drew ?_ | refine blk_alloc ?_ _)); exact BK160.out⟩, ⟨by repeat (first | (with_reducible first | exact HB.out | apply below_alloc | apply pw_below_drewN | apply below_drew1 | refine below_set ?_ GE160.out | refine below_set ?_ GE171.out) | exact HB.out)⟩⟩
                  · rw [if_neg c19] at H
                    exact absurd H (by simp)
                · rw [if_neg c18] at H
                  exact absurd H (by simp)
              · rw [if_neg c17] at H
                exact absurd H (by simp)
            · rw [if_neg c16] at H
              have c16b0 : decide (x33_1 < (l0_8.length : Int)) = false := decide_eq_false c16
              clear c16
              obtain ⟨y178, hy178⟩ : ∃ y_ : List Int, y_ = (([(l0_9.length : Int)] : List Int)) := ⟨_, rfl⟩
              replace H : (if x3_1.length + y178.length < 17592186044416 then (record_write.l1 k1 (x3_1 ++ y178) l0_9 (l0_9.length : Int) 0) else (none)) = some r := by first | (rw [hy178]; with_reducible exact H) | (have H2_ := (Option.bind_some _ _).symm.trans H; rw [hy178]; with_reducible exact H2_) | (have H2_ := (Option.bind_some _ _).symm.trans H; with_reducible exact H2_) | with_reducible exact H | (rw [hy178]; exact H) | exact H
              have Ny178 := Aside0.mk hy178
              clear hy178
              by_cases c27 : x3_1.length + y178.length < 17592186044416
              · rw [if_pos c27] at H
                have LMc27 := Aside0.mk c27
                clear c27
                obtain ⟨y181, hy181⟩ : ∃ y_ : List Int, y_ = (x3_1 ++ y178) := ⟨_, rfl⟩
                replace H : (record_write.l1 k1 y181 l0_9 (l0_9.length : Int) 0) = some r := by first | (rw [hy181]; with_reducible exact H) | (have H2_ := (Option.bind_some _ _).symm.trans H; rw [hy181]; with_reducible exact H2_) | (have H2_ := (Option.bind_some _ _).symm.trans H; with_reducible exact H2_) | with_reducible exact H | (rw [hy181]; exact H) | exact H
                have Ny181 := Aside0.mk hy181
                clear hy181
                have H' := Aside0.mk H
                clear H
                have hcz28_0 : wr.cell? ⟨gb160, 0, none⟩ = some (.int .i64 a0_0) := (blk_cell BK160.out 0).trans rfl
                have hcz28_1 : wr.cell? ⟨gb160, 1, none⟩ = some (.int .i64 a0_1) := (blk_cell BK160.out 1).trans rfl
                have hcz28_2 : wr.cell? ⟨gb160, 2, none⟩ = some (.int .i64 a0_2) := (blk_cell BK160.out 2).trans rfl
                have hcz28_3 : wr.cell? ⟨gb160, 3, none⟩ = some (.int .i64 a0_3) := (blk_cell BK160.out 3).trans rfl
                have hcz28_4 : wr.cell? ⟨gb160, 4, none⟩ = some (.int .i64 a0_4) := (blk_cell BK160.out 4).trans rfl
                have hcz28_5 : wr.cell? ⟨gb160, 5, none⟩ = some (.slice A0_5 l0_5.length c0_5) := (blk_cell BK160.out 5).trans rfl
                have hcz28_6 : wr.cell? ⟨gb160, 6, none⟩ = some (.slice A0_6 l0_6.length c0_6) := (blk_cell BK160.out 6).trans rfl
                have hcz28_7 : wr.cell? ⟨gb160, 7, none⟩ = some (.int .i64 a0_7) := (blk_cell BK160.out 7).trans rfl
                have hcz28_8 : wr.cell? ⟨gb160, 8, none⟩ = some (.slice A0_8 l0_8.length c0_8) := (blk_cell BK160.out 8).trans rfl
                have hcz28_9 : wr.cell? ⟨gb160, 9, none⟩ = some (.slice A0_9 l0_9.length c0_9) := (blk_cell BK160.out 9).trans rfl
                have hfz28_0 := blk_frozen BK160.out 0
                have hfz28_1 := blk_frozen BK160.out 1
                have hfz28_2 := blk_frozen BK160.out 2
                have hfz28_3 := blk_frozen BK160.out 3
                have hfz28_4 := blk_frozen BK160.out 4
                have hfz28_5 := blk_frozen BK160.out 5
                have hfz28_6 := blk_frozen BK160.out 6
                have hfz28_7 := blk_frozen BK160.out 7
                have hfz28_8 := blk_frozen BK160.out 8
                have hfz28_9 := blk_frozen BK160.out 9
                go_wp2_with (first | ((with_reducible refine gate_dst (N := 49) rfl ?_); refine Kd.R_lit (Kd.int .i64) _ 3 ?hg (N := 49) ?hd (xs := ([(l0_9.length : Int)] : List Int)) (inner := [.int .i64 (l0_9.length : Int)]) (ok := fun _ => True) (okp := fun _ => True) ?hr ?hp (fun _ hk => hk) trivial (Below.refl _ _) (Nat.le_refl _) (by simp) ?_; (case hd => rfl); (case hg => rfl); (case hr => first | (go_simp; done) | (go_simp; rfl)); (case hp => exact (Reps.one (show Kd.M (Kd.int .i64) _ _ _ (l0_9.length : Int) [.int .i64 (l0_9.length : Int)] from rfl) (Reps.none _ _))); intro v179 w29 ho30 hb hg_ hnew_; clear hg_ hnew_; (first | rw [← Ny178.out] at ho30 | (simp only [Int.reduceToNat] at ho30; rw [← Ny178.out] at ho30)); have n0_ := Aside0.mk (Kd.R_elder' (by (with_reducible repeat (first | apply Kd.R_alloc | apply Kd.R_drewN | apply Kd.R_drew)); exact HO_3.out) (Kd.R_base ho30) hb); have n1_ := Aside0.mk (Kd.R_lower (Kd.R_new' ho30 (Kd.R_lt (by (with_reducible repeat (first | apply Kd.R_alloc | apply Kd.R_drewN | apply Kd.R_drew)); exact HO_3.out))) (below_size (by repeat (first | (with_reducible first | exact HB.out | apply below_alloc | apply pw_below_drewN | apply below_drew1 | refine below_set ?_ GE160.out) | exact HB.out)))); have n2_ := Aside0.mk (blk_below (g := gb160) (o := .cells #[.int .i64 a0_0, .int .i64 a0_1, .int .i64 a0_2, .int .i64 a0_3, .int .i64 a0_4, .slice A0_5 l0_5.length c0_5, .slice A0_6 l0_6.length c0_6, .int .i64 a0_7, .slice A0_8 l0_8.length c0_8, .slice A0_9 l0_9.length c0_9] 30 (0, 0)) (by (with_reducible repeat (first | refine blk_drewN ?_ _ | refine blk_drew ?_ | refine blk_alloc ?_ _)); exact BK160.out) hb); have n3_ := Aside0.mk (below_step (by repeat (first | (with_reducible first | exact HB.out | apply below_alloc | apply pw_below_drewN | apply below_drew1 | refine below_set ?_ GE160.out) | exact HB.out)) hb); clear HO_3; clear BK160; clear HB; have HO_3 := n0_; have HO180 := n1_; have BK160 := n2_; have HB := n3_; clear n0_ n1_ n2_ n3_; clear hb ho30; obtain ⟨Ao32, co32, eo32⟩ := Kd.R_slice HO180.out; subst eo32) | ((with_reducible refine gate_builtin (b := .append) (xs := #[.tmp 45, .tmp 49]) rfl ?_); at_builtin; refine Kd.R_append_rows (Kd.int .i64) (w0 := w) w.heap.size rfl (.tmp 45) (.tmp 49) 25 3 (.int .i64 0) 8 rfl Try.underlying25 info3 rfl (by decide) (by omega) u3 x3_1 y178 _ _ _ (fun k_ => some k_ ≠ (.slice Ao32 y178.length co32 : Value).ownBlock) (fun _ => False) rfl rfl ?aO ?aR (fun _ _ h => h) (fun _ h => h.elim) ?aF ?aB ?aS ?aL ?_; (case aR => repeat (first | exact (Kd.R_reads' HO180.out).2.2 | (with_reducible refine Kd.C_alloc ?_ _) | (with_reducible refine Kd.C_drewN ?_ _) | (with_reducible refine Kd.C_drew ?_))); (case aB => exact (by repeat (first | (with_reducible first | exact HB.out | apply below_alloc | apply pw_below_drewN | apply below_drew1 | refine below_set ?_ GE160.out) | exact HB.out))); (case aF => exact (fun k_ hk => Kd.fresh' (Kd.R_lt (by (with_reducible repeat (first | apply Kd.R_alloc | apply Kd.R_drewN | apply Kd.R_drew)); exact HO180.out)) k_ hk)); (case aO => exact (by (with_reducible repeat (first | apply Kd.R_alloc | apply Kd.R_drewN | apply Kd.R_drew)); exact Kd.R_mono HO_3.out (fun _ hk => hk.2))); (case aS => exact (below_size (by repeat (first | (with_reducible first | exact HB.out | apply below_alloc | apply pw_below_drewN | apply below_drew1 | refine below_set ?_ GE160.out) | exact HB.out)))); (case aL => have := LMc27.out; omega); intro v182 w31 ho hb hg hat; rw [← Ny181.out] at ho; have n0_ := Aside0.mk (blk_grown (g := gb160) (o := .cells #[.int .i64 a0_0, .int .i64 a0_1, .int .i64 a0_2, .int .i64 a0_3, .int .i64 a0_4, .slice A0_5 l0_5.length c0_5, .slice A0_6 l0_6.length c0_6, .int .i64 a0_7, .slice A0_8 l0_8.length c0_8, .slice A0_9 l0_9.length c0_9] 30 (0, 0)) (by (with_reducible repeat (first | refine blk_drewN ?_ _ | refine blk_drew ?_ | refine blk_alloc ?_ _)); exact BK160.out) hg (Kd.R_ne HO_3.out BK160.out (by decide))); have n1_ := Aside0.mk (Kd.R_after (ok := (fun _ => True)) (by (with_reducible repeat (first | apply Kd.R_alloc | apply Kd.R_drewN | apply Kd.R_drew)); exact HO180.out) hg hat); have n2_ := Aside0.mk (hb); have n3_ := Aside0.mk (ho); clear BK160; clear HO180; clear HB; clear HO_3; have BK160 := n0_; have HO180 := n1_; have HB := n2_; have HO183 := n3_; clear n0_ n1_ n2_ n3_; clear ho hb hg hat; have hcz33_0 : w31.cell? ⟨gb160, 0, none⟩ = some (.int .i64 a0_0) := (blk_cell BK160.out 0).trans rfl; have hcz33_1 : w31.cell? ⟨gb160, 1, none⟩ = some (.int .i64 a0_1) := (blk_cell BK160.out 1).trans rfl; have hcz33_2 : w31.cell? ⟨gb160, 2, none⟩ = some (.int .i64 a0_2) := (blk_cell BK160.out 2).trans rfl; have hcz33_3 : w31.cell? ⟨gb160, 3, none⟩ = some (.int .i64 a0_3) := (blk_cell BK160.out 3).trans rfl; have hcz33_4 : w31.cell? ⟨gb160, 4, none⟩ = some (.int .i64 a0_4) := (blk_cell BK160.out 4).trans rfl; have hcz33_5 : w31.cell? ⟨gb160, 5, none⟩ = some (.slice A0_5 l0_5.length c0_5) := (blk_cell BK160.out 5).trans rfl; have hcz33_6 : w31.cell? ⟨gb160, 6, none⟩ = some (.slice A0_6 l0_6.length c0_6) := (blk_cell BK160.out 6).trans rfl; have hcz33_7 : w31.cell? ⟨gb160, 7, none⟩ = some (.int .i64 a0_7) := (blk_cell BK160.out 7).trans rfl; have hcz33_8 : w31.cell? ⟨gb160, 8, none⟩ = some (.slice A0_8 l0_8.length c0_8) := (blk_cell BK160.out 8).trans rfl; have hcz33_9 : w31.cell? ⟨gb160, 9, none⟩ = some (.slice A0_9 l0_9.length c0_9) := (blk_cell BK160.out 9).trans rfl; have hfz33_0 := blk_frozen BK160.out 0; have hfz33_1 := blk_frozen BK160.out 1; have hfz33_2 := blk_frozen BK160.out 2; have hfz33_3 := blk_frozen BK160.out 3; have hfz33_4 := blk_frozen BK160.out 4; have hfz33_5 := blk_frozen BK160.out 5; have hfz33_6 := blk_frozen BK160.out 6; have hfz33_7 := blk_frozen BK160.out 7; have hfz33_8 := blk_frozen BK160.out 8; have hfz33_9 := blk_frozen BK160.out 9))
                go_loopg [3, 54] k1 (fun kq v3 v54 w' => ∃ (x3_2 : List Int) (x54_2 : Int), v54 = .int .i64 x54_2 ∧ Aside0 (record_write.l1 kq x3_2 l0_9 (l0_9.length : Int) x54_2 = some r) ∧ Aside0 (kq ≤ k1) ∧ Aside0 (Kd.R (Kd.int .i64) 3 w' w.heap.size (fun _ => True) v3 x3_2) ∧ Aside0 (w'.heap[gb160]? = some (.cells #[.int .i64 a0_0, .int .i64 a0_1, .int .i64 a0_2, .int .i64 a0_3, .int .i64 a0_4, (.slice A0_5 l0_5.length c0_5), (.slice A0_6 l0_6.length c0_6), .int .i64 a0_7, (.slice A0_8 l0_8.length c0_8), (.slice A0_9 l0_9.length c0_9)] 30 (0, 0))) ∧ Aside0 (Below w.heap.size w w'))
                case atStart => exact ⟨(y181), (0), (by first | rfl | (simp; done) | (simp [*]; done)), H', ⟨Nat.le_refl _⟩, ⟨by (with_reducible repeat (first | apply Kd.R_alloc | apply Kd.R_drewN | apply Kd.R_drew)); exact Kd.R_mono HO183.out (fun _ hk => trivial)⟩, ⟨by (with_reducible repeat (first | refine blk_drewN ?_ _ | refine blk_drew ?_ | refine blk_alloc ?_ _)); exact BK160.out⟩, ⟨by repeat (first | (with_reducible first | exact HB.out | apply below_alloc | apply pw_below_drewN | apply below_drew1 | refine below_set ?_ GE160.out) | exact HB.out)⟩⟩
                case round =>
                  clear H'
                  try clear c1
                  try clear p1
                  try clear q1
                  try clear hx1
                  try clear c2
                  try clear p2
                  try clear c3
                  try clear p6
                  try clear c8
                  try clear c8b0
                  try clear c8b1
                  try clear c9
                  try clear c16
                  try clear c16b0
                  try clear c17
                  try clear c17b0
                  try clear p17
                  try clear q17
                  try clear hx17
                  try clear c18
                  try clear c18b0
                  try clear c19
                  try clear c21
                  try clear c27
                  try clear c30
                  try clear hcz10_0
                  try clear hcz10_1
                  try clear hcz10_2
                  try clear hcz10_3
                  try clear hcz10_4
                  try clear hcz10_5
                  try clear hcz10_6
                  try clear hcz10_7
                  try clear hcz10_8
                  try clear hcz10_9
                  try clear hcz15_0
                  try clear hcz15_1
                  try clear hcz15_2
                  try clear hcz15_3
                  try clear hcz15_4
                  try clear hcz15_5
                  try clear hcz15_6
                  try clear hcz15_7
                  try clear hcz15_8
                  try clear hcz15_9
                  try clear hcz22_0
                  try clear hcz22_1
                  try clear hcz28_0
                  try clear hcz28_1
                  try clear hcz28_2
                  try clear hcz28_3
                  try clear hcz28_4
                  try clear hcz28_5
                  try clear hcz28_6
                  try clear hcz28_7
                  try clear hcz28_8
                  try clear hcz28_9
                  try clear hcz33_0
                  try clear hcz33_1
                  try clear hcz33_2
                  try clear hcz33_3
                  try clear hcz33_4
                  try clear hcz33_5
                  try clear hcz33_6
                  try clear hcz33_7
                  try clear hcz33_8
                  try clear hcz33_9
                  try clear hcz4_0
                  try clear hcz4_1
                  try clear hcz4_2
                  try clear hcz4_3
                  try clear hcz4_4
                  try clear hcz4_5
                  try clear hcz4_6
                  try clear hcz4_7
                  try clear hcz4_8
                  try clear hcz4_9
                  try clear hcz7_0
                  try clear hcz7_1
                  try clear hcz7_2
                  try clear hcz7_3
                  try clear hcz7_4
                  try clear hcz7_5
                  try clear hcz7_6
                  try clear hcz7_7
                  try clear hcz7_8
                  try clear hcz7_9
                  try clear hfz10_0
                  try clear hfz10_1
                  try clear hfz10_2
                  try clear hfz10_3
                  try clear hfz10_4
                  try clear hfz10_5
                  try clear hfz10_6
                  try clear hfz10_7
                  try clear hfz10_8
                  try clear hfz10_9
                  try clear hfz15_0
                  try clear hfz15_1
                  try clear hfz15_2
                  try clear hfz15_3
                  try clear hfz15_4
                  try clear hfz15_5
                  try clear hfz15_6
                  try clear hfz15_7
                  try clear hfz15_8
                  try clear hfz15_9
                  try clear hfz22_0
                  try clear hfz22_1
                  try clear hfz28_0
                  try clear hfz28_1
                  try clear hfz28_2
                  try clear hfz28_3
                  try clear hfz28_4
                  try clear hfz28_5
                  try clear hfz28_6
                  try clear hfz28_7
                  try clear hfz28_8
                  try clear hfz28_9
                  try clear hfz33_0
                  try clear hfz33_1
                  try clear hfz33_2
                  try clear hfz33_3
                  try clear hfz33_4
                  try clear hfz33_5
                  try clear hfz33_6
                  try clear hfz33_7
                  try clear hfz33_8
                  try clear hfz33_9
                  try clear hfz4_0
                  try clear hfz4_1
                  try clear hfz4_2
                  try clear hfz4_3
                  try clear hfz4_4
                  try clear hfz4_5
                  try clear hfz4_6
                  try clear hfz4_7
                  try clear hfz4_8
                  try clear hfz4_9
                  try clear hfz7_0
                  try clear hfz7_1
                  try clear hfz7_2
                  try clear hfz7_3
                  try clear hfz7_4
                  try clear hfz7_5
                  try clear hfz7_6
                  try clear hfz7_7
                  try clear hfz7_8
                  try clear hfz7_9
                  try clear hx170_0
                  try clear hx170_1
                  try clear p170
                  try clear p2
                  try clear q170
                  obtain ⟨x3_2, x54_2, rfl, HA, HK2, HO_3, BK160, HB⟩ := hrel
                  cases gk with
                  | zero => exact absurd HA.out (by simp [record_write.l1])
                  | succ k2 =>
                    have H := HA.out
                    clear HA
                    simp only [record_write.l1] at H
                    by_cases c34 : x54_2 < (l0_9.length : Int)
                    · rw [if_pos c34] at H
                      have c34b0 : decide (x54_2 < (l0_9.length : Int)) = true := decide_eq_true c34
                      clear c34
                      by_cases c35 : 0 ≤ x54_2
                      · rw [if_pos c35] at H
                        have c35b0 : decide (0 ≤ x54_2) = true := decide_eq_true c35
                        clear c35
                        by_cases c36 : x54_2 < (l0_9.length : Int)
                        · rw [if_pos c36] at H
                          have c36b0 : decide (x54_2 < (l0_9.length : Int)) = true := decide_eq_true c36
                          clear c36
                          obtain ⟨y186, hy186⟩ : ∃ y_ : List Int, y_ = (([(rd_T56 l0_9 x54_2).f0, (rd_T56 l0_9 x54_2).f1, (rd_T56 l0_9 x54_2).f2, (rd_T56 l0_9 x54_2).f3] : List Int)) := ⟨_, rfl⟩
                          replace H : (if x3_2.length + y186.length < 17592186044416 then (record_write.l1 k2 (x3_2 ++ y186) l0_9 (l0_9.length : Int) (wrap64 (x54_2 + 1))) else (none)) = some r := by first | (rw [hy186]; with_reducible exact H) | (have H2_ := (Option.bind_some _ _).symm.trans H; rw [hy186]; with_reducible exact H2_) | (have H2_ := (Option.bind_some _ _).symm.trans H; with_reducible exact H2_) | with_reducible exact H | (rw [hy186]; exact H) | exact H
                          have Ny186 := Aside0.mk hy186
                          clear hy186
                          by_cases c37 : x3_2.length + y186.length < 17592186044416
                          · rw [if_pos c37] at H
                            have LMc37 := Aside0.mk c37
                            clear c37
                            obtain ⟨y189, hy189⟩ : ∃ y_ : List Int, y_ = (x3_2 ++ y186) := ⟨_, rfl⟩
                            replace H : (record_write.l1 k2 y189 l0_9 (l0_9.length : Int) (wrap64 (x54_2 + 1))) = some r := by first | (rw [hy189]; with_reducible exact H) | (have H2_ := (Option.bind_some _ _).symm.trans H; rw [hy189]; with_reducible exact H2_) | (have H2_ := (Option.bind_some _ _).symm.trans H; with_reducible exact H2_) | with_reducible exact H | (rw [hy189]; exact H) | exact H
                            have Ny189 := Aside0.mk hy189
                            clear hy189
                            have H' := Aside0.mk H
                            clear H
                            have p184 : 0 ≤ (x54_2 : Int) := of_decide_eq_true (by first | (with_reducible assumption) | assumption)
                            have q184 : x54_2 < (l0_9.length : Int) := of_decide_eq_true (by first | (with_reducible assumption) | assumption)
                            obtain ⟨ad184, e184, hx184_0, hx184_1, hx184_2, hx184_3⟩ := at_T56 HR0_9.out x54_2 p184 q184
                            cases e184
                            replace hx184_0 := (HB.out.cell (World.block_lt_of_cell? w _ hx184_0)).trans hx184_0
                            replace hx184_1 := (HB.out.cell (World.block_lt_of_cell? w _ hx184_1)).trans hx184_1
                            replace hx184_2 := (HB.out.cell (World.block_lt_of_cell? w _ hx184_2)).trans hx184_2
                            replace hx184_3 := (HB.out.cell (World.block_lt_of_cell? w _ hx184_3)).trans hx184_3
                            replace p184 := eq_true p184
                            replace q184 := eq_true q184
                            go_wp2_with (first | ((with_reducible refine gate_dst (N := 7) rfl ?_); refine box_event ?hg (N := 7) ?hd (cs := #[.int .i64 0, .int .i64 0, .int .i64 0, .int .i64 0]) (t := 56) ?hr ?_; (case hd => rfl); (case hg => rfl); (case hr => first | (go_simp; done) | (go_simp; rfl)); intro gb185 hg w38 hbox hb; have n0_ := Aside0.mk (Kd.R_below (by (with_reducible repeat (first | apply Kd.R_alloc | apply Kd.R_drewN | apply Kd.R_drew)); exact HO_3.out) hb); have n1_ := Aside0.mk (blk_below (g := gb160) (o := .cells #[.int .i64 a0_0, .int .i64 a0_1, .int .i64 a0_2, .int .i64 a0_3, .int .i64 a0_4, .slice A0_5 l0_5.length c0_5, .slice A0_6 l0_6.length c0_6, .int .i64 a0_7, .slice A0_8 l0_8.length c0_8, .slice (some ad184) l0_9.length c0_9] 30 (0, 0)) (by (with_reducible repeat (first | refine blk_drewN ?_ _ | refine blk_drew ?_ | refine blk_alloc ?_ _)); exact BK160.out) hb); have n2_ := Aside0.mk (below_step (by repeat (first | (with_reducible first | exact HB.out | apply below_alloc | apply pw_below_drewN | apply below_drew1 | refine below_set ?_ GE160.out) | exact HB.out)) hb); have n3_ := Aside0.mk (hbox); have n4_ := Aside0.mk ((by rw [hg]; exact (below_size (by repeat (first | (with_reducible first | exact HB.out | apply below_alloc | apply pw_below_drewN | apply below_drew1 | refine below_set ?_ GE160.out) | exact HB.out))) : w.heap.size ≤ gb185)); have n5_ := Aside0.mk ((by rw [hg]; exact (below_size (by repeat (first | (with_reducible first | exact HB.out | apply below_alloc | apply pw_below_drewN | apply below_drew1 | refine below_set ?_ GE160.out) | exact HB.out))) : w.heap.size ≤ gb185)); have n6_ := Aside0.mk ((by rw [hg]; exact Nat.ne_of_lt (blk_lt (g := gb160) (o := .cells #[.int .i64 a0_0, .int .i64 a0_1, .int .i64 a0_2, .int .i64 a0_3, .int .i64 a0_4, .slice A0_5 l0_5.length c0_5, .slice A0_6 l0_6.length c0_6, .int .i64 a0_7, .slice A0_8 l0_8.length c0_8, .slice (some ad184) l0_9.length c0_9] 30 (0, 0)) (by (with_reducible repeat (first | refine blk_drewN ?_ _ | refine blk_drew ?_ | refine blk_alloc ?_ _)); exact BK160.out)) : gb160 ≠ gb185)); have n7_ := Aside0.mk ((by rw [hg]; exact Nat.ne_of_gt (blk_lt (g := gb160) (o := .cells #[.int .i64 a0_0, .int .i64 a0_1, .int .i64 a0_2, .int .i64 a0_3, .int .i64 a0_4, .slice A0_5 l0_5.length c0_5, .slice A0_6 l0_6.length c0_6, .int .i64 a0_7, .slice A0_8 l0_8.length c0_8, .slice (some ad184) l0_9.length c0_9] 30 (0, 0)) (by (with_reducible repeat (first | refine blk_drewN ?_ _ | refine blk_drew ?_ | refine blk_alloc ?_ _)); exact BK160.out)) : gb185 ≠ gb160)); clear HO_3; clear BK160; clear HB; have HO_3 := n0_; have BK160 := n1_; have HB := n2_; have BK185 := n3_; have GW185 := n4_; have GE185 := n5_; have NB160_185 := n6_; have NB185_160 := n7_; clear n0_ n1_ n2_ n3_ n4_ n5_ n6_ n7_; clear hb hbox hg; have hnb39 := NB185_160.out; have hnc39 := NB160_185.out; have hcz40_0 : w38.cell? ⟨gb185, 0, none⟩ = some (.int .i64 0) := (blk_cell BK185.out 0).trans rfl; have hcz40_1 : w38.cell? ⟨gb185, 1, none⟩ = some (.int .i64 0) := (blk_cell BK185.out 1).trans rfl; have hcz40_2 : w38.cell? ⟨gb185, 2, none⟩ = some (.int .i64 0) := (blk_cell BK185.out 2).trans rfl; have hcz40_3 : w38.cell? ⟨gb185, 3, none⟩ = some (.int .i64 0) := (blk_cell BK185.out 3).trans rfl; have hfz40_0 := blk_frozen BK185.out 0; have hfz40_1 := blk_frozen BK185.out 1; have hfz40_2 := blk_frozen BK185.out 2; have hfz40_3 := blk_frozen BK185.out 3) | ((with_reducible refine gate_dst (N := 67) rfl ?_); refine Kd.R_lit (Kd.int .i64) _ 3 ?hg (N := 67) ?hd (xs := ([(rd_T56 l0_9 x54_2).f0, (rd_T56 l0_9 x54_2).f1, (rd_T56 l0_9 x54_2).f2, (rd_T56 l0_9 x54_2).f3] : List Int)) (inner := [.int .i64 ((rd_T56 l0_9 x54_2).f0), .int .i64 ((rd_T56 l0_9 x54_2).f1), .int .i64 ((rd_T56 l0_9 x54_2).f2), .int .i64 ((rd_T56 l0_9 x54_2).f3)]) (ok := fun _ => True) (okp := fun _ => True) ?hr ?hp (fun _ hk => hk) trivial (Below.refl _ _) (Nat.le_refl _) (by simp) ?_; (case hd => rfl); (case hg => rfl); (case hr => first | (go_simp; done) | (go_simp; rfl)); (case hp => exact (Reps.one (show Kd.M (Kd.int .i64) _ _ _ ((rd_T56 l0_9 x54_2).f0) [.int .i64 ((rd_T56 l0_9 x54_2).f0)] from rfl) (Reps.one (show Kd.M (Kd.int .i64) _ _ _ ((rd_T56 l0_9 x54_2).f1) [.int .i64 ((rd_T56 l0_9 x54_2).f1)] from rfl) (Reps.one (show Kd.M (Kd.int .i64) _ _ _ ((rd_T56 l0_9 x54_2).f2) [.int .i64 ((rd_T56 l0_9 x54_2).f2)] from rfl) (Reps.one (show Kd.M (Kd.int .i64) _ _ _ ((rd_T56 l0_9 x54_2).f3) [.int .i64 ((rd_T56 l0_9 x54_2).f3)] from rfl) (Reps.none _ _)))))); intro v187 w41 ho42 hb hg_ hnew_; clear hg_ hnew_; (first | rw [← Ny186.out] at ho42 | (simp only [Int.reduceToNat] at ho42; rw [← Ny186.out] at ho42)); have n0_ := Aside0.mk (Kd.R_elder' (by (with_reducible repeat (first | apply Kd.R_alloc | apply Kd.R_drewN | apply Kd.R_drew)); exact (Kd.R_mono (Kd.R_far (p := ⟨gb185, 3, none⟩) (Kd.R_far (p := ⟨gb185, 2, none⟩) (Kd.R_far (p := ⟨gb185, 1, none⟩) (Kd.R_far (p := ⟨gb185, 0, none⟩) (Kd.R_types HO_3.out BK185.out (by decide)) (fun _ hk => hk.2) (.int .i64 ((rd_T56 l0_9 x54_2).f0))) (fun _ hk => hk.2) (.int .i64 ((rd_T56 l0_9 x54_2).f1))) (fun _ hk => hk.2) (.int .i64 ((rd_T56 l0_9 x54_2).f2))) (fun _ hk => hk.2) (.int .i64 ((rd_T56 l0_9 x54_2).f3))) (fun _ h_ => h_.1))) (Kd.R_base ho42) hb); have n1_ := Aside0.mk (Kd.R_lower (Kd.R_new' ho42 (Kd.R_lt (by (with_reducible repeat (first | apply Kd.R_alloc | apply Kd.R_drewN | apply Kd.R_drew)); exact (Kd.R_mono (Kd.R_far (p := ⟨gb185, 3, none⟩) (Kd.R_far (p := ⟨gb185, 2, none⟩) (Kd.R_far (p := ⟨gb185, 1, none⟩) (Kd.R_far (p := ⟨gb185, 0, none⟩) (Kd.R_types HO_3.out BK185.out (by decide)) (fun _ hk => hk.2) (.int .i64 ((rd_T56 l0_9 x54_2).f0))) (fun _ hk => hk.2) (.int .i64 ((rd_T56 l0_9 x54_2).f1))) (fun _ hk => hk.2) (.int .i64 ((rd_T56 l0_9 x54_2).f2))) (fun _ hk => hk.2) (.int .i64 ((rd_T56 l0_9 x54_2).f3))) (fun _ h_ => h_.1))))) (below_size (by repeat (first | (with_reducible first | exact HB.out | apply below_alloc | apply pw_below_drewN | apply below_drew1 | refine below_set ?_ GE160.out | refine below_set ?_ GE185.out) | exact HB.out)))); have n2_ := Aside0.mk (blk_below (g := gb160) (o := .cells #[.int .i64 a0_0, .int .i64 a0_1, .int .i64 a0_2, .int .i64 a0_3, .int .i64 a0_4, .slice A0_5 l0_5.length c0_5, .slice A0_6 l0_6.length c0_6, .int .i64 a0_7, .slice A0_8 l0_8.length c0_8, .slice (some ad184) l0_9.length c0_9] 30 (0, 0)) (by (with_reducible repeat (first | refine blk_drewN ?_ _ | refine blk_drew ?_ | refine blk_alloc ?_ _)); refine blk_far ?_ NB160_185.out _; (with_reducible repeat (first | refine blk_drewN ?_ _ | refine blk_drew ?_ | refine blk_alloc ?_ _)); refine blk_far ?_ NB160_185.out _; (with_reducible repeat (first | refine blk_drewN ?_ _ | refine blk_drew ?_ | refine blk_alloc ?_ _)); refine blk_far ?_ NB160_185.out _; (with_reducible repeat (first | refine blk_drewN ?_ _ | refine blk_drew ?_ | refine blk_alloc ?_ _)); refine blk_far ?_ NB160_185.out _; (with_reducible repeat (first | refine blk_drewN ?_ _ | refine blk_drew ?_ | refine blk_alloc ?_ _)); exact BK160.out) hb); have n3_ := Aside0.mk (blk_below (g := gb185) (o := .cells #[.int .i64 ((rd_T56 l0_9 x54_2).f0), .int .i64 ((rd_T56 l0_9 x54_2).f1), .int .i64 ((rd_T56 l0_9 x54_2).f2), .int .i64 ((rd_T56 l0_9 x54_2).f3)] 56 (0, 0)) (by (with_reducible repeat (first | refine blk_drewN ?_ _ | refine blk_drew ?_ | refine blk_alloc ?_ _)); refine blk_put (cs := #[.int .i64 ((rd_T56 l0_9 x54_2).f0), .int .i64 ((rd_T56 l0_9 x54_2).f1), .int .i64 ((rd_T56 l0_9 x54_2).f2), .int .i64 0]) ?_ 3 _ rfl; (with_reducible repeat (first | refine blk_drewN ?_ _ | refine blk_drew ?_ | refine blk_alloc ?_ _)); refine blk_put (cs := #[.int .i64 ((rd_T56 l0_9 x54_2).f0), .int .i64 ((rd_T56 l0_9 x54_2).f1), .int .i64 0, .int .i64 0]) ?_ 2 _ rfl; (with_reducible repeat (first | refine blk_drewN ?_ _ | refine blk_drew ?_ | refine blk_alloc ?_ _)); refine blk_put (cs := #[.int .i64 ((rd_T56 l0_9 x54_2).f0), .int .i64 0, .int .i64 0, .int .i64 0]) ?_ 1 _ rfl; (with_reducible repeat (first | refine blk_drewN ?_ _ | refine blk_drew ?_ | refine blk_alloc ?_ _)); refine blk_put (cs := #[.int .i64 0, .int .i64 0, .int .i64 0, .int .i64 0]) ?_ 0 _ rfl; (with_reducible repeat (first | refine blk_drewN ?_ _ | refine blk_drew ?_ | refine blk_alloc ?_ _)); exact BK185.out) hb); have n4_ := Aside0.mk (below_step (by repeat (first | (with_reducible first | exact HB.out | apply below_alloc | apply pw_below_drewN | apply below_drew1 | refine below_set ?_ GE160.out | refine below_set ?_ GE185.out) | exact HB.out)) hb); clear HO_3; clear BK160; clear BK185; clear HB; have HO_3 := n0_; have HO188 := n1_; have BK160 := n2_; have BK185 := n3_; have HB := n4_; clear n0_ n1_ n2_ n3_ n4_; clear hb ho42; obtain ⟨Ao44, co44, eo44⟩ := Kd.R_slice HO188.out; subst eo44) | ((with_reducible refine gate_builtin (b := .append) (xs := #[.tmp 58, .tmp 67]) rfl ?_); at_builtin; refine Kd.R_append_rows (Kd.int .i64) (w0 := w) w.heap.size rfl (.tmp 58) (.tmp 67) 25 3 (.int .i64 0) 8 rfl Try.underlying25 info3 rfl (by decide) (by omega) u3 x3_2 y186 _ _ _ (fun k_ => some k_ ≠ (.slice Ao44 y186.length co44 : Value).ownBlock) (fun _ => False) rfl rfl ?aO ?aR (fun _ _ h => h) (fun _ h => h.elim) ?aF ?aB ?aS ?aL ?_; (case aR => repeat (first | exact (Kd.R_reads' HO188.out).2.2 | (with_reducible refine Kd.C_alloc ?_ _) | (with_reducible refine Kd.C_drewN ?_ _) | (with_reducible refine Kd.C_drew ?_))); (case aB => exact (by repeat (first | (with_reducible first | exact HB.out | apply below_alloc | apply pw_below_drewN | apply below_drew1 | refine below_set ?_ GE160.out | refine below_set ?_ GE185.out) | exact HB.out))); (case aF => exact (fun k_ hk => Kd.fresh' (Kd.R_lt (by (with_reducible repeat (first | apply Kd.R_alloc | apply Kd.R_drewN | apply Kd.R_drew)); exact HO188.out)) k_ hk)); (case aO => exact (by (with_reducible repeat (first | apply Kd.R_alloc | apply Kd.R_drewN | apply Kd.R_drew)); exact Kd.R_mono HO_3.out (fun _ hk => hk.2))); (case aS => exact (below_size (by repeat (first | (with_reducible first | exact HB.out | apply below_alloc | apply pw_below_drewN | apply below_drew1 | refine below_set ?_ GE160.out | refine below_set ?_ GE185.out) | exact HB.out)))); (case aL => have := LMc37.out; omega); intro v190 w43 ho hb hg hat; rw [← Ny189.out] at ho; have n0_ := Aside0.mk (blk_grown (g := gb160) (o := .cells #[.int .i64 a0_0, .int .i64 a0_1, .int .i64 a0_2, .int .i64 a0_3, .int .i64 a0_4, .slice A0_5 l0_5.length c0_5, .slice A0_6 l0_6.length c0_6, .int .i64 a0_7, .slice A0_8 l0_8.length c0_8, .slice (some ad184) l0_9.length c0_9] 30 (0, 0)) (by (with_reducible repeat (first | refine blk_drewN ?_ _ | refine blk_drew ?_ | refine blk_alloc ?_ _)); exact BK160.out) hg (Kd.R_ne HO_3.out BK160.out (by decide))); have n1_ := Aside0.mk (blk_grown (g := gb185) (o := .cells #[.int .i64 ((rd_T56 l0_9 x54_2).f0), .int .i64 ((rd_T56 l0_9 x54_2).f1), .int .i64 ((rd_T56 l0_9 x54_2).f2), .int .i64 ((rd_T56 l0_9 x54_2).f3)] 56 (0, 0)) (by (with_reducible repeat (first | refine blk_drewN ?_ _ | refine blk_drew ?_ | refine blk_alloc ?_ _)); exact BK185.out) hg (Kd.R_ne HO_3.out BK185.out (by decide))); have n2_ := Aside0.mk (Kd.R_after (ok := (fun _ => True)) (by (with_reducible repeat (first | apply Kd.R_alloc | apply Kd.R_drewN | apply Kd.R_drew)); exact HO188.out) hg hat); have n3_ := Aside0.mk (hb); have n4_ := Aside0.mk (ho); clear BK160; clear BK185; clear HO188; clear HB; clear HO_3; have BK160 := n0_; have BK185 := n1_; have HO188 := n2_; have HB := n3_; have HO191 := n4_; clear n0_ n1_ n2_ n3_ n4_; clear ho hb hg hat))
                            go_roundg k2
                            case measure => have := HK1.out; have := HK2.out; omega
                            case rel => exact ⟨(y189), (wrap64 (x54_2 + 1)), (by first | rfl | (simp; done) | (simp [*]; done)), H', ⟨by have := HK1.out; have := HK2.out; omega⟩, ⟨by (with_reducible repeat (first | apply Kd.R_alloc | apply Kd.R_drewN | apply Kd.R_drew)); exact Kd.R_mono HO191.out (fun _ hk => trivial)⟩, ⟨by (with_reducible repeat (first | refine blk_drewN ?_ _ | refine blk_drew ?_ | refine blk_alloc ?_ _)); exact BK160.out⟩, ⟨by repeat (first | (with_reducible first | exact HB.out | apply below_alloc | apply pw_below_drewN | apply below_drew1 | refine below_set ?_ GE160.out | refine below_set ?_ GE185.out) | exact HB.out)⟩⟩
                          · rw [if_neg c37] at H
                            exact absurd H (by simp)
                        · rw [if_neg c36] at H
                          exact absurd H (by simp)
                      · rw [if_neg c35] at H
                        exact absurd H (by simp)
                    · rw [if_neg c34] at H
                      have c34b0 : decide (x54_2 < (l0_9.length : Int)) = false := decide_eq_false c34
                      clear c34
                      replace H := Option.bind_eq_some_iff.mp H
                      obtain ⟨t192, A450, H⟩ := H
                      replace H : (some t192) = some r := H
                      have A45 := Aside0.mk A450
                      clear A450
                      obtain rfl := Option.some.inj H
                      obtain ⟨Ao46, co46, eo46⟩ := Kd.R_slice HO_3.out
                      subst eo46
                      go_wp2_with (first | ((with_reducible refine gate_callee (f := 43) rfl ?_); refine goesL_ (some 71) rfl rfl Try.func43 (by kernel_rfl) rfl #[.slice none 0 0, .slice Ao46 x3_2.length co46] rfl (by (try simp only [List.map_toArray, List.map_cons, List.map_nil]); first | done | rfl | (simp only [List.length_drop, List.length_take]; rfl)) ?_; (refine (wire_Put.calls k2 _ _ ([] : List Int) _ _ x3_2 t192 _ ?side1 ?side2 ?side3 ?side4 A45.out).mono ?_); (case side1 => exact Kd.C_nil _ _); (case side2 => exact Nat.le_refl _); (case side3 => repeat (first | exact (Kd.R_reads' HO_3.out).2.2 | (with_reducible refine Kd.C_alloc ?_ _) | (with_reducible refine Kd.C_drewN ?_ _) | (with_reducible refine Kd.C_drew ?_))); (case side4 => exact (Kd.R_reads' HO_3.out).2.1); rintro e w47 ⟨v193, rfl, ho0, hb⟩; refine ⟨_, rfl, ?_⟩; have n0_ := Aside0.mk (Kd.R_below (by (with_reducible repeat (first | apply Kd.R_alloc | apply Kd.R_drewN | apply Kd.R_drew)); exact HO_3.out) hb); have n1_ := Aside0.mk (Kd.R_lower ho0 (below_size (by repeat (first | (with_reducible first | exact HB.out | apply below_alloc | apply pw_below_drewN | apply below_drew1 | refine below_set ?_ GE160.out) | exact HB.out)))); have n2_ := Aside0.mk (blk_below (g := gb160) (o := .cells #[.int .i64 a0_0, .int .i64 a0_1, .int .i64 a0_2, .int .i64 a0_3, .int .i64 a0_4, .slice A0_5 l0_5.length c0_5, .slice A0_6 l0_6.length c0_6, .int .i64 a0_7, .slice A0_8 l0_8.length c0_8, .slice A0_9 l0_9.length c0_9] 30 (0, 0)) (by (with_reducible repeat (first | refine blk_drewN ?_ _ | refine blk_drew ?_ | refine blk_alloc ?_ _)); exact BK160.out) hb); have n3_ := Aside0.mk (below_step (by repeat (first | (with_reducible first | exact HB.out | apply below_alloc | apply pw_below_drewN | apply below_drew1 | refine below_set ?_ GE160.out) | exact HB.out)) hb); clear HO_3; clear BK160; clear HB; have HO_3 := n0_; have HO194 := n1_; have BK160 := n2_; have HB := n3_; clear n0_ n1_ n2_ n3_; (try clear hb); (try clear hb2); (try clear hk); (try clear hi); (try clear ho0)))
                      go_ret
                      exact ⟨_, by first | rfl | (simp [errW_none, errW_some] <;> rfl) | (simp [*, errW_none, errW_some] <;> rfl), by (with_reducible repeat (first | apply Kd.R_alloc | apply Kd.R_drewN | apply Kd.R_drew)); exact HO194.out, by repeat (first | (with_reducible first | exact HB.out | apply below_alloc | apply pw_below_drewN | apply below_drew1 | refine below_set ?_ GE160.out) | exact HB.out)⟩
              · rw [if_neg c27] at H
                exact absurd H (by simp)
      · rw [if_neg c9] at H
        exact absurd H (by simp)
    · rw [if_neg c8] at H
      have c8b0 : (a0_0 == 5) = false := beq_eq_false_iff_ne.mpr c8
      have c8b1 : (a0_0 != 5) = true := bne_iff_ne.mpr c8
      (first | rw [c8b0] | (simp only [i64_w, i32_w]; rw [c8b0]) | skip)
      by_cases c48 : a0_0 = 2
      · rw [if_pos c48] at H
        have c48b0 : (a0_0 == 2) = true := beq_iff_eq.mpr c48
        have c48b1 : (a0_0 != 2) = false := bne_eq_false_iff_eq.mpr c48
        clear c48
        obtain ⟨y195, hy195⟩ : ∃ y_ : List Int, y_ = (([a0_1, a0_2, a0_7] : List Int)) := ⟨_, rfl⟩
        replace H : (if y161.length + y195.length < 17592186044416 then (record_write.j2 k (y161 ++ y195) a0_0 a0_1 a0_2 a0_3 a0_4 l0_5 l0_6 a0_7 l0_8 l0_9) else (none)) = some r := by first | (rw [hy195]; with_reducible exact H) | (have H2_ := (Option.bind_some _ _).symm.trans H; rw [hy195]; with_reducible exact H2_) | (have H2_ := (Option.bind_some _ _).symm.trans H; with_reducible exact H2_) | with_reducible exact H | (rw [hy195]; exact H) | exact H
        have Ny195 := Aside0.mk hy195
        clear hy195
        by_cases c49 : y161.length + y195.length < 17592186044416
        · rw [if_pos c49] at H
          have LMc49 := Aside0.mk c49
          clear c49
          obtain ⟨y198, hy198⟩ : ∃ y_ : List Int, y_ = (y161 ++ y195) := ⟨_, rfl⟩
          replace H : (record_write.j2 k y198 a0_0 a0_1 a0_2 a0_3 a0_4 l0_5 l0_6 a0_7 l0_8 l0_9) = some r := by first | (rw [hy198]; with_reducible exact H) | (have H2_ := (Option.bind_some _ _).symm.trans H; rw [hy198]; with_reducible exact H2_) | (have H2_ := (Option.bind_some _ _).symm.trans H; with_reducible exact H2_) | with_reducible exact H | (rw [hy198]; exact H) | exact H
          have Ny198 := Aside0.mk hy198
          clear hy198
          have H' := Aside0.mk H
          clear H
          have hcz50_0 : w5.cell? ⟨gb160, 0, none⟩ = some (.int .i64 a0_0) := (blk_cell BK160.out 0).trans rfl
          have hcz50_1 : w5.cell? ⟨gb160, 1, none⟩ = some (.int .i64 a0_1) := (blk_cell BK160.out 1).trans rfl
          have hcz50_2 : w5.cell? ⟨gb160, 2, none⟩ = some (.int .i64 a0_2) := (blk_cell BK160.out 2).trans rfl
          have hcz50_3 : w5.cell? ⟨gb160, 3, none⟩ = some (.int .i64 a0_3) := (blk_cell BK160.out 3).trans rfl
          have hcz50_4 : w5.cell? ⟨gb160, 4, none⟩ = some (.int .i64 a0_4) := (blk_cell BK160.out 4).trans rfl
          have hcz50_5 : w5.cell? ⟨gb160, 5, none⟩ = some (.slice A0_5 l0_5.length c0_5) := (blk_cell BK160.out 5).trans rfl
          have hcz50_6 : w5.cell? ⟨gb160, 6, none⟩ = some (.slice A0_6 l0_6.length c0_6) := (blk_cell BK160.out 6).trans rfl
          have hcz50_7 : w5.cell? ⟨gb160, 7, none⟩ = some (.int .i64 a0_7) := (blk_cell BK160.out 7).trans rfl
          have hcz50_8 : w5.cell? ⟨gb160, 8, none⟩ = some (.slice A0_8 l0_8.length c0_8) := (blk_cell BK160.out 8).trans rfl
          have hcz50_9 : w5.cell? ⟨gb160, 9, none⟩ = some (.slice A0_9 l0_9.length c0_9) := (blk_cell BK160.out 9).trans rfl
          have hfz50_0 := blk_frozen BK160.out 0
          have hfz50_1 := blk_frozen BK160.out 1
          have hfz50_2 := blk_frozen BK160.out 2
          have hfz50_3 := blk_frozen BK160.out 3
          have hfz50_4 := blk_frozen BK160.out 4
          have hfz50_5 := blk_frozen BK160.out 5
          have hfz50_6 := blk_frozen BK160.out 6
          have hfz50_7 := blk_frozen BK160.out 7
          have hfz50_8 := blk_frozen BK160.out 8
          have hfz50_9 := blk_frozen BK160.out 9
          go_wp2_with (first | ((with_reducible refine gate_dst (N := 81) rfl ?_); refine Kd.R_lit (Kd.int .i64) _ 3 ?hg (N := 81) ?hd (xs := ([a0_1, a0_2, a0_7] : List Int)) (inner := [.int .i64 a0_1, .int .i64 a0_2, .int .i64 a0_7]) (ok := fun _ => True) (okp := fun _ => True) ?hr ?hp (fun _ hk => hk) trivial (Below.refl _ _) (Nat.le_refl _) (by simp) ?_; (case hd => rfl); (case hg => rfl); (case hr => first | (go_simp; done) | (go_simp; rfl)); (case hp => exact (Reps.one (show Kd.M (Kd.int .i64) _ _ _ a0_1 [.int .i64 a0_1] from rfl) (Reps.one (show Kd.M (Kd.int .i64) _ _ _ a0_2 [.int .i64 a0_2] from rfl) (Reps.one (show Kd.M (Kd.int .i64) _ _ _ a0_7 [.int .i64 a0_7] from rfl) (Reps.none _ _))))); intro v196 w51 ho52 hb hg_ hnew_; clear hg_ hnew_; (first | rw [← Ny195.out] at ho52 | (simp only [Int.reduceToNat] at ho52; rw [← Ny195.out] at ho52)); have n0_ := Aside0.mk (Kd.R_elder' (by (with_reducible repeat (first | apply Kd.R_alloc | apply Kd.R_drewN | apply Kd.R_drew)); exact HO163.out) (Kd.R_base ho52) hb); have n1_ := Aside0.mk (Kd.R_lower (Kd.R_new' ho52 (Kd.R_lt (by (with_reducible repeat (first | apply Kd.R_alloc | apply Kd.R_drewN | apply Kd.R_drew)); exact HO163.out))) (below_size (by repeat (first | (with_reducible first | exact HB.out | apply below_alloc | apply pw_below_drewN | apply below_drew1 | refine below_set ?_ GE160.out) | exact HB.out)))); have n2_ := Aside0.mk (blk_below (g := gb160) (o := .cells #[.int .i64 a0_0, .int .i64 a0_1, .int .i64 a0_2, .int .i64 a0_3, .int .i64 a0_4, .slice A0_5 l0_5.length c0_5, .slice A0_6 l0_6.length c0_6, .int .i64 a0_7, .slice A0_8 l0_8.length c0_8, .slice A0_9 l0_9.length c0_9] 30 (0, 0)) (by (with_reducible repeat (first | refine blk_drewN ?_ _ | refine blk_drew ?_ | refine blk_alloc ?_ _)); exact BK160.out) hb); have n3_ := Aside0.mk (below_step (by repeat (first | (with_reducible first | exact HB.out | apply below_alloc | apply pw_below_drewN | apply below_drew1 | refine below_set ?_ GE160.out) | exact HB.out)) hb); clear HO163; clear BK160; clear HB; have HO163 := n0_; have HO197 := n1_; have BK160 := n2_; have HB := n3_; clear n0_ n1_ n2_ n3_; clear hb ho52; obtain ⟨Ao54, co54, eo54⟩ := Kd.R_slice HO197.out; subst eo54) | ((with_reducible refine gate_builtin (b := .append) (xs := #[.tmp 74, .tmp 81]) rfl ?_); at_builtin; refine Kd.R_append_rows (Kd.int .i64) (w0 := w) w.heap.size rfl (.tmp 74) (.tmp 81) 25 3 (.int .i64 0) 8 rfl Try.underlying25 info3 rfl (by decide) (by omega) v162 y161 y195 _ _ _ (fun k_ => some k_ ≠ (.slice Ao54 y195.length co54 : Value).ownBlock) (fun _ => False) rfl rfl ?aO ?aR (fun _ _ h => h) (fun _ h => h.elim) ?aF ?aB ?aS ?aL ?_; (case aR => repeat (first | exact (Kd.R_reads' HO197.out).2.2 | (with_reducible refine Kd.C_alloc ?_ _) | (with_reducible refine Kd.C_drewN ?_ _) | (with_reducible refine Kd.C_drew ?_))); (case aB => exact (by repeat (first | (with_reducible first | exact HB.out | apply below_alloc | apply pw_below_drewN | apply below_drew1 | refine below_set ?_ GE160.out) | exact HB.out))); (case aF => exact (fun k_ hk => Kd.fresh' (Kd.R_lt (by (with_reducible repeat (first | apply Kd.R_alloc | apply Kd.R_drewN | apply Kd.R_drew)); exact HO197.out)) k_ hk)); (case aO => exact (by (with_reducible repeat (first | apply Kd.R_alloc | apply Kd.R_drewN | apply Kd.R_drew)); exact Kd.R_mono HO163.out (fun _ hk => hk.2))); (case aS => exact (below_size (by repeat (first | (with_reducible first | exact HB.out | apply below_alloc | apply pw_below_drewN | apply below_drew1 | refine below_set ?_ GE160.out) | exact HB.out)))); (case aL => have := LMc49.out; omega); intro v199 w53 ho hb hg hat; rw [← Ny198.out] at ho; have n0_ := Aside0.mk (blk_grown (g := gb160) (o := .cells #[.int .i64 a0_0, .int .i64 a0_1, .int .i64 a0_2, .int .i64 a0_3, .int .i64 a0_4, .slice A0_5 l0_5.length c0_5, .slice A0_6 l0_6.length c0_6, .int .i64 a0_7, .slice A0_8 l0_8.length c0_8, .slice A0_9 l0_9.length c0_9] 30 (0, 0)) (by (with_reducible repeat (first | refine blk_drewN ?_ _ | refine blk_drew ?_ | refine blk_alloc ?_ _)); exact BK160.out) hg (Kd.R_ne HO163.out BK160.out (by decide))); have n1_ := Aside0.mk (Kd.R_after (ok := (fun _ => True)) (by (with_reducible repeat (first | apply Kd.R_alloc | apply Kd.R_drewN | apply Kd.R_drew)); exact HO197.out) hg hat); have n2_ := Aside0.mk (hb); have n3_ := Aside0.mk (ho); clear BK160; clear HO197; clear HB; clear HO163; have BK160 := n0_; have HO197 := n1_; have HB := n2_; have HO200 := n3_; clear n0_ n1_ n2_ n3_; clear ho hb hg hat))
          go_meet
          case rel => exact ⟨_, (y198), H', ⟨by first | omega | exact Nat.le_refl _⟩, ⟨by (with_reducible repeat (first | apply Kd.R_alloc | apply Kd.R_drewN | apply Kd.R_drew)); exact Kd.R_mono HO200.out (fun _ hk => trivial)⟩, ⟨by (with_reducible repeat (first | refine blk_drewN ?_ _ | refine blk_drew ?_ | refine blk_alloc ?_ _)); exact BK160.out⟩, ⟨by repeat (first | (with_reducible first | exact HB.out | apply below_alloc | apply pw_below_drewN | apply below_drew1 | refine below_set ?_ GE160.out) | exact HB.out)⟩⟩
        · rw [if_neg c49] at H
          exact absurd H (by simp)
      · rw [if_neg c48] at H
        have c48b0 : (a0_0 == 2) = false := beq_eq_false_iff_ne.mpr c48
        have c48b1 : (a0_0 != 2) = true := bne_iff_ne.mpr c48
        obtain ⟨y201, hy201⟩ : ∃ y_ : List Int, y_ = (([a0_1, a0_2] : List Int)) := ⟨_, rfl⟩
        replace H : (if y161.length + y201.length < 17592186044416 then (record_write.j2 k (y161 ++ y201) a0_0 a0_1 a0_2 a0_3 a0_4 l0_5 l0_6 a0_7 l0_8 l0_9) else (none)) = some r := by first | (rw [hy201]; with_reducible exact H) | (have H2_ := (Option.bind_some _ _).symm.trans H; rw [hy201]; with_reducible exact H2_) | (have H2_ := (Option.bind_some _ _).symm.trans H; with_reducible exact H2_) | with_reducible exact H | (rw [hy201]; exact H) | exact H
        have Ny201 := Aside0.mk hy201
        clear hy201
        by_cases c55 : y161.length + y201.length < 17592186044416
        · rw [if_pos c55] at H
          have LMc55 := Aside0.mk c55
          clear c55
          obtain ⟨y204, hy204⟩ : ∃ y_ : List Int, y_ = (y161 ++ y201) := ⟨_, rfl⟩
          replace H : (record_write.j2 k y204 a0_0 a0_1 a0_2 a0_3 a0_4 l0_5 l0_6 a0_7 l0_8 l0_9) = some r := by first | (rw [hy204]; with_reducible exact H) | (have H2_ := (Option.bind_some _ _).symm.trans H; rw [hy204]; with_reducible exact H2_) | (have H2_ := (Option.bind_some _ _).symm.trans H; with_reducible exact H2_) | with_reducible exact H | (rw [hy204]; exact H) | exact H
          have Ny204 := Aside0.mk hy204
          clear hy204
          have H' := Aside0.mk H
          clear H
          have hcz56_0 : w5.cell? ⟨gb160, 0, none⟩ = some (.int .i64 a0_0) := (blk_cell BK160.out 0).trans rfl
          have hcz56_1 : w5.cell? ⟨gb160, 1, none⟩ = some (.int .i64 a0_1) := (blk_cell BK160.out 1).trans rfl
          have hcz56_2 : w5.cell? ⟨gb160, 2, none⟩ = some (.int .i64 a0_2) := (blk_cell BK160.out 2).trans rfl
          have hcz56_3 : w5.cell? ⟨gb160, 3, none⟩ = some (.int .i64 a0_3) := (blk_cell BK160.out 3).trans rfl
          have hcz56_4 : w5.cell? ⟨gb160, 4, none⟩ = some (.int .i64 a0_4) := (blk_cell BK160.out 4).trans rfl
          have hcz56_5 : w5.cell? ⟨gb160, 5, none⟩ = some (.slice A0_5 l0_5.length c0_5) := (blk_cell BK160.out 5).trans rfl
          have hcz56_6 : w5.cell? ⟨gb160, 6, none⟩ = some (.slice A0_6 l0_6.length c0_6) := (blk_cell BK160.out 6).trans rfl
          have hcz56_7 : w5.cell? ⟨gb160, 7, none⟩ = some (.int .i64 a0_7) := (blk_cell BK160.out 7).trans rfl
          have hcz56_8 : w5.cell? ⟨gb160, 8, none⟩ = some (.slice A0_8 l0_8.length c0_8) := (blk_cell BK160.out 8).trans rfl
          have hcz56_9 : w5.cell? ⟨gb160, 9, none⟩ = some (.slice A0_9 l0_9.length c0_9) := (blk_cell BK160.out 9).trans rfl
          have hfz56_0 := blk_frozen BK160.out 0
          have hfz56_1 := blk_frozen BK160.out 1
          have hfz56_2 := blk_frozen BK160.out 2
          have hfz56_3 := blk_frozen BK160.out 3
          have hfz56_4 := blk_frozen BK160.out 4
          have hfz56_5 := blk_frozen BK160.out 5
          have hfz56_6 := blk_frozen BK160.out 6
          have hfz56_7 := blk_frozen BK160.out 7
          have hfz56_8 := blk_frozen BK160.out 8
          have hfz56_9 := blk_frozen BK160.out 9
          go_wp2_with (first | ((with_reducible refine gate_dst (N := 20) rfl ?_); refine Kd.R_lit (Kd.int .i64) _ 3 ?hg (N := 20) ?hd (xs := ([a0_1, a0_2] : List Int)) (inner := [.int .i64 a0_1, .int .i64 a0_2]) (ok := fun _ => True) (okp := fun _ => True) ?hr ?hp (fun _ hk => hk) trivial (Below.refl _ _) (Nat.le_refl _) (by simp) ?_; (case hd => rfl); (case hg => rfl); (case hr => first | (go_simp; done) | (go_simp; rfl)); (case hp => exact (Reps.one (show Kd.M (Kd.int .i64) _ _ _ a0_1 [.int .i64 a0_1] from rfl) (Reps.one (show Kd.M (Kd.int .i64) _ _ _ a0_2 [.int .i64 a0_2] from rfl) (Reps.none _ _)))); intro v202 w57 ho58 hb hg_ hnew_; clear hg_ hnew_; (first | rw [← Ny201.out] at ho58 | (simp only [Int.reduceToNat] at ho58; rw [← Ny201.out] at ho58)); have n0_ := Aside0.mk (Kd.R_elder' (by (with_reducible repeat (first | apply Kd.R_alloc | apply Kd.R_drewN | apply Kd.R_drew)); exact HO163.out) (Kd.R_base ho58) hb); have n1_ := Aside0.mk (Kd.R_lower (Kd.R_new' ho58 (Kd.R_lt (by (with_reducible repeat (first | apply Kd.R_alloc | apply Kd.R_drewN | apply Kd.R_drew)); exact HO163.out))) (below_size (by repeat (first | (with_reducible first | exact HB.out | apply below_alloc | apply pw_below_drewN | apply below_drew1 | refine below_set ?_ GE160.out) | exact HB.out)))); have n2_ := Aside0.mk (blk_below (g := gb160) (o := .cells #[.int .i64 a0_0, .int .i64 a0_1, .int .i64 a0_2, .int .i64 a0_3, .int .i64 a0_4, .slice A0_5 l0_5.length c0_5, .slice A0_6 l0_6.length c0_6, .int .i64 a0_7, .slice A0_8 l0_8.length c0_8, .slice A0_9 l0_9.length c0_9] 30 (0, 0)) (by (with_reducible repeat (first | refine blk_drewN ?_ _ | refine blk_drew ?_ | refine blk_alloc ?_ _)); exact BK160.out) hb); have n3_ := Aside0.mk (below_step (by repeat (first | (with_reducible first | exact HB.out | apply below_alloc | apply pw_below_drewN | apply below_drew1 | refine below_set ?_ GE160.out) | exact HB.out)) hb); clear HO163; clear BK160; clear HB; have HO163 := n0_; have HO203 := n1_; have BK160 := n2_; have HB := n3_; clear n0_ n1_ n2_ n3_; clear hb ho58; obtain ⟨Ao60, co60, eo60⟩ := Kd.R_slice HO203.out; subst eo60) | ((with_reducible refine gate_builtin (b := .append) (xs := #[.tmp 15, .tmp 20]) rfl ?_); at_builtin; refine Kd.R_append_rows (Kd.int .i64) (w0 := w) w.heap.size rfl (.tmp 15) (.tmp 20) 25 3 (.int .i64 0) 8 rfl Try.underlying25 info3 rfl (by decide) (by omega) v162 y161 y201 _ _ _ (fun k_ => some k_ ≠ (.slice Ao60 y201.length co60 : Value).ownBlock) (fun _ => False) rfl rfl ?aO ?aR (fun _ _ h => h) (fun _ h => h.elim) ?aF ?aB ?aS ?aL ?_; (case aR => repeat (first | exact (Kd.R_reads' HO203.out).2.2 | (with_reducible refine Kd.C_alloc ?_ _) | (with_reducible refine Kd.C_drewN ?_ _) | (with_reducible refine Kd.C_drew ?_))); (case aB => exact (by repeat (first | (with_reducible first | exact HB.out | apply below_alloc | apply pw_below_drewN | apply below_drew1 | refine below_set ?_ GE160.out) | exact HB.out))); (case aF => exact (fun k_ hk => Kd.fresh' (Kd.R_lt (by (with_reducible repeat (first | apply Kd.R_alloc | apply Kd.R_drewN | apply Kd.R_drew)); exact HO203.out)) k_ hk)); (case aO => exact (by (with_reducible repeat (first | apply Kd.R_alloc | apply Kd.R_drewN | apply Kd.R_drew)); exact Kd.R_mono HO163.out (fun _ hk => hk.2))); (case aS => exact (below_size (by repeat (first | (with_reducible first | exact HB.out | apply below_alloc | apply pw_below_drewN | apply below_drew1 | refine below_set ?_ GE160.out) | exact HB.out)))); (case aL => have := LMc55.out; omega); intro v205 w59 ho hb hg hat; rw [← Ny204.out] at ho; have n0_ := Aside0.mk (blk_grown (g := gb160) (o := .cells #[.int .i64 a0_0, .int .i64 a0_1, .int .i64 a0_2, .int .i64 a0_3, .int .i64 a0_4, .slice A0_5 l0_5.length c0_5, .slice A0_6 l0_6.length c0_6, .int .i64 a0_7, .slice A0_8 l0_8.length c0_8, .slice A0_9 l0_9.length c0_9] 30 (0, 0)) (by (with_reducible repeat (first | refine blk_drewN ?_ _ | refine blk_drew ?_ | refine blk_alloc ?_ _)); exact BK160.out) hg (Kd.R_ne HO163.out BK160.out (by decide))); have n1_ := Aside0.mk (Kd.R_after (ok := (fun _ => True)) (by (with_reducible repeat (first | apply Kd.R_alloc | apply Kd.R_drewN | apply Kd.R_drew)); exact HO203.out) hg hat); have n2_ := Aside0.mk (hb); have n3_ := Aside0.mk (ho); clear BK160; clear HO203; clear HB; clear HO163; have BK160 := n0_; have HO203 := n1_; have HB := n2_; have HO206 := n3_; clear n0_ n1_ n2_ n3_; clear ho hb hg hat))
          go_meet
          case rel => exact ⟨_, (y204), H', ⟨by first | omega | exact Nat.le_refl _⟩, ⟨by (with_reducible repeat (first | apply Kd.R_alloc | apply Kd.R_drewN | apply Kd.R_drew)); exact Kd.R_mono HO206.out (fun _ hk => trivial)⟩, ⟨by (with_reducible repeat (first | refine blk_drewN ?_ _ | refine blk_drew ?_ | refine blk_alloc ?_ _)); exact BK160.out⟩, ⟨by repeat (first | (with_reducible first | exact HB.out | apply below_alloc | apply pw_below_drewN | apply below_drew1 | refine below_set ?_ GE160.out) | exact HB.out)⟩⟩
        · rw [if_neg c55] at H
          exact absurd H (by simp)
  case rest =>
    clear HC2
    try clear c1
    try clear p1
    try clear q1
    try clear hx1
    try clear c2
    try clear p2
    try clear c3
    try clear c4
    try clear c5
    try clear p6
    try clear c8
    try clear c8b0
    try clear c8b1
    try clear c9
    try clear c16
    try clear c16b0
    try clear c17
    try clear c17b0
    try clear p17
    try clear q17
    try clear hx17
    try clear c18
    try clear c18b0
    try clear p18
    try clear q18
    try clear hx18
    try clear c19
    try clear c21
    try clear c27
    try clear c30
    try clear c34
    try clear c34b0
    try clear c35
    try clear c35b0
    try clear c36
    try clear c36b0
    try clear c37
    try clear c39
    try clear c43
    try clear c48
    try clear c48b0
    try clear c48b1
    try clear c49
    try clear c55
    try clear hcz10_0
    try clear hcz10_1
    try clear hcz10_2
    try clear hcz10_3
    try clear hcz10_4
    try clear hcz10_5
    try clear hcz10_6
    try clear hcz10_7
    try clear hcz10_8
    try clear hcz10_9
    try clear hcz15_0
    try clear hcz15_1
    try clear hcz15_2
    try clear hcz15_3
    try clear hcz15_4
    try clear hcz15_5
    try clear hcz15_6
    try clear hcz15_7
    try clear hcz15_8
    try clear hcz15_9
    try clear hcz22_0
    try clear hcz22_1
    try clear hcz28_0
    try clear hcz28_1
    try clear hcz28_2
    try clear hcz28_3
    try clear hcz28_4
    try clear hcz28_5
    try clear hcz28_6
    try clear hcz28_7
    try clear hcz28_8
    try clear hcz28_9
    try clear hcz33_0
    try clear hcz33_1
    try clear hcz33_2
    try clear hcz33_3
    try clear hcz33_4
    try clear hcz33_5
    try clear hcz33_6
    try clear hcz33_7
    try clear hcz33_8
    try clear hcz33_9
    try clear hcz40_0
    try clear hcz40_1
    try clear hcz40_2
    try clear hcz40_3
    try clear hcz4_0
    try clear hcz4_1
    try clear hcz4_2
    try clear hcz4_3
    try clear hcz4_4
    try clear hcz4_5
    try clear hcz4_6
    try clear hcz4_7
    try clear hcz4_8
    try clear hcz4_9
    try clear hcz50_0
    try clear hcz50_1
    try clear hcz50_2
    try clear hcz50_3
    try clear hcz50_4
    try clear hcz50_5
    try clear hcz50_6
    try clear hcz50_7
    try clear hcz50_8
    try clear hcz50_9
    try clear hcz56_0
    try clear hcz56_1
    try clear hcz56_2
    try clear hcz56_3
    try clear hcz56_4
    try clear hcz56_5
    try clear hcz56_6
    try clear hcz56_7
    try clear hcz56_8
    try clear hcz56_9
    try clear hcz7_0
    try clear hcz7_1
    try clear hcz7_2
    try clear hcz7_3
    try clear hcz7_4
    try clear hcz7_5
    try clear hcz7_6
    try clear hcz7_7
    try clear hcz7_8
    try clear hcz7_9
    try clear hfz10_0
    try clear hfz10_1
    try clear hfz10_2
    try clear hfz10_3
    try clear hfz10_4
    try clear hfz10_5
    try clear hfz10_6
    try clear hfz10_7
    try clear hfz10_8
    try clear hfz10_9
    try clear hfz15_0
    try clear hfz15_1
    try clear hfz15_2
    try clear hfz15_3
    try clear hfz15_4
    try clear hfz15_5
    try clear hfz15_6
    try clear hfz15_7
    try clear hfz15_8
    try clear hfz15_9
    try clear hfz22_0
    try clear hfz22_1
    try clear hfz28_0
    try clear hfz28_1
    try clear hfz28_2
    try clear hfz28_3
    try clear hfz28_4
    try clear hfz28_5
    try clear hfz28_6
    try clear hfz28_7
    try clear hfz28_8
    try clear hfz28_9
    try clear hfz33_0
    try clear hfz33_1
    try clear hfz33_2
    try clear hfz33_3
    try clear hfz33_4
    try clear hfz33_5
    try clear hfz33_6
    try clear hfz33_7
    try clear hfz33_8
    try clear hfz33_9
    try clear hfz40_0
    try clear hfz40_1
    try clear hfz40_2
    try clear hfz40_3
    try clear hfz4_0
    try clear hfz4_1
    try clear hfz4_2
    try clear hfz4_3
    try clear hfz4_4
    try clear hfz4_5
    try clear hfz4_6
    try clear hfz4_7
    try clear hfz4_8
    try clear hfz4_9
    try clear hfz50_0
    try clear hfz50_1
    try clear hfz50_2
    try clear hfz50_3
    try clear hfz50_4
    try clear hfz50_5
    try clear hfz50_6
    try clear hfz50_7
    try clear hfz50_8
    try clear hfz50_9
    try clear hfz56_0
    try clear hfz56_1
    try clear hfz56_2
    try clear hfz56_3
    try clear hfz56_4
    try clear hfz56_5
    try clear hfz56_6
    try clear hfz56_7
    try clear hfz56_8
    try clear hfz56_9
    try clear hfz7_0
    try clear hfz7_1
    try clear hfz7_2
    try clear hfz7_3
    try clear hfz7_4
    try clear hfz7_5
    try clear hfz7_6
    try clear hfz7_7
    try clear hfz7_8
    try clear hfz7_9
    try clear hx170_0
    try clear hx170_1
    try clear hx184_0
    try clear hx184_1
    try clear hx184_2
    try clear hx184_3
    try clear p1
    try clear p17
    try clear p170
    try clear p184
    try clear p2
    try clear p6
    try clear q1
    try clear q17
    try clear q170
    try clear q184
    obtain ⟨kq, x3_1, HA, HJ1, HO_3, BK160, HB⟩ := hcut
    cases kq with
    | zero => exact absurd HA.out (by simp [record_write.j2])
    | succ kj1 =>
      have H := HA.out
      clear HA
      simp only [record_write.j2] at H
      have HC61 := Aside0.mk H
      clear H
      go_upto_region 20 with (fail)
      go_cut [90] (fun v90 wc => ∃ (kq : Nat) (x90_60 : Bool), v90 = .bool x90_60 ∧ Aside0 (record_write.j3 kq x3_1 x90_60 a0_0 a0_1 a0_2 a0_3 a0_4 l0_5 l0_6 a0_7 l0_8 l0_9 = some r) ∧ Aside0 (kq ≤ kj1) ∧ Aside0 (Kd.R (Kd.int .i64) 3 wc w.heap.size (fun _ => True) u3 x3_1) ∧ Aside0 (wc.heap[gb160]? = some (.cells #[.int .i64 a0_0, .int .i64 a0_1, .int .i64 a0_2, .int .i64 a0_3, .int .i64 a0_4, (.slice A0_5 l0_5.length c0_5), (.slice A0_6 l0_6.length c0_6), .int .i64 a0_7, (.slice A0_8 l0_8.length c0_8), (.slice A0_9 l0_9.length c0_9)] 30 (0, 0))) ∧ Aside0 (Below w.heap.size w wc))
      case first =>
        have H := HC61.out
        clear HC61
        by_cases c62 : a0_0 = 1
        · rw [if_pos c62] at H
          have c62b0 : (a0_0 == 1) = true := beq_iff_eq.mpr c62
          have c62b1 : (a0_0 != 1) = false := bne_eq_false_iff_eq.mpr c62
          clear c62
          (first | rw [c62b0] | (simp only [i64_w, i32_w]; rw [c62b0]) | skip)
          have H' := Aside0.mk H
          clear H
          have hcz63_0 : wc.cell? ⟨gb160, 0, none⟩ = some (.int .i64 a0_0) := (blk_cell BK160.out 0).trans rfl
          have hcz63_1 : wc.cell? ⟨gb160, 1, none⟩ = some (.int .i64 a0_1) := (blk_cell BK160.out 1).trans rfl
          have hcz63_2 : wc.cell? ⟨gb160, 2, none⟩ = some (.int .i64 a0_2) := (blk_cell BK160.out 2).trans rfl
          have hcz63_3 : wc.cell? ⟨gb160, 3, none⟩ = some (.int .i64 a0_3) := (blk_cell BK160.out 3).trans rfl
          have hcz63_4 : wc.cell? ⟨gb160, 4, none⟩ = some (.int .i64 a0_4) := (blk_cell BK160.out 4).trans rfl
          have hcz63_5 : wc.cell? ⟨gb160, 5, none⟩ = some (.slice A0_5 l0_5.length c0_5) := (blk_cell BK160.out 5).trans rfl
          have hcz63_6 : wc.cell? ⟨gb160, 6, none⟩ = some (.slice A0_6 l0_6.length c0_6) := (blk_cell BK160.out 6).trans rfl
          have hcz63_7 : wc.cell? ⟨gb160, 7, none⟩ = some (.int .i64 a0_7) := (blk_cell BK160.out 7).trans rfl
          have hcz63_8 : wc.cell? ⟨gb160, 8, none⟩ = some (.slice A0_8 l0_8.length c0_8) := (blk_cell BK160.out 8).trans rfl
          have hcz63_9 : wc.cell? ⟨gb160, 9, none⟩ = some (.slice A0_9 l0_9.length c0_9) := (blk_cell BK160.out 9).trans rfl
          have hfz63_0 := blk_frozen BK160.out 0
          have hfz63_1 := blk_frozen BK160.out 1
          have hfz63_2 := blk_frozen BK160.out 2
          have hfz63_3 := blk_frozen BK160.out 3
          have hfz63_4 := blk_frozen BK160.out 4
          have hfz63_5 := blk_frozen BK160.out 5
          have hfz63_6 := blk_frozen BK160.out 6
          have hfz63_7 := blk_frozen BK160.out 7
          have hfz63_8 := blk_frozen BK160.out 8
          have hfz63_9 := blk_frozen BK160.out 9
          go_wp2
          go_meet
          case rel => exact ⟨_, (true), (by first | rfl | (simp; done) | (simp [*]; done)), H', ⟨by have := HJ1.out; first | omega | exact Nat.le_refl _⟩, ⟨by (with_reducible repeat (first | apply Kd.R_alloc | apply Kd.R_drewN | apply Kd.R_drew)); exact HO_3.out⟩, ⟨by (with_reducible repeat (first | refine blk_drewN ?_ _ | refine blk_drew ?_ | refine blk_alloc ?_ _)); exact BK160.out⟩, ⟨by repeat (first | (with_reducible first | exact HB.out | apply below_alloc | apply pw_below_drewN | apply below_drew1 | refine below_set ?_ GE160.out) | exact HB.out)⟩⟩
        · rw [if_neg c62] at H
          have c62b0 : (a0_0 == 1) = false := beq_eq_false_iff_ne.mpr c62
          have c62b1 : (a0_0 != 1) = true := bne_iff_ne.mpr c62
          (first | rw [c62b0] | (simp only [i64_w, i32_w]; rw [c62b0]) | skip)
          have H' := Aside0.mk H
          clear H
          have hcz64_0 : wc.cell? ⟨gb160, 0, none⟩ = some (.int .i64 a0_0) := (blk_cell BK160.out 0).trans rfl
          have hcz64_1 : wc.cell? ⟨gb160, 1, none⟩ = some (.int .i64 a0_1) := (blk_cell BK160.out 1).trans rfl
          have hcz64_2 : wc.cell? ⟨gb160, 2, none⟩ = some (.int .i64 a0_2) := (blk_cell BK160.out 2).trans rfl
          have hcz64_3 : wc.cell? ⟨gb160, 3, none⟩ = some (.int .i64 a0_3) := (blk_cell BK160.out 3).trans rfl
          have hcz64_4 : wc.cell? ⟨gb160, 4, none⟩ = some (.int .i64 a0_4) := (blk_cell BK160.out 4).trans rfl
          have hcz64_5 : wc.cell? ⟨gb160, 5, none⟩ = some (.slice A0_5 l0_5.length c0_5) := (blk_cell BK160.out 5).trans rfl
          have hcz64_6 : wc.cell? ⟨gb160, 6, none⟩ = some (.slice A0_6 l0_6.length c0_6) := (blk_cell BK160.out 6).trans rfl
          have hcz64_7 : wc.cell? ⟨gb160, 7, none⟩ = some (.int .i64 a0_7) := (blk_cell BK160.out 7).trans rfl
          have hcz64_8 : wc.cell? ⟨gb160, 8, none⟩ = some (.slice A0_8 l0_8.length c0_8) := (blk_cell BK160.out 8).trans rfl
          have hcz64_9 : wc.cell? ⟨gb160, 9, none⟩ = some (.slice A0_9 l0_9.length c0_9) := (blk_cell BK160.out 9).trans rfl
          have hfz64_0 := blk_frozen BK160.out 0
          have hfz64_1 := blk_frozen BK160.out 1
          have hfz64_2 := blk_frozen BK160.out 2
          have hfz64_3 := blk_frozen BK160.out 3
          have hfz64_4 := blk_frozen BK160.out 4
          have hfz64_5 := blk_frozen BK160.out 5
          have hfz64_6 := blk_frozen BK160.out 6
          have hfz64_7 := blk_frozen BK160.out 7
          have hfz64_8 := blk_frozen BK160.out 8
          have hfz64_9 := blk_frozen BK160.out 9
          go_wp2
          go_meet
          case rel => exact ⟨_, ((a0_0 == 2)), (by first | rfl | (simp; done) | (simp [*]; done)), H', ⟨by have := HJ1.out; first | omega | exact Nat.le_refl _⟩, ⟨by (with_reducible repeat (first | apply Kd.R_alloc | apply Kd.R_drewN | apply Kd.R_drew)); exact HO_3.out⟩, ⟨by (with_reducible repeat (first | refine blk_drewN ?_ _ | refine blk_drew ?_ | refine blk_alloc ?_ _)); exact BK160.out⟩, ⟨by repeat (first | (with_reducible first | exact HB.out | apply below_alloc | apply pw_below_drewN | apply below_drew1 | refine below_set ?_ GE160.out) | exact HB.out)⟩⟩
      case rest =>
        clear HC61
        try clear c1
        try clear p1
        try clear q1
        try clear hx1
        try clear c2
        try clear p2
        try clear c3
        try clear c4
        try clear c5
        try clear c6
        try clear p6
        try clear c8
        try clear c8b0
        try clear c8b1
        try clear c9
        try clear c16
        try clear c16b0
        try clear c17
        try clear c17b0
        try clear p17
        try clear q17
        try clear hx17
        try clear c18
        try clear c18b0
        try clear p18
        try clear q18
        try clear hx18
        try clear c19
        try clear c21
        try clear c27
        try clear c30
        try clear c34
        try clear c34b0
        try clear c35
        try clear c35b0
        try clear c36
        try clear c36b0
        try clear c37
        try clear c39
        try clear c43
        try clear c48
        try clear c48b0
        try clear c48b1
        try clear c49
        try clear c55
        try clear c62
        try clear c62b0
        try clear c62b1
        try clear p64
        try clear hcz10_0
        try clear hcz10_1
        try clear hcz10_2
        try clear hcz10_3
        try clear hcz10_4
        try clear hcz10_5
        try clear hcz10_6
        try clear hcz10_7
        try clear hcz10_8
        try clear hcz10_9
        try clear hcz15_0
        try clear hcz15_1
        try clear hcz15_2
        try clear hcz15_3
        try clear hcz15_4
        try clear hcz15_5
        try clear hcz15_6
        try clear hcz15_7
        try clear hcz15_8
        try clear hcz15_9
        try clear hcz22_0
        try clear hcz22_1
        try clear hcz28_0
        try clear hcz28_1
        try clear hcz28_2
        try clear hcz28_3
        try clear hcz28_4
        try clear hcz28_5
        try clear hcz28_6
        try clear hcz28_7
        try clear hcz28_8
        try clear hcz28_9
        try clear hcz33_0
        try clear hcz33_1
        try clear hcz33_2
        try clear hcz33_3
        try clear hcz33_4
        try clear hcz33_5
        try clear hcz33_6
        try clear hcz33_7
        try clear hcz33_8
        try clear hcz33_9
        try clear hcz40_0
        try clear hcz40_1
        try clear hcz40_2
        try clear hcz40_3
        try clear hcz4_0
        try clear hcz4_1
        try clear hcz4_2
        try clear hcz4_3
        try clear hcz4_4
        try clear hcz4_5
        try clear hcz4_6
        try clear hcz4_7
        try clear hcz4_8
        try clear hcz4_9
        try clear hcz50_0
        try clear hcz50_1
        try clear hcz50_2
        try clear hcz50_3
        try clear hcz50_4
        try clear hcz50_5
        try clear hcz50_6
        try clear hcz50_7
        try clear hcz50_8
        try clear hcz50_9
        try clear hcz56_0
        try clear hcz56_1
        try clear hcz56_2
        try clear hcz56_3
        try clear hcz56_4
        try clear hcz56_5
        try clear hcz56_6
        try clear hcz56_7
        try clear hcz56_8
        try clear hcz56_9
        try clear hcz63_0
        try clear hcz63_1
        try clear hcz63_2
        try clear hcz63_3
        try clear hcz63_4
        try clear hcz63_5
        try clear hcz63_6
        try clear hcz63_7
        try clear hcz63_8
        try clear hcz63_9
        try clear hcz64_0
        try clear hcz64_1
        try clear hcz64_2
        try clear hcz64_3
        try clear hcz64_4
        try clear hcz64_5
        try clear hcz64_6
        try clear hcz64_7
        try clear hcz64_8
        try clear hcz64_9
        try clear hcz7_0
        try clear hcz7_1
        try clear hcz7_2
        try clear hcz7_3
        try clear hcz7_4
        try clear hcz7_5
        try clear hcz7_6
        try clear hcz7_7
        try clear hcz7_8
        try clear hcz7_9
        try clear hfz10_0
        try clear hfz10_1
        try clear hfz10_2
        try clear hfz10_3
        try clear hfz10_4
        try clear hfz10_5
        try clear hfz10_6
        try clear hfz10_7
        try clear hfz10_8
        try clear hfz10_9
        try clear hfz15_0
        try clear hfz15_1
        try clear hfz15_2
        try clear hfz15_3
        try clear hfz15_4
        try clear hfz15_5
        try clear hfz15_6
        try clear hfz15_7
        try clear hfz15_8
        try clear hfz15_9
        try clear hfz22_0
        try clear hfz22_1
        try clear hfz28_0
        try clear hfz28_1
        try clear hfz28_2
        try clear hfz28_3
        try clear hfz28_4
        try clear hfz28_5
        try clear hfz28_6
        try clear hfz28_7
        try clear hfz28_8
        try clear hfz28_9
        try clear hfz33_0
        try clear hfz33_1
        try clear hfz33_2
        try clear hfz33_3
        try clear hfz33_4
        try clear hfz33_5
        try clear hfz33_6
        try clear hfz33_7
        try clear hfz33_8
        try clear hfz33_9
        try clear hfz40_0
        try clear hfz40_1
        try clear hfz40_2
        try clear hfz40_3
        try clear hfz4_0
        try clear hfz4_1
        try clear hfz4_2
        try clear hfz4_3
        try clear hfz4_4
        try clear hfz4_5
        try clear hfz4_6
        try clear hfz4_7
        try clear hfz4_8
        try clear hfz4_9
        try clear hfz50_0
        try clear hfz50_1
        try clear hfz50_2
        try clear hfz50_3
        try clear hfz50_4
        try clear hfz50_5
        try clear hfz50_6
        try clear hfz50_7
        try clear hfz50_8
        try clear hfz50_9
        try clear hfz56_0
        try clear hfz56_1
        try clear hfz56_2
        try clear hfz56_3
        try clear hfz56_4
        try clear hfz56_5
        try clear hfz56_6
        try clear hfz56_7
        try clear hfz56_8
        try clear hfz56_9
        try clear hfz63_0
        try clear hfz63_1
        try clear hfz63_2
        try clear hfz63_3
        try clear hfz63_4
        try clear hfz63_5
        try clear hfz63_6
        try clear hfz63_7
        try clear hfz63_8
        try clear hfz63_9
        try clear hfz64_0
        try clear hfz64_1
        try clear hfz64_2
        try clear hfz64_3
        try clear hfz64_4
        try clear hfz64_5
        try clear hfz64_6
        try clear hfz64_7
        try clear hfz64_8
        try clear hfz64_9
        try clear hfz7_0
        try clear hfz7_1
        try clear hfz7_2
        try clear hfz7_3
        try clear hfz7_4
        try clear hfz7_5
        try clear hfz7_6
        try clear hfz7_7
        try clear hfz7_8
        try clear hfz7_9
        try clear hx170_0
        try clear hx170_1
        try clear hx184_0
        try clear hx184_1
        try clear hx184_2
        try clear hx184_3
        try clear p1
        try clear p17
        try clear p170
        try clear p18
        try clear p184
        try clear p2
        try clear p6
        try clear q1
        try clear q17
        try clear q170
        try clear q18
        try clear q184
        obtain ⟨kq, x90_60, rfl, HA, HJ60, HO_3, BK160, HB⟩ := hcut
        cases kq with
        | zero => exact absurd HA.out (by simp [record_write.j3])
        | succ kj60 =>
          have H := HA.out
          clear HA
          simp only [record_write.j3] at H
          by_cases c65 : x90_60 = true
          · subst c65
            have H1 : ((some (([a0_3, a0_4, (l0_5.length : Int)] : List Int) : List Int)).bind fun y207 => (if x3_1.length + y207.length < 17592186044416 then ((some (x3_1 ++ y207 : List Int)).bind fun y210 => (if y210.length + l0_5.length < 17592186044416 then ((some (y210 ++ l0_5 : List Int)).bind fun y213 => ((some (([(l0_6.length : Int)] : List Int) : List Int)).bind fun y216 => (if y213.length + y216.length < 17592186044416 then (record_write.l2 kj60 (y213 ++ y216) l0_6 (l0_6.length : Int) 0) else (none)))) else (none))) else (none))) = some r := by rw [if_pos rfl] at H; exact H
            clear H
            have H := H1
            clear H1
            obtain ⟨y207, hy207⟩ : ∃ y_ : List Int, y_ = (([a0_3, a0_4, (l0_5.length : Int)] : List Int)) := ⟨_, rfl⟩
            replace H : (if x3_1.length + y207.length < 17592186044416 then ((some (x3_1 ++ y207 : List Int)).bind fun y210 => (if y210.length + l0_5.length < 17592186044416 then ((some (y210 ++ l0_5 : List Int)).bind fun y213 => ((some (([(l0_6.length : Int)] : List Int) : List Int)).bind fun y216 => (if y213.length + y216.length < 17592186044416 then (record_write.l2 kj60 (y213 ++ y216) l0_6 (l0_6.length : Int) 0) else (none)))) else (none))) else (none)) = some r := by first | (rw [hy207]; with_reducible exact H) | (have H2_ := (Option.bind_some _ _).symm.trans H; rw [hy207]; with_reducible exact H2_) | (have H2_ := (Option.bind_some _ _).symm.trans H; with_reducible exact H2_) | with_reducible exact H | (rw [hy207]; exact H) | exact H
            have Ny207 := Aside0.mk hy207
            clear hy207
            by_cases c66 : x3_1.length + y207.length < 17592186044416
            · rw [if_pos c66] at H
              have LMc66 := Aside0.mk c66
              clear c66
              obtain ⟨y210, hy210⟩ : ∃ y_ : List Int, y_ = (x3_1 ++ y207) := ⟨_, rfl⟩
              replace H : (if y210.length + l0_5.length < 17592186044416 then ((some (y210 ++ l0_5 : List Int)).bind fun y213 => ((some (([(l0_6.length : Int)] : List Int) : List Int)).bind fun y216 => (if y213.length + y216.length < 17592186044416 then (record_write.l2 kj60 (y213 ++ y216) l0_6 (l0_6.length : Int) 0) else (none)))) else (none)) = some r := by first | (rw [hy210]; with_reducible exact H) | (have H2_ := (Option.bind_some _ _).symm.trans H; rw [hy210]; with_reducible exact H2_) | (have H2_ := (Option.bind_some _ _).symm.trans H; with_reducible exact H2_) | with_reducible exact H | (rw [hy210]; exact H) | exact H
              have Ny210 := Aside0.mk hy210
              clear hy210
              by_cases c67 : y210.length + l0_5.length < 17592186044416
              · rw [if_pos c67] at H
                have LMc67 := Aside0.mk c67
                clear c67
                obtain ⟨y213, hy213⟩ : ∃ y_ : List Int, y_ = (y210 ++ l0_5) := ⟨_, rfl⟩
                replace H : ((some (([(l0_6.length : Int)] : List Int) : List Int)).bind fun y216 => (if y213.length + y216.length < 17592186044416 then (record_write.l2 kj60 (y213 ++ y216) l0_6 (l0_6.length : Int) 0) else (none))) = some r := by first | (rw [hy213]; with_reducible exact H) | (have H2_ := (Option.bind_some _ _).symm.trans H; rw [hy213]; with_reducible exact H2_) | (have H2_ := (Option.bind_some _ _).symm.trans H; with_reducible exact H2_) | with_reducible exact H | (rw [hy213]; exact H) | exact H
                have Ny213 := Aside0.mk hy213
                clear hy213
                obtain ⟨y216, hy216⟩ : ∃ y_ : List Int, y_ = (([(l0_6.length : Int)] : List Int)) := ⟨_, rfl⟩
                replace H : (if y213.length + y216.length < 17592186044416 then (record_write.l2 kj60 (y213 ++ y216) l0_6 (l0_6.length : Int) 0) else (none)) = some r := by first | (rw [hy216]; with_reducible exact H) | (have H2_ := (Option.bind_some _ _).symm.trans H; rw [hy216]; with_reducible exact H2_) | (have H2_ := (Option.bind_some _ _).symm.trans H; with_reducible exact H2_) | with_reducible exact H | (rw [hy216]; exact H) | exact H
                have Ny216 := Aside0.mk hy216
                clear hy216
                by_cases c68 : y213.length + y216.length < 17592186044416
                · rw [if_pos c68] at H
                  have LMc68 := Aside0.mk c68
                  clear c68
                  obtain ⟨y219, hy219⟩ : ∃ y_ : List Int, y_ = (y213 ++ y216) := ⟨_, rfl⟩
                  replace H : (record_write.l2 kj60 y219 l0_6 (l0_6.length : Int) 0) = some r := by first | (rw [hy219]; with_reducible exact H) | (have H2_ := (Option.bind_some _ _).symm.trans H; rw [hy219]; with_reducible exact H2_) | (have H2_ := (Option.bind_some _ _).symm.trans H; with_reducible exact H2_) | with_reducible exact H | (rw [hy219]; exact H) | exact H
                  have Ny219 := Aside0.mk hy219
                  clear hy219
                  have H' := Aside0.mk H
                  clear H
                  have hcz69_0 : wc.cell? ⟨gb160, 0, none⟩ = some (.int .i64 a0_0) := (blk_cell BK160.out 0).trans rfl
                  have hcz69_1 : wc.cell? ⟨gb160, 1, none⟩ = some (.int .i64 a0_1) := (blk_cell BK160.out 1).trans rfl
                  have hcz69_2 : wc.cell? ⟨gb160, 2, none⟩ = some (.int .i64 a0_2) := (blk_cell BK160.out 2).trans rfl
                  have hcz69_3 : wc.cell? ⟨gb160, 3, none⟩ = some (.int .i64 a0_3) := (blk_cell BK160.out 3).trans rfl
                  have hcz69_4 : wc.cell? ⟨gb160, 4, none⟩ = some (.int .i64 a0_4) := (blk_cell BK160.out 4).trans rfl
                  have hcz69_5 : wc.cell? ⟨gb160, 5, none⟩ = some (.slice A0_5 l0_5.length c0_5) := (blk_cell BK160.out 5).trans rfl
                  have hcz69_6 : wc.cell? ⟨gb160, 6, none⟩ = some (.slice A0_6 l0_6.length c0_6) := (blk_cell BK160.out 6).trans rfl
                  have hcz69_7 : wc.cell? ⟨gb160, 7, none⟩ = some (.int .i64 a0_7) := (blk_cell BK160.out 7).trans rfl
                  have hcz69_8 : wc.cell? ⟨gb160, 8, none⟩ = some (.slice A0_8 l0_8.length c0_8) := (blk_cell BK160.out 8).trans rfl
                  have hcz69_9 : wc.cell? ⟨gb160, 9, none⟩ = some (.slice A0_9 l0_9.length c0_9) := (blk_cell BK160.out 9).trans rfl
                  have hfz69_0 := blk_frozen BK160.out 0
                  have hfz69_1 := blk_frozen BK160.out 1
                  have hfz69_2 := blk_frozen BK160.out 2
                  have hfz69_3 := blk_frozen BK160.out 3
                  have hfz69_4 := blk_frozen BK160.out 4
                  have hfz69_5 := blk_frozen BK160.out 5
                  have hfz69_6 := blk_frozen BK160.out 6
                  have hfz69_7 := blk_frozen BK160.out 7
                  have hfz69_8 := blk_frozen BK160.out 8
                  have hfz69_9 := blk_frozen BK160.out 9
                  try go_wp2_with (first | ((with_reducible refine gate_dst (N := 99) rfl ?_); refine Kd.R_lit (Kd.int .i64) _ 3 ?hg (N := 99) ?hd (xs := ([a0_3, a0_4, (l0_5.length : Int)] : List Int)) (inner := [.int .i64 a0_3, .int .i64 a0_4, .int .i64 (l0_5.length : Int)]) (ok := fun _ => True) (okp := fun _ => True) ?hr ?hp (fun _ hk => hk) trivial (Below.refl _ _) (Nat.le_refl _) (by simp) ?_; (case hd => rfl); (case hg => rfl); (case hr => first | (go_simp; done) | (go_simp; rfl)); (case hp => exact (Reps.one (show Kd.M (Kd.int .i64) _ _ _ a0_3 [.int .i64 a0_3] from rfl) (Reps.one (show Kd.M (Kd.int .i64) _ _ _ a0_4 [.int .i64 a0_4] from rfl) (Reps.one (show Kd.M (Kd.int .i64) _ _ _ (l0_5.length : Int) [.int .i64 (l0_5.length : Int)] from rfl) (Reps.none _ _))))); intro v208 w70 ho71 hb hg_ hnew_; clear hg_ hnew_; (first | rw [← Ny207.out] at ho71 | (simp only [Int.reduceToNat] at ho71; rw [← Ny207.out] at ho71)); have n0_ := Aside0.mk (Kd.R_elder' (by (with_reducible repeat (first | apply Kd.R_alloc | apply Kd.R_drewN | apply Kd.R_drew)); exact HO_3.out) (Kd.R_base ho71) hb); have n1_ := Aside0.mk (Kd.R_lower (Kd.R_new' ho71 (Kd.R_lt (by (with_reducible repeat (first | apply Kd.R_alloc | apply Kd.R_drewN | apply Kd.R_drew)); exact HO_3.out))) (below_size (by repeat (first | (with_reducible first | exact HB.out | apply below_alloc | apply pw_below_drewN | apply below_drew1 | refine below_set ?_ GE160.out) | exact HB.out)))); have n2_ := Aside0.mk (blk_below (g := gb160) (o := .cells #[.int .i64 a0_0, .int .i64 a0_1, .int .i64 a0_2, .int .i64 a0_3, .int .i64 a0_4, .slice A0_5 l0_5.length c0_5, .slice A0_6 l0_6.length c0_6, .int .i64 a0_7, .slice A0_8 l0_8.length c0_8, .slice A0_9 l0_9.length c0_9] 30 (0, 0)) (by (with_reducible repeat (first | refine blk_drewN ?_ _ | refine blk_drew ?_ | refine blk_alloc ?_ _)); exact BK160.out) hb); have n3_ := Aside0.mk (below_step (by repeat (first | (with_reducible first | exact HB.out | apply below_alloc | apply pw_below_drewN | apply below_drew1 | refine below_set ?_ GE160.out) | exact HB.out)) hb); clear HO_3; clear BK160; clear HB; have HO_3 := n0_; have HO209 := n1_; have BK160 := n2_; have HB := n3_; clear n0_ n1_ n2_ n3_; clear hb ho71; obtain ⟨Ao73, co73, eo73⟩ := Kd.R_slice HO209.out; subst eo73) | ((with_reducible refine gate_builtin (b := .append) (xs := #[.tmp 91, .tmp 99]) rfl ?_); at_builtin; refine Kd.R_append_rows (Kd.int .i64) (w0 := w) w.heap.size rfl (.tmp 91) (.tmp 99) 25 3 (.int .i64 0) 8 rfl Try.underlying25 info3 rfl (by decide) (by omega) u3 x3_1 y207 _ _ _ (fun k_ => some k_ ≠ (.slice Ao73 y207.length co73 : Value).ownBlock) (fun _ => False) rfl rfl ?aO ?aR (fun _ _ h => h) (fun _ h => h.elim) ?aF ?aB ?aS ?aL ?_; (case aR => repeat (first | exact (Kd.R_reads' HO209.out).2.2 | (with_reducible refine Kd.C_alloc ?_ _) | (with_reducible refine Kd.C_drewN ?_ _) | (with_reducible refine Kd.C_drew ?_))); (case aB => exact (by repeat (first | (with_reducible first | exact HB.out | apply below_alloc | apply pw_below_drewN | apply below_drew1 | refine below_set ?_ GE160.out) | exact HB.out))); (case aF => exact (fun k_ hk => Kd.fresh' (Kd.R_lt (by (with_reducible repeat (first | apply Kd.R_alloc | apply Kd.R_drewN | apply Kd.R_drew)); exact HO209.out)) k_ hk)); (case aO => exact (by (with_reducible repeat (first | apply Kd.R_alloc | apply Kd.R_drewN | apply Kd.R_drew)); exact Kd.R_mono HO_3.out (fun _ hk => hk.2))); (case aS => exact (below_size (by repeat (first | (with_reducible first | exact HB.out | apply below_alloc | apply pw_below_drewN | apply below_drew1 | refine below_set ?_ GE160.out) | exact HB.out)))); (case aL => have := LMc66.out; omega); intro v211 w72 ho hb hg hat; rw [← Ny210.out] at ho; have n0_ := Aside0.mk (blk_grown (g := gb160) (o := .cells #[.int .i64 a0_0, .int .i64 a0_1, .int .i64 a0_2, .int .i64 a0_3, .int .i64 a0_4, .slice A0_5 l0_5.length c0_5, .slice A0_6 l0_6.length c0_6, .int .i64 a0_7, .slice A0_8 l0_8.length c0_8, .slice A0_9 l0_9.length c0_9] 30 (0, 0)) (by (with_reducible repeat (first | refine blk_drewN ?_ _ | refine blk_drew ?_ | refine blk_alloc ?_ _)); exact BK160.out) hg (Kd.R_ne HO_3.out BK160.out (by decide))); have n1_ := Aside0.mk (Kd.R_after (ok := (fun _ => True)) (by (with_reducible repeat (first | apply Kd.R_alloc | apply Kd.R_drewN | apply Kd.R_drew)); exact HO209.out) hg hat); have n2_ := Aside0.mk (hb); have n3_ := Aside0.mk (ho); clear BK160; clear HO209; clear HB; clear HO_3; have BK160 := n0_; have HO209 := n1_; have HB := n2_; have HO212 := n3_; clear n0_ n1_ n2_ n3_; clear ho hb hg hat; obtain ⟨Ao74, co74, eo74⟩ := Kd.R_slice HO212.out; subst eo74))
                  have n0_ := Aside0.mk (Kd.R_drew HO209.out)
                  have n1_ := Aside0.mk (Kd.R_drew HO212.out)
                  have n2_ := Aside0.mk (blk_drew BK160.out)
                  have n3_ := Aside0.mk (below_drew1 HB.out)
                  clear HO209
                  clear HO212
                  clear BK160
                  clear HB
                  have HO209 := n0_
                  have HO212 := n1_
                  have BK160 := n2_
                  have HB := n3_
                  clear n0_ n1_ n2_ n3_
                  refine start_ (n := 10) (S := fun w' => w'.cell? ⟨gb160, 0, none⟩ = some (.int .i64 a0_0) ∧ w'.cell? ⟨gb160, 1, none⟩ = some (.int .i64 a0_1) ∧ w'.cell? ⟨gb160, 2, none⟩ = some (.int .i64 a0_2) ∧ w'.cell? ⟨gb160, 3, none⟩ = some (.int .i64 a0_3) ∧ w'.cell? ⟨gb160, 4, none⟩ = some (.int .i64 a0_4) ∧ w'.cell? ⟨gb160, 5, none⟩ = some (.slice A0_5 l0_5.length c0_5) ∧ w'.cell? ⟨gb160, 6, none⟩ = some (.slice A0_6 l0_6.length c0_6) ∧ w'.cell? ⟨gb160, 7, none⟩ = some (.int .i64 a0_7) ∧ w'.cell? ⟨gb160, 8, none⟩ = some (.slice A0_8 l0_8.length c0_8) ∧ w'.cell? ⟨gb160, 9, none⟩ = some (.slice A0_9 l0_9.length c0_9)) (ds := []) #[false, false, false, false, false, false, false, false, false, false] (by kernel_rfl) rfl rfl ⟨(blk_cell BK160.out 0).trans rfl, (blk_cell BK160.out 1).trans rfl, (blk_cell BK160.out 2).trans rfl, (blk_cell BK160.out 3).trans rfl, (blk_cell BK160.out 4).trans rfl, (blk_cell BK160.out 5).trans rfl, (blk_cell BK160.out 6).trans rfl, (blk_cell BK160.out 7).trans rfl, (blk_cell BK160.out 8).trans rfl, (blk_cell BK160.out 9).trans rfl⟩ (fun hHeld => ?_); refine with_tabW record_write.tab22 record_write.bits22 (fun HT_ HW_ => ?_)
                  generalize w72.drew = w75 at HO209 HO212 BK160 HB hHeld ⊢
                  refine pure_ (i := 0) (N := some 101) (v := ?_) (a' := ?_) #[true, false, false, false, false, false, false, false, false, false] rfl rfl (any_of HT_.out (by kernel_rfl)) (fun _ _ _ h => h) (Or.inl ⟨by rfl, ?_⟩) ?_ ?_
                  rotate_left
                  · intro w'
                    go_simp
                    with_reducible rfl
                  rotate_left
                  · simp only [Act.put, List.setIfInBounds_toArray, List.set_cons_zero, List.set_cons_succ, i64_w, i32_w]
                    rfl
                  refine pure_ (i := 1) (N := some 102) (v := ?_) (a' := ?_) #[true, true, false, false, false, false, false, false, false, false] rfl rfl (any_of HT_.out (by kernel_rfl)) (fun _ _ _ h => h) (Or.inl ⟨by rfl, ?_⟩) ?_ ?_
                  rotate_left
                  · intro w'
                    go_simp
                    with_reducible rfl
                  rotate_left
                  · simp only [Act.put, List.setIfInBounds_toArray, List.set_cons_zero, List.set_cons_succ, i64_w, i32_w]
                    rfl
                  refine pure_ (i := 4) (N := some 105) (v := ?_) (a' := ?_) #[true, true, false, false, true, false, false, false, false, false] rfl rfl (any_of HT_.out (by kernel_rfl)) (fun _ _ _ h => h) (Or.inl ⟨by rfl, ?_⟩) ?_ ?_
                  rotate_left
                  · intro w'
                    go_simp
                    with_reducible rfl
                  rotate_left
                  · simp only [Act.put, List.setIfInBounds_toArray, List.set_cons_zero, List.set_cons_succ, i64_w, i32_w]
                    rfl
                  refine take_ (i := 2) (N := some 103) (v := ?_) (a' := ?_) #[true, true, true, false, true, false, false, false, false, false] rfl rfl (take_ofW HT_.out HW_.out (by kernel_rfl)) (fun _ _ _ h => h) (Or.inl ⟨by rfl, ?_⟩) hHeld ?_ ?_
                  rotate_left
                  · rintro w' ⟨s0, s1, s2, s3, s4, s5, s6, s7, s8, s9⟩
                    go_simp
                    with_reducible rfl
                  rotate_left
                  · simp only [Act.put, List.setIfInBounds_toArray, List.set_cons_zero, List.set_cons_succ, i64_w, i32_w]
                    rfl
                  refine take_ (i := 5) (N := some 106) (v := ?_) (a' := ?_) #[true, true, true, false, true, true, false, false, false, false] rfl rfl (take_ofW HT_.out HW_.out (by kernel_rfl)) (fun _ _ _ h => h) (Or.inl ⟨by rfl, ?_⟩) hHeld ?_ ?_
                  rotate_left
                  · rintro w' ⟨s0, s1, s2, s3, s4, s5, s6, s7, s8, s9⟩
                    go_simp
                    with_reducible rfl
                  rotate_left
                  · simp only [Act.put, List.setIfInBounds_toArray, List.set_cons_zero, List.set_cons_succ, i64_w, i32_w]
                    rfl
                  refine pure_ (i := 6) (N := some 107) (v := ?_) (a' := ?_) #[true, true, true, false, true, true, true, false, false, false] rfl rfl (any_of HT_.out (by kernel_rfl)) (fun _ _ _ h => h) (Or.inl ⟨by rfl, ?_⟩) ?_ ?_
                  rotate_left
                  · intro w'
                    go_simp
                    with_reducible rfl
                  rotate_left
                  · simp only [Act.put, List.setIfInBounds_toArray, List.set_cons_zero, List.set_cons_succ, i64_w, i32_w]
                    rfl
                  refine join_ (σ := Value × Value) 2 #[true, true, true, true, true, true, true, true, false, false] (fun s_ => [(104, s_.1), (108, s_.2)]) (fun s_ w' => (w'.cell? ⟨gb160, 0, none⟩ = some (.int .i64 a0_0) ∧ w'.cell? ⟨gb160, 1, none⟩ = some (.int .i64 a0_1) ∧ w'.cell? ⟨gb160, 2, none⟩ = some (.int .i64 a0_2) ∧ w'.cell? ⟨gb160, 3, none⟩ = some (.int .i64 a0_3) ∧ w'.cell? ⟨gb160, 4, none⟩ = some (.int .i64 a0_4) ∧ w'.cell? ⟨gb160, 5, none⟩ = some (.slice A0_5 l0_5.length c0_5) ∧ w'.cell? ⟨gb160, 6, none⟩ = some (.slice A0_6 l0_6.length c0_6) ∧ w'.cell? ⟨gb160, 7, none⟩ = some (.int .i64 a0_7) ∧ w'.cell? ⟨gb160, 8, none⟩ = some (.slice A0_8 l0_8.length c0_8) ∧ w'.cell? ⟨gb160, 9, none⟩ = some (.slice A0_9 l0_9.length c0_9)) ∧ (Kd.R (Kd.int .i64) 3 w' w.heap.size (fun k_ => some k_ ≠ (s_.1 : Value).ownBlock ∧ some k_ ≠ (s_.2 : Value).ownBlock) (.slice Ao73 y207.length co73) y207) ∧ (Kd.R (Kd.int .i64) 3 w' w.heap.size (fun k_ => some k_ ≠ (.slice Ao73 y207.length co73 : Value).ownBlock ∧ some k_ ≠ (s_.2 : Value).ownBlock) s_.1 y213) ∧ (Kd.R (Kd.int .i64) 3 w' w.heap.size (fun k_ => some k_ ≠ (.slice Ao73 y207.length co73 : Value).ownBlock ∧ some k_ ≠ (s_.1 : Value).ownBlock) s_.2 y216) ∧ (w'.heap[gb160]? = some (.cells #[.int .i64 a0_0, .int .i64 a0_1, .int .i64 a0_2, .int .i64 a0_3, .int .i64 a0_4, .slice A0_5 l0_5.length c0_5, .slice A0_6 l0_6.length c0_6, .int .i64 a0_7, .slice A0_8 l0_8.length c0_8, .slice A0_9 l0_9.length c0_9] 30 (0, 0))) ∧ (Below w.heap.size w w')) ?_ ?_
                  rotate_left
                  · intro hCont
                    refine two_ (i := 3) (j := 7) (Ni := some 104) (Nj := some 108) #[true, true, true, true, true, true, true, false, false, false] #[true, true, true, false, true, true, true, true, false, false] rfl rfl rfl rfl (two_of HT_.out (by kernel_rfl)) (by decide) (by decide) (fun K hK => ?_) (fun K hK => ?_)
                    · skip
                      refine Kd.R_append_rows_step (Kd.int .i64) (w0 := w) w.heap.size (by rfl) (.tmp 101) (.tmp 103) 25 3 (.int .i64 0) 8 rfl Try.underlying25 info3 rfl (by decide) (by omega) (.slice Ao74 y210.length co74) y210 l0_5 _ _ _ (fun k_ => some k_ ≠ (.slice Ao73 y207.length co73 : Value).ownBlock) (fun _ => False) rfl rfl ?aO ?aR (fun _ _ h => h) (fun _ h => h.elim) ?aF ?aB ?aS ?aL ?_
                      (case aR => repeat (first | exact (Kd.C_below HR0_5.out HB.out) | (with_reducible refine Kd.C_alloc ?_ _) | (with_reducible refine Kd.C_drewN ?_ _) | (with_reducible refine Kd.C_drew ?_)))
                      (case aB => exact (by repeat (first | (with_reducible first | exact HB.out | apply below_alloc | apply pw_below_drewN | apply below_drew1 | refine below_set ?_ GE160.out) | exact HB.out)))
                      (case aF => exact (fun k_ hk => Kd.fresh' (Kd.R_lt (by (with_reducible repeat (first | apply Kd.R_alloc | apply Kd.R_drewN | apply Kd.R_drew)); exact HO209.out)) k_ hk))
                      (case aO => exact (by (with_reducible repeat (first | apply Kd.R_alloc | apply Kd.R_drewN | apply Kd.R_drew)); exact HO212.out))
                      (case aS => exact (below_size (by repeat (first | (with_reducible first | exact HB.out | apply below_alloc | apply pw_below_drewN | apply below_drew1 | refine below_set ?_ GE160.out) | exact HB.out))))
                      (case aL => have := LMc67.out; omega)
                      intro v214 w76 ho hb hg hat
                      rw [← Ny213.out] at ho
                      have n0_ := Aside0.mk (blk_grown (g := gb160) (o := .cells #[.int .i64 a0_0, .int .i64 a0_1, .int .i64 a0_2, .int .i64 a0_3, .int .i64 a0_4, .slice A0_5 l0_5.length c0_5, .slice A0_6 l0_6.length c0_6, .int .i64 a0_7, .slice A0_8 l0_8.length c0_8, .slice A0_9 l0_9.length c0_9] 30 (0, 0)) (by (with_reducible repeat (first | refine blk_drewN ?_ _ | refine blk_drew ?_ | refine blk_alloc ?_ _)); exact BK160.out) hg (Kd.R_ne HO212.out BK160.out (by decide)))
                      have n1_ := Aside0.mk (Kd.R_after (ok := (fun _ => True)) (by (with_reducible repeat (first | apply Kd.R_alloc | apply Kd.R_drewN | apply Kd.R_drew)); exact HO209.out) hg hat)
                      have n2_ := Aside0.mk (hb)
                      have n3_ := Aside0.mk (ho)
                      clear BK160
                      clear HO209
                      clear HB
                      clear HO212
                      have BK160 := n0_
                      have HO209 := n1_
                      have HB := n2_
                      have HO215 := n3_
                      clear n0_ n1_ n2_ n3_
                      clear ho hb hg hat
                      refine hK.out _ _ ⟨(blk_cell BK160.out 0).trans rfl, (blk_cell BK160.out 1).trans rfl, (blk_cell BK160.out 2).trans rfl, (blk_cell BK160.out 3).trans rfl, (blk_cell BK160.out 4).trans rfl, (blk_cell BK160.out 5).trans rfl, (blk_cell BK160.out 6).trans rfl, (blk_cell BK160.out 7).trans rfl, (blk_cell BK160.out 8).trans rfl, (blk_cell BK160.out 9).trans rfl⟩ (fun hHeld => ?_)
                      clear hK K
                      refine norm_ (a' := ?_) ?_ ?_
                      rotate_left
                      · show Act.put _ (some 104) _ = _
                        simp only [Act.put, List.setIfInBounds_toArray, List.set_cons_zero, List.set_cons_succ, i64_w, i32_w]
                        rfl
                      refine one_ (i := 7) (N := some 108) #[true, true, true, true, true, true, true, true, false, false] rfl rfl (one_of HT_.out (by kernel_rfl)) (by decide) (fun K hK => ?_)
                      refine Kd.R_lit_step (Kd.int .i64) _ 3 ?hg (N := 108) ?hd (xs := ([(l0_6.length : Int)] : List Int)) (inner := [.int .i64 (l0_6.length : Int)]) (ok := fun _ => True) (okp := fun _ => True) ?hr ?hp (fun _ hk => hk) trivial (Below.refl _ _) (Nat.le_refl _) (by simp) ?_; (case hd => rfl); (case hg => rfl); (case hr => first | (go_simp; done) | (go_simp; rfl)); (case hp => exact (Reps.one (show Kd.M (Kd.int .i64) _ _ _ (l0_6.length : Int) [.int .i64 (l0_6.length : Int)] from rfl) (Reps.none _ _)))
                      intro v217 w77 ho78 hb hg_ hnew_
                      clear hg_ hnew_
                      (first | rw [← Ny216.out] at ho78 | (simp only [Int.reduceToNat] at ho78; rw [← Ny216.out] at ho78))
                      have n0_ := Aside0.mk (Kd.R_elder' (by (with_reducible repeat (first | apply Kd.R_alloc | apply Kd.R_drewN | apply Kd.R_drew)); exact HO209.out) (Kd.R_base ho78) hb)
                      have n1_ := Aside0.mk (Kd.R_elder' (by (with_reducible repeat (first | apply Kd.R_alloc | apply Kd.R_drewN | apply Kd.R_drew)); exact HO215.out) (Kd.R_base ho78) hb)
                      have n2_ := Aside0.mk (Kd.R_lower (Kd.R_new' (Kd.R_new' ho78 (Kd.R_lt (by (with_reducible repeat (first | apply Kd.R_alloc | apply Kd.R_drewN | apply Kd.R_drew)); exact HO209.out))) (Kd.R_lt (by (with_reducible repeat (first | apply Kd.R_alloc | apply Kd.R_drewN | apply Kd.R_drew)); exact HO215.out))) (below_size (by repeat (first | (with_reducible first | exact HB.out | apply below_alloc | apply pw_below_drewN | apply below_drew1 | refine below_set ?_ GE160.out) | exact HB.out))))
                      have n3_ := Aside0.mk (blk_below (g := gb160) (o := .cells #[.int .i64 a0_0, .int .i64 a0_1, .int .i64 a0_2, .int .i64 a0_3, .int .i64 a0_4, .slice A0_5 l0_5.length c0_5, .slice A0_6 l0_6.length c0_6, .int .i64 a0_7, .slice A0_8 l0_8.length c0_8, .slice A0_9 l0_9.length c0_9] 30 (0, 0)) (by (with_reducible repeat (first | refine blk_drewN ?_ _ | refine blk_drew ?_ | refine blk_alloc ?_ _)); exact BK160.out) hb)
                      have n4_ := Aside0.mk (below_step (by repeat (first | (with_reducible first | exact HB.out | apply below_alloc | apply pw_below_drewN | apply below_drew1 | refine below_set ?_ GE160.out) | exact HB.out)) hb)
                      clear HO209
                      clear HO215
                      clear BK160
                      clear HB
                      have HO209 := n0_
                      have HO215 := n1_
                      have HO218 := n2_
                      have BK160 := n3_
                      have HB := n4_
                      clear n0_ n1_ n2_ n3_ n4_
                      clear hb ho78
                      refine hK.out _ _ ⟨(blk_cell BK160.out 0).trans rfl, (blk_cell BK160.out 1).trans rfl, (blk_cell BK160.out 2).trans rfl, (blk_cell BK160.out 3).trans rfl, (blk_cell BK160.out 4).trans rfl, (blk_cell BK160.out 5).trans rfl, (blk_cell BK160.out 6).trans rfl, (blk_cell BK160.out 7).trans rfl, (blk_cell BK160.out 8).trans rfl, (blk_cell BK160.out 9).trans rfl⟩ (fun hHeld => ?_)
                      clear hK K
                      refine norm_ (a' := ?_) ?_ ?_
                      rotate_left
                      · show Act.put _ (some 108) _ = _
                        simp only [Act.put, List.setIfInBounds_toArray, List.set_cons_zero, List.set_cons_succ, i64_w, i32_w]
                        rfl
                      exact norm_ (by simp only [putAll, Act.put, List.setIfInBounds_toArray, List.set_cons_zero, List.set_cons_succ]) (hCont (v214, v217) _ ⟨hHeld, (by (with_reducible repeat (first | apply Kd.R_alloc | apply Kd.R_drewN | apply Kd.R_drew)); exact Kd.R_mono HO209.out (fun _ hk => ⟨hk.1.2, hk.2⟩)), (by (with_reducible repeat (first | apply Kd.R_alloc | apply Kd.R_drewN | apply Kd.R_drew)); exact HO215.out), (by (with_reducible repeat (first | apply Kd.R_alloc | apply Kd.R_drewN | apply Kd.R_drew)); exact Kd.R_mono HO218.out (fun _ hk => ⟨hk.1.2, hk.2⟩)), (by (with_reducible repeat (first | refine blk_drewN ?_ _ | refine blk_drew ?_ | refine blk_alloc ?_ _)); exact BK160.out), (by repeat (first | (with_reducible first | exact HB.out | apply below_alloc | apply pw_below_drewN | apply below_drew1 | refine below_set ?_ GE160.out) | exact HB.out))⟩)
                    · skip
                      refine Kd.R_lit_step (Kd.int .i64) _ 3 ?hg (N := 108) ?hd (xs := ([(l0_6.length : Int)] : List Int)) (inner := [.int .i64 (l0_6.length : Int)]) (ok := fun _ => True) (okp := fun _ => True) ?hr ?hp (fun _ hk => hk) trivial (Below.refl _ _) (Nat.le_refl _) (by simp) ?_; (case hd => rfl); (case hg => rfl); (case hr => first | (go_simp; done) | (go_simp; rfl)); (case hp => exact (Reps.one (show Kd.M (Kd.int .i64) _ _ _ (l0_6.length : Int) [.int .i64 (l0_6.length : Int)] from rfl) (Reps.none _ _)))
                      intro v217 w76 ho77 hb hg_ hnew_
                      clear hg_ hnew_
                      (first | rw [← Ny216.out] at ho77 | (simp only [Int.reduceToNat] at ho77; rw [← Ny216.out] at ho77))
                      have n0_ := Aside0.mk (Kd.R_elder' (by (with_reducible repeat (first | apply Kd.R_alloc | apply Kd.R_drewN | apply Kd.R_drew)); exact HO209.out) (Kd.R_base ho77) hb)
                      have n1_ := Aside0.mk (Kd.R_elder' (by (with_reducible repeat (first | apply Kd.R_alloc | apply Kd.R_drewN | apply Kd.R_drew)); exact HO212.out) (Kd.R_base ho77) hb)
                      have n2_ := Aside0.mk (Kd.R_lower (Kd.R_new' (Kd.R_new' ho77 (Kd.R_lt (by (with_reducible repeat (first | apply Kd.R_alloc | apply Kd.R_drewN | apply Kd.R_drew)); exact HO209.out))) (Kd.R_lt (by (with_reducible repeat (first | apply Kd.R_alloc | apply Kd.R_drewN | apply Kd.R_drew)); exact HO212.out))) (below_size (by repeat (first | (with_reducible first | exact HB.out | apply below_alloc | apply pw_below_drewN | apply below_drew1 | refine below_set ?_ GE160.out) | exact HB.out))))
                      have n3_ := Aside0.mk (blk_below (g := gb160) (o := .cells #[.int .i64 a0_0, .int .i64 a0_1, .int .i64 a0_2, .int .i64 a0_3, .int .i64 a0_4, .slice A0_5 l0_5.length c0_5, .slice A0_6 l0_6.length c0_6, .int .i64 a0_7, .slice A0_8 l0_8.length c0_8, .slice A0_9 l0_9.length c0_9] 30 (0, 0)) (by (with_reducible repeat (first | refine blk_drewN ?_ _ | refine blk_drew ?_ | refine blk_alloc ?_ _)); exact BK160.out) hb)
                      have n4_ := Aside0.mk (below_step (by repeat (first | (with_reducible first | exact HB.out | apply below_alloc | apply pw_below_drewN | apply below_drew1 | refine below_set ?_ GE160.out) | exact HB.out)) hb)
                      clear HO209
                      clear HO212
                      clear BK160
                      clear HB
                      have HO209 := n0_
                      have HO212 := n1_
                      have HO218 := n2_
                      have BK160 := n3_
                      have HB := n4_
                      clear n0_ n1_ n2_ n3_ n4_
                      clear hb ho77
                      refine hK.out _ _ ⟨(blk_cell BK160.out 0).trans rfl, (blk_cell BK160.out 1).trans rfl, (blk_cell BK160.out 2).trans rfl, (blk_cell BK160.out 3).trans rfl, (blk_cell BK160.out 4).trans rfl, (blk_cell BK160.out 5).trans rfl, (blk_cell BK160.out 6).trans rfl, (blk_cell BK160.out 7).trans rfl, (blk_cell BK160.out 8).trans rfl, (blk_cell BK160.out 9).trans rfl⟩ (fun hHeld => ?_)
                      clear hK K
                      refine norm_ (a' := ?_) ?_ ?_
                      rotate_left
                      · show Act.put _ (some 108) _ = _
                        simp only [Act.put, List.setIfInBounds_toArray, List.set_cons_zero, List.set_cons_succ, i64_w, i32_w]
                        rfl
                      refine one_ (i := 3) (N := some 104) #[true, true, true, true, true, true, true, true, false, false] rfl rfl (one_of HT_.out (by kernel_rfl)) (by decide) (fun K hK => ?_)
                      refine Kd.R_append_rows_step (Kd.int .i64) (w0 := w) w.heap.size (by rfl) (.tmp 101) (.tmp 103) 25 3 (.int .i64 0) 8 rfl Try.underlying25 info3 rfl (by decide) (by omega) (.slice Ao74 y210.length co74) y210 l0_5 _ _ _ (fun k_ => some k_ ≠ (.slice Ao73 y207.length co73 : Value).ownBlock ∧ some k_ ≠ (v217 : Value).ownBlock) (fun _ => False) rfl rfl ?aO ?aR (fun _ _ h => h) (fun _ h => h.elim) ?aF ?aB ?aS ?aL ?_
                      (case aR => repeat (first | exact (Kd.C_below HR0_5.out HB.out) | (with_reducible refine Kd.C_alloc ?_ _) | (with_reducible refine Kd.C_drewN ?_ _) | (with_reducible refine Kd.C_drew ?_)))
                      (case aB => exact (by repeat (first | (with_reducible first | exact HB.out | apply below_alloc | apply pw_below_drewN | apply below_drew1 | refine below_set ?_ GE160.out) | exact HB.out)))
                      (case aF => exact (fun k_ hk => ⟨Kd.fresh' (Kd.R_lt (by (with_reducible repeat (first | apply Kd.R_alloc | apply Kd.R_drewN | apply Kd.R_drew)); exact HO209.out)) k_ hk, Kd.fresh' (Kd.R_lt (by (with_reducible repeat (first | apply Kd.R_alloc | apply Kd.R_drewN | apply Kd.R_drew)); exact HO218.out)) k_ hk⟩))
                      (case aO => exact (by (with_reducible repeat (first | apply Kd.R_alloc | apply Kd.R_drewN | apply Kd.R_drew)); exact HO212.out))
                      (case aS => exact (below_size (by repeat (first | (with_reducible first | exact HB.out | apply below_alloc | apply pw_below_drewN | apply below_drew1 | refine below_set ?_ GE160.out) | exact HB.out))))
                      (case aL => have := LMc67.out; omega)
                      intro v214 w78 ho hb hg hat
                      rw [← Ny213.out] at ho
                      have n0_ := Aside0.mk (blk_grown (g := gb160) (o := .cells #[.int .i64 a0_0, .int .i64 a0_1, .int .i64 a0_2, .int .i64 a0_3, .int .i64 a0_4, .slice A0_5 l0_5.length c0_5, .slice A0_6 l0_6.length c0_6, .int .i64 a0_7, .slice A0_8 l0_8.length c0_8, .slice A0_9 l0_9.length c0_9] 30 (0, 0)) (by (with_reducible repeat (first | refine blk_drewN ?_ _ | refine blk_drew ?_ | refine blk_alloc ?_ _)); exact BK160.out) hg (Kd.R_ne HO212.out BK160.out (by decide)))
                      have n1_ := Aside0.mk (Kd.R_after (ok := (fun k_ => some k_ ≠ (v217 : Value).ownBlock)) (by (with_reducible repeat (first | apply Kd.R_alloc | apply Kd.R_drewN | apply Kd.R_drew)); exact Kd.R_mono HO209.out (fun _ hk => ⟨hk.2, hk.1.2⟩)) hg hat)
                      have n2_ := Aside0.mk (Kd.R_after (ok := (fun k_ => some k_ ≠ (.slice Ao73 y207.length co73 : Value).ownBlock)) (by (with_reducible repeat (first | apply Kd.R_alloc | apply Kd.R_drewN | apply Kd.R_drew)); exact Kd.R_mono HO218.out (fun _ hk => ⟨hk.1.2, hk.2⟩)) hg hat)
                      have n3_ := Aside0.mk (hb)
                      have n4_ := Aside0.mk (ho)
                      clear BK160
                      clear HO209
                      clear HO218
                      clear HB
                      clear HO212
                      have BK160 := n0_
                      have HO209 := n1_
                      have HO218 := n2_
                      have HB := n3_
                      have HO215 := n4_
                      clear n0_ n1_ n2_ n3_ n4_
                      clear ho hb hg hat
                      refine hK.out _ _ ⟨(blk_cell BK160.out 0).trans rfl, (blk_cell BK160.out 1).trans rfl, (blk_cell BK160.out 2).trans rfl, (blk_cell BK160.out 3).trans rfl, (blk_cell BK160.out 4).trans rfl, (blk_cell BK160.out 5).trans rfl, (blk_cell BK160.out 6).trans rfl, (blk_cell BK160.out 7).trans rfl, (blk_cell BK160.out 8).trans rfl, (blk_cell BK160.out 9).trans rfl⟩ (fun hHeld => ?_)
                      clear hK K
                      refine norm_ (a' := ?_) ?_ ?_
                      rotate_left
                      · show Act.put _ (some 104) _ = _
                        simp only [Act.put, List.setIfInBounds_toArray, List.set_cons_zero, List.set_cons_succ, i64_w, i32_w]
                        rfl
                      exact norm_ (by simp only [putAll, Act.put, List.setIfInBounds_toArray, List.set_cons_zero, List.set_cons_succ]) (hCont (v214, v217) _ ⟨hHeld, (by (with_reducible repeat (first | apply Kd.R_alloc | apply Kd.R_drewN | apply Kd.R_drew)); exact Kd.R_mono HO209.out (fun _ hk => ⟨hk.2, hk.1⟩)), (by (with_reducible repeat (first | apply Kd.R_alloc | apply Kd.R_drewN | apply Kd.R_drew)); exact HO215.out), (by (with_reducible repeat (first | apply Kd.R_alloc | apply Kd.R_drewN | apply Kd.R_drew)); exact HO218.out), (by (with_reducible repeat (first | refine blk_drewN ?_ _ | refine blk_drew ?_ | refine blk_alloc ?_ _)); exact BK160.out), (by repeat (first | (with_reducible first | exact HB.out | apply below_alloc | apply pw_below_drewN | apply below_drew1 | refine below_set ?_ GE160.out) | exact HB.out))⟩)
                  rintro ⟨v214, v217⟩ w79 ⟨hS_, h0_, h1_, h2_, h3_, h4_⟩
                  have n0_ : Aside0 (Kd.R (Kd.int .i64) 3 w79 w.heap.size (fun k_ => some k_ ≠ (v214 : Value).ownBlock ∧ some k_ ≠ (v217 : Value).ownBlock) (.slice Ao73 y207.length co73) y207) := ⟨h0_⟩
                  have n1_ : Aside0 (Kd.R (Kd.int .i64) 3 w79 w.heap.size (fun k_ => some k_ ≠ (.slice Ao73 y207.length co73 : Value).ownBlock ∧ some k_ ≠ (v217 : Value).ownBlock) v214 y213) := ⟨h1_⟩
                  have n2_ : Aside0 (Kd.R (Kd.int .i64) 3 w79 w.heap.size (fun k_ => some k_ ≠ (.slice Ao73 y207.length co73 : Value).ownBlock ∧ some k_ ≠ (v214 : Value).ownBlock) v217 y216) := ⟨h2_⟩
                  have n3_ : Aside0 (w79.heap[gb160]? = some (.cells #[.int .i64 a0_0, .int .i64 a0_1, .int .i64 a0_2, .int .i64 a0_3, .int .i64 a0_4, .slice A0_5 l0_5.length c0_5, .slice A0_6 l0_6.length c0_6, .int .i64 a0_7, .slice A0_8 l0_8.length c0_8, .slice A0_9 l0_9.length c0_9] 30 (0, 0))) := ⟨h3_⟩
                  have n4_ : Aside0 (Below w.heap.size w w79) := ⟨h4_⟩
                  clear HO209
                  clear HO212
                  clear BK160
                  clear HB
                  clear h0_ h1_ h2_ h3_ h4_
                  have HO209 := n0_
                  have HO215 := n1_
                  have HO218 := n2_
                  have BK160 := n3_
                  have HB := n4_
                  clear n0_ n1_ n2_ n3_ n4_
                  have hHeld : w79.cell? ⟨gb160, 0, none⟩ = some (.int .i64 a0_0) ∧ w79.cell? ⟨gb160, 1, none⟩ = some (.int .i64 a0_1) ∧ w79.cell? ⟨gb160, 2, none⟩ = some (.int .i64 a0_2) ∧ w79.cell? ⟨gb160, 3, none⟩ = some (.int .i64 a0_3) ∧ w79.cell? ⟨gb160, 4, none⟩ = some (.int .i64 a0_4) ∧ w79.cell? ⟨gb160, 5, none⟩ = some (.slice A0_5 l0_5.length c0_5) ∧ w79.cell? ⟨gb160, 6, none⟩ = some (.slice A0_6 l0_6.length c0_6) ∧ w79.cell? ⟨gb160, 7, none⟩ = some (.int .i64 a0_7) ∧ w79.cell? ⟨gb160, 8, none⟩ = some (.slice A0_8 l0_8.length c0_8) ∧ w79.cell? ⟨gb160, 9, none⟩ = some (.slice A0_9 l0_9.length c0_9) := hS_
                  obtain ⟨Ao81, co81, eo81⟩ := Kd.R_slice HO218.out
                  (first | subst eo81 | (injection eo81 with f1_ f2_ f3_; have f4_ := f1_.symm; have f5_ := f3_.symm; clear f1_ f2_ f3_; subst f4_; subst f5_))
                  refine norm_ (a' := ?_) ?_ ?_
                  rotate_left
                  · simp only [putAll, Act.put, List.setIfInBounds_toArray, List.set_cons_zero, List.set_cons_succ]
                    rfl
                  refine one_ (i := 8) (N := some 109) #[true, true, true, true, true, true, true, true, true, false] rfl rfl (one_of HT_.out (by kernel_rfl)) (by decide) (fun K hK => ?_)
                  refine Kd.R_append_rows_step (Kd.int .i64) (w0 := w) w.heap.size (by rfl) (.tmp 104) (.tmp 108) 25 3 (.int .i64 0) 8 rfl Try.underlying25 info3 rfl (by decide) (by omega) v214 y213 y216 _ _ _ (fun k_ => some k_ ≠ (.slice Ao73 y207.length co73 : Value).ownBlock ∧ some k_ ≠ (.slice Ao81 y216.length co81 : Value).ownBlock) (fun _ => False) rfl rfl ?aO ?aR (fun _ _ h => h) (fun _ h => h.elim) ?aF ?aB ?aS ?aL ?_
                  (case aR => repeat (first | exact (Kd.R_reads' HO218.out).2.2 | (with_reducible refine Kd.C_alloc ?_ _) | (with_reducible refine Kd.C_drewN ?_ _) | (with_reducible refine Kd.C_drew ?_)))
                  (case aB => exact (by repeat (first | (with_reducible first | exact HB.out | apply below_alloc | apply pw_below_drewN | apply below_drew1 | refine below_set ?_ GE160.out) | exact HB.out)))
                  (case aF => exact (fun k_ hk => ⟨Kd.fresh' (Kd.R_lt (by (with_reducible repeat (first | apply Kd.R_alloc | apply Kd.R_drewN | apply Kd.R_drew)); exact HO209.out)) k_ hk, Kd.fresh' (Kd.R_lt (by (with_reducible repeat (first | apply Kd.R_alloc | apply Kd.R_drewN | apply Kd.R_drew)); exact HO218.out)) k_ hk⟩))
                  (case aO => exact (by (with_reducible repeat (first | apply Kd.R_alloc | apply Kd.R_drewN | apply Kd.R_drew)); exact HO215.out))
                  (case aS => exact (below_size (by repeat (first | (with_reducible first | exact HB.out | apply below_alloc | apply pw_below_drewN | apply below_drew1 | refine below_set ?_ GE160.out) | exact HB.out))))
                  (case aL => have := LMc68.out; omega)
                  intro v220 w80 ho hb hg hat
                  rw [← Ny219.out] at ho
                  have n0_ := Aside0.mk (blk_grown (g := gb160) (o := .cells #[.int .i64 a0_0, .int .i64 a0_1, .int .i64 a0_2, .int .i64 a0_3, .int .i64 a0_4, .slice A0_5 l0_5.length c0_5, .slice A0_6 l0_6.length c0_6, .int .i64 a0_7, .slice A0_8 l0_8.length c0_8, .slice A0_9 l0_9.length c0_9] 30 (0, 0)) (by (with_reducible repeat (first | refine blk_drewN ?_ _ | refine blk_drew ?_ | refine blk_alloc ?_ _)); exact BK160.out) hg (Kd.R_ne HO215.out BK160.out (by decide)))
                  have n1_ := Aside0.mk (Kd.R_after (ok := (fun k_ => some k_ ≠ (.slice Ao81 y216.length co81 : Value).ownBlock)) (by (with_reducible repeat (first | apply Kd.R_alloc | apply Kd.R_drewN | apply Kd.R_drew)); exact Kd.R_mono HO209.out (fun _ hk => ⟨hk.2, hk.1⟩)) hg hat)
                  have n2_ := Aside0.mk (Kd.R_after (ok := (fun k_ => some k_ ≠ (.slice Ao73 y207.length co73 : Value).ownBlock)) (by (with_reducible repeat (first | apply Kd.R_alloc | apply Kd.R_drewN | apply Kd.R_drew)); exact HO218.out) hg hat)
                  have n3_ := Aside0.mk (hb)
                  have n4_ := Aside0.mk (ho)
                  clear BK160
                  clear HO209
                  clear HO218
                  clear HB
                  clear HO215
                  have BK160 := n0_
                  have HO209 := n1_
                  have HO218 := n2_
                  have HB := n3_
                  have HO221 := n4_
                  clear n0_ n1_ n2_ n3_ n4_
                  clear ho hb hg hat
                  refine hK.out _ _ ⟨(blk_cell BK160.out 0).trans rfl, (blk_cell BK160.out 1).trans rfl, (blk_cell BK160.out 2).trans rfl, (blk_cell BK160.out 3).trans rfl, (blk_cell BK160.out 4).trans rfl, (blk_cell BK160.out 5).trans rfl, (blk_cell BK160.out 6).trans rfl, (blk_cell BK160.out 7).trans rfl, (blk_cell BK160.out 8).trans rfl, (blk_cell BK160.out 9).trans rfl⟩ (fun hHeld => ?_)
                  clear hK K
                  refine norm_ (a' := ?_) ?_ ?_
                  rotate_left
                  · show Act.put _ (some 109) _ = _
                    simp only [Act.put, List.setIfInBounds_toArray, List.set_cons_zero, List.set_cons_succ, i64_w, i32_w]
                    rfl
                  refine pure_ (i := 9) (N := some 3) (v := ?_) (a' := ?_) #[true, true, true, true, true, true, true, true, true, true] rfl rfl (any_of HT_.out (by kernel_rfl)) (fun _ _ _ h => h) (Or.inl ⟨by rfl, ?_⟩) ?_ ?_
                  rotate_left
                  · intro w'
                    go_simp
                    with_reducible rfl
                  rotate_left
                  · simp only [Act.put, List.setIfInBounds_toArray, List.set_cons_zero, List.set_cons_succ, i64_w, i32_w]
                    rfl
                  refine done_ (done_of HT_.out (by kernel_rfl)) ?_
                  have hcz82_0 : w80.cell? ⟨gb160, 0, none⟩ = some (.int .i64 a0_0) := (blk_cell BK160.out 0).trans rfl
                  have hcz82_1 : w80.cell? ⟨gb160, 1, none⟩ = some (.int .i64 a0_1) := (blk_cell BK160.out 1).trans rfl
                  have hcz82_2 : w80.cell? ⟨gb160, 2, none⟩ = some (.int .i64 a0_2) := (blk_cell BK160.out 2).trans rfl
                  have hcz82_3 : w80.cell? ⟨gb160, 3, none⟩ = some (.int .i64 a0_3) := (blk_cell BK160.out 3).trans rfl
                  have hcz82_4 : w80.cell? ⟨gb160, 4, none⟩ = some (.int .i64 a0_4) := (blk_cell BK160.out 4).trans rfl
                  have hcz82_5 : w80.cell? ⟨gb160, 5, none⟩ = some (.slice A0_5 l0_5.length c0_5) := (blk_cell BK160.out 5).trans rfl
                  have hcz82_6 : w80.cell? ⟨gb160, 6, none⟩ = some (.slice A0_6 l0_6.length c0_6) := (blk_cell BK160.out 6).trans rfl
                  have hcz82_7 : w80.cell? ⟨gb160, 7, none⟩ = some (.int .i64 a0_7) := (blk_cell BK160.out 7).trans rfl
                  have hcz82_8 : w80.cell? ⟨gb160, 8, none⟩ = some (.slice A0_8 l0_8.length c0_8) := (blk_cell BK160.out 8).trans rfl
                  have hcz82_9 : w80.cell? ⟨gb160, 9, none⟩ = some (.slice A0_9 l0_9.length c0_9) := (blk_cell BK160.out 9).trans rfl
                  have hfz82_0 := blk_frozen BK160.out 0
                  have hfz82_1 := blk_frozen BK160.out 1
                  have hfz82_2 := blk_frozen BK160.out 2
                  have hfz82_3 := blk_frozen BK160.out 3
                  have hfz82_4 := blk_frozen BK160.out 4
                  have hfz82_5 := blk_frozen BK160.out 5
                  have hfz82_6 := blk_frozen BK160.out 6
                  have hfz82_7 := blk_frozen BK160.out 7
                  have hfz82_8 := blk_frozen BK160.out 8
                  have hfz82_9 := blk_frozen BK160.out 9
                  try go_wp2
                  go_loopg [3, 113] kj60 (fun kq v3 v113 w' => ∃ (x3_3 : List Int) (x113_3 : Int), v113 = .int .i64 x113_3 ∧ Aside0 (record_write.l2 kq x3_3 l0_6 (l0_6.length : Int) x113_3 = some r) ∧ Aside0 (kq ≤ kj60) ∧ Aside0 (Kd.R (Kd.int .i64) 3 w' w.heap.size (fun _ => True) v3 x3_3) ∧ Aside0 (w'.heap[gb160]? = some (.cells #[.int .i64 a0_0, .int .i64 a0_1, .int .i64 a0_2, .int .i64 a0_3, .int .i64 a0_4, (.slice A0_5 l0_5.length c0_5), (.slice A0_6 l0_6.length c0_6), .int .i64 a0_7, (.slice A0_8 l0_8.length c0_8), (.slice A0_9 l0_9.length c0_9)] 30 (0, 0))) ∧ Aside0 (Below w.heap.size w w'))
                  case atStart => exact ⟨(y219), (0), (by first | rfl | (simp; done) | (simp [*]; done)), H', ⟨Nat.le_refl _⟩, ⟨by (with_reducible repeat (first | apply Kd.R_alloc | apply Kd.R_drewN | apply Kd.R_drew)); exact Kd.R_mono HO221.out (fun _ hk => trivial)⟩, ⟨by (with_reducible repeat (first | refine blk_drewN ?_ _ | refine blk_drew ?_ | refine blk_alloc ?_ _)); exact BK160.out⟩, ⟨by repeat (first | (with_reducible first | exact HB.out | apply below_alloc | apply pw_below_drewN | apply below_drew1 | refine below_set ?_ GE160.out) | exact HB.out)⟩⟩
                  case round =>
                    clear H'
                    try clear p1
                    try clear q1
                    try clear hx1
                    try clear c2
                    try clear p2
                    try clear c3
                    try clear c4
                    try clear c5
                    try clear c6
                    try clear p6
                    try clear p17
                    try clear q17
                    try clear hx17
                    try clear p18
                    try clear q18
                    try clear hx18
                    try clear c27
                    try clear c30
                    try clear c34
                    try clear c34b0
                    try clear c35
                    try clear c35b0
                    try clear c36
                    try clear c36b0
                    try clear c37
                    try clear c39
                    try clear c43
                    try clear c48
                    try clear c48b0
                    try clear c48b1
                    try clear c49
                    try clear c55
                    try clear c62
                    try clear c62b0
                    try clear c62b1
                    try clear p64
                    try clear c65
                    try clear c66
                    try clear c67
                    try clear c68
                    try clear hcz10_0
                    try clear hcz10_1
                    try clear hcz10_2
                    try clear hcz10_3
                    try clear hcz10_4
                    try clear hcz10_5
                    try clear hcz10_6
                    try clear hcz10_7
                    try clear hcz10_8
                    try clear hcz10_9
                    try clear hcz15_0
                    try clear hcz15_1
                    try clear hcz15_2
                    try clear hcz15_3
                    try clear hcz15_4
                    try clear hcz15_5
                    try clear hcz15_6
                    try clear hcz15_7
                    try clear hcz15_8
                    try clear hcz15_9
                    try clear hcz22_0
                    try clear hcz22_1
                    try clear hcz28_0
                    try clear hcz28_1
                    try clear hcz28_2
                    try clear hcz28_3
                    try clear hcz28_4
                    try clear hcz28_5
                    try clear hcz28_6
                    try clear hcz28_7
                    try clear hcz28_8
                    try clear hcz28_9
                    try clear hcz33_0
                    try clear hcz33_1
                    try clear hcz33_2
                    try clear hcz33_3
                    try clear hcz33_4
                    try clear hcz33_5
                    try clear hcz33_6
                    try clear hcz33_7
                    try clear hcz33_8
                    try clear hcz33_9
                    try clear hcz40_0
                    try clear hcz40_1
                    try clear hcz40_2
                    try clear hcz40_3
                    try clear hcz4_0
                    try clear hcz4_1
                    try clear hcz4_2
                    try clear hcz4_3
                    try clear hcz4_4
                    try clear hcz4_5
                    try clear hcz4_6
                    try clear hcz4_7
                    try clear hcz4_8
                    try clear hcz4_9
                    try clear hcz50_0
                    try clear hcz50_1
                    try clear hcz50_2
                    try clear hcz50_3
                    try clear hcz50_4
                    try clear hcz50_5
                    try clear hcz50_6
                    try clear hcz50_7
                    try clear hcz50_8
                    try clear hcz50_9
                    try clear hcz56_0
                    try clear hcz56_1
                    try clear hcz56_2
                    try clear hcz56_3
                    try clear hcz56_4
                    try clear hcz56_5
                    try clear hcz56_6
                    try clear hcz56_7
                    try clear hcz56_8
                    try clear hcz56_9
                    try clear hcz63_0
                    try clear hcz63_1
                    try clear hcz63_2
                    try clear hcz63_3
                    try clear hcz63_4
                    try clear hcz63_5
                    try clear hcz63_6
                    try clear hcz63_7
                    try clear hcz63_8
                    try clear hcz63_9
                    try clear hcz64_0
                    try clear hcz64_1
                    try clear hcz64_2
                    try clear hcz64_3
                    try clear hcz64_4
                    try clear hcz64_5
                    try clear hcz64_6
                    try clear hcz64_7
                    try clear hcz64_8
                    try clear hcz64_9
                    try clear hcz69_0
                    try clear hcz69_1
                    try clear hcz69_2
                    try clear hcz69_3
                    try clear hcz69_4
                    try clear hcz69_5
                    try clear hcz69_6
                    try clear hcz69_7
                    try clear hcz69_8
                    try clear hcz69_9
                    try clear hcz7_0
                    try clear hcz7_1
                    try clear hcz7_2
                    try clear hcz7_3
                    try clear hcz7_4
                    try clear hcz7_5
                    try clear hcz7_6
                    try clear hcz7_7
                    try clear hcz7_8
                    try clear hcz7_9
                    try clear hcz82_0
                    try clear hcz82_1
                    try clear hcz82_2
                    try clear hcz82_3
                    try clear hcz82_4
                    try clear hcz82_5
                    try clear hcz82_6
                    try clear hcz82_7
                    try clear hcz82_8
                    try clear hcz82_9
                    try clear hfz10_0
                    try clear hfz10_1
                    try clear hfz10_2
                    try clear hfz10_3
                    try clear hfz10_4
                    try clear hfz10_5
                    try clear hfz10_6
                    try clear hfz10_7
                    try clear hfz10_8
                    try clear hfz10_9
                    try clear hfz15_0
                    try clear hfz15_1
                    try clear hfz15_2
                    try clear hfz15_3
                    try clear hfz15_4
                    try clear hfz15_5
                    try clear hfz15_6
                    try clear hfz15_7
                    try clear hfz15_8
                    try clear hfz15_9
                    try clear hfz22_0
                    try clear hfz22_1
                    try clear hfz28_0
                    try clear hfz28_1
                    try clear hfz28_2
                    try clear hfz28_3
                    try clear hfz28_4
                    try clear hfz28_5
                    try clear hfz28_6
                    try clear hfz28_7
                    try clear hfz28_8
                    try clear hfz28_9
                    try clear hfz33_0
                    try clear hfz33_1
                    try clear hfz33_2
                    try clear hfz33_3
                    try clear hfz33_4
                    try clear hfz33_5
                    try clear hfz33_6
                    try clear hfz33_7
                    try clear hfz33_8
                    try clear hfz33_9
                    try clear hfz40_0
                    try clear hfz40_1
                    try clear hfz40_2
                    try clear hfz40_3
                    try clear hfz4_0
                    try clear hfz4_1
                    try clear hfz4_2
                    try clear hfz4_3
                    try clear hfz4_4
                    try clear hfz4_5
                    try clear hfz4_6
                    try clear hfz4_7
                    try clear hfz4_8
                    try clear hfz4_9
                    try clear hfz50_0
                    try clear hfz50_1
                    try clear hfz50_2
                    try clear hfz50_3
                    try clear hfz50_4
                    try clear hfz50_5
                    try clear hfz50_6
                    try clear hfz50_7
                    try clear hfz50_8
                    try clear hfz50_9
                    try clear hfz56_0
                    try clear hfz56_1
                    try clear hfz56_2
                    try clear hfz56_3
                    try clear hfz56_4
                    try clear hfz56_5
                    try clear hfz56_6
                    try clear hfz56_7
                    try clear hfz56_8
                    try clear hfz56_9
                    try clear hfz63_0
                    try clear hfz63_1
                    try clear hfz63_2
                    try clear hfz63_3
                    try clear hfz63_4
                    try clear hfz63_5
                    try clear hfz63_6
                    try clear hfz63_7
                    try clear hfz63_8
                    try clear hfz63_9
                    try clear hfz64_0
                    try clear hfz64_1
                    try clear hfz64_2
                    try clear hfz64_3
                    try clear hfz64_4
                    try clear hfz64_5
                    try clear hfz64_6
                    try clear hfz64_7
                    try clear hfz64_8
                    try clear hfz64_9
                    try clear hfz69_0
                    try clear hfz69_1
                    try clear hfz69_2
                    try clear hfz69_3
                    try clear hfz69_4
                    try clear hfz69_5
                    try clear hfz69_6
                    try clear hfz69_7
                    try clear hfz69_8
                    try clear hfz69_9
                    try clear hfz7_0
                    try clear hfz7_1
                    try clear hfz7_2
                    try clear hfz7_3
                    try clear hfz7_4
                    try clear hfz7_5
                    try clear hfz7_6
                    try clear hfz7_7
                    try clear hfz7_8
                    try clear hfz7_9
                    try clear hfz82_0
                    try clear hfz82_1
                    try clear hfz82_2
                    try clear hfz82_3
                    try clear hfz82_4
                    try clear hfz82_5
                    try clear hfz82_6
                    try clear hfz82_7
                    try clear hfz82_8
                    try clear hfz82_9
                    try clear hx170_0
                    try clear hx170_1
                    try clear hx184_0
                    try clear hx184_1
                    try clear hx184_2
                    try clear hx184_3
                    try clear p1
                    try clear p17
                    try clear p170
                    try clear p18
                    try clear p184
                    try clear p2
                    try clear p6
                    try clear p64
                    try clear q1
                    try clear q17
                    try clear q170
                    try clear q18
                    try clear q184
                    obtain ⟨x3_3, x113_3, rfl, HA, HK3, HO_3, BK160, HB⟩ := hrel
                    cases gk with
                    | zero => exact absurd HA.out (by simp [record_write.l2])
                    | succ k3 =>
                      have H := HA.out
                      clear HA
                      simp only [record_write.l2] at H
                      by_cases c83 : x113_3 < (l0_6.length : Int)
                      · rw [if_pos c83] at H
                        have c83b0 : decide (x113_3 < (l0_6.length : Int)) = true := decide_eq_true c83
                        clear c83
                        by_cases c84 : 0 ≤ x113_3
                        · rw [if_pos c84] at H
                          have c84b0 : decide (0 ≤ x113_3) = true := decide_eq_true c84
                          clear c84
                          by_cases c85 : x113_3 < (l0_6.length : Int)
                          · rw [if_pos c85] at H
                            have c85b0 : decide (x113_3 < (l0_6.length : Int)) = true := decide_eq_true c85
                            clear c85
                            obtain ⟨y224, hy224⟩ : ∃ y_ : List Int, y_ = (([(rd_T52 l0_6 x113_3).f0, (rd_T52 l0_6 x113_3).f1] : List Int)) := ⟨_, rfl⟩
                            replace H : (if x3_3.length + y224.length < 17592186044416 then (record_write.l2 k3 (x3_3 ++ y224) l0_6 (l0_6.length : Int) (wrap64 (x113_3 + 1))) else (none)) = some r := by first | (rw [hy224]; with_reducible exact H) | (have H2_ := (Option.bind_some _ _).symm.trans H; rw [hy224]; with_reducible exact H2_) | (have H2_ := (Option.bind_some _ _).symm.trans H; with_reducible exact H2_) | with_reducible exact H | (rw [hy224]; exact H) | exact H
                            have Ny224 := Aside0.mk hy224
                            clear hy224
                            by_cases c86 : x3_3.length + y224.length < 17592186044416
                            · rw [if_pos c86] at H
                              have LMc86 := Aside0.mk c86
                              clear c86
                              obtain ⟨y227, hy227⟩ : ∃ y_ : List Int, y_ = (x3_3 ++ y224) := ⟨_, rfl⟩
                              replace H : (record_write.l2 k3 y227 l0_6 (l0_6.length : Int) (wrap64 (x113_3 + 1))) = some r := by first | (rw [hy227]; with_reducible exact H) | (have H2_ := (Option.bind_some _ _).symm.trans H; rw [hy227]; with_reducible exact H2_) | (have H2_ := (Option.bind_some _ _).symm.trans H; with_reducible exact H2_) | with_reducible exact H | (rw [hy227]; exact H) | exact H
                              have Ny227 := Aside0.mk hy227
                              clear hy227
                              have H' := Aside0.mk H
                              clear H
                              have p222 : 0 ≤ (x113_3 : Int) := of_decide_eq_true (by first | (with_reducible assumption) | assumption)
                              have q222 : x113_3 < (l0_6.length : Int) := of_decide_eq_true (by first | (with_reducible assumption) | assumption)
                              obtain ⟨ad222, e222, hx222_0, hx222_1⟩ := at_T52 HR0_6.out x113_3 p222 q222
                              cases e222
                              replace hx222_0 := (HB.out.cell (World.block_lt_of_cell? w _ hx222_0)).trans hx222_0
                              replace hx222_1 := (HB.out.cell (World.block_lt_of_cell? w _ hx222_1)).trans hx222_1
                              replace p222 := eq_true p222
                              replace q222 := eq_true q222
                              go_wp2_with (first | ((with_reducible refine gate_dst (N := 9) rfl ?_); refine box_event ?hg (N := 9) ?hd (cs := #[.int .i64 0, .int .i64 0]) (t := 52) ?hr ?_; (case hd => rfl); (case hg => rfl); (case hr => first | (go_simp; done) | (go_simp; rfl)); intro gb223 hg w87 hbox hb; have n0_ := Aside0.mk (Kd.R_below (by (with_reducible repeat (first | apply Kd.R_alloc | apply Kd.R_drewN | apply Kd.R_drew)); exact HO_3.out) hb); have n1_ := Aside0.mk (blk_below (g := gb160) (o := .cells #[.int .i64 a0_0, .int .i64 a0_1, .int .i64 a0_2, .int .i64 a0_3, .int .i64 a0_4, .slice A0_5 l0_5.length c0_5, .slice (some ad222) l0_6.length c0_6, .int .i64 a0_7, .slice A0_8 l0_8.length c0_8, .slice A0_9 l0_9.length c0_9] 30 (0, 0)) (by (with_reducible repeat (first | refine blk_drewN ?_ _ | refine blk_drew ?_ | refine blk_alloc ?_ _)); exact BK160.out) hb); have n2_ := Aside0.mk (below_step (by repeat (first | (with_reducible first | exact HB.out | apply below_alloc | apply pw_below_drewN | apply below_drew1 | refine below_set ?_ GE160.out) | exact HB.out)) hb); have n3_ := Aside0.mk (hbox); have n4_ := Aside0.mk ((by rw [hg]; exact (below_size (by repeat (first | (with_reducible first | exact HB.out | apply below_alloc | apply pw_below_drewN | apply below_drew1 | refine below_set ?_ GE160.out) | exact HB.out))) : w.heap.size ≤ gb223)); have n5_ := Aside0.mk ((by rw [hg]; exact (below_size (by repeat (first | (with_reducible first | exact HB.out | apply below_alloc | apply pw_below_drewN | apply below_drew1 | refine below_set ?_ GE160.out) | exact HB.out))) : w.heap.size ≤ gb223)); have n6_ := Aside0.mk ((by rw [hg]; exact Nat.ne_of_lt (blk_lt (g := gb160) (o := .cells #[.int .i64 a0_0, .int .i64 a0_1, .int .i64 a0_2, .int .i64 a0_3, .int .i64 a0_4, .slice A0_5 l0_5.length c0_5, .slice (some ad222) l0_6.length c0_6, .int .i64 a0_7, .slice A0_8 l0_8.length c0_8, .slice A0_9 l0_9.length c0_9] 30 (0, 0)) (by (with_reducible repeat (first | refine blk_drewN ?_ _ | refine blk_drew ?_ | refine blk_alloc ?_ _)); exact BK160.out)) : gb160 ≠ gb223)); have n7_ := Aside0.mk ((by rw [hg]; exact Nat.ne_of_gt (blk_lt (g := gb160) (o := .cells #[.int .i64 a0_0, .int .i64 a0_1, .int .i64 a0_2, .int .i64 a0_3, .int .i64 a0_4, .slice A0_5 l0_5.length c0_5, .slice (some ad222) l0_6.length c0_6, .int .i64 a0_7, .slice A0_8 l0_8.length c0_8, .slice A0_9 l0_9.length c0_9] 30 (0, 0)) (by (with_reducible repeat (first | refine blk_drewN ?_ _ | refine blk_drew ?_ | refine blk_alloc ?_ _)); exact BK160.out)) : gb223 ≠ gb160)); clear HO_3; clear BK160; clear HB; have HO_3 := n0_; have BK160 := n1_; have HB := n2_; have BK223 := n3_; have GW223 := n4_; have GE223 := n5_; have NB160_223 := n6_; have NB223_160 := n7_; clear n0_ n1_ n2_ n3_ n4_ n5_ n6_ n7_; clear hb hbox hg; have hnb88 := NB223_160.out; have hnc88 := NB160_223.out; have hcz89_0 : w87.cell? ⟨gb223, 0, none⟩ = some (.int .i64 0) := (blk_cell BK223.out 0).trans rfl; have hcz89_1 : w87.cell? ⟨gb223, 1, none⟩ = some (.int .i64 0) := (blk_cell BK223.out 1).trans rfl; have hfz89_0 := blk_frozen BK223.out 0; have hfz89_1 := blk_frozen BK223.out 1) | ((with_reducible refine gate_dst (N := 122) rfl ?_); refine Kd.R_lit (Kd.int .i64) _ 3 ?hg (N := 122) ?hd (xs := ([(rd_T52 l0_6 x113_3).f0, (rd_T52 l0_6 x113_3).f1] : List Int)) (inner := [.int .i64 ((rd_T52 l0_6 x113_3).f0), .int .i64 ((rd_T52 l0_6 x113_3).f1)]) (ok := fun _ => True) (okp := fun _ => True) ?hr ?hp (fun _ hk => hk) trivial (Below.refl _ _) (Nat.le_refl _) (by simp) ?_; (case hd => rfl); (case hg => rfl); (case hr => first | (go_simp; done) | (go_simp; rfl)); (case hp => exact (Reps.one (show Kd.M (Kd.int .i64) _ _ _ ((rd_T52 l0_6 x113_3).f0) [.int .i64 ((rd_T52 l0_6 x113_3).f0)] from rfl) (Reps.one (show Kd.M (Kd.int .i64) _ _ _ ((rd_T52 l0_6 x113_3).f1) [.int .i64 ((rd_T52 l0_6 x113_3).f1)] from rfl) (Reps.none _ _)))); intro v225 w90 ho91 hb hg_ hnew_; clear hg_ hnew_; (first | rw [← Ny224.out] at ho91 | (simp only [Int.reduceToNat] at ho91; rw [← Ny224.out] at ho91)); have n0_ := Aside0.mk (Kd.R_elder' (by (with_reducible repeat (first | apply Kd.R_alloc | apply Kd.R_drewN | apply Kd.R_drew)); exact (Kd.R_mono (Kd.R_far (p := ⟨gb223, 1, none⟩) (Kd.R_far (p := ⟨gb223, 0, none⟩) (Kd.R_types HO_3.out BK223.out (by decide)) (fun _ hk => hk.2) (.int .i64 ((rd_T52 l0_6 x113_3).f0))) (fun _ hk => hk.2) (.int .i64 ((rd_T52 l0_6 x113_3).f1))) (fun _ h_ => h_.1))) (Kd.R_base ho91) hb); have n1_ := Aside0.mk (Kd.R_lower (Kd.R_new' ho91 (Kd.R_lt (by (with_reducible repeat (first | apply Kd.R_alloc | apply Kd.R_drewN | apply Kd.R_drew)); exact (Kd.R_mono (Kd.R_far (p := ⟨gb223, 1, none⟩) (Kd.R_far (p := ⟨gb223, 0, none⟩) (Kd.R_types HO_3.out BK223.out (by decide)) (fun _ hk => hk.2) (.int .i64 ((rd_T52 l0_6 x113_3).f0))) (fun _ hk => hk.2) (.int .i64 ((rd_T52 l0_6 x113_3).f1))) (fun _ h_ => h_.1))))) (below_size (by repeat (first | (with_reducible first | exact HB.out | apply below_alloc | apply pw_below_drewN | apply below_drew1 | refine below_set ?_ GE160.out | refine below_set ?_ GE223.out) | exact HB.out)))); have n2_ := Aside0.mk (blk_below (g := gb160) (o := .cells #[.int .i64 a0_0, .int .i64 a0_1, .int .i64 a0_2, .int .i64 a0_3, .int .i64 a0_4, .slice A0_5 l0_5.length c0_5, .slice (some ad222) l0_6.length c0_6, .int .i64 a0_7, .slice A0_8 l0_8.length c0_8, .slice A0_9 l0_9.length c0_9] 30 (0, 0)) (by (with_reducible repeat (first | refine blk_drewN ?_ _ | refine blk_drew ?_ | refine blk_alloc ?_ _)); refine blk_far ?_ NB160_223.out _; (with_reducible repeat (first | refine blk_drewN ?_ _ | refine blk_drew ?_ | refine blk_alloc ?_ _)); refine blk_far ?_ NB160_223.out _; (with_reducible repeat (first | refine blk_drewN ?_ _ | refine blk_drew ?_ | refine blk_alloc ?_ _)); exact BK160.out) hb); have n3_ := Aside0.mk (blk_below (g := gb223) (o := .cells #[.int .i64 ((rd_T52 l0_6 x113_3).f0), .int .i64 ((rd_T52 l0_6 x113_3).f1)] 52 (0, 0)) (by (with_reducible repeat (first | refine blk_drewN ?_ _ | refine blk_drew ?_ | refine blk_alloc ?_ _)); refine blk_put (cs := #[.int .i64 ((rd_T52 l0_6 x113_3).f0), .int .i64 0]) ?_ 1 _ rfl; (with_reducible repeat (first | refine blk_drewN ?_ _ | refine blk_drew ?_ | refine blk_alloc ?_ _)); refine blk_put (cs := #[.int .i64 0, .int .i64 0]) ?_ 0 _ rfl; (with_reducible repeat (first | refine blk_drewN ?_ _ | refine blk_drew ?_ | refine blk_alloc ?_ _)); exact BK223.out) hb); have n4_ := Aside0.mk (below_step (by repeat (first | (with_reducible first | exact HB.out | apply below_alloc | apply pw_below_drewN | apply below_drew1 | refine below_set ?_ GE160.out | refine below_set ?_ GE223.out) | exact HB.out)) hb); clear HO_3; clear BK160; clear BK223; clear HB; have HO_3 := n0_; have HO226 := n1_; have BK160 := n2_; have BK223 := n3_; have HB := n4_; clear n0_ n1_ n2_ n3_ n4_; clear hb ho91; obtain ⟨Ao93, co93, eo93⟩ := Kd.R_slice HO226.out; subst eo93) | ((with_reducible refine gate_builtin (b := .append) (xs := #[.tmp 117, .tmp 122]) rfl ?_); at_builtin; refine Kd.R_append_rows (Kd.int .i64) (w0 := w) w.heap.size rfl (.tmp 117) (.tmp 122) 25 3 (.int .i64 0) 8 rfl Try.underlying25 info3 rfl (by decide) (by omega) u3 x3_3 y224 _ _ _ (fun k_ => some k_ ≠ (.slice Ao93 y224.length co93 : Value).ownBlock) (fun _ => False) rfl rfl ?aO ?aR (fun _ _ h => h) (fun _ h => h.elim) ?aF ?aB ?aS ?aL ?_; (case aR => repeat (first | exact (Kd.R_reads' HO226.out).2.2 | (with_reducible refine Kd.C_alloc ?_ _) | (with_reducible refine Kd.C_drewN ?_ _) | (with_reducible refine Kd.C_drew ?_))); (case aB => exact (by repeat (first | (with_reducible first | exact HB.out | apply below_alloc | apply pw_below_drewN | apply below_drew1 | refine below_set ?_ GE160.out | refine below_set ?_ GE223.out) | exact HB.out))); (case aF => exact (fun k_ hk => Kd.fresh' (Kd.R_lt (by (with_reducible repeat (first | apply Kd.R_alloc | apply Kd.R_drewN | apply Kd.R_drew)); exact HO226.out)) k_ hk)); (case aO => exact (by (with_reducible repeat (first | apply Kd.R_alloc | apply Kd.R_drewN | apply Kd.R_drew)); exact Kd.R_mono HO_3.out (fun _ hk => hk.2))); (case aS => exact (below_size (by repeat (first | (with_reducible first | exact HB.out | apply below_alloc | apply pw_below_drewN | apply below_drew1 | refine below_set ?_ GE160.out | refine below_set ?_ GE223.out) | exact HB.out)))); (case aL => have := LMc86.out; omega); intro v228 w92 ho hb hg hat; rw [← Ny227.out] at ho; have n0_ := Aside0.mk (blk_grown (g := gb160) (o := .cells #[.int .i64 a0_0, .int .i64 a0_1, .int .i64 a0_2, .int .i64 a0_3, .int .i64 a0_4, .slice A0_5 l0_5.length c0_5, .slice (some ad222) l0_6.length c0_6, .int .i64 a0_7, .slice A0_8 l0_8.length c0_8, .slice A0_9 l0_9.length c0_9] 30 (0, 0)) (by (with_reducible repeat (first | refine blk_drewN ?_ _ | refine blk_drew ?_ | refine blk_alloc ?_ _)); exact BK160.out) hg (Kd.R_ne HO_3.out BK160.out (by decide))); have n1_ := Aside0.mk (blk_grown (g := gb223) (o := .cells #[.int .i64 ((rd_T52 l0_6 x113_3).f0), .int .i64 ((rd_T52 l0_6 x113_3).f1)] 52 (0, 0)) (by (with_reducible repeat (first | refine blk_drewN ?_ _ | refine blk_drew ?_ | refine blk_alloc ?_ _)); exact BK223.out) hg (Kd.R_ne HO_3.out BK223.out (by decide))); have n2_ := Aside0.mk (Kd.R_after (ok := (fun _ => True)) (by (with_reducible repeat (first | apply Kd.R_alloc | apply Kd.R_drewN | apply Kd.R_drew)); exact HO226.out) hg hat); have n3_ := Aside0.mk (hb); have n4_ := Aside0.mk (ho); clear BK160; clear BK223; clear HO226; clear HB; clear HO_3; have BK160 := n0_; have BK223 := n1_; have HO226 := n2_; have HB := n3_; have HO229 := n4_; clear n0_ n1_ n2_ n3_ n4_; clear ho hb hg hat))
                              go_roundg k3
                              case measure => have := HJ1.out; have := HJ60.out; have := HK3.out; omega
                              case rel => exact ⟨(y227), (wrap64 (x113_3 + 1)), (by first | rfl | (simp; done) | (simp [*]; done)), H', ⟨by have := HJ1.out; have := HJ60.out; have := HK3.out; omega⟩, ⟨by (with_reducible repeat (first | apply Kd.R_alloc | apply Kd.R_drewN | apply Kd.R_drew)); exact Kd.R_mono HO229.out (fun _ hk => trivial)⟩, ⟨by (with_reducible repeat (first | refine blk_drewN ?_ _ | refine blk_drew ?_ | refine blk_alloc ?_ _)); exact BK160.out⟩, ⟨by repeat (first | (with_reducible first | exact HB.out | apply below_alloc | apply pw_below_drewN | apply below_drew1 | refine below_set ?_ GE160.out | refine below_set ?_ GE223.out) | exact HB.out)⟩⟩
                            · rw [if_neg c86] at H
                              exact absurd H (by simp)
                          · rw [if_neg c85] at H
                            exact absurd H (by simp)
                        · rw [if_neg c84] at H
                          exact absurd H (by simp)
                      · rw [if_neg c83] at H
                        have c83b0 : decide (x113_3 < (l0_6.length : Int)) = false := decide_eq_false c83
                        clear c83
                        replace H := Option.bind_eq_some_iff.mp H
                        obtain ⟨t230, A940, H⟩ := H
                        replace H : (some t230) = some r := H
                        have A94 := Aside0.mk A940
                        clear A940
                        obtain rfl := Option.some.inj H
                        obtain ⟨Ao95, co95, eo95⟩ := Kd.R_slice HO_3.out
                        subst eo95
                        go_wp2_with (first | ((with_reducible refine gate_callee (f := 43) rfl ?_); refine goesL_ (some 126) rfl rfl Try.func43 (by kernel_rfl) rfl #[.slice none 0 0, .slice Ao95 x3_3.length co95] rfl (by (try simp only [List.map_toArray, List.map_cons, List.map_nil]); first | done | rfl | (simp only [List.length_drop, List.length_take]; rfl)) ?_; (refine (wire_Put.calls k3 _ _ ([] : List Int) _ _ x3_3 t230 _ ?side1 ?side2 ?side3 ?side4 A94.out).mono ?_); (case side1 => exact Kd.C_nil _ _); (case side2 => exact Nat.le_refl _); (case side3 => repeat (first | exact (Kd.R_reads' HO_3.out).2.2 | (with_reducible refine Kd.C_alloc ?_ _) | (with_reducible refine Kd.C_drewN ?_ _) | (with_reducible refine Kd.C_drew ?_))); (case side4 => exact (Kd.R_reads' HO_3.out).2.1); rintro e w96 ⟨v231, rfl, ho0, hb⟩; refine ⟨_, rfl, ?_⟩; have n0_ := Aside0.mk (Kd.R_below (by (with_reducible repeat (first | apply Kd.R_alloc | apply Kd.R_drewN | apply Kd.R_drew)); exact HO_3.out) hb); have n1_ := Aside0.mk (Kd.R_lower ho0 (below_size (by repeat (first | (with_reducible first | exact HB.out | apply below_alloc | apply pw_below_drewN | apply below_drew1 | refine below_set ?_ GE160.out) | exact HB.out)))); have n2_ := Aside0.mk (blk_below (g := gb160) (o := .cells #[.int .i64 a0_0, .int .i64 a0_1, .int .i64 a0_2, .int .i64 a0_3, .int .i64 a0_4, .slice A0_5 l0_5.length c0_5, .slice A0_6 l0_6.length c0_6, .int .i64 a0_7, .slice A0_8 l0_8.length c0_8, .slice A0_9 l0_9.length c0_9] 30 (0, 0)) (by (with_reducible repeat (first | refine blk_drewN ?_ _ | refine blk_drew ?_ | refine blk_alloc ?_ _)); exact BK160.out) hb); have n3_ := Aside0.mk (below_step (by repeat (first | (with_reducible first | exact HB.out | apply below_alloc | apply pw_below_drewN | apply below_drew1 | refine below_set ?_ GE160.out) | exact HB.out)) hb); clear HO_3; clear BK160; clear HB; have HO_3 := n0_; have HO232 := n1_; have BK160 := n2_; have HB := n3_; clear n0_ n1_ n2_ n3_; (try clear hb); (try clear hb2); (try clear hk); (try clear hi); (try clear ho0)))
                        go_ret
                        exact ⟨_, by first | rfl | (simp [errW_none, errW_some] <;> rfl) | (simp [*, errW_none, errW_some] <;> rfl), by (with_reducible repeat (first | apply Kd.R_alloc | apply Kd.R_drewN | apply Kd.R_drew)); exact HO232.out, by repeat (first | (with_reducible first | exact HB.out | apply below_alloc | apply pw_below_drewN | apply below_drew1 | refine below_set ?_ GE160.out) | exact HB.out)⟩
                · rw [if_neg c68] at H
                  exact absurd H (by simp)
              · rw [if_neg c67] at H
                exact absurd H (by simp)
            · rw [if_neg c66] at H
              exact absurd H (by simp)
          · replace c65 := Bool.eq_false_iff.mpr c65
            subst c65
            have H1 : ((wire_Put.f kj60 ([] : List Int) x3_1).bind fun t233 => (some t233)) = some r := by rw [if_neg (show ¬ (false = true) by decide)] at H; exact H
            clear H
            have H := H1
            clear H1
            replace H := Option.bind_eq_some_iff.mp H
            obtain ⟨t233, A970, H⟩ := H
            replace H : (some t233) = some r := H
            have A97 := Aside0.mk A970
            clear A970
            obtain rfl := Option.some.inj H
            obtain ⟨Ao98, co98, eo98⟩ := Kd.R_slice HO_3.out
            subst eo98
            go_wp2_with (first | ((with_reducible refine gate_callee (f := 43) rfl ?_); refine goesL_ (some 126) rfl rfl Try.func43 (by kernel_rfl) rfl #[.slice none 0 0, .slice Ao98 x3_1.length co98] rfl (by (try simp only [List.map_toArray, List.map_cons, List.map_nil]); first | done | rfl | (simp only [List.length_drop, List.length_take]; rfl)) ?_; (refine (wire_Put.calls kj60 _ _ ([] : List Int) _ _ x3_1 t233 _ ?side1 ?side2 ?side3 ?side4 A97.out).mono ?_); (case side1 => exact Kd.C_nil _ _); (case side2 => exact Nat.le_refl _); (case side3 => repeat (first | exact (Kd.R_reads' HO_3.out).2.2 | (with_reducible refine Kd.C_alloc ?_ _) | (with_reducible refine Kd.C_drewN ?_ _) | (with_reducible refine Kd.C_drew ?_))); (case side4 => exact (Kd.R_reads' HO_3.out).2.1); rintro e w99 ⟨v234, rfl, ho0, hb⟩; refine ⟨_, rfl, ?_⟩; have n0_ := Aside0.mk (Kd.R_below (by (with_reducible repeat (first | apply Kd.R_alloc | apply Kd.R_drewN | apply Kd.R_drew)); exact HO_3.out) hb); have n1_ := Aside0.mk (Kd.R_lower ho0 (below_size (by repeat (first | (with_reducible first | exact HB.out | apply below_alloc | apply pw_below_drewN | apply below_drew1 | refine below_set ?_ GE160.out) | exact HB.out)))); have n2_ := Aside0.mk (blk_below (g := gb160) (o := .cells #[.int .i64 a0_0, .int .i64 a0_1, .int .i64 a0_2, .int .i64 a0_3, .int .i64 a0_4, .slice A0_5 l0_5.length c0_5, .slice A0_6 l0_6.length c0_6, .int .i64 a0_7, .slice A0_8 l0_8.length c0_8, .slice A0_9 l0_9.length c0_9] 30 (0, 0)) (by (with_reducible repeat (first | refine blk_drewN ?_ _ | refine blk_drew ?_ | refine blk_alloc ?_ _)); exact BK160.out) hb); have n3_ := Aside0.mk (below_step (by repeat (first | (with_reducible first | exact HB.out | apply below_alloc | apply pw_below_drewN | apply below_drew1 | refine below_set ?_ GE160.out) | exact HB.out)) hb); clear HO_3; clear BK160; clear HB; have HO_3 := n0_; have HO235 := n1_; have BK160 := n2_; have HB := n3_; clear n0_ n1_ n2_ n3_; (try clear hb); (try clear hb2); (try clear hk); (try clear hi); (try clear ho0)))
            go_ret
            exact ⟨_, by first | rfl | (simp [errW_none, errW_some] <;> rfl) | (simp [*, errW_none, errW_some] <;> rfl), by (with_reducible repeat (first | apply Kd.R_alloc | apply Kd.R_drewN | apply Kd.R_drew)); exact HO235.out, by repeat (first | (with_reducible first | exact HB.out | apply below_alloc | apply pw_below_drewN | apply below_drew1 | refine below_set ?_ GE160.out) | exact HB.out)⟩
end Go.Proofs.Ytcplblpmgajmnaa.A
namespace Go.Proofs.Ytcplblpmgajmnaa.A
open Go.RowKit Go.Proofs.YtcplblpmgajmnaaW.PrintWords Go.Proofs.YtcplblpmgajmnaaW.PrintLast Go.Proofs.YtcplblpmgajmnaaW.PrintMore
attribute [local go_sem] max2_int min2_int max_two min_two max_three min_three max_four min_four   -- for this text's walks alone
set_option linter.unusedVariables false
set_option linter.unusedSimpArgs false
def record_Encode.f (k : Nat) (a0_0 : Int) (a0_1 : Int) (a0_2 : Int) (a0_3 : Int) (a0_4 : Int) (l0_5 : List Int) (l0_6 : List (S52)) (a0_7 : Int) (l0_8 : List (S54)) (l0_9 : List (S56)) : Option (List Int × Option Int) := (record_Check.f a0_0 a0_1 a0_2 a0_3 a0_4 l0_5 l0_6 a0_7 l0_8 l0_9).bind fun t237 => (if t237.isNone = true then ((record_write.f k a0_0 a0_1 a0_2 a0_3 a0_4 l0_5 l0_6 a0_7 l0_8 l0_9).bind fun t239 => (if (t239.length : Int) > 4096 then (some (([] : List Int), some 2)) else (some (t239, none)))) else (some (([] : List Int), some (t237.getD 0))))
theorem record_Encode.mono : ∀ a0 a1 a2 a3 a4 a5 a6 a7 a8 a9 k, LeO (record_Encode.f k a0 a1 a2 a3 a4 a5 a6 a7 a8 a9) (record_Encode.f (k + 1) a0 a1 a2 a3 a4 a5 a6 a7 a8 a9) := by
  intro a0 a1 a2 a3 a4 a5 a6 a7 a8 a9 k
  unfold record_Encode.f
  repeat' first
      | (with_reducible exact record_write.mono _ _ _ _ _ _ _ _ _ _ _)
      | (with_reducible exact LeO.refl _)
      | (with_reducible exact LeO.none _)
      | (with_reducible refine LeO.ite ?_ ?_)
      | (with_reducible refine LeO.bind ?_ (fun _ => ?_))
      | exact record_write.mono _ _ _ _ _ _ _ _ _ _ _
      | exact LeO.none _
      | refine LeO.ite ?_ ?_
      | refine LeO.bind ?_ (fun _ => ?_)
set_option maxHeartbeats 8000000 in
set_option maxRecDepth 100000 in
theorem record_Encode.calls (k : Nat) (a0_0 : Int) (a0_1 : Int) (a0_2 : Int) (a0_3 : Int) (a0_4 : Int) (A0_5 : Option Addr) (c0_5 : Nat) (l0_5 : List Int) (A0_6 : Option Addr) (c0_6 : Nat) (l0_6 : List (S52)) (a0_7 : Int) (A0_8 : Option Addr) (c0_8 : Nat) (l0_8 : List (S54)) (A0_9 : Option Addr) (c0_9 : Nat) (l0_9 : List (S56)) (r1 : List Int) (r2 : Option Int) (w : World) (hr0_5 : Kd.C (Kd.int .i64) w A0_5 l0_5.length l0_5) (hc0_5 : l0_5.length ≤ c0_5) (hr0_6 : Kd.C k52 w A0_6 l0_6.length l0_6) (hc0_6 : l0_6.length ≤ c0_6) (hr0_8 : Kd.C k54 w A0_8 l0_8.length l0_8) (hc0_8 : l0_8.length ≤ c0_8) (hr0_9 : Kd.C k56 w A0_9 l0_9.length l0_9) (hc0_9 : l0_9.length ≤ c0_9) (h : record_Encode.f k a0_0 a0_1 a0_2 a0_3 a0_4 l0_5 l0_6 a0_7 l0_8 l0_9 = some (r1, r2)) :
    Calls Try.prog 18 #[.agg #[.int .i64 a0_0, .int .i64 a0_1, .int .i64 a0_2, .int .i64 a0_3, .int .i64 a0_4, .slice A0_5 l0_5.length c0_5, .slice A0_6 l0_6.length c0_6, .int .i64 a0_7, .slice A0_8 l0_8.length c0_8, .slice A0_9 l0_9.length c0_9]] w fun e w' => ∃ v0_ : Value, e = .returned (.tuple #[v0_, errW r2]) ∧ Kd.R (Kd.int .u8) 5 w' w.heap.size (fun _ => True) v0_ r1 ∧ Below w.heap.size w w' := by
  have hu30 := Try.underlying30
  have hu32 := Try.underlying32
  have hu44 := Try.underlying44
  have HR0_5 := Aside0.mk hr0_5
  have HC0_5 := Aside0.mk hc0_5
  clear hr0_5 hc0_5
  have HR0_6 := Aside0.mk hr0_6
  have HC0_6 := Aside0.mk hc0_6
  clear hr0_6 hc0_6
  have HR0_8 := Aside0.mk hr0_8
  have HC0_8 := Aside0.mk hc0_8
  clear hr0_8 hc0_8
  have HR0_9 := Aside0.mk hr0_9
  have HC0_9 := Aside0.mk hc0_9
  clear hr0_9 hc0_9
  have HB := Aside0.mk (Below.refl w.heap.size w)
  have H : ((record_Check.f a0_0 a0_1 a0_2 a0_3 a0_4 l0_5 l0_6 a0_7 l0_8 l0_9).bind fun t237 => (if t237.isNone = true then ((record_write.f k a0_0 a0_1 a0_2 a0_3 a0_4 l0_5 l0_6 a0_7 l0_8 l0_9).bind fun t239 => (if (t239.length : Int) > 4096 then (some (([] : List Int), some 2)) else (some (t239, none)))) else (some (([] : List Int), some (t237.getD 0))))) = some (r1, r2) := h
  clear h
  replace H := Option.bind_eq_some_iff.mp H
  obtain ⟨t237, A20, H⟩ := H
  replace H : (if t237.isNone = true then ((record_write.f k a0_0 a0_1 a0_2 a0_3 a0_4 l0_5 l0_6 a0_7 l0_8 l0_9).bind fun t239 => (if (t239.length : Int) > 4096 then (some (([] : List Int), some 2)) else (some (t239, none)))) else (some (([] : List Int), some (t237.getD 0)))) = some (r1, r2) := H
  have A2 := Aside0.mk A20
  clear A20
  rcases t237 with _ | q238
  · have H1 : ((record_write.f k a0_0 a0_1 a0_2 a0_3 a0_4 l0_5 l0_6 a0_7 l0_8 l0_9).bind fun t239 => (if (t239.length : Int) > 4096 then (some (([] : List Int), some 2)) else (some (t239, none)))) = some (r1, r2) := by rw [if_pos (show (none : Option Int).isNone = true by rfl)] at H; exact H
    clear H
    have H := H1
    clear H1
    try simp only [errW_none, errW_some]
    replace H := Option.bind_eq_some_iff.mp H
    obtain ⟨t239, A30, H⟩ := H
    replace H : (if (t239.length : Int) > 4096 then (some (([] : List Int), some 2)) else (some (t239, none))) = some (r1, r2) := H
    have A3 := Aside0.mk A30
    clear A30
    by_cases c4 : (t239.length : Int) > 4096
    · rw [if_pos c4] at H
      have c4b0 : decide (4096 < (t239.length : Int)) = true := decide_eq_true c4
      have c4b1 : decide (4096 < t239.length) = true := decide_eq_true (by omega)
      clear c4
      simp only [Option.some.injEq, Prod.mk.injEq] at H
      obtain ⟨rfl, rfl⟩ := H
      go_enter Try.func18, Try.ntmps18
      go_wp2_with (first | ((with_reducible refine gate_dst (N := 1) rfl ?_); refine box_event ?hg (N := 1) ?hd (cs := #[.int .i64 a0_0, .int .i64 a0_1, .int .i64 a0_2, .int .i64 a0_3, .int .i64 a0_4, .slice A0_5 l0_5.length c0_5, .slice A0_6 l0_6.length c0_6, .int .i64 a0_7, .slice A0_8 l0_8.length c0_8, .slice A0_9 l0_9.length c0_9]) (t := 30) ?hr ?_; (case hd => rfl); (case hg => rfl); (case hr => first | (go_simp; done) | (go_simp; rfl)); intro gb236 hg w5 hbox hb; have n0_ := Aside0.mk (below_step (by repeat (first | (with_reducible first | exact HB.out | apply below_alloc | apply pw_below_drewN | apply below_drew1) | exact HB.out)) hb); have n1_ := Aside0.mk (hbox); have n2_ := Aside0.mk ((by rw [hg]; exact (below_size (by repeat (first | (with_reducible first | exact HB.out | apply below_alloc | apply pw_below_drewN | apply below_drew1) | exact HB.out))) : w.heap.size ≤ gb236)); have n3_ := Aside0.mk ((by rw [hg]; exact (below_size (by repeat (first | (with_reducible first | exact HB.out | apply below_alloc | apply pw_below_drewN | apply below_drew1) | exact HB.out))) : w.heap.size ≤ gb236)); clear HB; have HB := n0_; have BK236 := n1_; have GW236 := n2_; have GE236 := n3_; clear n0_ n1_ n2_ n3_; clear hb hbox hg; have hcz6_0 : w5.cell? ⟨gb236, 0, none⟩ = some (.int .i64 a0_0) := (blk_cell BK236.out 0).trans rfl; have hcz6_1 : w5.cell? ⟨gb236, 1, none⟩ = some (.int .i64 a0_1) := (blk_cell BK236.out 1).trans rfl; have hcz6_2 : w5.cell? ⟨gb236, 2, none⟩ = some (.int .i64 a0_2) := (blk_cell BK236.out 2).trans rfl; have hcz6_3 : w5.cell? ⟨gb236, 3, none⟩ = some (.int .i64 a0_3) := (blk_cell BK236.out 3).trans rfl; have hcz6_4 : w5.cell? ⟨gb236, 4, none⟩ = some (.int .i64 a0_4) := (blk_cell BK236.out 4).trans rfl; have hcz6_5 : w5.cell? ⟨gb236, 5, none⟩ = some (.slice A0_5 l0_5.length c0_5) := (blk_cell BK236.out 5).trans rfl; have hcz6_6 : w5.cell? ⟨gb236, 6, none⟩ = some (.slice A0_6 l0_6.length c0_6) := (blk_cell BK236.out 6).trans rfl; have hcz6_7 : w5.cell? ⟨gb236, 7, none⟩ = some (.int .i64 a0_7) := (blk_cell BK236.out 7).trans rfl; have hcz6_8 : w5.cell? ⟨gb236, 8, none⟩ = some (.slice A0_8 l0_8.length c0_8) := (blk_cell BK236.out 8).trans rfl; have hcz6_9 : w5.cell? ⟨gb236, 9, none⟩ = some (.slice A0_9 l0_9.length c0_9) := (blk_cell BK236.out 9).trans rfl; have hfz6_0 := blk_frozen BK236.out 0; have hfz6_1 := blk_frozen BK236.out 1; have hfz6_2 := blk_frozen BK236.out 2; have hfz6_3 := blk_frozen BK236.out 3; have hfz6_4 := blk_frozen BK236.out 4; have hfz6_5 := blk_frozen BK236.out 5; have hfz6_6 := blk_frozen BK236.out 6; have hfz6_7 := blk_frozen BK236.out 7; have hfz6_8 := blk_frozen BK236.out 8; have hfz6_9 := blk_frozen BK236.out 9) | ((with_reducible refine gate_callee (f := 20) rfl ?_); refine goesL_ (some 7) rfl rfl Try.func20 (by kernel_rfl) rfl #[.agg #[.int .i64 a0_0, .int .i64 a0_1, .int .i64 a0_2, .int .i64 a0_3, .int .i64 a0_4, .slice A0_5 l0_5.length c0_5, .slice A0_6 l0_6.length c0_6, .int .i64 a0_7, .slice A0_8 l0_8.length c0_8, .slice A0_9 l0_9.length c0_9]] rfl (by (try simp only [List.map_toArray, List.map_cons, List.map_nil]); first | done | rfl | (simp only [List.length_drop, List.length_take]; rfl)) ?_; (with_reducible refine (record_Check.calls a0_0 a0_1 a0_2 a0_3 a0_4 _ _ l0_5 _ _ l0_6 a0_7 _ _ l0_8 _ _ l0_9 none _ ?side1 ?side2 ?side3 ?side4 ?side5 ?side6 ?side7 ?side8 A2.out).mono ?_); (case side1 => repeat (first | exact (Kd.C_below HR0_5.out HB.out) | (with_reducible refine Kd.C_alloc ?_ _) | (with_reducible refine Kd.C_drewN ?_ _) | (with_reducible refine Kd.C_drew ?_))); (case side2 => exact HC0_5.out); (case side3 => repeat (first | exact (Kd.C_below HR0_6.out HB.out) | (with_reducible refine Kd.C_alloc ?_ _) | (with_reducible refine Kd.C_drewN ?_ _) | (with_reducible refine Kd.C_drew ?_))); (case side4 => exact HC0_6.out); (case side5 => repeat (first | exact (Kd.C_below HR0_8.out HB.out) | (with_reducible refine Kd.C_alloc ?_ _) | (with_reducible refine Kd.C_drewN ?_ _) | (with_reducible refine Kd.C_drew ?_))); (case side6 => exact HC0_8.out); (case side7 => repeat (first | exact (Kd.C_below HR0_9.out HB.out) | (with_reducible refine Kd.C_alloc ?_ _) | (with_reducible refine Kd.C_drewN ?_ _) | (with_reducible refine Kd.C_drew ?_))); (case side8 => exact HC0_9.out); rintro e w7 ⟨rfl, hb⟩; refine ⟨_, rfl, ?_⟩; have n0_ := Aside0.mk (blk_below (g := gb236) (o := .cells #[.int .i64 a0_0, .int .i64 a0_1, .int .i64 a0_2, .int .i64 a0_3, .int .i64 a0_4, .slice A0_5 l0_5.length c0_5, .slice A0_6 l0_6.length c0_6, .int .i64 a0_7, .slice A0_8 l0_8.length c0_8, .slice A0_9 l0_9.length c0_9] 30 (0, 0)) (by (with_reducible repeat (first | refine blk_drewN ?_ _ | refine blk_drew ?_ | refine blk_alloc ?_ _)); exact BK236.out) hb); have n1_ := Aside0.mk (below_step (by repeat (first | (with_reducible first | exact HB.out | apply below_alloc | apply pw_below_drewN | apply below_drew1 | refine below_set ?_ GE236.out) | exact HB.out)) hb); clear BK236; clear HB; have BK236 := n0_; have HB := n1_; clear n0_ n1_; (try clear hb); (try clear hb2); (try clear hk); (try clear hi); (try simp only [errW_none, errW_some]); have hcz8_0 : w7.cell? ⟨gb236, 0, none⟩ = some (.int .i64 a0_0) := (blk_cell BK236.out 0).trans rfl; have hcz8_1 : w7.cell? ⟨gb236, 1, none⟩ = some (.int .i64 a0_1) := (blk_cell BK236.out 1).trans rfl; have hcz8_2 : w7.cell? ⟨gb236, 2, none⟩ = some (.int .i64 a0_2) := (blk_cell BK236.out 2).trans rfl; have hcz8_3 : w7.cell? ⟨gb236, 3, none⟩ = some (.int .i64 a0_3) := (blk_cell BK236.out 3).trans rfl; have hcz8_4 : w7.cell? ⟨gb236, 4, none⟩ = some (.int .i64 a0_4) := (blk_cell BK236.out 4).trans rfl; have hcz8_5 : w7.cell? ⟨gb236, 5, none⟩ = some (.slice A0_5 l0_5.length c0_5) := (blk_cell BK236.out 5).trans rfl; have hcz8_6 : w7.cell? ⟨gb236, 6, none⟩ = some (.slice A0_6 l0_6.length c0_6) := (blk_cell BK236.out 6).trans rfl; have hcz8_7 : w7.cell? ⟨gb236, 7, none⟩ = some (.int .i64 a0_7) := (blk_cell BK236.out 7).trans rfl; have hcz8_8 : w7.cell? ⟨gb236, 8, none⟩ = some (.slice A0_8 l0_8.length c0_8) := (blk_cell BK236.out 8).trans rfl; have hcz8_9 : w7.cell? ⟨gb236, 9, none⟩ = some (.slice A0_9 l0_9.length c0_9) := (blk_cell BK236.out 9).trans rfl; have hfz8_0 := blk_frozen BK236.out 0; have hfz8_1 := blk_frozen BK236.out 1; have hfz8_2 := blk_frozen BK236.out 2; have hfz8_3 := blk_frozen BK236.out 3; have hfz8_4 := blk_frozen BK236.out 4; have hfz8_5 := blk_frozen BK236.out 5; have hfz8_6 := blk_frozen BK236.out 6; have hfz8_7 := blk_frozen BK236.out 7; have hfz8_8 := blk_frozen BK236.out 8; have hfz8_9 := blk_frozen BK236.out 9) | ((with_reducible refine gate_callee (f := 30) rfl ?_); refine goesL_ (some 12) rfl rfl Try.func30 (by kernel_rfl) rfl #[.agg #[.int .i64 a0_0, .int .i64 a0_1, .int .i64 a0_2, .int .i64 a0_3, .int .i64 a0_4, .slice A0_5 l0_5.length c0_5, .slice A0_6 l0_6.length c0_6, .int .i64 a0_7, .slice A0_8 l0_8.length c0_8, .slice A0_9 l0_9.length c0_9]] rfl (by (try simp only [List.map_toArray, List.map_cons, List.map_nil]); first | done | rfl | (simp only [List.length_drop, List.length_take]; rfl)) ?_; (with_reducible refine (record_write.calls k a0_0 a0_1 a0_2 a0_3 a0_4 _ _ l0_5 _ _ l0_6 a0_7 _ _ l0_8 _ _ l0_9 t239 _ ?side1 ?side2 ?side3 ?side4 ?side5 ?side6 ?side7 ?side8 A3.out).mono ?_); (case side1 => repeat (first | exact (Kd.C_below HR0_5.out HB.out) | (with_reducible refine Kd.C_alloc ?_ _) | (with_reducible refine Kd.C_drewN ?_ _) | (with_reducible refine Kd.C_drew ?_))); (case side2 => exact HC0_5.out); (case side3 => repeat (first | exact (Kd.C_below HR0_6.out HB.out) | (with_reducible refine Kd.C_alloc ?_ _) | (with_reducible refine Kd.C_drewN ?_ _) | (with_reducible refine Kd.C_drew ?_))); (case side4 => exact HC0_6.out); (case side5 => repeat (first | exact (Kd.C_below HR0_8.out HB.out) | (with_reducible refine Kd.C_alloc ?_ _) | (with_reducible refine Kd.C_drewN ?_ _) | (with_reducible refine Kd.C_drew ?_))); (case side6 => exact HC0_8.out); (case side7 => repeat (first | exact (Kd.C_below HR0_9.out HB.out) | (with_reducible refine Kd.C_alloc ?_ _) | (with_reducible refine Kd.C_drewN ?_ _) | (with_reducible refine Kd.C_drew ?_))); (case side8 => exact HC0_9.out); rintro e w9 ⟨v240, rfl, ho0, hb⟩; refine ⟨_, rfl, ?_⟩; have n0_ := Aside0.mk (Kd.R_lower ho0 (below_size (by repeat (first | (with_reducible first | exact HB.out | apply below_alloc | apply pw_below_drewN | apply below_drew1 | refine below_set ?_ GE236.out) | exact HB.out)))); have n1_ := Aside0.mk (blk_below (g := gb236) (o := .cells #[.int .i64 a0_0, .int .i64 a0_1, .int .i64 a0_2, .int .i64 a0_3, .int .i64 a0_4, .slice A0_5 l0_5.length c0_5, .slice A0_6 l0_6.length c0_6, .int .i64 a0_7, .slice A0_8 l0_8.length c0_8, .slice A0_9 l0_9.length c0_9] 30 (0, 0)) (by (with_reducible repeat (first | refine blk_drewN ?_ _ | refine blk_drew ?_ | refine blk_alloc ?_ _)); exact BK236.out) hb); have n2_ := Aside0.mk (below_step (by repeat (first | (with_reducible first | exact HB.out | apply below_alloc | apply pw_below_drewN | apply below_drew1 | refine below_set ?_ GE236.out) | exact HB.out)) hb); clear BK236; clear HB; have HO241 := n0_; have BK236 := n1_; have HB := n2_; clear n0_ n1_ n2_; (try clear hb); (try clear hb2); (try clear hk); (try clear hi); (try clear ho0); obtain ⟨Ao10, co10, eo10⟩ := Kd.R_slice HO241.out; subst eo10))
      go_ret2
      exact ⟨_, by first | rfl | (simp [errW_none, errW_some] <;> rfl) | (simp [*, errW_none, errW_some] <;> rfl), by first | exact Kd.R_nil _ _ _ _ _ | exact Kd.N_nil _ _ _ _ _ | exact Kd.V_nil _ _ _ _ _ | exact Kd.Q_nil _ _ _ _ _ | exact Kd.S_nil _ _ _ _ _, by repeat (first | (with_reducible first | exact HB.out | apply below_alloc | apply pw_below_drewN | apply below_drew1 | refine below_set ?_ GE236.out) | exact HB.out)⟩
    · rw [if_neg c4] at H
      have c4b0 : decide (4096 < (t239.length : Int)) = false := decide_eq_false c4
      have c4b1 : decide (4096 < t239.length) = false := decide_eq_false (by omega)
      clear c4
      simp only [Option.some.injEq, Prod.mk.injEq] at H
      obtain ⟨rfl, rfl⟩ := H
      go_enter Try.func18, Try.ntmps18
      go_wp2_with (first | ((with_reducible refine gate_dst (N := 1) rfl ?_); refine box_event ?hg (N := 1) ?hd (cs := #[.int .i64 a0_0, .int .i64 a0_1, .int .i64 a0_2, .int .i64 a0_3, .int .i64 a0_4, .slice A0_5 l0_5.length c0_5, .slice A0_6 l0_6.length c0_6, .int .i64 a0_7, .slice A0_8 l0_8.length c0_8, .slice A0_9 l0_9.length c0_9]) (t := 30) ?hr ?_; (case hd => rfl); (case hg => rfl); (case hr => first | (go_simp; done) | (go_simp; rfl)); intro gb236 hg w11 hbox hb; have n0_ := Aside0.mk (below_step (by repeat (first | (with_reducible first | exact HB.out | apply below_alloc | apply pw_below_drewN | apply below_drew1) | exact HB.out)) hb); have n1_ := Aside0.mk (hbox); have n2_ := Aside0.mk ((by rw [hg]; exact (below_size (by repeat (first | (with_reducible first | exact HB.out | apply below_alloc | apply pw_below_drewN | apply below_drew1) | exact HB.out))) : w.heap.size ≤ gb236)); have n3_ := Aside0.mk ((by rw [hg]; exact (below_size (by repeat (first | (with_reducible first | exact HB.out | apply below_alloc | apply pw_below_drewN | apply below_drew1) | exact HB.out))) : w.heap.size ≤ gb236)); clear HB; have HB := n0_; have BK236 := n1_; have GW236 := n2_; have GE236 := n3_; clear n0_ n1_ n2_ n3_; clear hb hbox hg; have hcz12_0 : w11.cell? ⟨gb236, 0, none⟩ = some (.int .i64 a0_0) := (blk_cell BK236.out 0).trans rfl; have hcz12_1 : w11.cell? ⟨gb236, 1, none⟩ = some (.int .i64 a0_1) := (blk_cell BK236.out 1).trans rfl; have hcz12_2 : w11.cell? ⟨gb236, 2, none⟩ = some (.int .i64 a0_2) := (blk_cell BK236.out 2).trans rfl; have hcz12_3 : w11.cell? ⟨gb236, 3, none⟩ = some (.int .i64 a0_3) := (blk_cell BK236.out 3).trans rfl; have hcz12_4 : w11.cell? ⟨gb236, 4, none⟩ = some (.int .i64 a0_4) := (blk_cell BK236.out 4).trans rfl; have hcz12_5 : w11.cell? ⟨gb236, 5, none⟩ = some (.slice A0_5 l0_5.length c0_5) := (blk_cell BK236.out 5).trans rfl; have hcz12_6 : w11.cell? ⟨gb236, 6, none⟩ = some (.slice A0_6 l0_6.length c0_6) := (blk_cell BK236.out 6).trans rfl; have hcz12_7 : w11.cell? ⟨gb236, 7, none⟩ = some (.int .i64 a0_7) := (blk_cell BK236.out 7).trans rfl; have hcz12_8 : w11.cell? ⟨gb236, 8, none⟩ = some (.slice A0_8 l0_8.length c0_8) := (blk_cell BK236.out 8).trans rfl; have hcz12_9 : w11.cell? ⟨gb236, 9, none⟩ = some (.slice A0_9 l0_9.length c0_9) := (blk_cell BK236.out 9).trans rfl; have hfz12_0 := blk_frozen BK236.out 0; have hfz12_1 := blk_frozen BK236.out 1; have hfz12_2 := blk_frozen BK236.out 2; have hfz12_3 := blk_frozen BK236.out 3; have hfz12_4 := blk_frozen BK236.out 4; have hfz12_5 := blk_frozen BK236.out 5; have hfz12_6 := blk_frozen BK236.out 6; have hfz12_7 := blk_frozen BK236.out 7; have hfz12_8 := blk_frozen BK236.out 8; have hfz12_9 := blk_frozen BK236.out 9) | ((with_reducible refine gate_callee (f := 20) rfl ?_); refine goesL_ (some 7) rfl rfl Try.func20 (by kernel_rfl) rfl #[.agg #[.int .i64 a0_0, .int .i64 a0_1, .int .i64 a0_2, .int .i64 a0_3, .int .i64 a0_4, .slice A0_5 l0_5.length c0_5, .slice A0_6 l0_6.length c0_6, .int .i64 a0_7, .slice A0_8 l0_8.length c0_8, .slice A0_9 l0_9.length c0_9]] rfl (by (try simp only [List.map_toArray, List.map_cons, List.map_nil]); first | done | rfl | (simp only [List.length_drop, List.length_take]; rfl)) ?_; (with_reducible refine (record_Check.calls a0_0 a0_1 a0_2 a0_3 a0_4 _ _ l0_5 _ _ l0_6 a0_7 _ _ l0_8 _ _ l0_9 none _ ?side1 ?side2 ?side3 ?side4 ?side5 ?side6 ?side7 ?side8 A2.out).mono ?_); (case side1 => repeat (first | exact (Kd.C_below HR0_5.out HB.out) | (with_reducible refine Kd.C_alloc ?_ _) | (with_reducible refine Kd.C_drewN ?_ _) | (with_reducible refine Kd.C_drew ?_))); (case side2 => exact HC0_5.out); (case side3 => repeat (first | exact (Kd.C_below HR0_6.out HB.out) | (with_reducible refine Kd.C_alloc ?_ _) | (with_reducible refine Kd.C_drewN ?_ _) | (with_reducible refine Kd.C_drew ?_))); (case side4 => exact HC0_6.out); (case side5 => repeat (first | exact (Kd.C_below HR0_8.out HB.out) | (with_reducible refine Kd.C_alloc ?_ _) | (with_reducible refine Kd.C_drewN ?_ _) | (with_reducible refine Kd.C_drew ?_))); (case side6 => exact HC0_8.out); (case side7 => repeat (first | exact (Kd.C_below HR0_9.out HB.out) | (with_reducible refine Kd.C_alloc ?_ _) | (with_reducible refine Kd.C_drewN ?_ _) | (with_reducible refine Kd.C_drew ?_))); (case side8 => exact HC0_9.out); rintro e w13 ⟨rfl, hb⟩; refine ⟨_, rfl, ?_⟩; have n0_ := Aside0.mk (blk_below (g := gb236) (o := .cells #[.int .i64 a0_0, .int .i64 a0_1, .int .i64 a0_2, .int .i64 a0_3, .int .i64 a0_4, .slice A0_5 l0_5.length c0_5, .slice A0_6 l0_6.length c0_6, .int .i64 a0_7, .slice A0_8 l0_8.length c0_8, .slice A0_9 l0_9.length c0_9] 30 (0, 0)) (by (with_reducible repeat (first | refine blk_drewN ?_ _ | refine blk_drew ?_ | refine blk_alloc ?_ _)); exact BK236.out) hb); have n1_ := Aside0.mk (below_step (by repeat (first | (with_reducible first | exact HB.out | apply below_alloc | apply pw_below_drewN | apply below_drew1 | refine below_set ?_ GE236.out) | exact HB.out)) hb); clear BK236; clear HB; have BK236 := n0_; have HB := n1_; clear n0_ n1_; (try clear hb); (try clear hb2); (try clear hk); (try clear hi); (try simp only [errW_none, errW_some]); have hcz14_0 : w13.cell? ⟨gb236, 0, none⟩ = some (.int .i64 a0_0) := (blk_cell BK236.out 0).trans rfl; have hcz14_1 : w13.cell? ⟨gb236, 1, none⟩ = some (.int .i64 a0_1) := (blk_cell BK236.out 1).trans rfl; have hcz14_2 : w13.cell? ⟨gb236, 2, none⟩ = some (.int .i64 a0_2) := (blk_cell BK236.out 2).trans rfl; have hcz14_3 : w13.cell? ⟨gb236, 3, none⟩ = some (.int .i64 a0_3) := (blk_cell BK236.out 3).trans rfl; have hcz14_4 : w13.cell? ⟨gb236, 4, none⟩ = some (.int .i64 a0_4) := (blk_cell BK236.out 4).trans rfl; have hcz14_5 : w13.cell? ⟨gb236, 5, none⟩ = some (.slice A0_5 l0_5.length c0_5) := (blk_cell BK236.out 5).trans rfl; have hcz14_6 : w13.cell? ⟨gb236, 6, none⟩ = some (.slice A0_6 l0_6.length c0_6) := (blk_cell BK236.out 6).trans rfl; have hcz14_7 : w13.cell? ⟨gb236, 7, none⟩ = some (.int .i64 a0_7) := (blk_cell BK236.out 7).trans rfl; have hcz14_8 : w13.cell? ⟨gb236, 8, none⟩ = some (.slice A0_8 l0_8.length c0_8) := (blk_cell BK236.out 8).trans rfl; have hcz14_9 : w13.cell? ⟨gb236, 9, none⟩ = some (.slice A0_9 l0_9.length c0_9) := (blk_cell BK236.out 9).trans rfl; have hfz14_0 := blk_frozen BK236.out 0; have hfz14_1 := blk_frozen BK236.out 1; have hfz14_2 := blk_frozen BK236.out 2; have hfz14_3 := blk_frozen BK236.out 3; have hfz14_4 := blk_frozen BK236.out 4; have hfz14_5 := blk_frozen BK236.out 5; have hfz14_6 := blk_frozen BK236.out 6; have hfz14_7 := blk_frozen BK236.out 7; have hfz14_8 := blk_frozen BK236.out 8; have hfz14_9 := blk_frozen BK236.out 9) | ((with_reducible refine gate_callee (f := 30) rfl ?_); refine goesL_ (some 12) rfl rfl Try.func30 (by kernel_rfl) rfl #[.agg #[.int .i64 a0_0, .int .i64 a0_1, .int .i64 a0_2, .int .i64 a0_3, .int .i64 a0_4, .slice A0_5 l0_5.length c0_5, .slice A0_6 l0_6.length c0_6, .int .i64 a0_7, .slice A0_8 l0_8.length c0_8, .slice A0_9 l0_9.length c0_9]] rfl (by (try simp only [List.map_toArray, List.map_cons, List.map_nil]); first | done | rfl | (simp only [List.length_drop, List.length_take]; rfl)) ?_; (with_reducible refine (record_write.calls k a0_0 a0_1 a0_2 a0_3 a0_4 _ _ l0_5 _ _ l0_6 a0_7 _ _ l0_8 _ _ l0_9 t239 _ ?side1 ?side2 ?side3 ?side4 ?side5 ?side6 ?side7 ?side8 A3.out).mono ?_); (case side1 => repeat (first | exact (Kd.C_below HR0_5.out HB.out) | (with_reducible refine Kd.C_alloc ?_ _) | (with_reducible refine Kd.C_drewN ?_ _) | (with_reducible refine Kd.C_drew ?_))); (case side2 => exact HC0_5.out); (case side3 => repeat (first | exact (Kd.C_below HR0_6.out HB.out) | (with_reducible refine Kd.C_alloc ?_ _) | (with_reducible refine Kd.C_drewN ?_ _) | (with_reducible refine Kd.C_drew ?_))); (case side4 => exact HC0_6.out); (case side5 => repeat (first | exact (Kd.C_below HR0_8.out HB.out) | (with_reducible refine Kd.C_alloc ?_ _) | (with_reducible refine Kd.C_drewN ?_ _) | (with_reducible refine Kd.C_drew ?_))); (case side6 => exact HC0_8.out); (case side7 => repeat (first | exact (Kd.C_below HR0_9.out HB.out) | (with_reducible refine Kd.C_alloc ?_ _) | (with_reducible refine Kd.C_drewN ?_ _) | (with_reducible refine Kd.C_drew ?_))); (case side8 => exact HC0_9.out); rintro e w15 ⟨v240, rfl, ho0, hb⟩; refine ⟨_, rfl, ?_⟩; have n0_ := Aside0.mk (Kd.R_lower ho0 (below_size (by repeat (first | (with_reducible first | exact HB.out | apply below_alloc | apply pw_below_drewN | apply below_drew1 | refine below_set ?_ GE236.out) | exact HB.out)))); have n1_ := Aside0.mk (blk_below (g := gb236) (o := .cells #[.int .i64 a0_0, .int .i64 a0_1, .int .i64 a0_2, .int .i64 a0_3, .int .i64 a0_4, .slice A0_5 l0_5.length c0_5, .slice A0_6 l0_6.length c0_6, .int .i64 a0_7, .slice A0_8 l0_8.length c0_8, .slice A0_9 l0_9.length c0_9] 30 (0, 0)) (by (with_reducible repeat (first | refine blk_drewN ?_ _ | refine blk_drew ?_ | refine blk_alloc ?_ _)); exact BK236.out) hb); have n2_ := Aside0.mk (below_step (by repeat (first | (with_reducible first | exact HB.out | apply below_alloc | apply pw_below_drewN | apply below_drew1 | refine below_set ?_ GE236.out) | exact HB.out)) hb); clear BK236; clear HB; have HO241 := n0_; have BK236 := n1_; have HB := n2_; clear n0_ n1_ n2_; (try clear hb); (try clear hb2); (try clear hk); (try clear hi); (try clear ho0); obtain ⟨Ao16, co16, eo16⟩ := Kd.R_slice HO241.out; subst eo16))
      go_ret2
      exact ⟨_, by first | rfl | (simp [errW_none, errW_some] <;> rfl) | (simp [*, errW_none, errW_some] <;> rfl), by (with_reducible repeat (first | apply Kd.R_alloc | apply Kd.R_drewN | apply Kd.R_drew)); exact HO241.out, by repeat (first | (with_reducible first | exact HB.out | apply below_alloc | apply pw_below_drewN | apply below_drew1 | refine below_set ?_ GE236.out) | exact HB.out)⟩
  · have H1 : (some (([] : List Int), some q238)) = some (r1, r2) := by rw [if_neg (show ¬ (some q238).isNone = true by simp)] at H; exact H
    clear H
    have H := H1
    clear H1
    try simp only [errW_none, errW_some]
    simp only [Option.some.injEq, Prod.mk.injEq] at H
    obtain ⟨rfl, rfl⟩ := H
    go_enter Try.func18, Try.ntmps18
    go_wp2_with (first | ((with_reducible refine gate_dst (N := 1) rfl ?_); refine box_event ?hg (N := 1) ?hd (cs := #[.int .i64 a0_0, .int .i64 a0_1, .int .i64 a0_2, .int .i64 a0_3, .int .i64 a0_4, .slice A0_5 l0_5.length c0_5, .slice A0_6 l0_6.length c0_6, .int .i64 a0_7, .slice A0_8 l0_8.length c0_8, .slice A0_9 l0_9.length c0_9]) (t := 30) ?hr ?_; (case hd => rfl); (case hg => rfl); (case hr => first | (go_simp; done) | (go_simp; rfl)); intro gb236 hg w17 hbox hb; have n0_ := Aside0.mk (below_step (by repeat (first | (with_reducible first | exact HB.out | apply below_alloc | apply pw_below_drewN | apply below_drew1) | exact HB.out)) hb); have n1_ := Aside0.mk (hbox); have n2_ := Aside0.mk ((by rw [hg]; exact (below_size (by repeat (first | (with_reducible first | exact HB.out | apply below_alloc | apply pw_below_drewN | apply below_drew1) | exact HB.out))) : w.heap.size ≤ gb236)); have n3_ := Aside0.mk ((by rw [hg]; exact (below_size (by repeat (first | (with_reducible first | exact HB.out | apply below_alloc | apply pw_below_drewN | apply below_drew1) | exact HB.out))) : w.heap.size ≤ gb236)); clear HB; have HB := n0_; have BK236 := n1_; have GW236 := n2_; have GE236 := n3_; clear n0_ n1_ n2_ n3_; clear hb hbox hg; have hcz18_0 : w17.cell? ⟨gb236, 0, none⟩ = some (.int .i64 a0_0) := (blk_cell BK236.out 0).trans rfl; have hcz18_1 : w17.cell? ⟨gb236, 1, none⟩ = some (.int .i64 a0_1) := (blk_cell BK236.out 1).trans rfl; have hcz18_2 : w17.cell? ⟨gb236, 2, none⟩ = some (.int .i64 a0_2) := (blk_cell BK236.out 2).trans rfl; have hcz18_3 : w17.cell? ⟨gb236, 3, none⟩ = some (.int .i64 a0_3) := (blk_cell BK236.out 3).trans rfl; have hcz18_4 : w17.cell? ⟨gb236, 4, none⟩ = some (.int .i64 a0_4) := (blk_cell BK236.out 4).trans rfl; have hcz18_5 : w17.cell? ⟨gb236, 5, none⟩ = some (.slice A0_5 l0_5.length c0_5) := (blk_cell BK236.out 5).trans rfl; have hcz18_6 : w17.cell? ⟨gb236, 6, none⟩ = some (.slice A0_6 l0_6.length c0_6) := (blk_cell BK236.out 6).trans rfl; have hcz18_7 : w17.cell? ⟨gb236, 7, none⟩ = some (.int .i64 a0_7) := (blk_cell BK236.out 7).trans rfl; have hcz18_8 : w17.cell? ⟨gb236, 8, none⟩ = some (.slice A0_8 l0_8.length c0_8) := (blk_cell BK236.out 8).trans rfl; have hcz18_9 : w17.cell? ⟨gb236, 9, none⟩ = some (.slice A0_9 l0_9.length c0_9) := (blk_cell BK236.out 9).trans rfl; have hfz18_0 := blk_frozen BK236.out 0; have hfz18_1 := blk_frozen BK236.out 1; have hfz18_2 := blk_frozen BK236.out 2; have hfz18_3 := blk_frozen BK236.out 3; have hfz18_4 := blk_frozen BK236.out 4; have hfz18_5 := blk_frozen BK236.out 5; have hfz18_6 := blk_frozen BK236.out 6; have hfz18_7 := blk_frozen BK236.out 7; have hfz18_8 := blk_frozen BK236.out 8; have hfz18_9 := blk_frozen BK236.out 9) | ((with_reducible refine gate_callee (f := 20) rfl ?_); refine goesL_ (some 7) rfl rfl Try.func20 (by kernel_rfl) rfl #[.agg #[.int .i64 a0_0, .int .i64 a0_1, .int .i64 a0_2, .int .i64 a0_3, .int .i64 a0_4, .slice A0_5 l0_5.length c0_5, .slice A0_6 l0_6.length c0_6, .int .i64 a0_7, .slice A0_8 l0_8.length c0_8, .slice A0_9 l0_9.length c0_9]] rfl (by (try simp only [List.map_toArray, List.map_cons, List.map_nil]); first | done | rfl | (simp only [List.length_drop, List.length_take]; rfl)) ?_; (with_reducible refine (record_Check.calls a0_0 a0_1 a0_2 a0_3 a0_4 _ _ l0_5 _ _ l0_6 a0_7 _ _ l0_8 _ _ l0_9 (some q238) _ ?side1 ?side2 ?side3 ?side4 ?side5 ?side6 ?side7 ?side8 A2.out).mono ?_); (case side1 => repeat (first | exact (Kd.C_below HR0_5.out HB.out) | (with_reducible refine Kd.C_alloc ?_ _) | (with_reducible refine Kd.C_drewN ?_ _) | (with_reducible refine Kd.C_drew ?_))); (case side2 => exact HC0_5.out); (case side3 => repeat (first | exact (Kd.C_below HR0_6.out HB.out) | (with_reducible refine Kd.C_alloc ?_ _) | (with_reducible refine Kd.C_drewN ?_ _) | (with_reducible refine Kd.C_drew ?_))); (case side4 => exact HC0_6.out); (case side5 => repeat (first | exact (Kd.C_below HR0_8.out HB.out) | (with_reducible refine Kd.C_alloc ?_ _) | (with_reducible refine Kd.C_drewN ?_ _) | (with_reducible refine Kd.C_drew ?_))); (case side6 => exact HC0_8.out); (case side7 => repeat (first | exact (Kd.C_below HR0_9.out HB.out) | (with_reducible refine Kd.C_alloc ?_ _) | (with_reducible refine Kd.C_drewN ?_ _) | (with_reducible refine Kd.C_drew ?_))); (case side8 => exact HC0_9.out); rintro e w19 ⟨rfl, hb⟩; refine ⟨_, rfl, ?_⟩; have n0_ := Aside0.mk (blk_below (g := gb236) (o := .cells #[.int .i64 a0_0, .int .i64 a0_1, .int .i64 a0_2, .int .i64 a0_3, .int .i64 a0_4, .slice A0_5 l0_5.length c0_5, .slice A0_6 l0_6.length c0_6, .int .i64 a0_7, .slice A0_8 l0_8.length c0_8, .slice A0_9 l0_9.length c0_9] 30 (0, 0)) (by (with_reducible repeat (first | refine blk_drewN ?_ _ | refine blk_drew ?_ | refine blk_alloc ?_ _)); exact BK236.out) hb); have n1_ := Aside0.mk (below_step (by repeat (first | (with_reducible first | exact HB.out | apply below_alloc | apply pw_below_drewN | apply below_drew1 | refine below_set ?_ GE236.out) | exact HB.out)) hb); clear BK236; clear HB; have BK236 := n0_; have HB := n1_; clear n0_ n1_; (try clear hb); (try clear hb2); (try clear hk); (try clear hi); (try simp only [errW_none, errW_some])))
    go_ret2
    exact ⟨_, by first | rfl | (simp [errW_none, errW_some] <;> rfl) | (simp [*, errW_none, errW_some] <;> rfl), by first | exact Kd.R_nil _ _ _ _ _ | exact Kd.N_nil _ _ _ _ _ | exact Kd.V_nil _ _ _ _ _ | exact Kd.Q_nil _ _ _ _ _ | exact Kd.S_nil _ _ _ _ _, by repeat (first | (with_reducible first | exact HB.out | apply below_alloc | apply pw_below_drewN | apply below_drew1 | refine below_set ?_ GE236.out) | exact HB.out)⟩
end Go.Proofs.Ytcplblpmgajmnaa.A
namespace Go.Proofs.Ytcplblpmgajmnaa.A
open Go.RowKit Go.Proofs.YtcplblpmgajmnaaW.PrintWords Go.Proofs.YtcplblpmgajmnaaW.PrintLast Go.Proofs.YtcplblpmgajmnaaW.PrintMore
set_option linter.unusedVariables false
set_option linter.unusedSimpArgs false
def imgNums (l : List S52) : List Int := l.flatMap fun x => [x.f0, x.f1]
def dirtyNums (l : List S54) : List Int := l.flatMap fun x => [x.f0, x.f1]
def activeNums (l : List S56) : List Int := l.flatMap fun x => [x.f0, x.f1, x.f2, x.f3]
theorem imgNums_len (l : List S52) : (imgNums l).length = 2 * l.length := by
  induction l with
  | nil => rfl
  | cons x l ih => simp [imgNums] at ih ⊢; omega
theorem dirtyNums_len (l : List S54) : (dirtyNums l).length = 2 * l.length := by
  induction l with
  | nil => rfl
  | cons x l ih => simp [dirtyNums] at ih ⊢; omega
theorem activeNums_len (l : List S56) : (activeNums l).length = 4 * l.length := by
  induction l with
  | nil => rfl
  | cons x l ih => simp [activeNums] at ih ⊢; omega
structure Rec where
  k : Int
  t : Int
  p : Int
  g : Int
  o : Int
  args : List Int
  imgs : List S52
  n : Int
  di : List S54
  ac : List S56
  deriving DecidableEq
def Rec.zero : Rec := ⟨0, 0, 0, 0, 0, [], [], 0, [], []⟩
def Rec.body (r : Rec) : List Int := [r.g, r.o, (r.args.length : Int)] ++ r.args ++ [(r.imgs.length : Int)] ++ imgNums r.imgs
def Rec.nums (r : Rec) : List Int :=
  if r.k = 5 then [r.k, (r.di.length : Int)] ++ dirtyNums r.di ++ [(r.ac.length : Int)] ++ activeNums r.ac
  else if r.k = 2 then [r.k, r.t, r.p, r.n] ++ r.body
  else if r.k = 1 then [r.k, r.t, r.p] ++ r.body
  else [r.k, r.t, r.p]
def Rec.bytes (r : Rec) : List Int := r.nums.flatMap enc
def Rec.Ok (r : Rec) : Prop := Form r.k r.t r.p r.g r.o r.args r.imgs r.n r.di r.ac
instance (r : Rec) : Decidable r.Ok := by unfold Rec.Ok; infer_instance
structure Rec.Fits (r : Rec) : Prop where
  k : I64 r.k
  t : I64 r.t
  p : I64 r.p
  g : I64 r.g
  o : I64 r.o
  n : I64 r.n
  args : ∀ x ∈ r.args, I64 x
  imgs : ∀ x ∈ r.imgs, I64 x.f0 ∧ I64 x.f1
  di : ∀ x ∈ r.di, I64 x.f0 ∧ I64 x.f1
  ac : ∀ x ∈ r.ac, I64 x.f0 ∧ I64 x.f1 ∧ I64 x.f2 ∧ I64 x.f3
  largs : r.args.length ≤ 5000
  limgs : r.imgs.length ≤ 5000
  ldi : r.di.length ≤ 5000
  lac : r.ac.length ≤ 5000
theorem i64_nat {n : Nat} (h : n ≤ 5000) : I64 (n : Int) := ⟨by omega, by omega⟩
theorem imgNums_fits {l : List S52} (h : ∀ x ∈ l, I64 x.f0 ∧ I64 x.f1) : ∀ x ∈ imgNums l, I64 x := by
  intro x hx
  obtain ⟨y, hy, hx⟩ := List.mem_flatMap.1 hx
  have := h y hy
  simp at hx
  rcases hx with rfl | rfl <;> simp [this]
theorem dirtyNums_fits {l : List S54} (h : ∀ x ∈ l, I64 x.f0 ∧ I64 x.f1) : ∀ x ∈ dirtyNums l, I64 x := by
  intro x hx
  obtain ⟨y, hy, hx⟩ := List.mem_flatMap.1 hx
  have := h y hy
  simp at hx
  rcases hx with rfl | rfl <;> simp [this]
theorem activeNums_fits {l : List S56} (h : ∀ x ∈ l, I64 x.f0 ∧ I64 x.f1 ∧ I64 x.f2 ∧ I64 x.f3) : ∀ x ∈ activeNums l, I64 x := by
  intro x hx
  obtain ⟨y, hy, hx⟩ := List.mem_flatMap.1 hx
  have := h y hy
  simp at hx
  rcases hx with rfl | rfl | rfl | rfl <;> simp [this]
theorem Rec.Fits.body_fits {r : Rec} (h : r.Fits) : ∀ x ∈ r.body, I64 x := by
  intro x hx
  simp only [Rec.body, List.mem_append, List.mem_cons, List.not_mem_nil, or_false] at hx
  rcases hx with (((rfl | rfl | rfl) | hx) | rfl) | hx
  · exact h.g
  · exact h.o
  · exact i64_nat h.largs
  · exact h.args x hx
  · exact i64_nat h.limgs
  · exact imgNums_fits h.imgs x hx
theorem Rec.Fits.nums_fits {r : Rec} (h : r.Fits) : ∀ x ∈ r.nums, I64 x := by
  intro x hx
  unfold Rec.nums at hx
  split at hx
  · simp only [List.mem_append, List.mem_cons, List.not_mem_nil, or_false] at hx
    rcases hx with (((rfl | rfl) | hx) | rfl) | hx
    · exact h.k
    · exact i64_nat h.ldi
    · exact dirtyNums_fits h.di x hx
    · exact i64_nat h.lac
    · exact activeNums_fits h.ac x hx
  · split at hx
    · simp only [List.mem_append, List.mem_cons, List.not_mem_nil, or_false] at hx
      rcases hx with (rfl | rfl | rfl | rfl) | hx
      · exact h.k
      · exact h.t
      · exact h.p
      · exact h.n
      · exact h.body_fits x hx
    · split at hx
      · simp only [List.mem_append, List.mem_cons, List.not_mem_nil, or_false] at hx
        rcases hx with (rfl | rfl | rfl) | hx
        · exact h.k
        · exact h.t
        · exact h.p
        · exact h.body_fits x hx
      · simp only [List.mem_cons, List.not_mem_nil, or_false] at hx
        rcases hx with rfl | rfl | rfl
        · exact h.k
        · exact h.t
        · exact h.p
theorem Put_f {xs : List Int} (hr : ∀ x ∈ xs, I64 x) (hl : xs.length ≤ 50000) (k : Nat) (hk : 11 * xs.length < k) : wire_Put.f k [] xs = some (xs.flatMap enc) := by
  unfold wire_Put.f slices_Clone_byte_byte.f
  rw [if_pos (by simp), Option.bind_some, put_f [] xs hr (by omega) (by simp; omega) k hk]
  rfl
theorem write_l2 (im : List S52) (hl : im.length ≤ 5000) : ∀ (d i k : Nat) (acc : List Int), i + d = im.length → (∀ x ∈ acc ++ imgNums (im.drop i), I64 x) → acc.length + 2 * d ≤ 50000 → 600000 + d < k →
    record_write.l2 k acc im (im.length : Int) (i : Int) = some ((acc ++ imgNums (im.drop i)).flatMap enc) := by
  intro d
  induction d with
  | zero =>
    intro i k acc hd hr ha hk
    obtain ⟨k, rfl⟩ : ∃ m, k = m + 1 := ⟨k - 1, by omega⟩
    rw [List.drop_eq_nil_of_le (by omega)] at hr ⊢
    simp only [imgNums, List.flatMap_nil, List.append_nil] at hr ⊢
    rw [record_write.l2, if_neg (by omega), Put_f hr (by omega) k (by omega)]
    rfl
  | succ d ih =>
    intro i k acc hd hr ha hk
    obtain ⟨k, rfl⟩ : ∃ m, k = m + 1 := ⟨k - 1, by omega⟩
    have hlt : i < im.length := by omega
    have e : imgNums (im.drop i) = [(rd_T52 im (i : Int)).f0, (rd_T52 im (i : Int)).f1] ++ imgNums (im.drop (i + 1)) := by
      rw [List.drop_eq_getElem_cons hlt]
      have : rd_T52 im (i : Int) = im[i] := by
        show im.getD i z52 = _
        rw [List.getD_eq_getElem?_getD, List.getElem?_eq_getElem hlt]; rfl
      rw [this]
      rfl
    rw [e, ← List.append_assoc] at hr ⊢
    rw [record_write.l2, if_pos (by omega), if_pos (by omega), if_pos (by omega), Option.bind_some, if_pos (by simp; omega), wr_succ hlt (by omega), ih (i + 1) k _ (by omega) hr (by simp; omega) (by omega)]
theorem write_l1 (ac : List S56) (hl : ac.length ≤ 5000) : ∀ (d i k : Nat) (acc : List Int), i + d = ac.length → (∀ x ∈ acc ++ activeNums (ac.drop i), I64 x) → acc.length + 4 * d ≤ 50000 → 600000 + d < k →
    record_write.l1 k acc ac (ac.length : Int) (i : Int) = some ((acc ++ activeNums (ac.drop i)).flatMap enc) := by
  intro d
  induction d with
  | zero =>
    intro i k acc hd hr ha hk
    obtain ⟨k, rfl⟩ : ∃ m, k = m + 1 := ⟨k - 1, by omega⟩
    rw [List.drop_eq_nil_of_le (by omega)] at hr ⊢
    simp only [activeNums, List.flatMap_nil, List.append_nil] at hr ⊢
    rw [record_write.l1, if_neg (by omega), Put_f hr (by omega) k (by omega)]
    rfl
  | succ d ih =>
    intro i k acc hd hr ha hk
    obtain ⟨k, rfl⟩ : ∃ m, k = m + 1 := ⟨k - 1, by omega⟩
    have hlt : i < ac.length := by omega
    have e : activeNums (ac.drop i) = [(rd_T56 ac (i : Int)).f0, (rd_T56 ac (i : Int)).f1, (rd_T56 ac (i : Int)).f2, (rd_T56 ac (i : Int)).f3] ++ activeNums (ac.drop (i + 1)) := by
      rw [List.drop_eq_getElem_cons hlt]
      have : rd_T56 ac (i : Int) = ac[i] := by
        show ac.getD i z56 = _
        rw [List.getD_eq_getElem?_getD, List.getElem?_eq_getElem hlt]; rfl
      rw [this]
      rfl
    rw [e, ← List.append_assoc] at hr ⊢
    rw [record_write.l1, if_pos (by omega), if_pos (by omega), if_pos (by omega), Option.bind_some, if_pos (by simp; omega), wr_succ hlt (by omega), ih (i + 1) k _ (by omega) hr (by simp; omega) (by omega)]
theorem write_l0 (a0 a1 a2 a3 a4 : Int) (a5 : List Int) (a6 : List S52) (a7 : Int) (a8 : List S54) (di : List S54) (ac : List S56) (hl : di.length ≤ 5000) (hla : ac.length ≤ 5000) : ∀ (d i k : Nat) (acc : List Int), i + d = di.length →
    (∀ x ∈ acc ++ dirtyNums (di.drop i) ++ [(ac.length : Int)] ++ activeNums ac, I64 x) → acc.length + 2 * d ≤ 20000 → 610000 + d < k →
    record_write.l0 k acc di (di.length : Int) (i : Int) a0 a1 a2 a3 a4 a5 a6 a7 a8 ac = some ((acc ++ dirtyNums (di.drop i) ++ [(ac.length : Int)] ++ activeNums ac).flatMap enc) := by
  intro d
  induction d with
  | zero =>
    intro i k acc hd hr ha hk
    obtain ⟨k, rfl⟩ : ∃ m, k = m + 1 := ⟨k - 1, by omega⟩
    rw [List.drop_eq_nil_of_le (by omega)] at hr ⊢
    simp only [dirtyNums, List.flatMap_nil, List.append_nil] at hr ⊢
    rw [record_write.l0, if_neg (by omega), Option.bind_some, if_pos (by simp; omega)]
    exact write_l1 ac hla ac.length 0 k _ (by omega) hr (by simp; omega) (by omega)
  | succ d ih =>
    intro i k acc hd hr ha hk
    obtain ⟨k, rfl⟩ : ∃ m, k = m + 1 := ⟨k - 1, by omega⟩
    have hlt : i < di.length := by omega
    have e : dirtyNums (di.drop i) = [(rd_T54 di (i : Int)).f0, (rd_T54 di (i : Int)).f1] ++ dirtyNums (di.drop (i + 1)) := by
      rw [List.drop_eq_getElem_cons hlt]
      have : rd_T54 di (i : Int) = di[i] := by
        show di.getD i z54 = _
        rw [List.getD_eq_getElem?_getD, List.getElem?_eq_getElem hlt]; rfl
      rw [this]
      rfl
    rw [e, ← List.append_assoc] at hr ⊢
    rw [record_write.l0, if_pos (by omega), if_pos (by omega), if_pos (by omega), Option.bind_some, if_pos (by simp; omega), wr_succ hlt (by omega), ih (i + 1) k _ (by omega) hr (by simp; omega) (by omega)]
theorem write_j3 {r : Rec} (h : r.Fits) (acc : List Int) (b : Bool) (a0 a1 a2 : Int) (a7 : Int) (a8 : List S54) (a9 : List S56) (hr : ∀ x ∈ acc, I64 x) (ha : acc.length ≤ 10) (k : Nat) (hk : 620000 < k) :
    record_write.j3 k acc b a0 a1 a2 r.g r.o r.args r.imgs a7 a8 a9 = some ((if b = true then acc ++ r.body else acc).flatMap enc) := by
  obtain ⟨k, rfl⟩ : ∃ m, k = m + 1 := ⟨k - 1, by omega⟩
  have h1 := h.largs
  have h2 := h.limgs
  rw [record_write.j3]
  cases b with
  | false => rw [if_neg (by simp), if_neg (by simp), Put_f hr (by omega) k (by omega)]; rfl
  | true =>
    rw [if_pos rfl, if_pos rfl, Option.bind_some, if_pos (by simp; omega), Option.bind_some, if_pos (by simp; omega), Option.bind_some, Option.bind_some, if_pos (by simp; omega)]
    have e : acc ++ [r.g, r.o, (r.args.length : Int)] ++ r.args ++ [(r.imgs.length : Int)] ++ imgNums (r.imgs.drop 0) = acc ++ r.body := by simp [Rec.body]
    have hf : ∀ x ∈ acc ++ r.body, I64 x := fun x hx => (List.mem_append.1 hx).elim (hr x) (h.body_fits x)
    have := write_l2 r.imgs h2 r.imgs.length 0 k (acc ++ [r.g, r.o, (r.args.length : Int)] ++ r.args ++ [(r.imgs.length : Int)]) (by omega) (by rw [e]; exact hf) (by simp; omega) (by omega)
    rw [e] at this
    exact this
theorem write_f {r : Rec} (h : r.Fits) (k : Nat) (hk : 700000 < k) : record_write.f k r.k r.t r.p r.g r.o r.args r.imgs r.n r.di r.ac = some r.bytes := by
  have hf := h.nums_fits
  unfold record_write.f Rec.bytes
  rw [Option.bind_some]
  by_cases h5 : r.k = 5
  · have en : r.nums = [r.k, (r.di.length : Int)] ++ dirtyNums r.di ++ [(r.ac.length : Int)] ++ activeNums r.ac := by unfold Rec.nums; rw [if_pos h5]
    rw [en] at hf ⊢
    rw [if_pos h5, Option.bind_some, if_pos (by simp)]
    exact write_l0 _ _ _ _ _ _ _ _ _ r.di r.ac h.ldi h.lac r.di.length 0 k _ (by omega) hf (by have := h.ldi; simp; omega) (by have := h.ldi; omega)
  · obtain ⟨k, rfl⟩ : ∃ m, k = m + 1 := ⟨k - 1, by omega⟩
    rw [if_neg h5]
    by_cases h2 : r.k = 2
    · rw [if_pos h2, Option.bind_some, if_pos (by simp), record_write.j2, if_neg (by omega), write_j3 h _ _ _ _ _ _ _ _ (by intro x hx; exact hf x (by unfold Rec.nums; rw [if_neg h5, if_pos h2]; exact List.mem_append_left _ hx)) (by simp) k (by omega)]
      unfold Rec.nums
      rw [if_neg h5, if_pos h2, if_pos (by simp [h2])]
      rfl
    · rw [if_neg h2, Option.bind_some, if_pos (by simp), record_write.j2]
      by_cases h1 : r.k = 1
      · rw [if_pos h1, write_j3 h _ _ _ _ _ _ _ _ (by intro x hx; exact hf x (by unfold Rec.nums; rw [if_neg h5, if_neg h2, if_pos h1]; exact List.mem_append_left _ hx)) (by simp) k (by omega)]
        unfold Rec.nums
        rw [if_neg h5, if_neg h2, if_pos h1, if_pos rfl]
        rfl
      · rw [if_neg h1, write_j3 h _ _ _ _ _ _ _ _ (by intro x hx; exact hf x (by unfold Rec.nums; rw [if_neg h5, if_neg h2, if_neg h1]; exact hx)) (by simp) k (by omega)]
        unfold Rec.nums
        rw [if_neg h5, if_neg h2, if_neg h1, if_neg (by simp [h2])]
        rfl
def Rec.enc (r : Rec) : List Int × Option Int := if r.Ok then (if r.bytes.length > 4096 then ([], some 2) else (r.bytes, none)) else ([], some 2)
theorem Encode_f {r : Rec} (h : r.Fits) (k : Nat) (hk : 700000 < k) : record_Encode.f k r.k r.t r.p r.g r.o r.args r.imgs r.n r.di r.ac = some r.enc := by
  unfold record_Encode.f record_Check.f Rec.enc
  rw [Option.bind_some, write_f h k hk]
  by_cases hf : Form r.k r.t r.p r.g r.o r.args r.imgs r.n r.di r.ac
  · rw [if_pos hf, if_pos (show r.Ok from hf), if_pos (by rfl), Option.bind_some]
    by_cases hl : r.bytes.length > 4096
    · rw [if_pos hl, if_pos (by omega)]
    · rw [if_neg hl, if_neg (by omega)]
  · rw [if_neg hf, if_neg (show ¬ r.Ok from hf), if_neg (by simp)]
    rfl
end Go.Proofs.Ytcplblpmgajmnaa.A
namespace Go.Proofs.Ytcplblpmgajmnaa.A
open Go.RowKit Go.Proofs.YtcplblpmgajmnaaW.PrintWords Go.Proofs.YtcplblpmgajmnaaW.PrintLast Go.Proofs.YtcplblpmgajmnaaW.PrintMore
attribute [local go_sem] max2_int min2_int max_two min_two max_three min_three max_four min_four   -- for this text's walks alone
set_option linter.unusedVariables false
set_option linter.unusedSimpArgs false
structure View where
  A : Option Addr
  c : Nat
  l : List Int
def VOK (w0 : World) (v : View) : Prop := Kd.C (Kd.int .i64) w0 v.A v.l.length v.l ∧ v.l.length ≤ v.c
def IsS66 (w0 W : World) (g : Nat) (f0 : View) : Prop := W.heap[g]? = some (.cells #[.slice f0.A f0.l.length f0.c] 66 (0, 0)) ∧ w0.heap.size ≤ g ∧ VOK w0 f0
theorem IsS66.grown {w0 W : World} {g : Nat} {f0 : View} {W1 : World} {row : Option Nat} (h : IsS66 w0 W g f0) (hw : W.grownBy W1 row) (hne : some g ≠ row) : IsS66 w0 W1 g f0 := by
  obtain ⟨hb, hg, hv0⟩ := h
  exact ⟨blk_grown hb hw hne, hg, hv0⟩
theorem IsS66.kept {w0 W : World} {g : Nat} {f0 : View} {W1 : World} {S : Nat → Prop} (h : IsS66 w0 W g f0) (hk : Kept W W1 S) (hne : ¬ S g) : IsS66 w0 W1 g f0 := by
  obtain ⟨hb, hg, hv0⟩ := h
  exact ⟨blk_kept hb hk hne, hg, hv0⟩
theorem IsS66.below {w0 W : World} {g : Nat} {f0 : View} {W1 : World} (h : IsS66 w0 W g f0) (hw : Below W.heap.size W W1) : IsS66 w0 W1 g f0 := h.grown (grown_of_below hw none) (by simp)
theorem IsS66.alloc {w0 W : World} {g : Nat} {f0 : View} (h : IsS66 w0 W g f0) (o : Obj) : IsS66 w0 (W.alloc o) g f0 := h.below (below_alloc (Below.refl _ _) o)
theorem IsS66.drewN {w0 W : World} {g : Nat} {f0 : View} (h : IsS66 w0 W g f0) (m : Nat) : IsS66 w0 (W.drewN m) g f0 := h
theorem IsS66.drew {w0 W : World} {g : Nat} {f0 : View} (h : IsS66 w0 W g f0) : IsS66 w0 W.drew g f0 := h
theorem IsS66.at_ {w0 W : World} {g : Nat} {f0 : View} {w' : World} {m : Nat} (hq : W.drewN m = w') (h : IsS66 w0 W g f0) : IsS66 w0 w' g f0 := by subst hq; exact IsS66.drewN h m
theorem IsS66.apart {w0 W : World} {g : Nat} {f0 : View} {α : Type} {d : Kd α} {e : Nat} {base : Nat} {ok : Nat → Prop} {v : Value} {xs : List α} (h : IsS66 w0 W g f0) (ho : d.R e W base ok v xs) (ht : ∀ q, q ∈ e :: d.E → q ≠ 66) : d.R e W base (fun k => ok k ∧ k ≠ g) v xs := by
  obtain ⟨hb, hg, hv0⟩ := h
  exact Kd.R_types ho hb ht
theorem IsS66.own_ne {w0 W : World} {g : Nat} {f0 : View} {α : Type} {d : Kd α} {e : Nat} {base : Nat} {ok : Nat → Prop} {v : Value} {xs : List α} (h : IsS66 w0 W g f0) (ho : d.R e W base ok v xs) (ht : e ≠ 66) : some g ≠ v.ownBlock := by
  obtain ⟨hb, hg, hv0⟩ := h
  exact Kd.R_ne ho hb ht
theorem IsS66.lt {w0 W : World} {g : Nat} {f0 : View} (h : IsS66 w0 W g f0) : g < W.heap.size := by
  obtain ⟨hb, hg, hv0⟩ := h
  exact blk_lt hb
theorem IsS66.ge {w0 W : World} {g : Nat} {f0 : View} (h : IsS66 w0 W g f0) : w0.heap.size ≤ g := by
  obtain ⟨hb, hg, hv0⟩ := h
  exact hg
theorem IsS66.far {w0 W : World} {g : Nat} {f0 : View} {p : Addr} (h : IsS66 w0 W g f0) (hne : g ≠ p.block) (u : Value) : IsS66 w0 (W.setCell p u) g f0 := by
  obtain ⟨hb, hg, hv0⟩ := h
  exact ⟨blk_far hb hne u, hg, hv0⟩
theorem cellS66_0 {W : World} {g : Nat} {f0 : View} (h : W.heap[g]? = some (.cells #[.slice f0.A f0.l.length f0.c] 66 (0, 0))) : W.cell? ⟨g, 0, none⟩ = some (.slice f0.A f0.l.length f0.c) := (blk_cell h 0).trans rfl
theorem IsS66.set_0 {w0 W : World} {g : Nat} {f0 : View} (h : IsS66 w0 W g f0) (x : View) (hx : VOK w0 x) : IsS66 w0 (W.setCell ⟨g, 0, none⟩ (.slice x.A x.l.length x.c)) g x := by
  obtain ⟨hb, hg, hv0⟩ := h
  exact ⟨by simpa using blk_set hb 0 (.slice x.A x.l.length x.c), hg, hx⟩
def View.tail (v : View) : View := ⟨if v.c = 1 then v.A else v.A.map fun a => a.add 1, v.c - 1, v.l.tail⟩
theorem VOK.tail {w0 : World} {v : View} (h : VOK w0 v) (hn : v.l ≠ []) : VOK w0 v.tail := by
  obtain ⟨A, c, l⟩ := v
  cases l with
  | nil => exact absurd rfl hn
  | cons x l =>
    obtain ⟨h1, h2⟩ := h
    have h3 := Kd.C_drop (m := 1) h1 (by simp) h2
    simp only [List.length_cons] at h2
    refine ⟨?_, by simp [View.tail]; omega⟩
    exact h3
def record_reader_num.f (s0_0 : View) : Option (Int × View) := some (if s0_0.l = [] then (0, s0_0) else (s0_0.l.headD 0, s0_0.tail))
set_option maxHeartbeats 400000 in
theorem num_nil (g : Nat) (A : Option Addr) (c : Nat) (w : World) (hb : w.heap[g]? = some (.cells #[.slice A 0 c] 66 (0, 0))) :
    Calls Try.prog 40 #[.pointer (some ⟨g, 0, none⟩)] w fun e w' => e = .returned (.int .i64 0) ∧ w = w' := by
  have hc : w.cell? ⟨g, 0, none⟩ = some (.slice A 0 c) := (blk_cell hb 0).trans rfl
  have hf := blk_frozen hb 0
  clear hb
  go_enter Try.func40, Try.ntmps40
  go_wp2
  go_ret
  exact ⟨rfl, rfl⟩
set_option maxHeartbeats 400000 in
theorem num_one (g : Nat) (ad : Addr) (x : Int) (w : World) (hb : w.heap[g]? = some (.cells #[.slice (some ad) 1 1] 66 (0, 0))) (hx : w.cell? ad = some (.int .i64 x)) (hne : ad.block ≠ g) :
    Calls Try.prog 40 #[.pointer (some ⟨g, 0, none⟩)] w fun e w' => e = .returned (.int .i64 x) ∧ w' = w.setCell ⟨g, 0, none⟩ (.slice (some ad) 0 0) := by
  have hc : w.cell? ⟨g, 0, none⟩ = some (.slice (some ad) 1 1) := (blk_cell hb 0).trans rfl
  have hf := blk_frozen hb 0
  clear hb
  go_enter Try.func40, Try.ntmps40
  go_wp2
  go_ret
  exact ⟨rfl, rfl⟩
set_option maxHeartbeats 400000 in
theorem num_cons (g : Nat) (ad : Addr) (n c : Nat) (x : Int) (w : World) (hm : n + 1 ≤ 9223372036854775807) (hb : w.heap[g]? = some (.cells #[.slice (some ad) (n + 1) c] 66 (0, 0))) (hx : w.cell? ad = some (.int .i64 x)) (hnc : n + 1 ≤ c) (h1 : ¬ c = 1) (hne : ad.block ≠ g) :
    Calls Try.prog 40 #[.pointer (some ⟨g, 0, none⟩)] w fun e w' => e = .returned (.int .i64 x) ∧ w' = w.setCell ⟨g, 0, none⟩ (.slice (some (ad.add 1)) n (c - 1)) := by
  have hc : w.cell? ⟨g, 0, none⟩ = some (.slice (some ad) (n + 1) c) := (blk_cell hb 0).trans rfl
  have hf := blk_frozen hb 0
  clear hb
  go_enter Try.func40, Try.ntmps40
  go_wp2
  go_ret
  exact ⟨rfl, rfl⟩
theorem keep_set_self (w : World) (g j : Nat) (u : Value) : KeepBut w (w.setCell ⟨g, j, none⟩ u) g none := KeepBut.set_ (KeepBut.refl w g none) j u
theorem record_reader_num.calls (g : Nat) (s0_0 : View) (r1 : Int) (r2 : View) (w0 w : World) (hI : IsS66 w0 w g s0_0) (hB : Below w0.heap.size w0 w) (h : record_reader_num.f s0_0 = some (r1, r2)) :
    Calls Try.prog 40 #[.pointer (some ⟨g, 0, none⟩)] w fun e w' => e = .returned (.int .i64 r1) ∧ IsS66 w0 w' g r2 ∧ Below w0.heap.size w0 w' ∧ KeepBut w w' g none := by
  have hI' := hI
  obtain ⟨hb, hg, hv⟩ := hI'
  obtain ⟨A, c, l⟩ := s0_0
  cases l with
  | nil =>
    simp [record_reader_num.f] at h
    obtain ⟨rfl, rfl⟩ := h
    refine (num_nil g A c w hb).mono ?_
    rintro e w' ⟨rfl, rfl⟩
    exact ⟨rfl, hI, hB, KeepBut.refl _ _ _⟩
  | cons x l =>
    have hvt := hv.tail (by simp)
    simp [record_reader_num.f] at h
    obtain ⟨rfl, rfl⟩ := h
    obtain ⟨hC, hlc⟩ := hv
    have hmax := Kd.C_max hC
    obtain ⟨ad, eA, hx⟩ := Kd.at_int hC 0 (by omega) (by simp)
    obtain rfl : A = some ad := eA
    rw [show ((0 : Int)).toNat = 0 from rfl, Addr.add_zero'] at hx
    have hx' : w0.cell? ad = some (.int .i64 x) := hx
    have hlt := World.block_lt_of_cell? w0 _ hx'
    have hxw : w.cell? ad = some (.int .i64 x) := (hB.cell hlt).trans hx'
    have hne : ad.block ≠ g := Nat.ne_of_lt (Nat.lt_of_lt_of_le hlt hg)
    simp only [List.length_cons] at hlc hmax
    have fin : ∀ u, u = Value.slice (View.tail ⟨some ad, c, x :: l⟩).A (View.tail ⟨some ad, c, x :: l⟩).l.length (View.tail ⟨some ad, c, x :: l⟩).c →
        IsS66 w0 (w.setCell ⟨g, 0, none⟩ u) g (View.tail ⟨some ad, c, x :: l⟩) ∧ Below w0.heap.size w0 (w.setCell ⟨g, 0, none⟩ u) ∧ KeepBut w (w.setCell ⟨g, 0, none⟩ u) g none := by
      intro u hu
      subst hu
      exact ⟨hI.set_0 _ hvt, below_set hB hg, keep_set_self _ _ _ _⟩
    by_cases h1 : c = 1
    · subst h1
      have hl : l = [] := List.eq_nil_of_length_eq_zero (by omega)
      subst hl
      refine (num_one g ad x w hb hxw hne).mono ?_
      rintro e w' ⟨rfl, rfl⟩
      exact ⟨rfl, fin _ (by simp [View.tail])⟩
    · refine (num_cons g ad l.length c x w hmax hb hxw hlc h1 hne).mono ?_
      rintro e w' ⟨rfl, rfl⟩
      exact ⟨rfl, fin _ (by simp [View.tail, h1])⟩
def record_reader_count.f (s0_0 : View) (a1 : Int) : Option (Int × View) := if 0 < a1 then (record_reader_num.f s0_0).bind fun t => some (mx 0 (mn t.1 ((t.2.l.length : Int) / a1)), t.2) else none
set_option maxHeartbeats 400000 in
theorem record_reader_count.calls (g : Nat) (s0_0 : View) (a1 : Int) (r1 : Int) (r2 : View) (w0 w : World) (hI : IsS66 w0 w g s0_0) (hB : Below w0.heap.size w0 w) (h : record_reader_count.f s0_0 a1 = some (r1, r2)) :
    Calls Try.prog 41 #[.pointer (some ⟨g, 0, none⟩), .int .i64 a1] w fun e w' => e = .returned (.int .i64 r1) ∧ IsS66 w0 w' g r2 ∧ Below w0.heap.size w0 w' ∧ KeepBut w w' g none := by
  unfold record_reader_count.f at h
  by_cases ha : 0 < a1
  · rw [if_pos ha] at h
    obtain ⟨t, ht, h⟩ := Option.bind_eq_some_iff.1 h
    obtain ⟨t1, t2⟩ := t
    have hr1 : mx 0 (mn t1 ((t2.l.length : Int) / a1)) = r1 := by simpa using congrArg (fun z => z.map Prod.fst) h
    have hr2 : t2 = r2 := by simpa using congrArg (fun z => z.map Prod.snd) h
    subst hr2
    have Hr := Lib.hid hr1
    clear h hr1
    have Hs := Lib.hid ht
    clear ht
    go_enter Try.func41, Try.ntmps41
    go_wp2_with fail
    refine (record_reader_num.calls g s0_0 t1 t2 w0 w hI hB Hs.out).mono ?_
    rintro e w' ⟨rfl, hI2, hB2, hK⟩
    have hm := Kd.C_max hI2.2.2.1
    have hc : w'.cell? ⟨g, 0, none⟩ = some (.slice t2.A t2.l.length t2.c) := cellS66_0 hI2.1
    have h0 : 0 ≤ (t2.l.length : Int) / a1 := Int.ediv_nonneg (by omega) (by omega)
    have h1 : (t2.l.length : Int) / a1 ≤ (t2.l.length : Int) := Int.ediv_le_self _ (by omega)
    have hq : wrap64 ((t2.l.length : Int) / a1) = (t2.l.length : Int) / a1 := by unfold wrap64; omega
    have Hq := Lib.hid hq
    clear hq h0 h1
    have Hr' : Hid (mx 0 (mn t1 (wrap64 ((t2.l.length : Int) / a1))) = r1) := Lib.hid (by rw [Hq.out]; exact Hr.out)
    clear Hq Hr
    generalize hz : wrap64 ((t2.l.length : Int) / a1) = q at Hr'
    by_cases c1 : q < t1
    · by_cases c2 : 0 < q
      all_goals
        subst hz
        go_wp2
        go_ret
        exact ⟨by rw [← Hr'.out]; unfold mx mn; first | (rw [if_pos c1, if_pos c2]; rfl) | (rw [if_pos c1, if_neg (by omega)]; rfl) | (rw [if_neg (show ¬ wrap64 ((t2.l.length : Int) / a1) < t1 by omega), if_pos c2]; rfl) | (rw [if_neg (show ¬ wrap64 ((t2.l.length : Int) / a1) < t1 by omega), if_neg (by omega)]; rfl), hI2, hB2, hK⟩
    · by_cases c2 : 0 < t1
      all_goals
        subst hz
        go_wp2
        go_ret
        exact ⟨by rw [← Hr'.out]; unfold mx mn; first | (rw [if_pos c1, if_pos c2]; rfl) | (rw [if_pos c1, if_neg (by omega)]; rfl) | (rw [if_neg (show ¬ wrap64 ((t2.l.length : Int) / a1) < t1 by omega), if_pos c2]; rfl) | (rw [if_neg (show ¬ wrap64 ((t2.l.length : Int) / a1) < t1 by omega), if_neg (by omega)]; rfl), hI2, hB2, hK⟩
  · rw [if_neg ha] at h
    exact absurd h (by simp)
end Go.Proofs.Ytcplblpmgajmnaa.A
