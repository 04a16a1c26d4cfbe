/-
  The law RecordKinds answers true, without a panic, at every input: a field which a kind has not makes a record that is not in form. No condition beside those of the given row.
  Joined by wip/prune.py out of: HKinds, LKinds.
-/
import Derived.Test.YtcplblpmgajmnaaBa6
import Derived.Lib.IfaceEq
import Derived.Test.YtcplblpmgajmnaaRows
import Derived.WalkKit
import Derived.ProofKit
import Derived.OpenShut
import Derived.ShutString
import Derived.ChangeOld
import Derived.Below
import Derived.SizedLaws
namespace Go.Proofs.Ytcplblpmgajmnaa.A
open Go.RowKit Go.Proofs.YtcplblpmgajmnaaW.PrintWords Go.Proofs.YtcplblpmgajmnaaW.PrintLast Go.Proofs.YtcplblpmgajmnaaW.PrintMore
set_option linter.unusedVariables false
set_option linter.unusedSimpArgs false
theorem eight_cells {w : World} {g t : Nat} {v0 v1 v2 v3 v4 v5 v6 v7 : Value} (h : w.heap[g]? = some (.cells #[v0, v1, v2, v3, v4, v5, v6, v7] t (0, 0))) :
    w.cell? ⟨g, 0, none⟩ = some v0 ∧ w.cell? ⟨g, 1, none⟩ = some v1 ∧ w.cell? ⟨g, 2, none⟩ = some v2 ∧ w.cell? ⟨g, 3, none⟩ = some v3 ∧ w.cell? ⟨g, 4, none⟩ = some v4 ∧ w.cell? ⟨g, 5, none⟩ = some v5 ∧ w.cell? ⟨g, 6, none⟩ = some v6 ∧ w.cell? ⟨g, 7, none⟩ = some v7 :=
  ⟨(blk_cell h 0).trans rfl, (blk_cell h 1).trans rfl, (blk_cell h 2).trans rfl, (blk_cell h 3).trans rfl, (blk_cell h 4).trans rfl, (blk_cell h 5).trans rfl, (blk_cell h 6).trans rfl, (blk_cell h 7).trans rfl⟩
theorem five_of (x : Int) : 1 ≤ wrap64 (1 + wrap64 ((IntKind.u64.wrap x).tmod 5)) ∧ wrap64 (1 + wrap64 ((IntKind.u64.wrap x).tmod 5)) ≤ 5 := by
  have h : 0 ≤ IntKind.u64.wrap x := by rw [IntKind.wrap_u64]; omega
  rw [Int.tmod_eq_emod_of_nonneg h]
  generalize IntKind.u64.wrap x = u at h
  unfold wrap64
  omega
theorem seven_of (x : Int) : 0 ≤ wrap64 ((IntKind.u64.wrap x).tmod 7) ∧ wrap64 ((IntKind.u64.wrap x).tmod 7) ≤ 6 := by
  have h : 0 ≤ IntKind.u64.wrap x := by rw [IntKind.wrap_u64]; omega
  rw [Int.tmod_eq_emod_of_nonneg h]
  generalize IntKind.u64.wrap x = u at h
  unfold wrap64
  omega
def Tab (K T G O : Int) (b : List Bool) : Prop :=
  (K = 1 ∧ T = 1 ∧ G = 0 ∧ O = 1 ∧ b = [true, true, true, true, false, false, false]) ∨ (K = 2 ∧ T = 1 ∧ G = 3 ∧ O = 0 ∧ b = [true, true, false, true, true, false, false]) ∨ (K = 3 ∧ T = 1 ∧ G = 0 ∧ O = 0 ∧ b = [true, false, false, false, false, false, false]) ∨ (K = 4 ∧ T = 1 ∧ G = 0 ∧ O = 0 ∧ b = [true, false, false, false, false, false, false]) ∨ (K = 5 ∧ T = 0 ∧ G = 0 ∧ O = 0 ∧ b = [false, false, false, false, false, true, true])
theorem tab_form {K T G O : Int} {b : List Bool} (h : Tab K T G O b) : Form K T 0 G O [] [] 0 [] [] := by
  rcases h with ⟨rfl, rfl, rfl, rfl, rfl⟩ | ⟨rfl, rfl, rfl, rfl, rfl⟩ | ⟨rfl, rfl, rfl, rfl, rfl⟩ | ⟨rfl, rfl, rfl, rfl, rfl⟩ | ⟨rfl, rfl, rfl, rfl, rfl⟩ <;> decide
theorem tab_of {K T G O : Int} {a0 a1 a2 a3 a4 a5 : Bool} (hK : 1 ≤ K ∧ K ≤ 5) (h0 : (K = 5 ∧ T = 0 ∧ a0 = false) ∨ (K ≠ 5 ∧ T = 1 ∧ a0 = true)) (h1 : (K = 1 ∧ O = 1 ∧ a1 = true) ∨ (K ≠ 1 ∧ O = 0 ∧ a1 = false)) (h2 : (K = 2 ∧ G = 3 ∧ a2 = true ∧ a3 = true ∧ a4 = true) ∨ (K ≠ 2 ∧ G = 0 ∧ a2 = a1 ∧ a3 = a1 ∧ a4 = false)) (h3 : (K = 5 ∧ a5 = true) ∨ (K ≠ 5 ∧ a5 = false)) : Tab K T G O [a0, a2, a1, a3, a4, a5, a5] := by
  unfold Tab
  obtain rfl | rfl | rfl | rfl | rfl : K = 1 ∨ K = 2 ∨ K = 3 ∨ K = 4 ∨ K = 5 := by omega
  all_goals simp at h0 h1 h2 h3; simp [h0, h1, h2, h3]
theorem new_set {w : World} {p : Addr} {u : Value} {o : Obj} : ((w.setCell p u).alloc o).heap[w.heap.size]? = some o := by
  have h := heap_alloc_new (w.setCell p u) o
  rwa [show (w.setCell p u).heap.size = w.heap.size by simp [World.setCell]] at h
theorem C_one {α : Type} {d : Kd α} {w : World} {g t : Nat} {cs : List Value} {x : α} (hb : w.heap[g]? = some (.cells cs.toArray t (0, 0))) (hl : cs.length = d.sz) (hk : d.K w x cs) : d.C w (some ⟨g, 0, none⟩) [x].length [x] :=
  ⟨rfl, by simp, fun _ => ⟨_, rfl, fun j p hp => by
    obtain rfl : j = 0 := by
      rcases j with _ | j
      · rfl
      · simp at hp
    obtain rfl : x = p := by simpa using hp
    refine ⟨cs, hl, hk, fun i u hu => ?_⟩
    rw [Nat.zero_mul, Nat.zero_add, show (Addr.add ⟨g, 0, none⟩ i) = ⟨g, i, none⟩ by cases i <;> simp [Addr.add]]
    rw [blk_cell hb i]
    simpa using hu⟩⟩
theorem C_int1 {w : World} {g t : Nat} {x : Int} (hb : w.heap[g]? = some (.cells #[.int .i64 x] t (0, 0))) : Kd.C (Kd.int .i64) w (some ⟨g, 0, none⟩) [x].length [x] := C_one (cs := [.int .i64 x]) hb rfl rfl
theorem C_s52 {w : World} {g t : Nat} {x : S52} (hb : w.heap[g]? = some (.cells #[.int .i64 x.f0, .int .i64 x.f1] t (0, 0))) : Kd.C k52 w (some ⟨g, 0, none⟩) [x].length [x] := C_one (cs := [.int .i64 x.f0, .int .i64 x.f1]) hb rfl (k52_mk w x)
theorem C_s54 {w : World} {g t : Nat} {x : S54} (hb : w.heap[g]? = some (.cells #[.int .i64 x.f0, .int .i64 x.f1] t (0, 0))) : Kd.C k54 w (some ⟨g, 0, none⟩) [x].length [x] := C_one (cs := [.int .i64 x.f0, .int .i64 x.f1]) hb rfl (k54_mk w x)
theorem C_s56 {w : World} {g t : Nat} {x : S56} (hb : w.heap[g]? = some (.cells #[.int .i64 x.f0, .int .i64 x.f1, .int .i64 x.f2, .int .i64 x.f3] t (0, 0))) : Kd.C k56 w (some ⟨g, 0, none⟩) [x].length [x] := C_one (cs := [.int .i64 x.f0, .int .i64 x.f1, .int .i64 x.f2, .int .i64 x.f3]) hb rfl (k56_mk w x)
theorem field0 {K T G O : Int} {a0 a1 a2 a3 a4 a5 : Bool} (h : Tab K T G O [a0, a2, a1, a3, a4, a5, a5]) : record_Check.f K T 5 G O [] [] 0 [] [] = some (if a0 then none else some 2) := by
  rcases h with ⟨rfl, rfl, rfl, rfl, hb⟩ | ⟨rfl, rfl, rfl, rfl, hb⟩ | ⟨rfl, rfl, rfl, rfl, hb⟩ | ⟨rfl, rfl, rfl, rfl, hb⟩ | ⟨rfl, rfl, rfl, rfl, hb⟩
  all_goals (simp only [List.cons.injEq] at hb; obtain ⟨rfl, rfl, rfl, rfl, rfl, rfl, _⟩ := hb; unfold record_Check.f; first | decide | decide +kernel)
theorem field1 {K T G O : Int} {a0 a1 a2 a3 a4 a5 : Bool} (h : Tab K T G O [a0, a2, a1, a3, a4, a5, a5]) : record_Check.f K T 0 4 O [] [] 0 [] [] = some (if a2 then none else some 2) := by
  rcases h with ⟨rfl, rfl, rfl, rfl, hb⟩ | ⟨rfl, rfl, rfl, rfl, hb⟩ | ⟨rfl, rfl, rfl, rfl, hb⟩ | ⟨rfl, rfl, rfl, rfl, hb⟩ | ⟨rfl, rfl, rfl, rfl, hb⟩
  all_goals (simp only [List.cons.injEq] at hb; obtain ⟨rfl, rfl, rfl, rfl, rfl, rfl, _⟩ := hb; unfold record_Check.f; first | decide | decide +kernel)
theorem field2 {K T G O : Int} {a0 a1 a2 a3 a4 a5 : Bool} (h : Tab K T G O [a0, a2, a1, a3, a4, a5, a5]) : record_Check.f K T 0 G O [1] [] 0 [] [] = some (if a1 then none else some 2) := by
  rcases h with ⟨rfl, rfl, rfl, rfl, hb⟩ | ⟨rfl, rfl, rfl, rfl, hb⟩ | ⟨rfl, rfl, rfl, rfl, hb⟩ | ⟨rfl, rfl, rfl, rfl, hb⟩ | ⟨rfl, rfl, rfl, rfl, hb⟩
  all_goals (simp only [List.cons.injEq] at hb; obtain ⟨rfl, rfl, rfl, rfl, rfl, rfl, _⟩ := hb; unfold record_Check.f; first | decide | decide +kernel)
theorem field3 {K T G O : Int} {a0 a1 a2 a3 a4 a5 : Bool} (h : Tab K T G O [a0, a2, a1, a3, a4, a5, a5]) : record_Check.f K T 0 G O [] [⟨2, 2⟩] 0 [] [] = some (if a3 then none else some 2) := by
  rcases h with ⟨rfl, rfl, rfl, rfl, hb⟩ | ⟨rfl, rfl, rfl, rfl, hb⟩ | ⟨rfl, rfl, rfl, rfl, hb⟩ | ⟨rfl, rfl, rfl, rfl, hb⟩ | ⟨rfl, rfl, rfl, rfl, hb⟩
  all_goals (simp only [List.cons.injEq] at hb; obtain ⟨rfl, rfl, rfl, rfl, rfl, rfl, _⟩ := hb; unfold record_Check.f; first | decide | decide +kernel)
theorem field4 {K T G O : Int} {a0 a1 a2 a3 a4 a5 : Bool} (h : Tab K T G O [a0, a2, a1, a3, a4, a5, a5]) : record_Check.f K T 0 G O [] [] 9 [] [] = some (if a4 then none else some 2) := by
  rcases h with ⟨rfl, rfl, rfl, rfl, hb⟩ | ⟨rfl, rfl, rfl, rfl, hb⟩ | ⟨rfl, rfl, rfl, rfl, hb⟩ | ⟨rfl, rfl, rfl, rfl, hb⟩ | ⟨rfl, rfl, rfl, rfl, hb⟩
  all_goals (simp only [List.cons.injEq] at hb; obtain ⟨rfl, rfl, rfl, rfl, rfl, rfl, _⟩ := hb; unfold record_Check.f; first | decide | decide +kernel)
theorem field5 {K T G O : Int} {a0 a1 a2 a3 a4 a5 : Bool} (h : Tab K T G O [a0, a2, a1, a3, a4, a5, a5]) : record_Check.f K T 0 G O [] [] 0 [⟨1, 1⟩] [] = some (if a5 then none else some 2) := by
  rcases h with ⟨rfl, rfl, rfl, rfl, hb⟩ | ⟨rfl, rfl, rfl, rfl, hb⟩ | ⟨rfl, rfl, rfl, rfl, hb⟩ | ⟨rfl, rfl, rfl, rfl, hb⟩ | ⟨rfl, rfl, rfl, rfl, hb⟩
  all_goals (simp only [List.cons.injEq] at hb; obtain ⟨rfl, rfl, rfl, rfl, rfl, rfl, _⟩ := hb; unfold record_Check.f; first | decide | decide +kernel)
theorem field6 {K T G O : Int} {a0 a1 a2 a3 a4 a5 : Bool} (h : Tab K T G O [a0, a2, a1, a3, a4, a5, a5]) : record_Check.f K T 0 G O [] [] 0 [] [⟨1, 0, 0, 0⟩] = some (if a5 then none else some 2) := by
  rcases h with ⟨rfl, rfl, rfl, rfl, hb⟩ | ⟨rfl, rfl, rfl, rfl, hb⟩ | ⟨rfl, rfl, rfl, rfl, hb⟩ | ⟨rfl, rfl, rfl, rfl, hb⟩ | ⟨rfl, rfl, rfl, rfl, hb⟩
  all_goals (simp only [List.cons.injEq] at hb; obtain ⟨rfl, rfl, rfl, rfl, rfl, rfl, _⟩ := hb; unfold record_Check.f; first | decide | decide +kernel)
set_option maxHeartbeats 4000000 in
set_option maxRecDepth 100000 in
theorem kinds_walk (w : World) (x y : Int) : Calls Try.prog 7 #[.int .i64 x, .int .i64 y] w fun e w' => e = .returned (.bool true) ∧ Below w.heap.size w w' := by
  have hu30 := Try.underlying30
  have hu32 := Try.underlying32
  have hu44 := Try.underlying44
  have hK := Lib.hid (five_of x)
  have hF := Lib.hid (seven_of y)
  go_enter Try.func7, Try.ntmps7
  go_wp2_with fail
  refine (alive_true _).mono ?_
  rintro e w1 ⟨rfl, hb⟩
  have HB := Lib.hid hb
  have hle0 := Lib.hid hb.size
  clear hb
  go_upto_region 4 with (fail)
  go_cut [4, 5, 6] (fun v4 v5 v6 wc => ∃ K : Int, (1 ≤ K ∧ K ≤ 5) ∧ v4 = .bool false ∧ v5 = .pointer (some ⟨w1.heap.size, 0, none⟩) ∧ v6 = .pointer (some ⟨w1.heap.size + 1, 0, none⟩) ∧ wc.heap[w1.heap.size]? = some (.cells #[.int .i64 K, .int .i64 0, .int .i64 0, .int .i64 0, .int .i64 0, .slice none 0 0, .slice none 0 0, .int .i64 0, .slice none 0 0, .slice none 0 0] 30 (0, 0)) ∧ wc.heap[w1.heap.size + 1]? = some (.cells #[.bool false, .bool false, .bool false, .bool false, .bool false, .bool false, .bool false, .bool false] 50 (0, 0)) ∧ Below w.heap.size w wc)
  case first =>
    go_wp2
    go_meet
    case rel =>
      have h2 := heap_alloc_new (w1.alloc (.cells #[.int .i64 (wrap64 (1 + wrap64 ((IntKind.u64.wrap x).tmod 5))), .int .i64 0, .int .i64 0, .int .i64 0, .int .i64 0, .slice none 0 0, .slice none 0 0, .int .i64 0, .slice none 0 0, .slice none 0 0] 30)) (.cells #[.bool false, .bool false, .bool false, .bool false, .bool false, .bool false, .bool false, .bool false] 50)
      rw [World.size_alloc] at h2
      exact ⟨_, hK.out, rfl, rfl, rfl, blk_alloc (heap_alloc_new w1 _) _, h2, below_alloc (below_alloc HB.out _) _⟩
  case rest =>
    obtain ⟨K, hK5, rfl, rfl, rfl, BK1, BK2, HBc⟩ := hcut
    clear HB hK
    have HB := Lib.hid HBc
    have hle : w.heap.size ≤ w1.heap.size := by have := blk_lt BK1; have := blk_lt BK2; exact hle0.out
    clear HBc
    replace BK1 := Lib.hid BK1
    replace BK2 := Lib.hid BK2
    obtain ⟨d_0, d_1, d_2, d_3, d_4, d_5, d_6, d_7, d_8, d_9⟩ := ten_cells BK1.out
    have hfd := ten_free BK1.out
    obtain ⟨f_0, f_1, f_2, f_3, f_4, f_5, f_6, f_7⟩ := eight_cells BK2.out
    have hfa := ten_free BK2.out
    go_upto_if 20 with (fail)
    go_cut [5] (fun v5 wc => v5 = .pointer (some ⟨w1.heap.size, 0, none⟩) ∧ ∃ (T : Int) (a0 : Bool), Hid (((K = 5 ∧ T = 0 ∧ a0 = false) ∨ (K ≠ 5 ∧ T = 1 ∧ a0 = true))) ∧ wc.heap[w1.heap.size]? = some (.cells #[.int .i64 K, .int .i64 T, .int .i64 0, .int .i64 0, .int .i64 0, .slice none 0 0, .slice none 0 0, .int .i64 0, .slice none 0 0, .slice none 0 0] 30 (0, 0)) ∧ wc.heap[w1.heap.size + 1]? = some (.cells #[.bool a0, .bool false, .bool false, .bool false, .bool false, .bool false, .bool false, .bool false] 50 (0, 0)) ∧ Below w.heap.size w wc)
    case first =>
      by_cases hk : K = 5
      · have hb1 : (K == 5) = true := beq_iff_eq.mpr hk
        have hb2 : (K != 5) = false := bne_eq_false_iff_eq.mpr hk
        replace hk := Lib.hid hk
        go_wp2
        go_meet
        case rel => exact ⟨rfl, _, _, Lib.hid (.inl ⟨hk.out, rfl, rfl⟩), BK1.out, BK2.out, HB.out⟩
      · have hb1 : (K == 5) = false := beq_eq_false_iff_ne.mpr hk
        have hb2 : (K != 5) = true := bne_iff_ne.mpr hk
        replace hk := Lib.hid hk
        go_wp2
        go_meet
        case rel => exact ⟨rfl, _, _, Lib.hid (.inr ⟨hk.out, rfl, rfl⟩), (blk_far (blk_put BK1.out 1 _ rfl) (by simp) _), (blk_put (blk_far BK2.out (by simp) _) 0 _ rfl), (below_set (below_set HB.out hle) (Nat.le_succ_of_le hle))⟩
    case rest =>
      clear BK1 BK2 HB d_0 d_1 d_2 d_3 d_4 d_5 d_6 d_7 d_8 d_9 f_0 f_1 f_2 f_3 f_4 f_5 f_6 f_7 hfd hfa
      obtain ⟨rfl, T, a0, HF0, BK1, BK2, HBc⟩ := hcut
      have HB := Lib.hid HBc
      clear HBc
      replace BK1 := Lib.hid BK1
      replace BK2 := Lib.hid BK2
      obtain ⟨d_0, d_1, d_2, d_3, d_4, d_5, d_6, d_7, d_8, d_9⟩ := ten_cells BK1.out
      have hfd := ten_free BK1.out
      obtain ⟨f_0, f_1, f_2, f_3, f_4, f_5, f_6, f_7⟩ := eight_cells BK2.out
      have hfa := ten_free BK2.out
      go_upto_if 25 with (fail)
      go_cut [5] (fun v5 wc => v5 = .pointer (some ⟨w1.heap.size, 0, none⟩) ∧ ∃ (O : Int) (a1 : Bool), Hid (((K = 1 ∧ O = 1 ∧ a1 = true) ∨ (K ≠ 1 ∧ O = 0 ∧ a1 = false))) ∧ wc.heap[w1.heap.size]? = some (.cells #[.int .i64 K, .int .i64 T, .int .i64 0, .int .i64 0, .int .i64 O, .slice none 0 0, .slice none 0 0, .int .i64 0, .slice none 0 0, .slice none 0 0] 30 (0, 0)) ∧ wc.heap[w1.heap.size + 1]? = some (.cells #[.bool a0, .bool a1, .bool a1, .bool a1, .bool false, .bool false, .bool false, .bool false] 50 (0, 0)) ∧ Below w.heap.size w wc)
      case first =>
        by_cases hk : K = 1
        · have hb1 : (K == 1) = true := beq_iff_eq.mpr hk
          have hb2 : (K != 1) = false := bne_eq_false_iff_eq.mpr hk
          replace hk := Lib.hid hk
          go_wp2
          go_meet
          case rel => exact ⟨rfl, _, _, Lib.hid (.inl ⟨hk.out, rfl, rfl⟩), (blk_far (blk_far (blk_far (blk_put BK1.out 4 _ rfl) (by simp) _) (by simp) _) (by simp) _), (blk_put (blk_put (blk_put (blk_far BK2.out (by simp) _) 1 _ rfl) 2 _ rfl) 3 _ rfl), (below_set (below_set (below_set (below_set HB.out hle) (Nat.le_succ_of_le hle)) (Nat.le_succ_of_le hle)) (Nat.le_succ_of_le hle))⟩
        · have hb1 : (K == 1) = false := beq_eq_false_iff_ne.mpr hk
          have hb2 : (K != 1) = true := bne_iff_ne.mpr hk
          replace hk := Lib.hid hk
          go_wp2
          go_meet
          case rel => exact ⟨rfl, _, _, Lib.hid (.inr ⟨hk.out, rfl, rfl⟩), BK1.out, BK2.out, HB.out⟩
      case rest =>
        clear BK1 BK2 HB d_0 d_1 d_2 d_3 d_4 d_5 d_6 d_7 d_8 d_9 f_0 f_1 f_2 f_3 f_4 f_5 f_6 f_7 hfd hfa
        obtain ⟨rfl, O, a1, HF1, BK1, BK2, HBc⟩ := hcut
        have HB := Lib.hid HBc
        clear HBc
        replace BK1 := Lib.hid BK1
        replace BK2 := Lib.hid BK2
        obtain ⟨d_0, d_1, d_2, d_3, d_4, d_5, d_6, d_7, d_8, d_9⟩ := ten_cells BK1.out
        have hfd := ten_free BK1.out
        obtain ⟨f_0, f_1, f_2, f_3, f_4, f_5, f_6, f_7⟩ := eight_cells BK2.out
        have hfa := ten_free BK2.out
        go_upto_if 32 with (fail)
        go_cut [5] (fun v5 wc => v5 = .pointer (some ⟨w1.heap.size, 0, none⟩) ∧ ∃ (G : Int) (a2 a3 a4 : Bool), Hid (((K = 2 ∧ G = 3 ∧ a2 = true ∧ a3 = true ∧ a4 = true) ∨ (K ≠ 2 ∧ G = 0 ∧ a2 = a1 ∧ a3 = a1 ∧ a4 = false))) ∧ wc.heap[w1.heap.size]? = some (.cells #[.int .i64 K, .int .i64 T, .int .i64 0, .int .i64 G, .int .i64 O, .slice none 0 0, .slice none 0 0, .int .i64 0, .slice none 0 0, .slice none 0 0] 30 (0, 0)) ∧ wc.heap[w1.heap.size + 1]? = some (.cells #[.bool a0, .bool a2, .bool a1, .bool a3, .bool a4, .bool false, .bool false, .bool false] 50 (0, 0)) ∧ Below w.heap.size w wc)
        case first =>
          by_cases hk : K = 2
          · have hb1 : (K == 2) = true := beq_iff_eq.mpr hk
            have hb2 : (K != 2) = false := bne_eq_false_iff_eq.mpr hk
            replace hk := Lib.hid hk
            go_wp2
            go_meet
            case rel => exact ⟨rfl, _, _, _, _, Lib.hid (.inl ⟨hk.out, rfl, rfl, rfl, rfl⟩), (blk_far (blk_far (blk_far (blk_put BK1.out 3 _ rfl) (by simp) _) (by simp) _) (by simp) _), (blk_put (blk_put (blk_put (blk_far BK2.out (by simp) _) 1 _ rfl) 3 _ rfl) 4 _ rfl), (below_set (below_set (below_set (below_set HB.out hle) (Nat.le_succ_of_le hle)) (Nat.le_succ_of_le hle)) (Nat.le_succ_of_le hle))⟩
          · have hb1 : (K == 2) = false := beq_eq_false_iff_ne.mpr hk
            have hb2 : (K != 2) = true := bne_iff_ne.mpr hk
            replace hk := Lib.hid hk
            go_wp2
            go_meet
            case rel => exact ⟨rfl, _, _, _, _, Lib.hid (.inr ⟨hk.out, rfl, rfl, rfl, rfl⟩), BK1.out, BK2.out, HB.out⟩
        case rest =>
          clear BK1 BK2 HB d_0 d_1 d_2 d_3 d_4 d_5 d_6 d_7 d_8 d_9 f_0 f_1 f_2 f_3 f_4 f_5 f_6 f_7 hfd hfa
          obtain ⟨rfl, G, a2, a3, a4, HF2, BK1, BK2, HBc⟩ := hcut
          have HB := Lib.hid HBc
          clear HBc
          replace BK1 := Lib.hid BK1
          replace BK2 := Lib.hid BK2
          obtain ⟨d_0, d_1, d_2, d_3, d_4, d_5, d_6, d_7, d_8, d_9⟩ := ten_cells BK1.out
          have hfd := ten_free BK1.out
          obtain ⟨f_0, f_1, f_2, f_3, f_4, f_5, f_6, f_7⟩ := eight_cells BK2.out
          have hfa := ten_free BK2.out
          go_upto_if 39 with (fail)
          go_cut [5] (fun v5 wc => v5 = .pointer (some ⟨w1.heap.size, 0, none⟩) ∧ ∃ (a5 : Bool), Hid (((K = 5 ∧ a5 = true) ∨ (K ≠ 5 ∧ a5 = false))) ∧ wc.heap[w1.heap.size]? = some (.cells #[.int .i64 K, .int .i64 T, .int .i64 0, .int .i64 G, .int .i64 O, .slice none 0 0, .slice none 0 0, .int .i64 0, .slice none 0 0, .slice none 0 0] 30 (0, 0)) ∧ wc.heap[w1.heap.size + 1]? = some (.cells #[.bool a0, .bool a2, .bool a1, .bool a3, .bool a4, .bool a5, .bool a5, .bool false] 50 (0, 0)) ∧ Below w.heap.size w wc)
          case first =>
            by_cases hk : K = 5
            · have hb1 : (K == 5) = true := beq_iff_eq.mpr hk
              have hb2 : (K != 5) = false := bne_eq_false_iff_eq.mpr hk
              replace hk := Lib.hid hk
              go_wp2
              go_meet
              case rel => exact ⟨rfl, _, Lib.hid (.inl ⟨hk.out, rfl⟩), (blk_far (blk_far BK1.out (by simp) _) (by simp) _), (blk_put (blk_put BK2.out 5 _ rfl) 6 _ rfl), (below_set (below_set HB.out (Nat.le_succ_of_le hle)) (Nat.le_succ_of_le hle))⟩
            · have hb1 : (K == 5) = false := beq_eq_false_iff_ne.mpr hk
              have hb2 : (K != 5) = true := bne_iff_ne.mpr hk
              replace hk := Lib.hid hk
              go_wp2
              go_meet
              case rel => exact ⟨rfl, _, Lib.hid (.inr ⟨hk.out, rfl⟩), BK1.out, BK2.out, HB.out⟩
          case rest =>
            clear BK1 BK2 HB d_0 d_1 d_2 d_3 d_4 d_5 d_6 d_7 d_8 d_9 f_0 f_1 f_2 f_3 f_4 f_5 f_6 f_7 hfd hfa
            obtain ⟨rfl, a5, HF3, BK1, BK2, HBc⟩ := hcut
            have HB := Lib.hid HBc
            clear HBc
            have ht := Lib.hid (tab_of hK5 HF0.out HF1.out HF2.out HF3.out)
            clear HF0 HF1 HF2 HF3
            replace BK1 := Lib.hid BK1
            replace BK2 := Lib.hid BK2
            obtain ⟨d_0, d_1, d_2, d_3, d_4, d_5, d_6, d_7, d_8, d_9⟩ := ten_cells BK1.out
            have hfd := ten_free BK1.out
            go_wp2_with fail
            refine (record_Check.calls K T 0 G O none 0 [] none 0 [] 0 none 0 [] none 0 [] none _ (Kd.C_nil _ _) (Nat.le_refl _) (Kd.C_nil _ _) (Nat.le_refl _) (Kd.C_nil _ _) (Nat.le_refl _) (Kd.C_nil _ _) (Nat.le_refl _) (by unfold record_Check.f; rw [if_pos (tab_form ht.out)])).mono ?_
            rintro e w2 ⟨rfl, hb⟩
            replace BK1 := Lib.hid (blk_below BK1.out hb)
            replace BK2 := Lib.hid (blk_below BK2.out hb)
            replace HB := Lib.hid (below_then HB.out HB.out.size hb)
            clear hb d_0 d_1 d_2 d_3 d_4 d_5 d_6 d_7 d_8 d_9 hfd
            obtain ⟨d_0, d_1, d_2, d_3, d_4, d_5, d_6, d_7, d_8, d_9⟩ := ten_cells BK1.out
            have hfd := ten_free BK1.out
            have hlt : w1.heap.size < w2.heap.size := blk_lt BK1.out
            have hlt2 : w1.heap.size + 1 < w2.heap.size := blk_lt BK2.out
            simp only [errW_none]
            go_upto_block 0 with (fail)
            have hFy := hF.out
            clear hF
            generalize wrap64 ((IntKind.u64.wrap y).tmod 7) = F at hFy ⊢
            obtain rfl | rfl | rfl | rfl | rfl | rfl | rfl : F = 0 ∨ F = 1 ∨ F = 2 ∨ F = 3 ∨ F = 4 ∨ F = 5 ∨ F = 6 := by omega
            · go_wp2_with fail
              refine (record_Check.calls K T 5 G O none 0 [] none 0 [] 0 none 0 [] none 0 [] (if a0 then none else some 2) _ (Kd.C_nil _ _) (Nat.le_refl _) (Kd.C_nil _ _) (Nat.le_refl _) (Kd.C_nil _ _) (Nat.le_refl _) (Kd.C_nil _ _) (Nat.le_refl _) (field0 ht.out)).mono ?_
              rintro e w3 ⟨rfl, hb⟩
              replace BK2 := Lib.hid (blk_below (blk_far BK2.out (by simp) _) hb)
              replace HB := Lib.hid (below_then (below_set HB.out hle) (below_size (below_set HB.out hle)) hb)
              clear hb
              obtain ⟨f_0, f_1, f_2, f_3, f_4, f_5, f_6, f_7⟩ := eight_cells BK2.out
              have hfa := ten_free BK2.out
              cases a0
              · simp only [if_true, if_false, errW_none, errW_some, Bool.false_eq_true, reduceIte]
                go_wp2
                have hie := fun (W : World) (a b : Int) => Lib.run_eql_iface_int (P := Try.prog) (t := 32) (tx := 44) (k := .i64) W a b Try.underlying32 (by kernel_rfl) Try.underlying44
                go_region
                go_wp2
                go_ret
                exact ⟨by rfl, by (with_reducible repeat (first | apply below_alloc | apply pw_below_drewN | apply below_drew1)); exact HB.out⟩
              · simp only [if_true, if_false, errW_none, errW_some, Bool.false_eq_true, reduceIte]
                go_wp2
                have hie := fun (W : World) (a b : Int) => Lib.run_eql_iface_int (P := Try.prog) (t := 32) (tx := 44) (k := .i64) W a b Try.underlying32 (by kernel_rfl) Try.underlying44
                go_region
                go_wp2
                go_ret
                exact ⟨by rfl, by (with_reducible repeat (first | apply below_alloc | apply pw_below_drewN | apply below_drew1)); exact HB.out⟩
            · go_wp2_with fail
              refine (record_Check.calls K T 0 4 O none 0 [] none 0 [] 0 none 0 [] none 0 [] (if a2 then none else some 2) _ (Kd.C_nil _ _) (Nat.le_refl _) (Kd.C_nil _ _) (Nat.le_refl _) (Kd.C_nil _ _) (Nat.le_refl _) (Kd.C_nil _ _) (Nat.le_refl _) (field1 ht.out)).mono ?_
              rintro e w3 ⟨rfl, hb⟩
              replace BK2 := Lib.hid (blk_below (blk_far BK2.out (by simp) _) hb)
              replace HB := Lib.hid (below_then (below_set HB.out hle) (below_size (below_set HB.out hle)) hb)
              clear hb
              obtain ⟨f_0, f_1, f_2, f_3, f_4, f_5, f_6, f_7⟩ := eight_cells BK2.out
              have hfa := ten_free BK2.out
              cases a2
              · simp only [if_true, if_false, errW_none, errW_some, Bool.false_eq_true, reduceIte]
                go_wp2
                have hie := fun (W : World) (a b : Int) => Lib.run_eql_iface_int (P := Try.prog) (t := 32) (tx := 44) (k := .i64) W a b Try.underlying32 (by kernel_rfl) Try.underlying44
                go_region
                go_wp2
                go_ret
                exact ⟨by rfl, by (with_reducible repeat (first | apply below_alloc | apply pw_below_drewN | apply below_drew1)); exact HB.out⟩
              · simp only [if_true, if_false, errW_none, errW_some, Bool.false_eq_true, reduceIte]
                go_wp2
                have hie := fun (W : World) (a b : Int) => Lib.run_eql_iface_int (P := Try.prog) (t := 32) (tx := 44) (k := .i64) W a b Try.underlying32 (by kernel_rfl) Try.underlying44
                go_region
                go_wp2
                go_ret
                exact ⟨by rfl, by (with_reducible repeat (first | apply below_alloc | apply pw_below_drewN | apply below_drew1)); exact HB.out⟩
            · go_wp2_with fail
              refine (record_Check.calls K T 0 G O _ _ [(1 : Int)] none 0 [] 0 none 0 [] none 0 [] (if a1 then none else some 2) _ (C_int1 new_set) (Nat.le_refl _) (Kd.C_nil _ _) (Nat.le_refl _) (Kd.C_nil _ _) (Nat.le_refl _) (Kd.C_nil _ _) (Nat.le_refl _) (field2 ht.out)).mono ?_
              rintro e w3 ⟨rfl, hb⟩
              replace BK2 := Lib.hid (blk_below (blk_alloc (blk_far BK2.out (by simp) _) _) hb)
              replace HB := Lib.hid (below_then (below_alloc (below_set HB.out hle) _) (below_size (below_alloc (below_set HB.out hle) _)) hb)
              clear hb
              obtain ⟨f_0, f_1, f_2, f_3, f_4, f_5, f_6, f_7⟩ := eight_cells BK2.out
              have hfa := ten_free BK2.out
              cases a1
              · simp only [if_true, if_false, errW_none, errW_some, Bool.false_eq_true, reduceIte]
                go_wp2
                have hie := fun (W : World) (a b : Int) => Lib.run_eql_iface_int (P := Try.prog) (t := 32) (tx := 44) (k := .i64) W a b Try.underlying32 (by kernel_rfl) Try.underlying44
                go_region
                go_wp2
                go_ret
                exact ⟨by rfl, by (with_reducible repeat (first | apply below_alloc | apply pw_below_drewN | apply below_drew1)); exact HB.out⟩
              · simp only [if_true, if_false, errW_none, errW_some, Bool.false_eq_true, reduceIte]
                go_wp2
                have hie := fun (W : World) (a b : Int) => Lib.run_eql_iface_int (P := Try.prog) (t := 32) (tx := 44) (k := .i64) W a b Try.underlying32 (by kernel_rfl) Try.underlying44
                go_region
                go_wp2
                go_ret
                exact ⟨by rfl, by (with_reducible repeat (first | apply below_alloc | apply pw_below_drewN | apply below_drew1)); exact HB.out⟩
            · go_wp2_with fail
              refine (record_Check.calls K T 0 G O none 0 [] _ _ [⟨2, 2⟩] 0 none 0 [] none 0 [] (if a3 then none else some 2) _ (Kd.C_nil _ _) (Nat.le_refl _) (C_s52 new_set) (Nat.le_refl _) (Kd.C_nil _ _) (Nat.le_refl _) (Kd.C_nil _ _) (Nat.le_refl _) (field3 ht.out)).mono ?_
              rintro e w3 ⟨rfl, hb⟩
              replace BK2 := Lib.hid (blk_below (blk_alloc (blk_far BK2.out (by simp) _) _) hb)
              replace HB := Lib.hid (below_then (below_alloc (below_set HB.out hle) _) (below_size (below_alloc (below_set HB.out hle) _)) hb)
              clear hb
              obtain ⟨f_0, f_1, f_2, f_3, f_4, f_5, f_6, f_7⟩ := eight_cells BK2.out
              have hfa := ten_free BK2.out
              cases a3
              · simp only [if_true, if_false, errW_none, errW_some, Bool.false_eq_true, reduceIte]
                go_wp2
                have hie := fun (W : World) (a b : Int) => Lib.run_eql_iface_int (P := Try.prog) (t := 32) (tx := 44) (k := .i64) W a b Try.underlying32 (by kernel_rfl) Try.underlying44
                go_region
                go_wp2
                go_ret
                exact ⟨by rfl, by (with_reducible repeat (first | apply below_alloc | apply pw_below_drewN | apply below_drew1)); exact HB.out⟩
              · simp only [if_true, if_false, errW_none, errW_some, Bool.false_eq_true, reduceIte]
                go_wp2
                have hie := fun (W : World) (a b : Int) => Lib.run_eql_iface_int (P := Try.prog) (t := 32) (tx := 44) (k := .i64) W a b Try.underlying32 (by kernel_rfl) Try.underlying44
                go_region
                go_wp2
                go_ret
                exact ⟨by rfl, by (with_reducible repeat (first | apply below_alloc | apply pw_below_drewN | apply below_drew1)); exact HB.out⟩
            · go_wp2_with fail
              refine (record_Check.calls K T 0 G O none 0 [] none 0 [] 9 none 0 [] none 0 [] (if a4 then none else some 2) _ (Kd.C_nil _ _) (Nat.le_refl _) (Kd.C_nil _ _) (Nat.le_refl _) (Kd.C_nil _ _) (Nat.le_refl _) (Kd.C_nil _ _) (Nat.le_refl _) (field4 ht.out)).mono ?_
              rintro e w3 ⟨rfl, hb⟩
              replace BK2 := Lib.hid (blk_below (blk_far BK2.out (by simp) _) hb)
              replace HB := Lib.hid (below_then (below_set HB.out hle) (below_size (below_set HB.out hle)) hb)
              clear hb
              obtain ⟨f_0, f_1, f_2, f_3, f_4, f_5, f_6, f_7⟩ := eight_cells BK2.out
              have hfa := ten_free BK2.out
              cases a4
              · simp only [if_true, if_false, errW_none, errW_some, Bool.false_eq_true, reduceIte]
                go_wp2
                have hie := fun (W : World) (a b : Int) => Lib.run_eql_iface_int (P := Try.prog) (t := 32) (tx := 44) (k := .i64) W a b Try.underlying32 (by kernel_rfl) Try.underlying44
                go_region
                go_wp2
                go_ret
                exact ⟨by rfl, by (with_reducible repeat (first | apply below_alloc | apply pw_below_drewN | apply below_drew1)); exact HB.out⟩
              · simp only [if_true, if_false, errW_none, errW_some, Bool.false_eq_true, reduceIte]
                go_wp2
                have hie := fun (W : World) (a b : Int) => Lib.run_eql_iface_int (P := Try.prog) (t := 32) (tx := 44) (k := .i64) W a b Try.underlying32 (by kernel_rfl) Try.underlying44
                go_region
                go_wp2
                go_ret
                exact ⟨by rfl, by (with_reducible repeat (first | apply below_alloc | apply pw_below_drewN | apply below_drew1)); exact HB.out⟩
            · go_wp2_with fail
              refine (record_Check.calls K T 0 G O none 0 [] none 0 [] 0 _ _ [⟨1, 1⟩] none 0 [] (if a5 then none else some 2) _ (Kd.C_nil _ _) (Nat.le_refl _) (Kd.C_nil _ _) (Nat.le_refl _) (C_s54 new_set) (Nat.le_refl _) (Kd.C_nil _ _) (Nat.le_refl _) (field5 ht.out)).mono ?_
              rintro e w3 ⟨rfl, hb⟩
              replace BK2 := Lib.hid (blk_below (blk_alloc (blk_far BK2.out (by simp) _) _) hb)
              replace HB := Lib.hid (below_then (below_alloc (below_set HB.out hle) _) (below_size (below_alloc (below_set HB.out hle) _)) hb)
              clear hb
              obtain ⟨f_0, f_1, f_2, f_3, f_4, f_5, f_6, f_7⟩ := eight_cells BK2.out
              have hfa := ten_free BK2.out
              cases a5
              · simp only [if_true, if_false, errW_none, errW_some, Bool.false_eq_true, reduceIte]
                go_wp2
                have hie := fun (W : World) (a b : Int) => Lib.run_eql_iface_int (P := Try.prog) (t := 32) (tx := 44) (k := .i64) W a b Try.underlying32 (by kernel_rfl) Try.underlying44
                go_region
                go_wp2
                go_ret
                exact ⟨by rfl, by (with_reducible repeat (first | apply below_alloc | apply pw_below_drewN | apply below_drew1)); exact HB.out⟩
              · simp only [if_true, if_false, errW_none, errW_some, Bool.false_eq_true, reduceIte]
                go_wp2
                have hie := fun (W : World) (a b : Int) => Lib.run_eql_iface_int (P := Try.prog) (t := 32) (tx := 44) (k := .i64) W a b Try.underlying32 (by kernel_rfl) Try.underlying44
                go_region
                go_wp2
                go_ret
                exact ⟨by rfl, by (with_reducible repeat (first | apply below_alloc | apply pw_below_drewN | apply below_drew1)); exact HB.out⟩
            · go_wp2_with fail
              refine (record_Check.calls K T 0 G O none 0 [] none 0 [] 0 none 0 [] _ _ [⟨1, 0, 0, 0⟩] (if a5 then none else some 2) _ (Kd.C_nil _ _) (Nat.le_refl _) (Kd.C_nil _ _) (Nat.le_refl _) (Kd.C_nil _ _) (Nat.le_refl _) (C_s56 new_set) (Nat.le_refl _) (field6 ht.out)).mono ?_
              rintro e w3 ⟨rfl, hb⟩
              replace BK2 := Lib.hid (blk_below (blk_alloc (blk_far BK2.out (by simp) _) _) hb)
              replace HB := Lib.hid (below_then (below_alloc (below_set HB.out hle) _) (below_size (below_alloc (below_set HB.out hle) _)) hb)
              clear hb
              obtain ⟨f_0, f_1, f_2, f_3, f_4, f_5, f_6, f_7⟩ := eight_cells BK2.out
              have hfa := ten_free BK2.out
              cases a5
              · simp only [if_true, if_false, errW_none, errW_some, Bool.false_eq_true, reduceIte]
                go_wp2
                have hie := fun (W : World) (a b : Int) => Lib.run_eql_iface_int (P := Try.prog) (t := 32) (tx := 44) (k := .i64) W a b Try.underlying32 (by kernel_rfl) Try.underlying44
                go_region
                go_wp2
                go_ret
                exact ⟨by rfl, by (with_reducible repeat (first | apply below_alloc | apply pw_below_drewN | apply below_drew1)); exact HB.out⟩
              · simp only [if_true, if_false, errW_none, errW_some, Bool.false_eq_true, reduceIte]
                go_wp2
                have hie := fun (W : World) (a b : Int) => Lib.run_eql_iface_int (P := Try.prog) (t := 32) (tx := 44) (k := .i64) W a b Try.underlying32 (by kernel_rfl) Try.underlying44
                go_region
                go_wp2
                go_ret
                exact ⟨by rfl, by (with_reducible repeat (first | apply below_alloc | apply pw_below_drewN | apply below_drew1)); exact HB.out⟩
end Go.Proofs.Ytcplblpmgajmnaa.A
namespace Go.Proofs.Ytcplblpmgajmnaa.recordKinds
open Go.ChangeShapes Go.WideShapes Go.ChangeAt Go.RowKit
open Go.ChangeMaps (open_string shut_string)
set_option linter.unusedVariables false
theorem own : ownKnob Try.prog.godebug = none := by kernel_rfl
set_option maxRecDepth 100000 in
theorem lifted (os : Os) (started : os.Started) (H : Type) (enc : TypeId × Value → H) :
    ReturnsInHanded {} Try.checked os 7 .any (Rows.recordKindsSpec.pre6 enc Try.prog Try.f7 Rows.recordKindsRow.domain false) (Rows.recordKindsSpec.post enc Try.prog Try.f7 false true false false) := by
  refine returnsInHanded_of_change_sized (C := Try.checked) own started (by kernel_rfl) Try.func7
    (ChangeSpec.witness6 (enc := enc) (C := Try.checked) false ⟨#[], #[.int .i64 0, .int .i64 0], []⟩ 8 (by kernel_rfl) (by kernel_rfl) (by kernel_rfl) (by kernel_rfl)) ?_
  intro W base args ds gs before hval0 hW hcnd hsz0 _
  have hsz : (DataW.weightsEach Try.prog (Try.f7.params.toList ++ Rows.recordKindsSpec.plain.varTypes Try.prog) (ds ++ gs)).all (· ≤ reachBytes) = true := hsz0
  have hval : ∀ (j : Nat) t v, Try.f7.params[j]? = some t → args[j]? = some v → Value.okWide Try.prog W .any base t v := hval0
  have hW' := hW
  obtain ⟨p, q, hA0, hV, rfl, hfz, hnd⟩ := hW
  have hA : DataW.TrodAll enc Try.prog W 0 (fun _ => true) true Try.f7.params.toList args.toList ds p := hA0
  rw [Try.params7] at hA hval hsz
  obtain ⟨v0, vs0, d0, ds0, p0, q0, hargs, rfl, rfl, h0, r0⟩ := trodAll_cons hA
  obtain ⟨v1, vs1, d1, ds1, p1, q1, rfl, rfl, rfl, h1, r1⟩ := trodAll_cons r0
  obtain ⟨rfl, rfl, rfl⟩ := trodAll_nil r1
  obtain rfl : args = #[v0, v1] := by cases args; simp_all
  obtain ⟨rfl, rfl⟩ := trodVars_none hV
  obtain ⟨a0, rfl, rfl, rfl, w0⟩ := open_int Try.underlying3 (hval 0 3 v0 rfl rfl) h0
  obtain ⟨a1, rfl, rfl, rfl, w1⟩ := open_int Try.underlying3 (hval 1 3 v1 rfl rfl) h1
  clear hA0 hval0 hsz0 hsz
  refine (A.kinds_walk W a0 a1).mono fun e W' ⟨he, bel⟩ => ?_
  subst he
  exact ⟨_, rfl, _, _, _, [], _, [], hW', trodAll_mk1 (shut_bool Try.underlying4 _), (trodAll_cons_mk (shut_int Try.underlying3 w0) (trodAll_cons_mk (shut_int Try.underlying3 w1) trodAll_mk0)), rfl, bel.frame _, fun h => by cases h⟩
theorem over : Rows.recordKindsRow.holds Try.pinned (OpenSpec.ofChange Rows.recordKindsSpec) :=
  OpenClaim.holds_of_wide 7 Try.f7 rfl rfl rfl rfl rfl rfl rfl ⟨rfl, rfl, rfl, rfl, rfl⟩ rfl rfl rfl rfl rfl (by kernel_rfl) Try.func7 (by kernel_rfl)
    (of_decide_eq_true (by kernel_rfl)) (by unfold Func.isWrapper; first | (rw [if_pos (by decide +kernel)]; kernel_rfl) | (rw [if_neg (by decide +kernel)]; exact ⟨rfl, rfl⟩))
    (fun os started H enc _ => lifted os started H enc)
theorem proved : Rows.RecordKindsSaid := over
end Go.Proofs.Ytcplblpmgajmnaa.recordKinds
namespace Go.Proofs.Ytcplblpmgajmnaa
theorem recordKinds_holds : Rows.RecordKindsSaid := recordKinds.proved
end Go.Proofs.Ytcplblpmgajmnaa
