/-
  Joined by wip/prune.py out of: Open.
-/
import Derived.Test.YtcplblpmgajmnaaBe4
import Derived.WalkKit
import Derived.ProofKit
import Derived.OpenShut
import Derived.ChangeOld
import Derived.Below
import Derived.SizedLaws
import Derived.Deep.Slices
namespace Go.Proofs.Ytcplblpmgajmnaa.A
open Go.ChangeShapes Go.WideShapes Go.ChangeAt Go.RowKit Go.Deep Go.Proofs.YtcplblpmgajmnaaW.PrintWords Go.Proofs.YtcplblpmgajmnaaW.PrintLast Go.Proofs.YtcplblpmgajmnaaW.PrintMore
set_option linter.unusedVariables false
set_option linter.unusedSimpArgs false
theorem cells3 : Try.prog.cellsOf 3 = 1 := by kernel_rfl
theorem cells25 : Try.prog.cellsOf 25 = 1 := by kernel_rfl
theorem cells26 : Try.prog.cellsOf 26 = 1 := by kernel_rfl
theorem cells27 : Try.prog.cellsOf 27 = 1 := by kernel_rfl
theorem cells28 : Try.prog.cellsOf 28 = 1 := by kernel_rfl
theorem cells30 : Try.prog.cellsOf 30 = 10 := by kernel_rfl
theorem cells52 : Try.prog.cellsOf 52 = 2 := by kernel_rfl
theorem cells54 : Try.prog.cellsOf 54 = 2 := by kernel_rfl
theorem cells56 : Try.prog.cellsOf 56 = 4 := by kernel_rfl
theorem bytes3 : Try.prog.bytesOf 3 = 8 := by kernel_rfl
theorem bytes52 : Try.prog.bytesOf 52 = 16 := by kernel_rfl
theorem bytes54 : Try.prog.bytesOf 54 = 16 := by kernel_rfl
theorem bytes56 : Try.prog.bytesOf 56 = 32 := by kernel_rfl
theorem i64_wf {n : Int} (h : (Lit.int .i64 n).wf = true) : I64 n := by
  simp only [Lit.wf, Bool.and_eq_true, decide_eq_true_eq] at h
  exact ⟨h.1, h.2⟩
theorem u8_wf {n : Int} (h : (Lit.int .u8 n).wf = true) : 0 ≤ n ∧ n ≤ 255 := by
  simp only [Lit.wf, Bool.and_eq_true, decide_eq_true_eq] at h
  exact ⟨h.1, h.2⟩
theorem cells5 : Try.prog.cellsOf 5 = 1 := by kernel_rfl
theorem bytes5 : Try.prog.bytesOf 5 = 1 := by kernel_rfl
section
variable {H : Type} {enc : TypeId × Value → H} {W : World} {sp : Nat → Bool}
theorem open_rows {α : Type} {d : Kd α} (z0 : α) {t e bytes fuel : Nat} {c : Value} {x : DataW H × List MemPlace} {P : α → Prop} (ht : Try.prog.underlying t = some (.slice e)) (hd : Try.prog.cellsOf e = d.sz) (hb : Try.prog.bytesOf e = bytes)
    (hel : ∀ n cs y, DataW.trod enc Try.prog W 0 sp true n e cs = some y → ∃ z : α, d.K W z cs ∧ P z)
    (h : DataW.trod enc Try.prog W 0 sp true fuel t [c] = some x) (hw : ∀ n ∈ x.1.weights Try.prog t, n ≤ reachBytes) :
    ∃ (A : Option Addr) (cap : Nat) (l : List α), c = .slice A l.length cap ∧ l.length ≤ cap ∧ d.C W A l.length l ∧ (∀ z ∈ l, P z) ∧ l.length * bytes ≤ 140737488351232 := by
  rcases open_slice ht h with ⟨hc, rfl⟩ | ⟨a, len, cap, m, n, D, Pl, hc, hb0, hl, hm, hmm, rfl, hx⟩
  · obtain rfl : c = .slice none 0 0 := by simpa using hc
    exact ⟨none, 0, [], rfl, Nat.le_refl _, Kd.C_nil _ _, by simp, by simp⟩
  · obtain rfl : c = .slice (some a) len cap := by simpa using hc
    have hlm : len ≤ m := by rw [hmm]; split <;> omega
    have hwl : len * bytes ≤ 140737488351232 := by
      have := hw (((List.range len).map D).length + ((List.range (m - len)).map fun j => D (len + j)).length |> (· * Try.prog.bytesOf e)) (by simp [DataW.weights, ht])
      rw [hb] at this
      simp only [List.length_map, List.length_range] at this
      have h2 : len * bytes ≤ (len + (m - len)) * bytes := Nat.mul_le_mul_right _ (by omega)
      have : reachBytes = 140737488351232 := rfl
      omega
    have each : ∀ i, i < len → ∃ q : α × List Value, W.cells? 0 (a.add (i * d.sz)) d.sz = some q.2 ∧ d.K W q.1 q.2 ∧ P q.1 := by
      intro i hi
      obtain ⟨cs, h1, h2⟩ := hx i (by omega)
      rw [hd] at h1
      obtain ⟨z, hz, hp⟩ := hel n cs _ h2
      exact ⟨(z, cs), h1, hz, hp⟩
    haveI : Inhabited α := ⟨z0⟩
    obtain ⟨q, hq⟩ := choose_lt each
    refine ⟨some a, cap, (List.range len).map fun i => (q i).1, by simp, by simpa using hl, ⟨rfl, by simp; unfold maxLen at hm; omega, fun _ => ⟨a, rfl, ?_⟩⟩, ?_, by simpa using hwl⟩
    · intro j p hp
      rw [List.getElem?_map] at hp
      by_cases hj : j < len
      · rw [List.getElem?_range hj] at hp
        obtain rfl : (q j).1 = p := by simpa using hp
        obtain ⟨h1, h2, _⟩ := hq j hj
        obtain ⟨_, hlen, hcell⟩ := World.cells?_some h1
        refine ⟨(q j).2, hlen, h2, fun i u hu => ?_⟩
        have hi : i < (q j).2.length := by
          rcases Nat.lt_or_ge i (q j).2.length with h | h
          · exact h
          · rw [List.getElem?_eq_none h] at hu
            exact absurd hu (by simp)
        have hc := hcell i (by omega)
        rw [Go.Deep.add_add] at hc
        rw [hc, hu]
      · rw [List.getElem?_eq_none (by simpa using hj)] at hp
        exact absurd hp (by simp)
    · intro z hz
      obtain ⟨i, hi, rfl⟩ := List.mem_map.1 hz
      exact (hq i (List.mem_range.1 hi)).2.2
theorem el_int {n : Nat} {cs : List Value} {y : DataW H × List MemPlace} (h : DataW.trod enc Try.prog W 0 sp true n 3 cs = some y) : ∃ z : Int, (Kd.int .i64).K W z cs ∧ I64 z := by
  obtain ⟨z, rfl, rfl, hw⟩ := DataW.trod_int Try.underlying3 h
  exact ⟨z, rfl, i64_wf hw⟩
theorem el_52 {n : Nat} {cs : List Value} {y : DataW H × List MemPlace} (h : DataW.trod enc Try.prog W 0 sp true n 52 cs = some y) : ∃ z : S52, k52.K W z cs ∧ (I64 z.f0 ∧ I64 z.f1) := by
  obtain ⟨xs, m, rfl, rfl, hl, hxs, hf⟩ := DataW.trod_struct Try.underlying52 h
  rw [cells52] at hl
  obtain ⟨c0, c1, rfl⟩ : ∃ c0 c1, cs = [c0, c1] := by
    match cs, hl with
    | [c0, c1], _ => exact ⟨c0, c1, rfl⟩
  obtain ⟨y0, y1, rfl⟩ : ∃ y0 y1, xs = [y0, y1] := by
    match xs, hxs with
    | [y0, y1], _ => exact ⟨y0, y1, rfl⟩
  have g0 := hf 0 _ rfl
  have g1 := hf 1 _ rfl
  simp [cells3] at g0 g1
  obtain ⟨a, e0, rfl, w0⟩ := DataW.trod_int Try.underlying3 g0
  obtain ⟨b, e1, rfl, w1⟩ := DataW.trod_int Try.underlying3 g1
  simp at e0 e1
  subst e0 e1
  exact ⟨⟨a, b⟩, k52_mk W ⟨a, b⟩, i64_wf w0, i64_wf w1⟩
theorem el_54 {n : Nat} {cs : List Value} {y : DataW H × List MemPlace} (h : DataW.trod enc Try.prog W 0 sp true n 54 cs = some y) : ∃ z : S54, k54.K W z cs ∧ (I64 z.f0 ∧ I64 z.f1) := by
  obtain ⟨xs, m, rfl, rfl, hl, hxs, hf⟩ := DataW.trod_struct Try.underlying54 h
  rw [cells54] at hl
  obtain ⟨c0, c1, rfl⟩ : ∃ c0 c1, cs = [c0, c1] := by
    match cs, hl with
    | [c0, c1], _ => exact ⟨c0, c1, rfl⟩
  obtain ⟨y0, y1, rfl⟩ : ∃ y0 y1, xs = [y0, y1] := by
    match xs, hxs with
    | [y0, y1], _ => exact ⟨y0, y1, rfl⟩
  have g0 := hf 0 _ rfl
  have g1 := hf 1 _ rfl
  simp [cells3] at g0 g1
  obtain ⟨a, e0, rfl, w0⟩ := DataW.trod_int Try.underlying3 g0
  obtain ⟨b, e1, rfl, w1⟩ := DataW.trod_int Try.underlying3 g1
  simp at e0 e1
  subst e0 e1
  exact ⟨⟨a, b⟩, k54_mk W ⟨a, b⟩, i64_wf w0, i64_wf w1⟩
theorem el_56 {n : Nat} {cs : List Value} {y : DataW H × List MemPlace} (h : DataW.trod enc Try.prog W 0 sp true n 56 cs = some y) : ∃ z : S56, k56.K W z cs ∧ (I64 z.f0 ∧ I64 z.f1 ∧ I64 z.f2 ∧ I64 z.f3) := by
  obtain ⟨xs, m, rfl, rfl, hl, hxs, hf⟩ := DataW.trod_struct Try.underlying56 h
  rw [cells56] at hl
  obtain ⟨c0, c1, c2, c3, rfl⟩ : ∃ c0 c1 c2 c3, cs = [c0, c1, c2, c3] := by
    match cs, hl with
    | [c0, c1, c2, c3], _ => exact ⟨c0, c1, c2, c3, rfl⟩
  obtain ⟨y0, y1, y2, y3, rfl⟩ : ∃ y0 y1 y2 y3, xs = [y0, y1, y2, y3] := by
    match xs, hxs with
    | [y0, y1, y2, y3], _ => exact ⟨y0, y1, y2, y3, rfl⟩
  have g0 := hf 0 _ rfl
  have g1 := hf 1 _ rfl
  have g2 := hf 2 _ rfl
  have g3 := hf 3 _ rfl
  simp [cells3] at g0 g1 g2 g3
  obtain ⟨a, e0, rfl, w0⟩ := DataW.trod_int Try.underlying3 g0
  obtain ⟨b, e1, rfl, w1⟩ := DataW.trod_int Try.underlying3 g1
  obtain ⟨c, e2, rfl, w2⟩ := DataW.trod_int Try.underlying3 g2
  obtain ⟨e, e3, rfl, w3⟩ := DataW.trod_int Try.underlying3 g3
  simp at e0 e1 e2 e3
  subst e0 e1 e2 e3
  exact ⟨⟨a, b, c, e⟩, k56_mk W ⟨a, b, c, e⟩, i64_wf w0, i64_wf w1, i64_wf w2, i64_wf w3⟩
theorem el_u8 {n : Nat} {cs : List Value} {y : DataW H × List MemPlace} (h : DataW.trod enc Try.prog W 0 sp true n 5 cs = some y) : ∃ z : Int, (Kd.int .u8).K W z cs ∧ (0 ≤ z ∧ z ≤ 255) := by
  obtain ⟨z, rfl, rfl, hw⟩ := DataW.trod_int Try.underlying5 h
  exact ⟨z, rfl, u8_wf hw⟩
theorem open_bytes {base : Nat} {v : Value} {d : DataW H} {p : List MemPlace} (hval : Value.okWide Try.prog W .any base 22 v) (h : DataW.Trod enc Try.prog W 0 sp true 22 v d p) (hsz : ∀ n ∈ d.weights Try.prog 22, n ≤ reachBytes) :
    ∃ (A : Option Addr) (cap : Nat) (l : List Int), v = .slice A l.length cap ∧ l.length ≤ cap ∧ Kd.C (Kd.int .u8) W A l.length l ∧ Bytes l := by
  obtain ⟨a, n, c, rfl⟩ := okWide_slice Try.underlying22 hval
  obtain ⟨fuel, hf⟩ := h
  obtain ⟨A, cap, l, e, h1, h2, h3, _⟩ := open_rows (d := Kd.int .u8) 0 Try.underlying22 cells5 bytes5 (fun n cs y => el_u8) (c := .slice a n c) (by simpa [Value.cells] using hf) hsz
  exact ⟨A, cap, l, e, h1, h2, h3⟩
theorem open_record {base : Nat} {v : Value} {d : DataW H} {p : List MemPlace} (hval : Value.okWide Try.prog W .any base 30 v) (h : DataW.Trod enc Try.prog W 0 sp true 30 v d p) (hsz : ∀ n ∈ d.weights Try.prog 30, n ≤ reachBytes) :
    ∃ (r : Rec) (a : Lies), v = .agg (r.cells a) ∧ RIn W r a ∧ r.Wide := by
  obtain ⟨cs, rfl, hn⟩ := okWide_struct Try.underlying30 hval
  rw [cells30] at hn
  obtain ⟨fuel, hf⟩ := h
  obtain ⟨c0, c1, c2, c3, c4, c5, c6, c7, c8, c9, rfl⟩ : ∃ c0 c1 c2 c3 c4 c5 c6 c7 c8 c9, cs = #[c0, c1, c2, c3, c4, c5, c6, c7, c8, c9] := by
    obtain ⟨l⟩ := cs
    match l, hn with
    | [c0, c1, c2, c3, c4, c5, c6, c7, c8, c9], _ => exact ⟨c0, c1, c2, c3, c4, c5, c6, c7, c8, c9, rfl⟩
  obtain ⟨xs, m, rfl, hx, hl, hxs, hg⟩ := DataW.trod_struct Try.underlying30 hf
  obtain ⟨y0, y1, y2, y3, y4, y5, y6, y7, y8, y9, rfl⟩ : ∃ y0 y1 y2 y3 y4 y5 y6 y7 y8 y9, xs = [y0, y1, y2, y3, y4, y5, y6, y7, y8, y9] := by
    match xs, hxs with
    | [y0, y1, y2, y3, y4, y5, y6, y7, y8, y9], _ => exact ⟨y0, y1, y2, y3, y4, y5, y6, y7, y8, y9, rfl⟩
  obtain ⟨rfl, rfl⟩ := Prod.mk.inj hx
  have g0 := hg 0 _ rfl
  have g1 := hg 1 _ rfl
  have g2 := hg 2 _ rfl
  have g3 := hg 3 _ rfl
  have g4 := hg 4 _ rfl
  have g5 := hg 5 _ rfl
  have g6 := hg 6 _ rfl
  have g7 := hg 7 _ rfl
  have g8 := hg 8 _ rfl
  have g9 := hg 9 _ rfl
  simp [cells3, cells25, cells26, cells27, cells28, Value.cells] at g0 g1 g2 g3 g4 g5 g6 g7 g8 g9
  simp only [List.map_cons, List.map_nil, DataW.weights, Try.underlying30, DataW.weightsEach, List.mem_append] at hsz
  obtain ⟨k, e0, _, w0⟩ := DataW.trod_int Try.underlying3 g0
  obtain ⟨t, e1, _, w1⟩ := DataW.trod_int Try.underlying3 g1
  obtain ⟨pp, e2, _, w2⟩ := DataW.trod_int Try.underlying3 g2
  obtain ⟨g, e3, _, w3⟩ := DataW.trod_int Try.underlying3 g3
  obtain ⟨o, e4, _, w4⟩ := DataW.trod_int Try.underlying3 g4
  obtain ⟨n, e7, _, w7⟩ := DataW.trod_int Try.underlying3 g7
  simp at e0 e1 e2 e3 e4 e7
  subst e0 e1 e2 e3 e4 e7
  obtain ⟨A5, d5, l5, rfl, h5, C5, P5, W5⟩ := open_rows (d := Kd.int .i64) 0 Try.underlying25 cells3 bytes3 (fun n cs y => el_int) g5 (fun n hn => hsz n (by simp [hn]))
  obtain ⟨A6, d6, l6, rfl, h6, C6, P6, W6⟩ := open_rows (d := k52) z52 Try.underlying26 cells52 bytes52 (fun n cs y => el_52) g6 (fun n hn => hsz n (by simp [hn]))
  obtain ⟨A8, d8, l8, rfl, h8, C8, P8, W8⟩ := open_rows (d := k54) z54 Try.underlying27 cells54 bytes54 (fun n cs y => el_54) g8 (fun n hn => hsz n (by simp [hn]))
  obtain ⟨A9, d9, l9, rfl, h9, C9, P9, W9⟩ := open_rows (d := k56) z56 Try.underlying28 cells56 bytes56 (fun n cs y => el_56) g9 (fun n hn => hsz n (by simp [hn]))
  exact ⟨⟨k, t, pp, g, o, l5, l6, n, l8, l9⟩, ⟨A5, d5, A6, d6, A8, d8, A9, d9⟩, rfl, ⟨C5, h5, C6, h6, C8, h8, C9, h9⟩, { k := i64_wf w0, t := i64_wf w1, p := i64_wf w2, g := i64_wf w3, o := i64_wf w4, n := i64_wf w7, args := P5, imgs := P6, di := P8, ac := P9, largs := by simp only; omega, limgs := by simp only; omega, ldi := by simp only; omega, lac := by simp only; omega }⟩
end
end Go.Proofs.Ytcplblpmgajmnaa.A
