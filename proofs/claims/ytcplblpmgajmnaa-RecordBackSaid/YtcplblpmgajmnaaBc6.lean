/-
  Joined by wip/prune.py out of: AxF39, HNumbers, PureF, AxF27, HDecode, HAlive, AxF17, HIn, Open.
-/
import Derived.Test.YtcplblpmgajmnaaBc5
import Derived.Lib.Hide
import Derived.WalkKit
import Derived.ProofKit
import Derived.OpenShut
import Derived.ChangeOld
import Derived.Below
import Derived.SizedLaws
import Derived.Deep.Slices
namespace Go.Proofs.Ytcplblpmgajmnaa.A
open Go.RowKit Go.Proofs.YtcplblpmgajmnaaW.PrintWords Go.Proofs.YtcplblpmgajmnaaW.PrintLast Go.Proofs.YtcplblpmgajmnaaW.PrintMore
attribute [local go_sem] max2_int min2_int max_two min_two max_three min_three max_four min_four   -- for this text's walks alone
set_option linter.unusedVariables false
set_option linter.unusedSimpArgs false
def wire_Take.f (l0 : List Int) : Option (Int × List Int × Option Int) := (wire_take.f l0).bind fun bt242 => (if bt242.2 = 0 then (some (0, ([] : List Int), some 4)) else (if 0 ≤ bt242.2 then (if bt242.2 ≤ (l0.length : Int) then ((slices_Clone_byte_byte.f (l0.drop (bt242.2 : Int).toNat)).bind fun t245 => (some (bt242.1, t245, none))) else (none)) else (none)))
set_option maxHeartbeats 8000000 in
set_option maxRecDepth 100000 in
theorem wire_Take.calls (A0 : Option Addr) (c0 : Nat) (l0 : List Int) (r1 : Int) (r2 : List Int) (r3 : Option Int) (w : World) (hr0 : Kd.C (Kd.int .u8) w A0 l0.length l0) (hc0 : l0.length ≤ c0) (h : wire_Take.f l0 = some (r1, r2, r3)) :
    Calls Try.prog 39 #[.slice A0 l0.length c0] w fun e w' => ∃ v1_ : Value, e = .returned (.tuple #[.int .i64 r1, v1_, errW r3]) ∧ Kd.R (Kd.int .u8) 5 w' w.heap.size (fun _ => True) v1_ r2 ∧ Below w.heap.size w w' := by
  have hu32 := Try.underlying32
  have hu44 := Try.underlying44
  have HR0 := Aside0.mk hr0
  have HC0 := Aside0.mk hc0
  clear hr0 hc0
  have HB := Aside0.mk (Below.refl w.heap.size w)
  have H : ((wire_take.f l0).bind fun bt242 => (if bt242.2 = 0 then (some (0, ([] : List Int), some 4)) else (if 0 ≤ bt242.2 then (if bt242.2 ≤ (l0.length : Int) then ((slices_Clone_byte_byte.f (l0.drop (bt242.2 : Int).toNat)).bind fun t245 => (some (bt242.1, t245, none))) else (none)) else (none)))) = some (r1, r2, r3) := h
  clear h
  replace H := Option.bind_eq_some_iff.mp H
  obtain ⟨⟨t242, t243⟩, A20, H⟩ := H
  replace H : (if t243 = 0 then (some (0, ([] : List Int), some 4)) else (if 0 ≤ t243 then (if t243 ≤ (l0.length : Int) then ((slices_Clone_byte_byte.f (l0.drop (t243 : Int).toNat)).bind fun t245 => (some (t242, t245, none))) else (none)) else (none))) = some (r1, r2, r3) := H
  have A2 := Aside0.mk A20
  clear A20
  by_cases c3 : t243 = 0
  · rw [if_pos c3] at H
    have c3b0 : (t243 == 0) = true := beq_iff_eq.mpr c3
    have c3b1 : (t243 != 0) = false := bne_eq_false_iff_eq.mpr c3
    clear c3
    simp only [Option.some.injEq, Prod.mk.injEq] at H
    obtain ⟨rfl, rfl, rfl⟩ := H
    go_enter Try.func39, Try.ntmps39
    go_wp2_with (first | ((with_reducible refine gate_callee (f := 50) rfl ?_); refine goesL_ (some 9) rfl rfl Try.func50 (by kernel_rfl) rfl #[.slice A0 l0.length c0] rfl (by (try simp only [List.map_toArray, List.map_cons, List.map_nil]); first | done | rfl | (simp only [List.length_drop, List.length_take]; rfl)) ?_; (with_reducible refine (wire_take.calls _ _ l0 t242 t243 _ ?side1 ?side2 A2.out).mono ?_); (case side1 => repeat (first | exact HR0.out | (with_reducible refine Kd.C_alloc ?_ _) | (with_reducible refine Kd.C_drewN ?_ _) | (with_reducible refine Kd.C_drew ?_))); (case side2 => exact HC0.out); rintro e w' ⟨rfl, ⟨nd, rfl⟩⟩; refine ⟨_, rfl, ?_⟩))
    go_ret3
    exact ⟨_, by first | rfl | (simp [errW_none, errW_some] <;> rfl) | (simp [*, errW_none, errW_some] <;> rfl), by first | exact Kd.R_nil _ _ _ _ _ | exact Kd.N_nil _ _ _ _ _ | exact Kd.V_nil _ _ _ _ _ | exact Kd.Q_nil _ _ _ _ _ | exact Kd.S_nil _ _ _ _ _, by repeat (first | (with_reducible first | exact HB.out | apply below_alloc | apply pw_below_drewN | apply below_drew1) | exact HB.out)⟩
  · rw [if_neg c3] at H
    have c3b0 : (t243 == 0) = false := beq_eq_false_iff_ne.mpr c3
    have c3b1 : (t243 != 0) = true := bne_iff_ne.mpr c3
    by_cases c4 : 0 ≤ t243
    · rw [if_pos c4] at H
      have c4b0 := eq_true c4
      have c4b1 : decide (0 ≤ t243) = true := decide_eq_true c4
      clear c4
      by_cases c5 : t243 ≤ (l0.length : Int)
      · rw [if_pos c5] at H
        have c5b0 := eq_true c5
        have c5b1 : decide (t243 ≤ (l0.length : Int)) = true := decide_eq_true c5
        clear c5
        replace H := Option.bind_eq_some_iff.mp H
        obtain ⟨t245, A60, H⟩ := H
        replace H : (some (t242, t245, none)) = some (r1, r2, r3) := H
        have A6 := Aside0.mk A60
        clear A60
        simp only [Option.some.injEq, Prod.mk.injEq] at H
        obtain ⟨rfl, rfl, rfl⟩ := H
        go_enter Try.func39, Try.ntmps39
        go_wp2_with (first | ((with_reducible refine gate_callee (f := 50) rfl ?_); refine goesL_ (some 9) rfl rfl Try.func50 (by kernel_rfl) rfl #[.slice A0 l0.length c0] rfl (by (try simp only [List.map_toArray, List.map_cons, List.map_nil]); first | done | rfl | (simp only [List.length_drop, List.length_take]; rfl)) ?_; (with_reducible refine (wire_take.calls _ _ l0 t242 t243 _ ?side1 ?side2 A2.out).mono ?_); (case side1 => repeat (first | exact HR0.out | (with_reducible refine Kd.C_alloc ?_ _) | (with_reducible refine Kd.C_drewN ?_ _) | (with_reducible refine Kd.C_drew ?_))); (case side2 => exact HC0.out); rintro e w' ⟨rfl, ⟨nd, rfl⟩⟩; refine ⟨_, rfl, ?_⟩; obtain ⟨i07, hi07, _, hsz7, _⟩ := info_parts info5; obtain ⟨A7, hcut7, hA7, hC7⟩ := print_drop_of (P := Try.prog) (Value.int .u8) 0 22 5 .i64 Try.underlying22 hi07 hsz7 A0 c0 l0 t243 (of_decide_eq_true (by first | (with_reducible assumption) | assumption)) (of_decide_eq_true (by first | (with_reducible assumption) | assumption)) HC0.out; have HR244 := Aside0.mk (Kd.C_of_reads (h1 := fun _ => rfl) (hA7 _ (Kd.reads_of_C HR0.out))); have HC244 := Aside0.mk hC7; clear hA7 hC7 hi07 hsz7) | ((with_reducible refine gate_callee (f := 51) rfl ?_); refine goesL_ (some 19) rfl rfl Try.func51 (by kernel_rfl) rfl #[.slice A7 (l0.drop (t243 : Int).toNat).length (c0 - t243.toNat)] rfl (by (try simp only [List.map_toArray, List.map_cons, List.map_nil]); first | done | (rw [show (l0.drop (t243 : Int).toNat).length = (l0.length - t243.toNat) from List.length_drop] <;> rfl) | rfl | (simp only [List.length_drop, List.length_take]; rfl)) ?_; (with_reducible refine (slices_Clone_byte_byte.calls _ _ (l0.drop (t243 : Int).toNat) t245 _ ?side1 ?side2 A6.out).mono ?_); (case side1 => repeat (first | exact HR244.out | (with_reducible refine Kd.C_alloc ?_ _) | (with_reducible refine Kd.C_drewN ?_ _) | (with_reducible refine Kd.C_drew ?_))); (case side2 => exact HC244.out); rintro e w8 ⟨v246, rfl, ho0, hb⟩; refine ⟨_, rfl, ?_⟩; have n0_ := Aside0.mk (Kd.R_lower ho0 (below_size (by repeat (first | (with_reducible first | exact HB.out | apply below_alloc | apply pw_below_drewN | apply below_drew1) | exact HB.out)))); have n1_ := Aside0.mk (below_step (by repeat (first | (with_reducible first | exact HB.out | apply below_alloc | apply pw_below_drewN | apply below_drew1) | exact HB.out)) hb); clear HB; have HO247 := n0_; have HB := n1_; clear n0_ n1_; (try clear hb); (try clear hb2); (try clear hk); (try clear hi); (try clear ho0)))
        go_ret3
        exact ⟨_, by first | rfl | (simp [errW_none, errW_some] <;> rfl) | (simp [*, errW_none, errW_some] <;> rfl), by (with_reducible repeat (first | apply Kd.R_alloc | apply Kd.R_drewN | apply Kd.R_drew)); exact HO247.out, by repeat (first | (with_reducible first | exact HB.out | apply below_alloc | apply pw_below_drewN | apply below_drew1) | exact HB.out)⟩
      · rw [if_neg c5] at H
        exact absurd H (by simp)
    · rw [if_neg c4] at H
      exact absurd H (by simp)
end Go.Proofs.Ytcplblpmgajmnaa.A
namespace Go.Proofs.Ytcplblpmgajmnaa.A
open Go.RowKit Go.Proofs.YtcplblpmgajmnaaW.PrintWords Go.Proofs.YtcplblpmgajmnaaW.PrintLast Go.Proofs.YtcplblpmgajmnaaW.PrintMore
set_option linter.unusedVariables false
set_option linter.unusedSimpArgs false
def tk (l : List Int) : Int × Int := tkL l (min l.length 10) 0 0
theorem tkL_size (l : List Int) : ∀ (d i : Nat) (u : Int), (tkL l d i u).2 = 0 ∨ ((i : Int) < (tkL l d i u).2 ∧ (tkL l d i u).2 ≤ (i : Int) + d) := by
  intro d
  induction d with
  | zero => intro i u; exact .inl rfl
  | succ d ih =>
    intro i u
    rw [tkL]
    split
    · exact .inl rfl
    · split
      · split
        · exact .inl rfl
        · exact .inr ⟨by simp only; omega, by simp only; omega⟩
      · rcases ih (i + 1) (tkU u (l.getD i 0) i) with h | h
        · exact .inl h
        · exact .inr ⟨by omega, by omega⟩
theorem tk_size (l : List Int) : (tk l).2 = 0 ∨ (0 < (tk l).2 ∧ (tk l).2 ≤ l.length) := by
  rcases tkL_size l (min l.length 10) 0 0 with h | h
  · exact .inl h
  · exact .inr ⟨h.1, by have := h.2; unfold tk; omega⟩
def parse : Nat → List Int → Option (List Int)
  | 0, _ => some []
  | k + 1, l => if l = [] then some [] else if (tk l).2 = 0 then none else (parse k (l.drop (tk l).2.toNat)).map fun ns => (tk l).1 :: ns
theorem take_f {l : List Int} (hl : l.length ≤ 4096) : wire_Take.f l = some (if (tk l).2 = 0 then (0, [], some 4) else ((tk l).1, l.drop (tk l).2.toNat, none)) := by
  unfold wire_Take.f wire_take.f
  rw [Option.bind_some]
  show (if (tk l).2 = 0 then _ else _) = _
  by_cases h : (tk l).2 = 0
  · rw [if_pos h, if_pos h]
  · have hs := (tk_size l).resolve_left h
    have e : slices_Clone_byte_byte.f (l.drop (tk l).2.toNat) = some (l.drop (tk l).2.toNat) := by
      unfold slices_Clone_byte_byte.f
      rw [if_pos (by rw [List.length_drop]; omega)]
    rw [if_neg h, if_neg h]
    show (if 0 ≤ (tk l).2 then (if (tk l).2 ≤ (l.length : Int) then ((slices_Clone_byte_byte.f (l.drop (tk l).2.toNat)).bind fun t245 => (some ((tk l).1, t245, none))) else none) else none) = _
    rw [if_pos (by omega), if_pos (by omega), e, Option.bind_some]
theorem parse_fuel : ∀ (k j : Nat) (l : List Int), l.length ≤ k → l.length ≤ j → parse k l = parse j l := by
  intro k
  induction k with
  | zero =>
    intro j l hk hj
    obtain rfl : l = [] := List.eq_nil_of_length_eq_zero (by omega)
    cases j <;> simp [parse]
  | succ k ih =>
    intro j l hk hj
    by_cases hl : l = []
    · subst hl
      cases j <;> simp [parse]
    · have hpos : 0 < l.length := List.length_pos_iff.2 hl
      obtain ⟨j, rfl⟩ : ∃ m, j = m + 1 := ⟨j - 1, by omega⟩
      rw [parse, parse, if_neg hl, if_neg hl]
      by_cases h0 : (tk l).2 = 0
      · rw [if_pos h0, if_pos h0]
      · have hs := (tk_size l).resolve_left h0
        rw [if_neg h0, if_neg h0, ih j _ (by rw [List.length_drop]; omega) (by rw [List.length_drop]; omega)]
def numsOut : Option (List Int) → List Int × Bool
  | some ns => (ns, true)
  | none => ([], false)
set_option maxHeartbeats 4000000 in
theorem numbers_walk (A0 : Option Addr) (c0 : Nat) (l0 : List Int) (w : World) (hr0 : Kd.C (Kd.int .u8) w A0 l0.length l0) (hc0 : l0.length ≤ c0) (hl : l0.length ≤ 4096) (r : List Int × Bool) (h : numsOut (parse l0.length l0) = r) :
    Calls Try.prog 25 #[.slice A0 l0.length c0] w fun e w' => ∃ v0_ : Value, e = .returned (.tuple #[v0_, .bool r.2]) ∧ Kd.R (Kd.int .i64) 3 w' w.heap.size (fun _ => True) v0_ r.1 ∧ Below w.heap.size w w' := by
  have hu32 := Try.underlying32
  have hu44 := Try.underlying44
  have HR := Aside0.mk hr0
  have HC := Aside0.mk hc0
  have H := Lib.hid h
  clear hr0 hc0 h
  go_enter Try.func25, Try.ntmps25
  go_wp2
  go_loopw [0, 4] (fun v0 v4 wr => ∃ (A : Option Addr) (c : Nat) (x ns : List Int), v0 = .slice A x.length c ∧ x.length ≤ c ∧ ns.length + x.length ≤ 4096 ∧ Aside0 (Kd.C (Kd.int .u8) wr A x.length x) ∧ Aside0 (Kd.R (Kd.int .i64) 3 wr w.heap.size (fun _ => True) v4 ns) ∧ Aside0 (Below w.heap.size w wr) ∧ Hid (numsOut ((parse x.length x).map fun z => ns ++ z) = r)) (fun v0 _ _ => match v0 with | .slice _ n _ => n | _ => 0)
  case atStart => exact ⟨A0, c0, l0, [], rfl, HC.out, by simpa using hl, HR, ⟨Kd.R_nil _ _ _ _ _⟩, ⟨Below.refl _ _⟩, Lib.hid (by rw [← H.out]; cases parse l0.length l0 <;> simp)⟩
  case round =>
    clear HR HC H hl
    obtain ⟨A, c, x, ns, rfl, hxc, HL, HR, HO, HB, H⟩ := hrel
    by_cases hx : x.length = 0
    · obtain rfl : x = [] := List.eq_nil_of_length_eq_zero hx
      obtain rfl : (ns, true) = r := by have h := H.out; simpa [parse, numsOut] using h
      clear H
      go_wp2
      go_ret2
      exact ⟨_, rfl, HO.out, HB.out⟩
    · have hx0 : 0 < x.length := by omega
      have hlen : decide (0 < (x.length : Int)) = true := decide_eq_true (by omega)
      have HT := Lib.hid (take_f (l := x) (by omega))
      have HX0 := Lib.hid hx
      have hxe : x ≠ [] := fun e => hx (by rw [e]; rfl)
      obtain ⟨m, hm⟩ : ∃ m, x.length = m + 1 := ⟨x.length - 1, by omega⟩
      have hH := H.out
      rw [hm, parse, if_neg hxe] at hH
      have Hm := Lib.hid hm
      clear hx hxe hm
      by_cases h0 : (tk x).2 = 0
      · rw [if_pos h0] at hH
        obtain rfl : ([], false) = r := hH
        have HT' := HT.out
        rw [if_pos h0] at HT'
        have HT := Lib.hid HT'
        clear HT' h0 H
        go_wp2_with fail
        refine (wire_Take.calls _ _ x _ _ _ _ HR.out hxc HT.out).mono ?_
        rintro e w1 ⟨v1, rfl, ho1, hb⟩
        have HB1 := Aside0.mk (below_then HB.out HB.out.size hb)
        clear ho1 hb
        try simp only [errW_none, errW_some]
        go_wp2
        go_ret2
        exact ⟨_, rfl, Kd.R_nil _ _ _ _ _, HB1.out⟩
      · rw [if_neg h0] at hH
        have HT' := HT.out
        rw [if_neg h0] at HT'
        have hsz := (tk_size x).resolve_left h0
        have HT := Lib.hid HT'
        have HS := Lib.hid hsz
        obtain ⟨n, Hn⟩ : ∃ n, Hid ((tk x).1 = n) := ⟨_, Lib.hid rfl⟩
        obtain ⟨y, Hy⟩ : ∃ y, Hid (x.drop (tk x).2.toNat = y) := ⟨_, Lib.hid rfl⟩
        rw [Hn.out, Hy.out] at HT hH
        have hyl : y.length < x.length := by
          rw [← Hy.out, List.length_drop]
          have := HS.out
          omega
        have hp : parse m y = parse y.length y := parse_fuel _ _ _ (by have := Hm.out; omega) (Nat.le_refl _)
        have Hf : Hid (numsOut ((parse y.length y).map fun z => (ns ++ [n]) ++ z) = r) := Lib.hid (by rw [← hH, ← hp]; cases parse m y <;> simp)
        clear HT' h0 hsz hH hp H
        go_wp2_with fail
        refine (wire_Take.calls _ _ x _ _ _ _ HR.out hxc HT.out).mono ?_
        rintro e w1 ⟨v1, rfl, ho1, hb⟩
        have HX := Aside0.mk (Kd.R_lower ho1 HB.out.size)
        have HB1 := Aside0.mk (below_then HB.out HB.out.size hb)
        have HO1 := Aside0.mk (Kd.R_below HO.out hb)
        clear ho1 hb HB HO
        have HB := HB1
        have HO := HO1
        clear HB1 HO1
        try simp only [errW_none, errW_some]
        go_wp2_with (first | ((with_reducible refine gate_builtin (b := .append) (xs := #[.tmp 19, .tmp 21]) rfl ?_); at_builtin; refine Kd.R_append (Kd.int .i64) (w0 := w) w.heap.size rfl (.tmp 19) (.tmp 21) 25 3 (.int .i64 0) 8 rfl Try.underlying25 info3 rfl (by decide) (by omega) u4 ns n [.int .i64 n] (fun _ => True) (fun _ => False) rfl rfl ?aP (fun _ hk => hk.elim) ?aF ?aO ?aB ?aS ?aL ?_; (case aP => exact rfl); (case aB => exact (by repeat (first | (with_reducible first | exact HB.out | apply below_alloc | apply pw_below_drewN | apply below_drew1) | exact HB.out))); (case aF => exact (fun _ _ => trivial)); (case aO => exact (by (with_reducible repeat (first | apply Kd.R_alloc | apply Kd.R_drewN | apply Kd.R_drew)); exact HO.out)); (case aS => exact (below_size (by repeat (first | (with_reducible first | exact HB.out | apply below_alloc | apply pw_below_drewN | apply below_drew1) | exact HB.out)))); (case aL => have := HL; omega); intro v9 w6 ho hb hg hat; have HX' := Aside0.mk (Kd.R_mono (Kd.R_grown (Kd.R_apart' HX.out (Kd.R_typed HO.out) (by decide)) hg (fun k hk => hk.2)) (fun _ _ => trivial)); have n0_ := Aside0.mk (hb); have n1_ := Aside0.mk (ho); clear HB; clear HO; have HB := n0_; have HO := n1_; clear n0_ n1_; clear ho hb hg hat))
        obtain ⟨A', c', e', hc', hC'⟩ := Kd.R_reads HX'.out
        subst e'
        go_roundw
        case rel => exact ⟨A', c', y, ns ++ [n], rfl, hc', by rw [List.length_append]; simp only [List.length_singleton]; omega, ⟨hC'⟩, HO, HB, Hf⟩
        case measure => simp; omega
end Go.Proofs.Ytcplblpmgajmnaa.A
namespace Go.Proofs.Ytcplblpmgajmnaa.A
open Go.RowKit Go.Proofs.YtcplblpmgajmnaaW.PrintWords Go.Proofs.YtcplblpmgajmnaaW.PrintLast Go.Proofs.YtcplblpmgajmnaaW.PrintMore
set_option linter.unusedVariables false
set_option linter.unusedSimpArgs false
theorem cnt_of (c : Nat) (s : Nat) (hs : 0 < s) (rest : List Int) (h : s * c ≤ rest.length) : cnt ((c : Int) :: rest) s = c := by
  unfold cnt
  have : c ≤ rest.length / s := (Nat.le_div_iff_mul_le hs).2 (by rw [Nat.mul_comm]; exact h)
  simp
  omega
theorem takeD_of (di : List S54) (rest : List Int) : takeD di.length (dirtyNums di ++ rest) = di := by
  induction di with
  | nil => rfl
  | cons x di ih => simp [dirtyNums] at ih ⊢; simp [takeD, ih]
theorem takeI_of (im : List S52) (rest : List Int) : takeI im.length (imgNums im ++ rest) = im := by
  induction im with
  | nil => rfl
  | cons x im ih => simp [imgNums] at ih ⊢; simp [takeI, ih]
theorem takeA_of (ac : List S56) (rest : List Int) : takeA ac.length (activeNums ac ++ rest) = ac := by
  induction ac with
  | nil => rfl
  | cons x ac ih => simp [activeNums] at ih ⊢; simp [takeA, ih]
theorem takeN_of (l : List Int) (rest : List Int) : takeN l.length (l ++ rest) = l := by
  induction l with
  | nil => rfl
  | cons x l ih => simp [takeN, ih]
theorem drop_app {l : List Int} (rest : List Int) {n : Nat} (h : n = l.length) : (l ++ rest).drop n = rest := by
  subst h
  simp
theorem readBody_of (r : Rec) (k t p n : Int) (zs : List Int) : readBody k t p n (r.body ++ zs) = ⟨k, t, p, r.g, r.o, r.args, r.imgs, n, [], []⟩ := by
  have e : r.body ++ zs = r.g :: r.o :: (r.args.length : Int) :: (r.args ++ ((r.imgs.length : Int) :: (imgNums r.imgs ++ zs))) := by simp [Rec.body]
  rw [e]
  unfold readBody
  simp only [List.tail_cons, List.headD_cons]
  rw [cnt_of r.args.length 1 (by omega) _ (by simp), takeN_of, drop_app _ rfl, cnt_of r.imgs.length 2 (by omega) _ (by simp [imgNums_len]), List.tail_cons, takeI_of]
theorem readF_one (t p : Int) (l : List Int) : readF (1 :: t :: p :: l) = readBody 1 t p 0 l := by
  simp [readF]
theorem readF_two (t p n : Int) (l : List Int) : readF (2 :: t :: p :: n :: l) = readBody 2 t p n l := by
  simp [readF]
theorem readF_few (k t p : Int) (h : k = 3 ∨ k = 4) (l : List Int) : readF (k :: t :: p :: l) = ⟨k, t, p, 0, 0, [], [], 0, [], []⟩ := by
  rcases h with rfl | rfl <;> simp [readF]
theorem readF_five (l : List Int) : readF (5 :: l) = ⟨5, 0, 0, 0, 0, [], [], 0, takeD (cnt l 2) l.tail, takeA (cnt (l.tail.drop (2 * cnt l 2)) 4) (l.tail.drop (2 * cnt l 2)).tail⟩ := by
  simp [readF]
theorem readF_of (r : Rec) (h : r.Ok) (zs : List Int) : readF (r.nums ++ zs) = r := by
  obtain ⟨k, t, p, g, o, args, imgs, n, di, ac⟩ := r
  rcases h with ⟨h1, _, he⟩ | ⟨h2, _, he⟩ | ⟨h3, _, he⟩ | ⟨h5, _, he⟩
  · simp only at h1 he
    obtain ⟨rfl, rfl, rfl⟩ := he
    subst h1
    have e : (Rec.mk 1 t p g o args imgs 0 [] []).nums ++ zs = 1 :: t :: p :: ((Rec.mk 1 t p g o args imgs 0 [] []).body ++ zs) := by simp [Rec.nums]
    rw [e, readF_one, readBody_of]
  · simp only at h2 he
    obtain ⟨rfl, rfl⟩ := he
    subst h2
    have e : (Rec.mk 2 t p g o args imgs n [] []).nums ++ zs = 2 :: t :: p :: n :: ((Rec.mk 2 t p g o args imgs n [] []).body ++ zs) := by simp [Rec.nums]
    rw [e, readF_two, readBody_of]
  · simp only at h3 he
    obtain ⟨rfl, rfl, rfl, rfl, rfl, rfl, rfl⟩ := he
    have e : (Rec.mk k t p 0 0 [] [] 0 [] []).nums ++ zs = k :: t :: p :: zs := by
      unfold Rec.nums
      simp only
      rw [if_neg (by omega), if_neg (by omega), if_neg (by omega)]
      rfl
    rw [e, readF_few k t p h3]
  · simp only at h5 he
    obtain ⟨rfl, rfl, rfl, rfl, rfl, rfl, rfl⟩ := he
    subst h5
    have e : (Rec.mk 5 0 0 0 0 [] [] 0 di ac).nums ++ zs = 5 :: (di.length : Int) :: (dirtyNums di ++ ((ac.length : Int) :: (activeNums ac ++ zs))) := by simp [Rec.nums]
    rw [e, readF_five, cnt_of di.length 2 (by omega) _ (by simp [dirtyNums_len]), List.tail_cons, takeD_of, drop_app _ (dirtyNums_len di).symm, cnt_of ac.length 4 (by omega) _ (by simp [activeNums_len]), List.tail_cons, takeA_of]
theorem tk_enc {x : Int} (h : I64 x) (rest : List Int) : tk (enc x ++ rest) = (x, ((enc x).length : Int)) := by
  have hz := zig_lt h.1 h.2
  have hl := digits_len10 hz
  have := tkL_digits rest (zig x) 0 (min (enc x ++ rest).length 10) 0 (enc x ++ rest) (by rfl) (by rw [List.length_append]; unfold enc; omega) (by decide) (by simpa using hz) (by omega)
  unfold tk
  have e0 : ((0 : Nat) : Int) = 0 := rfl
  rw [e0] at this
  rw [this]
  simp only [Nat.zero_add, Nat.pow_zero, Nat.mul_one, tkR_zig h]
  congr 1
  simp [enc]
theorem enc_pos (x : Int) : 0 < (enc x).length := by unfold enc; exact digits_pos _
theorem parse_flat (xs : List Int) (h : ∀ x ∈ xs, I64 x) : ∀ k, (xs.flatMap enc).length ≤ k → parse k (xs.flatMap enc) = some xs := by
  induction xs with
  | nil => intro k _; cases k <;> simp [parse]
  | cons x xs ih =>
    intro k hk
    have hp := enc_pos x
    rw [List.flatMap_cons] at hk ⊢
    rw [List.length_append] at hk
    obtain ⟨k, rfl⟩ : ∃ m, k = m + 1 := ⟨k - 1, by omega⟩
    rw [parse, if_neg (by intro e; have := congrArg List.length e; rw [List.length_append, List.length_nil] at this; omega), tk_enc (h x (by simp)), if_neg (by show ¬ ((enc x).length : Int) = 0; omega)]
    simp only [Int.toNat_natCast]
    rw [drop_app _ rfl, ih (fun y hy => h y (List.mem_cons_of_mem _ hy)) k (by have := hp; omega)]
    rfl
theorem flat_prefix : ∀ (xs ys : List Int) (t : List Int), (∀ x ∈ xs, I64 x) → (∀ y ∈ ys, I64 y) → xs.flatMap enc ++ t = ys.flatMap enc → ∃ zs, ys = xs ++ zs := by
  intro xs
  induction xs with
  | nil => intro ys t _ _ _; exact ⟨ys, rfl⟩
  | cons x xs ih =>
    intro ys t hx hy h
    cases ys with
    | nil =>
      have := congrArg List.length h
      have hp := enc_pos x
      rw [List.flatMap_cons, List.length_append, List.length_append, List.flatMap_nil, List.length_nil] at this
      omega
    | cons y ys =>
      rw [List.flatMap_cons, List.flatMap_cons, List.append_assoc] at h
      have e := congrArg tk h
      rw [tk_enc (hx x (by simp)), tk_enc (hy y (by simp))] at e
      obtain ⟨rfl, _⟩ := Prod.mk.inj e
      obtain ⟨zs, rfl⟩ := ih ys t (fun z hz => hx z (List.mem_cons_of_mem _ hz)) (fun z hz => hy z (List.mem_cons_of_mem _ hz)) (List.append_cancel_left h)
      exact ⟨zs, rfl⟩
theorem bytes_prefix {r s : Rec} (hr : r.Fits) (hs : s.Fits) (or : r.Ok) (os : s.Ok) (t : List Int) (h : r.bytes ++ t = s.bytes) : r = s ∧ t = [] := by
  obtain ⟨zs, e⟩ := flat_prefix r.nums s.nums t hr.nums_fits hs.nums_fits h
  have h1 := readF_of s os []
  rw [List.append_nil, e, readF_of r or zs] at h1
  subst h1
  refine ⟨rfl, ?_⟩
  have := congrArg List.length h
  rw [List.length_append] at this
  exact List.eq_nil_of_length_eq_zero (by omega)
theorem tkR_i64 (u : Int) : I64 (tkR u) := by
  unfold tkR
  rw [xor_i64_bv, IntKind.wrap_i64]
  exact ⟨by omega, by omega⟩
theorem tkL_i64 (l : List Int) : ∀ (d i : Nat) (u : Int), I64 (tkL l d i u).1 := by
  intro d
  induction d with
  | zero => intro i u; exact ⟨by simp [tkL], by simp [tkL]⟩
  | succ d ih =>
    intro i u
    rw [tkL]
    split
    · exact ⟨by simp, by simp⟩
    · split
      · split
        · exact ⟨by simp, by simp⟩
        · exact tkR_i64 _
      · exact ih _ _
theorem parse_i64 : ∀ (k : Nat) (l ns : List Int), parse k l = some ns → (∀ x ∈ ns, I64 x) ∧ ns.length ≤ l.length := by
  intro k
  induction k with
  | zero => intro l ns h; simp [parse] at h; subst h; simp
  | succ k ih =>
    intro l ns h
    rw [parse] at h
    split at h
    · obtain rfl := Option.some.inj h; simp
    · split at h
      · exact absurd h (by simp)
      · rename_i h1 h0
        have hs := (tk_size l).resolve_left h0
        cases hp : parse k (l.drop (tk l).2.toNat) with
        | none => rw [hp] at h; exact absurd h (by simp)
        | some ms =>
          rw [hp] at h
          obtain rfl := Option.some.inj h
          obtain ⟨i1, i2⟩ := ih _ _ hp
          rw [List.length_drop] at i2
          refine ⟨fun x hx => ?_, by simp only [List.length_cons]; omega⟩
          rcases List.mem_cons.1 hx with rfl | hx
          · exact tkL_i64 _ _ _ _
          · exact i1 x hx
theorem headD_i64 {l : List Int} (h : ∀ x ∈ l, I64 x) : I64 (l.headD 0) := by
  cases l with
  | nil => exact ⟨by simp, by simp⟩
  | cons x l => exact h x (by simp)
theorem tail_i64 {l : List Int} (h : ∀ x ∈ l, I64 x) : ∀ x ∈ l.tail, I64 x := fun x hx => h x (List.mem_of_mem_tail hx)
theorem drop_i64 {l : List Int} (h : ∀ x ∈ l, I64 x) (n : Nat) : ∀ x ∈ l.drop n, I64 x := fun x hx => h x (List.mem_of_mem_drop hx)
theorem takeN_i64 (c : Nat) : ∀ l : List Int, (∀ x ∈ l, I64 x) → ∀ x ∈ takeN c l, I64 x := by
  induction c with
  | zero => intro l h x hx; simp [takeN] at hx
  | succ c ih =>
    intro l h x hx
    rcases List.mem_cons.1 hx with rfl | hx
    · exact headD_i64 h
    · exact ih _ (tail_i64 h) x hx
theorem takeI_i64 (c : Nat) : ∀ l : List Int, (∀ x ∈ l, I64 x) → ∀ x ∈ takeI c l, I64 x.f0 ∧ I64 x.f1 := by
  induction c with
  | zero => intro l h x hx; simp [takeI] at hx
  | succ c ih =>
    intro l h x hx
    rcases List.mem_cons.1 hx with rfl | hx
    · exact ⟨headD_i64 h, headD_i64 (tail_i64 h)⟩
    · exact ih _ (tail_i64 (tail_i64 h)) x hx
theorem takeD_i64 (c : Nat) : ∀ l : List Int, (∀ x ∈ l, I64 x) → ∀ x ∈ takeD c l, I64 x.f0 ∧ I64 x.f1 := by
  induction c with
  | zero => intro l h x hx; simp [takeD] at hx
  | succ c ih =>
    intro l h x hx
    rcases List.mem_cons.1 hx with rfl | hx
    · exact ⟨headD_i64 h, headD_i64 (tail_i64 h)⟩
    · exact ih _ (tail_i64 (tail_i64 h)) x hx
theorem takeA_i64 (c : Nat) : ∀ l : List Int, (∀ x ∈ l, I64 x) → ∀ x ∈ takeA c l, I64 x.f0 ∧ I64 x.f1 ∧ I64 x.f2 ∧ I64 x.f3 := by
  induction c with
  | zero => intro l h x hx; simp [takeA] at hx
  | succ c ih =>
    intro l h x hx
    rcases List.mem_cons.1 hx with rfl | hx
    · exact ⟨headD_i64 h, headD_i64 (tail_i64 h), headD_i64 (tail_i64 (tail_i64 h)), headD_i64 (tail_i64 (tail_i64 (tail_i64 h)))⟩
    · exact ih _ (tail_i64 (tail_i64 (tail_i64 (tail_i64 h)))) x hx
theorem zero_i64 : I64 0 := ⟨by decide, by decide⟩
theorem cnt_le (l : List Int) (s : Nat) : cnt l s ≤ l.length := by
  unfold cnt
  have h1 := Nat.div_le_self l.tail.length s
  simp at h1 ⊢
  omega
theorem readBody_fits {l : List Int} (h : ∀ x ∈ l, I64 x) (hl : l.length ≤ 5000) {k t p n : Int} (hk : I64 k) (ht : I64 t) (hp : I64 p) (hn : I64 n) : (readBody k t p n l).Fits := by
  have h2 := tail_i64 (tail_i64 h)
  have c1 := cnt_le l.tail.tail 1
  have c2 := cnt_le (l.tail.tail.tail.drop (cnt l.tail.tail 1)) 2
  have l2 : l.tail.tail.length ≤ 5000 := by simp; omega
  have l3 : (l.tail.tail.tail.drop (cnt l.tail.tail 1)).length ≤ 5000 := by simp; omega
  exact { k := hk, t := ht, p := hp, n := hn, g := headD_i64 h, o := headD_i64 (tail_i64 h), args := takeN_i64 _ _ (tail_i64 h2), imgs := takeI_i64 _ _ (tail_i64 (drop_i64 (tail_i64 h2) _)), di := by simp [readBody], ac := by simp [readBody], largs := by simp only [readBody, takeN_len]; omega, limgs := by simp only [readBody, takeI_len]; omega, ldi := by simp [readBody], lac := by simp [readBody] }
theorem readF_fits {l : List Int} (h : ∀ x ∈ l, I64 x) (hl : l.length ≤ 5000) : (readF l).Fits := by
  unfold readF
  simp only
  split
  · have h1 := tail_i64 h
    have c1 := cnt_le l.tail 2
    have c2 := cnt_le (l.tail.tail.drop (2 * cnt l.tail 2)) 4
    have l1 : l.tail.length ≤ 5000 := by simp; omega
    have l3 : (l.tail.tail.drop (2 * cnt l.tail 2)).length ≤ 5000 := by simp; omega
    exact { k := headD_i64 h, t := zero_i64, p := zero_i64, n := zero_i64, g := zero_i64, o := zero_i64, args := by simp, imgs := by simp, di := takeD_i64 _ _ (tail_i64 h1), ac := takeA_i64 _ _ (tail_i64 (drop_i64 (tail_i64 h1) _)), largs := by simp, limgs := by simp, ldi := by simp only [takeD_len]; omega, lac := by simp only [takeA_len]; omega }
  · have h1 := tail_i64 h
    have h2 := tail_i64 (tail_i64 h1)
    have l2 : l.tail.tail.tail.length ≤ 5000 := by simp; omega
    have l3 : l.tail.tail.tail.tail.length ≤ 5000 := by simp; omega
    split
    · exact readBody_fits (tail_i64 h2) l3 (headD_i64 h) (headD_i64 h1) (headD_i64 (tail_i64 h1)) (headD_i64 h2)
    · split
      · exact readBody_fits h2 l2 (headD_i64 h) (headD_i64 h1) (headD_i64 (tail_i64 h1)) zero_i64
      · exact { k := headD_i64 h, t := headD_i64 h1, p := headD_i64 (tail_i64 h1), n := zero_i64, g := zero_i64, o := zero_i64, args := by simp, imgs := by simp, di := by simp, ac := by simp, largs := by simp, limgs := by simp, ldi := by simp, lac := by simp }
def decodeF (b : List Int) : Rec × Option Int :=
  if b.length > 4096 then (Rec.zero, some 4)
  else match parse b.length b with
    | none => (Rec.zero, some 4)
    | some ns => if (readF ns).enc = (b, none) then (readF ns, none) else (Rec.zero, some 4)
theorem enc_ok {r : Rec} {b : List Int} (h : r.enc = (b, none)) : r.Ok ∧ r.bytes = b ∧ b.length ≤ 4096 := by
  unfold Rec.enc at h
  split at h
  · rename_i ho
    split at h
    · exact absurd h (by simp)
    · rename_i hl
      obtain ⟨rfl, _⟩ := Prod.mk.inj h
      exact ⟨ho, rfl, by omega⟩
  · exact absurd h (by simp)
theorem decode_bytes {r : Rec} (hf : r.Fits) {b : List Int} (h : r.enc = (b, none)) : decodeF b = (r, none) := by
  obtain ⟨ho, rfl, hl⟩ := enc_ok h
  unfold decodeF
  have e : readF r.nums = r := by have := readF_of r ho []; rwa [List.append_nil] at this
  rw [if_neg (by omega), show parse r.bytes.length r.bytes = some r.nums from parse_flat r.nums hf.nums_fits _ (Nat.le_refl _)]
  simp only [e]
  rw [if_pos h]
theorem decode_cases (b : List Int) : decodeF b = (Rec.zero, some 4) ∨ ∃ r : Rec, r.Fits ∧ r.enc = (b, none) ∧ decodeF b = (r, none) := by
  unfold decodeF
  split
  · exact .inl rfl
  · rename_i hl
    cases hp : parse b.length b with
    | none => exact .inl rfl
    | some ns =>
      obtain ⟨h1, h2⟩ := parse_i64 _ _ _ hp
      simp only
      split
      · rename_i he
        exact .inr ⟨readF ns, readF_fits h1 (by omega), he, rfl⟩
      · exact .inl rfl
theorem decode_cut {r : Rec} (hf : r.Fits) {b : List Int} (h : r.enc = (b, none)) (n : Nat) (hn : n < b.length) : decodeF (b.take n) = (Rec.zero, some 4) := by
  obtain ⟨ho, rfl, hl⟩ := enc_ok h
  rcases decode_cases (r.bytes.take n) with h' | ⟨s, hs, es, _⟩
  · exact h'
  · obtain ⟨os, eb, _⟩ := enc_ok es
    obtain ⟨_, ht⟩ := bytes_prefix hs hf os ho (r.bytes.drop n) (by rw [eb, List.take_append_drop])
    have := congrArg List.length ht
    simp at this
    omega
theorem decode_more {r : Rec} (hf : r.Fits) {b : List Int} (h : r.enc = (b, none)) (x : Int) : decodeF (b ++ [x]) = (Rec.zero, some 4) := by
  obtain ⟨ho, rfl, hl⟩ := enc_ok h
  rcases decode_cases (r.bytes ++ [x]) with h' | ⟨s, hs, es, _⟩
  · exact h'
  · obtain ⟨os, eb, _⟩ := enc_ok es
    obtain ⟨_, ht⟩ := bytes_prefix hf hs ho os [x] eb.symm
    exact absurd ht (by simp)
end Go.Proofs.Ytcplblpmgajmnaa.A
namespace Go.Proofs.Ytcplblpmgajmnaa.A
open Go.RowKit Go.Proofs.YtcplblpmgajmnaaW.PrintWords Go.Proofs.YtcplblpmgajmnaaW.PrintLast Go.Proofs.YtcplblpmgajmnaaW.PrintMore
attribute [local go_sem] max2_int min2_int max_two min_two max_three min_three max_four min_four   -- for this text's walks alone
set_option linter.unusedVariables false
set_option linter.unusedSimpArgs false
def bytes_Equal.f (l0 : List Int) (l1 : List Int) : Option (Bool) := some ((strOfNums l0).toList == (strOfNums l1).toList)
set_option maxHeartbeats 8000000 in
set_option maxRecDepth 100000 in
theorem bytes_Equal.calls (A0 : Option Addr) (c0 : Nat) (l0 : List Int) (A1 : Option Addr) (c1 : Nat) (l1 : List Int) (r : Bool) (w : World) (hr0 : Kd.C (Kd.int .u8) w A0 l0.length l0) (hc0 : l0.length ≤ c0) (hr1 : Kd.C (Kd.int .u8) w A1 l1.length l1) (hc1 : l1.length ≤ c1) (h : bytes_Equal.f l0 l1 = some r) :
    Calls Try.prog 27 #[.slice A0 l0.length c0, .slice A1 l1.length c1] w fun e w' => e = .returned (.bool r) ∧ Drawn0 w w' := by
  have HR0 := Aside0.mk hr0
  have HC0 := Aside0.mk hc0
  clear hr0 hc0
  have HR1 := Aside0.mk hr1
  have HC1 := Aside0.mk hc1
  clear hr1 hc1
  have H : (some ((strOfNums l0).toList == (strOfNums l1).toList)) = some r := h
  clear h
  obtain rfl := Option.some.inj H
  have hcv3 := Kd.C_string (P := Try.prog) (A := A0) (c := c0) Try.underlying22 Try.underlying5 Try.underlying9 HR0.out
  have hcv4 := Kd.C_string (P := Try.prog) (A := A1) (c := c1) Try.underlying22 Try.underlying5 Try.underlying9 HR1.out
  go_enter Try.func27, Try.ntmps27
  go_wp2
  go_ret
  exact ⟨by first | rfl | (simp; done) | (simp [*]; done), by repeat (first | exact Drawn0.refl _ | apply Drawn0.step)⟩
end Go.Proofs.Ytcplblpmgajmnaa.A
namespace Go.Proofs.Ytcplblpmgajmnaa.A
open Go.RowKit Go.Proofs.YtcplblpmgajmnaaW.PrintWords Go.Proofs.YtcplblpmgajmnaaW.PrintLast Go.Proofs.YtcplblpmgajmnaaW.PrintMore
set_option linter.unusedVariables false
set_option linter.unusedSimpArgs false
instance (l : List Int) : Decidable (Bytes l) := inferInstanceAs (Decidable (∀ c ∈ l, 0 ≤ c ∧ c ≤ 255))
theorem str_inj : ∀ {a b : List Int}, Bytes a → Bytes b → (strOfNums a).toList = (strOfNums b).toList → a = b := by
  intro a b ha hb h
  have e : ∀ l : List Int, (strOfNums l).toList = l.map fun n => UInt8.ofNat n.toNat := fun l => by simp [strOfNums, Go.ByteArray.toList_eq]
  rw [e, e] at h
  induction a generalizing b with
  | nil => cases b with
    | nil => rfl
    | cons y b => simp at h
  | cons x a ih => cases b with
    | nil => simp at h
    | cons y b =>
      simp only [List.map_cons, List.cons.injEq] at h
      have hx := ha x (by simp)
      have hy := hb y (by simp)
      have h1 := congrArg UInt8.toNat h.1
      rw [UInt8.toNat_ofNat', UInt8.toNat_ofNat'] at h1
      rw [ih (fun c hc => ha c (List.mem_cons_of_mem _ hc)) (fun c hc => hb c (List.mem_cons_of_mem _ hc)) h.2, show x = y by omega]
theorem str_eq {a b : List Int} (ha : Bytes a) (hb : Bytes b) : ((strOfNums a).toList == (strOfNums b).toList) = decide (a = b) := by
  by_cases h : a = b
  · subst h; simp
  · rw [decide_eq_false h, beq_eq_false_iff_ne]
    exact fun e => h (str_inj ha hb e)
theorem own_ten {α : Type} {d : Kd α} {e : Nat} {W : World} {base g m : Nat} {v : Value} {xs : List α} {v0 v1 v2 v3 v4 v5 v6 v7 v8 v9 : Value} (h : d.R e W base (fun _ => True) v xs) (hg : g < base) (hb : m ≤ g) :
    d.R e ((((((((((W.setCell ⟨g, 0, none⟩ v0).setCell ⟨g, 1, none⟩ v1).setCell ⟨g, 2, none⟩ v2).setCell ⟨g, 3, none⟩ v3).setCell ⟨g, 4, none⟩ v4).setCell ⟨g, 5, none⟩ v5).setCell ⟨g, 6, none⟩ v6).setCell ⟨g, 7, none⟩ v7).setCell ⟨g, 8, none⟩ v8).setCell ⟨g, 9, none⟩ v9) m (fun _ => True) v xs := by
  have hq : ∀ k, base ≤ k → k ≠ g := fun k hk => by omega
  have h0 := Kd.R_mono (Kd.R_bound h) (ok' := fun k => base ≤ k) (fun k hk => hk.2.1)
  exact Kd.R_lower (Kd.R_mono (Kd.R_far (Kd.R_far (Kd.R_far (Kd.R_far (Kd.R_far (Kd.R_far (Kd.R_far (Kd.R_far (Kd.R_far (Kd.R_far h0 hq v0) hq v1) hq v2) hq v3) hq v4) hq v5) hq v6) hq v7) hq v8) hq v9) (fun _ _ => trivial)) (by omega)
def RecV (r : Rec) (v5 v6 v8 v9 : Value) : Value := .agg #[.int .i64 r.k, .int .i64 r.t, .int .i64 r.p, .int .i64 r.g, .int .i64 r.o, v5, v6, .int .i64 r.n, v8, v9]
set_option maxHeartbeats 4000000 in
set_option maxRecDepth 100000 in
theorem decode_none (A0 : Option Addr) (c0 : Nat) (l0 : List Int) (w : World) (hr0 : Kd.C (Kd.int .u8) w A0 l0.length l0) (hc0 : l0.length ≤ c0) (h : l0.length > 4096 ∨ (¬ l0.length > 4096 ∧ parse l0.length l0 = none)) :
    Calls Try.prog 12 #[.slice A0 l0.length c0] w fun e w' => e = .returned (.tuple #[.agg #[.int .i64 0, .int .i64 0, .int .i64 0, .int .i64 0, .int .i64 0, .slice none 0 0, .slice none 0 0, .int .i64 0, .slice none 0 0, .slice none 0 0], errW (some 4)]) ∧ Below w.heap.size w w' := by
  have hu30 := Try.underlying30
  have hu32 := Try.underlying32
  have hu44 := Try.underlying44
  have HR0 := Aside0.mk hr0
  clear hr0
  rcases h with h | ⟨h, hp⟩
  · have h1 : decide (4096 < (l0.length : Int)) = true := decide_eq_true (by omega)
    have Hh := Lib.hid h
    clear h
    go_enter Try.func12, Try.ntmps12
    go_wp2
    refine bodyPost_ret (results_ct rfl _ _ w.heap.size 30 #[.int .i64 0, .int .i64 0, .int .i64 0, .int .i64 0, .int .i64 0, .slice none 0 0, .slice none 0 0, .int .i64 0, .slice none 0 0, .slice none 0 0] (0, 0) _ rfl (heap_alloc_new w _) Try.underlying30 rfl (by kernel_rfl)) rfl ⟨rfl, by (with_reducible repeat (refine below_set ?_ (by omega))); exact below_alloc (Below.refl _ _) _⟩
  · have h1 : decide (4096 < (l0.length : Int)) = false := decide_eq_false (by omega)
    have Hh := Lib.hid h
    have Hp := Lib.hid hp
    clear h hp
    go_enter Try.func12, Try.ntmps12
    go_wp2_with fail
    refine (numbers_walk A0 c0 l0 _ (Kd.C_alloc HR0.out _) hc0 (by have := Hh.out; omega) ([], false) (by rw [Hp.out]; rfl)).mono ?_
    rintro e w1 ⟨v1, rfl, ho, hb⟩
    have BK1 := Lib.hid (blk_below (heap_alloc_new w _) hb)
    have HB := Lib.hid (below_then (below_alloc (Below.refl w.heap.size w) _) (by rw [World.size_alloc]; omega) hb)
    clear hb ho
    obtain ⟨d_0, d_1, d_2, d_3, d_4, d_5, d_6, d_7, d_8, d_9⟩ := ten_cells BK1.out
    have hfr := ten_free BK1.out
    go_wp2
    refine bodyPost_ret (results_ct rfl _ _ w.heap.size 30 #[.int .i64 0, .int .i64 0, .int .i64 0, .int .i64 0, .int .i64 0, .slice none 0 0, .slice none 0 0, .int .i64 0, .slice none 0 0, .slice none 0 0] (0, 0) _ rfl (by with_reducible exact blk_put10 BK1.out _ _ _ _ _ _ _ _ _ _) Try.underlying30 rfl (by kernel_rfl)) rfl ⟨rfl, by (with_reducible repeat (refine below_set ?_ (by omega))); exact HB.out⟩
set_option maxHeartbeats 4000000 in
set_option maxRecDepth 100000 in
theorem decode_some (A0 : Option Addr) (c0 : Nat) (l0 : List Int) (w : World) (hr0 : Kd.C (Kd.int .u8) w A0 l0.length l0) (hc0 : l0.length ≤ c0) (hb0 : Bytes l0) (h : ¬ l0.length > 4096) (ns : List Int) (hp : parse l0.length l0 = some ns) (r : Rec) (hr : readF ns = r) (s : Rec) (x : Option Int) (hb0r : (if r.enc = (l0, none) then (r, none) else (Rec.zero, some 4)) = (s, x)) :
    Calls Try.prog 12 #[.slice A0 l0.length c0] w fun e w' => ∃ (v5 v6 v8 v9 : Value), e = .returned (.tuple #[RecV s v5 v6 v8 v9, errW x]) ∧ Kd.R (Kd.int .i64) 3 w' w.heap.size (fun _ => True) v5 s.args ∧ Kd.R k52 52 w' w.heap.size (fun _ => True) v6 s.imgs ∧ Kd.R k54 54 w' w.heap.size (fun _ => True) v8 s.di ∧ Kd.R k56 56 w' w.heap.size (fun _ => True) v9 s.ac ∧ Below w.heap.size w w' := by
  have hu30 := Try.underlying30
  have hu32 := Try.underlying32
  have hu44 := Try.underlying44
  have hu66 := Try.underlying66
  have HR0 := Aside0.mk hr0
  clear hr0
  have h1 : decide (4096 < (l0.length : Int)) = false := decide_eq_false (by omega)
  have Hh := Lib.hid h
  have Hp := Lib.hid hp
  have Hr := Lib.hid hr
  have H0 := Lib.hid hb0
  clear h hp hr hb0
  go_enter Try.func12, Try.ntmps12
  go_wp2_with fail
  refine (numbers_walk A0 c0 l0 _ (Kd.C_alloc HR0.out _) hc0 (by have := Hh.out; omega) (ns, true) (by rw [Hp.out]; rfl)).mono ?_
  rintro e w1 ⟨v1, rfl, ho, hb⟩
  have BK1 := Lib.hid (blk_below (heap_alloc_new w _) hb)
  have HB := Lib.hid (below_then (below_alloc (Below.refl w.heap.size w) _) (by rw [World.size_alloc]; omega) hb)
  clear hb
  obtain ⟨A1, c1, rfl, hc1, hC1⟩ := Kd.R_reads ho
  replace hC1 := Aside0.mk hC1
  clear ho
  go_wp2_with fail
  obtain ⟨v', hv'⟩ := read_f ⟨A1, c1, ns⟩ (by show ns.length ≤ 5000; have := (parse_i64 _ _ _ Hp.out).2; have := Hh.out; omega) 20001 (by omega)
  have hv2 : record_reader_read.f 20001 ⟨A1, c1, ns⟩ = some (outOf r v') := hv'.trans (by rw [show readF (View.mk A1 c1 ns).l = r from Hr.out])
  have Hf := Lib.hid (show r.Fits by rw [← Hr.out]; exact readF_fits (parse_i64 _ _ _ Hp.out).1 (by have := (parse_i64 _ _ _ Hp.out).2; have := Hh.out; omega))
  clear hv'
  refine (record_reader_read.calls 20001 w1.heap.size ⟨A1, c1, ns⟩ r.k r.t r.p r.g r.o r.args r.imgs r.n r.di r.ac v' w1 _ ⟨heap_alloc_new _ _, Nat.le_refl _, hC1.out, hc1⟩ (below_alloc (Below.refl _ _) _) hv2).mono ?_
  rintro e w2 ⟨v5, v6, v8, v9, rfl, h5, h6, h8, h9, _, hbb, _⟩
  have BK2 := Lib.hid (blk_below BK1.out hbb)
  have HB2 := Lib.hid (below_then HB.out HB.out.size hbb)
  have hsz : w.heap.size ≤ w1.heap.size := HB.out.size
  have hlt : w.heap.size < w2.heap.size := blk_lt BK2.out
  have hlt1 : w.heap.size < (w1.alloc (Obj.cells #[Value.slice A1 ns.length c1] 66)).heap.size := by rw [World.size_alloc]; omega
  have H5 := Aside0.mk h5
  have H6 := Aside0.mk h6
  have H8 := Aside0.mk h8
  have H9 := Aside0.mk h9
  clear hbb hv2 BK1 HB
  obtain ⟨A5, c5, e5, hc5, hC5⟩ := Kd.R_reads h5
  obtain ⟨A6, c6, e6, hc6, hC6⟩ := Kd.R_reads h6
  obtain ⟨A8, c8, e8, hc8, hC8⟩ := Kd.R_reads h8
  obtain ⟨A9, c9, e9, hc9, hC9⟩ := Kd.R_reads h9
  subst e5 e6 e8 e9
  replace hC5 := Aside0.mk hC5
  replace hC6 := Aside0.mk hC6
  replace hC8 := Aside0.mk hC8
  replace hC9 := Aside0.mk hC9
  clear h5 h6 h8 h9
  have HS := Lib.hid hb0r
  go_wp2_with fail
  have hWb : ∀ o, Below w2.heap.size w2 (w2.alloc o) := fun o => below_alloc (Below.refl _ _) o
  obtain ⟨b, x, he⟩ : ∃ b x, r.enc = (b, x) := ⟨_, _, rfl⟩
  have HE := Lib.hid he
  clear he
  refine (record_Encode.calls 700001 r.k r.t r.p r.g r.o _ _ r.args _ _ r.imgs r.n _ _ r.di _ _ r.ac b x _ (Kd.C_below hC5.out (hWb _)) hc5 (Kd.C_below hC6.out (hWb _)) hc6 (Kd.C_below hC8.out (hWb _)) hc8 (Kd.C_below hC9.out (hWb _)) hc9 ((Encode_f Hf.out 700001 (by omega)).trans (by rw [HE.out]))).mono ?_
  rintro e w3 ⟨v3, rfl, ho3, hb3⟩
  have BK6 := Lib.hid (blk_below (heap_alloc_new w2 _) hb3)
  have HB3 := Lib.hid (below_then (below_alloc (Below.refl w2.heap.size w2) _) (by rw [World.size_alloc]; omega) hb3)
  have BK3 := Lib.hid (blk_below BK2.out HB3.out)
  obtain ⟨A3, c3, e3, hc3, hC3⟩ := Kd.R_reads ho3
  subst e3
  replace hC3 := Aside0.mk hC3
  clear hb3 ho3 hWb
  have hR0 : w3.heap.size ≥ w2.heap.size := HB3.out.size
  obtain ⟨d_0, d_1, d_2, d_3, d_4, d_5, d_6, d_7, d_8, d_9⟩ := ten_cells BK3.out
  have hfr := ten_free BK3.out
  obtain ⟨x_0, x_1, x_2, x_3, x_4, x_5, x_6, x_7, x_8, x_9⟩ := ten_cells BK6.out
  have HBt := Lib.hid (below_then HB2.out HB2.out.size HB3.out)
  have HC0 := Aside0.mk (Kd.C_below HR0.out HBt.out)
  rcases x with _ | x
  · simp only [errW_none]
    have hq : Bytes b := by
      have := (enc_ok HE.out).2.1
      rw [← this]
      exact bytes_flat _
    have HQ := Lib.hid (str_eq hq H0.out)
    have HE2 := HE.out
    by_cases hbl : b = l0
    · subst hbl
      have hd : decide (b = b) = true := decide_eq_true rfl
      have HF := Lib.hid (show bytes_Equal.f b b = some true by unfold bytes_Equal.f; rw [HQ.out, hd])
      obtain ⟨rfl, rfl⟩ := Prod.mk.inj (HS.out.symm.trans (if_pos HE.out))
      clear hq hd HE2
      go_wp2_with fail
      refine (bytes_Equal.calls _ _ b _ _ b true _ hC3.out hc3 HC0.out hc0 HF.out).mono ?_
      rintro e w4 ⟨rfl, hdr⟩
      have hb4 := hdr.below
      replace BK3 := Lib.hid (blk_below BK3.out hb4)
      replace BK6 := Lib.hid (blk_below BK6.out hb4)
      replace HBt := Lib.hid (below_then HBt.out HBt.out.size hb4)
      replace HB3 := Lib.hid (below_then HB3.out HB3.out.size hb4)
      clear hb4 hdr d_0 d_1 d_2 d_3 d_4 d_5 d_6 d_7 d_8 d_9 hfr x_0 x_1 x_2 x_3 x_4 x_5 x_6 x_7 x_8 x_9
      obtain ⟨d_0, d_1, d_2, d_3, d_4, d_5, d_6, d_7, d_8, d_9⟩ := ten_cells BK3.out
      have hfr := ten_free BK3.out
      obtain ⟨x_0, x_1, x_2, x_3, x_4, x_5, x_6, x_7, x_8, x_9⟩ := ten_cells BK6.out
      go_wp2
      refine bodyPost_ret (results_ct rfl _ _ w.heap.size 30 #[.int .i64 s.k, .int .i64 s.t, .int .i64 s.p, .int .i64 s.g, .int .i64 s.o, .slice A5 s.args.length c5, .slice A6 s.imgs.length c6, .int .i64 s.n, .slice A8 s.di.length c8, .slice A9 s.ac.length c9] (0, 0) _ rfl (by with_reducible exact blk_put10 BK3.out _ _ _ _ _ _ _ _ _ _) Try.underlying30 rfl (by kernel_rfl)) rfl ⟨_, _, _, _, rfl, ?_, ?_, ?_, ?_, ?_⟩
      · exact own_ten (Kd.R_below H5.out HB3.out) hlt1 (Nat.le_refl _)
      · exact own_ten (Kd.R_below H6.out HB3.out) hlt1 (Nat.le_refl _)
      · exact own_ten (Kd.R_below H8.out HB3.out) hlt1 (Nat.le_refl _)
      · exact own_ten (Kd.R_below H9.out HB3.out) hlt1 (Nat.le_refl _)
      · (with_reducible repeat (refine below_set ?_ (by omega))); exact HBt.out
    · have hd : decide (b = l0) = false := decide_eq_false hbl
      have HF := Lib.hid (show bytes_Equal.f b l0 = some false by unfold bytes_Equal.f; rw [HQ.out, hd])
      obtain ⟨rfl, rfl⟩ := Prod.mk.inj (HS.out.symm.trans (if_neg (by rw [HE.out]; intro h; exact hbl (Prod.mk.inj h).1)))
      clear hq hd HE2 hbl
      go_wp2_with fail
      refine (bytes_Equal.calls _ _ b _ _ l0 false _ hC3.out hc3 HC0.out hc0 HF.out).mono ?_
      rintro e w4 ⟨rfl, hdr⟩
      have hb4 := hdr.below
      replace BK3 := Lib.hid (blk_below BK3.out hb4)
      replace HBt := Lib.hid (below_then HBt.out HBt.out.size hb4)
      clear hb4 hdr d_0 d_1 d_2 d_3 d_4 d_5 d_6 d_7 d_8 d_9 hfr x_0 x_1 x_2 x_3 x_4 x_5 x_6 x_7 x_8 x_9
      obtain ⟨d_0, d_1, d_2, d_3, d_4, d_5, d_6, d_7, d_8, d_9⟩ := ten_cells BK3.out
      have hfr := ten_free BK3.out
      go_wp2
      refine bodyPost_ret (results_ct rfl _ _ w.heap.size 30 #[.int .i64 0, .int .i64 0, .int .i64 0, .int .i64 0, .int .i64 0, .slice none 0 0, .slice none 0 0, .int .i64 0, .slice none 0 0, .slice none 0 0] (0, 0) _ rfl (by with_reducible exact blk_put10 BK3.out _ _ _ _ _ _ _ _ _ _) Try.underlying30 rfl (by kernel_rfl)) rfl ⟨_, _, _, _, rfl, Kd.R_nil _ _ _ _ _, Kd.R_nil _ _ _ _ _, Kd.R_nil _ _ _ _ _, Kd.R_nil _ _ _ _ _, ?_⟩
      (with_reducible repeat (refine below_set ?_ (by omega))); exact HBt.out
  · simp only [errW_some]
    obtain ⟨rfl, rfl⟩ := Prod.mk.inj (HS.out.symm.trans (if_neg (by rw [HE.out]; intro h; exact absurd (Prod.mk.inj h).2 (by simp))))
    go_wp2
    refine bodyPost_ret (results_ct rfl _ _ w.heap.size 30 #[.int .i64 0, .int .i64 0, .int .i64 0, .int .i64 0, .int .i64 0, .slice none 0 0, .slice none 0 0, .int .i64 0, .slice none 0 0, .slice none 0 0] (0, 0) _ rfl (by with_reducible exact blk_put10 BK3.out _ _ _ _ _ _ _ _ _ _) Try.underlying30 rfl (by kernel_rfl)) rfl ⟨_, _, _, _, rfl, Kd.R_nil _ _ _ _ _, Kd.R_nil _ _ _ _ _, Kd.R_nil _ _ _ _ _, Kd.R_nil _ _ _ _ _, ?_⟩
    (with_reducible repeat (refine below_set ?_ (by omega))); exact HBt.out
def recOut (r : Rec) (e : Option Int) : Int × Int × Int × Int × Int × List Int × List S52 × Int × List S54 × List S56 × Option Int := (r.k, r.t, r.p, r.g, r.o, r.args, r.imgs, r.n, r.di, r.ac, e)
def record_Decode.f (l : List Int) : Option (Int × Int × Int × Int × Int × List Int × List S52 × Int × List S54 × List S56 × Option Int) := if Bytes l then some (recOut (decodeF l).1 (decodeF l).2) else none
theorem decode_rec (A0 : Option Addr) (c0 : Nat) (l0 : List Int) (w : World) (hr0 : Kd.C (Kd.int .u8) w A0 l0.length l0) (hc0 : l0.length ≤ c0) (hb0 : Bytes l0) (s : Rec) (x : Option Int) (h : decodeF l0 = (s, x)) :
    Calls Try.prog 12 #[.slice A0 l0.length c0] w fun e w' => ∃ (v5 v6 v8 v9 : Value), e = .returned (.tuple #[RecV s v5 v6 v8 v9, errW x]) ∧ Kd.R (Kd.int .i64) 3 w' w.heap.size (fun _ => True) v5 s.args ∧ Kd.R k52 52 w' w.heap.size (fun _ => True) v6 s.imgs ∧ Kd.R k54 54 w' w.heap.size (fun _ => True) v8 s.di ∧ Kd.R k56 56 w' w.heap.size (fun _ => True) v9 s.ac ∧ Below w.heap.size w w' := by
  have no : l0.length > 4096 ∨ (¬ l0.length > 4096 ∧ parse l0.length l0 = none) → (s, x) = (Rec.zero, some 4) → Calls Try.prog 12 #[.slice A0 l0.length c0] w fun e w' => ∃ (v5 v6 v8 v9 : Value), e = .returned (.tuple #[RecV s v5 v6 v8 v9, errW x]) ∧ Kd.R (Kd.int .i64) 3 w' w.heap.size (fun _ => True) v5 s.args ∧ Kd.R k52 52 w' w.heap.size (fun _ => True) v6 s.imgs ∧ Kd.R k54 54 w' w.heap.size (fun _ => True) v8 s.di ∧ Kd.R k56 56 w' w.heap.size (fun _ => True) v9 s.ac ∧ Below w.heap.size w w' := by
    intro hn e
    obtain ⟨rfl, rfl⟩ := Prod.mk.inj e
    refine (decode_none A0 c0 l0 w hr0 hc0 hn).mono ?_
    rintro e w' ⟨rfl, hb⟩
    exact ⟨_, _, _, _, rfl, Kd.R_nil _ _ _ _ _, Kd.R_nil _ _ _ _ _, Kd.R_nil _ _ _ _ _, Kd.R_nil _ _ _ _ _, hb⟩
  unfold decodeF at h
  split at h
  · exact no (.inl ‹_›) h.symm
  · split at h
    · exact no (.inr ⟨‹_›, ‹_›⟩) h.symm
    · exact decode_some A0 c0 l0 w hr0 hc0 hb0 ‹_› _ ‹_› _ rfl s x h
theorem record_Decode.calls (A0 : Option Addr) (c0 : Nat) (l0 : List Int) (r1 : Int) (r2 : Int) (r3 : Int) (r4 : Int) (r5 : Int) (r6 : List Int) (r7 : List (S52)) (r8 : Int) (r9 : List (S54)) (r10 : List (S56)) (r11 : Option Int) (w : World) (hr0 : Kd.C (Kd.int .u8) w A0 l0.length l0) (hc0 : l0.length ≤ c0) (h : record_Decode.f l0 = some (r1, r2, r3, r4, r5, r6, r7, r8, r9, r10, r11)) :
    Calls Try.prog 12 #[.slice A0 l0.length c0] w fun e w' => ∃ v5_ v6_ v8_ v9_ : Value, e = .returned (.tuple #[.agg #[.int .i64 r1, .int .i64 r2, .int .i64 r3, .int .i64 r4, .int .i64 r5, v5_, v6_, .int .i64 r8, v8_, v9_], errW r11]) ∧ Kd.R (Kd.int .i64) 3 w' w.heap.size (fun _ => True) v5_ r6 ∧ Kd.R k52 52 w' w.heap.size (fun _ => True) v6_ r7 ∧ Kd.R k54 54 w' w.heap.size (fun _ => True) v8_ r9 ∧ Kd.R k56 56 w' w.heap.size (fun _ => True) v9_ r10 ∧ Below w.heap.size w w' := by
  unfold record_Decode.f at h
  split at h
  · rename_i hb
    obtain h := Option.some.inj h
    unfold recOut at h
    simp only [Prod.mk.injEq] at h
    obtain ⟨rfl, rfl, rfl, rfl, rfl, rfl, rfl, rfl, rfl, rfl, rfl⟩ := h
    exact decode_rec A0 c0 l0 w hr0 hc0 hb _ _ rfl
  · exact absurd h (by simp)
end Go.Proofs.Ytcplblpmgajmnaa.A
namespace Go.Proofs.Ytcplblpmgajmnaa.A
open Go.RowKit Go.Proofs.YtcplblpmgajmnaaW.PrintWords Go.Proofs.YtcplblpmgajmnaaW.PrintLast Go.Proofs.YtcplblpmgajmnaaW.PrintMore
set_option linter.unusedVariables false
set_option linter.unusedSimpArgs false
def Rec.ex : Rec := ⟨3, 3, 9, 0, 0, [], [], 0, [], []⟩
theorem ex_fits : Rec.ex.Fits :=
  { k := ⟨by decide, by decide⟩, t := ⟨by decide, by decide⟩, p := ⟨by decide, by decide⟩, n := zero_i64, g := zero_i64, o := zero_i64, args := by simp [Rec.ex], imgs := by simp [Rec.ex], di := by simp [Rec.ex], ac := by simp [Rec.ex], largs := by simp [Rec.ex], limgs := by simp [Rec.ex], ldi := by simp [Rec.ex], lac := by simp [Rec.ex] }
theorem ex_bytes : Rec.ex.bytes = [6, 6, 18] := by
  have h1 : enc 3 = [6] := by unfold enc; rw [show zig 3 = 6 by decide, digits_lt (by decide)]; rfl
  have h2 : enc 9 = [18] := by unfold enc; rw [show zig 9 = 18 by decide, digits_lt (by decide)]; rfl
  show [3, 3, 9].flatMap enc = _
  simp [h1, h2]
theorem ex_enc : Rec.ex.enc = ([6, 6, 18], none) := by
  unfold Rec.enc
  rw [if_pos (show Rec.ex.Ok from .inr (.inr (.inl ⟨.inl rfl, ⟨by decide, by decide⟩, rfl, rfl, rfl, rfl, rfl, rfl, rfl⟩))), ex_bytes]
  rfl
set_option maxHeartbeats 4000000 in
set_option maxRecDepth 100000 in
theorem alive_true (w : World) : Calls Try.prog 10 #[] w fun e w' => e = .returned (.bool true) ∧ Below w.heap.size w w' := by
  have hu30 := Try.underlying30
  have hu32 := Try.underlying32
  have hu44 := Try.underlying44
  obtain ⟨b, Hbl⟩ : ∃ b : List Int, Hid (b = [6, 6, 18]) := ⟨_, Lib.hid rfl⟩
  have Hs : ((strOfNums b).toList == ([6, 6, 18] : List UInt8)) = true := by rw [Hbl.out]; simp [strOfNums, Go.ByteArray.toList_eq]
  go_enter Try.func10, Try.ntmps10
  go_wp2_with fail
  refine (record_Encode.calls 700001 3 3 9 0 0 none 0 [] none 0 [] 0 none 0 [] none 0 [] b none _ (Kd.C_nil _ _) (Nat.le_refl _) (Kd.C_nil _ _) (Nat.le_refl _) (Kd.C_nil _ _) (Nat.le_refl _) (Kd.C_nil _ _) (Nat.le_refl _) ((Encode_f ex_fits 700001 (by omega)).trans (by rw [ex_enc, Hbl.out]))).mono ?_
  rintro e w1 ⟨v1, rfl, ho1, hb⟩
  have HB := Lib.hid hb
  obtain ⟨A1, c1, e1, hc1, hC1⟩ := Kd.R_reads ho1
  subst e1
  replace hC1 := Aside0.mk hC1
  clear hb ho1
  simp only [errW_none]
  go_wp2_with fail
  refine (decode_rec A1 c1 b _ hC1.out hc1 (by rw [Hbl.out]; decide) Rec.ex none (by rw [Hbl.out]; exact decode_bytes ex_fits ex_enc)).mono ?_
  rintro e w2 ⟨v5, v6, v8, v9, rfl, h5, h6, h8, h9, hbb⟩
  have HB2 := Lib.hid (below_then HB.out HB.out.size hbb)
  replace hC1 := Aside0.mk (Kd.C_below hC1.out hbb)
  obtain ⟨A5, c5, e5, _, _⟩ := Kd.R_reads h5
  obtain ⟨A6, c6, e6, _, _⟩ := Kd.R_reads h6
  obtain ⟨A8, c8, e8, _, _⟩ := Kd.R_reads h8
  obtain ⟨A9, c9, e9, _, _⟩ := Kd.R_reads h9
  subst e5 e6 e8 e9
  clear h5 h6 h8 h9 hbb HB
  have hcv := fun o => Kd.C_string (P := Try.prog) (A := A1) (c := c1) Try.underlying22 Try.underlying5 Try.underlying9 (Kd.C_alloc hC1.out o)
  simp only [errW_none, RecV, Rec.ex]
  go_wp2
  go_ret
  exact ⟨by rfl, by (with_reducible repeat (first | apply below_alloc | apply pw_below_drewN | apply below_drew1)); exact HB2.out⟩
end Go.Proofs.Ytcplblpmgajmnaa.A
namespace Go.Proofs.Ytcplblpmgajmnaa.A
open Go.RowKit Go.Proofs.YtcplblpmgajmnaaW.PrintWords Go.Proofs.YtcplblpmgajmnaaW.PrintLast Go.Proofs.YtcplblpmgajmnaaW.PrintMore
attribute [local go_sem] max2_int min2_int max_two min_two max_three min_three max_four min_four   -- for this text's walks alone
set_option linter.unusedVariables false
set_option linter.unusedSimpArgs false
def palimpsestlaw16_large.f (a0_0 : Int) (a0_1 : Int) (a0_2 : Int) (a0_3 : Int) (a0_4 : Int) (l0_5 : List Int) (l0_6 : List (S52)) (a0_7 : Int) (l0_8 : List (S54)) (l0_9 : List (S56)) : Option (Bool) := some (decide ((wrap64 ((wrap64 ((wrap64 ((l0_5.length : Int) + (l0_6.length : Int))) + (l0_8.length : Int))) + (l0_9.length : Int))) > 3000))
set_option maxHeartbeats 8000000 in
set_option maxRecDepth 100000 in
theorem palimpsestlaw16_large.calls (a0_0 : Int) (a0_1 : Int) (a0_2 : Int) (a0_3 : Int) (a0_4 : Int) (A0_5 : Option Addr) (c0_5 : Nat) (l0_5 : List Int) (A0_6 : Option Addr) (c0_6 : Nat) (l0_6 : List (S52)) (a0_7 : Int) (A0_8 : Option Addr) (c0_8 : Nat) (l0_8 : List (S54)) (A0_9 : Option Addr) (c0_9 : Nat) (l0_9 : List (S56)) (r : Bool) (w : World) (hr0_5 : Kd.C (Kd.int .i64) w A0_5 l0_5.length l0_5) (hc0_5 : l0_5.length ≤ c0_5) (hr0_6 : Kd.C k52 w A0_6 l0_6.length l0_6) (hc0_6 : l0_6.length ≤ c0_6) (hr0_8 : Kd.C k54 w A0_8 l0_8.length l0_8) (hc0_8 : l0_8.length ≤ c0_8) (hr0_9 : Kd.C k56 w A0_9 l0_9.length l0_9) (hc0_9 : l0_9.length ≤ c0_9) (h : palimpsestlaw16_large.f a0_0 a0_1 a0_2 a0_3 a0_4 l0_5 l0_6 a0_7 l0_8 l0_9 = some r) :
    Calls Try.prog 17 #[.agg #[.int .i64 a0_0, .int .i64 a0_1, .int .i64 a0_2, .int .i64 a0_3, .int .i64 a0_4, .slice A0_5 l0_5.length c0_5, .slice A0_6 l0_6.length c0_6, .int .i64 a0_7, .slice A0_8 l0_8.length c0_8, .slice A0_9 l0_9.length c0_9]] w fun e w' => e = .returned (.bool r) ∧ Below w.heap.size w w' := by
  have hu30 := Try.underlying30
  have HR0_5 := Aside0.mk hr0_5
  have HC0_5 := Aside0.mk hc0_5
  clear hr0_5 hc0_5
  have HR0_6 := Aside0.mk hr0_6
  have HC0_6 := Aside0.mk hc0_6
  clear hr0_6 hc0_6
  have HR0_8 := Aside0.mk hr0_8
  have HC0_8 := Aside0.mk hc0_8
  clear hr0_8 hc0_8
  have HR0_9 := Aside0.mk hr0_9
  have HC0_9 := Aside0.mk hc0_9
  clear hr0_9 hc0_9
  have HB := Aside0.mk (Below.refl w.heap.size w)
  have H : (some (decide ((wrap64 ((wrap64 ((wrap64 ((l0_5.length : Int) + (l0_6.length : Int))) + (l0_8.length : Int))) + (l0_9.length : Int))) > 3000))) = some r := h
  clear h
  obtain rfl := Option.some.inj H
  go_enter Try.func17, Try.ntmps17
  go_wp2_with (first | ((with_reducible refine gate_dst (N := 1) rfl ?_); refine box_event ?hg (N := 1) ?hd (cs := #[.int .i64 a0_0, .int .i64 a0_1, .int .i64 a0_2, .int .i64 a0_3, .int .i64 a0_4, .slice A0_5 l0_5.length c0_5, .slice A0_6 l0_6.length c0_6, .int .i64 a0_7, .slice A0_8 l0_8.length c0_8, .slice A0_9 l0_9.length c0_9]) (t := 30) ?hr ?_; (case hd => rfl); (case hg => rfl); (case hr => first | (go_simp; done) | (go_simp; rfl)); intro gb436 hg w2 hbox hb; have n0_ := Aside0.mk (below_step (by repeat (first | (with_reducible first | exact HB.out | apply below_alloc | apply pw_below_drewN | apply below_drew1) | exact HB.out)) hb); have n1_ := Aside0.mk (hbox); have n2_ := Aside0.mk ((by rw [hg]; exact (below_size (by repeat (first | (with_reducible first | exact HB.out | apply below_alloc | apply pw_below_drewN | apply below_drew1) | exact HB.out))) : w.heap.size ≤ gb436)); have n3_ := Aside0.mk ((by rw [hg]; exact (below_size (by repeat (first | (with_reducible first | exact HB.out | apply below_alloc | apply pw_below_drewN | apply below_drew1) | exact HB.out))) : w.heap.size ≤ gb436)); clear HB; have HB := n0_; have BK436 := n1_; have GW436 := n2_; have GE436 := n3_; clear n0_ n1_ n2_ n3_; clear hb hbox hg; have hcz3_0 : w2.cell? ⟨gb436, 0, none⟩ = some (.int .i64 a0_0) := (blk_cell BK436.out 0).trans rfl; have hcz3_1 : w2.cell? ⟨gb436, 1, none⟩ = some (.int .i64 a0_1) := (blk_cell BK436.out 1).trans rfl; have hcz3_2 : w2.cell? ⟨gb436, 2, none⟩ = some (.int .i64 a0_2) := (blk_cell BK436.out 2).trans rfl; have hcz3_3 : w2.cell? ⟨gb436, 3, none⟩ = some (.int .i64 a0_3) := (blk_cell BK436.out 3).trans rfl; have hcz3_4 : w2.cell? ⟨gb436, 4, none⟩ = some (.int .i64 a0_4) := (blk_cell BK436.out 4).trans rfl; have hcz3_5 : w2.cell? ⟨gb436, 5, none⟩ = some (.slice A0_5 l0_5.length c0_5) := (blk_cell BK436.out 5).trans rfl; have hcz3_6 : w2.cell? ⟨gb436, 6, none⟩ = some (.slice A0_6 l0_6.length c0_6) := (blk_cell BK436.out 6).trans rfl; have hcz3_7 : w2.cell? ⟨gb436, 7, none⟩ = some (.int .i64 a0_7) := (blk_cell BK436.out 7).trans rfl; have hcz3_8 : w2.cell? ⟨gb436, 8, none⟩ = some (.slice A0_8 l0_8.length c0_8) := (blk_cell BK436.out 8).trans rfl; have hcz3_9 : w2.cell? ⟨gb436, 9, none⟩ = some (.slice A0_9 l0_9.length c0_9) := (blk_cell BK436.out 9).trans rfl; have hfz3_0 := blk_frozen BK436.out 0; have hfz3_1 := blk_frozen BK436.out 1; have hfz3_2 := blk_frozen BK436.out 2; have hfz3_3 := blk_frozen BK436.out 3; have hfz3_4 := blk_frozen BK436.out 4; have hfz3_5 := blk_frozen BK436.out 5; have hfz3_6 := blk_frozen BK436.out 6; have hfz3_7 := blk_frozen BK436.out 7; have hfz3_8 := blk_frozen BK436.out 8; have hfz3_9 := blk_frozen BK436.out 9))
  go_ret
  exact ⟨by first | rfl | (simp [errW_none, errW_some] <;> rfl) | (simp [*, errW_none, errW_some] <;> rfl), by repeat (first | (with_reducible first | exact HB.out | apply below_alloc | apply pw_below_drewN | apply below_drew1 | refine below_set ?_ GE436.out) | exact HB.out)⟩
end Go.Proofs.Ytcplblpmgajmnaa.A
namespace Go.Proofs.Ytcplblpmgajmnaa.A
open Go.RowKit Go.Proofs.YtcplblpmgajmnaaW.PrintWords Go.Proofs.YtcplblpmgajmnaaW.PrintLast Go.Proofs.YtcplblpmgajmnaaW.PrintMore
set_option linter.unusedVariables false
set_option linter.unusedSimpArgs false
structure Lies where
  A5 : Option Addr
  c5 : Nat
  A6 : Option Addr
  c6 : Nat
  A8 : Option Addr
  c8 : Nat
  A9 : Option Addr
  c9 : Nat
structure RIn (w : World) (r : Rec) (a : Lies) : Prop where
  C5 : Kd.C (Kd.int .i64) w a.A5 r.args.length r.args
  L5 : r.args.length ≤ a.c5
  C6 : Kd.C k52 w a.A6 r.imgs.length r.imgs
  L6 : r.imgs.length ≤ a.c6
  C8 : Kd.C k54 w a.A8 r.di.length r.di
  L8 : r.di.length ≤ a.c8
  C9 : Kd.C k56 w a.A9 r.ac.length r.ac
  L9 : r.ac.length ≤ a.c9
theorem RIn.below {w w1 : World} {r : Rec} {a : Lies} (h : RIn w r a) (hb : Below w.heap.size w w1) : RIn w1 r a :=
  ⟨Kd.C_below h.C5 hb, h.L5, Kd.C_below h.C6 hb, h.L6, Kd.C_below h.C8 hb, h.L8, Kd.C_below h.C9 hb, h.L9⟩
theorem RIn.alloc {w : World} {r : Rec} {a : Lies} (h : RIn w r a) (o : Obj) : RIn (w.alloc o) r a := h.below (below_alloc (Below.refl _ _) o)
def Rec.cells (r : Rec) (a : Lies) : Array Value := #[.int .i64 r.k, .int .i64 r.t, .int .i64 r.p, .int .i64 r.g, .int .i64 r.o, .slice a.A5 r.args.length a.c5, .slice a.A6 r.imgs.length a.c6, .int .i64 r.n, .slice a.A8 r.di.length a.c8, .slice a.A9 r.ac.length a.c9]
structure Rec.Wide (r : Rec) : Prop where
  k : I64 r.k
  t : I64 r.t
  p : I64 r.p
  g : I64 r.g
  o : I64 r.o
  n : I64 r.n
  args : ∀ x ∈ r.args, I64 x
  imgs : ∀ x ∈ r.imgs, I64 x.f0 ∧ I64 x.f1
  di : ∀ x ∈ r.di, I64 x.f0 ∧ I64 x.f1
  ac : ∀ x ∈ r.ac, I64 x.f0 ∧ I64 x.f1 ∧ I64 x.f2 ∧ I64 x.f3
  largs : r.args.length < 17592186044416
  limgs : r.imgs.length < 8796093022208
  ldi : r.di.length < 8796093022208
  lac : r.ac.length < 4398046511104
def Rec.many (r : Rec) : Nat := r.args.length + r.imgs.length + r.di.length + r.ac.length
theorem Rec.Wide.fits {r : Rec} (h : r.Wide) (hl : ¬ r.many > 3000) : r.Fits := by
  unfold Rec.many at hl
  exact { k := h.k, t := h.t, p := h.p, g := h.g, o := h.o, n := h.n, args := h.args, imgs := h.imgs, di := h.di, ac := h.ac, largs := by omega, limgs := by omega, ldi := by omega, lac := by omega }
theorem large_c {r : Rec} {a : Lies} {w : World} (h : RIn w r a) (hw : r.Wide) : Calls Try.prog 17 #[.agg (r.cells a)] w fun e w' => e = .returned (.bool (decide (r.many > 3000))) ∧ Below w.heap.size w w' := by
  refine palimpsestlaw16_large.calls r.k r.t r.p r.g r.o a.A5 a.c5 r.args a.A6 a.c6 r.imgs r.n a.A8 a.c8 r.di a.A9 a.c9 r.ac _ w h.C5 h.L5 h.C6 h.L6 h.C8 h.L8 h.C9 h.L9 ?_
  have h1 := hw.largs
  have h2 := hw.limgs
  have h3 := hw.ldi
  have h4 := hw.lac
  unfold palimpsestlaw16_large.f Rec.many
  congr 1
  rw [decide_eq_decide]
  unfold wrap64
  omega
theorem enc_c {r : Rec} {a : Lies} {w : World} (h : RIn w r a) (hf : r.Fits) : Calls Try.prog 18 #[.agg (r.cells a)] w fun e w' => ∃ A c, e = .returned (.tuple #[.slice A r.enc.1.length c, errW r.enc.2]) ∧ r.enc.1.length ≤ c ∧ Kd.C (Kd.int .u8) w' A r.enc.1.length r.enc.1 ∧ Below w.heap.size w w' := by
  refine (record_Encode.calls 700001 r.k r.t r.p r.g r.o a.A5 a.c5 r.args a.A6 a.c6 r.imgs r.n a.A8 a.c8 r.di a.A9 a.c9 r.ac r.enc.1 r.enc.2 w h.C5 h.L5 h.C6 h.L6 h.C8 h.L8 h.C9 h.L9 (Encode_f hf 700001 (by omega))).mono ?_
  rintro e w' ⟨v, rfl, ho, hb⟩
  obtain ⟨A, c, rfl, hc, hC⟩ := Kd.R_reads ho
  exact ⟨A, c, rfl, hc, hC, hb⟩
theorem check_c {r : Rec} {a : Lies} {w : World} (h : RIn w r a) : Calls Try.prog 20 #[.agg (r.cells a)] w fun e w' => e = .returned (errW (if r.Ok then none else some 2)) ∧ Below w.heap.size w w' :=
  record_Check.calls r.k r.t r.p r.g r.o a.A5 a.c5 r.args a.A6 a.c6 r.imgs r.n a.A8 a.c8 r.di a.A9 a.c9 r.ac _ w h.C5 h.L5 h.C6 h.L6 h.C8 h.L8 h.C9 h.L9 rfl
theorem decode_c {A0 : Option Addr} {c0 : Nat} {l0 : List Int} {w : World} (hr0 : Kd.C (Kd.int .u8) w A0 l0.length l0) (hc0 : l0.length ≤ c0) (hb0 : Bytes l0) {s : Rec} {x : Option Int} (h : decodeF l0 = (s, x)) :
    Calls Try.prog 12 #[.slice A0 l0.length c0] w fun e w' => ∃ a, e = .returned (.tuple #[.agg (s.cells a), errW x]) ∧ RIn w' s a ∧ Below w.heap.size w w' := by
  refine (decode_rec A0 c0 l0 w hr0 hc0 hb0 s x h).mono ?_
  rintro e w' ⟨v5, v6, v8, v9, rfl, h5, h6, h8, h9, hb⟩
  obtain ⟨A5, c5, rfl, hc5, hC5⟩ := Kd.R_reads h5
  obtain ⟨A6, c6, rfl, hc6, hC6⟩ := Kd.R_reads h6
  obtain ⟨A8, c8, rfl, hc8, hC8⟩ := Kd.R_reads h8
  obtain ⟨A9, c9, rfl, hc9, hC9⟩ := Kd.R_reads h9
  exact ⟨⟨A5, c5, A6, c6, A8, c8, A9, c9⟩, rfl, ⟨hC5, hc5, hC6, hc6, hC8, hc8, hC9, hc9⟩, hb⟩
theorem enc_err {r : Rec} {b : List Int} {x : Int} (h : r.enc = (b, some x)) : b = [] ∧ x = 2 := by
  unfold Rec.enc at h
  split at h
  · split at h
    · obtain ⟨h1, h2⟩ := Prod.mk.inj h
      exact ⟨h1.symm, (Option.some.inj h2).symm⟩
    · exact absurd (Prod.mk.inj h).2 (by simp)
  · obtain ⟨h1, h2⟩ := Prod.mk.inj h
    exact ⟨h1.symm, (Option.some.inj h2).symm⟩
theorem enc_some {r : Rec} {b : List Int} (h : r.enc = (b, none)) : 0 < b.length ∧ b.length ≤ 4096 ∧ Bytes b := by
  obtain ⟨ho, rfl, hl⟩ := enc_ok h
  refine ⟨?_, hl, bytes_flat _⟩
  have e : ∃ l, r.nums = r.k :: l := by
    unfold Rec.nums
    split
    · exact ⟨_, rfl⟩
    · split
      · exact ⟨_, rfl⟩
      · split <;> exact ⟨_, rfl⟩
  obtain ⟨l, e⟩ := e
  unfold Rec.bytes
  rw [e, List.flatMap_cons, List.length_append]
  have := enc_pos r.k
  omega
end Go.Proofs.Ytcplblpmgajmnaa.A
namespace Go.Proofs.Ytcplblpmgajmnaa.A
open Go.ChangeShapes Go.WideShapes Go.ChangeAt Go.RowKit Go.Deep Go.Proofs.YtcplblpmgajmnaaW.PrintWords Go.Proofs.YtcplblpmgajmnaaW.PrintLast Go.Proofs.YtcplblpmgajmnaaW.PrintMore
set_option linter.unusedVariables false
set_option linter.unusedSimpArgs false
theorem cells3 : Try.prog.cellsOf 3 = 1 := by kernel_rfl
theorem cells25 : Try.prog.cellsOf 25 = 1 := by kernel_rfl
theorem cells26 : Try.prog.cellsOf 26 = 1 := by kernel_rfl
theorem cells27 : Try.prog.cellsOf 27 = 1 := by kernel_rfl
theorem cells28 : Try.prog.cellsOf 28 = 1 := by kernel_rfl
theorem cells30 : Try.prog.cellsOf 30 = 10 := by kernel_rfl
theorem cells52 : Try.prog.cellsOf 52 = 2 := by kernel_rfl
theorem cells54 : Try.prog.cellsOf 54 = 2 := by kernel_rfl
theorem cells56 : Try.prog.cellsOf 56 = 4 := by kernel_rfl
theorem bytes3 : Try.prog.bytesOf 3 = 8 := by kernel_rfl
theorem bytes52 : Try.prog.bytesOf 52 = 16 := by kernel_rfl
theorem bytes54 : Try.prog.bytesOf 54 = 16 := by kernel_rfl
theorem bytes56 : Try.prog.bytesOf 56 = 32 := by kernel_rfl
theorem i64_wf {n : Int} (h : (Lit.int .i64 n).wf = true) : I64 n := by
  simp only [Lit.wf, Bool.and_eq_true, decide_eq_true_eq] at h
  exact ⟨h.1, h.2⟩
theorem u8_wf {n : Int} (h : (Lit.int .u8 n).wf = true) : 0 ≤ n ∧ n ≤ 255 := by
  simp only [Lit.wf, Bool.and_eq_true, decide_eq_true_eq] at h
  exact ⟨h.1, h.2⟩
theorem cells5 : Try.prog.cellsOf 5 = 1 := by kernel_rfl
theorem bytes5 : Try.prog.bytesOf 5 = 1 := by kernel_rfl
section
variable {H : Type} {enc : TypeId × Value → H} {W : World} {sp : Nat → Bool}
theorem open_rows {α : Type} {d : Kd α} (z0 : α) {t e bytes fuel : Nat} {c : Value} {x : DataW H × List MemPlace} {P : α → Prop} (ht : Try.prog.underlying t = some (.slice e)) (hd : Try.prog.cellsOf e = d.sz) (hb : Try.prog.bytesOf e = bytes)
    (hel : ∀ n cs y, DataW.trod enc Try.prog W 0 sp true n e cs = some y → ∃ z : α, d.K W z cs ∧ P z)
    (h : DataW.trod enc Try.prog W 0 sp true fuel t [c] = some x) (hw : ∀ n ∈ x.1.weights Try.prog t, n ≤ reachBytes) :
    ∃ (A : Option Addr) (cap : Nat) (l : List α), c = .slice A l.length cap ∧ l.length ≤ cap ∧ d.C W A l.length l ∧ (∀ z ∈ l, P z) ∧ l.length * bytes ≤ 140737488351232 := by
  rcases open_slice ht h with ⟨hc, rfl⟩ | ⟨a, len, cap, m, n, D, Pl, hc, hb0, hl, hm, hmm, rfl, hx⟩
  · obtain rfl : c = .slice none 0 0 := by simpa using hc
    exact ⟨none, 0, [], rfl, Nat.le_refl _, Kd.C_nil _ _, by simp, by simp⟩
  · obtain rfl : c = .slice (some a) len cap := by simpa using hc
    have hlm : len ≤ m := by rw [hmm]; split <;> omega
    have hwl : len * bytes ≤ 140737488351232 := by
      have := hw (((List.range len).map D).length + ((List.range (m - len)).map fun j => D (len + j)).length |> (· * Try.prog.bytesOf e)) (by simp [DataW.weights, ht])
      rw [hb] at this
      simp only [List.length_map, List.length_range] at this
      have h2 : len * bytes ≤ (len + (m - len)) * bytes := Nat.mul_le_mul_right _ (by omega)
      have : reachBytes = 140737488351232 := rfl
      omega
    have each : ∀ i, i < len → ∃ q : α × List Value, W.cells? 0 (a.add (i * d.sz)) d.sz = some q.2 ∧ d.K W q.1 q.2 ∧ P q.1 := by
      intro i hi
      obtain ⟨cs, h1, h2⟩ := hx i (by omega)
      rw [hd] at h1
      obtain ⟨z, hz, hp⟩ := hel n cs _ h2
      exact ⟨(z, cs), h1, hz, hp⟩
    haveI : Inhabited α := ⟨z0⟩
    obtain ⟨q, hq⟩ := choose_lt each
    refine ⟨some a, cap, (List.range len).map fun i => (q i).1, by simp, by simpa using hl, ⟨rfl, by simp; unfold maxLen at hm; omega, fun _ => ⟨a, rfl, ?_⟩⟩, ?_, by simpa using hwl⟩
    · intro j p hp
      rw [List.getElem?_map] at hp
      by_cases hj : j < len
      · rw [List.getElem?_range hj] at hp
        obtain rfl : (q j).1 = p := by simpa using hp
        obtain ⟨h1, h2, _⟩ := hq j hj
        obtain ⟨_, hlen, hcell⟩ := World.cells?_some h1
        refine ⟨(q j).2, hlen, h2, fun i u hu => ?_⟩
        have hi : i < (q j).2.length := by
          rcases Nat.lt_or_ge i (q j).2.length with h | h
          · exact h
          · rw [List.getElem?_eq_none h] at hu
            exact absurd hu (by simp)
        have hc := hcell i (by omega)
        rw [Go.Deep.add_add] at hc
        rw [hc, hu]
      · rw [List.getElem?_eq_none (by simpa using hj)] at hp
        exact absurd hp (by simp)
    · intro z hz
      obtain ⟨i, hi, rfl⟩ := List.mem_map.1 hz
      exact (hq i (List.mem_range.1 hi)).2.2
theorem el_int {n : Nat} {cs : List Value} {y : DataW H × List MemPlace} (h : DataW.trod enc Try.prog W 0 sp true n 3 cs = some y) : ∃ z : Int, (Kd.int .i64).K W z cs ∧ I64 z := by
  obtain ⟨z, rfl, rfl, hw⟩ := DataW.trod_int Try.underlying3 h
  exact ⟨z, rfl, i64_wf hw⟩
theorem el_52 {n : Nat} {cs : List Value} {y : DataW H × List MemPlace} (h : DataW.trod enc Try.prog W 0 sp true n 52 cs = some y) : ∃ z : S52, k52.K W z cs ∧ (I64 z.f0 ∧ I64 z.f1) := by
  obtain ⟨xs, m, rfl, rfl, hl, hxs, hf⟩ := DataW.trod_struct Try.underlying52 h
  rw [cells52] at hl
  obtain ⟨c0, c1, rfl⟩ : ∃ c0 c1, cs = [c0, c1] := by
    match cs, hl with
    | [c0, c1], _ => exact ⟨c0, c1, rfl⟩
  obtain ⟨y0, y1, rfl⟩ : ∃ y0 y1, xs = [y0, y1] := by
    match xs, hxs with
    | [y0, y1], _ => exact ⟨y0, y1, rfl⟩
  have g0 := hf 0 _ rfl
  have g1 := hf 1 _ rfl
  simp [cells3] at g0 g1
  obtain ⟨a, e0, rfl, w0⟩ := DataW.trod_int Try.underlying3 g0
  obtain ⟨b, e1, rfl, w1⟩ := DataW.trod_int Try.underlying3 g1
  simp at e0 e1
  subst e0 e1
  exact ⟨⟨a, b⟩, k52_mk W ⟨a, b⟩, i64_wf w0, i64_wf w1⟩
theorem el_54 {n : Nat} {cs : List Value} {y : DataW H × List MemPlace} (h : DataW.trod enc Try.prog W 0 sp true n 54 cs = some y) : ∃ z : S54, k54.K W z cs ∧ (I64 z.f0 ∧ I64 z.f1) := by
  obtain ⟨xs, m, rfl, rfl, hl, hxs, hf⟩ := DataW.trod_struct Try.underlying54 h
  rw [cells54] at hl
  obtain ⟨c0, c1, rfl⟩ : ∃ c0 c1, cs = [c0, c1] := by
    match cs, hl with
    | [c0, c1], _ => exact ⟨c0, c1, rfl⟩
  obtain ⟨y0, y1, rfl⟩ : ∃ y0 y1, xs = [y0, y1] := by
    match xs, hxs with
    | [y0, y1], _ => exact ⟨y0, y1, rfl⟩
  have g0 := hf 0 _ rfl
  have g1 := hf 1 _ rfl
  simp [cells3] at g0 g1
  obtain ⟨a, e0, rfl, w0⟩ := DataW.trod_int Try.underlying3 g0
  obtain ⟨b, e1, rfl, w1⟩ := DataW.trod_int Try.underlying3 g1
  simp at e0 e1
  subst e0 e1
  exact ⟨⟨a, b⟩, k54_mk W ⟨a, b⟩, i64_wf w0, i64_wf w1⟩
theorem el_56 {n : Nat} {cs : List Value} {y : DataW H × List MemPlace} (h : DataW.trod enc Try.prog W 0 sp true n 56 cs = some y) : ∃ z : S56, k56.K W z cs ∧ (I64 z.f0 ∧ I64 z.f1 ∧ I64 z.f2 ∧ I64 z.f3) := by
  obtain ⟨xs, m, rfl, rfl, hl, hxs, hf⟩ := DataW.trod_struct Try.underlying56 h
  rw [cells56] at hl
  obtain ⟨c0, c1, c2, c3, rfl⟩ : ∃ c0 c1 c2 c3, cs = [c0, c1, c2, c3] := by
    match cs, hl with
    | [c0, c1, c2, c3], _ => exact ⟨c0, c1, c2, c3, rfl⟩
  obtain ⟨y0, y1, y2, y3, rfl⟩ : ∃ y0 y1 y2 y3, xs = [y0, y1, y2, y3] := by
    match xs, hxs with
    | [y0, y1, y2, y3], _ => exact ⟨y0, y1, y2, y3, rfl⟩
  have g0 := hf 0 _ rfl
  have g1 := hf 1 _ rfl
  have g2 := hf 2 _ rfl
  have g3 := hf 3 _ rfl
  simp [cells3] at g0 g1 g2 g3
  obtain ⟨a, e0, rfl, w0⟩ := DataW.trod_int Try.underlying3 g0
  obtain ⟨b, e1, rfl, w1⟩ := DataW.trod_int Try.underlying3 g1
  obtain ⟨c, e2, rfl, w2⟩ := DataW.trod_int Try.underlying3 g2
  obtain ⟨e, e3, rfl, w3⟩ := DataW.trod_int Try.underlying3 g3
  simp at e0 e1 e2 e3
  subst e0 e1 e2 e3
  exact ⟨⟨a, b, c, e⟩, k56_mk W ⟨a, b, c, e⟩, i64_wf w0, i64_wf w1, i64_wf w2, i64_wf w3⟩
theorem el_u8 {n : Nat} {cs : List Value} {y : DataW H × List MemPlace} (h : DataW.trod enc Try.prog W 0 sp true n 5 cs = some y) : ∃ z : Int, (Kd.int .u8).K W z cs ∧ (0 ≤ z ∧ z ≤ 255) := by
  obtain ⟨z, rfl, rfl, hw⟩ := DataW.trod_int Try.underlying5 h
  exact ⟨z, rfl, u8_wf hw⟩
theorem open_bytes {base : Nat} {v : Value} {d : DataW H} {p : List MemPlace} (hval : Value.okWide Try.prog W .any base 22 v) (h : DataW.Trod enc Try.prog W 0 sp true 22 v d p) (hsz : ∀ n ∈ d.weights Try.prog 22, n ≤ reachBytes) :
    ∃ (A : Option Addr) (cap : Nat) (l : List Int), v = .slice A l.length cap ∧ l.length ≤ cap ∧ Kd.C (Kd.int .u8) W A l.length l ∧ Bytes l := by
  obtain ⟨a, n, c, rfl⟩ := okWide_slice Try.underlying22 hval
  obtain ⟨fuel, hf⟩ := h
  obtain ⟨A, cap, l, e, h1, h2, h3, _⟩ := open_rows (d := Kd.int .u8) 0 Try.underlying22 cells5 bytes5 (fun n cs y => el_u8) (c := .slice a n c) (by simpa [Value.cells] using hf) hsz
  exact ⟨A, cap, l, e, h1, h2, h3⟩
theorem open_record {base : Nat} {v : Value} {d : DataW H} {p : List MemPlace} (hval : Value.okWide Try.prog W .any base 30 v) (h : DataW.Trod enc Try.prog W 0 sp true 30 v d p) (hsz : ∀ n ∈ d.weights Try.prog 30, n ≤ reachBytes) :
    ∃ (r : Rec) (a : Lies), v = .agg (r.cells a) ∧ RIn W r a ∧ r.Wide := by
  obtain ⟨cs, rfl, hn⟩ := okWide_struct Try.underlying30 hval
  rw [cells30] at hn
  obtain ⟨fuel, hf⟩ := h
  obtain ⟨c0, c1, c2, c3, c4, c5, c6, c7, c8, c9, rfl⟩ : ∃ c0 c1 c2 c3 c4 c5 c6 c7 c8 c9, cs = #[c0, c1, c2, c3, c4, c5, c6, c7, c8, c9] := by
    obtain ⟨l⟩ := cs
    match l, hn with
    | [c0, c1, c2, c3, c4, c5, c6, c7, c8, c9], _ => exact ⟨c0, c1, c2, c3, c4, c5, c6, c7, c8, c9, rfl⟩
  obtain ⟨xs, m, rfl, hx, hl, hxs, hg⟩ := DataW.trod_struct Try.underlying30 hf
  obtain ⟨y0, y1, y2, y3, y4, y5, y6, y7, y8, y9, rfl⟩ : ∃ y0 y1 y2 y3 y4 y5 y6 y7 y8 y9, xs = [y0, y1, y2, y3, y4, y5, y6, y7, y8, y9] := by
    match xs, hxs with
    | [y0, y1, y2, y3, y4, y5, y6, y7, y8, y9], _ => exact ⟨y0, y1, y2, y3, y4, y5, y6, y7, y8, y9, rfl⟩
  obtain ⟨rfl, rfl⟩ := Prod.mk.inj hx
  have g0 := hg 0 _ rfl
  have g1 := hg 1 _ rfl
  have g2 := hg 2 _ rfl
  have g3 := hg 3 _ rfl
  have g4 := hg 4 _ rfl
  have g5 := hg 5 _ rfl
  have g6 := hg 6 _ rfl
  have g7 := hg 7 _ rfl
  have g8 := hg 8 _ rfl
  have g9 := hg 9 _ rfl
  simp [cells3, cells25, cells26, cells27, cells28, Value.cells] at g0 g1 g2 g3 g4 g5 g6 g7 g8 g9
  simp only [List.map_cons, List.map_nil, DataW.weights, Try.underlying30, DataW.weightsEach, List.mem_append] at hsz
  obtain ⟨k, e0, _, w0⟩ := DataW.trod_int Try.underlying3 g0
  obtain ⟨t, e1, _, w1⟩ := DataW.trod_int Try.underlying3 g1
  obtain ⟨pp, e2, _, w2⟩ := DataW.trod_int Try.underlying3 g2
  obtain ⟨g, e3, _, w3⟩ := DataW.trod_int Try.underlying3 g3
  obtain ⟨o, e4, _, w4⟩ := DataW.trod_int Try.underlying3 g4
  obtain ⟨n, e7, _, w7⟩ := DataW.trod_int Try.underlying3 g7
  simp at e0 e1 e2 e3 e4 e7
  subst e0 e1 e2 e3 e4 e7
  obtain ⟨A5, d5, l5, rfl, h5, C5, P5, W5⟩ := open_rows (d := Kd.int .i64) 0 Try.underlying25 cells3 bytes3 (fun n cs y => el_int) g5 (fun n hn => hsz n (by simp [hn]))
  obtain ⟨A6, d6, l6, rfl, h6, C6, P6, W6⟩ := open_rows (d := k52) z52 Try.underlying26 cells52 bytes52 (fun n cs y => el_52) g6 (fun n hn => hsz n (by simp [hn]))
  obtain ⟨A8, d8, l8, rfl, h8, C8, P8, W8⟩ := open_rows (d := k54) z54 Try.underlying27 cells54 bytes54 (fun n cs y => el_54) g8 (fun n hn => hsz n (by simp [hn]))
  obtain ⟨A9, d9, l9, rfl, h9, C9, P9, W9⟩ := open_rows (d := k56) z56 Try.underlying28 cells56 bytes56 (fun n cs y => el_56) g9 (fun n hn => hsz n (by simp [hn]))
  exact ⟨⟨k, t, pp, g, o, l5, l6, n, l8, l9⟩, ⟨A5, d5, A6, d6, A8, d8, A9, d9⟩, rfl, ⟨C5, h5, C6, h6, C8, h8, C9, h9⟩, { k := i64_wf w0, t := i64_wf w1, p := i64_wf w2, g := i64_wf w3, o := i64_wf w4, n := i64_wf w7, args := P5, imgs := P6, di := P8, ac := P9, largs := by simp only; omega, limgs := by simp only; omega, ldi := by simp only; omega, lac := by simp only; omega }⟩
end
end Go.Proofs.Ytcplblpmgajmnaa.A
