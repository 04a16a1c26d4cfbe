/-
  Joined by wip/prune.py out of: HNumber, HRefTake, PureR, HTaker, HRefDecodeA, AxF49, AxF36, PureH, AxF37, AxF38, HGoodA, HGoodB.
-/
import Derived.Test.YtcplblpmgajmnaaBe5
import Derived.Lib.Hide
namespace Go.Proofs.Ytcplblpmgajmnaa.A
open Go.RowKit Go.Proofs.YtcplblpmgajmnaaW.PrintWords Go.Proofs.YtcplblpmgajmnaaW.PrintLast Go.Proofs.YtcplblpmgajmnaaW.PrintMore
set_option linter.unusedVariables false
set_option linter.unusedSimpArgs false
def palimpsestref02_Number.f (a0 : Int) : Option (List Int) := if -9223372036854775808 ≤ a0 ∧ a0 ≤ 9223372036854775807 then some (enc a0) else none
set_option maxHeartbeats 2000000 in
theorem number_loop (a0 : Int) (w : World) (h0 : -9223372036854775808 ≤ a0) (h1 : a0 ≤ 9223372036854775807) :
    Calls Try.prog 42 #[.int .i64 a0] w fun e w' => ∃ v0_ : Value, e = .returned (v0_) ∧ Kd.R (Kd.int .u8) 5 w' w.heap.size (fun _ => True) v0_ (enc a0) ∧ Below w.heap.size w w' := by
  have hz := zig_lt h0 h1
  have hl := digits_len10 hz
  by_cases hn : a0 < 0
  all_goals
    go_enter Try.func42, Try.ntmps42
    go_wp2
    go_loopw [3, 4] (fun u o wr => ∃ (x : Nat) (acc : List Int), u = .int .u64 (x : Int) ∧ x / 2 ≤ 9223372036854775807 ∧ acc.length + (digits x).length ≤ 10 ∧ Aside0 (Kd.R (Kd.int .u8) 5 wr w.heap.size (fun _ => True) o acc) ∧ Aside0 (Below w.heap.size w wr) ∧ Hid (acc ++ digits x = enc a0)) (fun u _ _ => (intOf u).toNat)
    case atStart => exact ⟨zig a0, [], by congr 1; unfold zig; (first | rw [if_pos hn] | rw [if_neg (by omega)]); omega, by omega, by simpa using hl, ⟨Kd.R_nil _ _ _ _ _⟩, ⟨Below.refl _ _⟩, Lib.hid rfl⟩
    case round =>
      clear hz hl hn h0 h1
      obtain ⟨x, acc, rfl, hx, HL, HO, HB, H⟩ := hrel
      by_cases hlt : x < 128
      · have h := H.out
        rw [digits_lt hlt] at h HL
        have hq : (x : Int) / 128 = 0 := by omega
        have hr : (x : Int) % 128 = x := by omega
        have hqb : ((x : Int) / 128 == 0) = true := by rw [hq]; rfl
        have H := Lib.hid h
        clear h hq hr
        go_wp2_with (first | ((with_reducible refine gate_builtin (b := .append) (xs := #[.tmp 24, .tmp 26]) rfl ?_); at_builtin; refine Kd.R_append (Kd.int .u8) (w0 := w) w.heap.size rfl (.tmp 24) (.tmp 26) 22 5 (.int .u8 0) 1 rfl Try.underlying22 info5 rfl (by decide) (by omega) u4 acc ((x : Int) % 128) [.int .u8 ((x : Int) % 128)] (fun _ => True) (fun _ => False) rfl rfl ?aP (fun _ hk => hk.elim) ?aF ?aO ?aB ?aS ?aL ?_; (case aP => exact rfl); (case aB => exact (by repeat (first | (with_reducible first | exact HB.out | apply below_alloc | apply pw_below_drewN | apply below_drew1) | exact HB.out))); (case aF => exact (fun _ _ => trivial)); (case aO => exact (by (with_reducible repeat (first | apply Kd.R_alloc | apply Kd.R_drewN | apply Kd.R_drew)); exact HO.out)); (case aS => exact (below_size (by repeat (first | (with_reducible first | exact HB.out | apply below_alloc | apply pw_below_drewN | apply below_drew1) | exact HB.out)))); (case aL => have := HL; omega); intro v353 w6 ho hb hg hat; have n0_ := Aside0.mk (hb); have n1_ := Aside0.mk (ho); clear HB; clear HO; have HB := n0_; have HO := n1_; clear n0_ n1_; clear ho hb hg hat))
        go_ret
        exact ⟨_, rfl, by rw [← H.out]; have hr : (x : Int) % 128 = x := by omega
                          have h := HO.out
                          rw [hr] at h
                          exact h, HB.out⟩
      · have h := H.out
        rw [digits_ge hlt] at h HL
        have hqb : ((x : Int) / 128 == 0) = false := beq_eq_false_iff_ne.2 (by omega)
        have H := Lib.hid h
        clear h
        simp only [List.length_cons] at HL
        have HL' : acc.length + 1 + (digits (x / 128)).length ≤ 10 := by omega
        go_wp2_with (first | ((with_reducible refine gate_builtin (b := .append) (xs := #[.tmp 28, .tmp 31]) rfl ?_); at_builtin; refine Kd.R_append (Kd.int .u8) (w0 := w) w.heap.size rfl (.tmp 28) (.tmp 31) 22 5 (.int .u8 0) 1 rfl Try.underlying22 info5 rfl (by decide) (by omega) u4 acc ((x : Int) % 128 + 128) [.int .u8 ((x : Int) % 128 + 128)] (fun _ => True) (fun _ => False) rfl rfl ?aP (fun _ hk => hk.elim) ?aF ?aO ?aB ?aS ?aL ?_; (case aP => exact rfl); (case aB => exact (by repeat (first | (with_reducible first | exact HB.out | apply below_alloc | apply pw_below_drewN | apply below_drew1) | exact HB.out))); (case aF => exact (fun _ _ => trivial)); (case aO => exact (by (with_reducible repeat (first | apply Kd.R_alloc | apply Kd.R_drewN | apply Kd.R_drew)); exact HO.out)); (case aS => exact (below_size (by repeat (first | (with_reducible first | exact HB.out | apply below_alloc | apply pw_below_drewN | apply below_drew1) | exact HB.out)))); (case aL => have := HL; omega); intro v356 w6 ho hb hg hat; have n0_ := Aside0.mk (hb); have n1_ := Aside0.mk (ho); clear HB; clear HO; have HB := n0_; have HO := n1_; clear n0_ n1_; clear ho hb hg hat))
        go_roundw
        case rel => exact ⟨x / 128, acc ++ [(x : Int) % 128 + 128], by congr 1, by omega, by simpa using HL', HO, HB, Lib.hid (by rw [← H.out]; simp)⟩
        case measure => simp [intOf]; omega
theorem palimpsestref02_Number.calls (a0 : Int) (r : List Int) (w : World) (h : palimpsestref02_Number.f a0 = some r) :
    Calls Try.prog 42 #[.int .i64 a0] w fun e w' => ∃ v0_ : Value, e = .returned (v0_) ∧ Kd.R (Kd.int .u8) 5 w' w.heap.size (fun _ => True) v0_ r ∧ Below w.heap.size w w' := by
  unfold palimpsestref02_Number.f at h
  split at h
  · rename_i hb
    obtain rfl := Option.some.inj h
    exact number_loop a0 w hb.1 hb.2
  · exact absurd h (by simp)
def ldN (l : List Int) : Nat → Nat → Nat
 | 0, i => i
 | d + 1, i => if i < l.length ∧ 128 ≤ l.getD i 0 then ldN l d (i + 1) else i
def rtU (l : List Int) : Nat → Nat → Nat
 | 0, u => u
 | i + 1, u => rtU l i (((u * 128) % 18446744073709551616 + (l.getD i 0).toNat % 128) % 18446744073709551616)
def rtV (u : Nat) : Int := if u % 2 = 1 then -((u / 2 : Nat) : Int) - 1 else ((u / 2 : Nat) : Int)
def rt (l : List Int) : Int × Int :=
 if ldN l 10 0 < l.length ∧ ldN l 10 0 < 10 then (if enc (rtV (rtU l (ldN l 10 0 + 1) 0)) = l.take (ldN l 10 0 + 1) then (rtV (rtU l (ldN l 10 0 + 1) 0), (ldN l 10 0 : Int) + 1) else (0, 0)) else (0, 0)
theorem rtU_lt (l : List Int) : ∀ i u, u < 18446744073709551616 → rtU l i u < 18446744073709551616 := by
 intro i
 induction i with
 | zero => intro u h; exact h
 | succ i ih => intro u h; exact ih _ (by omega)
theorem rtV_i64 {u : Nat} (h : u < 18446744073709551616) : I64 (rtV u) := by
 unfold rtV I64
 split <;> omega
theorem number_g {x : Int} (h : I64 x) : palimpsestref02_Number.f x = some (enc x) := by
 unfold palimpsestref02_Number.f
 exact if_pos h
set_option maxHeartbeats 8000000 in
set_option maxRecDepth 100000 in
theorem rtake_c (A : Option Addr) (c : Nat) (l : List Int) (w : World) (hr : Kd.C (Kd.int .u8) w A l.length l) (hc : l.length ≤ c) (hb : Bytes l) :
  Calls Try.prog 28 #[.slice A l.length c] w fun e w' => e = .returned (.tuple #[.int .i64 (rt l).1, .int .i64 (rt l).2]) ∧ Below w.heap.size w w' := by
 have hm := Kd.C_max hr
 obtain ⟨p, hp⟩ : ∃ p, rt l = p := ⟨_, rfl⟩
 obtain ⟨p1, p2⟩ := p
 rw [hp]
 obtain ⟨L, hL⟩ : ∃ L, ldN l 10 0 = L := ⟨_, rfl⟩
 unfold rt at hp
 rw [hL] at hp
 have HL := Lib.hid hL
 have HP := Lib.hid hp
 have HR := Aside0.mk hr
 have HBy := Lib.hid hb
 clear hL hp hr hb
 go_enter Try.func28, Try.ntmps28
 go_wp2
 go_loop [4] (fun v4 => ∃ n : Nat, v4 = .int .i64 n ∧ n ≤ l.length ∧ n ≤ 10 ∧ Hid (ldN l (10 - n) n = L)) (fun v4 => 10 - (intOf v4).toNat)
 case atStart => exact ⟨0, rfl, Nat.zero_le _, by omega, HL⟩
 case round =>
  clear HL
  obtain ⟨n, rfl, hnl, hn10, HL⟩ := hrel
  by_cases h1 : n < l.length
  ·by_cases h2 : n < 10
   ·obtain ⟨ad, eA, hx⟩ := Kd.at_int HR.out (n : Int) (by omega) (by omega)
    subst eA
    rw [show ((n : Int)).toNat = n from rfl, show rd l (n : Int) = l.getD n 0 from rfl] at hx
    have hrange := HBy.out.getD n
    have hh := HL.out
    rw [show 10 - n = (10 - (n + 1)) + 1 by omega, ldN] at hh
    by_cases h3 : 128 ≤ l.getD n 0
    ·rw [if_pos ⟨h1, h3⟩] at hh
     replace HL := Lib.hid hh
     generalize l.getD n 0 = b at h3 hx hrange
     clear hh
     go_wp2
     go_round
     case rel => exact ⟨n + 1, by go_num, by omega, by omega, HL⟩
     case measure => simp [intOf]; try omega
    ·rw [if_neg (fun h => h3 h.2)] at hh
     subst hh
     clear HL
     have h3' : ¬ (128 : Int) ≤ l.getD n 0 := h3
     have HX := Lib.hid hx
     generalize hbn : l.getD n 0 = b at h3 h3' hx hrange
     have g1 : decide ((l.length : Int) ≤ (n : Int)) = false := decide_eq_false (by omega)
     have g2 : decide ((10 : Int) ≤ (n : Int)) = false := decide_eq_false (by omega)
     clear hbn
     go_wp2
     go_loop [5, 6] (fun v5 v6 => ∃ (u : Nat) (i : Int), v5 = .int .u64 (u : Int) ∧ v6 = .int .i64 i ∧ -1 ≤ i ∧ i ≤ n ∧ u < 18446744073709551616 ∧ Hid (rtU l (i + 1).toNat u = rtU l (n + 1) 0)) (fun _ v6 => (intOf v6 + 1).toNat)
     case atStart => exact ⟨0, n, rfl, rfl, by omega, by omega, by omega, Lib.hid rfl⟩
     case round =>
      obtain ⟨u, i, rfl, rfl, hi0, hin, hu, HU⟩ := hrel
      by_cases hi : 0 ≤ i
      ·obtain ⟨ad', eA', hx'⟩ := Kd.at_int HR.out i (by omega) (by omega)
       cases eA'
       obtain ⟨j, rfl⟩ : ∃ j : Nat, i = (j : Int) := ⟨i.toNat, by omega⟩
       rw [show ((j : Int)).toNat = j from rfl, show rd l (j : Int) = l.getD j 0 from rfl] at hx'
       have hrange' := HBy.out.getD j
       have hh := HU.out
       rw [show ((j : Int) + 1).toNat = j + 1 by omega, rtU] at hh
       obtain ⟨b', hb'⟩ : ∃ b' : Nat, l.getD j 0 = (b' : Int) := ⟨(l.getD j 0).toNat, by omega⟩
       rw [hb'] at hx' hh hrange'
       rw [show ((b' : Int)).toNat = b' from rfl] at hh
       replace HU := Lib.hid hh
       clear hh hb'
       go_wp2
       go_round
       case rel => exact ⟨((u * 128) % 18446744073709551616 + b' % 128) % 18446744073709551616, (j : Int) - 1, by first | rfl | go_num | (simp only [IntKind.wrap, IntKind.bits, IntKind.signed]; congr 1; omega), by go_num, by omega, by omega, by omega, by rw [show ((j : Int) - 1 + 1).toNat = j by omega]; exact HU⟩
       case measure => simp [intOf]; try omega
      ·obtain rfl : i = -1 := by omega
       have hh : u = rtU l (n + 1) 0 := HU.out
       have hpp := HP.out
       rw [if_pos ⟨h1, h2⟩, ← hh] at hpp
       replace HP := Lib.hid hpp
       obtain ⟨v, hv⟩ : ∃ v, rtV u = v := ⟨_, rfl⟩
       rw [hv] at hpp
       have HV := Lib.hid hv
       have HPP := Lib.hid hpp
       have Hv := Lib.hid (show I64 v by rw [← hv]; exact rtV_i64 hu)
       clear hh hpp HP hv HU
       go_upto_if 52 with (fail)
       go_cut [7] (fun v7 wc => v7 = .int .i64 v ∧ w = wc)
       case first =>
        by_cases h5 : u % 2 = 1
        ·have hq1 : ((u : Int) % 2 == 1) = true := beq_iff_eq.mpr (by omega)
         have hv : v = -((u / 2 : Nat) : Int) - 1 := by rw [← HV.out]; unfold rtV; exact if_pos h5
         clear HV HPP Hv
         subst hv
         go_wp2
         go_meet
         case rel => exact ⟨by first | rfl | (simp; done) | (congr 1; unfold wrap64; omega), rfl⟩
        ·have hq1 : ((u : Int) % 2 == 1) = false := beq_eq_false_iff_ne.mpr (by omega)
         have hv : v = ((u / 2 : Nat) : Int) := by rw [← HV.out]; unfold rtV; exact if_neg h5
         clear HV HPP Hv
         subst hv
         go_wp2
         go_meet
         case rel => exact ⟨by first | rfl | (simp; done) | (congr 1; unfold wrap64; omega), rfl⟩
       case rest =>
        obtain ⟨rfl, rfl⟩ := hcut
        clear HV hu hi0 hin hi
        obtain ⟨q, hq⟩ : ∃ q, ((strOfNums (enc v)).toList != (strOfNums (l.take (n + 1))).toList) = q := ⟨_, rfl⟩
        have hq2 : q = !decide (enc v = l.take (n + 1)) := by rw [← hq, bne, str_eq (bytes_enc v) (fun c hc => HBy.out c (List.mem_of_mem_take hc))]
        have Hq := Lib.hid hq
        have Hq2 := Lib.hid hq2
        have hw1 : wrap64 ((n : Int) + 1) = ((n + 1 : Nat) : Int) := by unfold wrap64; omega
        have hn1 : n + 1 ≤ l.length := by omega
        have hbd : (0 ≤ (n : Int) + 1 ∧ (n : Int) + 1 ≤ (c : Int)) = True := eq_true ⟨by omega, by omega⟩
        have hn2 : n + 1 ≤ c := by omega
        clear hq hq2 hx HX hrange
        go_upto_region 14 with (fail)
        (try simp only [Act.put, List.setIfInBounds_toArray, List.set_cons_zero, List.set_cons_succ])
        go_cut [64] (fun v64 wc => v64 = .bool q ∧ Below w.heap.size w wc)
        case first =>
         try go_wp2
         refine start_ (n := 9) (S := fun w' => Kd.C (Kd.int .u8) w' (some ad) l.length l) (ds := []) #[false, false, false, false, false, false, false, false, false] (by kernel_rfl) rfl rfl (show Kd.C (Kd.int .u8) w (some ad) l.length l from HR.out) (fun hHeld => ?_)
         replace HR : Aside0 (Kd.C (Kd.int .u8) w.drew (some ad) l.length l) := HR
         have HB := Aside0.mk (below_drew1 (Below.refl w.heap.size w))
         generalize w.drew = w6 at HR HB hHeld ⊢
         refine pure_ (i := 0) (N := some 56) (v := ?_) (a' := ?_) #[true, false, false, false, false, false, false, false, false] rfl rfl (by kernel_rfl) (fun _ _ _ h => h) (Or.inl ⟨by rfl, ?_⟩) ?_ ?_
         rotate_left
         ·intro w'
          go_simp
          with_reducible rfl
         rotate_left
         ·simp only [Act.put, List.setIfInBounds_toArray, List.set_cons_zero, List.set_cons_succ, i64_w, i32_w]
          rfl
         refine pure_ (i := 3) (N := some 59) (v := ?_) (a' := ?_) #[true, false, false, true, false, false, false, false, false] rfl rfl (by kernel_rfl) (fun _ _ _ h => h) (Or.inl ⟨by rfl, ?_⟩) ?_ ?_
         rotate_left
         ·intro w'
          go_simp
          with_reducible rfl
         rotate_left
         ·simp only [Act.put, List.setIfInBounds_toArray, List.set_cons_zero, List.set_cons_succ, i64_w, i32_w]
          rfl
         refine pure_ (i := 4) (N := some 60) (v := ?_) (a' := ?_) #[true, false, false, true, true, false, false, false, false] rfl rfl (by kernel_rfl) (fun _ _ _ h => h) (Or.inl ⟨by rfl, ?_⟩) ?_ ?_
         rotate_left
         ·intro w'
          go_simp
          with_reducible rfl
         rotate_left
         ·simp only [Act.put, List.setIfInBounds_toArray, List.set_cons_zero, List.set_cons_succ, i64_w, i32_w]
          rfl
         refine pure_ (i := 5) (N := some 61) (v := ?_) (a' := ?_) #[true, false, false, true, true, true, false, false, false] rfl rfl (by kernel_rfl) (fun _ _ _ h => h) (Or.inl ⟨by rfl, ?_⟩) ?_ ?_
         rotate_left
         ·intro w'
          go_simp
          with_reducible rfl
         rotate_left
         ·simp only [Act.put, List.setIfInBounds_toArray, List.set_cons_zero, List.set_cons_succ, i64_w, i32_w]
          rfl
         refine pure_ (i := 6) (N := some 62) (v := ?_) (a' := ?_) #[true, false, false, true, true, true, true, false, false] rfl rfl (by kernel_rfl) (fun _ _ _ h => h) (Or.inl ⟨by rfl, ?_⟩) ?_ ?_
         rotate_left
         ·intro w'
          go_simp
          with_reducible rfl
         rotate_left
         ·simp only [Act.put, List.setIfInBounds_toArray, List.set_cons_zero, List.set_cons_succ, i64_w, i32_w]
          rfl
         refine take_ (i := 7) (N := some 63) (v := ?_) (a' := ?_) #[true, false, false, true, true, true, true, true, false] rfl rfl (by kernel_rfl) (fun _ _ _ h => h) (Or.inl ⟨by rfl, ?_⟩) hHeld ?_ ?_
         rotate_left
         ·rintro w' s0
          have hcv := Kd.C_string (P := Try.prog) (c := c) Try.underlying22 Try.underlying5 Try.underlying9 (Kd.C_take s0 (show n + 1 ≤ l.length by omega))
          rw [List.length_take, Nat.min_eq_left (show n + 1 ≤ l.length by omega)] at hcv
          go_simp
          with_reducible rfl
         rotate_left
         ·simp only [Act.put, List.setIfInBounds_toArray, List.set_cons_zero, List.set_cons_succ, i64_w, i32_w]
          rfl
         refine one_ (i := 1) (N := some 57) #[true, true, false, true, true, true, true, true, false] rfl rfl (by kernel_rfl) (by decide) (fun K hK => ?_)
         refine goes_ Try.func42 (by kernel_rfl) rfl #[.int .i64 v] (by rfl) rfl rfl (by (try simp only [List.map_toArray, List.map_cons, List.map_nil]); first | done | rfl | (simp only [List.length_drop, List.length_take]; rfl)) ?_
         refine (palimpsestref02_Number.calls v (enc v) _ (number_g Hv.out)).mono ?_
         rintro e w7 ⟨v0, rfl, ho, hb⟩
         have HO := Aside0.mk ho
         clear ho
         refine ⟨_, rfl, ?_⟩
         replace HR := Aside0.mk (Kd.C_below HR.out hb)
         replace HB := Aside0.mk (below_then HB.out HB.out.size hb)
         clear hb
         refine hK.out _ _ HR.out (fun hHeld => ?_)
         clear hK K
         refine norm_ (a' := ?_) ?_ ?_
         rotate_left
         ·show Act.put _ (some 57) _ = _
          simp only [Act.put, List.setIfInBounds_toArray, List.set_cons_zero, List.set_cons_succ, i64_w, i32_w]
          rfl
         have hcv2 := own_string (P := Try.prog) Try.underlying22 Try.underlying5 Try.underlying9 (Kd.own_of_R HO.out)
         refine one_ (i := 2) (N := some 58) #[true, true, true, true, true, true, true, true, false] rfl rfl (by kernel_rfl) (by decide) (fun K hK => ?_)
         refine value_ (w1 := ?_) (v := ?_) (by rfl) rfl ?_ ?_
         rotate_left 2
         ·go_simp
          constructor
          ·rfl
          ·rfl
         refine hK.out _ _ HR.out (fun hHeld => ?_)
         clear hK K
         refine norm_ (a' := ?_) ?_ ?_
         rotate_left
         ·show Act.put _ (some 58) _ = _
          simp only [Act.put, List.setIfInBounds_toArray, List.set_cons_zero, List.set_cons_succ, i64_w, i32_w]
          rfl
         refine pure_ (i := 8) (N := some 64) (v := ?_) (a' := ?_) #[true, true, true, true, true, true, true, true, true] rfl rfl (by kernel_rfl) (fun _ _ _ h => h) (Or.inl ⟨by rfl, ?_⟩) ?_ ?_
         rotate_left
         ·intro w'
          go_simp
          with_reducible rfl
         rotate_left
         ·simp only [Act.put, List.setIfInBounds_toArray, List.set_cons_zero, List.set_cons_succ, i64_w, i32_w]
          rfl
         refine done_ (by kernel_rfl) ?_
         try go_wp2
         go_meet
         case rel => exact ⟨congrArg Value.bool Hq.out, HB.out⟩
        case rest =>
         obtain ⟨rfl, hb⟩ := hcut
         have HB := Lib.hid hb
         clear hb
         cases q
         ·have e : enc v = l.take (n + 1) := by simpa using Hq2.out.symm
          obtain ⟨rfl, rfl⟩ := Prod.mk.inj ((if_pos e).symm.trans HPP.out)
          clear HPP e
          go_wp2
          go_ret2
          exact ⟨by first | rfl | (simp; done), HB.out⟩
         ·have e : ¬ enc v = l.take (n + 1) := by simpa using Hq2.out.symm
          obtain ⟨rfl, rfl⟩ := Prod.mk.inj ((if_neg e).symm.trans HPP.out)
          clear HPP e
          go_wp2
          go_ret2
          exact ⟨rfl, HB.out⟩
   ·obtain rfl : n = 10 := by omega
    obtain rfl : 10 = L := HL.out
    have hh := HP.out
    rw [if_neg (fun h => h2 h.2)] at hh
    obtain ⟨rfl, rfl⟩ := Prod.mk.inj hh
    have g1 : decide ((l.length : Int) ≤ (10 : Int)) = false := decide_eq_false (by omega)
    clear HP hh HL
    go_wp2
    go_ret2
    exact ⟨rfl, Below.refl _ _⟩
  ·obtain rfl : n = l.length := by omega
   have e : ldN l (10 - l.length) l.length = l.length := by
    cases 10 - l.length with
    | zero => rfl
    | succ d => rw [ldN, if_neg (fun h => h1 h.1)]
   obtain rfl : l.length = L := e.symm.trans HL.out
   have hh := HP.out
   rw [if_neg (fun h => h1 h.1)] at hh
   obtain ⟨rfl, rfl⟩ := Prod.mk.inj hh
   clear HP hh HL e
   go_wp2
   go_ret2
   exact ⟨rfl, Below.refl _ _⟩
theorem ldN_digits (rest : List Int) : ∀ (d u i : Nat) (pre l : List Int), l = pre ++ digits u ++ rest → pre.length = i → (digits u).length ≤ d → ldN l d i + 1 = i + (digits u).length := by
 intro d
 induction d with
 | zero => intro u i pre l _ _ h; have := digits_pos u; omega
 | succ d ih =>
  intro u i pre l hl hp hd
  have hpos := digits_pos u
  have hlen : l.length = i + (digits u).length + rest.length := by rw [hl]; simp [hp]; omega
  by_cases hu : u < 128
  ·have e := digits_lt hu
   have hg : l.getD i 0 = (u : Int) := by rw [hl, e, ← hp]; simp
   rw [e, List.length_singleton, ldN, if_neg (by rw [hg]; omega)]
  ·have e := digits_ge hu
   have hg : l.getD i 0 = ((u % 128 + 128 : Nat) : Int) := by rw [hl, e, ← hp]; simp
   rw [ldN, if_pos ⟨by omega, by rw [hg]; omega⟩]
   rw [e, List.length_cons] at hd ⊢
   rw [ih (u / 128) (i + 1) (pre ++ [((u % 128 + 128 : Nat) : Int)]) l (by rw [hl, e]; simp) (by simp [hp]) (by omega)]
   omega
theorem digits_at : ∀ (k v : Nat), k < (digits v).length → ((digits v).getD k 0).toNat % 128 = (v / 128 ^ k) % 128 := by
 intro k
 induction k with
 | zero =>
  intro v _
  by_cases hv : v < 128
  ·rw [digits_lt hv]; simp
  ·rw [digits_ge hv]; simp; omega
 | succ k ih =>
  intro v hk
  by_cases hv : v < 128
  ·rw [digits_lt hv] at hk; simp at hk
  ·rw [digits_ge hv] at hk ⊢
   rw [List.length_cons] at hk
   rw [List.getD_cons_succ, ih (v / 128) (by omega), Nat.div_div_eq_div_mul, Nat.pow_succ, Nat.mul_comm 128]
theorem digits_top : ∀ (v : Nat), v / 128 ^ (digits v).length = 0 := by
 intro v
 induction v using Nat.strongRecOn with
 | ind v ih =>
  by_cases hv : v < 128
  ·rw [digits_lt hv]; simp; omega
  ·rw [digits_ge hv, List.length_cons, Nat.pow_succ, Nat.mul_comm, ← Nat.div_div_eq_div_mul]
   exact ih (v / 128) (by omega)
theorem rtU_digits (v : Nat) (hv : v < 18446744073709551616) (rest : List Int) : ∀ k, k ≤ (digits v).length → rtU (digits v ++ rest) k (v / 128 ^ k) = v := by
 intro k
 induction k with
 | zero => intro _; simp [rtU]
 | succ k ih =>
  intro hk
  have hg : (digits v ++ rest).getD k 0 = (digits v).getD k 0 := by
   rw [List.getD_eq_getElem?_getD, List.getElem?_append_left (by omega), ← List.getD_eq_getElem?_getD]
  rw [rtU, hg, digits_at k v (by omega)]
  have h1 : v / 128 ^ (k + 1) = v / 128 ^ k / 128 := by rw [Nat.pow_succ, ← Nat.div_div_eq_div_mul]
  have h2 : v / 128 ^ k ≤ v := Nat.div_le_self _ _
  rw [h1, show (v / 128 ^ k / 128 * 128 % 18446744073709551616 + v / 128 ^ k % 128) % 18446744073709551616 = v / 128 ^ k by omega]
  exact ih (by omega)
theorem rtV_zig {x : Int} (h : I64 x) : rtV (zig x) = x := by
 obtain ⟨h0, h1⟩ := h
 unfold rtV zig
 split <;> split <;> omega
theorem rt_enc {x : Int} (h : I64 x) (rest : List Int) : rt (enc x ++ rest) = (x, ((enc x).length : Int)) := by
 have hz : zig x < 18446744073709551616 := zig_lt h.1 h.2
 have hl := digits_len10 (zig_lt h.1 h.2)
 have hp := digits_pos (zig x)
 have hn := ldN_digits rest 10 (zig x) 0 [] (enc x ++ rest) (by simp [enc]) rfl hl
 have hlen : (enc x ++ rest).length = (digits (zig x)).length + rest.length := by simp [enc]
 have hU : rtU (enc x ++ rest) (ldN (enc x ++ rest) 10 0 + 1) 0 = zig x := by
  have := rtU_digits (zig x) hz rest (digits (zig x)).length (Nat.le_refl _)
  rw [digits_top] at this
  rw [show ldN (enc x ++ rest) 10 0 + 1 = (digits (zig x)).length by omega]
  exact this
 have ht : (enc x ++ rest).take (ldN (enc x ++ rest) 10 0 + 1) = enc x := by
  rw [show ldN (enc x ++ rest) 10 0 + 1 = (enc x).length by unfold enc; unfold enc at hn; omega]
  exact List.take_left' rfl
 unfold rt
 rw [if_pos ⟨by omega, by omega⟩, hU, rtV_zig h, ht, if_pos rfl]
 congr 1
 unfold enc
 unfold enc at hn
 omega
theorem rt_size (l : List Int) : (rt l).2 = 0 ∨ (0 < (rt l).2 ∧ (rt l).2 ≤ l.length) := by
 unfold rt
 split
 ·split
  ·exact .inr ⟨by simp only; omega, by simp only; omega⟩
  ·exact .inl rfl
 ·exact .inl rfl
theorem rt_i64 (l : List Int) : I64 (rt l).1 := by
 unfold rt
 split
 ·split
  ·exact rtV_i64 (rtU_lt _ _ _ (by decide))
  ·exact ⟨by decide, by decide⟩
 ·exact ⟨by decide, by decide⟩
def rparse : Nat → List Int → Option (List Int)
 | 0, _ => some []
 | k + 1, l => if l = [] then some [] else if (rt l).2 = 0 then none else (rparse k (l.drop (rt l).2.toNat)).map fun ns => (rt l).1 :: ns
theorem rparse_fuel : ∀ (k j : Nat) (l : List Int), l.length ≤ k → l.length ≤ j → rparse k l = rparse j l := by
 intro k
 induction k with
 | zero =>
  intro j l hk hj
  obtain rfl : l = [] := List.eq_nil_of_length_eq_zero (by omega)
  cases j <;> simp [rparse]
 | succ k ih =>
  intro j l hk hj
  by_cases hl : l = []
  ·subst hl
   cases j <;> simp [rparse]
  ·have hpos : 0 < l.length := List.length_pos_iff.2 hl
   obtain ⟨j, rfl⟩ : ∃ m, j = m + 1 := ⟨j - 1, by omega⟩
   rw [rparse, rparse, if_neg hl, if_neg hl]
   by_cases h0 : (rt l).2 = 0
   ·rw [if_pos h0, if_pos h0]
   ·have hs := (rt_size l).resolve_left h0
    rw [if_neg h0, if_neg h0, ih j _ (by rw [List.length_drop]; omega) (by rw [List.length_drop]; omega)]
theorem rparse_flat (xs : List Int) (h : ∀ x ∈ xs, I64 x) : ∀ k, (xs.flatMap enc).length ≤ k → rparse k (xs.flatMap enc) = some xs := by
 induction xs with
 | nil => intro k _; cases k <;> simp [rparse]
 | cons x xs ih =>
  intro k hk
  have hp := enc_pos x
  rw [List.flatMap_cons] at hk ⊢
  rw [List.length_append] at hk
  obtain ⟨k, rfl⟩ : ∃ m, k = m + 1 := ⟨k - 1, by omega⟩
  rw [rparse, if_neg (by intro e; have := congrArg List.length e; rw [List.length_append, List.length_nil] at this; omega), rt_enc (h x (by simp)), if_neg (by show ¬ ((enc x).length : Int) = 0; omega)]
  simp only [Int.toNat_natCast]
  rw [drop_app _ rfl, ih (fun y hy => h y (List.mem_cons_of_mem _ hy)) k (by have := hp; omega)]
  rfl
theorem rparse_i64 : ∀ (k : Nat) (l ns : List Int), rparse k l = some ns → (∀ x ∈ ns, I64 x) ∧ ns.length ≤ l.length := by
 intro k
 induction k with
 | zero => intro l ns h; simp [rparse] at h; subst h; simp
 | succ k ih =>
  intro l ns h
  rw [rparse] at h
  split at h
  ·obtain rfl := Option.some.inj h; simp
  ·split at h
   ·exact absurd h (by simp)
   ·rename_i h1 h0
    have hs := (rt_size l).resolve_left h0
    cases hp : rparse k (l.drop (rt l).2.toNat) with
    | none => rw [hp] at h; exact absurd h (by simp)
    | some ms =>
     rw [hp] at h
     obtain rfl := Option.some.inj h
     obtain ⟨i1, i2⟩ := ih _ _ hp
     rw [List.length_drop] at i2
     refine ⟨fun x hx => ?_, by simp only [List.length_cons]; omega⟩
     rcases List.mem_cons.1 hx with rfl | hx
     ·exact rt_i64 _
     ·exact i1 x hx
def pn1 (s : List Int × Bool) : Int := s.1.headD 0
def pn2 (s : List Int × Bool) : List Int × Bool := if s.1 = [] then ([], false) else (s.1.tail, s.2)
def mu (s : List Int × Bool) : Nat := s.1.length + (if s.2 = true then 1 else 0)
theorem mu_le (s : List Int × Bool) : mu (pn2 s) ≤ mu s := by
 obtain ⟨l, b⟩ := s
 cases l <;> cases b <;> simp [mu, pn2] <;> omega
theorem mu_lt {s : List Int × Bool} (h : s.2 = true) : mu (pn2 s) < mu s := by
 obtain ⟨l, b⟩ := s
 obtain rfl : b = true := h
 cases l <;> simp [mu, pn2]
def AllI (s : List Int × Bool) : Prop := ∀ x ∈ s.1, I64 x
theorem AllI.n1 {s : List Int × Bool} (h : AllI s) : I64 (pn1 s) := headD_i64 h
theorem AllI.n2 {s : List Int × Bool} (h : AllI s) : AllI (pn2 s) := by
 obtain ⟨l, b⟩ := s
 cases l with
 | nil => intro x hx; simp [pn2] at hx
 | cons y l => intro x hx; exact h x (List.mem_cons_of_mem _ (by simpa [pn2] using hx))
theorem pn_cons (x : Int) (l : List Int) (b : Bool) : pn1 (x :: l, b) = x ∧ pn2 (x :: l, b) = (l, b) := ⟨rfl, by simp [pn2]⟩
def lp {α : Type} (g : List Int × Bool → α × (List Int × Bool)) : Nat → Int → List α → List Int × Bool → List α × (List Int × Bool)
 | 0, _, acc, s => (acc, s)
 | k + 1, i, acc, s => if 0 < i ∧ s.2 = true then lp g k (wrap64 (i - 1)) (acc ++ [(g s).1]) (g s).2 else (acc, s)
def gN (s : List Int × Bool) : Int × (List Int × Bool) := (pn1 s, pn2 s)
def gI (s : List Int × Bool) : S52 × (List Int × Bool) := (⟨pn1 s, pn1 (pn2 s)⟩, pn2 (pn2 s))
def gD (s : List Int × Bool) : S54 × (List Int × Bool) := (⟨pn1 s, pn1 (pn2 s)⟩, pn2 (pn2 s))
def gA (s : List Int × Bool) : S56 × (List Int × Bool) := (⟨pn1 s, pn1 (pn2 s), pn1 (pn2 (pn2 s)), pn1 (pn2 (pn2 (pn2 s)))⟩, pn2 (pn2 (pn2 (pn2 s))))
theorem lp_len {α : Type} {g : List Int × Bool → α × (List Int × Bool)} (hg : ∀ s, s.2 = true → mu (g s).2 < mu s) : ∀ (k : Nat) (i : Int) (acc : List α) (s : List Int × Bool), (lp g k i acc s).1.length + mu (lp g k i acc s).2 ≤ acc.length + mu s := by
 intro k
 induction k with
 | zero => intro i acc s; exact Nat.le_refl _
 | succ k ih =>
  intro i acc s
  rw [lp]
  split
  ·rename_i h
   have h1 := ih (wrap64 (i - 1)) (acc ++ [(g s).1]) (g s).2
   have h2 := hg s h.2
   rw [List.length_append, List.length_singleton] at h1
   omega
  ·exact Nat.le_refl _
theorem lp_all {α : Type} {g : List Int × Bool → α × (List Int × Bool)} {P : α → Prop} (hg : ∀ s, AllI s → P (g s).1 ∧ AllI (g s).2) : ∀ (k : Nat) (i : Int) (acc : List α) (s : List Int × Bool), (∀ x ∈ acc, P x) → AllI s → (∀ x ∈ (lp g k i acc s).1, P x) ∧ AllI (lp g k i acc s).2 := by
 intro k
 induction k with
 | zero => intro i acc s h1 h2; exact ⟨h1, h2⟩
 | succ k ih =>
  intro i acc s h1 h2
  rw [lp]
  split
  ·obtain ⟨h3, h4⟩ := hg s h2
   exact ih _ _ _ (fun x hx => (List.mem_append.1 hx).elim (h1 x) (fun hx => (show x = (g s).1 by simpa using hx) ▸ h3)) h4
  ·exact ⟨h1, h2⟩
theorem lp_of {α : Type} {g : List Int × Bool → α × (List Int × Bool)} {nm : α → List Int} (hg : ∀ x rest, g (nm x ++ rest, true) = (x, (rest, true))) (rest : List Int) : ∀ (xs : List α) (k : Nat) (acc : List α), xs.length < k → xs.length ≤ 5000 →
  lp g k (xs.length : Int) acc (xs.flatMap nm ++ rest, true) = (acc ++ xs, (rest, true)) := by
 intro xs
 induction xs with
 | nil =>
  intro k acc hk _
  obtain ⟨k, rfl⟩ : ∃ m, k = m + 1 := ⟨k - 1, by omega⟩
  rw [lp, if_neg (by simp)]
  simp
 | cons x xs ih =>
  intro k acc hk hl
  obtain ⟨k, rfl⟩ : ∃ m, k = m + 1 := ⟨k - 1, by omega⟩
  rw [List.length_cons] at hk hl
  rw [lp, if_pos ⟨by rw [List.length_cons]; omega, rfl⟩, List.flatMap_cons, List.append_assoc, hg]
  simp only
  rw [show wrap64 (((x :: xs).length : Int) - 1) = (xs.length : Int) by rw [List.length_cons]; unfold wrap64; omega, ih k (acc ++ [x]) (by omega) (by omega)]
  simp
def rbBody (F : Nat) (k t p n : Int) (s : List Int × Bool) : Rec × (List Int × Bool) :=
 let s2 := pn2 (pn2 s)
 let a := lp gN F (pn1 s2) [] (pn2 s2)
 let b := lp gI F (pn1 a.2) [] (pn2 a.2)
 (⟨k, t, p, pn1 s, pn1 (pn2 s), a.1, b.1, n, [], []⟩, b.2)
def rbCheck (F : Nat) (s : List Int × Bool) : Rec × (List Int × Bool) :=
 let a := lp gD F (pn1 s) [] (pn2 s)
 let b := lp gA F (pn1 a.2) [] (pn2 a.2)
 (⟨5, 0, 0, 0, 0, [], [], 0, a.1, b.1⟩, b.2)
def rbF (ns : List Int) : Rec × (List Int × Bool) :=
 let s1 := pn2 (ns, true)
 let s3 := pn2 (pn2 s1)
 if pn1 (ns, true) = 5 then rbCheck (ns.length + 2) s1
 else if pn1 (ns, true) = 2 then rbBody (ns.length + 2) 2 (pn1 s1) (pn1 (pn2 s1)) (pn1 s3) (pn2 s3)
 else if pn1 (ns, true) = 1 then rbBody (ns.length + 2) 1 (pn1 s1) (pn1 (pn2 s1)) 0 s3
 else (⟨pn1 (ns, true), pn1 s1, pn1 (pn2 s1), 0, 0, [], [], 0, [], []⟩, s3)
theorem gN_mu (s : List Int × Bool) (h : s.2 = true) : mu (gN s).2 < mu s := mu_lt h
theorem gI_mu (s : List Int × Bool) (h : s.2 = true) : mu (gI s).2 < mu s := Nat.lt_of_le_of_lt (mu_le _) (mu_lt h)
theorem gD_mu (s : List Int × Bool) (h : s.2 = true) : mu (gD s).2 < mu s := Nat.lt_of_le_of_lt (mu_le _) (mu_lt h)
theorem gA_mu (s : List Int × Bool) (h : s.2 = true) : mu (gA s).2 < mu s := Nat.lt_of_le_of_lt (mu_le _) (Nat.lt_of_le_of_lt (mu_le _) (Nat.lt_of_le_of_lt (mu_le _) (mu_lt h)))
theorem rbBody_fits {F : Nat} {s : List Int × Bool} (h : AllI s) (hm : mu s ≤ 5000) {k t p n : Int} (hk : I64 k) (ht : I64 t) (hp : I64 p) (hn : I64 n) : (rbBody F k t p n s).1.Fits := by
 have h2 := h.n2.n2
 have a1 := lp_all (g := gN) (P := fun x => I64 x) (fun s hs => ⟨hs.n1, hs.n2⟩) F (pn1 (pn2 (pn2 s))) [] _ (by simp) h2.n2
 have b1 := lp_all (g := gI) (P := fun x => I64 x.f0 ∧ I64 x.f1) (fun s hs => ⟨⟨hs.n1, hs.n2.n1⟩, hs.n2.n2⟩) F (pn1 (lp gN F (pn1 (pn2 (pn2 s))) [] (pn2 (pn2 (pn2 s)))).2) [] _ (by simp) a1.2.n2
 have la := lp_len gN_mu F (pn1 (pn2 (pn2 s))) [] (pn2 (pn2 (pn2 s)))
 have lb := lp_len gI_mu F (pn1 (lp gN F (pn1 (pn2 (pn2 s))) [] (pn2 (pn2 (pn2 s)))).2) [] (pn2 (lp gN F (pn1 (pn2 (pn2 s))) [] (pn2 (pn2 (pn2 s)))).2)
 have m1 := mu_le s
 have m2 := mu_le (pn2 s)
 have m3 := mu_le (pn2 (pn2 s))
 have m4 := mu_le (lp gN F (pn1 (pn2 (pn2 s))) [] (pn2 (pn2 (pn2 s)))).2
 simp only [List.length_nil] at la lb
 exact { k := hk, t := ht, p := hp, n := hn, g := h.n1, o := h.n2.n1, args := a1.1, imgs := b1.1, di := by simp [rbBody], ac := by simp [rbBody], largs := by simp only [rbBody]; omega, limgs := by simp only [rbBody]; omega, ldi := by simp [rbBody], lac := by simp [rbBody] }
theorem five_i64 : I64 5 := ⟨by decide, by decide⟩
theorem rbCheck_fits {F : Nat} {s : List Int × Bool} (h : AllI s) (hm : mu s ≤ 5000) : (rbCheck F s).1.Fits := by
 have a1 := lp_all (g := gD) (P := fun x => I64 x.f0 ∧ I64 x.f1) (fun s hs => ⟨⟨hs.n1, hs.n2.n1⟩, hs.n2.n2⟩) F (pn1 s) [] _ (by simp) h.n2
 have b1 := lp_all (g := gA) (P := fun x => I64 x.f0 ∧ I64 x.f1 ∧ I64 x.f2 ∧ I64 x.f3) (fun s hs => ⟨⟨hs.n1, hs.n2.n1, hs.n2.n2.n1, hs.n2.n2.n2.n1⟩, hs.n2.n2.n2.n2⟩) F (pn1 (lp gD F (pn1 s) [] (pn2 s)).2) [] _ (by simp) a1.2.n2
 have la := lp_len gD_mu F (pn1 s) [] (pn2 s)
 have lb := lp_len gA_mu F (pn1 (lp gD F (pn1 s) [] (pn2 s)).2) [] (pn2 (lp gD F (pn1 s) [] (pn2 s)).2)
 have m1 := mu_le s
 have m4 := mu_le (lp gD F (pn1 s) [] (pn2 s)).2
 simp only [List.length_nil] at la lb
 exact { k := five_i64, t := zero_i64, p := zero_i64, n := zero_i64, g := zero_i64, o := zero_i64, args := by simp [rbCheck], imgs := by simp [rbCheck], di := a1.1, ac := b1.1, largs := by simp [rbCheck], limgs := by simp [rbCheck], ldi := by simp only [rbCheck]; omega, lac := by simp only [rbCheck]; omega }
theorem rbF_fits {ns : List Int} (h : ∀ x ∈ ns, I64 x) (hl : ns.length ≤ 4096) : (rbF ns).1.Fits := by
 have h0 : AllI (ns, true) := h
 have m0 : mu (ns, true) ≤ 4097 := by simp [mu]; omega
 have m1 := mu_le (ns, true)
 have m2 := mu_le (pn2 (ns, true))
 have m3 := mu_le (pn2 (pn2 (ns, true)))
 have m4 := mu_le (pn2 (pn2 (pn2 (ns, true))))
 unfold rbF
 simp only
 split
 ·exact rbCheck_fits h0.n2 (by omega)
 ·split
  ·exact rbBody_fits h0.n2.n2.n2.n2 (by omega) ⟨by decide, by decide⟩ h0.n2.n1 h0.n2.n2.n1 h0.n2.n2.n2.n1
  ·split
   ·exact rbBody_fits h0.n2.n2.n2 (by omega) ⟨by decide, by decide⟩ h0.n2.n1 h0.n2.n2.n1 zero_i64
   ·exact { k := h0.n1, t := h0.n2.n1, p := h0.n2.n2.n1, n := zero_i64, g := zero_i64, o := zero_i64, args := by simp, imgs := by simp, di := by simp, ac := by simp, largs := by simp, limgs := by simp, ldi := by simp, lac := by simp }
theorem rbBody_of (r : Rec) (F : Nat) (k t p n : Int) (h1 : r.args.length < F) (h2 : r.imgs.length < F) (l1 : r.args.length ≤ 5000) (l2 : r.imgs.length ≤ 5000) : rbBody F k t p n (r.body, true) = (⟨k, t, p, r.g, r.o, r.args, r.imgs, n, [], []⟩, ([], true)) := by
 have e : r.body = r.g :: r.o :: (r.args.length : Int) :: (r.args.flatMap (fun x => [x]) ++ ((r.imgs.length : Int) :: (imgNums r.imgs ++ []))) := by simp [Rec.body]
 unfold rbBody
 rw [e]
 simp only [pn_cons]
 rw [lp_of (g := gN) (fun x rest => by simp [gN, pn1, pn2]) _ r.args F [] h1 l1]
 simp only [pn_cons]
 rw [show imgNums r.imgs ++ [] = r.imgs.flatMap (fun x => [x.f0, x.f1]) ++ [] from rfl, lp_of (g := gI) (fun x rest => by simp [gI, pn1, pn2]) [] r.imgs F [] h2 l2]
 simp
theorem rbCheck_of (r : Rec) (F : Nat) (h1 : r.di.length < F) (h2 : r.ac.length < F) (l1 : r.di.length ≤ 5000) (l2 : r.ac.length ≤ 5000) : rbCheck F ((r.di.length : Int) :: (dirtyNums r.di ++ ((r.ac.length : Int) :: (activeNums r.ac ++ []))), true) = (⟨5, 0, 0, 0, 0, [], [], 0, r.di, r.ac⟩, ([], true)) := by
 unfold rbCheck
 simp only [pn_cons]
 rw [show dirtyNums r.di = r.di.flatMap (fun x => [x.f0, x.f1]) from rfl, lp_of (g := gD) (fun x rest => by simp [gD, pn1, pn2]) _ r.di F [] h1 l1]
 simp only [pn_cons]
 rw [show activeNums r.ac = r.ac.flatMap (fun x => [x.f0, x.f1, x.f2, x.f3]) from rfl, lp_of (g := gA) (fun x rest => by simp [gA, pn1, pn2]) [] r.ac F [] h2 l2]
 simp
theorem body_len (r : Rec) : r.body.length = 4 + r.args.length + 2 * r.imgs.length := by simp [Rec.body, imgNums_len]; omega
theorem rbF_of {r : Rec} (hf : r.Fits) (h : r.Ok) : rbF r.nums = (r, ([], true)) := by
 have h1 := hf.largs
 have h2 := hf.limgs
 have h3 := hf.ldi
 have h4 := hf.lac
 clear hf
 obtain ⟨k, t, p, g, o, args, imgs, n, di, ac⟩ := r
 simp only at h1 h2 h3 h4
 rcases h with ⟨q1, _, he⟩ | ⟨q2, _, he⟩ | ⟨q3, _, he⟩ | ⟨q5, _, he⟩
 ·simp only at q1 he
  obtain ⟨rfl, rfl, rfl⟩ := he
  subst q1
  have e : (Rec.mk 1 t p g o args imgs 0 [] []).nums = 1 :: t :: p :: (Rec.mk 1 t p g o args imgs 0 [] []).body := by simp [Rec.nums]
  have bl := body_len (Rec.mk 1 t p g o args imgs 0 [] [])
  simp only at bl
  rw [e]
  unfold rbF
  simp only [pn_cons]
  rw [if_neg (by decide), if_neg (by decide), if_pos trivial, rbBody_of (Rec.mk 1 t p g o args imgs 0 [] []) _ 1 t p 0 (by simp only [List.length_cons]; omega) (by simp only [List.length_cons]; omega) h1 h2]
 ·simp only at q2 he
  obtain ⟨rfl, rfl⟩ := he
  subst q2
  have e : (Rec.mk 2 t p g o args imgs n [] []).nums = 2 :: t :: p :: n :: (Rec.mk 2 t p g o args imgs n [] []).body := by simp [Rec.nums]
  have bl := body_len (Rec.mk 2 t p g o args imgs n [] [])
  simp only at bl
  rw [e]
  unfold rbF
  simp only [pn_cons]
  rw [if_neg (by decide), if_pos trivial, rbBody_of (Rec.mk 2 t p g o args imgs n [] []) _ 2 t p n (by simp only [List.length_cons]; omega) (by simp only [List.length_cons]; omega) h1 h2]
 ·simp only at q3 he
  obtain ⟨rfl, rfl, rfl, rfl, rfl, rfl, rfl⟩ := he
  have e : (Rec.mk k t p 0 0 [] [] 0 [] []).nums = [k, t, p] := by
   unfold Rec.nums
   simp only
   rw [if_neg (by omega), if_neg (by omega), if_neg (by omega)]
  rw [e]
  unfold rbF
  simp only [pn_cons]
  rw [if_neg (by omega), if_neg (by omega), if_neg (by omega)]
 ·simp only at q5 he
  obtain ⟨rfl, rfl, rfl, rfl, rfl, rfl, rfl⟩ := he
  subst q5
  have e : (Rec.mk 5 0 0 0 0 [] [] 0 di ac).nums = 5 :: (di.length : Int) :: (dirtyNums di ++ ((ac.length : Int) :: (activeNums ac ++ []))) := by simp [Rec.nums]
  have bl : ((di.length : Int) :: (dirtyNums di ++ ((ac.length : Int) :: (activeNums ac ++ [])))).length = 2 + 2 * di.length + 4 * ac.length := by simp [dirtyNums_len, activeNums_len]; omega
  rw [e]
  unfold rbF
  simp only [pn_cons]
  rw [if_pos trivial, rbCheck_of (Rec.mk 5 0 0 0 0 [] [] 0 di ac) _ (by rw [List.length_cons, bl]; simp only; omega) (by rw [List.length_cons, bl]; simp only; omega) h3 h4]
def rdF (b : List Int) : Rec × Option Int :=
 if b.length > 4096 then (Rec.zero, some 4)
 else match rparse b.length b with
  | none => (Rec.zero, some 4)
  | some ns => if (rbF ns).2.2 = true ∧ (rbF ns).1.enc = (b, none) then ((rbF ns).1, none) else (Rec.zero, some 4)
theorem rd_decode (b : List Int) : rdF b = decodeF b := by
 rcases decode_cases b with h | ⟨r, hf, he, h⟩
 ·rw [h]
  unfold rdF
  split
  ·rfl
  ·rename_i hl
   cases hp : rparse b.length b with
   | none => rfl
   | some ns =>
    simp only
    split
    ·rename_i hc
     obtain ⟨i1, i2⟩ := rparse_i64 _ _ _ hp
     have := decode_bytes (rbF_fits i1 (by omega)) hc.2
     rw [h] at this
     exact absurd (Prod.mk.inj this).2 (by simp)
    ·rfl
 ·rw [h]
  obtain ⟨ho, rfl, hl⟩ := enc_ok he
  unfold rdF
  rw [if_neg (by omega), show rparse r.bytes.length r.bytes = some r.nums from rparse_flat r.nums hf.nums_fits _ (Nat.le_refl _)]
  simp only [rbF_of hf ho]
  rw [if_pos ⟨trivial, he⟩]
structure TV where
 A : Option Addr
 c : Nat
 l : List Int
 ok : Bool
structure IsT (w : World) (g : Nat) (t : TV) : Prop where
 B : w.heap[g]? = some (.cells #[.slice t.A t.l.length t.c, .bool t.ok] 70 (0, 0))
 C : Kd.C (Kd.int .i64) w t.A t.l.length t.l
 L : t.l.length ≤ t.c
 F : ∀ ad, t.A = some ad → 0 < t.l.length → ad.block ≠ g
def TV.n1 (t : TV) : Int := t.l.headD 0
def TV.n2 (t : TV) : TV := if t.l = [] then ⟨t.A, t.c, [], false⟩ else ⟨if t.c = 1 then t.A else t.A.map fun a => a.add 1, t.c - 1, t.l.tail, t.ok⟩
theorem IsT.keep {w w' : World} {g h : Nat} {t : TV} (ht : IsT w g t) (hk : KeepBut w w' h none) (hg : g ≠ h) (hf : ∀ ad, t.A = some ad → 0 < t.l.length → ad.block ≠ h) : IsT w' g t :=
 ⟨KeepBut.blk hk ht.B hg (by simp), Kd.C_keep (enc := Value.int .i64) (h1 := fun _ => rfl) (0 : Int) ht.C hk hf, ht.L, ht.F⟩
theorem IsT.below {w w' : World} {g : Nat} {t : TV} (ht : IsT w g t) (hb : Below w.heap.size w w') : IsT w' g t := ⟨blk_below ht.B hb, Kd.C_below ht.C hb, ht.L, ht.F⟩
theorem IsT.drew {w : World} {g : Nat} {t : TV} (ht : IsT w g t) : IsT w.drew g t := ht.below (below_drew1 (Below.refl _ _))
set_option maxHeartbeats 400000 in
set_option maxRecDepth 100000 in
theorem taker_nil (g : Nat) (A : Option Addr) (c : Nat) (ok : Bool) (w : World) (hb : w.heap[g]? = some (.cells #[.slice A 0 c, .bool ok] 70 (0, 0))) :
  Calls Try.prog 29 #[.pointer (some ⟨g, 0, none⟩)] w fun e w' => e = .returned (.int .i64 0) ∧ w' = w.setCell ⟨g, 1, none⟩ (.bool false) := by
 have hu70 := Try.underlying70
 have hc : w.cell? ⟨g, 0, none⟩ = some (.slice A 0 c) := (blk_cell hb 0).trans rfl
 have hc1 : w.cell? ⟨g, 1, none⟩ = some (.bool ok) := (blk_cell hb 1).trans rfl
 have hf := fun j => blk_frozen hb j
 clear hb
 go_enter Try.func29, Try.ntmps29
 go_wp2
 go_ret
 exact ⟨rfl, rfl⟩
set_option maxHeartbeats 400000 in
set_option maxRecDepth 100000 in
theorem taker_one (g : Nat) (ad : Addr) (x : Int) (ok : Bool) (w : World) (hb : w.heap[g]? = some (.cells #[.slice (some ad) 1 1, .bool ok] 70 (0, 0))) (hx : w.cell? ad = some (.int .i64 x)) (hne : ad.block ≠ g) :
  Calls Try.prog 29 #[.pointer (some ⟨g, 0, none⟩)] w fun e w' => e = .returned (.int .i64 x) ∧ w' = w.setCell ⟨g, 0, none⟩ (.slice (some ad) 0 0) := by
 have hu70 := Try.underlying70
 have hc : w.cell? ⟨g, 0, none⟩ = some (.slice (some ad) 1 1) := (blk_cell hb 0).trans rfl
 have hf := fun j => blk_frozen hb j
 clear hb
 go_enter Try.func29, Try.ntmps29
 go_wp2
 go_ret
 exact ⟨rfl, rfl⟩
set_option maxHeartbeats 400000 in
set_option maxRecDepth 100000 in
theorem taker_cons (g : Nat) (ad : Addr) (n c : Nat) (x : Int) (ok : Bool) (w : World) (hm : n + 1 ≤ 9223372036854775807) (hb : w.heap[g]? = some (.cells #[.slice (some ad) (n + 1) c, .bool ok] 70 (0, 0))) (hx : w.cell? ad = some (.int .i64 x)) (hnc : n + 1 ≤ c) (h1 : ¬ c = 1) (hne : ad.block ≠ g) :
  Calls Try.prog 29 #[.pointer (some ⟨g, 0, none⟩)] w fun e w' => e = .returned (.int .i64 x) ∧ w' = w.setCell ⟨g, 0, none⟩ (.slice (some (ad.add 1)) n (c - 1)) := by
 have hu70 := Try.underlying70
 have hc : w.cell? ⟨g, 0, none⟩ = some (.slice (some ad) (n + 1) c) := (blk_cell hb 0).trans rfl
 have hf := fun j => blk_frozen hb j
 clear hb
 go_enter Try.func29, Try.ntmps29
 go_wp2
 go_ret
 exact ⟨rfl, rfl⟩
theorem taker_cB {g : Nat} {t : TV} {w : World} (h : IsT w g t) : Calls Try.prog 29 #[.pointer (some ⟨g, 0, none⟩)] w fun e w' => e = .returned (.int .i64 t.n1) ∧ IsT w' g t.n2 ∧ KeepBut w w' g none ∧ (∀ W : World, Below W.heap.size W w → W.heap.size ≤ g → Below W.heap.size W w') := by
 obtain ⟨A, c, l, ok⟩ := t
 obtain ⟨hb, hC, hlc, hF⟩ := h
 cases l with
 | nil =>
  refine (taker_nil g A c ok w hb).mono ?_
  rintro e w' ⟨rfl, rfl⟩
  have hk := keep_set_self w g 1 (.bool false)
  exact ⟨rfl, ⟨by simpa [TV.n2] using blk_set hb 1 (.bool false), Kd.C_keep (enc := Value.int .i64) (h1 := fun _ => rfl) (0 : Int) hC hk hF, hlc, hF⟩, hk, fun W h q => below_set h q⟩
 | cons x l =>
  have hmax := Kd.C_max hC
  obtain ⟨ad, eA, hx⟩ := Kd.at_int hC 0 (by omega) (by simp)
  obtain rfl : A = some ad := eA
  rw [show ((0 : Int)).toNat = 0 from rfl, Addr.add_zero'] at hx
  have hx' : w.cell? ad = some (.int .i64 x) := hx
  have hne : ad.block ≠ g := hF ad rfl (by simp)
  have hD := Kd.C_drop (m := 1) hC (by simp) hlc
  simp only [List.length_cons] at hlc hmax
  have fin : ∀ u, u = Value.slice (TV.n2 ⟨some ad, c, x :: l, ok⟩).A (TV.n2 ⟨some ad, c, x :: l, ok⟩).l.length (TV.n2 ⟨some ad, c, x :: l, ok⟩).c →
    IsT (w.setCell ⟨g, 0, none⟩ u) g (TV.n2 ⟨some ad, c, x :: l, ok⟩) ∧ KeepBut w (w.setCell ⟨g, 0, none⟩ u) g none ∧ (∀ W : World, Below W.heap.size W w → W.heap.size ≤ g → Below W.heap.size W (w.setCell ⟨g, 0, none⟩ u)) := by
   intro u hu
   have hk := keep_set_self w g 0 u
   have hF2 : ∀ a, (TV.n2 ⟨some ad, c, x :: l, ok⟩).A = some a → 0 < (TV.n2 ⟨some ad, c, x :: l, ok⟩).l.length → a.block ≠ g := by
    intro a ha _
    simp only [TV.n2, reduceCtorEq, if_false] at ha
    split at ha
    ·obtain rfl := Option.some.inj ha; exact hne
    ·simp only [Option.map_some] at ha
     obtain rfl := Option.some.inj ha
     exact hne
   refine ⟨⟨?_, Kd.C_keep (enc := Value.int .i64) (h1 := fun _ => rfl) (0 : Int) ?_ hk hF2, by simp [TV.n2]; omega, hF2⟩, hk, fun W h q => below_set h q⟩
   ·subst hu
    have := blk_set hb 0 (Value.slice (TV.n2 ⟨some ad, c, x :: l, ok⟩).A (TV.n2 ⟨some ad, c, x :: l, ok⟩).l.length (TV.n2 ⟨some ad, c, x :: l, ok⟩).c)
    simpa [TV.n2] using this
   ·exact hD
  by_cases h1 : c = 1
  ·subst h1
   have hl : l = [] := List.eq_nil_of_length_eq_zero (by omega)
   subst hl
   refine (taker_one g ad x ok w hb hx' hne).mono ?_
   rintro e w' ⟨rfl, rfl⟩
   exact ⟨rfl, fin _ (by simp [TV.n2])⟩
  ·refine (taker_cons g ad l.length c x ok w hmax hb hx' hlc h1 hne).mono ?_
   rintro e w' ⟨rfl, rfl⟩
   exact ⟨rfl, fin _ (by simp [TV.n2, h1])⟩
def TV.s (t : TV) : List Int × Bool := (t.l, t.ok)
theorem TV.n1_s (t : TV) : t.n1 = pn1 t.s := rfl
theorem TV.n2_s (t : TV) : t.n2.s = pn2 t.s := by
  obtain ⟨A, c, l, ok⟩ := t
  cases l <;> simp [TV.n2, TV.s, pn2]
theorem TV.n2_A {t : TV} {ad : Addr} (h : t.n2.A = some ad) (hl : 0 < t.n2.l.length) : ∃ a, t.A = some a ∧ a.block = ad.block ∧ 0 < t.l.length := by
  obtain ⟨A, c, l, ok⟩ := t
  cases l with
  | nil => simp [TV.n2] at hl
  | cons x l =>
    simp only [TV.n2, reduceCtorEq, if_false] at h
    split at h
    · exact ⟨ad, h, rfl, by simp⟩
    · cases A with
      | none => simp at h
      | some a =>
        simp only [Option.map_some] at h
        obtain rfl := Option.some.inj h
        exact ⟨a, rfl, rfl, by simp⟩
theorem C_move {w w2 : World} {A : Option Addr} {n : Nat} {xs : List Int} (h : Kd.C (Kd.int .i64) w A n xs) (hm : ∀ ad, A = some ad → 0 < n → w2.heap[ad.block]? = w.heap[ad.block]?) : Kd.C (Kd.int .i64) w2 A n xs := by
  have hr : ReadsOf (Value.int .i64) (0 : Int) w A n xs := Kd.reads_of_C (enc := Value.int .i64) (h1 := fun _ => rfl) h
  refine Kd.C_of_reads (enc := Value.int .i64) (d := (0 : Int)) (h1 := fun _ => rfl) ⟨hr.1, hr.2.1, fun hn => ?_⟩
  obtain ⟨ad, e, hc⟩ := hr.2.2 hn
  refine ⟨ad, e, fun j hj => ?_⟩
  have := hc j hj
  have hb := hm ad e hn
  unfold World.cell? at this ⊢
  rw [add_block] at this ⊢
  rw [hb]
  exact this
theorem IsT.move {w w2 : World} {g : Nat} {t : TV} (h : IsT w g t) (hg : w2.heap[g]? = w.heap[g]?) (hm : ∀ ad, t.A = some ad → 0 < t.l.length → w2.heap[ad.block]? = w.heap[ad.block]?) : IsT w2 g t :=
  ⟨hg.trans h.B, C_move h.C hm, h.L, h.F⟩
theorem taker_b {g : Nat} {t : TV} {w : World} (h : IsT w g t) : Calls Try.prog 29 #[.pointer (some ⟨g, 0, none⟩)] w fun e w' => e = .returned (.int .i64 t.n1) ∧ IsT w' g t.n2 ∧ KeepBut w w' g none ∧ (∀ W : World, Below W.heap.size W w → W.heap.size ≤ g → Below W.heap.size W w') := taker_cB h
structure St (w wr : World) (gr : Nat) (r : Rec) (v5 v6 v8 v9 : Value) (t : TV) : Prop where
  O : wr.heap[w.heap.size]? = some (.cells #[.int .i64 0, .int .i64 0, .int .i64 0, .int .i64 0, .int .i64 0, .slice none 0 0, .slice none 0 0, .int .i64 0, .slice none 0 0, .slice none 0 0] 30 (0, 0))
  T : IsT wr (w.heap.size + 1) t
  R : wr.heap[gr]? = some (.cells #[.int .i64 r.k, .int .i64 r.t, .int .i64 r.p, .int .i64 r.g, .int .i64 r.o, v5, v6, .int .i64 r.n, v8, v9] 30 (0, 0))
  H5 : Kd.R (Kd.int .i64) 3 wr gr (fun _ => True) v5 r.args
  H6 : Kd.R k52 52 wr gr (fun _ => True) v6 r.imgs
  H8 : Kd.R k54 54 wr gr (fun _ => True) v8 r.di
  H9 : Kd.R k56 56 wr gr (fun _ => True) v9 r.ac
  B : Below w.heap.size w wr
  G : w.heap.size + 1 < gr
  N : ∀ ad, t.A = some ad → 0 < t.l.length → ad.block < gr
section
variable {w wr w2 : World} {gr : Nat} {r : Rec} {v5 v6 v8 v9 : Value} {t : TV}
theorem St.below (h : St w wr gr r v5 v6 v8 v9 t) (hb : Below wr.heap.size wr w2) : St w w2 gr r v5 v6 v8 v9 t :=
  { O := blk_below h.O hb, T := h.T.below hb, R := blk_below h.R hb, H5 := Kd.R_below h.H5 hb, H6 := Kd.R_below h.H6 hb, H8 := Kd.R_below h.H8 hb, H9 := Kd.R_below h.H9 hb, B := below_then h.B h.B.size hb, G := h.G, N := h.N }
theorem St.drew (h : St w wr gr r v5 v6 v8 v9 t) : St w wr.drew gr r v5 v6 v8 v9 t := h.below (below_drew1 (Below.refl _ _))
theorem St.took (h : St w wr gr r v5 v6 v8 v9 t) (hT : IsT w2 (w.heap.size + 1) t.n2) (hk : KeepBut wr w2 (w.heap.size + 1) none) (hB : ∀ W : World, Below W.heap.size W wr → W.heap.size ≤ w.heap.size + 1 → Below W.heap.size W w2) : St w w2 gr r v5 v6 v8 v9 t.n2 :=
  { O := KeepBut.blk hk h.O (by omega) (by simp), T := hT, R := KeepBut.blk hk h.R (by have := h.G; omega) (by simp)
    H5 := Kd.R_mono (Kd.R_keep (Kd.R_types h.H5 h.T.B (by decide)) hk (fun _ q => q.2)) (fun _ _ => trivial)
    H6 := Kd.R_mono (Kd.R_keep (Kd.R_types h.H6 h.T.B (by decide)) hk (fun _ q => q.2)) (fun _ _ => trivial)
    H8 := Kd.R_mono (Kd.R_keep (Kd.R_types h.H8 h.T.B (by decide)) hk (fun _ q => q.2)) (fun _ _ => trivial)
    H9 := Kd.R_mono (Kd.R_keep (Kd.R_types h.H9 h.T.B (by decide)) hk (fun _ q => q.2)) (fun _ _ => trivial)
    B := hB w h.B (by omega), G := h.G
    N := fun ad e hl => by
      obtain ⟨a, ha, hb, hl'⟩ := TV.n2_A e hl
      rw [← hb]
      exact h.N a ha hl' }
theorem St.put (O : wr.heap[w.heap.size]? = some (.cells #[.int .i64 0, .int .i64 0, .int .i64 0, .int .i64 0, .int .i64 0, .slice none 0 0, .slice none 0 0, .int .i64 0, .slice none 0 0, .slice none 0 0] 30 (0, 0)))
    (T : IsT wr (w.heap.size + 1) t) (B : Below w.heap.size w wr) (G : w.heap.size + 1 < gr) (N : ∀ ad, t.A = some ad → 0 < t.l.length → ad.block < gr)
    {cs : Array Value} (R : wr.heap[gr]? = some (.cells cs 30 (0, 0))) (j : Nat) (u : Value) {r' : Rec} {u5 u6 u8 u9 : Value}
    (hcs : cs.setIfInBounds j u = #[.int .i64 r'.k, .int .i64 r'.t, .int .i64 r'.p, .int .i64 r'.g, .int .i64 r'.o, u5, u6, .int .i64 r'.n, u8, u9])
    (H5 : Kd.R (Kd.int .i64) 3 wr gr (fun _ => True) u5 r'.args) (H6 : Kd.R k52 52 wr gr (fun _ => True) u6 r'.imgs) (H8 : Kd.R k54 54 wr gr (fun _ => True) u8 r'.di) (H9 : Kd.R k56 56 wr gr (fun _ => True) u9 r'.ac) :
    St w (wr.setCell ⟨gr, j, none⟩ u) gr r' u5 u6 u8 u9 t :=
  { O := blk_far O (by show w.heap.size ≠ gr; omega) u
    T := T.move (Below.heap_setCell wr ⟨gr, j, none⟩ u _ (by show w.heap.size + 1 ≠ gr; omega)) (fun ad e hl => Below.heap_setCell wr ⟨gr, j, none⟩ u _ (by have := N ad e hl; show ad.block ≠ gr; omega))
    R := blk_put R j u hcs
    H5 := Kd.R_mono (Kd.R_far (p := ⟨gr, j, none⟩) (Kd.R_types H5 R (by decide)) (fun _ q => q.2) u) (fun _ _ => trivial)
    H6 := Kd.R_mono (Kd.R_far (p := ⟨gr, j, none⟩) (Kd.R_types H6 R (by decide)) (fun _ q => q.2) u) (fun _ _ => trivial)
    H8 := Kd.R_mono (Kd.R_far (p := ⟨gr, j, none⟩) (Kd.R_types H8 R (by decide)) (fun _ q => q.2) u) (fun _ _ => trivial)
    H9 := Kd.R_mono (Kd.R_far (p := ⟨gr, j, none⟩) (Kd.R_types H9 R (by decide)) (fun _ q => q.2) u) (fun _ _ => trivial)
    B := below_set B (by omega), G := G, N := N }
theorem St.store (h : St w wr gr r v5 v6 v8 v9 t) (j : Nat) (u : Value) {r' : Rec} (ha : r'.args = r.args) (hi : r'.imgs = r.imgs) (hd : r'.di = r.di) (hc : r'.ac = r.ac)
    (hcs : (#[.int .i64 r.k, .int .i64 r.t, .int .i64 r.p, .int .i64 r.g, .int .i64 r.o, v5, v6, .int .i64 r.n, v8, v9] : Array Value).setIfInBounds j u = #[.int .i64 r'.k, .int .i64 r'.t, .int .i64 r'.p, .int .i64 r'.g, .int .i64 r'.o, v5, v6, .int .i64 r'.n, v8, v9]) :
    St w (wr.setCell ⟨gr, j, none⟩ u) gr r' v5 v6 v8 v9 t :=
  St.put h.O h.T h.B h.G h.N h.R j u hcs (by rw [ha]; exact h.H5) (by rw [hi]; exact h.H6) (by rw [hd]; exact h.H8) (by rw [hc]; exact h.H9)
structure Left (w w2 : World) (gr : Nat) (r : Rec) (v5 v6 v8 v9 : Value) (t : TV) : Prop where
  O : w2.heap[w.heap.size]? = some (.cells #[.int .i64 0, .int .i64 0, .int .i64 0, .int .i64 0, .int .i64 0, .slice none 0 0, .slice none 0 0, .int .i64 0, .slice none 0 0, .slice none 0 0] 30 (0, 0))
  T : IsT w2 (w.heap.size + 1) t
  R : w2.heap[gr]? = some (.cells #[.int .i64 r.k, .int .i64 r.t, .int .i64 r.p, .int .i64 r.g, .int .i64 r.o, v5, v6, .int .i64 r.n, v8, v9] 30 (0, 0))
  B : Below w.heap.size w w2
  G : w.heap.size + 1 < gr
  N : ∀ ad, t.A = some ad → 0 < t.l.length → ad.block < gr
theorem St.left (h : St w wr gr r v5 v6 v8 v9 t) {row : Option Nat} (hg : wr.grownBy w2 row) (hne : some gr ≠ row) (hb : Below gr wr w2) : Left w w2 gr r v5 v6 v8 v9 t :=
  { O := (hb.block _ (by have := h.G; omega)).trans h.O
    T := h.T.move (hb.block _ (by have := h.G; omega)) (fun ad e hl => hb.block _ (h.N ad e hl))
    R := blk_grown h.R hg hne
    B := below_weaken h.B (by have := h.G; omega) hb, G := h.G, N := h.N }
theorem St.app5 (h : St w wr gr r v5 v6 v8 v9 t) (hg : wr.grownBy w2 v5.ownBlock) (hb : Below gr wr w2) {u : Value} {xs : List Int} (ho : Kd.R (Kd.int .i64) 3 w2 gr (fun _ => True) u xs) :
    Left w w2 gr r v5 v6 v8 v9 t ∧ St w (w2.setCell ⟨gr, 5, none⟩ u) gr { r with args := xs } u v6 v8 v9 t := by
  have L := h.left hg (Kd.R_ne h.H5 h.R (by decide)) hb
  exact ⟨L, St.put L.O L.T L.B L.G L.N L.R 5 u rfl ho
    (Kd.R_mono (Kd.R_grown (Kd.R_apartR h.H6 h.H5 (by decide)) hg (fun _ q => q.2)) (fun _ _ => trivial))
    (Kd.R_mono (Kd.R_grown (Kd.R_apartR h.H8 h.H5 (by decide)) hg (fun _ q => q.2)) (fun _ _ => trivial))
    (Kd.R_mono (Kd.R_grown (Kd.R_apartR h.H9 h.H5 (by decide)) hg (fun _ q => q.2)) (fun _ _ => trivial))⟩
theorem St.app6 (h : St w wr gr r v5 v6 v8 v9 t) (hg : wr.grownBy w2 v6.ownBlock) (hb : Below gr wr w2) {u : Value} {xs : List S52} (ho : Kd.R k52 52 w2 gr (fun _ => True) u xs) :
    Left w w2 gr r v5 v6 v8 v9 t ∧ St w (w2.setCell ⟨gr, 6, none⟩ u) gr { r with imgs := xs } v5 u v8 v9 t := by
  have L := h.left hg (Kd.R_ne h.H6 h.R (by decide)) hb
  exact ⟨L, St.put L.O L.T L.B L.G L.N L.R 6 u rfl
    (Kd.R_mono (Kd.R_grown (Kd.R_apartR h.H5 h.H6 (by decide)) hg (fun _ q => q.2)) (fun _ _ => trivial)) ho
    (Kd.R_mono (Kd.R_grown (Kd.R_apartR h.H8 h.H6 (by decide)) hg (fun _ q => q.2)) (fun _ _ => trivial))
    (Kd.R_mono (Kd.R_grown (Kd.R_apartR h.H9 h.H6 (by decide)) hg (fun _ q => q.2)) (fun _ _ => trivial))⟩
theorem St.app8 (h : St w wr gr r v5 v6 v8 v9 t) (hg : wr.grownBy w2 v8.ownBlock) (hb : Below gr wr w2) {u : Value} {xs : List S54} (ho : Kd.R k54 54 w2 gr (fun _ => True) u xs) :
    Left w w2 gr r v5 v6 v8 v9 t ∧ St w (w2.setCell ⟨gr, 8, none⟩ u) gr { r with di := xs } v5 v6 u v9 t := by
  have L := h.left hg (Kd.R_ne h.H8 h.R (by decide)) hb
  exact ⟨L, St.put L.O L.T L.B L.G L.N L.R 8 u rfl
    (Kd.R_mono (Kd.R_grown (Kd.R_apartR h.H5 h.H8 (by decide)) hg (fun _ q => q.2)) (fun _ _ => trivial))
    (Kd.R_mono (Kd.R_grown (Kd.R_apartR h.H6 h.H8 (by decide)) hg (fun _ q => q.2)) (fun _ _ => trivial)) ho
    (Kd.R_mono (Kd.R_grown (Kd.R_apartR h.H9 h.H8 (by decide)) hg (fun _ q => q.2)) (fun _ _ => trivial))⟩
theorem St.app9 (h : St w wr gr r v5 v6 v8 v9 t) (hg : wr.grownBy w2 v9.ownBlock) (hb : Below gr wr w2) {u : Value} {xs : List S56} (ho : Kd.R k56 56 w2 gr (fun _ => True) u xs) :
    Left w w2 gr r v5 v6 v8 v9 t ∧ St w (w2.setCell ⟨gr, 9, none⟩ u) gr { r with ac := xs } v5 v6 v8 u t := by
  have L := h.left hg (Kd.R_ne h.H9 h.R (by decide)) hb
  exact ⟨L, St.put L.O L.T L.B L.G L.N L.R 9 u rfl
    (Kd.R_mono (Kd.R_grown (Kd.R_apartR h.H5 h.H9 (by decide)) hg (fun _ q => q.2)) (fun _ _ => trivial))
    (Kd.R_mono (Kd.R_grown (Kd.R_apartR h.H6 h.H9 (by decide)) hg (fun _ q => q.2)) (fun _ _ => trivial))
    (Kd.R_mono (Kd.R_grown (Kd.R_apartR h.H8 h.H9 (by decide)) hg (fun _ q => q.2)) (fun _ _ => trivial)) ho⟩
end
theorem Rec.Fits.wide {r : Rec} (h : r.Fits) : r.Wide :=
  { k := h.k, t := h.t, p := h.p, g := h.g, o := h.o, n := h.n, args := h.args, imgs := h.imgs, di := h.di, ac := h.ac, largs := by have := h.largs; omega, limgs := by have := h.limgs; omega, ldi := by have := h.ldi; omega, lac := by have := h.lac; omega }
end Go.Proofs.Ytcplblpmgajmnaa.A
namespace Go.Proofs.Ytcplblpmgajmnaa.A
open Go.RowKit Go.Proofs.YtcplblpmgajmnaaW.PrintWords Go.Proofs.YtcplblpmgajmnaaW.PrintLast Go.Proofs.YtcplblpmgajmnaaW.PrintMore
attribute [local go_sem] max2_int min2_int max_two min_two max_three min_three max_four min_four
set_option linter.unusedVariables false
set_option linter.unusedSimpArgs false
def palimpsestref02_Put.l0 : Nat → List Int → List Int → Int → Option (List Int)
 | 0, _, _, _ => none
 | k + 1, x1, x5, x6 => if x6 < (x1.length : Int) then (if 0 ≤ x6 then ((palimpsestref02_Number.f (rd x1 x6)).bind fun t347 => (if x5.length + t347.length < 140737488355328 then (palimpsestref02_Put.l0 k x1 (x5 ++ t347) (wrap64 (x6 + 1))) else (none))) else (none)) else (some x5)
def palimpsestref02_Put.f (k : Nat) (l0 : List Int) (l1 : List Int) : Option (List Int) := (some (([] : List Int) : List Int)).bind fun y340 => (if y340.length + l0.length < 140737488355328 then (palimpsestref02_Put.l0 k l1 (y340 ++ l0) 0) else (none))
set_option maxHeartbeats 8000000 in
set_option maxRecDepth 100000 in
theorem palimpsestref02_Put.calls (k : Nat) (A0 : Option Addr) (c0 : Nat) (l0 : List Int) (A1 : Option Addr) (c1 : Nat) (l1 : List Int) (r : List Int) (w : World) (hr0 : Kd.C (Kd.int .u8) w A0 l0.length l0) (hc0 : l0.length ≤ c0) (hr1 : Kd.C (Kd.int .i64) w A1 l1.length l1) (hc1 : l1.length ≤ c1) (h : palimpsestref02_Put.f k l0 l1 = some r) :
  Calls Try.prog 49 #[.slice A0 l0.length c0, .slice A1 l1.length c1] w fun e w' => ∃ v0_ : Value, e = .returned (v0_) ∧ Kd.R (Kd.int .u8) 5 w' w.heap.size (fun _ => True) v0_ r ∧ Below w.heap.size w w' := by
 have HR0 := Aside0.mk hr0
 have HC0 := Aside0.mk hc0
 clear hr0 hc0
 have HR1 := Aside0.mk hr1
 have HC1 := Aside0.mk hc1
 clear hr1 hc1
 have HB := Aside0.mk (Below.refl w.heap.size w)
 have H : ((some (([] : List Int) : List Int)).bind fun y340 => (if y340.length + l0.length < 140737488355328 then (palimpsestref02_Put.l0 k l1 (y340 ++ l0) 0) else (none))) = some r := h
 clear h
 obtain ⟨y340, hy340⟩ : ∃ y_ : List Int, y_ = (([] : List Int)) := ⟨_, rfl⟩
 replace H : (if y340.length + l0.length < 140737488355328 then (palimpsestref02_Put.l0 k l1 (y340 ++ l0) 0) else (none)) = some r := by first | (rw [hy340]; with_reducible exact H) | (have H2_ := (Option.bind_some _ _).symm.trans H; rw [hy340]; with_reducible exact H2_) | (have H2_ := (Option.bind_some _ _).symm.trans H; with_reducible exact H2_) | with_reducible exact H | (rw [hy340]; exact H) | exact H
 have Ny340 := Aside0.mk hy340
 clear hy340
 by_cases c3 : y340.length + l0.length < 140737488355328
 ·rw [if_pos c3] at H
  have LMc3 := Aside0.mk c3
  clear c3
  obtain ⟨y343, hy343⟩ : ∃ y_ : List Int, y_ = (y340 ++ l0) := ⟨_, rfl⟩
  replace H : (palimpsestref02_Put.l0 k l1 y343 0) = some r := by first | (rw [hy343]; with_reducible exact H) | (have H2_ := (Option.bind_some _ _).symm.trans H; rw [hy343]; with_reducible exact H2_) | (have H2_ := (Option.bind_some _ _).symm.trans H; with_reducible exact H2_) | with_reducible exact H | (rw [hy343]; exact H) | exact H
  have Ny343 := Aside0.mk hy343
  clear hy343
  have H' := Aside0.mk H
  clear H
  go_enter Try.func49, Try.ntmps49
  go_wp2_with (first | ((with_reducible refine gate_dst (N := 7) rfl ?_); refine Kd.R_lit (Kd.int .u8) _ 5 ?hg (N := 7) ?hd (xs := ([] : List Int)) (inner := []) (ok := fun _ => True) (okp := fun _ => True) ?hr ?hp (fun _ hk => hk) trivial (Below.refl _ _) (Nat.le_refl _) (by simp) ?_; (case hd => rfl); (case hg => rfl); (case hr => first | (go_simp; done) | (go_simp; rfl)); (case hp => exact (Reps.none _ _)); intro v341 w4 ho5 hb hg_ hnew_; clear hg_ hnew_; (first | rw [← Ny340.out] at ho5 | (simp only [Int.reduceToNat] at ho5; rw [← Ny340.out] at ho5)); have n0_ := Aside0.mk (Kd.R_lower ho5 (below_size (by repeat (first | (with_reducible first | exact HB.out | apply bA | apply bN | apply bD) | exact HB.out)))); have n1_ := Aside0.mk (below_step (by repeat (first | (with_reducible first | exact HB.out | apply bA | apply bN | apply bD) | exact HB.out)) hb); clear HB; have HO342 := n0_; have HB := n1_; clear n0_ n1_; clear hb ho5) | ((with_reducible refine gate_builtin (b := .append) (xs := #[.tmp 7, .tmp 8]) rfl ?_); at_builtin; refine Kd.R_append_rows (Kd.int .u8) (w0 := w) w.heap.size rfl (.tmp 7) (.tmp 8) 22 5 (.int .u8 0) 1 rfl Try.underlying22 info5 rfl (by decide) (by omega) v341 y340 l0 _ _ _ (fun _ => True) (fun _ => False) rfl rfl ?aO ?aR (fun _ _ h => h) (fun _ h => h.elim) ?aF ?aB ?aS ?aL ?_; (case aR => repeat (first | exact (Kd.C_below HR0.out HB.out) | (with_reducible refine qA ?_ _) | (with_reducible refine qN ?_ _) | (with_reducible refine qZ ?_))); (case aB => exact (by repeat (first | (with_reducible first | exact HB.out | apply bA | apply bN | apply bD) | exact HB.out))); (case aF => exact (fun _ _ => trivial)); (case aO => exact (by (with_reducible repeat (first | apply rA | apply rN | apply rZ)); exact HO342.out)); (case aS => exact (below_size (by repeat (first | (with_reducible first | exact HB.out | apply bA | apply bN | apply bD) | exact HB.out)))); (case aL => have := LMc3.out; omega); intro v344 w6 ho hb hg hat; rw [← Ny343.out] at ho; have n0_ := Aside0.mk (hb); have n1_ := Aside0.mk (ho); clear HB; clear HO342; have HB := n0_; have HO345 := n1_; clear n0_ n1_; clear ho hb hg hat))
  go_loopg [5, 6] k (fun kq v5 v6 w' => ∃ (x5_1 : List Int) (x6_1 : Int), v6 = .int .i64 x6_1 ∧ Aside0 (palimpsestref02_Put.l0 kq l1 x5_1 x6_1 = some r) ∧ Aside0 (kq ≤ k) ∧ Aside0 (Kd.R (Kd.int .u8) 5 w' w.heap.size (fun _ => True) v5 x5_1) ∧ Aside0 (Below w.heap.size w w'))
  case atStart => exact ⟨(y343), (0), (by first | rfl | (simp; done) | (simp [*]; done)), H', ⟨Nat.le_refl _⟩, ⟨by (with_reducible repeat (first | apply rA | apply rN | apply rZ)); exact HO345.out⟩, ⟨by repeat (first | (with_reducible first | exact HB.out | apply bA | apply bN | apply bD) | exact HB.out)⟩⟩
  case round =>
   clear H'
   try clear c1
   try clear p2
   try clear c3
   try clear c4
   obtain ⟨x5_1, x6_1, rfl, HA, HK1, HO_5, HB⟩ := hrel
   cases gk with
   | zero => exact absurd HA.out (by simp [palimpsestref02_Put.l0])
   | succ k1 =>
    have H := HA.out
    clear HA
    simp only [palimpsestref02_Put.l0] at H
    by_cases c7 : x6_1 < (l1.length : Int)
    ·rw [if_pos c7] at H
     have c7b0 : decide (x6_1 < (l1.length : Int)) = true := decide_eq_true c7
     clear c7
     by_cases c8 : 0 ≤ x6_1
     ·rw [if_pos c8] at H
      have c8b0 : decide (0 ≤ x6_1) = true := decide_eq_true c8
      clear c8
      replace H := Option.bind_eq_some_iff.mp H
      obtain ⟨t347, A90, H⟩ := H
      replace H : (if x5_1.length + t347.length < 140737488355328 then (palimpsestref02_Put.l0 k1 l1 (x5_1 ++ t347) (wrap64 (x6_1 + 1))) else (none)) = some r := H
      have A9 := Aside0.mk A90
      clear A90
      by_cases c10 : x5_1.length + t347.length < 140737488355328
      ·rw [if_pos c10] at H
       have LMc10 := Aside0.mk c10
       clear c10
       obtain ⟨y350, hy350⟩ : ∃ y_ : List Int, y_ = (x5_1 ++ t347) := ⟨_, rfl⟩
       replace H : (palimpsestref02_Put.l0 k1 l1 y350 (wrap64 (x6_1 + 1))) = some r := by first | (rw [hy350]; with_reducible exact H) | (have H2_ := (Option.bind_some _ _).symm.trans H; rw [hy350]; with_reducible exact H2_) | (have H2_ := (Option.bind_some _ _).symm.trans H; with_reducible exact H2_) | with_reducible exact H | (rw [hy350]; exact H) | exact H
       have Ny350 := Aside0.mk hy350
       clear hy350
       have H' := Aside0.mk H
       clear H
       have p346 : 0 ≤ (x6_1 : Int) := of_decide_eq_true (by first | (with_reducible assumption) | assumption)
       have q346 : x6_1 < (l1.length : Int) := of_decide_eq_true (by first | (with_reducible assumption) | assumption)
       obtain ⟨ad346, e346, hx346_0⟩ := Kd.at_int HR1.out x6_1 p346 q346
       cases e346
       replace hx346_0 := (HB.out.cell (World.block_lt_of_cell? w _ hx346_0)).trans hx346_0
       replace p346 := eq_true p346
       replace q346 := eq_true q346
       go_wp2_with (first | ((with_reducible refine gate_callee (f := 42) rfl ?_); refine goesL_ (some 21) rfl rfl Try.func42 (by kernel_rfl) rfl #[.int .i64 (rd l1 x6_1)] rfl (by (try simp only [List.map_toArray, List.map_cons, List.map_nil]); first | done | rfl | (simp only [List.length_drop, List.length_take]; rfl)) ?_; (with_reducible refine (palimpsestref02_Number.calls (rd l1 x6_1) t347 _ A9.out).mono ?_); rintro e w11 ⟨v348, rfl, ho0, hb⟩; refine ⟨_, rfl, ?_⟩; have n0_ := Aside0.mk (Kd.R_elder' (by (with_reducible repeat (first | apply rA | apply rN | apply rZ)); exact HO_5.out) (Kd.R_base ho0) hb); have n1_ := Aside0.mk (Kd.R_lower (Kd.R_new' ho0 (Kd.R_lt (by (with_reducible repeat (first | apply rA | apply rN | apply rZ)); exact HO_5.out))) (below_size (by repeat (first | (with_reducible first | exact HB.out | apply bA | apply bN | apply bD) | exact HB.out)))); have n2_ := Aside0.mk (below_step (by repeat (first | (with_reducible first | exact HB.out | apply bA | apply bN | apply bD) | exact HB.out)) hb); clear HO_5; clear HB; have HO_5 := n0_; have HO349 := n1_; have HB := n2_; clear n0_ n1_ n2_; (try clear hb); (try clear hb2); (try clear hk); (try clear hi); (try clear ho0); obtain ⟨Ao13, co13, eo13⟩ := Kd.R_slice HO349.out; subst eo13) | ((with_reducible refine gate_builtin (b := .append) (xs := #[.tmp 16, .tmp 21]) rfl ?_); at_builtin; refine Kd.R_append_rows (Kd.int .u8) (w0 := w) w.heap.size rfl (.tmp 16) (.tmp 21) 22 5 (.int .u8 0) 1 rfl Try.underlying22 info5 rfl (by decide) (by omega) u5 x5_1 t347 _ _ _ (fun k_ => some k_ ≠ (.slice Ao13 t347.length co13 : Value).ownBlock) (fun _ => False) rfl rfl ?aO ?aR (fun _ _ h => h) (fun _ h => h.elim) ?aF ?aB ?aS ?aL ?_; (case aR => repeat (first | exact (Kd.R_reads' HO349.out).2.2 | (with_reducible refine qA ?_ _) | (with_reducible refine qN ?_ _) | (with_reducible refine qZ ?_))); (case aB => exact (by repeat (first | (with_reducible first | exact HB.out | apply bA | apply bN | apply bD) | exact HB.out))); (case aF => exact (fun k_ hk => Kd.fresh' (Kd.R_lt (by (with_reducible repeat (first | apply rA | apply rN | apply rZ)); exact HO349.out)) k_ hk)); (case aO => exact (by (with_reducible repeat (first | apply rA | apply rN | apply rZ)); exact Kd.R_mono HO_5.out (fun _ hk => hk.2))); (case aS => exact (below_size (by repeat (first | (with_reducible first | exact HB.out | apply bA | apply bN | apply bD) | exact HB.out)))); (case aL => have := LMc10.out; omega); intro v351 w12 ho hb hg hat; rw [← Ny350.out] at ho; have n0_ := Aside0.mk (Kd.R_after (ok := (fun _ => True)) (by (with_reducible repeat (first | apply rA | apply rN | apply rZ)); exact HO349.out) hg hat); have n1_ := Aside0.mk (hb); have n2_ := Aside0.mk (ho); clear HO349; clear HB; clear HO_5; have HO349 := n0_; have HB := n1_; have HO352 := n2_; clear n0_ n1_ n2_; clear ho hb hg hat))
       go_roundg k1
       case measure => have := HK1.out; omega
       case rel => exact ⟨(y350), (wrap64 (x6_1 + 1)), (by first | rfl | (simp; done) | (simp [*]; done)), H', ⟨by have := HK1.out; omega⟩, ⟨by (with_reducible repeat (first | apply rA | apply rN | apply rZ)); exact Kd.R_mono HO352.out (fun _ hk => trivial)⟩, ⟨by repeat (first | (with_reducible first | exact HB.out | apply bA | apply bN | apply bD) | exact HB.out)⟩⟩
      ·rw [if_neg c10] at H
       exact absurd H (by simp)
     ·rw [if_neg c8] at H
      exact absurd H (by simp)
    ·rw [if_neg c7] at H
     have c7b0 : decide (x6_1 < (l1.length : Int)) = false := decide_eq_false c7
     clear c7
     obtain rfl := Option.some.inj H
     go_wp2
     go_ret
     exact ⟨_, by first | rfl | (simp [errW_none, errW_some] <;> rfl) | (simp [*, errW_none, errW_some] <;> rfl), by (with_reducible repeat (first | apply rA | apply rN | apply rZ)); exact HO_5.out, by repeat (first | (with_reducible first | exact HB.out | apply bA | apply bN | apply bD) | exact HB.out)⟩
 ·rw [if_neg c3] at H
  exact absurd H (by simp)
mutual
def palimpsestref16_Bytes.l0 : Nat → List Int → Int → Int → Int → Int → Int → Int → List Int → List (S52) → Int → List (S54) → List (S56) → Option (List Int)
 | 0, _, _, _, _, _, _, _, _, _, _, _, _ => none
 | k + 1, x3, x4, x354000, x354001, x354002, x354003, x354004, x354005, x354006, x354007, x354008, x354009 => if x4 < (x354008.length : Int) then (if 0 ≤ x4 then ((some (([(rd_T54 x354008 x4).f0, (rd_T54 x354008 x4).f1] : List Int) : List Int)).bind fun y362 => (if x3.length + y362.length < 17592186044416 then (palimpsestref16_Bytes.l0 k (x3 ++ y362) (wrap64 (x4 + 1)) x354000 x354001 x354002 x354003 x354004 x354005 x354006 x354007 x354008 x354009) else (none))) else (none)) else (if x3.length < 17592186044416 then (palimpsestref16_Bytes.l1 k (x3 ++ [(x354009.length : Int)]) 0 x354000 x354001 x354002 x354003 x354004 x354005 x354006 x354007 x354008 x354009) else (none))
def palimpsestref16_Bytes.l1 : Nat → List Int → Int → Int → Int → Int → Int → Int → List Int → List (S52) → Int → List (S54) → List (S56) → Option (List Int)
 | 0, _, _, _, _, _, _, _, _, _, _, _, _ => none
 | k + 1, x3, x5, x354000, x354001, x354002, x354003, x354004, x354005, x354006, x354007, x354008, x354009 => if x5 < (x354009.length : Int) then (if 0 ≤ x5 then ((some (([(rd_T56 x354009 x5).f0, (rd_T56 x354009 x5).f1, (rd_T56 x354009 x5).f2, (rd_T56 x354009 x5).f3] : List Int) : List Int)).bind fun y375 => (if x3.length + y375.length < 17592186044416 then (palimpsestref16_Bytes.l1 k (x3 ++ y375) (wrap64 (x5 + 1)) x354000 x354001 x354002 x354003 x354004 x354005 x354006 x354007 x354008 x354009) else (none))) else (none)) else ((palimpsestref02_Put.f k ([] : List Int) x3).bind fun t381 => (some t381))
def palimpsestref16_Bytes.j2 : Nat → List Int → Int → Int → Int → Int → Int → List Int → List (S52) → Int → List (S54) → List (S56) → Option (List Int)
 | 0, _, _, _, _, _, _, _, _, _, _, _ => none
 | k + 1, x3, x354000, x354001, x354002, x354003, x354004, x354005, x354006, x354007, x354008, x354009 => if x354000 = 1 then (palimpsestref16_Bytes.j3 k x3 true x354000 x354001 x354002 x354003 x354004 x354005 x354006 x354007 x354008 x354009) else (palimpsestref16_Bytes.j3 k x3 (x354000 == 2) x354000 x354001 x354002 x354003 x354004 x354005 x354006 x354007 x354008 x354009)
def palimpsestref16_Bytes.j3 : Nat → List Int → Bool → Int → Int → Int → Int → Int → List Int → List (S52) → Int → List (S54) → List (S56) → Option (List Int)
 | 0, _, _, _, _, _, _, _, _, _, _, _, _ => none
 | k + 1, x3, x105, x354000, x354001, x354002, x354003, x354004, x354005, x354006, x354007, x354008, x354009 => if x105 = true then ((some (([x354003, x354004, (x354005.length : Int)] : List Int) : List Int)).bind fun y393 => (if x3.length + y393.length < 17592186044416 then ((some (x3 ++ y393 : List Int)).bind fun y396 => (if y396.length + x354005.length < 17592186044416 then ((some (y396 ++ x354005 : List Int)).bind fun y399 => (if y399.length < 17592186044416 then (palimpsestref16_Bytes.l2 k (y399 ++ [(x354006.length : Int)]) 0 x354000 x354001 x354002 x354003 x354004 x354005 x354006 x354007 x354008 x354009) else (none))) else (none))) else (none))) else ((palimpsestref02_Put.f k ([] : List Int) x3).bind fun t416 => (some t416))
def palimpsestref16_Bytes.l2 : Nat → List Int → Int → Int → Int → Int → Int → Int → List Int → List (S52) → Int → List (S54) → List (S56) → Option (List Int)
 | 0, _, _, _, _, _, _, _, _, _, _, _, _ => none
 | k + 1, x3, x6, x354000, x354001, x354002, x354003, x354004, x354005, x354006, x354007, x354008, x354009 => if x6 < (x354006.length : Int) then (if 0 ≤ x6 then ((some (([(rd_T52 x354006 x6).f0, (rd_T52 x354006 x6).f1] : List Int) : List Int)).bind fun y407 => (if x3.length + y407.length < 17592186044416 then (palimpsestref16_Bytes.l2 k (x3 ++ y407) (wrap64 (x6 + 1)) x354000 x354001 x354002 x354003 x354004 x354005 x354006 x354007 x354008 x354009) else (none))) else (none)) else ((palimpsestref02_Put.f k ([] : List Int) x3).bind fun t413 => (some t413))
end
def palimpsestref16_Bytes.f (k : Nat) (a0_0 : Int) (a0_1 : Int) (a0_2 : Int) (a0_3 : Int) (a0_4 : Int) (l0_5 : List Int) (l0_6 : List (S52)) (a0_7 : Int) (l0_8 : List (S54)) (l0_9 : List (S56)) : Option (List Int) := (some (([a0_0] : List Int) : List Int)).bind fun y354 => (if a0_0 = 5 then (if y354.length < 17592186044416 then (palimpsestref16_Bytes.l0 k (y354 ++ [(l0_8.length : Int)]) 0 a0_0 a0_1 a0_2 a0_3 a0_4 l0_5 l0_6 a0_7 l0_8 l0_9) else (none)) else ((some (([a0_1, a0_2] : List Int) : List Int)).bind fun y384 => (if y354.length + y384.length < 17592186044416 then ((some (y354 ++ y384 : List Int)).bind fun y387 => (if a0_0 = 2 then (if y387.length < 17592186044416 then (palimpsestref16_Bytes.j2 k (y387 ++ [a0_7]) a0_0 a0_1 a0_2 a0_3 a0_4 l0_5 l0_6 a0_7 l0_8 l0_9) else (none)) else (palimpsestref16_Bytes.j2 k y387 a0_0 a0_1 a0_2 a0_3 a0_4 l0_5 l0_6 a0_7 l0_8 l0_9))) else (none))))
def palimpsestref16_Bytes.T7 : Bool × List (List Nat × List Nat) := (true, [([], []), ([], []), ([1], [1]), ([], []), ([2, 3], [2, 3]), ([4], [4]), ([5], [5]), ([], []), ([7], [7]), ([], []), ([8, 9], [8, 9]), ([10], [10]), ([11], [11]), ([6, 12], [6, 12]), ([0, 13], [0, 13]), ([14, 14, 0, 1, 2, 3, 4, 5, 6, 7, 8, 9, 10, 11, 12, 13, 14], [0, 14])])
def palimpsestref16_Bytes.B7 : List Nat := [0, 0, 2, 0, 14, 30, 62, 0, 128, 0, 896, 1920, 3968, 8190, 16383, 32767]
theorem palimpsestref16_Bytes.tab7 : rtab .any (opsOf Try.f36 7) = palimpsestref16_Bytes.T7 := by kernel_rfl
theorem palimpsestref16_Bytes.bits7 : waitsOk palimpsestref16_Bytes.T7.2 palimpsestref16_Bytes.B7 = true := by kernel_rfl
def palimpsestref16_Bytes.T12 : Bool × List (List Nat × List Nat) := (true, [([], []), ([], []), ([1], [1]), ([], []), ([2, 3], [2, 3]), ([4], [4]), ([5], [5]), ([], []), ([7], [7]), ([], []), ([8, 9], [8, 9]), ([10], [10]), ([11], [11]), ([], []), ([13], [13]), ([], []), ([14, 15], [14, 15]), ([16], [16]), ([17], [17]), ([], []), ([19], [19]), ([], []), ([20, 21], [20, 21]), ([22], [22]), ([23], [23]), ([6, 12, 18, 24], [6, 12, 18, 24]), ([0, 25], [0, 25]), ([26, 26, 0, 1, 2, 3, 4, 5, 6, 7, 8, 9, 10, 11, 12, 13, 14, 15, 16, 17, 18, 19, 20, 21, 22, 23, 24, 25, 26], [0, 26])])
def palimpsestref16_Bytes.B12 : List Nat := [0, 0, 2, 0, 14, 30, 62, 0, 128, 0, 896, 1920, 3968, 0, 8192, 0, 57344, 122880, 253952, 0, 524288, 0, 3670016, 7864320, 16252928, 33554430, 67108863, 134217727]
theorem palimpsestref16_Bytes.tab12 : rtab .any (opsOf Try.f36 12) = palimpsestref16_Bytes.T12 := by kernel_rfl
theorem palimpsestref16_Bytes.bits12 : waitsOk palimpsestref16_Bytes.T12.2 palimpsestref16_Bytes.B12 = true := by kernel_rfl
def palimpsestref16_Bytes.T24 : Bool × List (List Nat × List Nat) := (true, [([], []), ([], []), ([1], [1]), ([], []), ([2, 3], [2, 3]), ([4], [4]), ([5], [5]), ([], []), ([7], [7]), ([], []), ([8, 9], [8, 9]), ([10], [10]), ([11], [11]), ([6, 12], [6, 12]), ([0, 13], [0, 13]), ([14, 14, 0, 1, 2, 3, 4, 5, 6, 7, 8, 9, 10, 11, 12, 13, 14], [0, 14])])
def palimpsestref16_Bytes.B24 : List Nat := [0, 0, 2, 0, 14, 30, 62, 0, 128, 0, 896, 1920, 3968, 8190, 16383, 32767]
theorem palimpsestref16_Bytes.tab24 : rtab .any (opsOf Try.f36 24) = palimpsestref16_Bytes.T24 := by kernel_rfl
theorem palimpsestref16_Bytes.bits24 : waitsOk palimpsestref16_Bytes.T24.2 palimpsestref16_Bytes.B24 = true := by kernel_rfl
set_option maxHeartbeats 8000000 in
set_option maxRecDepth 100000 in
theorem palimpsestref16_Bytes.calls (k : Nat) (a0_0 : Int) (a0_1 : Int) (a0_2 : Int) (a0_3 : Int) (a0_4 : Int) (A0_5 : Option Addr) (c0_5 : Nat) (l0_5 : List Int) (A0_6 : Option Addr) (c0_6 : Nat) (l0_6 : List (S52)) (a0_7 : Int) (A0_8 : Option Addr) (c0_8 : Nat) (l0_8 : List (S54)) (A0_9 : Option Addr) (c0_9 : Nat) (l0_9 : List (S56)) (r : List Int) (w : World) (hr0_5 : Kd.C (Kd.int .i64) w A0_5 l0_5.length l0_5) (hc0_5 : l0_5.length ≤ c0_5) (hr0_6 : Kd.C k52 w A0_6 l0_6.length l0_6) (hc0_6 : l0_6.length ≤ c0_6) (hr0_8 : Kd.C k54 w A0_8 l0_8.length l0_8) (hc0_8 : l0_8.length ≤ c0_8) (hr0_9 : Kd.C k56 w A0_9 l0_9.length l0_9) (hc0_9 : l0_9.length ≤ c0_9) (h : palimpsestref16_Bytes.f k a0_0 a0_1 a0_2 a0_3 a0_4 l0_5 l0_6 a0_7 l0_8 l0_9 = some r) :
  Calls Try.prog 36 #[.agg #[.int .i64 a0_0, .int .i64 a0_1, .int .i64 a0_2, .int .i64 a0_3, .int .i64 a0_4, .slice A0_5 l0_5.length c0_5, .slice A0_6 l0_6.length c0_6, .int .i64 a0_7, .slice A0_8 l0_8.length c0_8, .slice A0_9 l0_9.length c0_9]] w fun e w' => ∃ v0_ : Value, e = .returned (v0_) ∧ Kd.R (Kd.int .u8) 5 w' w.heap.size (fun _ => True) v0_ r ∧ Below w.heap.size w w' := by
 have hu30 := Try.underlying30
 have HR0_5 := Aside0.mk hr0_5
 have HC0_5 := Aside0.mk hc0_5
 clear hr0_5 hc0_5
 have HR0_6 := Aside0.mk hr0_6
 have HC0_6 := Aside0.mk hc0_6
 clear hr0_6 hc0_6
 have HR0_8 := Aside0.mk hr0_8
 have HC0_8 := Aside0.mk hc0_8
 clear hr0_8 hc0_8
 have HR0_9 := Aside0.mk hr0_9
 have HC0_9 := Aside0.mk hc0_9
 clear hr0_9 hc0_9
 have HB := Aside0.mk (Below.refl w.heap.size w)
 have H : ((some (([a0_0] : List Int) : List Int)).bind fun y354 => (if a0_0 = 5 then (if y354.length < 17592186044416 then (palimpsestref16_Bytes.l0 k (y354 ++ [(l0_8.length : Int)]) 0 a0_0 a0_1 a0_2 a0_3 a0_4 l0_5 l0_6 a0_7 l0_8 l0_9) else (none)) else ((some (([a0_1, a0_2] : List Int) : List Int)).bind fun y384 => (if y354.length + y384.length < 17592186044416 then ((some (y354 ++ y384 : List Int)).bind fun y387 => (if a0_0 = 2 then (if y387.length < 17592186044416 then (palimpsestref16_Bytes.j2 k (y387 ++ [a0_7]) a0_0 a0_1 a0_2 a0_3 a0_4 l0_5 l0_6 a0_7 l0_8 l0_9) else (none)) else (palimpsestref16_Bytes.j2 k y387 a0_0 a0_1 a0_2 a0_3 a0_4 l0_5 l0_6 a0_7 l0_8 l0_9))) else (none))))) = some r := h
 clear h
 obtain ⟨y354, hy354⟩ : ∃ y_ : List Int, y_ = (([a0_0] : List Int)) := ⟨_, rfl⟩
 replace H : (if a0_0 = 5 then (if y354.length < 17592186044416 then (palimpsestref16_Bytes.l0 k (y354 ++ [(l0_8.length : Int)]) 0 a0_0 a0_1 a0_2 a0_3 a0_4 l0_5 l0_6 a0_7 l0_8 l0_9) else (none)) else ((some (([a0_1, a0_2] : List Int) : List Int)).bind fun y384 => (if y354.length + y384.length < 17592186044416 then ((some (y354 ++ y384 : List Int)).bind fun y387 => (if a0_0 = 2 then (if y387.length < 17592186044416 then (palimpsestref16_Bytes.j2 k (y387 ++ [a0_7]) a0_0 a0_1 a0_2 a0_3 a0_4 l0_5 l0_6 a0_7 l0_8 l0_9) else (none)) else (palimpsestref16_Bytes.j2 k y387 a0_0 a0_1 a0_2 a0_3 a0_4 l0_5 l0_6 a0_7 l0_8 l0_9))) else (none)))) = some r := by first | (rw [hy354]; with_reducible exact H) | (have H2_ := (Option.bind_some _ _).symm.trans H; rw [hy354]; with_reducible exact H2_) | (have H2_ := (Option.bind_some _ _).symm.trans H; with_reducible exact H2_) | with_reducible exact H | (rw [hy354]; exact H) | exact H
 have Ny354 := Aside0.mk hy354
 clear hy354
 by_cases c2 : a0_0 = 5
 ·rw [if_pos c2] at H
  have c2b0 : (a0_0 == 5) = true := beq_iff_eq.mpr c2
  have c2b1 : (a0_0 != 5) = false := bne_eq_false_iff_eq.mpr c2
  clear c2
  by_cases c3 : y354.length < 17592186044416
  ·rw [if_pos c3] at H
   have LMc3 := Aside0.mk c3
   clear c3
   obtain ⟨y357, hy357⟩ : ∃ y_ : List Int, y_ = (y354 ++ [(l0_8.length : Int)]) := ⟨_, rfl⟩
   replace H : (palimpsestref16_Bytes.l0 k y357 0 a0_0 a0_1 a0_2 a0_3 a0_4 l0_5 l0_6 a0_7 l0_8 l0_9) = some r := by first | (rw [hy357]; with_reducible exact H) | (have H2_ := (Option.bind_some _ _).symm.trans H; rw [hy357]; with_reducible exact H2_) | (have H2_ := (Option.bind_some _ _).symm.trans H; with_reducible exact H2_) | with_reducible exact H | (rw [hy357]; exact H) | exact H
   have Ny357 := Aside0.mk hy357
   clear hy357
   have H' := Aside0.mk H
   clear H
   go_enter Try.func36, Try.ntmps36
   go_wp2_with (first | ((with_reducible refine gate_dst (N := 1) rfl ?_); refine box_event ?hg (N := 1) ?hd (cs := #[.int .i64 a0_0, .int .i64 a0_1, .int .i64 a0_2, .int .i64 a0_3, .int .i64 a0_4, .slice A0_5 l0_5.length c0_5, .slice A0_6 l0_6.length c0_6, .int .i64 a0_7, .slice A0_8 l0_8.length c0_8, .slice A0_9 l0_9.length c0_9]) (t := 30) ?hr ?_; (case hd => rfl); (case hg => rfl); (case hr => first | (go_simp; done) | (go_simp; rfl)); intro gb353 hg w4 hbox hb; have n0_ := Aside0.mk (below_step (by repeat (first | (with_reducible first | exact HB.out | apply bA | apply bN | apply bD) | exact HB.out)) hb); have n1_ := Aside0.mk (hbox); have n2_ := Aside0.mk ((by rw [hg]; exact (below_size (by repeat (first | (with_reducible first | exact HB.out | apply bA | apply bN | apply bD) | exact HB.out))) : w.heap.size ≤ gb353)); have n3_ := Aside0.mk ((by rw [hg]; exact (below_size (by repeat (first | (with_reducible first | exact HB.out | apply bA | apply bN | apply bD) | exact HB.out))) : w.heap.size ≤ gb353)); clear HB; have HB := n0_; have BK353 := n1_; have GW353 := n2_; have GE353 := n3_; clear n0_ n1_ n2_ n3_; clear hb hbox hg; obtain ⟨hcz5_0, hcz5_1, hcz5_2, hcz5_3, hcz5_4, hcz5_5, hcz5_6, hcz5_7, hcz5_8, hcz5_9⟩ := ten_cells BK353.out; have hfz5 := ten_free BK353.out) | ((with_reducible refine gate_dst (N := 9) rfl ?_); refine Kd.R_lit (Kd.int .i64) _ 3 ?hg (N := 9) ?hd (xs := ([a0_0] : List Int)) (inner := [.int .i64 a0_0]) (ok := fun _ => True) (okp := fun _ => True) ?hr ?hp (fun _ hk => hk) trivial (Below.refl _ _) (Nat.le_refl _) (by simp) ?_; (case hd => rfl); (case hg => rfl); (case hr => first | (go_simp; done) | (go_simp; rfl)); (case hp => exact (Reps.one (show Kd.M (Kd.int .i64) _ _ _ a0_0 [.int .i64 a0_0] from rfl) (Reps.none _ _))); intro v355 w6 ho7 hb hg_ hnew_; clear hg_ hnew_; (first | rw [← Ny354.out] at ho7 | (simp only [Int.reduceToNat] at ho7; rw [← Ny354.out] at ho7)); have n0_ := Aside0.mk (Kd.R_lower ho7 (below_size (by repeat (first | (with_reducible first | exact HB.out | apply bA | apply bN | apply bD | refine bS ?_ GE353.out) | exact HB.out)))); have n1_ := Aside0.mk (blk_below (g := gb353) (o := .cells #[.int .i64 a0_0, .int .i64 a0_1, .int .i64 a0_2, .int .i64 a0_3, .int .i64 a0_4, .slice A0_5 l0_5.length c0_5, .slice A0_6 l0_6.length c0_6, .int .i64 a0_7, .slice A0_8 l0_8.length c0_8, .slice A0_9 l0_9.length c0_9] 30 (0, 0)) (by (with_reducible repeat (first | refine kN ?_ _ | refine kZ ?_ | refine kA ?_ _)); exact BK353.out) hb); have n2_ := Aside0.mk (below_step (by repeat (first | (with_reducible first | exact HB.out | apply bA | apply bN | apply bD | refine bS ?_ GE353.out) | exact HB.out)) hb); clear BK353; clear HB; have HO356 := n0_; have BK353 := n1_; have HB := n2_; clear n0_ n1_ n2_; clear hb ho7; obtain ⟨hcz8_0, hcz8_1, hcz8_2, hcz8_3, hcz8_4, hcz8_5, hcz8_6, hcz8_7, hcz8_8, hcz8_9⟩ := ten_cells BK353.out; have hfz8 := ten_free BK353.out) | ((with_reducible refine gate_builtin (b := .append) (xs := #[.tmp 13, .tmp 17]) rfl ?_); at_builtin; refine Kd.R_append (Kd.int .i64) (w0 := w) w.heap.size rfl (.tmp 13) (.tmp 17) 25 3 (.int .i64 0) 8 rfl Try.underlying25 info3 rfl (by decide) (by omega) v355 y354 (l0_8.length : Int) [.int .i64 (l0_8.length : Int)] (fun _ => True) (fun _ => False) rfl rfl ?aP (fun _ hk => hk.elim) ?aF ?aO ?aB ?aS ?aL ?_; (case aP => exact rfl); (case aB => exact (by repeat (first | (with_reducible first | exact HB.out | apply bA | apply bN | apply bD | refine bS ?_ GE353.out) | exact HB.out))); (case aF => exact (fun _ _ => trivial)); (case aO => exact (by (with_reducible repeat (first | apply rA | apply rN | apply rZ)); exact HO356.out)); (case aS => exact (below_size (by repeat (first | (with_reducible first | exact HB.out | apply bA | apply bN | apply bD | refine bS ?_ GE353.out) | exact HB.out)))); (case aL => have := LMc3.out; omega); intro v358 w9 ho hb hg hat; rw [← Ny357.out] at ho; have n0_ := Aside0.mk (blk_grown (g := gb353) (o := .cells #[.int .i64 a0_0, .int .i64 a0_1, .int .i64 a0_2, .int .i64 a0_3, .int .i64 a0_4, .slice A0_5 l0_5.length c0_5, .slice A0_6 l0_6.length c0_6, .int .i64 a0_7, .slice A0_8 l0_8.length c0_8, .slice A0_9 l0_9.length c0_9] 30 (0, 0)) (by (with_reducible repeat (first | refine kN ?_ _ | refine kZ ?_ | refine kA ?_ _)); exact BK353.out) hg (Kd.R_ne HO356.out BK353.out (by decide))); have n1_ := Aside0.mk (hb); have n2_ := Aside0.mk (ho); clear BK353; clear HB; clear HO356; have BK353 := n0_; have HB := n1_; have HO359 := n2_; clear n0_ n1_ n2_; clear ho hb hg hat))
   go_loopg [3, 4] k (fun kq v3 v4 w' => ∃ (x3_1 : List Int) (x4_1 : Int), v4 = .int .i64 x4_1 ∧ Aside0 (palimpsestref16_Bytes.l0 kq x3_1 x4_1 a0_0 a0_1 a0_2 a0_3 a0_4 l0_5 l0_6 a0_7 l0_8 l0_9 = some r) ∧ Aside0 (kq ≤ k) ∧ Aside0 (Kd.R (Kd.int .i64) 3 w' w.heap.size (fun _ => True) v3 x3_1) ∧ Aside0 (w'.heap[gb353]? = some (.cells #[.int .i64 a0_0, .int .i64 a0_1, .int .i64 a0_2, .int .i64 a0_3, .int .i64 a0_4, (.slice A0_5 l0_5.length c0_5), (.slice A0_6 l0_6.length c0_6), .int .i64 a0_7, (.slice A0_8 l0_8.length c0_8), (.slice A0_9 l0_9.length c0_9)] 30 (0, 0))) ∧ Aside0 (Below w.heap.size w w'))
   case atStart => exact ⟨(y357), (0), (by first | rfl | (simp; done) | (simp [*]; done)), H', ⟨Nat.le_refl _⟩, ⟨by (with_reducible repeat (first | apply rA | apply rN | apply rZ)); exact HO359.out⟩, ⟨by (with_reducible repeat (first | refine kN ?_ _ | refine kZ ?_ | refine kA ?_ _)); exact BK353.out⟩, ⟨by repeat (first | (with_reducible first | exact HB.out | apply bA | apply bN | apply bD | refine bS ?_ GE353.out) | exact HB.out)⟩⟩
   case round =>
    clear H'
    try clear c2
    try clear c2b0
    try clear c2b1
    try clear p2
    try clear c3
    try clear hcz5_0 hcz5_1 hcz5_2 hcz5_3 hcz5_4 hcz5_5 hcz5_6 hcz5_7 hcz5_8 hcz5_9
    try clear hcz8_0 hcz8_1 hcz8_2 hcz8_3 hcz8_4 hcz8_5 hcz8_6 hcz8_7 hcz8_8 hcz8_9
    try clear hfz5
    try clear hfz8
    obtain ⟨x3_1, x4_1, rfl, HA, HK1, HO_3, BK353, HB⟩ := hrel
    cases gk with
    | zero => exact absurd HA.out (by simp [palimpsestref16_Bytes.l0])
    | succ k1 =>
     have H := HA.out
     clear HA
     simp only [palimpsestref16_Bytes.l0] at H
     by_cases c10 : x4_1 < (l0_8.length : Int)
     ·rw [if_pos c10] at H
      have c10b0 : decide (x4_1 < (l0_8.length : Int)) = true := decide_eq_true c10
      clear c10
      by_cases c11 : 0 ≤ x4_1
      ·rw [if_pos c11] at H
       have c11b0 : decide (0 ≤ x4_1) = true := decide_eq_true c11
       clear c11
       obtain ⟨y362, hy362⟩ : ∃ y_ : List Int, y_ = (([(rd_T54 l0_8 x4_1).f0, (rd_T54 l0_8 x4_1).f1] : List Int)) := ⟨_, rfl⟩
       replace H : (if x3_1.length + y362.length < 17592186044416 then (palimpsestref16_Bytes.l0 k1 (x3_1 ++ y362) (wrap64 (x4_1 + 1)) a0_0 a0_1 a0_2 a0_3 a0_4 l0_5 l0_6 a0_7 l0_8 l0_9) else (none)) = some r := by first | (rw [hy362]; with_reducible exact H) | (have H2_ := (Option.bind_some _ _).symm.trans H; rw [hy362]; with_reducible exact H2_) | (have H2_ := (Option.bind_some _ _).symm.trans H; with_reducible exact H2_) | with_reducible exact H | (rw [hy362]; exact H) | exact H
       have Ny362 := Aside0.mk hy362
       clear hy362
       by_cases c12 : x3_1.length + y362.length < 17592186044416
       ·rw [if_pos c12] at H
        have LMc12 := Aside0.mk c12
        clear c12
        obtain ⟨y365, hy365⟩ : ∃ y_ : List Int, y_ = (x3_1 ++ y362) := ⟨_, rfl⟩
        replace H : (palimpsestref16_Bytes.l0 k1 y365 (wrap64 (x4_1 + 1)) a0_0 a0_1 a0_2 a0_3 a0_4 l0_5 l0_6 a0_7 l0_8 l0_9) = some r := by first | (rw [hy365]; with_reducible exact H) | (have H2_ := (Option.bind_some _ _).symm.trans H; rw [hy365]; with_reducible exact H2_) | (have H2_ := (Option.bind_some _ _).symm.trans H; with_reducible exact H2_) | with_reducible exact H | (rw [hy365]; exact H) | exact H
        have Ny365 := Aside0.mk hy365
        clear hy365
        have H' := Aside0.mk H
        clear H
        obtain ⟨hcz13_0, hcz13_1, hcz13_2, hcz13_3, hcz13_4, hcz13_5, hcz13_6, hcz13_7, hcz13_8, hcz13_9⟩ := ten_cells BK353.out
        have hfz13 := ten_free BK353.out
        try go_wp2
        have n0_ := Aside0.mk (rZ HO_3.out)
        have n1_ := Aside0.mk (kZ BK353.out)
        have n2_ := Aside0.mk (bD HB.out)
        clear HO_3
        clear BK353
        clear HB
        have HO_3 := n0_
        have BK353 := n1_
        have HB := n2_
        clear n0_ n1_ n2_
        have p360 : 0 ≤ (x4_1 : Int) := of_decide_eq_true (by first | (with_reducible assumption) | assumption)
        have q360 : x4_1 < (l0_8.length : Int) := of_decide_eq_true (by first | (with_reducible assumption) | assumption)
        obtain ⟨ad360, e360, hx360_0, hx360_1⟩ := at_T54 HR0_8.out x4_1 p360 q360
        have hw360_1 := hx360_1
        have hw360_0 := hx360_0
        cases e360
        replace hx360_0 := (HB.out.cell (World.block_lt_of_cell? w _ hx360_0)).trans hx360_0
        replace hx360_1 := (HB.out.cell (World.block_lt_of_cell? w _ hx360_1)).trans hx360_1
        replace p360 := eq_true p360
        replace q360 := eq_true q360
        have p361 : 0 ≤ (x4_1 : Int) := of_decide_eq_true (by first | (with_reducible assumption) | assumption)
        have q361 : x4_1 < (l0_8.length : Int) := of_decide_eq_true (by first | (with_reducible assumption) | assumption)
        obtain ⟨ad361, e361, hx361_0, hx361_1⟩ := at_T54 HR0_8.out x4_1 p361 q361
        have hw361_1 := hx361_1
        have hw361_0 := hx361_0
        obtain rfl : ad360 = ad361 := (by injection e361)
        replace hx361_0 := (HB.out.cell (World.block_lt_of_cell? w _ hx361_0)).trans hx361_0
        replace hx361_1 := (HB.out.cell (World.block_lt_of_cell? w _ hx361_1)).trans hx361_1
        replace p361 := eq_true p361
        replace q361 := eq_true q361
        refine start_ (n := 16) (S := fun w' => w'.cell? ⟨gb353, 0, none⟩ = some (.int .i64 a0_0) ∧ w'.cell? ⟨gb353, 1, none⟩ = some (.int .i64 a0_1) ∧ w'.cell? ⟨gb353, 2, none⟩ = some (.int .i64 a0_2) ∧ w'.cell? ⟨gb353, 3, none⟩ = some (.int .i64 a0_3) ∧ w'.cell? ⟨gb353, 4, none⟩ = some (.int .i64 a0_4) ∧ w'.cell? ⟨gb353, 5, none⟩ = some (.slice A0_5 l0_5.length c0_5) ∧ w'.cell? ⟨gb353, 6, none⟩ = some (.slice A0_6 l0_6.length c0_6) ∧ w'.cell? ⟨gb353, 7, none⟩ = some (.int .i64 a0_7) ∧ w'.cell? ⟨gb353, 8, none⟩ = some (.slice (some ad360) l0_8.length c0_8) ∧ w'.cell? ⟨gb353, 9, none⟩ = some (.slice A0_9 l0_9.length c0_9) ∧ w'.cell? (ad360.add ((x4_1).toNat * 2)) = some (.int .i64 ((rd_T54 l0_8 x4_1).f0)) ∧ w'.cell? ⟨(ad360.add ((x4_1).toNat * 2)).block, (ad360.add ((x4_1).toNat * 2)).off + 1, none⟩ = some (.int .i64 ((rd_T54 l0_8 x4_1).f1)) ∧ w'.cell? (ad360.add ((x4_1).toNat * 2)) = some (.int .i64 ((rd_T54 l0_8 x4_1).f0)) ∧ w'.cell? ⟨(ad360.add ((x4_1).toNat * 2)).block, (ad360.add ((x4_1).toNat * 2)).off + 1, none⟩ = some (.int .i64 ((rd_T54 l0_8 x4_1).f1))) (ds := []) #[false, false, false, false, false, false, false, false, false, false, false, false, false, false, false, false] (by kernel_rfl) rfl rfl ⟨(blk_cell BK353.out 0).trans rfl, (blk_cell BK353.out 1).trans rfl, (blk_cell BK353.out 2).trans rfl, (blk_cell BK353.out 3).trans rfl, (blk_cell BK353.out 4).trans rfl, (blk_cell BK353.out 5).trans rfl, (blk_cell BK353.out 6).trans rfl, (blk_cell BK353.out 7).trans rfl, (blk_cell BK353.out 8).trans rfl, (blk_cell BK353.out 9).trans rfl, ((HB.out.cell (World.block_lt_of_cell? w _ hw360_0)).trans hw360_0), ((HB.out.cell (World.block_lt_of_cell? w _ hw360_1)).trans hw360_1), ((HB.out.cell (World.block_lt_of_cell? w _ hw361_0)).trans hw361_0), ((HB.out.cell (World.block_lt_of_cell? w _ hw361_1)).trans hw361_1)⟩ (fun hHeld => ?_); refine with_tabW palimpsestref16_Bytes.tab7 palimpsestref16_Bytes.bits7 (fun HT_ HW_ => ?_)
        generalize wr.drew = w14 at HO_3 BK353 HB hx360_0 hx360_1 hx361_0 hx361_1 hHeld ⊢
        refine pure_ (i := 0) (N := some 26) (v := ?_) (a' := ?_) #[true, false, false, false, false, false, false, false, false, false, false, false, false, false, false, false] rfl rfl (any_of HT_.out (by kernel_rfl)) (fun _ _ _ h => h) (Or.inl ⟨by rfl, ?_⟩) ?_ ?_
        rotate_left
        ·intro w'
         go_simp
         with_reducible rfl
        rotate_left
        ·simp only [Act.put, List.setIfInBounds_toArray, List.set_cons_zero, List.set_cons_succ, i64_w, i32_w]
         rfl
        refine pure_ (i := 1) (N := some 27) (v := ?_) (a' := ?_) #[true, true, false, false, false, false, false, false, false, false, false, false, false, false, false, false] rfl rfl (any_of HT_.out (by kernel_rfl)) (fun _ _ _ h => h) (Or.inl ⟨by rfl, ?_⟩) ?_ ?_
        rotate_left
        ·intro w'
         go_simp
         with_reducible rfl
        rotate_left
        ·simp only [Act.put, List.setIfInBounds_toArray, List.set_cons_zero, List.set_cons_succ, i64_w, i32_w]
         rfl
        refine pure_ (i := 3) (N := some 29) (v := ?_) (a' := ?_) #[true, true, false, true, false, false, false, false, false, false, false, false, false, false, false, false] rfl rfl (any_of HT_.out (by kernel_rfl)) (fun _ _ _ h => h) (Or.inl ⟨by rfl, ?_⟩) ?_ ?_
        rotate_left
        ·intro w'
         go_simp
         with_reducible rfl
        rotate_left
        ·simp only [Act.put, List.setIfInBounds_toArray, List.set_cons_zero, List.set_cons_succ, i64_w, i32_w]
         rfl
        refine pure_ (i := 7) (N := some 33) (v := ?_) (a' := ?_) #[true, true, false, true, false, false, false, true, false, false, false, false, false, false, false, false] rfl rfl (any_of HT_.out (by kernel_rfl)) (fun _ _ _ h => h) (Or.inl ⟨by rfl, ?_⟩) ?_ ?_
        rotate_left
        ·intro w'
         go_simp
         with_reducible rfl
        rotate_left
        ·simp only [Act.put, List.setIfInBounds_toArray, List.set_cons_zero, List.set_cons_succ, i64_w, i32_w]
         rfl
        refine pure_ (i := 9) (N := some 35) (v := ?_) (a' := ?_) #[true, true, false, true, false, false, false, true, false, true, false, false, false, false, false, false] rfl rfl (any_of HT_.out (by kernel_rfl)) (fun _ _ _ h => h) (Or.inl ⟨by rfl, ?_⟩) ?_ ?_
        rotate_left
        ·intro w'
         go_simp
         with_reducible rfl
        rotate_left
        ·simp only [Act.put, List.setIfInBounds_toArray, List.set_cons_zero, List.set_cons_succ, i64_w, i32_w]
         rfl
        refine take_ (i := 2) (N := some 28) (v := ?_) (a' := ?_) #[true, true, true, true, false, false, false, true, false, true, false, false, false, false, false, false] rfl rfl (take_ofW HT_.out HW_.out (by kernel_rfl)) (fun _ _ _ h => h) (Or.inl ⟨by rfl, ?_⟩) hHeld ?_ ?_
        rotate_left
        ·rintro w' ⟨s0, s1, s2, s3, s4, s5, s6, s7, s8, s9, s10, s11, s12, s13⟩
         go_simp
         with_reducible rfl
        rotate_left
        ·simp only [Act.put, List.setIfInBounds_toArray, List.set_cons_zero, List.set_cons_succ, i64_w, i32_w]
         rfl
        refine pure_ (i := 4) (N := some 30) (v := ?_) (a' := ?_) #[true, true, true, true, true, false, false, true, false, true, false, false, false, false, false, false] rfl rfl (any_of HT_.out (by kernel_rfl)) (fun _ _ _ h => h) (Or.inl ⟨by rfl, ?_⟩) ?_ ?_
        rotate_left
        ·intro w'
         go_simp
         with_reducible rfl
        rotate_left
        ·simp only [Act.put, List.setIfInBounds_toArray, List.set_cons_zero, List.set_cons_succ, i64_w, i32_w]
         rfl
        refine pure_ (i := 5) (N := some 31) (v := ?_) (a' := ?_) #[true, true, true, true, true, true, false, true, false, true, false, false, false, false, false, false] rfl rfl (any_of HT_.out (by kernel_rfl)) (fun _ _ _ h => h) (Or.inl ⟨by rfl, ?_⟩) ?_ ?_
        rotate_left
        ·intro w'
         go_simp
         with_reducible rfl
        rotate_left
        ·simp only [Act.put, List.setIfInBounds_toArray, List.set_cons_zero, List.set_cons_succ, i64_w, i32_w]
         rfl
        refine take_ (i := 6) (N := some 32) (v := ?_) (a' := ?_) #[true, true, true, true, true, true, true, true, false, true, false, false, false, false, false, false] rfl rfl (take_ofW HT_.out HW_.out (by kernel_rfl)) (fun _ _ _ h => h) (Or.inl ⟨by rfl, ?_⟩) hHeld ?_ ?_
        rotate_left
        ·rintro w' ⟨s0, s1, s2, s3, s4, s5, s6, s7, s8, s9, s10, s11, s12, s13⟩
         go_simp
         with_reducible rfl
        rotate_left
        ·simp only [Act.put, List.setIfInBounds_toArray, List.set_cons_zero, List.set_cons_succ, i64_w, i32_w]
         rfl
        refine take_ (i := 8) (N := some 34) (v := ?_) (a' := ?_) #[true, true, true, true, true, true, true, true, true, true, false, false, false, false, false, false] rfl rfl (take_ofW HT_.out HW_.out (by kernel_rfl)) (fun _ _ _ h => h) (Or.inl ⟨by rfl, ?_⟩) hHeld ?_ ?_
        rotate_left
        ·rintro w' ⟨s0, s1, s2, s3, s4, s5, s6, s7, s8, s9, s10, s11, s12, s13⟩
         go_simp
         with_reducible rfl
        rotate_left
        ·simp only [Act.put, List.setIfInBounds_toArray, List.set_cons_zero, List.set_cons_succ, i64_w, i32_w]
         rfl
        refine pure_ (i := 10) (N := some 36) (v := ?_) (a' := ?_) #[true, true, true, true, true, true, true, true, true, true, true, false, false, false, false, false] rfl rfl (any_of HT_.out (by kernel_rfl)) (fun _ _ _ h => h) (Or.inl ⟨by rfl, ?_⟩) ?_ ?_
        rotate_left
        ·intro w'
         go_simp
         with_reducible rfl
        rotate_left
        ·simp only [Act.put, List.setIfInBounds_toArray, List.set_cons_zero, List.set_cons_succ, i64_w, i32_w]
         rfl
        refine pure_ (i := 11) (N := some 37) (v := ?_) (a' := ?_) #[true, true, true, true, true, true, true, true, true, true, true, true, false, false, false, false] rfl rfl (any_of HT_.out (by kernel_rfl)) (fun _ _ _ h => h) (Or.inl ⟨by rfl, ?_⟩) ?_ ?_
        rotate_left
        ·intro w'
         go_simp
         with_reducible rfl
        rotate_left
        ·simp only [Act.put, List.setIfInBounds_toArray, List.set_cons_zero, List.set_cons_succ, i64_w, i32_w]
         rfl
        refine take_ (i := 12) (N := some 38) (v := ?_) (a' := ?_) #[true, true, true, true, true, true, true, true, true, true, true, true, true, false, false, false] rfl rfl (take_ofW HT_.out HW_.out (by kernel_rfl)) (fun _ _ _ h => h) (Or.inl ⟨by rfl, ?_⟩) hHeld ?_ ?_
        rotate_left
        ·rintro w' ⟨s0, s1, s2, s3, s4, s5, s6, s7, s8, s9, s10, s11, s12, s13⟩
         go_simp
         with_reducible rfl
        rotate_left
        ·simp only [Act.put, List.setIfInBounds_toArray, List.set_cons_zero, List.set_cons_succ, i64_w, i32_w]
         rfl
        refine one_ (i := 13) (N := some 39) #[true, true, true, true, true, true, true, true, true, true, true, true, true, true, false, false] rfl rfl (one_of HT_.out (by kernel_rfl)) (by decide) (fun K hK => ?_)
        refine Kd.R_lit_step (Kd.int .i64) _ 3 ?hg (N := 39) ?hd (xs := ([(rd_T54 l0_8 x4_1).f0, (rd_T54 l0_8 x4_1).f1] : List Int)) (inner := [.int .i64 ((rd_T54 l0_8 x4_1).f0), .int .i64 ((rd_T54 l0_8 x4_1).f1)]) (ok := fun _ => True) (okp := fun _ => True) ?hr ?hp (fun _ hk => hk) trivial (Below.refl _ _) (Nat.le_refl _) (by simp) ?_; (case hd => rfl); (case hg => rfl); (case hr => first | (go_simp; done) | (go_simp; rfl)); (case hp => exact (Reps.one (show Kd.M (Kd.int .i64) _ _ _ ((rd_T54 l0_8 x4_1).f0) [.int .i64 ((rd_T54 l0_8 x4_1).f0)] from rfl) (Reps.one (show Kd.M (Kd.int .i64) _ _ _ ((rd_T54 l0_8 x4_1).f1) [.int .i64 ((rd_T54 l0_8 x4_1).f1)] from rfl) (Reps.none _ _))))
        intro v363 w15 ho16 hb hg_ hnew_
        clear hg_ hnew_
        (first | rw [← Ny362.out] at ho16 | (simp only [Int.reduceToNat] at ho16; rw [← Ny362.out] at ho16))
        have n0_ := Aside0.mk (Kd.R_elder' (by (with_reducible repeat (first | apply rA | apply rN | apply rZ)); exact HO_3.out) (Kd.R_base ho16) hb)
        have n1_ := Aside0.mk (Kd.R_lower (Kd.R_new' ho16 (Kd.R_lt (by (with_reducible repeat (first | apply rA | apply rN | apply rZ)); exact HO_3.out))) (below_size (by repeat (first | (with_reducible first | exact HB.out | apply bA | apply bN | apply bD | refine bS ?_ GE353.out) | exact HB.out))))
        have n2_ := Aside0.mk (blk_below (g := gb353) (o := .cells #[.int .i64 a0_0, .int .i64 a0_1, .int .i64 a0_2, .int .i64 a0_3, .int .i64 a0_4, .slice A0_5 l0_5.length c0_5, .slice A0_6 l0_6.length c0_6, .int .i64 a0_7, .slice (some ad360) l0_8.length c0_8, .slice A0_9 l0_9.length c0_9] 30 (0, 0)) (by (with_reducible repeat (first | refine kN ?_ _ | refine kZ ?_ | refine kA ?_ _)); exact BK353.out) hb)
        have n3_ := Aside0.mk (below_step (by repeat (first | (with_reducible first | exact HB.out | apply bA | apply bN | apply bD | refine bS ?_ GE353.out) | exact HB.out)) hb)
        clear HO_3
        clear BK353
        clear HB
        have HO_3 := n0_
        have HO364 := n1_
        have BK353 := n2_
        have HB := n3_
        clear n0_ n1_ n2_ n3_
        clear hb ho16
        obtain ⟨Ao18, co18, eo18⟩ := Kd.R_slice HO364.out
        (first | subst eo18 | (injection eo18 with f1_ f2_ f3_; have f4_ := f1_.symm; have f5_ := f3_.symm; clear f1_ f2_ f3_; subst f4_; subst f5_))
        refine hK.out _ _ ⟨(blk_cell BK353.out 0).trans rfl, (blk_cell BK353.out 1).trans rfl, (blk_cell BK353.out 2).trans rfl, (blk_cell BK353.out 3).trans rfl, (blk_cell BK353.out 4).trans rfl, (blk_cell BK353.out 5).trans rfl, (blk_cell BK353.out 6).trans rfl, (blk_cell BK353.out 7).trans rfl, (blk_cell BK353.out 8).trans rfl, (blk_cell BK353.out 9).trans rfl, ((HB.out.cell (World.block_lt_of_cell? w _ hw360_0)).trans hw360_0), ((HB.out.cell (World.block_lt_of_cell? w _ hw360_1)).trans hw360_1), ((HB.out.cell (World.block_lt_of_cell? w _ hw361_0)).trans hw361_0), ((HB.out.cell (World.block_lt_of_cell? w _ hw361_1)).trans hw361_1)⟩ (fun hHeld => ?_)
        clear hK K
        refine norm_ (a' := ?_) ?_ ?_
        rotate_left
        ·show Act.put _ (some 39) _ = _
         simp only [Act.put, List.setIfInBounds_toArray, List.set_cons_zero, List.set_cons_succ, i64_w, i32_w]
         rfl
        refine one_ (i := 14) (N := some 40) #[true, true, true, true, true, true, true, true, true, true, true, true, true, true, true, false] rfl rfl (one_of HT_.out (by kernel_rfl)) (by decide) (fun K hK => ?_)
        refine Kd.R_append_rows_step (Kd.int .i64) (w0 := w) w.heap.size (by rfl) (.tmp 26) (.tmp 39) 25 3 (.int .i64 0) 8 rfl Try.underlying25 info3 rfl (by decide) (by omega) u3 x3_1 y362 _ _ _ (fun k_ => some k_ ≠ (.slice Ao18 y362.length co18 : Value).ownBlock) (fun _ => False) rfl rfl ?aO ?aR (fun _ _ h => h) (fun _ h => h.elim) ?aF ?aB ?aS ?aL ?_
        (case aR => repeat (first | exact (Kd.R_reads' HO364.out).2.2 | (with_reducible refine qA ?_ _) | (with_reducible refine qN ?_ _) | (with_reducible refine qZ ?_)))
        (case aB => exact (by repeat (first | (with_reducible first | exact HB.out | apply bA | apply bN | apply bD | refine bS ?_ GE353.out) | exact HB.out)))
        (case aF => exact (fun k_ hk => Kd.fresh' (Kd.R_lt (by (with_reducible repeat (first | apply rA | apply rN | apply rZ)); exact HO364.out)) k_ hk))
        (case aO => exact (by (with_reducible repeat (first | apply rA | apply rN | apply rZ)); exact Kd.R_mono HO_3.out (fun _ hk => hk.2)))
        (case aS => exact (below_size (by repeat (first | (with_reducible first | exact HB.out | apply bA | apply bN | apply bD | refine bS ?_ GE353.out) | exact HB.out))))
        (case aL => have := LMc12.out; omega)
        intro v366 w17 ho hb hg hat
        rw [← Ny365.out] at ho
        have n0_ := Aside0.mk (blk_grown (g := gb353) (o := .cells #[.int .i64 a0_0, .int .i64 a0_1, .int .i64 a0_2, .int .i64 a0_3, .int .i64 a0_4, .slice A0_5 l0_5.length c0_5, .slice A0_6 l0_6.length c0_6, .int .i64 a0_7, .slice (some ad360) l0_8.length c0_8, .slice A0_9 l0_9.length c0_9] 30 (0, 0)) (by (with_reducible repeat (first | refine kN ?_ _ | refine kZ ?_ | refine kA ?_ _)); exact BK353.out) hg (Kd.R_ne HO_3.out BK353.out (by decide)))
        have n1_ := Aside0.mk (Kd.R_after (ok := (fun _ => True)) (by (with_reducible repeat (first | apply rA | apply rN | apply rZ)); exact HO364.out) hg hat)
        have n2_ := Aside0.mk (hb)
        have n3_ := Aside0.mk (ho)
        clear BK353
        clear HO364
        clear HB
        clear HO_3
        have BK353 := n0_
        have HO364 := n1_
        have HB := n2_
        have HO367 := n3_
        clear n0_ n1_ n2_ n3_
        clear ho hb hg hat
        refine hK.out _ _ ⟨(blk_cell BK353.out 0).trans rfl, (blk_cell BK353.out 1).trans rfl, (blk_cell BK353.out 2).trans rfl, (blk_cell BK353.out 3).trans rfl, (blk_cell BK353.out 4).trans rfl, (blk_cell BK353.out 5).trans rfl, (blk_cell BK353.out 6).trans rfl, (blk_cell BK353.out 7).trans rfl, (blk_cell BK353.out 8).trans rfl, (blk_cell BK353.out 9).trans rfl, ((HB.out.cell (World.block_lt_of_cell? w _ hw360_0)).trans hw360_0), ((HB.out.cell (World.block_lt_of_cell? w _ hw360_1)).trans hw360_1), ((HB.out.cell (World.block_lt_of_cell? w _ hw361_0)).trans hw361_0), ((HB.out.cell (World.block_lt_of_cell? w _ hw361_1)).trans hw361_1)⟩ (fun hHeld => ?_)
        clear hK K
        refine norm_ (a' := ?_) ?_ ?_
        rotate_left
        ·show Act.put _ (some 40) _ = _
         simp only [Act.put, List.setIfInBounds_toArray, List.set_cons_zero, List.set_cons_succ, i64_w, i32_w]
         rfl
        refine pure_ (i := 15) (N := some 3) (v := ?_) (a' := ?_) #[true, true, true, true, true, true, true, true, true, true, true, true, true, true, true, true] rfl rfl (any_of HT_.out (by kernel_rfl)) (fun _ _ _ h => h) (Or.inl ⟨by rfl, ?_⟩) ?_ ?_
        rotate_left
        ·intro w'
         go_simp
         with_reducible rfl
        rotate_left
        ·simp only [Act.put, List.setIfInBounds_toArray, List.set_cons_zero, List.set_cons_succ, i64_w, i32_w]
         rfl
        refine done_ (done_of HT_.out (by kernel_rfl)) ?_
        try go_wp2
        go_roundg k1
        case measure => have := HK1.out; omega
        case rel => exact ⟨(y365), (wrap64 (x4_1 + 1)), (by first | rfl | (simp; done) | (simp [*]; done)), H', ⟨by have := HK1.out; omega⟩, ⟨by (with_reducible repeat (first | apply rA | apply rN | apply rZ)); exact Kd.R_mono HO367.out (fun _ hk => trivial)⟩, ⟨by (with_reducible repeat (first | refine kN ?_ _ | refine kZ ?_ | refine kA ?_ _)); exact BK353.out⟩, ⟨by repeat (first | (with_reducible first | exact HB.out | apply bA | apply bN | apply bD | refine bS ?_ GE353.out) | exact HB.out)⟩⟩
       ·rw [if_neg c12] at H
        exact absurd H (by simp)
      ·rw [if_neg c11] at H
       exact absurd H (by simp)
     ·rw [if_neg c10] at H
      have c10b0 : decide (x4_1 < (l0_8.length : Int)) = false := decide_eq_false c10
      clear c10
      by_cases c19 : x3_1.length < 17592186044416
      ·rw [if_pos c19] at H
       have LMc19 := Aside0.mk c19
       clear c19
       obtain ⟨y368, hy368⟩ : ∃ y_ : List Int, y_ = (x3_1 ++ [(l0_9.length : Int)]) := ⟨_, rfl⟩
       replace H : (palimpsestref16_Bytes.l1 k1 y368 0 a0_0 a0_1 a0_2 a0_3 a0_4 l0_5 l0_6 a0_7 l0_8 l0_9) = some r := by first | (rw [hy368]; with_reducible exact H) | (have H2_ := (Option.bind_some _ _).symm.trans H; rw [hy368]; with_reducible exact H2_) | (have H2_ := (Option.bind_some _ _).symm.trans H; with_reducible exact H2_) | with_reducible exact H | (rw [hy368]; exact H) | exact H
       have Ny368 := Aside0.mk hy368
       clear hy368
       have H' := Aside0.mk H
       clear H
       obtain ⟨hcz20_0, hcz20_1, hcz20_2, hcz20_3, hcz20_4, hcz20_5, hcz20_6, hcz20_7, hcz20_8, hcz20_9⟩ := ten_cells BK353.out
       have hfz20 := ten_free BK353.out
       go_wp2_with (first | ((with_reducible refine gate_builtin (b := .append) (xs := #[.tmp 41, .tmp 45]) rfl ?_); at_builtin; refine Kd.R_append (Kd.int .i64) (w0 := w) w.heap.size rfl (.tmp 41) (.tmp 45) 25 3 (.int .i64 0) 8 rfl Try.underlying25 info3 rfl (by decide) (by omega) u3 x3_1 (l0_9.length : Int) [.int .i64 (l0_9.length : Int)] (fun _ => True) (fun _ => False) rfl rfl ?aP (fun _ hk => hk.elim) ?aF ?aO ?aB ?aS ?aL ?_; (case aP => exact rfl); (case aB => exact (by repeat (first | (with_reducible first | exact HB.out | apply bA | apply bN | apply bD | refine bS ?_ GE353.out) | exact HB.out))); (case aF => exact (fun _ _ => trivial)); (case aO => exact (by (with_reducible repeat (first | apply rA | apply rN | apply rZ)); exact HO_3.out)); (case aS => exact (below_size (by repeat (first | (with_reducible first | exact HB.out | apply bA | apply bN | apply bD | refine bS ?_ GE353.out) | exact HB.out)))); (case aL => have := LMc19.out; omega); intro v369 w21 ho hb hg hat; rw [← Ny368.out] at ho; have n0_ := Aside0.mk (blk_grown (g := gb353) (o := .cells #[.int .i64 a0_0, .int .i64 a0_1, .int .i64 a0_2, .int .i64 a0_3, .int .i64 a0_4, .slice A0_5 l0_5.length c0_5, .slice A0_6 l0_6.length c0_6, .int .i64 a0_7, .slice A0_8 l0_8.length c0_8, .slice A0_9 l0_9.length c0_9] 30 (0, 0)) (by (with_reducible repeat (first | refine kN ?_ _ | refine kZ ?_ | refine kA ?_ _)); exact BK353.out) hg (Kd.R_ne HO_3.out BK353.out (by decide))); have n1_ := Aside0.mk (hb); have n2_ := Aside0.mk (ho); clear BK353; clear HB; clear HO_3; have BK353 := n0_; have HB := n1_; have HO370 := n2_; clear n0_ n1_ n2_; clear ho hb hg hat))
       go_loopg [3, 5] k1 (fun kq v3 v5 w' => ∃ (x3_2 : List Int) (x5_2 : Int), v5 = .int .i64 x5_2 ∧ Aside0 (palimpsestref16_Bytes.l1 kq x3_2 x5_2 a0_0 a0_1 a0_2 a0_3 a0_4 l0_5 l0_6 a0_7 l0_8 l0_9 = some r) ∧ Aside0 (kq ≤ k1) ∧ Aside0 (Kd.R (Kd.int .i64) 3 w' w.heap.size (fun _ => True) v3 x3_2) ∧ Aside0 (w'.heap[gb353]? = some (.cells #[.int .i64 a0_0, .int .i64 a0_1, .int .i64 a0_2, .int .i64 a0_3, .int .i64 a0_4, (.slice A0_5 l0_5.length c0_5), (.slice A0_6 l0_6.length c0_6), .int .i64 a0_7, (.slice A0_8 l0_8.length c0_8), (.slice A0_9 l0_9.length c0_9)] 30 (0, 0))) ∧ Aside0 (Below w.heap.size w w'))
       case atStart => exact ⟨(y368), (0), (by first | rfl | (simp; done) | (simp [*]; done)), H', ⟨Nat.le_refl _⟩, ⟨by (with_reducible repeat (first | apply rA | apply rN | apply rZ)); exact HO370.out⟩, ⟨by (with_reducible repeat (first | refine kN ?_ _ | refine kZ ?_ | refine kA ?_ _)); exact BK353.out⟩, ⟨by repeat (first | (with_reducible first | exact HB.out | apply bA | apply bN | apply bD | refine bS ?_ GE353.out) | exact HB.out)⟩⟩
       case round =>
        clear H'
        try clear c1
        try clear c2
        try clear c2b0
        try clear c2b1
        try clear p2
        try clear c3
        try clear p3
        try clear q3
        try clear hx3
        try clear p6
        try clear c10
        try clear c10b0
        try clear c11
        try clear c11b0
        try clear c12
        try clear c19
        try clear hcz13_0 hcz13_1 hcz13_2 hcz13_3 hcz13_4 hcz13_5 hcz13_6 hcz13_7 hcz13_8 hcz13_9
        try clear hcz20_0 hcz20_1 hcz20_2 hcz20_3 hcz20_4 hcz20_5 hcz20_6 hcz20_7 hcz20_8 hcz20_9
        try clear hcz5_0 hcz5_1 hcz5_2 hcz5_3 hcz5_4 hcz5_5 hcz5_6 hcz5_7 hcz5_8 hcz5_9
        try clear hcz8_0 hcz8_1 hcz8_2 hcz8_3 hcz8_4 hcz8_5 hcz8_6 hcz8_7 hcz8_8 hcz8_9
        try clear hfz13
        try clear hfz20
        try clear hfz5
        try clear hfz8
        try clear hx360_0
        try clear hx360_1
        try clear hx361_0
        try clear hx361_1
        try clear p2
        try clear p360
        try clear p361
        try clear q360
        try clear q361
        obtain ⟨x3_2, x5_2, rfl, HA, HK2, HO_3, BK353, HB⟩ := hrel
        cases gk with
        | zero => exact absurd HA.out (by simp [palimpsestref16_Bytes.l1])
        | succ k2 =>
         have H := HA.out
         clear HA
         simp only [palimpsestref16_Bytes.l1] at H
         by_cases c22 : x5_2 < (l0_9.length : Int)
         ·rw [if_pos c22] at H
          have c22b0 : decide (x5_2 < (l0_9.length : Int)) = true := decide_eq_true c22
          clear c22
          by_cases c23 : 0 ≤ x5_2
          ·rw [if_pos c23] at H
           have c23b0 : decide (0 ≤ x5_2) = true := decide_eq_true c23
           clear c23
           obtain ⟨y375, hy375⟩ : ∃ y_ : List Int, y_ = (([(rd_T56 l0_9 x5_2).f0, (rd_T56 l0_9 x5_2).f1, (rd_T56 l0_9 x5_2).f2, (rd_T56 l0_9 x5_2).f3] : List Int)) := ⟨_, rfl⟩
           replace H : (if x3_2.length + y375.length < 17592186044416 then (palimpsestref16_Bytes.l1 k2 (x3_2 ++ y375) (wrap64 (x5_2 + 1)) a0_0 a0_1 a0_2 a0_3 a0_4 l0_5 l0_6 a0_7 l0_8 l0_9) else (none)) = some r := by first | (rw [hy375]; with_reducible exact H) | (have H2_ := (Option.bind_some _ _).symm.trans H; rw [hy375]; with_reducible exact H2_) | (have H2_ := (Option.bind_some _ _).symm.trans H; with_reducible exact H2_) | with_reducible exact H | (rw [hy375]; exact H) | exact H
           have Ny375 := Aside0.mk hy375
           clear hy375
           by_cases c24 : x3_2.length + y375.length < 17592186044416
           ·rw [if_pos c24] at H
            have LMc24 := Aside0.mk c24
            clear c24
            obtain ⟨y378, hy378⟩ : ∃ y_ : List Int, y_ = (x3_2 ++ y375) := ⟨_, rfl⟩
            replace H : (palimpsestref16_Bytes.l1 k2 y378 (wrap64 (x5_2 + 1)) a0_0 a0_1 a0_2 a0_3 a0_4 l0_5 l0_6 a0_7 l0_8 l0_9) = some r := by first | (rw [hy378]; with_reducible exact H) | (have H2_ := (Option.bind_some _ _).symm.trans H; rw [hy378]; with_reducible exact H2_) | (have H2_ := (Option.bind_some _ _).symm.trans H; with_reducible exact H2_) | with_reducible exact H | (rw [hy378]; exact H) | exact H
            have Ny378 := Aside0.mk hy378
            clear hy378
            have H' := Aside0.mk H
            clear H
            obtain ⟨hcz25_0, hcz25_1, hcz25_2, hcz25_3, hcz25_4, hcz25_5, hcz25_6, hcz25_7, hcz25_8, hcz25_9⟩ := ten_cells BK353.out
            have hfz25 := ten_free BK353.out
            try go_wp2
            have n0_ := Aside0.mk (rZ HO_3.out)
            have n1_ := Aside0.mk (kZ BK353.out)
            have n2_ := Aside0.mk (bD HB.out)
            clear HO_3
            clear BK353
            clear HB
            have HO_3 := n0_
            have BK353 := n1_
            have HB := n2_
            clear n0_ n1_ n2_
            have p371 : 0 ≤ (x5_2 : Int) := of_decide_eq_true (by first | (with_reducible assumption) | assumption)
            have q371 : x5_2 < (l0_9.length : Int) := of_decide_eq_true (by first | (with_reducible assumption) | assumption)
            obtain ⟨ad371, e371, hx371_0, hx371_1, hx371_2, hx371_3⟩ := at_T56 HR0_9.out x5_2 p371 q371
            have hw371_3 := hx371_3
            have hw371_2 := hx371_2
            have hw371_1 := hx371_1
            have hw371_0 := hx371_0
            cases e371
            replace hx371_0 := (HB.out.cell (World.block_lt_of_cell? w _ hx371_0)).trans hx371_0
            replace hx371_1 := (HB.out.cell (World.block_lt_of_cell? w _ hx371_1)).trans hx371_1
            replace hx371_2 := (HB.out.cell (World.block_lt_of_cell? w _ hx371_2)).trans hx371_2
            replace hx371_3 := (HB.out.cell (World.block_lt_of_cell? w _ hx371_3)).trans hx371_3
            replace p371 := eq_true p371
            replace q371 := eq_true q371
            have p372 : 0 ≤ (x5_2 : Int) := of_decide_eq_true (by first | (with_reducible assumption) | assumption)
            have q372 : x5_2 < (l0_9.length : Int) := of_decide_eq_true (by first | (with_reducible assumption) | assumption)
            obtain ⟨ad372, e372, hx372_0, hx372_1, hx372_2, hx372_3⟩ := at_T56 HR0_9.out x5_2 p372 q372
            have hw372_3 := hx372_3
            have hw372_2 := hx372_2
            have hw372_1 := hx372_1
            have hw372_0 := hx372_0
            obtain rfl : ad371 = ad372 := (by injection e372)
            replace hx372_0 := (HB.out.cell (World.block_lt_of_cell? w _ hx372_0)).trans hx372_0
            replace hx372_1 := (HB.out.cell (World.block_lt_of_cell? w _ hx372_1)).trans hx372_1
            replace hx372_2 := (HB.out.cell (World.block_lt_of_cell? w _ hx372_2)).trans hx372_2
            replace hx372_3 := (HB.out.cell (World.block_lt_of_cell? w _ hx372_3)).trans hx372_3
            replace p372 := eq_true p372
            replace q372 := eq_true q372
            have p373 : 0 ≤ (x5_2 : Int) := of_decide_eq_true (by first | (with_reducible assumption) | assumption)
            have q373 : x5_2 < (l0_9.length : Int) := of_decide_eq_true (by first | (with_reducible assumption) | assumption)
            obtain ⟨ad373, e373, hx373_0, hx373_1, hx373_2, hx373_3⟩ := at_T56 HR0_9.out x5_2 p373 q373
            have hw373_3 := hx373_3
            have hw373_2 := hx373_2
            have hw373_1 := hx373_1
            have hw373_0 := hx373_0
            obtain rfl : ad371 = ad373 := (by injection e373)
            replace hx373_0 := (HB.out.cell (World.block_lt_of_cell? w _ hx373_0)).trans hx373_0
            replace hx373_1 := (HB.out.cell (World.block_lt_of_cell? w _ hx373_1)).trans hx373_1
            replace hx373_2 := (HB.out.cell (World.block_lt_of_cell? w _ hx373_2)).trans hx373_2
            replace hx373_3 := (HB.out.cell (World.block_lt_of_cell? w _ hx373_3)).trans hx373_3
            replace p373 := eq_true p373
            replace q373 := eq_true q373
            have p374 : 0 ≤ (x5_2 : Int) := of_decide_eq_true (by first | (with_reducible assumption) | assumption)
            have q374 : x5_2 < (l0_9.length : Int) := of_decide_eq_true (by first | (with_reducible assumption) | assumption)
            obtain ⟨ad374, e374, hx374_0, hx374_1, hx374_2, hx374_3⟩ := at_T56 HR0_9.out x5_2 p374 q374
            have hw374_3 := hx374_3
            have hw374_2 := hx374_2
            have hw374_1 := hx374_1
            have hw374_0 := hx374_0
            obtain rfl : ad371 = ad374 := (by injection e374)
            replace hx374_0 := (HB.out.cell (World.block_lt_of_cell? w _ hx374_0)).trans hx374_0
            replace hx374_1 := (HB.out.cell (World.block_lt_of_cell? w _ hx374_1)).trans hx374_1
            replace hx374_2 := (HB.out.cell (World.block_lt_of_cell? w _ hx374_2)).trans hx374_2
            replace hx374_3 := (HB.out.cell (World.block_lt_of_cell? w _ hx374_3)).trans hx374_3
            replace p374 := eq_true p374
            replace q374 := eq_true q374
            refine start_ (n := 28) (S := fun w' => w'.cell? ⟨gb353, 0, none⟩ = some (.int .i64 a0_0) ∧ w'.cell? ⟨gb353, 1, none⟩ = some (.int .i64 a0_1) ∧ w'.cell? ⟨gb353, 2, none⟩ = some (.int .i64 a0_2) ∧ w'.cell? ⟨gb353, 3, none⟩ = some (.int .i64 a0_3) ∧ w'.cell? ⟨gb353, 4, none⟩ = some (.int .i64 a0_4) ∧ w'.cell? ⟨gb353, 5, none⟩ = some (.slice A0_5 l0_5.length c0_5) ∧ w'.cell? ⟨gb353, 6, none⟩ = some (.slice A0_6 l0_6.length c0_6) ∧ w'.cell? ⟨gb353, 7, none⟩ = some (.int .i64 a0_7) ∧ w'.cell? ⟨gb353, 8, none⟩ = some (.slice A0_8 l0_8.length c0_8) ∧ w'.cell? ⟨gb353, 9, none⟩ = some (.slice (some ad371) l0_9.length c0_9) ∧ w'.cell? (ad371.add ((x5_2).toNat * 4)) = some (.int .i64 ((rd_T56 l0_9 x5_2).f0)) ∧ w'.cell? ⟨(ad371.add ((x5_2).toNat * 4)).block, (ad371.add ((x5_2).toNat * 4)).off + 1, none⟩ = some (.int .i64 ((rd_T56 l0_9 x5_2).f1)) ∧ w'.cell? ⟨(ad371.add ((x5_2).toNat * 4)).block, (ad371.add ((x5_2).toNat * 4)).off + 2, none⟩ = some (.int .i64 ((rd_T56 l0_9 x5_2).f2)) ∧ w'.cell? ⟨(ad371.add ((x5_2).toNat * 4)).block, (ad371.add ((x5_2).toNat * 4)).off + 3, none⟩ = some (.int .i64 ((rd_T56 l0_9 x5_2).f3)) ∧ w'.cell? (ad371.add ((x5_2).toNat * 4)) = some (.int .i64 ((rd_T56 l0_9 x5_2).f0)) ∧ w'.cell? ⟨(ad371.add ((x5_2).toNat * 4)).block, (ad371.add ((x5_2).toNat * 4)).off + 1, none⟩ = some (.int .i64 ((rd_T56 l0_9 x5_2).f1)) ∧ w'.cell? ⟨(ad371.add ((x5_2).toNat * 4)).block, (ad371.add ((x5_2).toNat * 4)).off + 2, none⟩ = some (.int .i64 ((rd_T56 l0_9 x5_2).f2)) ∧ w'.cell? ⟨(ad371.add ((x5_2).toNat * 4)).block, (ad371.add ((x5_2).toNat * 4)).off + 3, none⟩ = some (.int .i64 ((rd_T56 l0_9 x5_2).f3)) ∧ w'.cell? (ad371.add ((x5_2).toNat * 4)) = some (.int .i64 ((rd_T56 l0_9 x5_2).f0)) ∧ w'.cell? ⟨(ad371.add ((x5_2).toNat * 4)).block, (ad371.add ((x5_2).toNat * 4)).off + 1, none⟩ = some (.int .i64 ((rd_T56 l0_9 x5_2).f1)) ∧ w'.cell? ⟨(ad371.add ((x5_2).toNat * 4)).block, (ad371.add ((x5_2).toNat * 4)).off + 2, none⟩ = some (.int .i64 ((rd_T56 l0_9 x5_2).f2)) ∧ w'.cell? ⟨(ad371.add ((x5_2).toNat * 4)).block, (ad371.add ((x5_2).toNat * 4)).off + 3, none⟩ = some (.int .i64 ((rd_T56 l0_9 x5_2).f3)) ∧ w'.cell? (ad371.add ((x5_2).toNat * 4)) = some (.int .i64 ((rd_T56 l0_9 x5_2).f0)) ∧ w'.cell? ⟨(ad371.add ((x5_2).toNat * 4)).block, (ad371.add ((x5_2).toNat * 4)).off + 1, none⟩ = some (.int .i64 ((rd_T56 l0_9 x5_2).f1)) ∧ w'.cell? ⟨(ad371.add ((x5_2).toNat * 4)).block, (ad371.add ((x5_2).toNat * 4)).off + 2, none⟩ = some (.int .i64 ((rd_T56 l0_9 x5_2).f2)) ∧ w'.cell? ⟨(ad371.add ((x5_2).toNat * 4)).block, (ad371.add ((x5_2).toNat * 4)).off + 3, none⟩ = some (.int .i64 ((rd_T56 l0_9 x5_2).f3))) (ds := []) #[false, false, false, false, false, false, false, false, false, false, false, false, false, false, false, false, false, false, false, false, false, false, false, false, false, false, false, false] (by kernel_rfl) rfl rfl ⟨(blk_cell BK353.out 0).trans rfl, (blk_cell BK353.out 1).trans rfl, (blk_cell BK353.out 2).trans rfl, (blk_cell BK353.out 3).trans rfl, (blk_cell BK353.out 4).trans rfl, (blk_cell BK353.out 5).trans rfl, (blk_cell BK353.out 6).trans rfl, (blk_cell BK353.out 7).trans rfl, (blk_cell BK353.out 8).trans rfl, (blk_cell BK353.out 9).trans rfl, ((HB.out.cell (World.block_lt_of_cell? w _ hw371_0)).trans hw371_0), ((HB.out.cell (World.block_lt_of_cell? w _ hw371_1)).trans hw371_1), ((HB.out.cell (World.block_lt_of_cell? w _ hw371_2)).trans hw371_2), ((HB.out.cell (World.block_lt_of_cell? w _ hw371_3)).trans hw371_3), ((HB.out.cell (World.block_lt_of_cell? w _ hw372_0)).trans hw372_0), ((HB.out.cell (World.block_lt_of_cell? w _ hw372_1)).trans hw372_1), ((HB.out.cell (World.block_lt_of_cell? w _ hw372_2)).trans hw372_2), ((HB.out.cell (World.block_lt_of_cell? w _ hw372_3)).trans hw372_3), ((HB.out.cell (World.block_lt_of_cell? w _ hw373_0)).trans hw373_0), ((HB.out.cell (World.block_lt_of_cell? w _ hw373_1)).trans hw373_1), ((HB.out.cell (World.block_lt_of_cell? w _ hw373_2)).trans hw373_2), ((HB.out.cell (World.block_lt_of_cell? w _ hw373_3)).trans hw373_3), ((HB.out.cell (World.block_lt_of_cell? w _ hw374_0)).trans hw374_0), ((HB.out.cell (World.block_lt_of_cell? w _ hw374_1)).trans hw374_1), ((HB.out.cell (World.block_lt_of_cell? w _ hw374_2)).trans hw374_2), ((HB.out.cell (World.block_lt_of_cell? w _ hw374_3)).trans hw374_3)⟩ (fun hHeld => ?_); refine with_tabW palimpsestref16_Bytes.tab12 palimpsestref16_Bytes.bits12 (fun HT_ HW_ => ?_)
            generalize wr.drew = w26 at HO_3 BK353 HB hx371_0 hx371_1 hx371_2 hx371_3 hx372_0 hx372_1 hx372_2 hx372_3 hx373_0 hx373_1 hx373_2 hx373_3 hx374_0 hx374_1 hx374_2 hx374_3 hHeld ⊢
            refine pure_ (i := 0) (N := some 54) (v := ?_) (a' := ?_) #[true, false, false, false, false, false, false, false, false, false, false, false, false, false, false, false, false, false, false, false, false, false, false, false, false, false, false, false] rfl rfl (any_of HT_.out (by kernel_rfl)) (fun _ _ _ h => h) (Or.inl ⟨by rfl, ?_⟩) ?_ ?_
            rotate_left
            ·intro w'
             go_simp
             with_reducible rfl
            rotate_left
            ·simp only [Act.put, List.setIfInBounds_toArray, List.set_cons_zero, List.set_cons_succ, i64_w, i32_w]
             rfl
            refine pure_ (i := 1) (N := some 55) (v := ?_) (a' := ?_) #[true, true, false, false, false, false, false, false, false, false, false, false, false, false, false, false, false, false, false, false, false, false, false, false, false, false, false, false] rfl rfl (any_of HT_.out (by kernel_rfl)) (fun _ _ _ h => h) (Or.inl ⟨by rfl, ?_⟩) ?_ ?_
            rotate_left
            ·intro w'
             go_simp
             with_reducible rfl
            rotate_left
            ·simp only [Act.put, List.setIfInBounds_toArray, List.set_cons_zero, List.set_cons_succ, i64_w, i32_w]
             rfl
            refine pure_ (i := 3) (N := some 57) (v := ?_) (a' := ?_) #[true, true, false, true, false, false, false, false, false, false, false, false, false, false, false, false, false, false, false, false, false, false, false, false, false, false, false, false] rfl rfl (any_of HT_.out (by kernel_rfl)) (fun _ _ _ h => h) (Or.inl ⟨by rfl, ?_⟩) ?_ ?_
            rotate_left
            ·intro w'
             go_simp
             with_reducible rfl
            rotate_left
            ·simp only [Act.put, List.setIfInBounds_toArray, List.set_cons_zero, List.set_cons_succ, i64_w, i32_w]
             rfl
            refine pure_ (i := 7) (N := some 61) (v := ?_) (a' := ?_) #[true, true, false, true, false, false, false, true, false, false, false, false, false, false, false, false, false, false, false, false, false, false, false, false, false, false, false, false] rfl rfl (any_of HT_.out (by kernel_rfl)) (fun _ _ _ h => h) (Or.inl ⟨by rfl, ?_⟩) ?_ ?_
            rotate_left
            ·intro w'
             go_simp
             with_reducible rfl
            rotate_left
            ·simp only [Act.put, List.setIfInBounds_toArray, List.set_cons_zero, List.set_cons_succ, i64_w, i32_w]
             rfl
            refine pure_ (i := 9) (N := some 63) (v := ?_) (a' := ?_) #[true, true, false, true, false, false, false, true, false, true, false, false, false, false, false, false, false, false, false, false, false, false, false, false, false, false, false, false] rfl rfl (any_of HT_.out (by kernel_rfl)) (fun _ _ _ h => h) (Or.inl ⟨by rfl, ?_⟩) ?_ ?_
            rotate_left
            ·intro w'
             go_simp
             with_reducible rfl
            rotate_left
            ·simp only [Act.put, List.setIfInBounds_toArray, List.set_cons_zero, List.set_cons_succ, i64_w, i32_w]
             rfl
            refine pure_ (i := 13) (N := some 67) (v := ?_) (a' := ?_) #[true, true, false, true, false, false, false, true, false, true, false, false, false, true, false, false, false, false, false, false, false, false, false, false, false, false, false, false] rfl rfl (any_of HT_.out (by kernel_rfl)) (fun _ _ _ h => h) (Or.inl ⟨by rfl, ?_⟩) ?_ ?_
            rotate_left
            ·intro w'
             go_simp
             with_reducible rfl
            rotate_left
            ·simp only [Act.put, List.setIfInBounds_toArray, List.set_cons_zero, List.set_cons_succ, i64_w, i32_w]
             rfl
            refine pure_ (i := 15) (N := some 69) (v := ?_) (a' := ?_) #[true, true, false, true, false, false, false, true, false, true, false, false, false, true, false, true, false, false, false, false, false, false, false, false, false, false, false, false] rfl rfl (any_of HT_.out (by kernel_rfl)) (fun _ _ _ h => h) (Or.inl ⟨by rfl, ?_⟩) ?_ ?_
            rotate_left
            ·intro w'
             go_simp
             with_reducible rfl
            rotate_left
            ·simp only [Act.put, List.setIfInBounds_toArray, List.set_cons_zero, List.set_cons_succ, i64_w, i32_w]
             rfl
            refine pure_ (i := 19) (N := some 73) (v := ?_) (a' := ?_) #[true, true, false, true, false, false, false, true, false, true, false, false, false, true, false, true, false, false, false, true, false, false, false, false, false, false, false, false] rfl rfl (any_of HT_.out (by kernel_rfl)) (fun _ _ _ h => h) (Or.inl ⟨by rfl, ?_⟩) ?_ ?_
            rotate_left
            ·intro w'
             go_simp
             with_reducible rfl
            rotate_left
            ·simp only [Act.put, List.setIfInBounds_toArray, List.set_cons_zero, List.set_cons_succ, i64_w, i32_w]
             rfl
            refine pure_ (i := 21) (N := some 75) (v := ?_) (a' := ?_) #[true, true, false, true, false, false, false, true, false, true, false, false, false, true, false, true, false, false, false, true, false, true, false, false, false, false, false, false] rfl rfl (any_of HT_.out (by kernel_rfl)) (fun _ _ _ h => h) (Or.inl ⟨by rfl, ?_⟩) ?_ ?_
            rotate_left
            ·intro w'
             go_simp
             with_reducible rfl
            rotate_left
            ·simp only [Act.put, List.setIfInBounds_toArray, List.set_cons_zero, List.set_cons_succ, i64_w, i32_w]
             rfl
            refine take_ (i := 2) (N := some 56) (v := ?_) (a' := ?_) #[true, true, true, true, false, false, false, true, false, true, false, false, false, true, false, true, false, false, false, true, false, true, false, false, false, false, false, false] rfl rfl (take_ofW HT_.out HW_.out (by kernel_rfl)) (fun _ _ _ h => h) (Or.inl ⟨by rfl, ?_⟩) hHeld ?_ ?_
            rotate_left
            ·rintro w' ⟨s0, s1, s2, s3, s4, s5, s6, s7, s8, s9, s10, s11, s12, s13, s14, s15, s16, s17, s18, s19, s20, s21, s22, s23, s24, s25⟩
             go_simp
             with_reducible rfl
            rotate_left
            ·simp only [Act.put, List.setIfInBounds_toArray, List.set_cons_zero, List.set_cons_succ, i64_w, i32_w]
             rfl
            refine pure_ (i := 4) (N := some 58) (v := ?_) (a' := ?_) #[true, true, true, true, true, false, false, true, false, true, false, false, false, true, false, true, false, false, false, true, false, true, false, false, false, false, false, false] rfl rfl (any_of HT_.out (by kernel_rfl)) (fun _ _ _ h => h) (Or.inl ⟨by rfl, ?_⟩) ?_ ?_
            rotate_left
            ·intro w'
             go_simp
             with_reducible rfl
            rotate_left
            ·simp only [Act.put, List.setIfInBounds_toArray, List.set_cons_zero, List.set_cons_succ, i64_w, i32_w]
             rfl
            refine pure_ (i := 5) (N := some 59) (v := ?_) (a' := ?_) #[true, true, true, true, true, true, false, true, false, true, false, false, false, true, false, true, false, false, false, true, false, true, false, false, false, false, false, false] rfl rfl (any_of HT_.out (by kernel_rfl)) (fun _ _ _ h => h) (Or.inl ⟨by rfl, ?_⟩) ?_ ?_
            rotate_left
            ·intro w'
             go_simp
             with_reducible rfl
            rotate_left
            ·simp only [Act.put, List.setIfInBounds_toArray, List.set_cons_zero, List.set_cons_succ, i64_w, i32_w]
             rfl
            refine take_ (i := 6) (N := some 60) (v := ?_) (a' := ?_) #[true, true, true, true, true, true, true, true, false, true, false, false, false, true, false, true, false, false, false, true, false, true, false, false, false, false, false, false] rfl rfl (take_ofW HT_.out HW_.out (by kernel_rfl)) (fun _ _ _ h => h) (Or.inl ⟨by rfl, ?_⟩) hHeld ?_ ?_
            rotate_left
            ·rintro w' ⟨s0, s1, s2, s3, s4, s5, s6, s7, s8, s9, s10, s11, s12, s13, s14, s15, s16, s17, s18, s19, s20, s21, s22, s23, s24, s25⟩
             go_simp
             with_reducible rfl
            rotate_left
            ·simp only [Act.put, List.setIfInBounds_toArray, List.set_cons_zero, List.set_cons_succ, i64_w, i32_w]
             rfl
            refine take_ (i := 8) (N := some 62) (v := ?_) (a' := ?_) #[true, true, true, true, true, true, true, true, true, true, false, false, false, true, false, true, false, false, false, true, false, true, false, false, false, false, false, false] rfl rfl (take_ofW HT_.out HW_.out (by kernel_rfl)) (fun _ _ _ h => h) (Or.inl ⟨by rfl, ?_⟩) hHeld ?_ ?_
            rotate_left
            ·rintro w' ⟨s0, s1, s2, s3, s4, s5, s6, s7, s8, s9, s10, s11, s12, s13, s14, s15, s16, s17, s18, s19, s20, s21, s22, s23, s24, s25⟩
             go_simp
             with_reducible rfl
            rotate_left
            ·simp only [Act.put, List.setIfInBounds_toArray, List.set_cons_zero, List.set_cons_succ, i64_w, i32_w]
             rfl
            refine pure_ (i := 10) (N := some 64) (v := ?_) (a' := ?_) #[true, true, true, true, true, true, true, true, true, true, true, false, false, true, false, true, false, false, false, true, false, true, false, false, false, false, false, false] rfl rfl (any_of HT_.out (by kernel_rfl)) (fun _ _ _ h => h) (Or.inl ⟨by rfl, ?_⟩) ?_ ?_
            rotate_left
            ·intro w'
             go_simp
             with_reducible rfl
            rotate_left
            ·simp only [Act.put, List.setIfInBounds_toArray, List.set_cons_zero, List.set_cons_succ, i64_w, i32_w]
             rfl
            refine pure_ (i := 11) (N := some 65) (v := ?_) (a' := ?_) #[true, true, true, true, true, true, true, true, true, true, true, true, false, true, false, true, false, false, false, true, false, true, false, false, false, false, false, false] rfl rfl (any_of HT_.out (by kernel_rfl)) (fun _ _ _ h => h) (Or.inl ⟨by rfl, ?_⟩) ?_ ?_
            rotate_left
            ·intro w'
             go_simp
             with_reducible rfl
            rotate_left
            ·simp only [Act.put, List.setIfInBounds_toArray, List.set_cons_zero, List.set_cons_succ, i64_w, i32_w]
             rfl
            refine take_ (i := 12) (N := some 66) (v := ?_) (a' := ?_) #[true, true, true, true, true, true, true, true, true, true, true, true, true, true, false, true, false, false, false, true, false, true, false, false, false, false, false, false] rfl rfl (take_ofW HT_.out HW_.out (by kernel_rfl)) (fun _ _ _ h => h) (Or.inl ⟨by rfl, ?_⟩) hHeld ?_ ?_
            rotate_left
            ·rintro w' ⟨s0, s1, s2, s3, s4, s5, s6, s7, s8, s9, s10, s11, s12, s13, s14, s15, s16, s17, s18, s19, s20, s21, s22, s23, s24, s25⟩
             go_simp
             with_reducible rfl
            rotate_left
            ·simp only [Act.put, List.setIfInBounds_toArray, List.set_cons_zero, List.set_cons_succ, i64_w, i32_w]
             rfl
            refine take_ (i := 14) (N := some 68) (v := ?_) (a' := ?_) #[true, true, true, true, true, true, true, true, true, true, true, true, true, true, true, true, false, false, false, true, false, true, false, false, false, false, false, false] rfl rfl (take_ofW HT_.out HW_.out (by kernel_rfl)) (fun _ _ _ h => h) (Or.inl ⟨by rfl, ?_⟩) hHeld ?_ ?_
            rotate_left
            ·rintro w' ⟨s0, s1, s2, s3, s4, s5, s6, s7, s8, s9, s10, s11, s12, s13, s14, s15, s16, s17, s18, s19, s20, s21, s22, s23, s24, s25⟩
             go_simp
             with_reducible rfl
            rotate_left
            ·simp only [Act.put, List.setIfInBounds_toArray, List.set_cons_zero, List.set_cons_succ, i64_w, i32_w]
             rfl
            refine pure_ (i := 16) (N := some 70) (v := ?_) (a' := ?_) #[true, true, true, true, true, true, true, true, true, true, true, true, true, true, true, true, true, false, false, true, false, true, false, false, false, false, false, false] rfl rfl (any_of HT_.out (by kernel_rfl)) (fun _ _ _ h => h) (Or.inl ⟨by rfl, ?_⟩) ?_ ?_
            rotate_left
            ·intro w'
             go_simp
             with_reducible rfl
            rotate_left
            ·simp only [Act.put, List.setIfInBounds_toArray, List.set_cons_zero, List.set_cons_succ, i64_w, i32_w]
             rfl
            refine pure_ (i := 17) (N := some 71) (v := ?_) (a' := ?_) #[true, true, true, true, true, true, true, true, true, true, true, true, true, true, true, true, true, true, false, true, false, true, false, false, false, false, false, false] rfl rfl (any_of HT_.out (by kernel_rfl)) (fun _ _ _ h => h) (Or.inl ⟨by rfl, ?_⟩) ?_ ?_
            rotate_left
            ·intro w'
             go_simp
             with_reducible rfl
            rotate_left
            ·simp only [Act.put, List.setIfInBounds_toArray, List.set_cons_zero, List.set_cons_succ, i64_w, i32_w]
             rfl
            refine take_ (i := 18) (N := some 72) (v := ?_) (a' := ?_) #[true, true, true, true, true, true, true, true, true, true, true, true, true, true, true, true, true, true, true, true, false, true, false, false, false, false, false, false] rfl rfl (take_ofW HT_.out HW_.out (by kernel_rfl)) (fun _ _ _ h => h) (Or.inl ⟨by rfl, ?_⟩) hHeld ?_ ?_
            rotate_left
            ·rintro w' ⟨s0, s1, s2, s3, s4, s5, s6, s7, s8, s9, s10, s11, s12, s13, s14, s15, s16, s17, s18, s19, s20, s21, s22, s23, s24, s25⟩
             go_simp
             with_reducible rfl
            rotate_left
            ·simp only [Act.put, List.setIfInBounds_toArray, List.set_cons_zero, List.set_cons_succ, i64_w, i32_w]
             rfl
            refine take_ (i := 20) (N := some 74) (v := ?_) (a' := ?_) #[true, true, true, true, true, true, true, true, true, true, true, true, true, true, true, true, true, true, true, true, true, true, false, false, false, false, false, false] rfl rfl (take_ofW HT_.out HW_.out (by kernel_rfl)) (fun _ _ _ h => h) (Or.inl ⟨by rfl, ?_⟩) hHeld ?_ ?_
            rotate_left
            ·rintro w' ⟨s0, s1, s2, s3, s4, s5, s6, s7, s8, s9, s10, s11, s12, s13, s14, s15, s16, s17, s18, s19, s20, s21, s22, s23, s24, s25⟩
             go_simp
             with_reducible rfl
            rotate_left
            ·simp only [Act.put, List.setIfInBounds_toArray, List.set_cons_zero, List.set_cons_succ, i64_w, i32_w]
             rfl
            refine pure_ (i := 22) (N := some 76) (v := ?_) (a' := ?_) #[true, true, true, true, true, true, true, true, true, true, true, true, true, true, true, true, true, true, true, true, true, true, true, false, false, false, false, false] rfl rfl (any_of HT_.out (by kernel_rfl)) (fun _ _ _ h => h) (Or.inl ⟨by rfl, ?_⟩) ?_ ?_
            rotate_left
            ·intro w'
             go_simp
             with_reducible rfl
            rotate_left
            ·simp only [Act.put, List.setIfInBounds_toArray, List.set_cons_zero, List.set_cons_succ, i64_w, i32_w]
             rfl
            refine pure_ (i := 23) (N := some 77) (v := ?_) (a' := ?_) #[true, true, true, true, true, true, true, true, true, true, true, true, true, true, true, true, true, true, true, true, true, true, true, true, false, false, false, false] rfl rfl (any_of HT_.out (by kernel_rfl)) (fun _ _ _ h => h) (Or.inl ⟨by rfl, ?_⟩) ?_ ?_
            rotate_left
            ·intro w'
             go_simp
             with_reducible rfl
            rotate_left
            ·simp only [Act.put, List.setIfInBounds_toArray, List.set_cons_zero, List.set_cons_succ, i64_w, i32_w]
             rfl
            refine take_ (i := 24) (N := some 78) (v := ?_) (a' := ?_) #[true, true, true, true, true, true, true, true, true, true, true, true, true, true, true, true, true, true, true, true, true, true, true, true, true, false, false, false] rfl rfl (take_ofW HT_.out HW_.out (by kernel_rfl)) (fun _ _ _ h => h) (Or.inl ⟨by rfl, ?_⟩) hHeld ?_ ?_
            rotate_left
            ·rintro w' ⟨s0, s1, s2, s3, s4, s5, s6, s7, s8, s9, s10, s11, s12, s13, s14, s15, s16, s17, s18, s19, s20, s21, s22, s23, s24, s25⟩
             go_simp
             with_reducible rfl
            rotate_left
            ·simp only [Act.put, List.setIfInBounds_toArray, List.set_cons_zero, List.set_cons_succ, i64_w, i32_w]
             rfl
            refine one_ (i := 25) (N := some 79) #[true, true, true, true, true, true, true, true, true, true, true, true, true, true, true, true, true, true, true, true, true, true, true, true, true, true, false, false] rfl rfl (one_of HT_.out (by kernel_rfl)) (by decide) (fun K hK => ?_)
            refine Kd.R_lit_step (Kd.int .i64) _ 3 ?hg (N := 79) ?hd (xs := ([(rd_T56 l0_9 x5_2).f0, (rd_T56 l0_9 x5_2).f1, (rd_T56 l0_9 x5_2).f2, (rd_T56 l0_9 x5_2).f3] : List Int)) (inner := [.int .i64 ((rd_T56 l0_9 x5_2).f0), .int .i64 ((rd_T56 l0_9 x5_2).f1), .int .i64 ((rd_T56 l0_9 x5_2).f2), .int .i64 ((rd_T56 l0_9 x5_2).f3)]) (ok := fun _ => True) (okp := fun _ => True) ?hr ?hp (fun _ hk => hk) trivial (Below.refl _ _) (Nat.le_refl _) (by simp) ?_; (case hd => rfl); (case hg => rfl); (case hr => first | (go_simp; done) | (go_simp; rfl)); (case hp => exact (Reps.one (show Kd.M (Kd.int .i64) _ _ _ ((rd_T56 l0_9 x5_2).f0) [.int .i64 ((rd_T56 l0_9 x5_2).f0)] from rfl) (Reps.one (show Kd.M (Kd.int .i64) _ _ _ ((rd_T56 l0_9 x5_2).f1) [.int .i64 ((rd_T56 l0_9 x5_2).f1)] from rfl) (Reps.one (show Kd.M (Kd.int .i64) _ _ _ ((rd_T56 l0_9 x5_2).f2) [.int .i64 ((rd_T56 l0_9 x5_2).f2)] from rfl) (Reps.one (show Kd.M (Kd.int .i64) _ _ _ ((rd_T56 l0_9 x5_2).f3) [.int .i64 ((rd_T56 l0_9 x5_2).f3)] from rfl) (Reps.none _ _))))))
            intro v376 w27 ho28 hb hg_ hnew_
            clear hg_ hnew_
            (first | rw [← Ny375.out] at ho28 | (simp only [Int.reduceToNat] at ho28; rw [← Ny375.out] at ho28))
            have n0_ := Aside0.mk (Kd.R_elder' (by (with_reducible repeat (first | apply rA | apply rN | apply rZ)); exact HO_3.out) (Kd.R_base ho28) hb)
            have n1_ := Aside0.mk (Kd.R_lower (Kd.R_new' ho28 (Kd.R_lt (by (with_reducible repeat (first | apply rA | apply rN | apply rZ)); exact HO_3.out))) (below_size (by repeat (first | (with_reducible first | exact HB.out | apply bA | apply bN | apply bD | refine bS ?_ GE353.out) | exact HB.out))))
            have n2_ := Aside0.mk (blk_below (g := gb353) (o := .cells #[.int .i64 a0_0, .int .i64 a0_1, .int .i64 a0_2, .int .i64 a0_3, .int .i64 a0_4, .slice A0_5 l0_5.length c0_5, .slice A0_6 l0_6.length c0_6, .int .i64 a0_7, .slice A0_8 l0_8.length c0_8, .slice (some ad371) l0_9.length c0_9] 30 (0, 0)) (by (with_reducible repeat (first | refine kN ?_ _ | refine kZ ?_ | refine kA ?_ _)); exact BK353.out) hb)
            have n3_ := Aside0.mk (below_step (by repeat (first | (with_reducible first | exact HB.out | apply bA | apply bN | apply bD | refine bS ?_ GE353.out) | exact HB.out)) hb)
            clear HO_3
            clear BK353
            clear HB
            have HO_3 := n0_
            have HO377 := n1_
            have BK353 := n2_
            have HB := n3_
            clear n0_ n1_ n2_ n3_
            clear hb ho28
            obtain ⟨Ao30, co30, eo30⟩ := Kd.R_slice HO377.out
            (first | subst eo30 | (injection eo30 with f1_ f2_ f3_; have f4_ := f1_.symm; have f5_ := f3_.symm; clear f1_ f2_ f3_; subst f4_; subst f5_))
            refine hK.out _ _ ⟨(blk_cell BK353.out 0).trans rfl, (blk_cell BK353.out 1).trans rfl, (blk_cell BK353.out 2).trans rfl, (blk_cell BK353.out 3).trans rfl, (blk_cell BK353.out 4).trans rfl, (blk_cell BK353.out 5).trans rfl, (blk_cell BK353.out 6).trans rfl, (blk_cell BK353.out 7).trans rfl, (blk_cell BK353.out 8).trans rfl, (blk_cell BK353.out 9).trans rfl, ((HB.out.cell (World.block_lt_of_cell? w _ hw371_0)).trans hw371_0), ((HB.out.cell (World.block_lt_of_cell? w _ hw371_1)).trans hw371_1), ((HB.out.cell (World.block_lt_of_cell? w _ hw371_2)).trans hw371_2), ((HB.out.cell (World.block_lt_of_cell? w _ hw371_3)).trans hw371_3), ((HB.out.cell (World.block_lt_of_cell? w _ hw372_0)).trans hw372_0), ((HB.out.cell (World.block_lt_of_cell? w _ hw372_1)).trans hw372_1), ((HB.out.cell (World.block_lt_of_cell? w _ hw372_2)).trans hw372_2), ((HB.out.cell (World.block_lt_of_cell? w _ hw372_3)).trans hw372_3), ((HB.out.cell (World.block_lt_of_cell? w _ hw373_0)).trans hw373_0), ((HB.out.cell (World.block_lt_of_cell? w _ hw373_1)).trans hw373_1), ((HB.out.cell (World.block_lt_of_cell? w _ hw373_2)).trans hw373_2), ((HB.out.cell (World.block_lt_of_cell? w _ hw373_3)).trans hw373_3), ((HB.out.cell (World.block_lt_of_cell? w _ hw374_0)).trans hw374_0), ((HB.out.cell (World.block_lt_of_cell? w _ hw374_1)).trans hw374_1), ((HB.out.cell (World.block_lt_of_cell? w _ hw374_2)).trans hw374_2), ((HB.out.cell (World.block_lt_of_cell? w _ hw374_3)).trans hw374_3)⟩ (fun hHeld => ?_)
            clear hK K
            refine norm_ (a' := ?_) ?_ ?_
            rotate_left
            ·show Act.put _ (some 79) _ = _
             simp only [Act.put, List.setIfInBounds_toArray, List.set_cons_zero, List.set_cons_succ, i64_w, i32_w]
             rfl
            refine one_ (i := 26) (N := some 80) #[true, true, true, true, true, true, true, true, true, true, true, true, true, true, true, true, true, true, true, true, true, true, true, true, true, true, true, false] rfl rfl (one_of HT_.out (by kernel_rfl)) (by decide) (fun K hK => ?_)
            refine Kd.R_append_rows_step (Kd.int .i64) (w0 := w) w.heap.size (by rfl) (.tmp 54) (.tmp 79) 25 3 (.int .i64 0) 8 rfl Try.underlying25 info3 rfl (by decide) (by omega) u3 x3_2 y375 _ _ _ (fun k_ => some k_ ≠ (.slice Ao30 y375.length co30 : Value).ownBlock) (fun _ => False) rfl rfl ?aO ?aR (fun _ _ h => h) (fun _ h => h.elim) ?aF ?aB ?aS ?aL ?_
            (case aR => repeat (first | exact (Kd.R_reads' HO377.out).2.2 | (with_reducible refine qA ?_ _) | (with_reducible refine qN ?_ _) | (with_reducible refine qZ ?_)))
            (case aB => exact (by repeat (first | (with_reducible first | exact HB.out | apply bA | apply bN | apply bD | refine bS ?_ GE353.out) | exact HB.out)))
            (case aF => exact (fun k_ hk => Kd.fresh' (Kd.R_lt (by (with_reducible repeat (first | apply rA | apply rN | apply rZ)); exact HO377.out)) k_ hk))
            (case aO => exact (by (with_reducible repeat (first | apply rA | apply rN | apply rZ)); exact Kd.R_mono HO_3.out (fun _ hk => hk.2)))
            (case aS => exact (below_size (by repeat (first | (with_reducible first | exact HB.out | apply bA | apply bN | apply bD | refine bS ?_ GE353.out) | exact HB.out))))
            (case aL => have := LMc24.out; omega)
            intro v379 w29 ho hb hg hat
            rw [← Ny378.out] at ho
            have n0_ := Aside0.mk (blk_grown (g := gb353) (o := .cells #[.int .i64 a0_0, .int .i64 a0_1, .int .i64 a0_2, .int .i64 a0_3, .int .i64 a0_4, .slice A0_5 l0_5.length c0_5, .slice A0_6 l0_6.length c0_6, .int .i64 a0_7, .slice A0_8 l0_8.length c0_8, .slice (some ad371) l0_9.length c0_9] 30 (0, 0)) (by (with_reducible repeat (first | refine kN ?_ _ | refine kZ ?_ | refine kA ?_ _)); exact BK353.out) hg (Kd.R_ne HO_3.out BK353.out (by decide)))
            have n1_ := Aside0.mk (Kd.R_after (ok := (fun _ => True)) (by (with_reducible repeat (first | apply rA | apply rN | apply rZ)); exact HO377.out) hg hat)
            have n2_ := Aside0.mk (hb)
            have n3_ := Aside0.mk (ho)
            clear BK353
            clear HO377
            clear HB
            clear HO_3
            have BK353 := n0_
            have HO377 := n1_
            have HB := n2_
            have HO380 := n3_
            clear n0_ n1_ n2_ n3_
            clear ho hb hg hat
            refine hK.out _ _ ⟨(blk_cell BK353.out 0).trans rfl, (blk_cell BK353.out 1).trans rfl, (blk_cell BK353.out 2).trans rfl, (blk_cell BK353.out 3).trans rfl, (blk_cell BK353.out 4).trans rfl, (blk_cell BK353.out 5).trans rfl, (blk_cell BK353.out 6).trans rfl, (blk_cell BK353.out 7).trans rfl, (blk_cell BK353.out 8).trans rfl, (blk_cell BK353.out 9).trans rfl, ((HB.out.cell (World.block_lt_of_cell? w _ hw371_0)).trans hw371_0), ((HB.out.cell (World.block_lt_of_cell? w _ hw371_1)).trans hw371_1), ((HB.out.cell (World.block_lt_of_cell? w _ hw371_2)).trans hw371_2), ((HB.out.cell (World.block_lt_of_cell? w _ hw371_3)).trans hw371_3), ((HB.out.cell (World.block_lt_of_cell? w _ hw372_0)).trans hw372_0), ((HB.out.cell (World.block_lt_of_cell? w _ hw372_1)).trans hw372_1), ((HB.out.cell (World.block_lt_of_cell? w _ hw372_2)).trans hw372_2), ((HB.out.cell (World.block_lt_of_cell? w _ hw372_3)).trans hw372_3), ((HB.out.cell (World.block_lt_of_cell? w _ hw373_0)).trans hw373_0), ((HB.out.cell (World.block_lt_of_cell? w _ hw373_1)).trans hw373_1), ((HB.out.cell (World.block_lt_of_cell? w _ hw373_2)).trans hw373_2), ((HB.out.cell (World.block_lt_of_cell? w _ hw373_3)).trans hw373_3), ((HB.out.cell (World.block_lt_of_cell? w _ hw374_0)).trans hw374_0), ((HB.out.cell (World.block_lt_of_cell? w _ hw374_1)).trans hw374_1), ((HB.out.cell (World.block_lt_of_cell? w _ hw374_2)).trans hw374_2), ((HB.out.cell (World.block_lt_of_cell? w _ hw374_3)).trans hw374_3)⟩ (fun hHeld => ?_)
            clear hK K
            refine norm_ (a' := ?_) ?_ ?_
            rotate_left
            ·show Act.put _ (some 80) _ = _
             simp only [Act.put, List.setIfInBounds_toArray, List.set_cons_zero, List.set_cons_succ, i64_w, i32_w]
             rfl
            refine pure_ (i := 27) (N := some 3) (v := ?_) (a' := ?_) #[true, true, true, true, true, true, true, true, true, true, true, true, true, true, true, true, true, true, true, true, true, true, true, true, true, true, true, true] rfl rfl (any_of HT_.out (by kernel_rfl)) (fun _ _ _ h => h) (Or.inl ⟨by rfl, ?_⟩) ?_ ?_
            rotate_left
            ·intro w'
             go_simp
             with_reducible rfl
            rotate_left
            ·simp only [Act.put, List.setIfInBounds_toArray, List.set_cons_zero, List.set_cons_succ, i64_w, i32_w]
             rfl
            refine done_ (done_of HT_.out (by kernel_rfl)) ?_
            try go_wp2
            go_roundg k2
            case measure => have := HK1.out; have := HK2.out; omega
            case rel => exact ⟨(y378), (wrap64 (x5_2 + 1)), (by first | rfl | (simp; done) | (simp [*]; done)), H', ⟨by have := HK1.out; have := HK2.out; omega⟩, ⟨by (with_reducible repeat (first | apply rA | apply rN | apply rZ)); exact Kd.R_mono HO380.out (fun _ hk => trivial)⟩, ⟨by (with_reducible repeat (first | refine kN ?_ _ | refine kZ ?_ | refine kA ?_ _)); exact BK353.out⟩, ⟨by repeat (first | (with_reducible first | exact HB.out | apply bA | apply bN | apply bD | refine bS ?_ GE353.out) | exact HB.out)⟩⟩
           ·rw [if_neg c24] at H
            exact absurd H (by simp)
          ·rw [if_neg c23] at H
           exact absurd H (by simp)
         ·rw [if_neg c22] at H
          have c22b0 : decide (x5_2 < (l0_9.length : Int)) = false := decide_eq_false c22
          clear c22
          replace H := Option.bind_eq_some_iff.mp H
          obtain ⟨t381, A310, H⟩ := H
          replace H : (some t381) = some r := H
          have A31 := Aside0.mk A310
          clear A310
          obtain rfl := Option.some.inj H
          obtain ⟨hcz32_0, hcz32_1, hcz32_2, hcz32_3, hcz32_4, hcz32_5, hcz32_6, hcz32_7, hcz32_8, hcz32_9⟩ := ten_cells BK353.out
          have hfz32 := ten_free BK353.out
          obtain ⟨Ao33, co33, eo33⟩ := Kd.R_slice HO_3.out
          subst eo33
          go_wp2_with (first | ((with_reducible refine gate_callee (f := 49) rfl ?_); refine goesL_ (some 82) rfl rfl Try.func49 (by kernel_rfl) rfl #[.slice none 0 0, .slice Ao33 x3_2.length co33] rfl (by (try simp only [List.map_toArray, List.map_cons, List.map_nil]); first | done | rfl | (simp only [List.length_drop, List.length_take]; rfl)) ?_; (refine (palimpsestref02_Put.calls k2 _ _ ([] : List Int) _ _ x3_2 t381 _ ?side1 ?side2 ?side3 ?side4 A31.out).mono ?_); (case side1 => exact Kd.C_nil _ _); (case side2 => exact Nat.le_refl _); (case side3 => repeat (first | exact (Kd.R_reads' HO_3.out).2.2 | (with_reducible refine qA ?_ _) | (with_reducible refine qN ?_ _) | (with_reducible refine qZ ?_))); (case side4 => exact (Kd.R_reads' HO_3.out).2.1); rintro e w34 ⟨v382, rfl, ho0, hb⟩; refine ⟨_, rfl, ?_⟩; have n0_ := Aside0.mk (Kd.R_below (by (with_reducible repeat (first | apply rA | apply rN | apply rZ)); exact HO_3.out) hb); have n1_ := Aside0.mk (Kd.R_lower ho0 (below_size (by repeat (first | (with_reducible first | exact HB.out | apply bA | apply bN | apply bD | refine bS ?_ GE353.out) | exact HB.out)))); have n2_ := Aside0.mk (blk_below (g := gb353) (o := .cells #[.int .i64 a0_0, .int .i64 a0_1, .int .i64 a0_2, .int .i64 a0_3, .int .i64 a0_4, .slice A0_5 l0_5.length c0_5, .slice A0_6 l0_6.length c0_6, .int .i64 a0_7, .slice A0_8 l0_8.length c0_8, .slice A0_9 l0_9.length c0_9] 30 (0, 0)) (by (with_reducible repeat (first | refine kN ?_ _ | refine kZ ?_ | refine kA ?_ _)); exact BK353.out) hb); have n3_ := Aside0.mk (below_step (by repeat (first | (with_reducible first | exact HB.out | apply bA | apply bN | apply bD | refine bS ?_ GE353.out) | exact HB.out)) hb); clear HO_3; clear BK353; clear HB; have HO_3 := n0_; have HO383 := n1_; have BK353 := n2_; have HB := n3_; clear n0_ n1_ n2_ n3_; (try clear hb); (try clear hb2); (try clear hk); (try clear hi); (try clear ho0)))
          go_ret
          exact ⟨_, by first | rfl | (simp [errW_none, errW_some] <;> rfl) | (simp [*, errW_none, errW_some] <;> rfl), by (with_reducible repeat (first | apply rA | apply rN | apply rZ)); exact HO383.out, by repeat (first | (with_reducible first | exact HB.out | apply bA | apply bN | apply bD | refine bS ?_ GE353.out) | exact HB.out)⟩
      ·rw [if_neg c19] at H
       exact absurd H (by simp)
  ·rw [if_neg c3] at H
   exact absurd H (by simp)
 ·rw [if_neg c2] at H
  have c2b0 : (a0_0 == 5) = false := beq_eq_false_iff_ne.mpr c2
  have c2b1 : (a0_0 != 5) = true := bne_iff_ne.mpr c2
  obtain ⟨y384, hy384⟩ : ∃ y_ : List Int, y_ = (([a0_1, a0_2] : List Int)) := ⟨_, rfl⟩
  replace H : (if y354.length + y384.length < 17592186044416 then ((some (y354 ++ y384 : List Int)).bind fun y387 => (if a0_0 = 2 then (if y387.length < 17592186044416 then (palimpsestref16_Bytes.j2 k (y387 ++ [a0_7]) a0_0 a0_1 a0_2 a0_3 a0_4 l0_5 l0_6 a0_7 l0_8 l0_9) else (none)) else (palimpsestref16_Bytes.j2 k y387 a0_0 a0_1 a0_2 a0_3 a0_4 l0_5 l0_6 a0_7 l0_8 l0_9))) else (none)) = some r := by first | (rw [hy384]; with_reducible exact H) | (have H2_ := (Option.bind_some _ _).symm.trans H; rw [hy384]; with_reducible exact H2_) | (have H2_ := (Option.bind_some _ _).symm.trans H; with_reducible exact H2_) | with_reducible exact H | (rw [hy384]; exact H) | exact H
  have Ny384 := Aside0.mk hy384
  clear hy384
  by_cases c35 : y354.length + y384.length < 17592186044416
  ·rw [if_pos c35] at H
   have LMc35 := Aside0.mk c35
   clear c35
   obtain ⟨y387, hy387⟩ : ∃ y_ : List Int, y_ = (y354 ++ y384) := ⟨_, rfl⟩
   replace H : (if a0_0 = 2 then (if y387.length < 17592186044416 then (palimpsestref16_Bytes.j2 k (y387 ++ [a0_7]) a0_0 a0_1 a0_2 a0_3 a0_4 l0_5 l0_6 a0_7 l0_8 l0_9) else (none)) else (palimpsestref16_Bytes.j2 k y387 a0_0 a0_1 a0_2 a0_3 a0_4 l0_5 l0_6 a0_7 l0_8 l0_9)) = some r := by first | (rw [hy387]; with_reducible exact H) | (have H2_ := (Option.bind_some _ _).symm.trans H; rw [hy387]; with_reducible exact H2_) | (have H2_ := (Option.bind_some _ _).symm.trans H; with_reducible exact H2_) | with_reducible exact H | (rw [hy387]; exact H) | exact H
   have Ny387 := Aside0.mk hy387
   clear hy387
   have HC36 := Aside0.mk H
   clear H
   go_enter Try.func36, Try.ntmps36
   go_upto_if 92 with (first | ((with_reducible refine gate_dst (N := 1) rfl ?_); refine box_event ?hg (N := 1) ?hd (cs := #[.int .i64 a0_0, .int .i64 a0_1, .int .i64 a0_2, .int .i64 a0_3, .int .i64 a0_4, .slice A0_5 l0_5.length c0_5, .slice A0_6 l0_6.length c0_6, .int .i64 a0_7, .slice A0_8 l0_8.length c0_8, .slice A0_9 l0_9.length c0_9]) (t := 30) ?hr ?_; (case hd => rfl); (case hg => rfl); (case hr => first | (go_simp; done) | (go_simp; rfl)); intro gb353 hg w37 hbox hb; have n0_ := Aside0.mk (below_step (by repeat (first | (with_reducible first | exact HB.out | apply bA | apply bN | apply bD) | exact HB.out)) hb); have n1_ := Aside0.mk (hbox); have n2_ := Aside0.mk ((by rw [hg]; exact (below_size (by repeat (first | (with_reducible first | exact HB.out | apply bA | apply bN | apply bD) | exact HB.out))) : w.heap.size ≤ gb353)); have n3_ := Aside0.mk ((by rw [hg]; exact (below_size (by repeat (first | (with_reducible first | exact HB.out | apply bA | apply bN | apply bD) | exact HB.out))) : w.heap.size ≤ gb353)); clear HB; have HB := n0_; have BK353 := n1_; have GW353 := n2_; have GE353 := n3_; clear n0_ n1_ n2_ n3_; clear hb hbox hg; obtain ⟨hcz38_0, hcz38_1, hcz38_2, hcz38_3, hcz38_4, hcz38_5, hcz38_6, hcz38_7, hcz38_8, hcz38_9⟩ := ten_cells BK353.out; have hfz38 := ten_free BK353.out) | ((with_reducible refine gate_dst (N := 9) rfl ?_); refine Kd.R_lit (Kd.int .i64) _ 3 ?hg (N := 9) ?hd (xs := ([a0_0] : List Int)) (inner := [.int .i64 a0_0]) (ok := fun _ => True) (okp := fun _ => True) ?hr ?hp (fun _ hk => hk) trivial (Below.refl _ _) (Nat.le_refl _) (by simp) ?_; (case hd => rfl); (case hg => rfl); (case hr => first | (go_simp; done) | (go_simp; rfl)); (case hp => exact (Reps.one (show Kd.M (Kd.int .i64) _ _ _ a0_0 [.int .i64 a0_0] from rfl) (Reps.none _ _))); intro v355 w39 ho40 hb hg_ hnew_; clear hg_ hnew_; (first | rw [← Ny354.out] at ho40 | (simp only [Int.reduceToNat] at ho40; rw [← Ny354.out] at ho40)); have n0_ := Aside0.mk (Kd.R_lower ho40 (below_size (by repeat (first | (with_reducible first | exact HB.out | apply bA | apply bN | apply bD | refine bS ?_ GE353.out) | exact HB.out)))); have n1_ := Aside0.mk (blk_below (g := gb353) (o := .cells #[.int .i64 a0_0, .int .i64 a0_1, .int .i64 a0_2, .int .i64 a0_3, .int .i64 a0_4, .slice A0_5 l0_5.length c0_5, .slice A0_6 l0_6.length c0_6, .int .i64 a0_7, .slice A0_8 l0_8.length c0_8, .slice A0_9 l0_9.length c0_9] 30 (0, 0)) (by (with_reducible repeat (first | refine kN ?_ _ | refine kZ ?_ | refine kA ?_ _)); exact BK353.out) hb); have n2_ := Aside0.mk (below_step (by repeat (first | (with_reducible first | exact HB.out | apply bA | apply bN | apply bD | refine bS ?_ GE353.out) | exact HB.out)) hb); clear BK353; clear HB; have HO356 := n0_; have BK353 := n1_; have HB := n2_; clear n0_ n1_ n2_; clear hb ho40; obtain ⟨hcz41_0, hcz41_1, hcz41_2, hcz41_3, hcz41_4, hcz41_5, hcz41_6, hcz41_7, hcz41_8, hcz41_9⟩ := ten_cells BK353.out; have hfz41 := ten_free BK353.out) | ((with_reducible refine gate_dst (N := 88) rfl ?_); refine Kd.R_lit (Kd.int .i64) _ 3 ?hg (N := 88) ?hd (xs := ([a0_1, a0_2] : List Int)) (inner := [.int .i64 a0_1, .int .i64 a0_2]) (ok := fun _ => True) (okp := fun _ => True) ?hr ?hp (fun _ hk => hk) trivial (Below.refl _ _) (Nat.le_refl _) (by simp) ?_; (case hd => rfl); (case hg => rfl); (case hr => first | (go_simp; done) | (go_simp; rfl)); (case hp => exact (Reps.one (show Kd.M (Kd.int .i64) _ _ _ a0_1 [.int .i64 a0_1] from rfl) (Reps.one (show Kd.M (Kd.int .i64) _ _ _ a0_2 [.int .i64 a0_2] from rfl) (Reps.none _ _)))); intro v385 w42 ho43 hb hg_ hnew_; clear hg_ hnew_; (first | rw [← Ny384.out] at ho43 | (simp only [Int.reduceToNat] at ho43; rw [← Ny384.out] at ho43)); have n0_ := Aside0.mk (Kd.R_elder' (by (with_reducible repeat (first | apply rA | apply rN | apply rZ)); exact HO356.out) (Kd.R_base ho43) hb); have n1_ := Aside0.mk (Kd.R_lower (Kd.R_new' ho43 (Kd.R_lt (by (with_reducible repeat (first | apply rA | apply rN | apply rZ)); exact HO356.out))) (below_size (by repeat (first | (with_reducible first | exact HB.out | apply bA | apply bN | apply bD | refine bS ?_ GE353.out) | exact HB.out)))); have n2_ := Aside0.mk (blk_below (g := gb353) (o := .cells #[.int .i64 a0_0, .int .i64 a0_1, .int .i64 a0_2, .int .i64 a0_3, .int .i64 a0_4, .slice A0_5 l0_5.length c0_5, .slice A0_6 l0_6.length c0_6, .int .i64 a0_7, .slice A0_8 l0_8.length c0_8, .slice A0_9 l0_9.length c0_9] 30 (0, 0)) (by (with_reducible repeat (first | refine kN ?_ _ | refine kZ ?_ | refine kA ?_ _)); exact BK353.out) hb); have n3_ := Aside0.mk (below_step (by repeat (first | (with_reducible first | exact HB.out | apply bA | apply bN | apply bD | refine bS ?_ GE353.out) | exact HB.out)) hb); clear HO356; clear BK353; clear HB; have HO356 := n0_; have HO386 := n1_; have BK353 := n2_; have HB := n3_; clear n0_ n1_ n2_ n3_; clear hb ho43; obtain ⟨Ao45, co45, eo45⟩ := Kd.R_slice HO386.out; subst eo45) | ((with_reducible refine gate_builtin (b := .append) (xs := #[.tmp 83, .tmp 88]) rfl ?_); at_builtin; refine Kd.R_append_rows (Kd.int .i64) (w0 := w) w.heap.size rfl (.tmp 83) (.tmp 88) 25 3 (.int .i64 0) 8 rfl Try.underlying25 info3 rfl (by decide) (by omega) v355 y354 y384 _ _ _ (fun k_ => some k_ ≠ (.slice Ao45 y384.length co45 : Value).ownBlock) (fun _ => False) rfl rfl ?aO ?aR (fun _ _ h => h) (fun _ h => h.elim) ?aF ?aB ?aS ?aL ?_; (case aR => repeat (first | exact (Kd.R_reads' HO386.out).2.2 | (with_reducible refine qA ?_ _) | (with_reducible refine qN ?_ _) | (with_reducible refine qZ ?_))); (case aB => exact (by repeat (first | (with_reducible first | exact HB.out | apply bA | apply bN | apply bD | refine bS ?_ GE353.out) | exact HB.out))); (case aF => exact (fun k_ hk => Kd.fresh' (Kd.R_lt (by (with_reducible repeat (first | apply rA | apply rN | apply rZ)); exact HO386.out)) k_ hk)); (case aO => exact (by (with_reducible repeat (first | apply rA | apply rN | apply rZ)); exact Kd.R_mono HO356.out (fun _ hk => hk.2))); (case aS => exact (below_size (by repeat (first | (with_reducible first | exact HB.out | apply bA | apply bN | apply bD | refine bS ?_ GE353.out) | exact HB.out)))); (case aL => have := LMc35.out; omega); intro v388 w44 ho hb hg hat; rw [← Ny387.out] at ho; have n0_ := Aside0.mk (blk_grown (g := gb353) (o := .cells #[.int .i64 a0_0, .int .i64 a0_1, .int .i64 a0_2, .int .i64 a0_3, .int .i64 a0_4, .slice A0_5 l0_5.length c0_5, .slice A0_6 l0_6.length c0_6, .int .i64 a0_7, .slice A0_8 l0_8.length c0_8, .slice A0_9 l0_9.length c0_9] 30 (0, 0)) (by (with_reducible repeat (first | refine kN ?_ _ | refine kZ ?_ | refine kA ?_ _)); exact BK353.out) hg (Kd.R_ne HO356.out BK353.out (by decide))); have n1_ := Aside0.mk (Kd.R_after (ok := (fun _ => True)) (by (with_reducible repeat (first | apply rA | apply rN | apply rZ)); exact HO386.out) hg hat); have n2_ := Aside0.mk (hb); have n3_ := Aside0.mk (ho); clear BK353; clear HO386; clear HB; clear HO356; have BK353 := n0_; have HO386 := n1_; have HB := n2_; have HO389 := n3_; clear n0_ n1_ n2_ n3_; clear ho hb hg hat; obtain ⟨hcz46_0, hcz46_1, hcz46_2, hcz46_3, hcz46_4, hcz46_5, hcz46_6, hcz46_7, hcz46_8, hcz46_9⟩ := ten_cells BK353.out; have hfz46 := ten_free BK353.out))
   (try simp only [Act.put, List.setIfInBounds_toArray, List.set_cons_zero, List.set_cons_succ])
   go_cut [3] (fun v3 wc => ∃ (kq : Nat) (x3_35 : List Int), Aside0 (palimpsestref16_Bytes.j2 kq x3_35 a0_0 a0_1 a0_2 a0_3 a0_4 l0_5 l0_6 a0_7 l0_8 l0_9 = some r) ∧ Aside0 (kq ≤ k) ∧ Aside0 (Kd.R (Kd.int .i64) 3 wc w.heap.size (fun _ => True) v3 x3_35) ∧ Aside0 (wc.heap[gb353]? = some (.cells #[.int .i64 a0_0, .int .i64 a0_1, .int .i64 a0_2, .int .i64 a0_3, .int .i64 a0_4, (.slice A0_5 l0_5.length c0_5), (.slice A0_6 l0_6.length c0_6), .int .i64 a0_7, (.slice A0_8 l0_8.length c0_8), (.slice A0_9 l0_9.length c0_9)] 30 (0, 0))) ∧ Aside0 (Below w.heap.size w wc))
   case first =>
    have H := HC36.out
    clear HC36
    by_cases c47 : a0_0 = 2
    ·rw [if_pos c47] at H
     have c47b0 : (a0_0 == 2) = true := beq_iff_eq.mpr c47
     have c47b1 : (a0_0 != 2) = false := bne_eq_false_iff_eq.mpr c47
     clear c47
     (first | rw [c47b0] | (simp only [i64_w, i32_w]; rw [c47b0]) | skip)
     by_cases c48 : y387.length < 17592186044416
     ·rw [if_pos c48] at H
      have LMc48 := Aside0.mk c48
      clear c48
      obtain ⟨y390, hy390⟩ : ∃ y_ : List Int, y_ = (y387 ++ [a0_7]) := ⟨_, rfl⟩
      replace H : (palimpsestref16_Bytes.j2 k y390 a0_0 a0_1 a0_2 a0_3 a0_4 l0_5 l0_6 a0_7 l0_8 l0_9) = some r := by first | (rw [hy390]; with_reducible exact H) | (have H2_ := (Option.bind_some _ _).symm.trans H; rw [hy390]; with_reducible exact H2_) | (have H2_ := (Option.bind_some _ _).symm.trans H; with_reducible exact H2_) | with_reducible exact H | (rw [hy390]; exact H) | exact H
      have Ny390 := Aside0.mk hy390
      clear hy390
      have H' := Aside0.mk H
      clear H
      obtain ⟨hcz49_0, hcz49_1, hcz49_2, hcz49_3, hcz49_4, hcz49_5, hcz49_6, hcz49_7, hcz49_8, hcz49_9⟩ := ten_cells BK353.out
      have hfz49 := ten_free BK353.out
      go_wp2_with (first | ((with_reducible refine gate_builtin (b := .append) (xs := #[.tmp 93, .tmp 96]) rfl ?_); at_builtin; refine Kd.R_append (Kd.int .i64) (w0 := w) w.heap.size rfl (.tmp 93) (.tmp 96) 25 3 (.int .i64 0) 8 rfl Try.underlying25 info3 rfl (by decide) (by omega) v388 y387 a0_7 [.int .i64 a0_7] (fun k_ => some k_ ≠ (.slice Ao45 y384.length co45 : Value).ownBlock) (fun _ => False) rfl rfl ?aP (fun _ hk => hk.elim) ?aF ?aO ?aB ?aS ?aL ?_; (case aP => exact rfl); (case aB => exact (by repeat (first | (with_reducible first | exact HB.out | apply bA | apply bN | apply bD | refine bS ?_ GE353.out) | exact HB.out))); (case aF => exact (fun k_ hk => Kd.fresh' (Kd.R_lt (by (with_reducible repeat (first | apply rA | apply rN | apply rZ)); exact HO386.out)) k_ hk)); (case aO => exact (by (with_reducible repeat (first | apply rA | apply rN | apply rZ)); exact HO389.out)); (case aS => exact (below_size (by repeat (first | (with_reducible first | exact HB.out | apply bA | apply bN | apply bD | refine bS ?_ GE353.out) | exact HB.out)))); (case aL => have := LMc48.out; omega); intro v391 w50 ho hb hg hat; rw [← Ny390.out] at ho; have n0_ := Aside0.mk (blk_grown (g := gb353) (o := .cells #[.int .i64 a0_0, .int .i64 a0_1, .int .i64 a0_2, .int .i64 a0_3, .int .i64 a0_4, .slice A0_5 l0_5.length c0_5, .slice A0_6 l0_6.length c0_6, .int .i64 a0_7, .slice A0_8 l0_8.length c0_8, .slice A0_9 l0_9.length c0_9] 30 (0, 0)) (by (with_reducible repeat (first | refine kN ?_ _ | refine kZ ?_ | refine kA ?_ _)); exact BK353.out) hg (Kd.R_ne HO389.out BK353.out (by decide))); have n1_ := Aside0.mk (Kd.R_after (ok := (fun _ => True)) (by (with_reducible repeat (first | apply rA | apply rN | apply rZ)); exact HO386.out) hg hat); have n2_ := Aside0.mk (hb); have n3_ := Aside0.mk (ho); clear BK353; clear HO386; clear HB; clear HO389; have BK353 := n0_; have HO386 := n1_; have HB := n2_; have HO392 := n3_; clear n0_ n1_ n2_ n3_; clear ho hb hg hat))
      go_meet
      case rel => exact ⟨_, (y390), H', ⟨by first | omega | exact Nat.le_refl _⟩, ⟨by (with_reducible repeat (first | apply rA | apply rN | apply rZ)); exact Kd.R_mono HO392.out (fun _ hk => trivial)⟩, ⟨by (with_reducible repeat (first | refine kN ?_ _ | refine kZ ?_ | refine kA ?_ _)); exact BK353.out⟩, ⟨by repeat (first | (with_reducible first | exact HB.out | apply bA | apply bN | apply bD | refine bS ?_ GE353.out) | exact HB.out)⟩⟩
     ·rw [if_neg c48] at H
      exact absurd H (by simp)
    ·rw [if_neg c47] at H
     have c47b0 : (a0_0 == 2) = false := beq_eq_false_iff_ne.mpr c47
     have c47b1 : (a0_0 != 2) = true := bne_iff_ne.mpr c47
     (first | rw [c47b0] | (simp only [i64_w, i32_w]; rw [c47b0]) | skip)
     have H' := Aside0.mk H
     clear H
     go_wp2
     go_meet
     case rel => exact ⟨_, (y387), H', ⟨by first | omega | exact Nat.le_refl _⟩, ⟨by (with_reducible repeat (first | apply rA | apply rN | apply rZ)); exact Kd.R_mono HO389.out (fun _ hk => trivial)⟩, ⟨by (with_reducible repeat (first | refine kN ?_ _ | refine kZ ?_ | refine kA ?_ _)); exact BK353.out⟩, ⟨by repeat (first | (with_reducible first | exact HB.out | apply bA | apply bN | apply bD | refine bS ?_ GE353.out) | exact HB.out)⟩⟩
   case rest =>
    clear HC36
    try clear c1
    try clear c2
    try clear c2b0
    try clear c2b1
    try clear p2
    try clear c3
    try clear p3
    try clear q3
    try clear hx3
    try clear c4
    try clear p6
    try clear c11
    try clear c11b0
    try clear c12
    try clear c19
    try clear c22
    try clear c22b0
    try clear c23
    try clear c23b0
    try clear c24
    try clear c35
    try clear c36
    try clear p36
    try clear q36
    try clear hx36
    try clear p37
    try clear q37
    try clear hx37
    try clear c47
    try clear c47b0
    try clear c47b1
    try clear c48
    try clear c49
    try clear hcz13_0 hcz13_1 hcz13_2 hcz13_3 hcz13_4 hcz13_5 hcz13_6 hcz13_7 hcz13_8 hcz13_9
    try clear hcz20_0 hcz20_1 hcz20_2 hcz20_3 hcz20_4 hcz20_5 hcz20_6 hcz20_7 hcz20_8 hcz20_9
    try clear hcz25_0 hcz25_1 hcz25_2 hcz25_3 hcz25_4 hcz25_5 hcz25_6 hcz25_7 hcz25_8 hcz25_9
    try clear hcz32_0 hcz32_1 hcz32_2 hcz32_3 hcz32_4 hcz32_5 hcz32_6 hcz32_7 hcz32_8 hcz32_9
    try clear hcz38_0 hcz38_1 hcz38_2 hcz38_3 hcz38_4 hcz38_5 hcz38_6 hcz38_7 hcz38_8 hcz38_9
    try clear hcz41_0 hcz41_1 hcz41_2 hcz41_3 hcz41_4 hcz41_5 hcz41_6 hcz41_7 hcz41_8 hcz41_9
    try clear hcz46_0 hcz46_1 hcz46_2 hcz46_3 hcz46_4 hcz46_5 hcz46_6 hcz46_7 hcz46_8 hcz46_9
    try clear hcz49_0 hcz49_1 hcz49_2 hcz49_3 hcz49_4 hcz49_5 hcz49_6 hcz49_7 hcz49_8 hcz49_9
    try clear hcz5_0 hcz5_1 hcz5_2 hcz5_3 hcz5_4 hcz5_5 hcz5_6 hcz5_7 hcz5_8 hcz5_9
    try clear hcz8_0 hcz8_1 hcz8_2 hcz8_3 hcz8_4 hcz8_5 hcz8_6 hcz8_7 hcz8_8 hcz8_9
    try clear hfz13
    try clear hfz20
    try clear hfz25
    try clear hfz32
    try clear hfz38
    try clear hfz41
    try clear hfz46
    try clear hfz49
    try clear hfz5
    try clear hfz8
    try clear hx360_0
    try clear hx360_1
    try clear hx361_0
    try clear hx361_1
    try clear hx371_0
    try clear hx371_1
    try clear hx371_2
    try clear hx371_3
    try clear hx372_0
    try clear hx372_1
    try clear hx372_2
    try clear hx372_3
    try clear hx373_0
    try clear hx373_1
    try clear hx373_2
    try clear hx373_3
    try clear hx374_0
    try clear hx374_1
    try clear hx374_2
    try clear hx374_3
    try clear p2
    try clear p360
    try clear p361
    try clear p371
    try clear p372
    try clear p373
    try clear p374
    try clear q360
    try clear q361
    try clear q371
    try clear q372
    try clear q373
    try clear q374
    obtain ⟨kq, x3_35, HA, HJ35, HO_3, BK353, HB⟩ := hcut
    cases kq with
    | zero => exact absurd HA.out (by simp [palimpsestref16_Bytes.j2])
    | succ kj35 =>
     have H := HA.out
     clear HA
     simp only [palimpsestref16_Bytes.j2] at H
     have HC51 := Aside0.mk H
     clear H
     go_upto_region 17 with (fail)
     go_cut [105] (fun v105 wc => ∃ (kq : Nat) (x105_50 : Bool), v105 = .bool x105_50 ∧ Aside0 (palimpsestref16_Bytes.j3 kq x3_35 x105_50 a0_0 a0_1 a0_2 a0_3 a0_4 l0_5 l0_6 a0_7 l0_8 l0_9 = some r) ∧ Aside0 (kq ≤ kj35) ∧ Aside0 (Kd.R (Kd.int .i64) 3 wc w.heap.size (fun _ => True) u3 x3_35) ∧ Aside0 (wc.heap[gb353]? = some (.cells #[.int .i64 a0_0, .int .i64 a0_1, .int .i64 a0_2, .int .i64 a0_3, .int .i64 a0_4, (.slice A0_5 l0_5.length c0_5), (.slice A0_6 l0_6.length c0_6), .int .i64 a0_7, (.slice A0_8 l0_8.length c0_8), (.slice A0_9 l0_9.length c0_9)] 30 (0, 0))) ∧ Aside0 (Below w.heap.size w wc))
     case first =>
      have H := HC51.out
      clear HC51
      by_cases c52 : a0_0 = 1
      ·rw [if_pos c52] at H
       have c52b0 : (a0_0 == 1) = true := beq_iff_eq.mpr c52
       have c52b1 : (a0_0 != 1) = false := bne_eq_false_iff_eq.mpr c52
       clear c52
       (first | rw [c52b0] | (simp only [i64_w, i32_w]; rw [c52b0]) | skip)
       have H' := Aside0.mk H
       clear H
       obtain ⟨hcz53_0, hcz53_1, hcz53_2, hcz53_3, hcz53_4, hcz53_5, hcz53_6, hcz53_7, hcz53_8, hcz53_9⟩ := ten_cells BK353.out
       have hfz53 := ten_free BK353.out
       go_wp2
       go_meet
       case rel => exact ⟨_, (true), (by first | rfl | (simp; done) | (simp [*]; done)), H', ⟨by have := HJ35.out; first | omega | exact Nat.le_refl _⟩, ⟨by (with_reducible repeat (first | apply rA | apply rN | apply rZ)); exact HO_3.out⟩, ⟨by (with_reducible repeat (first | refine kN ?_ _ | refine kZ ?_ | refine kA ?_ _)); exact BK353.out⟩, ⟨by repeat (first | (with_reducible first | exact HB.out | apply bA | apply bN | apply bD | refine bS ?_ GE353.out) | exact HB.out)⟩⟩
      ·rw [if_neg c52] at H
       have c52b0 : (a0_0 == 1) = false := beq_eq_false_iff_ne.mpr c52
       have c52b1 : (a0_0 != 1) = true := bne_iff_ne.mpr c52
       (first | rw [c52b0] | (simp only [i64_w, i32_w]; rw [c52b0]) | skip)
       have H' := Aside0.mk H
       clear H
       obtain ⟨hcz54_0, hcz54_1, hcz54_2, hcz54_3, hcz54_4, hcz54_5, hcz54_6, hcz54_7, hcz54_8, hcz54_9⟩ := ten_cells BK353.out
       have hfz54 := ten_free BK353.out
       go_wp2
       go_meet
       case rel => exact ⟨_, ((a0_0 == 2)), (by first | rfl | (simp; done) | (simp [*]; done)), H', ⟨by have := HJ35.out; first | omega | exact Nat.le_refl _⟩, ⟨by (with_reducible repeat (first | apply rA | apply rN | apply rZ)); exact HO_3.out⟩, ⟨by (with_reducible repeat (first | refine kN ?_ _ | refine kZ ?_ | refine kA ?_ _)); exact BK353.out⟩, ⟨by repeat (first | (with_reducible first | exact HB.out | apply bA | apply bN | apply bD | refine bS ?_ GE353.out) | exact HB.out)⟩⟩
     case rest =>
      clear HC51
      try clear c1
      try clear c2
      try clear c2b0
      try clear c2b1
      try clear p2
      try clear c3
      try clear p3
      try clear q3
      try clear hx3
      try clear c4
      try clear c5
      try clear p6
      try clear c11
      try clear c11b0
      try clear c12
      try clear c19
      try clear c22
      try clear c22b0
      try clear c23
      try clear c23b0
      try clear c24
      try clear c35
      try clear c36
      try clear p36
      try clear q36
      try clear hx36
      try clear p37
      try clear q37
      try clear hx37
      try clear c47
      try clear c47b0
      try clear c47b1
      try clear c48
      try clear c49
      try clear c52
      try clear c52b0
      try clear c52b1
      try clear hcz13_0 hcz13_1 hcz13_2 hcz13_3 hcz13_4 hcz13_5 hcz13_6 hcz13_7 hcz13_8 hcz13_9
      try clear hcz20_0 hcz20_1 hcz20_2 hcz20_3 hcz20_4 hcz20_5 hcz20_6 hcz20_7 hcz20_8 hcz20_9
      try clear hcz25_0 hcz25_1 hcz25_2 hcz25_3 hcz25_4 hcz25_5 hcz25_6 hcz25_7 hcz25_8 hcz25_9
      try clear hcz32_0 hcz32_1 hcz32_2 hcz32_3 hcz32_4 hcz32_5 hcz32_6 hcz32_7 hcz32_8 hcz32_9
      try clear hcz38_0 hcz38_1 hcz38_2 hcz38_3 hcz38_4 hcz38_5 hcz38_6 hcz38_7 hcz38_8 hcz38_9
      try clear hcz41_0 hcz41_1 hcz41_2 hcz41_3 hcz41_4 hcz41_5 hcz41_6 hcz41_7 hcz41_8 hcz41_9
      try clear hcz46_0 hcz46_1 hcz46_2 hcz46_3 hcz46_4 hcz46_5 hcz46_6 hcz46_7 hcz46_8 hcz46_9
      try clear hcz49_0 hcz49_1 hcz49_2 hcz49_3 hcz49_4 hcz49_5 hcz49_6 hcz49_7 hcz49_8 hcz49_9
      try clear hcz53_0 hcz53_1 hcz53_2 hcz53_3 hcz53_4 hcz53_5 hcz53_6 hcz53_7 hcz53_8 hcz53_9
      try clear hcz54_0 hcz54_1 hcz54_2 hcz54_3 hcz54_4 hcz54_5 hcz54_6 hcz54_7 hcz54_8 hcz54_9
      try clear hcz5_0 hcz5_1 hcz5_2 hcz5_3 hcz5_4 hcz5_5 hcz5_6 hcz5_7 hcz5_8 hcz5_9
      try clear hcz8_0 hcz8_1 hcz8_2 hcz8_3 hcz8_4 hcz8_5 hcz8_6 hcz8_7 hcz8_8 hcz8_9
      try clear hfz13
      try clear hfz20
      try clear hfz25
      try clear hfz32
      try clear hfz38
      try clear hfz41
      try clear hfz46
      try clear hfz49
      try clear hfz53
      try clear hfz54
      try clear hfz5
      try clear hfz8
      try clear hx360_0
      try clear hx360_1
      try clear hx361_0
      try clear hx361_1
      try clear hx371_0
      try clear hx371_1
      try clear hx371_2
      try clear hx371_3
      try clear hx372_0
      try clear hx372_1
      try clear hx372_2
      try clear hx372_3
      try clear hx373_0
      try clear hx373_1
      try clear hx373_2
      try clear hx373_3
      try clear hx374_0
      try clear hx374_1
      try clear hx374_2
      try clear hx374_3
      try clear p2
      try clear p3
      try clear p36
      try clear p360
      try clear p361
      try clear p37
      try clear p371
      try clear p372
      try clear p373
      try clear p374
      try clear p6
      try clear q3
      try clear q36
      try clear q360
      try clear q361
      try clear q37
      try clear q371
      try clear q372
      try clear q373
      try clear q374
      obtain ⟨kq, x105_50, rfl, HA, HJ50, HO_3, BK353, HB⟩ := hcut
      cases kq with
      | zero => exact absurd HA.out (by simp [palimpsestref16_Bytes.j3])
      | succ kj50 =>
       have H := HA.out
       clear HA
       simp only [palimpsestref16_Bytes.j3] at H
       by_cases c55 : x105_50 = true
       ·subst c55
        have H1 : ((some (([a0_3, a0_4, (l0_5.length : Int)] : List Int) : List Int)).bind fun y393 => (if x3_35.length + y393.length < 17592186044416 then ((some (x3_35 ++ y393 : List Int)).bind fun y396 => (if y396.length + l0_5.length < 17592186044416 then ((some (y396 ++ l0_5 : List Int)).bind fun y399 => (if y399.length < 17592186044416 then (palimpsestref16_Bytes.l2 kj50 (y399 ++ [(l0_6.length : Int)]) 0 a0_0 a0_1 a0_2 a0_3 a0_4 l0_5 l0_6 a0_7 l0_8 l0_9) else (none))) else (none))) else (none))) = some r := by rw [if_pos rfl] at H; exact H
        clear H
        have H := H1
        clear H1
        obtain ⟨y393, hy393⟩ : ∃ y_ : List Int, y_ = (([a0_3, a0_4, (l0_5.length : Int)] : List Int)) := ⟨_, rfl⟩
        replace H : (if x3_35.length + y393.length < 17592186044416 then ((some (x3_35 ++ y393 : List Int)).bind fun y396 => (if y396.length + l0_5.length < 17592186044416 then ((some (y396 ++ l0_5 : List Int)).bind fun y399 => (if y399.length < 17592186044416 then (palimpsestref16_Bytes.l2 kj50 (y399 ++ [(l0_6.length : Int)]) 0 a0_0 a0_1 a0_2 a0_3 a0_4 l0_5 l0_6 a0_7 l0_8 l0_9) else (none))) else (none))) else (none)) = some r := by first | (rw [hy393]; with_reducible exact H) | (have H2_ := (Option.bind_some _ _).symm.trans H; rw [hy393]; with_reducible exact H2_) | (have H2_ := (Option.bind_some _ _).symm.trans H; with_reducible exact H2_) | with_reducible exact H | (rw [hy393]; exact H) | exact H
        have Ny393 := Aside0.mk hy393
        clear hy393
        by_cases c56 : x3_35.length + y393.length < 17592186044416
        ·rw [if_pos c56] at H
         have LMc56 := Aside0.mk c56
         clear c56
         obtain ⟨y396, hy396⟩ : ∃ y_ : List Int, y_ = (x3_35 ++ y393) := ⟨_, rfl⟩
         replace H : (if y396.length + l0_5.length < 17592186044416 then ((some (y396 ++ l0_5 : List Int)).bind fun y399 => (if y399.length < 17592186044416 then (palimpsestref16_Bytes.l2 kj50 (y399 ++ [(l0_6.length : Int)]) 0 a0_0 a0_1 a0_2 a0_3 a0_4 l0_5 l0_6 a0_7 l0_8 l0_9) else (none))) else (none)) = some r := by first | (rw [hy396]; with_reducible exact H) | (have H2_ := (Option.bind_some _ _).symm.trans H; rw [hy396]; with_reducible exact H2_) | (have H2_ := (Option.bind_some _ _).symm.trans H; with_reducible exact H2_) | with_reducible exact H | (rw [hy396]; exact H) | exact H
         have Ny396 := Aside0.mk hy396
         clear hy396
         by_cases c57 : y396.length + l0_5.length < 17592186044416
         ·rw [if_pos c57] at H
          have LMc57 := Aside0.mk c57
          clear c57
          obtain ⟨y399, hy399⟩ : ∃ y_ : List Int, y_ = (y396 ++ l0_5) := ⟨_, rfl⟩
          replace H : (if y399.length < 17592186044416 then (palimpsestref16_Bytes.l2 kj50 (y399 ++ [(l0_6.length : Int)]) 0 a0_0 a0_1 a0_2 a0_3 a0_4 l0_5 l0_6 a0_7 l0_8 l0_9) else (none)) = some r := by first | (rw [hy399]; with_reducible exact H) | (have H2_ := (Option.bind_some _ _).symm.trans H; rw [hy399]; with_reducible exact H2_) | (have H2_ := (Option.bind_some _ _).symm.trans H; with_reducible exact H2_) | with_reducible exact H | (rw [hy399]; exact H) | exact H
          have Ny399 := Aside0.mk hy399
          clear hy399
          by_cases c58 : y399.length < 17592186044416
          ·rw [if_pos c58] at H
           have LMc58 := Aside0.mk c58
           clear c58
           obtain ⟨y402, hy402⟩ : ∃ y_ : List Int, y_ = (y399 ++ [(l0_6.length : Int)]) := ⟨_, rfl⟩
           replace H : (palimpsestref16_Bytes.l2 kj50 y402 0 a0_0 a0_1 a0_2 a0_3 a0_4 l0_5 l0_6 a0_7 l0_8 l0_9) = some r := by first | (rw [hy402]; with_reducible exact H) | (have H2_ := (Option.bind_some _ _).symm.trans H; rw [hy402]; with_reducible exact H2_) | (have H2_ := (Option.bind_some _ _).symm.trans H; with_reducible exact H2_) | with_reducible exact H | (rw [hy402]; exact H) | exact H
           have Ny402 := Aside0.mk hy402
           clear hy402
           have H' := Aside0.mk H
           clear H
           obtain ⟨hcz59_0, hcz59_1, hcz59_2, hcz59_3, hcz59_4, hcz59_5, hcz59_6, hcz59_7, hcz59_8, hcz59_9⟩ := ten_cells BK353.out
           have hfz59 := ten_free BK353.out
           go_wp2_with (first | ((with_reducible refine gate_dst (N := 114) rfl ?_); refine Kd.R_lit (Kd.int .i64) _ 3 ?hg (N := 114) ?hd (xs := ([a0_3, a0_4, (l0_5.length : Int)] : List Int)) (inner := [.int .i64 a0_3, .int .i64 a0_4, .int .i64 (l0_5.length : Int)]) (ok := fun _ => True) (okp := fun _ => True) ?hr ?hp (fun _ hk => hk) trivial (Below.refl _ _) (Nat.le_refl _) (by simp) ?_; (case hd => rfl); (case hg => rfl); (case hr => first | (go_simp; done) | (go_simp; rfl)); (case hp => exact (Reps.one (show Kd.M (Kd.int .i64) _ _ _ a0_3 [.int .i64 a0_3] from rfl) (Reps.one (show Kd.M (Kd.int .i64) _ _ _ a0_4 [.int .i64 a0_4] from rfl) (Reps.one (show Kd.M (Kd.int .i64) _ _ _ (l0_5.length : Int) [.int .i64 (l0_5.length : Int)] from rfl) (Reps.none _ _))))); intro v394 w60 ho61 hb hg_ hnew_; clear hg_ hnew_; (first | rw [← Ny393.out] at ho61 | (simp only [Int.reduceToNat] at ho61; rw [← Ny393.out] at ho61)); have n0_ := Aside0.mk (Kd.R_elder' (by (with_reducible repeat (first | apply rA | apply rN | apply rZ)); exact HO_3.out) (Kd.R_base ho61) hb); have n1_ := Aside0.mk (Kd.R_lower (Kd.R_new' ho61 (Kd.R_lt (by (with_reducible repeat (first | apply rA | apply rN | apply rZ)); exact HO_3.out))) (below_size (by repeat (first | (with_reducible first | exact HB.out | apply bA | apply bN | apply bD | refine bS ?_ GE353.out) | exact HB.out)))); have n2_ := Aside0.mk (blk_below (g := gb353) (o := .cells #[.int .i64 a0_0, .int .i64 a0_1, .int .i64 a0_2, .int .i64 a0_3, .int .i64 a0_4, .slice A0_5 l0_5.length c0_5, .slice A0_6 l0_6.length c0_6, .int .i64 a0_7, .slice A0_8 l0_8.length c0_8, .slice A0_9 l0_9.length c0_9] 30 (0, 0)) (by (with_reducible repeat (first | refine kN ?_ _ | refine kZ ?_ | refine kA ?_ _)); exact BK353.out) hb); have n3_ := Aside0.mk (below_step (by repeat (first | (with_reducible first | exact HB.out | apply bA | apply bN | apply bD | refine bS ?_ GE353.out) | exact HB.out)) hb); clear HO_3; clear BK353; clear HB; have HO_3 := n0_; have HO395 := n1_; have BK353 := n2_; have HB := n3_; clear n0_ n1_ n2_ n3_; clear hb ho61; obtain ⟨Ao63, co63, eo63⟩ := Kd.R_slice HO395.out; subst eo63) | ((with_reducible refine gate_builtin (b := .append) (xs := #[.tmp 106, .tmp 114]) rfl ?_); at_builtin; refine Kd.R_append_rows (Kd.int .i64) (w0 := w) w.heap.size rfl (.tmp 106) (.tmp 114) 25 3 (.int .i64 0) 8 rfl Try.underlying25 info3 rfl (by decide) (by omega) u3 x3_35 y393 _ _ _ (fun k_ => some k_ ≠ (.slice Ao63 y393.length co63 : Value).ownBlock) (fun _ => False) rfl rfl ?aO ?aR (fun _ _ h => h) (fun _ h => h.elim) ?aF ?aB ?aS ?aL ?_; (case aR => repeat (first | exact (Kd.R_reads' HO395.out).2.2 | (with_reducible refine qA ?_ _) | (with_reducible refine qN ?_ _) | (with_reducible refine qZ ?_))); (case aB => exact (by repeat (first | (with_reducible first | exact HB.out | apply bA | apply bN | apply bD | refine bS ?_ GE353.out) | exact HB.out))); (case aF => exact (fun k_ hk => Kd.fresh' (Kd.R_lt (by (with_reducible repeat (first | apply rA | apply rN | apply rZ)); exact HO395.out)) k_ hk)); (case aO => exact (by (with_reducible repeat (first | apply rA | apply rN | apply rZ)); exact Kd.R_mono HO_3.out (fun _ hk => hk.2))); (case aS => exact (below_size (by repeat (first | (with_reducible first | exact HB.out | apply bA | apply bN | apply bD | refine bS ?_ GE353.out) | exact HB.out)))); (case aL => have := LMc56.out; omega); intro v397 w62 ho hb hg hat; rw [← Ny396.out] at ho; have n0_ := Aside0.mk (blk_grown (g := gb353) (o := .cells #[.int .i64 a0_0, .int .i64 a0_1, .int .i64 a0_2, .int .i64 a0_3, .int .i64 a0_4, .slice A0_5 l0_5.length c0_5, .slice A0_6 l0_6.length c0_6, .int .i64 a0_7, .slice A0_8 l0_8.length c0_8, .slice A0_9 l0_9.length c0_9] 30 (0, 0)) (by (with_reducible repeat (first | refine kN ?_ _ | refine kZ ?_ | refine kA ?_ _)); exact BK353.out) hg (Kd.R_ne HO_3.out BK353.out (by decide))); have n1_ := Aside0.mk (Kd.R_after (ok := (fun _ => True)) (by (with_reducible repeat (first | apply rA | apply rN | apply rZ)); exact HO395.out) hg hat); have n2_ := Aside0.mk (hb); have n3_ := Aside0.mk (ho); clear BK353; clear HO395; clear HB; clear HO_3; have BK353 := n0_; have HO395 := n1_; have HB := n2_; have HO398 := n3_; clear n0_ n1_ n2_ n3_; clear ho hb hg hat; obtain ⟨hcz64_0, hcz64_1, hcz64_2, hcz64_3, hcz64_4, hcz64_5, hcz64_6, hcz64_7, hcz64_8, hcz64_9⟩ := ten_cells BK353.out; have hfz64 := ten_free BK353.out) | ((with_reducible refine gate_builtin (b := .append) (xs := #[.tmp 116, .tmp 118]) rfl ?_); at_builtin; refine Kd.R_append_rows (Kd.int .i64) (w0 := w) w.heap.size rfl (.tmp 116) (.tmp 118) 25 3 (.int .i64 0) 8 rfl Try.underlying25 info3 rfl (by decide) (by omega) v397 y396 l0_5 _ _ _ (fun k_ => some k_ ≠ (.slice Ao63 y393.length co63 : Value).ownBlock) (fun _ => False) rfl rfl ?aO ?aR (fun _ _ h => h) (fun _ h => h.elim) ?aF ?aB ?aS ?aL ?_; (case aR => repeat (first | exact (Kd.C_below HR0_5.out HB.out) | (with_reducible refine qA ?_ _) | (with_reducible refine qN ?_ _) | (with_reducible refine qZ ?_))); (case aB => exact (by repeat (first | (with_reducible first | exact HB.out | apply bA | apply bN | apply bD | refine bS ?_ GE353.out) | exact HB.out))); (case aF => exact (fun k_ hk => Kd.fresh' (Kd.R_lt (by (with_reducible repeat (first | apply rA | apply rN | apply rZ)); exact HO395.out)) k_ hk)); (case aO => exact (by (with_reducible repeat (first | apply rA | apply rN | apply rZ)); exact HO398.out)); (case aS => exact (below_size (by repeat (first | (with_reducible first | exact HB.out | apply bA | apply bN | apply bD | refine bS ?_ GE353.out) | exact HB.out)))); (case aL => have := LMc57.out; omega); intro v400 w65 ho hb hg hat; rw [← Ny399.out] at ho; have n0_ := Aside0.mk (blk_grown (g := gb353) (o := .cells #[.int .i64 a0_0, .int .i64 a0_1, .int .i64 a0_2, .int .i64 a0_3, .int .i64 a0_4, .slice A0_5 l0_5.length c0_5, .slice A0_6 l0_6.length c0_6, .int .i64 a0_7, .slice A0_8 l0_8.length c0_8, .slice A0_9 l0_9.length c0_9] 30 (0, 0)) (by (with_reducible repeat (first | refine kN ?_ _ | refine kZ ?_ | refine kA ?_ _)); exact BK353.out) hg (Kd.R_ne HO398.out BK353.out (by decide))); have n1_ := Aside0.mk (Kd.R_after (ok := (fun _ => True)) (by (with_reducible repeat (first | apply rA | apply rN | apply rZ)); exact HO395.out) hg hat); have n2_ := Aside0.mk (hb); have n3_ := Aside0.mk (ho); clear BK353; clear HO395; clear HB; clear HO398; have BK353 := n0_; have HO395 := n1_; have HB := n2_; have HO401 := n3_; clear n0_ n1_ n2_ n3_; clear ho hb hg hat; obtain ⟨hcz66_0, hcz66_1, hcz66_2, hcz66_3, hcz66_4, hcz66_5, hcz66_6, hcz66_7, hcz66_8, hcz66_9⟩ := ten_cells BK353.out; have hfz66 := ten_free BK353.out) | ((with_reducible refine gate_builtin (b := .append) (xs := #[.tmp 120, .tmp 124]) rfl ?_); at_builtin; refine Kd.R_append (Kd.int .i64) (w0 := w) w.heap.size rfl (.tmp 120) (.tmp 124) 25 3 (.int .i64 0) 8 rfl Try.underlying25 info3 rfl (by decide) (by omega) v400 y399 (l0_6.length : Int) [.int .i64 (l0_6.length : Int)] (fun k_ => some k_ ≠ (.slice Ao63 y393.length co63 : Value).ownBlock) (fun _ => False) rfl rfl ?aP (fun _ hk => hk.elim) ?aF ?aO ?aB ?aS ?aL ?_; (case aP => exact rfl); (case aB => exact (by repeat (first | (with_reducible first | exact HB.out | apply bA | apply bN | apply bD | refine bS ?_ GE353.out) | exact HB.out))); (case aF => exact (fun k_ hk => Kd.fresh' (Kd.R_lt (by (with_reducible repeat (first | apply rA | apply rN | apply rZ)); exact HO395.out)) k_ hk)); (case aO => exact (by (with_reducible repeat (first | apply rA | apply rN | apply rZ)); exact HO401.out)); (case aS => exact (below_size (by repeat (first | (with_reducible first | exact HB.out | apply bA | apply bN | apply bD | refine bS ?_ GE353.out) | exact HB.out)))); (case aL => have := LMc58.out; omega); intro v403 w67 ho hb hg hat; rw [← Ny402.out] at ho; have n0_ := Aside0.mk (blk_grown (g := gb353) (o := .cells #[.int .i64 a0_0, .int .i64 a0_1, .int .i64 a0_2, .int .i64 a0_3, .int .i64 a0_4, .slice A0_5 l0_5.length c0_5, .slice A0_6 l0_6.length c0_6, .int .i64 a0_7, .slice A0_8 l0_8.length c0_8, .slice A0_9 l0_9.length c0_9] 30 (0, 0)) (by (with_reducible repeat (first | refine kN ?_ _ | refine kZ ?_ | refine kA ?_ _)); exact BK353.out) hg (Kd.R_ne HO401.out BK353.out (by decide))); have n1_ := Aside0.mk (Kd.R_after (ok := (fun _ => True)) (by (with_reducible repeat (first | apply rA | apply rN | apply rZ)); exact HO395.out) hg hat); have n2_ := Aside0.mk (hb); have n3_ := Aside0.mk (ho); clear BK353; clear HO395; clear HB; clear HO401; have BK353 := n0_; have HO395 := n1_; have HB := n2_; have HO404 := n3_; clear n0_ n1_ n2_ n3_; clear ho hb hg hat))
           go_loopg [3, 6] kj50 (fun kq v3 v6 w' => ∃ (x3_3 : List Int) (x6_3 : Int), v6 = .int .i64 x6_3 ∧ Aside0 (palimpsestref16_Bytes.l2 kq x3_3 x6_3 a0_0 a0_1 a0_2 a0_3 a0_4 l0_5 l0_6 a0_7 l0_8 l0_9 = some r) ∧ Aside0 (kq ≤ kj50) ∧ Aside0 (Kd.R (Kd.int .i64) 3 w' w.heap.size (fun _ => True) v3 x3_3) ∧ Aside0 (w'.heap[gb353]? = some (.cells #[.int .i64 a0_0, .int .i64 a0_1, .int .i64 a0_2, .int .i64 a0_3, .int .i64 a0_4, (.slice A0_5 l0_5.length c0_5), (.slice A0_6 l0_6.length c0_6), .int .i64 a0_7, (.slice A0_8 l0_8.length c0_8), (.slice A0_9 l0_9.length c0_9)] 30 (0, 0))) ∧ Aside0 (Below w.heap.size w w'))
           case atStart => exact ⟨(y402), (0), (by first | rfl | (simp; done) | (simp [*]; done)), H', ⟨Nat.le_refl _⟩, ⟨by (with_reducible repeat (first | apply rA | apply rN | apply rZ)); exact Kd.R_mono HO404.out (fun _ hk => trivial)⟩, ⟨by (with_reducible repeat (first | refine kN ?_ _ | refine kZ ?_ | refine kA ?_ _)); exact BK353.out⟩, ⟨by repeat (first | (with_reducible first | exact HB.out | apply bA | apply bN | apply bD | refine bS ?_ GE353.out) | exact HB.out)⟩⟩
           case round =>
            clear H'
            try clear c1
            try clear c2
            try clear c2b0
            try clear c2b1
            try clear p2
            try clear c3
            try clear p3
            try clear q3
            try clear hx3
            try clear c4
            try clear c5
            try clear p6
            try clear c11
            try clear c11b0
            try clear c12
            try clear c19
            try clear c22
            try clear c22b0
            try clear c23
            try clear c23b0
            try clear c24
            try clear c35
            try clear c36
            try clear p36
            try clear q36
            try clear hx36
            try clear p37
            try clear q37
            try clear hx37
            try clear c47
            try clear c47b0
            try clear c47b1
            try clear c48
            try clear c49
            try clear c52
            try clear c52b0
            try clear c52b1
            try clear c55
            try clear c56
            try clear c57
            try clear c58
            try clear hcz13_0 hcz13_1 hcz13_2 hcz13_3 hcz13_4 hcz13_5 hcz13_6 hcz13_7 hcz13_8 hcz13_9
            try clear hcz20_0 hcz20_1 hcz20_2 hcz20_3 hcz20_4 hcz20_5 hcz20_6 hcz20_7 hcz20_8 hcz20_9
            try clear hcz25_0 hcz25_1 hcz25_2 hcz25_3 hcz25_4 hcz25_5 hcz25_6 hcz25_7 hcz25_8 hcz25_9
            try clear hcz32_0 hcz32_1 hcz32_2 hcz32_3 hcz32_4 hcz32_5 hcz32_6 hcz32_7 hcz32_8 hcz32_9
            try clear hcz38_0 hcz38_1 hcz38_2 hcz38_3 hcz38_4 hcz38_5 hcz38_6 hcz38_7 hcz38_8 hcz38_9
            try clear hcz41_0 hcz41_1 hcz41_2 hcz41_3 hcz41_4 hcz41_5 hcz41_6 hcz41_7 hcz41_8 hcz41_9
            try clear hcz46_0 hcz46_1 hcz46_2 hcz46_3 hcz46_4 hcz46_5 hcz46_6 hcz46_7 hcz46_8 hcz46_9
            try clear hcz49_0 hcz49_1 hcz49_2 hcz49_3 hcz49_4 hcz49_5 hcz49_6 hcz49_7 hcz49_8 hcz49_9
            try clear hcz53_0 hcz53_1 hcz53_2 hcz53_3 hcz53_4 hcz53_5 hcz53_6 hcz53_7 hcz53_8 hcz53_9
            try clear hcz54_0 hcz54_1 hcz54_2 hcz54_3 hcz54_4 hcz54_5 hcz54_6 hcz54_7 hcz54_8 hcz54_9
            try clear hcz59_0 hcz59_1 hcz59_2 hcz59_3 hcz59_4 hcz59_5 hcz59_6 hcz59_7 hcz59_8 hcz59_9
            try clear hcz5_0 hcz5_1 hcz5_2 hcz5_3 hcz5_4 hcz5_5 hcz5_6 hcz5_7 hcz5_8 hcz5_9
            try clear hcz64_0 hcz64_1 hcz64_2 hcz64_3 hcz64_4 hcz64_5 hcz64_6 hcz64_7 hcz64_8 hcz64_9
            try clear hcz66_0 hcz66_1 hcz66_2 hcz66_3 hcz66_4 hcz66_5 hcz66_6 hcz66_7 hcz66_8 hcz66_9
            try clear hcz8_0 hcz8_1 hcz8_2 hcz8_3 hcz8_4 hcz8_5 hcz8_6 hcz8_7 hcz8_8 hcz8_9
            try clear hfz13
            try clear hfz20
            try clear hfz25
            try clear hfz32
            try clear hfz38
            try clear hfz41
            try clear hfz46
            try clear hfz49
            try clear hfz53
            try clear hfz54
            try clear hfz59
            try clear hfz5
            try clear hfz64
            try clear hfz66
            try clear hfz8
            try clear hx360_0
            try clear hx360_1
            try clear hx361_0
            try clear hx361_1
            try clear hx371_0
            try clear hx371_1
            try clear hx371_2
            try clear hx371_3
            try clear hx372_0
            try clear hx372_1
            try clear hx372_2
            try clear hx372_3
            try clear hx373_0
            try clear hx373_1
            try clear hx373_2
            try clear hx373_3
            try clear hx374_0
            try clear hx374_1
            try clear hx374_2
            try clear hx374_3
            try clear p2
            try clear p3
            try clear p36
            try clear p360
            try clear p361
            try clear p37
            try clear p371
            try clear p372
            try clear p373
            try clear p374
            try clear p6
            try clear q3
            try clear q36
            try clear q360
            try clear q361
            try clear q37
            try clear q371
            try clear q372
            try clear q373
            try clear q374
            obtain ⟨x3_3, x6_3, rfl, HA, HK3, HO_3, BK353, HB⟩ := hrel
            cases gk with
            | zero => exact absurd HA.out (by simp [palimpsestref16_Bytes.l2])
            | succ k3 =>
             have H := HA.out
             clear HA
             simp only [palimpsestref16_Bytes.l2] at H
             by_cases c68 : x6_3 < (l0_6.length : Int)
             ·rw [if_pos c68] at H
              have c68b0 : decide (x6_3 < (l0_6.length : Int)) = true := decide_eq_true c68
              clear c68
              by_cases c69 : 0 ≤ x6_3
              ·rw [if_pos c69] at H
               have c69b0 : decide (0 ≤ x6_3) = true := decide_eq_true c69
               clear c69
               obtain ⟨y407, hy407⟩ : ∃ y_ : List Int, y_ = (([(rd_T52 l0_6 x6_3).f0, (rd_T52 l0_6 x6_3).f1] : List Int)) := ⟨_, rfl⟩
               replace H : (if x3_3.length + y407.length < 17592186044416 then (palimpsestref16_Bytes.l2 k3 (x3_3 ++ y407) (wrap64 (x6_3 + 1)) a0_0 a0_1 a0_2 a0_3 a0_4 l0_5 l0_6 a0_7 l0_8 l0_9) else (none)) = some r := by first | (rw [hy407]; with_reducible exact H) | (have H2_ := (Option.bind_some _ _).symm.trans H; rw [hy407]; with_reducible exact H2_) | (have H2_ := (Option.bind_some _ _).symm.trans H; with_reducible exact H2_) | with_reducible exact H | (rw [hy407]; exact H) | exact H
               have Ny407 := Aside0.mk hy407
               clear hy407
               by_cases c70 : x3_3.length + y407.length < 17592186044416
               ·rw [if_pos c70] at H
                have LMc70 := Aside0.mk c70
                clear c70
                obtain ⟨y410, hy410⟩ : ∃ y_ : List Int, y_ = (x3_3 ++ y407) := ⟨_, rfl⟩
                replace H : (palimpsestref16_Bytes.l2 k3 y410 (wrap64 (x6_3 + 1)) a0_0 a0_1 a0_2 a0_3 a0_4 l0_5 l0_6 a0_7 l0_8 l0_9) = some r := by first | (rw [hy410]; with_reducible exact H) | (have H2_ := (Option.bind_some _ _).symm.trans H; rw [hy410]; with_reducible exact H2_) | (have H2_ := (Option.bind_some _ _).symm.trans H; with_reducible exact H2_) | with_reducible exact H | (rw [hy410]; exact H) | exact H
                have Ny410 := Aside0.mk hy410
                clear hy410
                have H' := Aside0.mk H
                clear H
                obtain ⟨hcz71_0, hcz71_1, hcz71_2, hcz71_3, hcz71_4, hcz71_5, hcz71_6, hcz71_7, hcz71_8, hcz71_9⟩ := ten_cells BK353.out
                have hfz71 := ten_free BK353.out
                try go_wp2
                have n0_ := Aside0.mk (rZ HO_3.out)
                have n1_ := Aside0.mk (kZ BK353.out)
                have n2_ := Aside0.mk (bD HB.out)
                clear HO_3
                clear BK353
                clear HB
                have HO_3 := n0_
                have BK353 := n1_
                have HB := n2_
                clear n0_ n1_ n2_
                have p405 : 0 ≤ (x6_3 : Int) := of_decide_eq_true (by first | (with_reducible assumption) | assumption)
                have q405 : x6_3 < (l0_6.length : Int) := of_decide_eq_true (by first | (with_reducible assumption) | assumption)
                obtain ⟨ad405, e405, hx405_0, hx405_1⟩ := at_T52 HR0_6.out x6_3 p405 q405
                have hw405_1 := hx405_1
                have hw405_0 := hx405_0
                cases e405
                replace hx405_0 := (HB.out.cell (World.block_lt_of_cell? w _ hx405_0)).trans hx405_0
                replace hx405_1 := (HB.out.cell (World.block_lt_of_cell? w _ hx405_1)).trans hx405_1
                replace p405 := eq_true p405
                replace q405 := eq_true q405
                have p406 : 0 ≤ (x6_3 : Int) := of_decide_eq_true (by first | (with_reducible assumption) | assumption)
                have q406 : x6_3 < (l0_6.length : Int) := of_decide_eq_true (by first | (with_reducible assumption) | assumption)
                obtain ⟨ad406, e406, hx406_0, hx406_1⟩ := at_T52 HR0_6.out x6_3 p406 q406
                have hw406_1 := hx406_1
                have hw406_0 := hx406_0
                obtain rfl : ad405 = ad406 := (by injection e406)
                replace hx406_0 := (HB.out.cell (World.block_lt_of_cell? w _ hx406_0)).trans hx406_0
                replace hx406_1 := (HB.out.cell (World.block_lt_of_cell? w _ hx406_1)).trans hx406_1
                replace p406 := eq_true p406
                replace q406 := eq_true q406
                refine start_ (n := 16) (S := fun w' => w'.cell? ⟨gb353, 0, none⟩ = some (.int .i64 a0_0) ∧ w'.cell? ⟨gb353, 1, none⟩ = some (.int .i64 a0_1) ∧ w'.cell? ⟨gb353, 2, none⟩ = some (.int .i64 a0_2) ∧ w'.cell? ⟨gb353, 3, none⟩ = some (.int .i64 a0_3) ∧ w'.cell? ⟨gb353, 4, none⟩ = some (.int .i64 a0_4) ∧ w'.cell? ⟨gb353, 5, none⟩ = some (.slice A0_5 l0_5.length c0_5) ∧ w'.cell? ⟨gb353, 6, none⟩ = some (.slice (some ad405) l0_6.length c0_6) ∧ w'.cell? ⟨gb353, 7, none⟩ = some (.int .i64 a0_7) ∧ w'.cell? ⟨gb353, 8, none⟩ = some (.slice A0_8 l0_8.length c0_8) ∧ w'.cell? ⟨gb353, 9, none⟩ = some (.slice A0_9 l0_9.length c0_9) ∧ w'.cell? (ad405.add ((x6_3).toNat * 2)) = some (.int .i64 ((rd_T52 l0_6 x6_3).f0)) ∧ w'.cell? ⟨(ad405.add ((x6_3).toNat * 2)).block, (ad405.add ((x6_3).toNat * 2)).off + 1, none⟩ = some (.int .i64 ((rd_T52 l0_6 x6_3).f1)) ∧ w'.cell? (ad405.add ((x6_3).toNat * 2)) = some (.int .i64 ((rd_T52 l0_6 x6_3).f0)) ∧ w'.cell? ⟨(ad405.add ((x6_3).toNat * 2)).block, (ad405.add ((x6_3).toNat * 2)).off + 1, none⟩ = some (.int .i64 ((rd_T52 l0_6 x6_3).f1))) (ds := []) #[false, false, false, false, false, false, false, false, false, false, false, false, false, false, false, false] (by kernel_rfl) rfl rfl ⟨(blk_cell BK353.out 0).trans rfl, (blk_cell BK353.out 1).trans rfl, (blk_cell BK353.out 2).trans rfl, (blk_cell BK353.out 3).trans rfl, (blk_cell BK353.out 4).trans rfl, (blk_cell BK353.out 5).trans rfl, (blk_cell BK353.out 6).trans rfl, (blk_cell BK353.out 7).trans rfl, (blk_cell BK353.out 8).trans rfl, (blk_cell BK353.out 9).trans rfl, ((HB.out.cell (World.block_lt_of_cell? w _ hw405_0)).trans hw405_0), ((HB.out.cell (World.block_lt_of_cell? w _ hw405_1)).trans hw405_1), ((HB.out.cell (World.block_lt_of_cell? w _ hw406_0)).trans hw406_0), ((HB.out.cell (World.block_lt_of_cell? w _ hw406_1)).trans hw406_1)⟩ (fun hHeld => ?_); refine with_tabW palimpsestref16_Bytes.tab24 palimpsestref16_Bytes.bits24 (fun HT_ HW_ => ?_)
                generalize wr.drew = w72 at HO_3 BK353 HB hx405_0 hx405_1 hx406_0 hx406_1 hHeld ⊢
                refine pure_ (i := 0) (N := some 133) (v := ?_) (a' := ?_) #[true, false, false, false, false, false, false, false, false, false, false, false, false, false, false, false] rfl rfl (any_of HT_.out (by kernel_rfl)) (fun _ _ _ h => h) (Or.inl ⟨by rfl, ?_⟩) ?_ ?_
                rotate_left
                ·intro w'
                 go_simp
                 with_reducible rfl
                rotate_left
                ·simp only [Act.put, List.setIfInBounds_toArray, List.set_cons_zero, List.set_cons_succ, i64_w, i32_w]
                 rfl
                refine pure_ (i := 1) (N := some 134) (v := ?_) (a' := ?_) #[true, true, false, false, false, false, false, false, false, false, false, false, false, false, false, false] rfl rfl (any_of HT_.out (by kernel_rfl)) (fun _ _ _ h => h) (Or.inl ⟨by rfl, ?_⟩) ?_ ?_
                rotate_left
                ·intro w'
                 go_simp
                 with_reducible rfl
                rotate_left
                ·simp only [Act.put, List.setIfInBounds_toArray, List.set_cons_zero, List.set_cons_succ, i64_w, i32_w]
                 rfl
                refine pure_ (i := 3) (N := some 136) (v := ?_) (a' := ?_) #[true, true, false, true, false, false, false, false, false, false, false, false, false, false, false, false] rfl rfl (any_of HT_.out (by kernel_rfl)) (fun _ _ _ h => h) (Or.inl ⟨by rfl, ?_⟩) ?_ ?_
                rotate_left
                ·intro w'
                 go_simp
                 with_reducible rfl
                rotate_left
                ·simp only [Act.put, List.setIfInBounds_toArray, List.set_cons_zero, List.set_cons_succ, i64_w, i32_w]
                 rfl
                refine pure_ (i := 7) (N := some 140) (v := ?_) (a' := ?_) #[true, true, false, true, false, false, false, true, false, false, false, false, false, false, false, false] rfl rfl (any_of HT_.out (by kernel_rfl)) (fun _ _ _ h => h) (Or.inl ⟨by rfl, ?_⟩) ?_ ?_
                rotate_left
                ·intro w'
                 go_simp
                 with_reducible rfl
                rotate_left
                ·simp only [Act.put, List.setIfInBounds_toArray, List.set_cons_zero, List.set_cons_succ, i64_w, i32_w]
                 rfl
                refine pure_ (i := 9) (N := some 142) (v := ?_) (a' := ?_) #[true, true, false, true, false, false, false, true, false, true, false, false, false, false, false, false] rfl rfl (any_of HT_.out (by kernel_rfl)) (fun _ _ _ h => h) (Or.inl ⟨by rfl, ?_⟩) ?_ ?_
                rotate_left
                ·intro w'
                 go_simp
                 with_reducible rfl
                rotate_left
                ·simp only [Act.put, List.setIfInBounds_toArray, List.set_cons_zero, List.set_cons_succ, i64_w, i32_w]
                 rfl
                refine take_ (i := 2) (N := some 135) (v := ?_) (a' := ?_) #[true, true, true, true, false, false, false, true, false, true, false, false, false, false, false, false] rfl rfl (take_ofW HT_.out HW_.out (by kernel_rfl)) (fun _ _ _ h => h) (Or.inl ⟨by rfl, ?_⟩) hHeld ?_ ?_
                rotate_left
                ·rintro w' ⟨s0, s1, s2, s3, s4, s5, s6, s7, s8, s9, s10, s11, s12, s13⟩
                 go_simp
                 with_reducible rfl
                rotate_left
                ·simp only [Act.put, List.setIfInBounds_toArray, List.set_cons_zero, List.set_cons_succ, i64_w, i32_w]
                 rfl
                refine pure_ (i := 4) (N := some 137) (v := ?_) (a' := ?_) #[true, true, true, true, true, false, false, true, false, true, false, false, false, false, false, false] rfl rfl (any_of HT_.out (by kernel_rfl)) (fun _ _ _ h => h) (Or.inl ⟨by rfl, ?_⟩) ?_ ?_
                rotate_left
                ·intro w'
                 go_simp
                 with_reducible rfl
                rotate_left
                ·simp only [Act.put, List.setIfInBounds_toArray, List.set_cons_zero, List.set_cons_succ, i64_w, i32_w]
                 rfl
                refine pure_ (i := 5) (N := some 138) (v := ?_) (a' := ?_) #[true, true, true, true, true, true, false, true, false, true, false, false, false, false, false, false] rfl rfl (any_of HT_.out (by kernel_rfl)) (fun _ _ _ h => h) (Or.inl ⟨by rfl, ?_⟩) ?_ ?_
                rotate_left
                ·intro w'
                 go_simp
                 with_reducible rfl
                rotate_left
                ·simp only [Act.put, List.setIfInBounds_toArray, List.set_cons_zero, List.set_cons_succ, i64_w, i32_w]
                 rfl
                refine take_ (i := 6) (N := some 139) (v := ?_) (a' := ?_) #[true, true, true, true, true, true, true, true, false, true, false, false, false, false, false, false] rfl rfl (take_ofW HT_.out HW_.out (by kernel_rfl)) (fun _ _ _ h => h) (Or.inl ⟨by rfl, ?_⟩) hHeld ?_ ?_
                rotate_left
                ·rintro w' ⟨s0, s1, s2, s3, s4, s5, s6, s7, s8, s9, s10, s11, s12, s13⟩
                 go_simp
                 with_reducible rfl
                rotate_left
                ·simp only [Act.put, List.setIfInBounds_toArray, List.set_cons_zero, List.set_cons_succ, i64_w, i32_w]
                 rfl
                refine take_ (i := 8) (N := some 141) (v := ?_) (a' := ?_) #[true, true, true, true, true, true, true, true, true, true, false, false, false, false, false, false] rfl rfl (take_ofW HT_.out HW_.out (by kernel_rfl)) (fun _ _ _ h => h) (Or.inl ⟨by rfl, ?_⟩) hHeld ?_ ?_
                rotate_left
                ·rintro w' ⟨s0, s1, s2, s3, s4, s5, s6, s7, s8, s9, s10, s11, s12, s13⟩
                 go_simp
                 with_reducible rfl
                rotate_left
                ·simp only [Act.put, List.setIfInBounds_toArray, List.set_cons_zero, List.set_cons_succ, i64_w, i32_w]
                 rfl
                refine pure_ (i := 10) (N := some 143) (v := ?_) (a' := ?_) #[true, true, true, true, true, true, true, true, true, true, true, false, false, false, false, false] rfl rfl (any_of HT_.out (by kernel_rfl)) (fun _ _ _ h => h) (Or.inl ⟨by rfl, ?_⟩) ?_ ?_
                rotate_left
                ·intro w'
                 go_simp
                 with_reducible rfl
                rotate_left
                ·simp only [Act.put, List.setIfInBounds_toArray, List.set_cons_zero, List.set_cons_succ, i64_w, i32_w]
                 rfl
                refine pure_ (i := 11) (N := some 144) (v := ?_) (a' := ?_) #[true, true, true, true, true, true, true, true, true, true, true, true, false, false, false, false] rfl rfl (any_of HT_.out (by kernel_rfl)) (fun _ _ _ h => h) (Or.inl ⟨by rfl, ?_⟩) ?_ ?_
                rotate_left
                ·intro w'
                 go_simp
                 with_reducible rfl
                rotate_left
                ·simp only [Act.put, List.setIfInBounds_toArray, List.set_cons_zero, List.set_cons_succ, i64_w, i32_w]
                 rfl
                refine take_ (i := 12) (N := some 145) (v := ?_) (a' := ?_) #[true, true, true, true, true, true, true, true, true, true, true, true, true, false, false, false] rfl rfl (take_ofW HT_.out HW_.out (by kernel_rfl)) (fun _ _ _ h => h) (Or.inl ⟨by rfl, ?_⟩) hHeld ?_ ?_
                rotate_left
                ·rintro w' ⟨s0, s1, s2, s3, s4, s5, s6, s7, s8, s9, s10, s11, s12, s13⟩
                 go_simp
                 with_reducible rfl
                rotate_left
                ·simp only [Act.put, List.setIfInBounds_toArray, List.set_cons_zero, List.set_cons_succ, i64_w, i32_w]
                 rfl
                refine one_ (i := 13) (N := some 146) #[true, true, true, true, true, true, true, true, true, true, true, true, true, true, false, false] rfl rfl (one_of HT_.out (by kernel_rfl)) (by decide) (fun K hK => ?_)
                refine Kd.R_lit_step (Kd.int .i64) _ 3 ?hg (N := 146) ?hd (xs := ([(rd_T52 l0_6 x6_3).f0, (rd_T52 l0_6 x6_3).f1] : List Int)) (inner := [.int .i64 ((rd_T52 l0_6 x6_3).f0), .int .i64 ((rd_T52 l0_6 x6_3).f1)]) (ok := fun _ => True) (okp := fun _ => True) ?hr ?hp (fun _ hk => hk) trivial (Below.refl _ _) (Nat.le_refl _) (by simp) ?_; (case hd => rfl); (case hg => rfl); (case hr => first | (go_simp; done) | (go_simp; rfl)); (case hp => exact (Reps.one (show Kd.M (Kd.int .i64) _ _ _ ((rd_T52 l0_6 x6_3).f0) [.int .i64 ((rd_T52 l0_6 x6_3).f0)] from rfl) (Reps.one (show Kd.M (Kd.int .i64) _ _ _ ((rd_T52 l0_6 x6_3).f1) [.int .i64 ((rd_T52 l0_6 x6_3).f1)] from rfl) (Reps.none _ _))))
                intro v408 w73 ho74 hb hg_ hnew_
                clear hg_ hnew_
                (first | rw [← Ny407.out] at ho74 | (simp only [Int.reduceToNat] at ho74; rw [← Ny407.out] at ho74))
                have n0_ := Aside0.mk (Kd.R_elder' (by (with_reducible repeat (first | apply rA | apply rN | apply rZ)); exact HO_3.out) (Kd.R_base ho74) hb)
                have n1_ := Aside0.mk (Kd.R_lower (Kd.R_new' ho74 (Kd.R_lt (by (with_reducible repeat (first | apply rA | apply rN | apply rZ)); exact HO_3.out))) (below_size (by repeat (first | (with_reducible first | exact HB.out | apply bA | apply bN | apply bD | refine bS ?_ GE353.out) | exact HB.out))))
                have n2_ := Aside0.mk (blk_below (g := gb353) (o := .cells #[.int .i64 a0_0, .int .i64 a0_1, .int .i64 a0_2, .int .i64 a0_3, .int .i64 a0_4, .slice A0_5 l0_5.length c0_5, .slice (some ad405) l0_6.length c0_6, .int .i64 a0_7, .slice A0_8 l0_8.length c0_8, .slice A0_9 l0_9.length c0_9] 30 (0, 0)) (by (with_reducible repeat (first | refine kN ?_ _ | refine kZ ?_ | refine kA ?_ _)); exact BK353.out) hb)
                have n3_ := Aside0.mk (below_step (by repeat (first | (with_reducible first | exact HB.out | apply bA | apply bN | apply bD | refine bS ?_ GE353.out) | exact HB.out)) hb)
                clear HO_3
                clear BK353
                clear HB
                have HO_3 := n0_
                have HO409 := n1_
                have BK353 := n2_
                have HB := n3_
                clear n0_ n1_ n2_ n3_
                clear hb ho74
                obtain ⟨Ao76, co76, eo76⟩ := Kd.R_slice HO409.out
                (first | subst eo76 | (injection eo76 with f1_ f2_ f3_; have f4_ := f1_.symm; have f5_ := f3_.symm; clear f1_ f2_ f3_; subst f4_; subst f5_))
                refine hK.out _ _ ⟨(blk_cell BK353.out 0).trans rfl, (blk_cell BK353.out 1).trans rfl, (blk_cell BK353.out 2).trans rfl, (blk_cell BK353.out 3).trans rfl, (blk_cell BK353.out 4).trans rfl, (blk_cell BK353.out 5).trans rfl, (blk_cell BK353.out 6).trans rfl, (blk_cell BK353.out 7).trans rfl, (blk_cell BK353.out 8).trans rfl, (blk_cell BK353.out 9).trans rfl, ((HB.out.cell (World.block_lt_of_cell? w _ hw405_0)).trans hw405_0), ((HB.out.cell (World.block_lt_of_cell? w _ hw405_1)).trans hw405_1), ((HB.out.cell (World.block_lt_of_cell? w _ hw406_0)).trans hw406_0), ((HB.out.cell (World.block_lt_of_cell? w _ hw406_1)).trans hw406_1)⟩ (fun hHeld => ?_)
                clear hK K
                refine norm_ (a' := ?_) ?_ ?_
                rotate_left
                ·show Act.put _ (some 146) _ = _
                 simp only [Act.put, List.setIfInBounds_toArray, List.set_cons_zero, List.set_cons_succ, i64_w, i32_w]
                 rfl
                refine one_ (i := 14) (N := some 147) #[true, true, true, true, true, true, true, true, true, true, true, true, true, true, true, false] rfl rfl (one_of HT_.out (by kernel_rfl)) (by decide) (fun K hK => ?_)
                refine Kd.R_append_rows_step (Kd.int .i64) (w0 := w) w.heap.size (by rfl) (.tmp 133) (.tmp 146) 25 3 (.int .i64 0) 8 rfl Try.underlying25 info3 rfl (by decide) (by omega) u3 x3_3 y407 _ _ _ (fun k_ => some k_ ≠ (.slice Ao76 y407.length co76 : Value).ownBlock) (fun _ => False) rfl rfl ?aO ?aR (fun _ _ h => h) (fun _ h => h.elim) ?aF ?aB ?aS ?aL ?_
                (case aR => repeat (first | exact (Kd.R_reads' HO409.out).2.2 | (with_reducible refine qA ?_ _) | (with_reducible refine qN ?_ _) | (with_reducible refine qZ ?_)))
                (case aB => exact (by repeat (first | (with_reducible first | exact HB.out | apply bA | apply bN | apply bD | refine bS ?_ GE353.out) | exact HB.out)))
                (case aF => exact (fun k_ hk => Kd.fresh' (Kd.R_lt (by (with_reducible repeat (first | apply rA | apply rN | apply rZ)); exact HO409.out)) k_ hk))
                (case aO => exact (by (with_reducible repeat (first | apply rA | apply rN | apply rZ)); exact Kd.R_mono HO_3.out (fun _ hk => hk.2)))
                (case aS => exact (below_size (by repeat (first | (with_reducible first | exact HB.out | apply bA | apply bN | apply bD | refine bS ?_ GE353.out) | exact HB.out))))
                (case aL => have := LMc70.out; omega)
                intro v411 w75 ho hb hg hat
                rw [← Ny410.out] at ho
                have n0_ := Aside0.mk (blk_grown (g := gb353) (o := .cells #[.int .i64 a0_0, .int .i64 a0_1, .int .i64 a0_2, .int .i64 a0_3, .int .i64 a0_4, .slice A0_5 l0_5.length c0_5, .slice (some ad405) l0_6.length c0_6, .int .i64 a0_7, .slice A0_8 l0_8.length c0_8, .slice A0_9 l0_9.length c0_9] 30 (0, 0)) (by (with_reducible repeat (first | refine kN ?_ _ | refine kZ ?_ | refine kA ?_ _)); exact BK353.out) hg (Kd.R_ne HO_3.out BK353.out (by decide)))
                have n1_ := Aside0.mk (Kd.R_after (ok := (fun _ => True)) (by (with_reducible repeat (first | apply rA | apply rN | apply rZ)); exact HO409.out) hg hat)
                have n2_ := Aside0.mk (hb)
                have n3_ := Aside0.mk (ho)
                clear BK353
                clear HO409
                clear HB
                clear HO_3
                have BK353 := n0_
                have HO409 := n1_
                have HB := n2_
                have HO412 := n3_
                clear n0_ n1_ n2_ n3_
                clear ho hb hg hat
                refine hK.out _ _ ⟨(blk_cell BK353.out 0).trans rfl, (blk_cell BK353.out 1).trans rfl, (blk_cell BK353.out 2).trans rfl, (blk_cell BK353.out 3).trans rfl, (blk_cell BK353.out 4).trans rfl, (blk_cell BK353.out 5).trans rfl, (blk_cell BK353.out 6).trans rfl, (blk_cell BK353.out 7).trans rfl, (blk_cell BK353.out 8).trans rfl, (blk_cell BK353.out 9).trans rfl, ((HB.out.cell (World.block_lt_of_cell? w _ hw405_0)).trans hw405_0), ((HB.out.cell (World.block_lt_of_cell? w _ hw405_1)).trans hw405_1), ((HB.out.cell (World.block_lt_of_cell? w _ hw406_0)).trans hw406_0), ((HB.out.cell (World.block_lt_of_cell? w _ hw406_1)).trans hw406_1)⟩ (fun hHeld => ?_)
                clear hK K
                refine norm_ (a' := ?_) ?_ ?_
                rotate_left
                ·show Act.put _ (some 147) _ = _
                 simp only [Act.put, List.setIfInBounds_toArray, List.set_cons_zero, List.set_cons_succ, i64_w, i32_w]
                 rfl
                refine pure_ (i := 15) (N := some 3) (v := ?_) (a' := ?_) #[true, true, true, true, true, true, true, true, true, true, true, true, true, true, true, true] rfl rfl (any_of HT_.out (by kernel_rfl)) (fun _ _ _ h => h) (Or.inl ⟨by rfl, ?_⟩) ?_ ?_
                rotate_left
                ·intro w'
                 go_simp
                 with_reducible rfl
                rotate_left
                ·simp only [Act.put, List.setIfInBounds_toArray, List.set_cons_zero, List.set_cons_succ, i64_w, i32_w]
                 rfl
                refine done_ (done_of HT_.out (by kernel_rfl)) ?_
                try go_wp2
                go_roundg k3
                case measure => have := HJ35.out; have := HJ50.out; have := HK3.out; omega
                case rel => exact ⟨(y410), (wrap64 (x6_3 + 1)), (by first | rfl | (simp; done) | (simp [*]; done)), H', ⟨by have := HJ35.out; have := HJ50.out; have := HK3.out; omega⟩, ⟨by (with_reducible repeat (first | apply rA | apply rN | apply rZ)); exact Kd.R_mono HO412.out (fun _ hk => trivial)⟩, ⟨by (with_reducible repeat (first | refine kN ?_ _ | refine kZ ?_ | refine kA ?_ _)); exact BK353.out⟩, ⟨by repeat (first | (with_reducible first | exact HB.out | apply bA | apply bN | apply bD | refine bS ?_ GE353.out) | exact HB.out)⟩⟩
               ·rw [if_neg c70] at H
                exact absurd H (by simp)
              ·rw [if_neg c69] at H
               exact absurd H (by simp)
             ·rw [if_neg c68] at H
              have c68b0 : decide (x6_3 < (l0_6.length : Int)) = false := decide_eq_false c68
              clear c68
              replace H := Option.bind_eq_some_iff.mp H
              obtain ⟨t413, A770, H⟩ := H
              replace H : (some t413) = some r := H
              have A77 := Aside0.mk A770
              clear A770
              obtain rfl := Option.some.inj H
              obtain ⟨hcz78_0, hcz78_1, hcz78_2, hcz78_3, hcz78_4, hcz78_5, hcz78_6, hcz78_7, hcz78_8, hcz78_9⟩ := ten_cells BK353.out
              have hfz78 := ten_free BK353.out
              obtain ⟨Ao79, co79, eo79⟩ := Kd.R_slice HO_3.out
              subst eo79
              go_wp2_with (first | ((with_reducible refine gate_callee (f := 49) rfl ?_); refine goesL_ (some 149) rfl rfl Try.func49 (by kernel_rfl) rfl #[.slice none 0 0, .slice Ao79 x3_3.length co79] rfl (by (try simp only [List.map_toArray, List.map_cons, List.map_nil]); first | done | rfl | (simp only [List.length_drop, List.length_take]; rfl)) ?_; (refine (palimpsestref02_Put.calls k3 _ _ ([] : List Int) _ _ x3_3 t413 _ ?side1 ?side2 ?side3 ?side4 A77.out).mono ?_); (case side1 => exact Kd.C_nil _ _); (case side2 => exact Nat.le_refl _); (case side3 => repeat (first | exact (Kd.R_reads' HO_3.out).2.2 | (with_reducible refine qA ?_ _) | (with_reducible refine qN ?_ _) | (with_reducible refine qZ ?_))); (case side4 => exact (Kd.R_reads' HO_3.out).2.1); rintro e w80 ⟨v414, rfl, ho0, hb⟩; refine ⟨_, rfl, ?_⟩; have n0_ := Aside0.mk (Kd.R_below (by (with_reducible repeat (first | apply rA | apply rN | apply rZ)); exact HO_3.out) hb); have n1_ := Aside0.mk (Kd.R_lower ho0 (below_size (by repeat (first | (with_reducible first | exact HB.out | apply bA | apply bN | apply bD | refine bS ?_ GE353.out) | exact HB.out)))); have n2_ := Aside0.mk (blk_below (g := gb353) (o := .cells #[.int .i64 a0_0, .int .i64 a0_1, .int .i64 a0_2, .int .i64 a0_3, .int .i64 a0_4, .slice A0_5 l0_5.length c0_5, .slice A0_6 l0_6.length c0_6, .int .i64 a0_7, .slice A0_8 l0_8.length c0_8, .slice A0_9 l0_9.length c0_9] 30 (0, 0)) (by (with_reducible repeat (first | refine kN ?_ _ | refine kZ ?_ | refine kA ?_ _)); exact BK353.out) hb); have n3_ := Aside0.mk (below_step (by repeat (first | (with_reducible first | exact HB.out | apply bA | apply bN | apply bD | refine bS ?_ GE353.out) | exact HB.out)) hb); clear HO_3; clear BK353; clear HB; have HO_3 := n0_; have HO415 := n1_; have BK353 := n2_; have HB := n3_; clear n0_ n1_ n2_ n3_; (try clear hb); (try clear hb2); (try clear hk); (try clear hi); (try clear ho0)))
              go_ret
              exact ⟨_, by first | rfl | (simp [errW_none, errW_some] <;> rfl) | (simp [*, errW_none, errW_some] <;> rfl), by (with_reducible repeat (first | apply rA | apply rN | apply rZ)); exact HO415.out, by repeat (first | (with_reducible first | exact HB.out | apply bA | apply bN | apply bD | refine bS ?_ GE353.out) | exact HB.out)⟩
          ·rw [if_neg c58] at H
           exact absurd H (by simp)
         ·rw [if_neg c57] at H
          exact absurd H (by simp)
        ·rw [if_neg c56] at H
         exact absurd H (by simp)
       ·replace c55 := Bool.eq_false_iff.mpr c55
        subst c55
        have H1 : ((palimpsestref02_Put.f kj50 ([] : List Int) x3_35).bind fun t416 => (some t416)) = some r := by rw [if_neg (show ¬ (false = true) by decide)] at H; exact H
        clear H
        have H := H1
        clear H1
        replace H := Option.bind_eq_some_iff.mp H
        obtain ⟨t416, A810, H⟩ := H
        replace H : (some t416) = some r := H
        have A81 := Aside0.mk A810
        clear A810
        obtain rfl := Option.some.inj H
        obtain ⟨Ao82, co82, eo82⟩ := Kd.R_slice HO_3.out
        subst eo82
        go_wp2_with (first | ((with_reducible refine gate_callee (f := 49) rfl ?_); refine goesL_ (some 149) rfl rfl Try.func49 (by kernel_rfl) rfl #[.slice none 0 0, .slice Ao82 x3_35.length co82] rfl (by (try simp only [List.map_toArray, List.map_cons, List.map_nil]); first | done | rfl | (simp only [List.length_drop, List.length_take]; rfl)) ?_; (refine (palimpsestref02_Put.calls kj50 _ _ ([] : List Int) _ _ x3_35 t416 _ ?side1 ?side2 ?side3 ?side4 A81.out).mono ?_); (case side1 => exact Kd.C_nil _ _); (case side2 => exact Nat.le_refl _); (case side3 => repeat (first | exact (Kd.R_reads' HO_3.out).2.2 | (with_reducible refine qA ?_ _) | (with_reducible refine qN ?_ _) | (with_reducible refine qZ ?_))); (case side4 => exact (Kd.R_reads' HO_3.out).2.1); rintro e w83 ⟨v417, rfl, ho0, hb⟩; refine ⟨_, rfl, ?_⟩; have n0_ := Aside0.mk (Kd.R_below (by (with_reducible repeat (first | apply rA | apply rN | apply rZ)); exact HO_3.out) hb); have n1_ := Aside0.mk (Kd.R_lower ho0 (below_size (by repeat (first | (with_reducible first | exact HB.out | apply bA | apply bN | apply bD | refine bS ?_ GE353.out) | exact HB.out)))); have n2_ := Aside0.mk (blk_below (g := gb353) (o := .cells #[.int .i64 a0_0, .int .i64 a0_1, .int .i64 a0_2, .int .i64 a0_3, .int .i64 a0_4, .slice A0_5 l0_5.length c0_5, .slice A0_6 l0_6.length c0_6, .int .i64 a0_7, .slice A0_8 l0_8.length c0_8, .slice A0_9 l0_9.length c0_9] 30 (0, 0)) (by (with_reducible repeat (first | refine kN ?_ _ | refine kZ ?_ | refine kA ?_ _)); exact BK353.out) hb); have n3_ := Aside0.mk (below_step (by repeat (first | (with_reducible first | exact HB.out | apply bA | apply bN | apply bD | refine bS ?_ GE353.out) | exact HB.out)) hb); clear HO_3; clear BK353; clear HB; have HO_3 := n0_; have HO418 := n1_; have BK353 := n2_; have HB := n3_; clear n0_ n1_ n2_ n3_; (try clear hb); (try clear hb2); (try clear hk); (try clear hi); (try clear ho0)))
        go_ret
        exact ⟨_, by first | rfl | (simp [errW_none, errW_some] <;> rfl) | (simp [*, errW_none, errW_some] <;> rfl), by (with_reducible repeat (first | apply rA | apply rN | apply rZ)); exact HO418.out, by repeat (first | (with_reducible first | exact HB.out | apply bA | apply bN | apply bD | refine bS ?_ GE353.out) | exact HB.out)⟩
  ·rw [if_neg c35] at H
   exact absurd H (by simp)
end Go.Proofs.Ytcplblpmgajmnaa.A
namespace Go.Proofs.Ytcplblpmgajmnaa.A
open Go.RowKit Go.Proofs.YtcplblpmgajmnaaW.PrintWords Go.Proofs.YtcplblpmgajmnaaW.PrintLast Go.Proofs.YtcplblpmgajmnaaW.PrintMore
set_option linter.unusedVariables false
set_option linter.unusedSimpArgs false
theorem number_f {x : Int} (h : I64 x) : palimpsestref02_Number.f x = some (enc x) := by
  unfold palimpsestref02_Number.f
  exact if_pos h
theorem enc_ten {x : Int} (h : I64 x) : (enc x).length ≤ 10 := digits_len10 (zig_lt h.1 h.2)
theorem rput_l0 (xs : List Int) (hl : xs.length ≤ 50000) (hr : ∀ x ∈ xs, I64 x) : ∀ (d i k : Nat) (acc : List Int), i + d = xs.length → acc.length + 10 * d ≤ 600000 → d < k →
    palimpsestref02_Put.l0 k xs acc (i : Int) = some (acc ++ (xs.drop i).flatMap enc) := by
  intro d
  induction d with
  | zero =>
    intro i k acc hd ha hk
    obtain ⟨k, rfl⟩ : ∃ m, k = m + 1 := ⟨k - 1, by omega⟩
    rw [List.drop_eq_nil_of_le (by omega), List.flatMap_nil, List.append_nil, palimpsestref02_Put.l0, if_neg (by omega)]
  | succ d ih =>
    intro i k acc hd ha hk
    obtain ⟨k, rfl⟩ : ∃ m, k = m + 1 := ⟨k - 1, by omega⟩
    have hlt : i < xs.length := by omega
    have e : rd xs (i : Int) = xs[i] := by
      show xs.getD i 0 = _
      rw [List.getD_eq_getElem?_getD, List.getElem?_eq_getElem hlt]; rfl
    have hx : I64 xs[i] := hr _ (List.getElem_mem hlt)
    have h10 := enc_ten hx
    rw [List.drop_eq_getElem_cons hlt, List.flatMap_cons, ← List.append_assoc]
    rw [palimpsestref02_Put.l0, if_pos (by omega), if_pos (by omega), e, number_f hx, Option.bind_some, if_pos (by omega), wr_succ hlt (by omega), ih (i + 1) k _ (by omega) (by rw [List.length_append]; omega) (by omega)]
theorem RPut_f {xs : List Int} (hr : ∀ x ∈ xs, I64 x) (hl : xs.length ≤ 50000) (k : Nat) (hk : xs.length < k) : palimpsestref02_Put.f k [] xs = some (xs.flatMap enc) := by
  unfold palimpsestref02_Put.f
  rw [Option.bind_some, if_pos (by simp)]
  exact rput_l0 xs hl hr xs.length 0 k [] (by omega) (by simp; omega) hk
theorem rbytes_l2 (im : List S52) (hl : im.length ≤ 5000) (a0 a1 a2 a3 a4 : Int) (a5 : List Int) (a7 : Int) (a8 : List S54) (a9 : List S56) : ∀ (d i k : Nat) (acc : List Int), i + d = im.length → (∀ x ∈ acc ++ imgNums (im.drop i), I64 x) → acc.length + 2 * d ≤ 50000 → 60000 + d < k →
    palimpsestref16_Bytes.l2 k acc (i : Int) a0 a1 a2 a3 a4 a5 im a7 a8 a9 = some ((acc ++ imgNums (im.drop i)).flatMap enc) := by
  intro d
  induction d with
  | zero =>
    intro i k acc hd hr ha hk
    obtain ⟨k, rfl⟩ : ∃ m, k = m + 1 := ⟨k - 1, by omega⟩
    rw [List.drop_eq_nil_of_le (by omega)] at hr ⊢
    simp only [imgNums, List.flatMap_nil, List.append_nil] at hr ⊢
    rw [palimpsestref16_Bytes.l2, if_neg (by omega), RPut_f hr (by omega) k (by omega)]
    rfl
  | succ d ih =>
    intro i k acc hd hr ha hk
    obtain ⟨k, rfl⟩ : ∃ m, k = m + 1 := ⟨k - 1, by omega⟩
    have hlt : i < im.length := by omega
    have e : imgNums (im.drop i) = [(rd_T52 im (i : Int)).f0, (rd_T52 im (i : Int)).f1] ++ imgNums (im.drop (i + 1)) := by
      rw [List.drop_eq_getElem_cons hlt]
      have : rd_T52 im (i : Int) = im[i] := by
        show im.getD i z52 = _
        rw [List.getD_eq_getElem?_getD, List.getElem?_eq_getElem hlt]; rfl
      rw [this]
      rfl
    rw [e, ← List.append_assoc] at hr ⊢
    rw [palimpsestref16_Bytes.l2, if_pos (by omega), if_pos (by omega), Option.bind_some, if_pos (by simp; omega), wr_succ hlt (by omega), ih (i + 1) k _ (by omega) hr (by simp; omega) (by omega)]
theorem rbytes_l1 (ac : List S56) (hl : ac.length ≤ 5000) (a0 a1 a2 a3 a4 : Int) (a5 : List Int) (a6 : List S52) (a7 : Int) (a8 : List S54) : ∀ (d i k : Nat) (acc : List Int), i + d = ac.length → (∀ x ∈ acc ++ activeNums (ac.drop i), I64 x) → acc.length + 4 * d ≤ 50000 → 60000 + d < k →
    palimpsestref16_Bytes.l1 k acc (i : Int) a0 a1 a2 a3 a4 a5 a6 a7 a8 ac = some ((acc ++ activeNums (ac.drop i)).flatMap enc) := by
  intro d
  induction d with
  | zero =>
    intro i k acc hd hr ha hk
    obtain ⟨k, rfl⟩ : ∃ m, k = m + 1 := ⟨k - 1, by omega⟩
    rw [List.drop_eq_nil_of_le (by omega)] at hr ⊢
    simp only [activeNums, List.flatMap_nil, List.append_nil] at hr ⊢
    rw [palimpsestref16_Bytes.l1, if_neg (by omega), RPut_f hr (by omega) k (by omega)]
    rfl
  | succ d ih =>
    intro i k acc hd hr ha hk
    obtain ⟨k, rfl⟩ : ∃ m, k = m + 1 := ⟨k - 1, by omega⟩
    have hlt : i < ac.length := by omega
    have e : activeNums (ac.drop i) = [(rd_T56 ac (i : Int)).f0, (rd_T56 ac (i : Int)).f1, (rd_T56 ac (i : Int)).f2, (rd_T56 ac (i : Int)).f3] ++ activeNums (ac.drop (i + 1)) := by
      rw [List.drop_eq_getElem_cons hlt]
      have : rd_T56 ac (i : Int) = ac[i] := by
        show ac.getD i z56 = _
        rw [List.getD_eq_getElem?_getD, List.getElem?_eq_getElem hlt]; rfl
      rw [this]
      rfl
    rw [e, ← List.append_assoc] at hr ⊢
    rw [palimpsestref16_Bytes.l1, if_pos (by omega), if_pos (by omega), Option.bind_some, if_pos (by simp; omega), wr_succ hlt (by omega), ih (i + 1) k _ (by omega) hr (by simp; omega) (by omega)]
theorem rbytes_l0 (a0 a1 a2 a3 a4 : Int) (a5 : List Int) (a6 : List S52) (a7 : Int) (di : List S54) (ac : List S56) (hl : di.length ≤ 5000) (hla : ac.length ≤ 5000) : ∀ (d i k : Nat) (acc : List Int), i + d = di.length →
    (∀ x ∈ acc ++ dirtyNums (di.drop i) ++ [(ac.length : Int)] ++ activeNums ac, I64 x) → acc.length + 2 * d ≤ 20000 → 70000 + d < k →
    palimpsestref16_Bytes.l0 k acc (i : Int) a0 a1 a2 a3 a4 a5 a6 a7 di ac = some ((acc ++ dirtyNums (di.drop i) ++ [(ac.length : Int)] ++ activeNums ac).flatMap enc) := by
  intro d
  induction d with
  | zero =>
    intro i k acc hd hr ha hk
    obtain ⟨k, rfl⟩ : ∃ m, k = m + 1 := ⟨k - 1, by omega⟩
    rw [List.drop_eq_nil_of_le (by omega)] at hr ⊢
    simp only [dirtyNums, List.flatMap_nil, List.append_nil] at hr ⊢
    rw [palimpsestref16_Bytes.l0, if_neg (by omega), if_pos (by omega)]
    exact rbytes_l1 ac hla _ _ _ _ _ _ _ _ _ ac.length 0 k _ (by omega) hr (by simp; omega) (by omega)
  | succ d ih =>
    intro i k acc hd hr ha hk
    obtain ⟨k, rfl⟩ : ∃ m, k = m + 1 := ⟨k - 1, by omega⟩
    have hlt : i < di.length := by omega
    have e : dirtyNums (di.drop i) = [(rd_T54 di (i : Int)).f0, (rd_T54 di (i : Int)).f1] ++ dirtyNums (di.drop (i + 1)) := by
      rw [List.drop_eq_getElem_cons hlt]
      have : rd_T54 di (i : Int) = di[i] := by
        show di.getD i z54 = _
        rw [List.getD_eq_getElem?_getD, List.getElem?_eq_getElem hlt]; rfl
      rw [this]
      rfl
    rw [e, ← List.append_assoc] at hr ⊢
    rw [palimpsestref16_Bytes.l0, if_pos (by omega), if_pos (by omega), Option.bind_some, if_pos (by simp; omega), wr_succ hlt (by omega), ih (i + 1) k _ (by omega) hr (by simp; omega) (by omega)]
theorem rbytes_j3 {r : Rec} (h : r.Fits) (acc : List Int) (b : Bool) (a0 a1 a2 : Int) (a7 : Int) (a8 : List S54) (a9 : List S56) (hr : ∀ x ∈ acc, I64 x) (ha : acc.length ≤ 10) (k : Nat) (hk : 80000 < k) :
    palimpsestref16_Bytes.j3 k acc b a0 a1 a2 r.g r.o r.args r.imgs a7 a8 a9 = some ((if b = true then acc ++ r.body else acc).flatMap enc) := by
  obtain ⟨k, rfl⟩ : ∃ m, k = m + 1 := ⟨k - 1, by omega⟩
  have h1 := h.largs
  have h2 := h.limgs
  rw [palimpsestref16_Bytes.j3]
  cases b with
  | false => rw [if_neg (by simp), if_neg (by simp), RPut_f hr (by omega) k (by omega)]; rfl
  | true =>
    rw [if_pos rfl, if_pos rfl, Option.bind_some, if_pos (by simp; omega), Option.bind_some, if_pos (by simp; omega), Option.bind_some, if_pos (by simp; omega)]
    have e : acc ++ [r.g, r.o, (r.args.length : Int)] ++ r.args ++ [(r.imgs.length : Int)] ++ imgNums (r.imgs.drop 0) = acc ++ r.body := by simp [Rec.body]
    have hf : ∀ x ∈ acc ++ r.body, I64 x := fun x hx => (List.mem_append.1 hx).elim (hr x) (h.body_fits x)
    have := rbytes_l2 r.imgs h2 a0 a1 a2 r.g r.o r.args a7 a8 a9 r.imgs.length 0 k (acc ++ [r.g, r.o, (r.args.length : Int)] ++ r.args ++ [(r.imgs.length : Int)]) (by omega) (by rw [e]; exact hf) (by simp; omega) (by omega)
    rw [e] at this
    exact this
theorem Bytes_f {r : Rec} (h : r.Fits) (k : Nat) (hk : 90000 < k) : palimpsestref16_Bytes.f k r.k r.t r.p r.g r.o r.args r.imgs r.n r.di r.ac = some r.bytes := by
  have hf := h.nums_fits
  unfold palimpsestref16_Bytes.f Rec.bytes
  rw [Option.bind_some]
  by_cases h5 : r.k = 5
  · have en : r.nums = [r.k, (r.di.length : Int)] ++ dirtyNums r.di ++ [(r.ac.length : Int)] ++ activeNums r.ac := by unfold Rec.nums; rw [if_pos h5]
    rw [en] at hf ⊢
    rw [if_pos h5, if_pos (by simp)]
    exact rbytes_l0 _ _ _ _ _ _ _ _ r.di r.ac h.ldi h.lac r.di.length 0 k _ (by omega) hf (by have := h.ldi; simp; omega) (by have := h.ldi; omega)
  · obtain ⟨k, rfl⟩ : ∃ m, k = m + 1 := ⟨k - 1, by omega⟩
    rw [if_neg h5, Option.bind_some, if_pos (by simp), Option.bind_some]
    by_cases h2 : r.k = 2
    · rw [if_pos h2, if_pos (by simp), palimpsestref16_Bytes.j2, if_neg (by omega), rbytes_j3 h _ _ _ _ _ _ _ _ (by intro x hx; exact hf x (by unfold Rec.nums; rw [if_neg h5, if_pos h2]; exact List.mem_append_left _ hx)) (by simp) k (by omega)]
      unfold Rec.nums
      rw [if_neg h5, if_pos h2, if_pos (by simp [h2])]
      rfl
    · rw [if_neg h2, palimpsestref16_Bytes.j2]
      by_cases h1 : r.k = 1
      · rw [if_pos h1, rbytes_j3 h _ _ _ _ _ _ _ _ (by intro x hx; exact hf x (by unfold Rec.nums; rw [if_neg h5, if_neg h2, if_pos h1]; exact List.mem_append_left _ hx)) (by simp) k (by omega)]
        unfold Rec.nums
        rw [if_neg h5, if_neg h2, if_pos h1, if_pos rfl]
        rfl
      · rw [if_neg h1, rbytes_j3 h _ _ _ _ _ _ _ _ (by intro x hx; exact hf x (by unfold Rec.nums; rw [if_neg h5, if_neg h2, if_neg h1]; exact hx)) (by simp) k (by omega)]
        unfold Rec.nums
        rw [if_neg h5, if_neg h2, if_neg h1, if_neg (by simp [h2])]
        rfl
end Go.Proofs.Ytcplblpmgajmnaa.A
namespace Go.Proofs.Ytcplblpmgajmnaa.A
open Go.RowKit Go.Proofs.YtcplblpmgajmnaaW.PrintWords Go.Proofs.YtcplblpmgajmnaaW.PrintLast Go.Proofs.YtcplblpmgajmnaaW.PrintMore
attribute [local go_sem] max2_int min2_int max_two min_two max_three min_three max_four min_four
set_option linter.unusedVariables false
set_option linter.unusedSimpArgs false
def palimpsestref16_bare.j0 : Nat → Bool → Bool → Bool → Int → Int → Int → Int → Int → List Int → List (S52) → Int → List (S54) → List (S56) → Option (Bool)
 | 0, _, _, _, _, _, _, _, _, _, _, _, _, _ => none
 | k + 1, x2, x3, x32, x336000, x336001, x336002, x336003, x336004, x336005, x336006, x336007, x336008, x336009 => if x32 = true then (some false) else (if x2 = true then (if x3 = true then (some true) else (if (x336008.length : Int) = 0 then (some ((x336009.length : Int) == 0)) else (some false))) else (if x336007 = 0 then (if x3 = true then (some true) else (if (x336008.length : Int) = 0 then (some ((x336009.length : Int) == 0)) else (some false))) else (some false)))
def palimpsestref16_bare.f (k : Nat) (a0_0 : Int) (a0_1 : Int) (a0_2 : Int) (a0_3 : Int) (a0_4 : Int) (l0_5 : List Int) (l0_6 : List (S52)) (a0_7 : Int) (l0_8 : List (S54)) (l0_9 : List (S56)) (a1 : Bool) (a2 : Bool) (a3 : Bool) : Option (Bool) := if a1 = true then (palimpsestref16_bare.j0 k a2 a3 false a0_0 a0_1 a0_2 a0_3 a0_4 l0_5 l0_6 a0_7 l0_8 l0_9) else (if a0_3 = 0 then (if a0_4 = 0 then (if (l0_5.length : Int) > 0 then (palimpsestref16_bare.j0 k a2 a3 true a0_0 a0_1 a0_2 a0_3 a0_4 l0_5 l0_6 a0_7 l0_8 l0_9) else (palimpsestref16_bare.j0 k a2 a3 (decide ((l0_6.length : Int) > 0)) a0_0 a0_1 a0_2 a0_3 a0_4 l0_5 l0_6 a0_7 l0_8 l0_9)) else (palimpsestref16_bare.j0 k a2 a3 true a0_0 a0_1 a0_2 a0_3 a0_4 l0_5 l0_6 a0_7 l0_8 l0_9)) else (palimpsestref16_bare.j0 k a2 a3 true a0_0 a0_1 a0_2 a0_3 a0_4 l0_5 l0_6 a0_7 l0_8 l0_9))
set_option maxHeartbeats 8000000 in
set_option maxRecDepth 100000 in
theorem palimpsestref16_bare.calls (k : Nat) (a0_0 : Int) (a0_1 : Int) (a0_2 : Int) (a0_3 : Int) (a0_4 : Int) (A0_5 : Option Addr) (c0_5 : Nat) (l0_5 : List Int) (A0_6 : Option Addr) (c0_6 : Nat) (l0_6 : List (S52)) (a0_7 : Int) (A0_8 : Option Addr) (c0_8 : Nat) (l0_8 : List (S54)) (A0_9 : Option Addr) (c0_9 : Nat) (l0_9 : List (S56)) (a1 : Bool) (a2 : Bool) (a3 : Bool) (r : Bool) (w : World) (hr0_5 : Kd.C (Kd.int .i64) w A0_5 l0_5.length l0_5) (hc0_5 : l0_5.length ≤ c0_5) (hr0_6 : Kd.C k52 w A0_6 l0_6.length l0_6) (hc0_6 : l0_6.length ≤ c0_6) (hr0_8 : Kd.C k54 w A0_8 l0_8.length l0_8) (hc0_8 : l0_8.length ≤ c0_8) (hr0_9 : Kd.C k56 w A0_9 l0_9.length l0_9) (hc0_9 : l0_9.length ≤ c0_9) (h : palimpsestref16_bare.f k a0_0 a0_1 a0_2 a0_3 a0_4 l0_5 l0_6 a0_7 l0_8 l0_9 a1 a2 a3 = some r) :
  Calls Try.prog 37 #[.agg #[.int .i64 a0_0, .int .i64 a0_1, .int .i64 a0_2, .int .i64 a0_3, .int .i64 a0_4, .slice A0_5 l0_5.length c0_5, .slice A0_6 l0_6.length c0_6, .int .i64 a0_7, .slice A0_8 l0_8.length c0_8, .slice A0_9 l0_9.length c0_9], .bool a1, .bool a2, .bool a3] w fun e w' => e = .returned (.bool r) ∧ Below w.heap.size w w' := by
 have hu30 := Try.underlying30
 have HR0_5 := Aside0.mk hr0_5
 have HC0_5 := Aside0.mk hc0_5
 clear hr0_5 hc0_5
 have HR0_6 := Aside0.mk hr0_6
 have HC0_6 := Aside0.mk hc0_6
 clear hr0_6 hc0_6
 have HR0_8 := Aside0.mk hr0_8
 have HC0_8 := Aside0.mk hc0_8
 clear hr0_8 hc0_8
 have HR0_9 := Aside0.mk hr0_9
 have HC0_9 := Aside0.mk hc0_9
 clear hr0_9 hc0_9
 have HB := Aside0.mk (Below.refl w.heap.size w)
 have H : (if a1 = true then (palimpsestref16_bare.j0 k a2 a3 false a0_0 a0_1 a0_2 a0_3 a0_4 l0_5 l0_6 a0_7 l0_8 l0_9) else (if a0_3 = 0 then (if a0_4 = 0 then (if (l0_5.length : Int) > 0 then (palimpsestref16_bare.j0 k a2 a3 true a0_0 a0_1 a0_2 a0_3 a0_4 l0_5 l0_6 a0_7 l0_8 l0_9) else (palimpsestref16_bare.j0 k a2 a3 (decide ((l0_6.length : Int) > 0)) a0_0 a0_1 a0_2 a0_3 a0_4 l0_5 l0_6 a0_7 l0_8 l0_9)) else (palimpsestref16_bare.j0 k a2 a3 true a0_0 a0_1 a0_2 a0_3 a0_4 l0_5 l0_6 a0_7 l0_8 l0_9)) else (palimpsestref16_bare.j0 k a2 a3 true a0_0 a0_1 a0_2 a0_3 a0_4 l0_5 l0_6 a0_7 l0_8 l0_9))) = some r := h
 clear h
 have HC5 := Aside0.mk H
 clear H
 go_enter Try.func37, Try.ntmps37
 go_upto_region 1 with (first | ((with_reducible refine gate_dst (N := 4) rfl ?_); (try (refine gate_guard (by rfl) ?_; dsimp only)); refine box_event ?hg (N := 4) ?hd (cs := #[.int .i64 a0_0, .int .i64 a0_1, .int .i64 a0_2, .int .i64 a0_3, .int .i64 a0_4, .slice A0_5 l0_5.length c0_5, .slice A0_6 l0_6.length c0_6, .int .i64 a0_7, .slice A0_8 l0_8.length c0_8, .slice A0_9 l0_9.length c0_9]) (t := 30) ?hr ?_; (case hd => rfl); (case hg => rfl); (case hr => first | (go_simp; done) | (go_simp; rfl)); intro gb335 hg w6 hbox hb; have n0_ := Aside0.mk (below_step (by repeat (first | (with_reducible first | exact HB.out | apply bA | apply bN | apply bD) | exact HB.out)) hb); have n1_ := Aside0.mk (hbox); have n2_ := Aside0.mk ((by rw [hg]; exact (below_size (by repeat (first | (with_reducible first | exact HB.out | apply bA | apply bN | apply bD) | exact HB.out))) : w.heap.size ≤ gb335)); have n3_ := Aside0.mk ((by rw [hg]; exact (below_size (by repeat (first | (with_reducible first | exact HB.out | apply bA | apply bN | apply bD) | exact HB.out))) : w.heap.size ≤ gb335)); clear HB; have HB := n0_; have BK335 := n1_; have GW335 := n2_; have GE335 := n3_; clear n0_ n1_ n2_ n3_; clear hb hbox hg))
 (try simp only [Act.put, List.setIfInBounds_toArray, List.set_cons_zero, List.set_cons_succ])
 go_cut [32] (fun v32 wc => ∃ (kq : Nat) (x32_4 : Bool), v32 = .bool x32_4 ∧ Aside0 (palimpsestref16_bare.j0 kq a2 a3 x32_4 a0_0 a0_1 a0_2 a0_3 a0_4 l0_5 l0_6 a0_7 l0_8 l0_9 = some r) ∧ Aside0 (kq ≤ k) ∧ Aside0 (wc.heap[gb335]? = some (.cells #[.int .i64 a0_0, .int .i64 a0_1, .int .i64 a0_2, .int .i64 a0_3, .int .i64 a0_4, (.slice A0_5 l0_5.length c0_5), (.slice A0_6 l0_6.length c0_6), .int .i64 a0_7, (.slice A0_8 l0_8.length c0_8), (.slice A0_9 l0_9.length c0_9)] 30 (0, 0))) ∧ Aside0 (Below w.heap.size w wc))
 case first =>
  have H := HC5.out
  clear HC5
  by_cases c7 : a1 = true
  ·subst c7
   have H1 : (palimpsestref16_bare.j0 k a2 a3 false a0_0 a0_1 a0_2 a0_3 a0_4 l0_5 l0_6 a0_7 l0_8 l0_9) = some r := by rw [if_pos rfl] at H; exact H
   clear H
   have H := H1
   clear H1
   have H' := Aside0.mk H
   clear H
   go_wp2
   go_meet
   case rel => exact ⟨_, (false), (by first | rfl | (simp; done) | (simp [*]; done)), H', ⟨by first | omega | exact Nat.le_refl _⟩, ⟨by (with_reducible repeat (first | refine kN ?_ _ | refine kZ ?_ | refine kA ?_ _)); exact BK335.out⟩, ⟨by repeat (first | (with_reducible first | exact HB.out | apply bA | apply bN | apply bD | refine bS ?_ GE335.out) | exact HB.out)⟩⟩
  ·replace c7 := Bool.eq_false_iff.mpr c7
   subst c7
   have H1 : (if a0_3 = 0 then (if a0_4 = 0 then (if (l0_5.length : Int) > 0 then (palimpsestref16_bare.j0 k a2 a3 true a0_0 a0_1 a0_2 a0_3 a0_4 l0_5 l0_6 a0_7 l0_8 l0_9) else (palimpsestref16_bare.j0 k a2 a3 (decide ((l0_6.length : Int) > 0)) a0_0 a0_1 a0_2 a0_3 a0_4 l0_5 l0_6 a0_7 l0_8 l0_9)) else (palimpsestref16_bare.j0 k a2 a3 true a0_0 a0_1 a0_2 a0_3 a0_4 l0_5 l0_6 a0_7 l0_8 l0_9)) else (palimpsestref16_bare.j0 k a2 a3 true a0_0 a0_1 a0_2 a0_3 a0_4 l0_5 l0_6 a0_7 l0_8 l0_9)) = some r := by rw [if_neg (show ¬ (false = true) by decide)] at H; exact H
   clear H
   have H := H1
   clear H1
   by_cases c8 : a0_3 = 0
   ·rw [if_pos c8] at H
    have c8b0 : (a0_3 == 0) = true := beq_iff_eq.mpr c8
    have c8b1 : (a0_3 != 0) = false := bne_eq_false_iff_eq.mpr c8
    clear c8
    (first | rw [c8b0] | (simp only [i64_w, i32_w]; rw [c8b0]) | skip)
    by_cases c9 : a0_4 = 0
    ·rw [if_pos c9] at H
     have c9b0 : (a0_4 == 0) = true := beq_iff_eq.mpr c9
     have c9b1 : (a0_4 != 0) = false := bne_eq_false_iff_eq.mpr c9
     clear c9
     by_cases c10 : (l0_5.length : Int) > 0
     ·rw [if_pos c10] at H
      have c10b0 : decide (0 < (l0_5.length : Int)) = true := decide_eq_true c10
      have c10b1 : decide (0 < l0_5.length) = true := decide_eq_true (by omega)
      clear c10
      have H' := Aside0.mk H
      clear H
      obtain ⟨hcz11_0, hcz11_1, hcz11_2, hcz11_3, hcz11_4, hcz11_5, hcz11_6, hcz11_7, hcz11_8, hcz11_9⟩ := ten_cells BK335.out
      have hfz11 := ten_free BK335.out
      go_wp2
      go_meet
      case rel => exact ⟨_, (true), (by first | rfl | (simp; done) | (simp [*]; done)), H', ⟨by first | omega | exact Nat.le_refl _⟩, ⟨by (with_reducible repeat (first | refine kN ?_ _ | refine kZ ?_ | refine kA ?_ _)); exact BK335.out⟩, ⟨by repeat (first | (with_reducible first | exact HB.out | apply bA | apply bN | apply bD | refine bS ?_ GE335.out) | exact HB.out)⟩⟩
     ·rw [if_neg c10] at H
      have c10b0 : decide (0 < (l0_5.length : Int)) = false := decide_eq_false c10
      have c10b1 : decide (0 < l0_5.length) = false := decide_eq_false (by omega)
      clear c10
      have H' := Aside0.mk H
      clear H
      obtain ⟨hcz12_0, hcz12_1, hcz12_2, hcz12_3, hcz12_4, hcz12_5, hcz12_6, hcz12_7, hcz12_8, hcz12_9⟩ := ten_cells BK335.out
      have hfz12 := ten_free BK335.out
      go_wp2
      go_meet
      case rel => exact ⟨_, (decide ((l0_6.length : Int) > 0)), (by first | rfl | (simp; done) | (simp [*]; done)), H', ⟨by first | omega | exact Nat.le_refl _⟩, ⟨by (with_reducible repeat (first | refine kN ?_ _ | refine kZ ?_ | refine kA ?_ _)); exact BK335.out⟩, ⟨by repeat (first | (with_reducible first | exact HB.out | apply bA | apply bN | apply bD | refine bS ?_ GE335.out) | exact HB.out)⟩⟩
    ·rw [if_neg c9] at H
     have c9b0 : (a0_4 == 0) = false := beq_eq_false_iff_ne.mpr c9
     have c9b1 : (a0_4 != 0) = true := bne_iff_ne.mpr c9
     have H' := Aside0.mk H
     clear H
     obtain ⟨hcz13_0, hcz13_1, hcz13_2, hcz13_3, hcz13_4, hcz13_5, hcz13_6, hcz13_7, hcz13_8, hcz13_9⟩ := ten_cells BK335.out
     have hfz13 := ten_free BK335.out
     go_wp2
     go_meet
     case rel => exact ⟨_, (true), (by first | rfl | (simp; done) | (simp [*]; done)), H', ⟨by first | omega | exact Nat.le_refl _⟩, ⟨by (with_reducible repeat (first | refine kN ?_ _ | refine kZ ?_ | refine kA ?_ _)); exact BK335.out⟩, ⟨by repeat (first | (with_reducible first | exact HB.out | apply bA | apply bN | apply bD | refine bS ?_ GE335.out) | exact HB.out)⟩⟩
   ·rw [if_neg c8] at H
    have c8b0 : (a0_3 == 0) = false := beq_eq_false_iff_ne.mpr c8
    have c8b1 : (a0_3 != 0) = true := bne_iff_ne.mpr c8
    (first | rw [c8b0] | (simp only [i64_w, i32_w]; rw [c8b0]) | skip)
    have H' := Aside0.mk H
    clear H
    obtain ⟨hcz14_0, hcz14_1, hcz14_2, hcz14_3, hcz14_4, hcz14_5, hcz14_6, hcz14_7, hcz14_8, hcz14_9⟩ := ten_cells BK335.out
    have hfz14 := ten_free BK335.out
    go_wp2
    go_meet
    case rel => exact ⟨_, (true), (by first | rfl | (simp; done) | (simp [*]; done)), H', ⟨by first | omega | exact Nat.le_refl _⟩, ⟨by (with_reducible repeat (first | refine kN ?_ _ | refine kZ ?_ | refine kA ?_ _)); exact BK335.out⟩, ⟨by repeat (first | (with_reducible first | exact HB.out | apply bA | apply bN | apply bD | refine bS ?_ GE335.out) | exact HB.out)⟩⟩
 case rest =>
  clear HC5
  try clear c1
  try clear p2
  try clear c3
  try clear c7
  try clear c8
  try clear c8b0
  try clear c8b1
  try clear c9
  try clear c9b0
  try clear c9b1
  try clear c10
  try clear c10b0
  try clear c10b1
  try clear hcz11_0 hcz11_1 hcz11_2 hcz11_3 hcz11_4 hcz11_5 hcz11_6 hcz11_7 hcz11_8 hcz11_9
  try clear hcz12_0 hcz12_1 hcz12_2 hcz12_3 hcz12_4 hcz12_5 hcz12_6 hcz12_7 hcz12_8 hcz12_9
  try clear hcz13_0 hcz13_1 hcz13_2 hcz13_3 hcz13_4 hcz13_5 hcz13_6 hcz13_7 hcz13_8 hcz13_9
  try clear hcz14_0 hcz14_1 hcz14_2 hcz14_3 hcz14_4 hcz14_5 hcz14_6 hcz14_7 hcz14_8 hcz14_9
  try clear hfz11
  try clear hfz12
  try clear hfz13
  try clear hfz14
  obtain ⟨kq, x32_4, rfl, HA, HJ4, BK335, HB⟩ := hcut
  cases kq with
  | zero => exact absurd HA.out (by simp [palimpsestref16_bare.j0])
  | succ kj4 =>
   have H := HA.out
   clear HA
   simp only [palimpsestref16_bare.j0] at H
   by_cases c15 : x32_4 = true
   ·subst c15
    have H1 : (some false) = some r := by rw [if_pos rfl] at H; exact H
    clear H
    have H := H1
    clear H1
    obtain rfl := Option.some.inj H
    go_wp2
    go_ret
    exact ⟨by first | rfl | (simp [errW_none, errW_some] <;> rfl) | (simp [*, errW_none, errW_some] <;> rfl), by repeat (first | (with_reducible first | exact HB.out | apply bA | apply bN | apply bD | refine bS ?_ GE335.out) | exact HB.out)⟩
   ·replace c15 := Bool.eq_false_iff.mpr c15
    subst c15
    have H1 : (if a2 = true then (if a3 = true then (some true) else (if (l0_8.length : Int) = 0 then (some ((l0_9.length : Int) == 0)) else (some false))) else (if a0_7 = 0 then (if a3 = true then (some true) else (if (l0_8.length : Int) = 0 then (some ((l0_9.length : Int) == 0)) else (some false))) else (some false))) = some r := by rw [if_neg (show ¬ (false = true) by decide)] at H; exact H
    clear H
    have H := H1
    clear H1
    by_cases c16 : a2 = true
    ·subst c16
     have H1 : (if a3 = true then (some true) else (if (l0_8.length : Int) = 0 then (some ((l0_9.length : Int) == 0)) else (some false))) = some r := by rw [if_pos rfl] at H; exact H
     clear H
     have H := H1
     clear H1
     by_cases c17 : a3 = true
     ·subst c17
      have H1 : (some true) = some r := by rw [if_pos rfl] at H; exact H
      clear H
      have H := H1
      clear H1
      obtain rfl := Option.some.inj H
      go_wp2
      go_ret
      exact ⟨by first | rfl | (simp [errW_none, errW_some] <;> rfl) | (simp [*, errW_none, errW_some] <;> rfl), by repeat (first | (with_reducible first | exact HB.out | apply bA | apply bN | apply bD | refine bS ?_ GE335.out) | exact HB.out)⟩
     ·replace c17 := Bool.eq_false_iff.mpr c17
      subst c17
      have H1 : (if (l0_8.length : Int) = 0 then (some ((l0_9.length : Int) == 0)) else (some false)) = some r := by rw [if_neg (show ¬ (false = true) by decide)] at H; exact H
      clear H
      have H := H1
      clear H1
      by_cases c18 : (l0_8.length : Int) = 0
      ·rw [if_pos c18] at H
       have c18b0 : ((l0_8.length : Int) == 0) = true := beq_iff_eq.mpr c18
       have c18b1 : ((l0_8.length : Int) != 0) = false := bne_eq_false_iff_eq.mpr c18
       clear c18
       obtain rfl := Option.some.inj H
       obtain ⟨hcz19_0, hcz19_1, hcz19_2, hcz19_3, hcz19_4, hcz19_5, hcz19_6, hcz19_7, hcz19_8, hcz19_9⟩ := ten_cells BK335.out
       have hfz19 := ten_free BK335.out
       go_wp2
       go_ret
       exact ⟨by first | rfl | (simp [errW_none, errW_some] <;> rfl) | (simp [*, errW_none, errW_some] <;> rfl), by repeat (first | (with_reducible first | exact HB.out | apply bA | apply bN | apply bD | refine bS ?_ GE335.out) | exact HB.out)⟩
      ·rw [if_neg c18] at H
       have c18b0 : ((l0_8.length : Int) == 0) = false := beq_eq_false_iff_ne.mpr c18
       have c18b1 : ((l0_8.length : Int) != 0) = true := bne_iff_ne.mpr c18
       have c18b2 : ¬ (l0_8 = []) := fun h_ => c18 (by rw [h_]; rfl)
       obtain rfl := Option.some.inj H
       obtain ⟨hcz20_0, hcz20_1, hcz20_2, hcz20_3, hcz20_4, hcz20_5, hcz20_6, hcz20_7, hcz20_8, hcz20_9⟩ := ten_cells BK335.out
       have hfz20 := ten_free BK335.out
       go_wp2
       go_ret
       exact ⟨by first | rfl | (simp [errW_none, errW_some] <;> rfl) | (simp [*, errW_none, errW_some] <;> rfl), by repeat (first | (with_reducible first | exact HB.out | apply bA | apply bN | apply bD | refine bS ?_ GE335.out) | exact HB.out)⟩
    ·replace c16 := Bool.eq_false_iff.mpr c16
     subst c16
     have H1 : (if a0_7 = 0 then (if a3 = true then (some true) else (if (l0_8.length : Int) = 0 then (some ((l0_9.length : Int) == 0)) else (some false))) else (some false)) = some r := by rw [if_neg (show ¬ (false = true) by decide)] at H; exact H
     clear H
     have H := H1
     clear H1
     by_cases c21 : a0_7 = 0
     ·rw [if_pos c21] at H
      have c21b0 : (a0_7 == 0) = true := beq_iff_eq.mpr c21
      have c21b1 : (a0_7 != 0) = false := bne_eq_false_iff_eq.mpr c21
      clear c21
      by_cases c22 : a3 = true
      ·subst c22
       have H1 : (some true) = some r := by rw [if_pos rfl] at H; exact H
       clear H
       have H := H1
       clear H1
       obtain rfl := Option.some.inj H
       obtain ⟨hcz23_0, hcz23_1, hcz23_2, hcz23_3, hcz23_4, hcz23_5, hcz23_6, hcz23_7, hcz23_8, hcz23_9⟩ := ten_cells BK335.out
       have hfz23 := ten_free BK335.out
       go_wp2
       go_ret
       exact ⟨by first | rfl | (simp [errW_none, errW_some] <;> rfl) | (simp [*, errW_none, errW_some] <;> rfl), by repeat (first | (with_reducible first | exact HB.out | apply bA | apply bN | apply bD | refine bS ?_ GE335.out) | exact HB.out)⟩
      ·replace c22 := Bool.eq_false_iff.mpr c22
       subst c22
       have H1 : (if (l0_8.length : Int) = 0 then (some ((l0_9.length : Int) == 0)) else (some false)) = some r := by rw [if_neg (show ¬ (false = true) by decide)] at H; exact H
       clear H
       have H := H1
       clear H1
       by_cases c24 : (l0_8.length : Int) = 0
       ·rw [if_pos c24] at H
        have c24b0 : ((l0_8.length : Int) == 0) = true := beq_iff_eq.mpr c24
        have c24b1 : ((l0_8.length : Int) != 0) = false := bne_eq_false_iff_eq.mpr c24
        clear c24
        obtain rfl := Option.some.inj H
        obtain ⟨hcz25_0, hcz25_1, hcz25_2, hcz25_3, hcz25_4, hcz25_5, hcz25_6, hcz25_7, hcz25_8, hcz25_9⟩ := ten_cells BK335.out
        have hfz25 := ten_free BK335.out
        go_wp2
        go_ret
        exact ⟨by first | rfl | (simp [errW_none, errW_some] <;> rfl) | (simp [*, errW_none, errW_some] <;> rfl), by repeat (first | (with_reducible first | exact HB.out | apply bA | apply bN | apply bD | refine bS ?_ GE335.out) | exact HB.out)⟩
       ·rw [if_neg c24] at H
        have c24b0 : ((l0_8.length : Int) == 0) = false := beq_eq_false_iff_ne.mpr c24
        have c24b1 : ((l0_8.length : Int) != 0) = true := bne_iff_ne.mpr c24
        have c24b2 : ¬ (l0_8 = []) := fun h_ => c24 (by rw [h_]; rfl)
        obtain rfl := Option.some.inj H
        obtain ⟨hcz26_0, hcz26_1, hcz26_2, hcz26_3, hcz26_4, hcz26_5, hcz26_6, hcz26_7, hcz26_8, hcz26_9⟩ := ten_cells BK335.out
        have hfz26 := ten_free BK335.out
        go_wp2
        go_ret
        exact ⟨by first | rfl | (simp [errW_none, errW_some] <;> rfl) | (simp [*, errW_none, errW_some] <;> rfl), by repeat (first | (with_reducible first | exact HB.out | apply bA | apply bN | apply bD | refine bS ?_ GE335.out) | exact HB.out)⟩
     ·rw [if_neg c21] at H
      have c21b0 : (a0_7 == 0) = false := beq_eq_false_iff_ne.mpr c21
      have c21b1 : (a0_7 != 0) = true := bne_iff_ne.mpr c21
      obtain rfl := Option.some.inj H
      obtain ⟨hcz27_0, hcz27_1, hcz27_2, hcz27_3, hcz27_4, hcz27_5, hcz27_6, hcz27_7, hcz27_8, hcz27_9⟩ := ten_cells BK335.out
      have hfz27 := ten_free BK335.out
      go_wp2
      go_ret
      exact ⟨by first | rfl | (simp [errW_none, errW_some] <;> rfl) | (simp [*, errW_none, errW_some] <;> rfl), by repeat (first | (with_reducible first | exact HB.out | apply bA | apply bN | apply bD | refine bS ?_ GE335.out) | exact HB.out)⟩
def palimpsestref16_imagesOk.l0 : Nat → List (S52) → Int → Option (Bool)
 | 0, _, _ => none
 | k + 1, x0, x3 => if x3 < (x0.length : Int) then (if 0 ≤ x3 then (if ((rd_T52 x0 x3).f0) < 0 then (some false) else (if ((rd_T52 x0 x3).f0) > 59 then (some false) else (if x3 > 0 then (if 0 ≤ (wrap64 (x3 - 1)) then (if (wrap64 (x3 - 1)) < (x0.length : Int) then (if ((rd_T52 x0 x3).f0) ≤ ((rd_T52 x0 (wrap64 (x3 - 1))).f0) then (some false) else (palimpsestref16_imagesOk.l0 k x0 (wrap64 (x3 + 1)))) else (none)) else (none)) else (palimpsestref16_imagesOk.l0 k x0 (wrap64 (x3 + 1)))))) else (none)) else (some true)
def palimpsestref16_imagesOk.f (k : Nat) (l0 : List (S52)) : Option (Bool) := palimpsestref16_imagesOk.l0 k l0 0
set_option maxHeartbeats 8000000 in
set_option maxRecDepth 100000 in
theorem palimpsestref16_imagesOk.calls (k : Nat) (A0 : Option Addr) (c0 : Nat) (l0 : List (S52)) (r : Bool) (w : World) (hr0 : Kd.C k52 w A0 l0.length l0) (hc0 : l0.length ≤ c0) (h : palimpsestref16_imagesOk.f k l0 = some r) :
  Calls Try.prog 38 #[.slice A0 l0.length c0] w fun e w' => e = .returned (.bool r) ∧ Drawn0 w w' := by
 have HR0 := Aside0.mk hr0
 have HC0 := Aside0.mk hc0
 clear hr0 hc0
 have H : (palimpsestref16_imagesOk.l0 k l0 0) = some r := h
 clear h
 have H' := Aside0.mk H
 clear H
 go_enter Try.func38, Try.ntmps38
 go_wp2
 repeat (go_quiet (fail); try go_wp2)
 go_loopg [3] k (fun kq v3 w' => ∃ (x3_1 : Int), v3 = .int .i64 x3_1 ∧ Aside0 (palimpsestref16_imagesOk.l0 kq l0 x3_1 = some r) ∧ Aside0 (kq ≤ k) ∧ Drawn0 w w')
 case atStart => exact ⟨(0), (by first | rfl | (simp; done) | (simp [*]; done)), H', ⟨Nat.le_refl _⟩, by repeat (first | exact Drawn0.refl _ | apply Drawn0.step)⟩
 case round =>
  clear H'
  obtain ⟨x3_1, rfl, HA, HK1, ⟨m1, rfl⟩⟩ := hrel
  cases gk with
  | zero => exact absurd HA.out (by simp [palimpsestref16_imagesOk.l0])
  | succ k1 =>
   have H := HA.out
   clear HA
   simp only [palimpsestref16_imagesOk.l0] at H
   by_cases c2 : x3_1 < (l0.length : Int)
   ·rw [if_pos c2] at H
    have c2b0 : decide (x3_1 < (l0.length : Int)) = true := decide_eq_true c2
    clear c2
    by_cases c3 : 0 ≤ x3_1
    ·rw [if_pos c3] at H
     have c3b0 : decide (0 ≤ x3_1) = true := decide_eq_true c3
     clear c3
     by_cases c4 : ((rd_T52 l0 x3_1).f0) < 0
     ·rw [if_pos c4] at H
      have c4b0 : decide (((rd_T52 l0 x3_1).f0) < 0) = true := decide_eq_true c4
      clear c4
      obtain rfl := Option.some.inj H
      have p336 : 0 ≤ (x3_1 : Int) := of_decide_eq_true (by first | (with_reducible assumption) | assumption)
      have q336 : x3_1 < (l0.length : Int) := of_decide_eq_true (by first | (with_reducible assumption) | assumption)
      obtain ⟨ad336, e336, hx336_0, hx336_1⟩ := at_T52 HR0.out x3_1 p336 q336
      cases e336
      replace p336 := eq_true p336
      replace q336 := eq_true q336
      go_wp2
      repeat (go_quiet (fail); try go_wp2)
      go_ret
      exact ⟨by first | rfl | (simp; done) | (simp [*]; done), by repeat (first | exact Drawn0.refl _ | apply Drawn0.step)⟩
     ·rw [if_neg c4] at H
      have c4b0 : decide (((rd_T52 l0 x3_1).f0) < 0) = false := decide_eq_false c4
      clear c4
      by_cases c5 : ((rd_T52 l0 x3_1).f0) > 59
      ·rw [if_pos c5] at H
       have c5b0 : decide (59 < ((rd_T52 l0 x3_1).f0)) = true := decide_eq_true c5
       clear c5
       obtain rfl := Option.some.inj H
       have p336 : 0 ≤ (x3_1 : Int) := of_decide_eq_true (by first | (with_reducible assumption) | assumption)
       have q336 : x3_1 < (l0.length : Int) := of_decide_eq_true (by first | (with_reducible assumption) | assumption)
       obtain ⟨ad336, e336, hx336_0, hx336_1⟩ := at_T52 HR0.out x3_1 p336 q336
       cases e336
       replace p336 := eq_true p336
       replace q336 := eq_true q336
       have p337 : 0 ≤ (x3_1 : Int) := of_decide_eq_true (by first | (with_reducible assumption) | assumption)
       have q337 : x3_1 < (l0.length : Int) := of_decide_eq_true (by first | (with_reducible assumption) | assumption)
       obtain ⟨ad337, e337, hx337_0, hx337_1⟩ := at_T52 HR0.out x3_1 p337 q337
       obtain rfl : ad336 = ad337 := (by injection e337)
       replace p337 := eq_true p337
       replace q337 := eq_true q337
       go_wp2
       repeat (go_quiet (fail); try go_wp2)
       go_ret
       exact ⟨by first | rfl | (simp; done) | (simp [*]; done), by repeat (first | exact Drawn0.refl _ | apply Drawn0.step)⟩
      ·rw [if_neg c5] at H
       have c5b0 : decide (59 < ((rd_T52 l0 x3_1).f0)) = false := decide_eq_false c5
       clear c5
       by_cases c6 : x3_1 > 0
       ·rw [if_pos c6] at H
        have c6b0 : decide (0 < x3_1) = true := decide_eq_true c6
        clear c6
        obtain ⟨ji7, hji7⟩ : ∃ j_ : Int, (wrap64 (x3_1 - 1)) = j_ := ⟨_, rfl⟩
        replace H : (if 0 ≤ (ji7) then (if (ji7) < (l0.length : Int) then (if ((rd_T52 l0 x3_1).f0) ≤ ((rd_T52 l0 (ji7)).f0) then (some false) else (palimpsestref16_imagesOk.l0 k1 l0 (wrap64 (x3_1 + 1)))) else (none)) else (none)) = some r := by first | (rw [hji7] at H; exact H) | (simp only [hji7] at H ⊢; exact H)
        have hji7w : (IntKind.i64.wrap (x3_1 - 1)) = ji7 := (i64_w _).trans hji7
        by_cases c8 : 0 ≤ (ji7)
        ·rw [if_pos c8] at H
         have c8b0 : decide (0 ≤ (ji7)) = true := decide_eq_true c8
         clear c8
         by_cases c9 : (ji7) < (l0.length : Int)
         ·rw [if_pos c9] at H
          have c9b0 : decide ((ji7) < (l0.length : Int)) = true := decide_eq_true c9
          clear c9
          by_cases c10 : ((rd_T52 l0 x3_1).f0) ≤ ((rd_T52 l0 (ji7)).f0)
          ·rw [if_pos c10] at H
           have c10b0 : decide (((rd_T52 l0 x3_1).f0) ≤ ((rd_T52 l0 (ji7)).f0)) = true := decide_eq_true c10
           clear c10
           obtain rfl := Option.some.inj H
           have p336 : 0 ≤ (x3_1 : Int) := of_decide_eq_true (by first | (with_reducible assumption) | assumption)
           have q336 : x3_1 < (l0.length : Int) := of_decide_eq_true (by first | (with_reducible assumption) | assumption)
           obtain ⟨ad336, e336, hx336_0, hx336_1⟩ := at_T52 HR0.out x3_1 p336 q336
           cases e336
           replace p336 := eq_true p336
           replace q336 := eq_true q336
           have p337 : 0 ≤ (x3_1 : Int) := of_decide_eq_true (by first | (with_reducible assumption) | assumption)
           have q337 : x3_1 < (l0.length : Int) := of_decide_eq_true (by first | (with_reducible assumption) | assumption)
           obtain ⟨ad337, e337, hx337_0, hx337_1⟩ := at_T52 HR0.out x3_1 p337 q337
           obtain rfl : ad336 = ad337 := (by injection e337)
           replace p337 := eq_true p337
           replace q337 := eq_true q337
           have p338 : 0 ≤ (x3_1 : Int) := of_decide_eq_true (by first | (with_reducible assumption) | assumption)
           have q338 : x3_1 < (l0.length : Int) := of_decide_eq_true (by first | (with_reducible assumption) | assumption)
           obtain ⟨ad338, e338, hx338_0, hx338_1⟩ := at_T52 HR0.out x3_1 p338 q338
           obtain rfl : ad336 = ad338 := (by injection e338)
           replace p338 := eq_true p338
           replace q338 := eq_true q338
           have p339 : 0 ≤ ((ji7) : Int) := of_decide_eq_true (by first | (with_reducible assumption) | assumption)
           have q339 : (ji7) < (l0.length : Int) := of_decide_eq_true (by first | (with_reducible assumption) | assumption)
           obtain ⟨ad339, e339, hx339_0, hx339_1⟩ := at_T52 HR0.out (ji7) p339 q339
           obtain rfl : ad336 = ad339 := (by injection e339)
           replace p339 := eq_true p339
           replace q339 := eq_true q339
           go_wp2
           repeat (go_quiet (fail); try go_wp2)
           go_ret
           exact ⟨by first | rfl | (simp; done) | (simp only [← hji7] <;> (first | rfl | simp)) | (simp [*]; done), by repeat (first | exact Drawn0.refl _ | apply Drawn0.step)⟩
          ·rw [if_neg c10] at H
           have c10b0 : decide (((rd_T52 l0 x3_1).f0) ≤ ((rd_T52 l0 (ji7)).f0)) = false := decide_eq_false c10
           clear c10
           have H' := Aside0.mk H
           clear H
           have p336 : 0 ≤ (x3_1 : Int) := of_decide_eq_true (by first | (with_reducible assumption) | assumption)
           have q336 : x3_1 < (l0.length : Int) := of_decide_eq_true (by first | (with_reducible assumption) | assumption)
           obtain ⟨ad336, e336, hx336_0, hx336_1⟩ := at_T52 HR0.out x3_1 p336 q336
           cases e336
           replace p336 := eq_true p336
           replace q336 := eq_true q336
           have p337 : 0 ≤ (x3_1 : Int) := of_decide_eq_true (by first | (with_reducible assumption) | assumption)
           have q337 : x3_1 < (l0.length : Int) := of_decide_eq_true (by first | (with_reducible assumption) | assumption)
           obtain ⟨ad337, e337, hx337_0, hx337_1⟩ := at_T52 HR0.out x3_1 p337 q337
           obtain rfl : ad336 = ad337 := (by injection e337)
           replace p337 := eq_true p337
           replace q337 := eq_true q337
           have p338 : 0 ≤ (x3_1 : Int) := of_decide_eq_true (by first | (with_reducible assumption) | assumption)
           have q338 : x3_1 < (l0.length : Int) := of_decide_eq_true (by first | (with_reducible assumption) | assumption)
           obtain ⟨ad338, e338, hx338_0, hx338_1⟩ := at_T52 HR0.out x3_1 p338 q338
           obtain rfl : ad336 = ad338 := (by injection e338)
           replace p338 := eq_true p338
           replace q338 := eq_true q338
           have p339 : 0 ≤ ((ji7) : Int) := of_decide_eq_true (by first | (with_reducible assumption) | assumption)
           have q339 : (ji7) < (l0.length : Int) := of_decide_eq_true (by first | (with_reducible assumption) | assumption)
           obtain ⟨ad339, e339, hx339_0, hx339_1⟩ := at_T52 HR0.out (ji7) p339 q339
           obtain rfl : ad336 = ad339 := (by injection e339)
           replace p339 := eq_true p339
           replace q339 := eq_true q339
           go_wp2
           repeat (go_quiet (fail); try go_wp2)
           go_roundg k1
           case measure => have := HK1.out; omega
           case rel => exact ⟨(wrap64 (x3_1 + 1)), (by first | rfl | (simp; done) | (simp [*]; done)), H', ⟨by have := HK1.out; omega⟩, by repeat (first | exact Drawn0.refl _ | apply Drawn0.step)⟩
         ·rw [if_neg c9] at H
          exact absurd H (by simp)
        ·rw [if_neg c8] at H
         exact absurd H (by simp)
       ·rw [if_neg c6] at H
        have c6b0 : decide (0 < x3_1) = false := decide_eq_false c6
        clear c6
        have H' := Aside0.mk H
        clear H
        have p336 : 0 ≤ (x3_1 : Int) := of_decide_eq_true (by first | (with_reducible assumption) | assumption)
        have q336 : x3_1 < (l0.length : Int) := of_decide_eq_true (by first | (with_reducible assumption) | assumption)
        obtain ⟨ad336, e336, hx336_0, hx336_1⟩ := at_T52 HR0.out x3_1 p336 q336
        cases e336
        replace p336 := eq_true p336
        replace q336 := eq_true q336
        have p337 : 0 ≤ (x3_1 : Int) := of_decide_eq_true (by first | (with_reducible assumption) | assumption)
        have q337 : x3_1 < (l0.length : Int) := of_decide_eq_true (by first | (with_reducible assumption) | assumption)
        obtain ⟨ad337, e337, hx337_0, hx337_1⟩ := at_T52 HR0.out x3_1 p337 q337
        obtain rfl : ad336 = ad337 := (by injection e337)
        replace p337 := eq_true p337
        replace q337 := eq_true q337
        go_wp2
        repeat (go_quiet (fail); try go_wp2)
        go_roundg k1
        case measure => have := HK1.out; omega
        case rel => exact ⟨(wrap64 (x3_1 + 1)), (by first | rfl | (simp; done) | (simp [*]; done)), H', ⟨by have := HK1.out; omega⟩, by repeat (first | exact Drawn0.refl _ | apply Drawn0.step)⟩
    ·rw [if_neg c3] at H
     exact absurd H (by simp)
   ·rw [if_neg c2] at H
    have c2b0 : decide (x3_1 < (l0.length : Int)) = false := decide_eq_false c2
    clear c2
    obtain rfl := Option.some.inj H
    go_wp2
    repeat (go_quiet (fail); try go_wp2)
    go_ret
    exact ⟨by first | rfl | (simp; done) | (simp [*]; done), by repeat (first | exact Drawn0.refl _ | apply Drawn0.step)⟩
end Go.Proofs.Ytcplblpmgajmnaa.A
namespace Go.Proofs.Ytcplblpmgajmnaa.A
open Go.RowKit Go.Proofs.YtcplblpmgajmnaaW.PrintWords Go.Proofs.YtcplblpmgajmnaaW.PrintLast Go.Proofs.YtcplblpmgajmnaaW.PrintMore
set_option linter.unusedVariables false
set_option linter.unusedSimpArgs false
def Bare (r : Rec) (page next lists : Bool) : Prop :=
  (page = true ∨ (r.g = 0 ∧ r.o = 0 ∧ r.args = [] ∧ r.imgs = [])) ∧ (next = true ∨ r.n = 0) ∧ (lists = true ∨ (r.di = [] ∧ r.ac = []))
instance (r : Rec) (p n l : Bool) : Decidable (Bare r p n l) := by unfold Bare; infer_instance
theorem bare_j (r : Rec) (n l x : Bool) : palimpsestref16_bare.j0 1 n l x r.k r.t r.p r.g r.o r.args r.imgs r.n r.di r.ac = some (decide (x = false ∧ (n = true ∨ r.n = 0) ∧ (l = true ∨ (r.di = [] ∧ r.ac = [])))) := by
  have e1 : ((r.di.length : Int) = 0) ↔ r.di = [] := by rw [← List.length_eq_zero_iff]; omega
  have e2 : ((r.ac.length : Int) = 0) ↔ r.ac = [] := by rw [← List.length_eq_zero_iff]; omega
  have e3 : ((r.ac.length : Int) == 0) = decide (r.ac = []) := by rw [← decide_eq_decide.2 e2]; rfl
  unfold palimpsestref16_bare.j0
  cases x <;> cases n <;> cases l <;> simp [e1, e2, e3] <;> (try (by_cases h1 : r.n = 0 <;> simp [h1])) <;> (try (by_cases h2 : r.di = [] <;> simp [h2]))
theorem bare_f (r : Rec) (p n l : Bool) : palimpsestref16_bare.f 1 r.k r.t r.p r.g r.o r.args r.imgs r.n r.di r.ac p n l = some (decide (Bare r p n l)) := by
  have e1 : ((r.args.length : Int) > 0) ↔ ¬ r.args = [] := by rw [← List.length_eq_zero_iff]; omega
  have e2 : ((r.imgs.length : Int) > 0) ↔ ¬ r.imgs = [] := by rw [← List.length_eq_zero_iff]; omega
  unfold palimpsestref16_bare.f Bare
  rw [bare_j, bare_j, bare_j]
  cases p
  · rw [if_neg (by simp)]
    by_cases h1 : r.g = 0
    · rw [if_pos h1]
      by_cases h2 : r.o = 0
      · rw [if_pos h2]
        by_cases h3 : r.args = []
        · rw [if_neg (by rw [e1]; simpa using h3)]
          by_cases h4 : r.imgs = []
          · simp [h1, h2, h3, h4]
          · simp [h1, h2, h3, h4]
        · rw [if_pos (by rw [e1]; exact h3)]
          simp [h3]
      · rw [if_neg h2]
        simp [h2]
    · rw [if_neg h1]
      simp [h1]
  · rw [if_pos rfl]
    simp
theorem bare_c {r : Rec} {a : Lies} {w : World} (h : RIn w r a) (p n l : Bool) : Calls Try.prog 37 #[.agg (r.cells a), .bool p, .bool n, .bool l] w fun e w' => e = .returned (.bool (decide (Bare r p n l))) ∧ Below w.heap.size w w' :=
  palimpsestref16_bare.calls 1 r.k r.t r.p r.g r.o _ _ r.args _ _ r.imgs r.n _ _ r.di _ _ r.ac p n l _ w h.C5 h.L5 h.C6 h.L6 h.C8 h.L8 h.C9 h.L9 (bare_f r p n l)
theorem imagesOk_l (l : List S52) (hl : l.length ≤ 9223372036854775807) : ∀ (d i k : Nat), i + d = l.length → d < k → (∀ j, j < i → risAt (fun x : S52 => x.f0) z52 60 l j) → palimpsestref16_imagesOk.l0 k l (i : Int) = some (decide (ImgOk l)) := by
  intro d
  induction d with
  | zero =>
    intro i k hi hk hall
    obtain ⟨k, rfl⟩ : ∃ m, k = m + 1 := ⟨k - 1, by omega⟩
    rw [palimpsestref16_imagesOk.l0, if_neg (by omega), decide_eq_true]
    intro j hj
    exact hall j (by omega)
  | succ d ih =>
    intro i k hi hk hall
    obtain ⟨k, rfl⟩ : ∃ m, k = m + 1 := ⟨k - 1, by omega⟩
    have hr : rd_T52 l (i : Int) = l.getD i z52 := rfl
    have hi' : i < l.length := by omega
    have hw : wrap64 ((i : Int) + 1) = ((i + 1 : Nat) : Int) := by unfold wrap64; omega
    rw [palimpsestref16_imagesOk.l0, if_pos (by omega), if_pos (by omega), hr, hw]
    have bad : ¬ risAt (fun x : S52 => x.f0) z52 60 l i → (decide (ImgOk l)) = false := fun hb => decide_eq_false fun ho => hb (ho i hi')
    by_cases h1 : (l.getD i z52).f0 < 0
    · rw [if_pos h1, bad (fun hr => by have : 0 ≤ (l.getD i z52).f0 := hr.1; omega)]
    by_cases h2 : (l.getD i z52).f0 > 59
    · rw [if_neg h1, if_pos h2, bad (fun hr => by have : (l.getD i z52).f0 < 60 := hr.2.1; omega)]
    rw [if_neg h1, if_neg h2]
    by_cases h3 : (i : Int) > 0
    · have hw1 : wrap64 ((i : Int) - 1) = ((i - 1 : Nat) : Int) := by unfold wrap64; omega
      rw [if_pos h3, hw1, if_pos (by omega), if_pos (by omega), show rd_T52 l ((i - 1 : Nat) : Int) = l.getD (i - 1) z52 from rfl]
      by_cases h4 : (l.getD i z52).f0 ≤ (l.getD (i - 1) z52).f0
      · rw [if_pos h4, bad (fun hr => by have : (l.getD (i - 1) z52).f0 < (l.getD i z52).f0 := hr.2.2 (by omega); omega)]
      · rw [if_neg h4, ih (i + 1) k (by omega) (by omega)]
        intro j hj
        rcases Nat.lt_or_ge j i with h | h
        · exact hall j h
        · obtain rfl : i = j := by omega
          exact ⟨show 0 ≤ (l.getD i z52).f0 by omega, show (l.getD i z52).f0 < 60 by omega, fun _ => show (l.getD (i - 1) z52).f0 < (l.getD i z52).f0 by omega⟩
    · rw [if_neg h3, ih (i + 1) k (by omega) (by omega)]
      intro j hj
      rcases Nat.lt_or_ge j i with h | h
      · exact hall j h
      · obtain rfl : i = j := by omega
        exact ⟨show 0 ≤ (l.getD i z52).f0 by omega, show (l.getD i z52).f0 < 60 by omega, fun _ => show (l.getD (i - 1) z52).f0 < (l.getD i z52).f0 by omega⟩
theorem imagesOk_c {l : List S52} {A : Option Addr} {c : Nat} {w : World} (h : Kd.C k52 w A l.length l) (hc : l.length ≤ c) : Calls Try.prog 38 #[.slice A l.length c] w fun e w' => e = .returned (.bool (decide (ImgOk l))) ∧ Below w.heap.size w w' := by
  refine (palimpsestref16_imagesOk.calls (l.length + 1) A c l _ w h hc (imagesOk_l l (Kd.C_max h) l.length 0 (l.length + 1) (by omega) (by omega) (fun j hj => absurd hj (Nat.not_lt_zero j)))).mono ?_
  rintro e w' ⟨he, hd⟩
  exact ⟨he, hd.below⟩
theorem ok_kind {r : Rec} (h : r.Ok) : r.k = 1 ∨ r.k = 2 ∨ r.k = 3 ∨ r.k = 4 ∨ r.k = 5 := by
  rcases h with ⟨h, _⟩ | ⟨h, _⟩ | ⟨h | h, _⟩ | ⟨h, _⟩ <;> simp [h]
theorem ok_tp {r : Rec} (h : r.Ok) (hk : ¬ r.k = 5) : 1 ≤ r.t ∧ 0 ≤ r.p := by
  rcases h with ⟨_, h, _⟩ | ⟨_, h, _⟩ | ⟨_, h, _⟩ | ⟨h, _⟩
  · exact ⟨h.1, h.2.1⟩
  · exact ⟨h.1, h.2.1⟩
  · exact h
  · exact absurd h hk
theorem ok_34 {r : Rec} (hk : r.k = 3 ∨ r.k = 4) (ht : 1 ≤ r.t) (hp : 0 ≤ r.p) : r.Ok ↔ Bare r false false false := by
  constructor
  · rintro (⟨h, _⟩ | ⟨h, _⟩ | ⟨_, _, h3, h4, h5, h6, h7, h8, h9⟩ | ⟨h, _⟩)
    · omega
    · omega
    · exact ⟨.inr ⟨h3, h4, h5, h6⟩, .inr h7, .inr ⟨h8, h9⟩⟩
    · omega
  · rintro ⟨h1, h2, h3⟩
    obtain ⟨a, b, c, d⟩ := h1.resolve_left (by simp)
    obtain ⟨e, f⟩ := h3.resolve_left (by simp)
    exact .inr (.inr (.inl ⟨hk, ⟨ht, hp⟩, a, b, c, d, h2.resolve_left (by simp), e, f⟩))
theorem ok_1 {r : Rec} (hk : r.k = 1) (ht : 1 ≤ r.t) (hp : 0 ≤ r.p) : r.Ok ↔ Bare r true false false ∧ OnPage r.g r.o r.args r.imgs false := by
  constructor
  · rintro (⟨_, h1, h2, h3, h4⟩ | ⟨h, _⟩ | ⟨h, _⟩ | ⟨h, _⟩)
    · exact ⟨⟨.inl rfl, .inr h2, .inr ⟨h3, h4⟩⟩, h1.2.2⟩
    · omega
    · omega
    · omega
  · rintro ⟨⟨_, h2, h3⟩, h⟩
    obtain ⟨e, f⟩ := h3.resolve_left (by simp)
    exact .inl ⟨hk, ⟨ht, hp, h⟩, h2.resolve_left (by simp), e, f⟩
theorem ok_2 {r : Rec} (hk : r.k = 2) (ht : 1 ≤ r.t) (hp : 0 ≤ r.p) : r.Ok ↔ Bare r true true false ∧ 0 ≤ r.n ∧ ((r.g = -1 ∧ r.o = 0 ∧ r.args.length = 0 ∧ r.imgs.length = 0) ∨ OnPage r.g r.o r.args r.imgs true) := by
  constructor
  · rintro (⟨h, _⟩ | ⟨_, h1, h3, h4⟩ | ⟨h, _⟩ | ⟨h, _⟩)
    · omega
    · exact ⟨⟨.inl rfl, .inl rfl, .inr ⟨h3, h4⟩⟩, h1.2.2⟩
    · omega
    · omega
  · rintro ⟨⟨_, _, h3⟩, h⟩
    obtain ⟨e, f⟩ := h3.resolve_left (by simp)
    exact .inr (.inl ⟨hk, ⟨ht, hp, h⟩, e, f⟩)
def DirtyOk (l : List S54) (i : Nat) : Prop := 0 ≤ (l.getD i z54).f0 ∧ (l.getD i z54).f0 < 1024 ∧ 0 ≤ (l.getD i z54).f1 ∧ (0 < i → (l.getD (i - 1) z54).f0 < (l.getD i z54).f0)
def ActiveOk (l : List S56) (i : Nat) : Prop := 1 ≤ (l.getD i z56).f0 ∧ (l.getD i z56).f0 ≤ 4611686018427387904 ∧ 0 ≤ (l.getD i z56).f1 ∧ 0 ≤ (l.getD i z56).f2 ∧ 0 ≤ (l.getD i z56).f3 ∧ (0 < i → (l.getD (i - 1) z56).f0 < (l.getD i z56).f0)
theorem getD_i64 {r : Rec} (hw : r.Wide) (i : Nat) : I64 (r.ac.getD i z56).f0 := by
  rw [List.getD_eq_getElem?_getD]
  cases e : r.ac[i]? with
  | none => exact ⟨by decide, by decide⟩
  | some x => exact (hw.ac x (List.mem_of_getElem? e)).1
theorem ok_5 {r : Rec} (hw : r.Wide) (hk : r.k = 5) : r.Ok ↔ (r.t = 0 ∧ r.p = 0 ∧ Bare r false false true ∧ r.di.length ≤ 64 ∧ r.ac.length ≤ 64) ∧ (∀ i, i < r.di.length → DirtyOk r.di i) ∧ (∀ i, i < r.ac.length → ActiveOk r.ac i) := by
  have hx : ∀ i, wrap64 ((r.ac.getD i z56).f0 - 1) = (r.ac.getD i z56).f0 - 1 ∨ ((r.ac.getD i z56).f0 = -9223372036854775808 ∧ wrap64 ((r.ac.getD i z56).f0 - 1) = 9223372036854775807) := by
    intro i
    have h := getD_i64 hw i
    unfold I64 at h
    unfold wrap64
    omega
  constructor
  · rintro (⟨h, _⟩ | ⟨h, _⟩ | ⟨h, _⟩ | ⟨_, ⟨⟨h1, h2, h3, h4⟩, h5, h6⟩, h7, h8, h9, h10, h11, h12, h13⟩)
    · omega
    · omega
    · omega
    · refine ⟨⟨h7, h8, ⟨.inr ⟨h9, h10, h11, h12⟩, .inr h13, .inl rfl⟩, h1, h2⟩, fun i hi => ?_, fun i hi => ?_⟩
      · obtain ⟨a, b, c⟩ := h3 i hi
        exact ⟨a, b, h5 i hi, c⟩
      · have h := h4 i hi
        have a : 0 ≤ wrap64 ((r.ac.getD i z56).f0 - 1) := h.1
        have b : wrap64 ((r.ac.getD i z56).f0 - 1) < 4611686018427387904 := h.2.1
        have c : 0 < i → wrap64 ((r.ac.getD (i - 1) z56).f0 - 1) < wrap64 ((r.ac.getD i z56).f0 - 1) := h.2.2
        have x1 := hx i
        have x2 := hx (i - 1)
        obtain ⟨d1, d2, d3⟩ := h6 i hi
        exact ⟨by omega, by omega, d1, d2, d3, fun h0 => by have := c h0; omega⟩
  · rintro ⟨⟨h7, h8, ⟨hb, hn, _⟩, h1, h2⟩, hd, ha⟩
    obtain ⟨h9, h10, h11, h12⟩ := hb.resolve_left (by simp)
    refine .inr (.inr (.inr ⟨hk, ⟨⟨h1, h2, fun i hi => ⟨(hd i hi).1, (hd i hi).2.1, (hd i hi).2.2.2⟩, fun i hi => ?_⟩, fun i hi => (hd i hi).2.2.1, fun i hi => ⟨(ha i hi).2.2.1, (ha i hi).2.2.2.1, (ha i hi).2.2.2.2.1⟩⟩, h7, h8, h9, h10, h11, h12, hn.resolve_left (by simp)⟩))
    obtain ⟨a, b, _, _, _, c⟩ := ha i hi
    have x1 := hx i
    have x2 := hx (i - 1)
    exact ⟨show 0 ≤ wrap64 ((r.ac.getD i z56).f0 - 1) by omega, show wrap64 ((r.ac.getD i z56).f0 - 1) < 4611686018427387904 by omega, fun h0 => show wrap64 ((r.ac.getD (i - 1) z56).f0 - 1) < wrap64 ((r.ac.getD i z56).f0 - 1) by
      have := c h0
      have := (ha (i - 1) (by omega)).1
      omega⟩
end Go.Proofs.Ytcplblpmgajmnaa.A
