/-
  The law RecordSlips answers true, without a panic, at every input: a record's bytes with one byte cut off, or one more behind, are none. No condition beside those of the given row.
  Joined by wip/prune.py out of: HSlips, LSlips.
-/
import Derived.Test.YtcplblpmgajmnaaBa6
import Derived.Lib.IfaceEq
import Derived.Test.YtcplblpmgajmnaaRows
import Derived.WalkKit
import Derived.ProofKit
import Derived.OpenShut
import Derived.ShutString
import Derived.ChangeOld
import Derived.Below
import Derived.SizedLaws
namespace Go.Proofs.Ytcplblpmgajmnaa.A
open Go.RowKit Go.Proofs.YtcplblpmgajmnaaW.PrintWords Go.Proofs.YtcplblpmgajmnaaW.PrintLast Go.Proofs.YtcplblpmgajmnaaW.PrintMore
set_option linter.unusedVariables false
set_option linter.unusedSimpArgs false
theorem cut_of (cut : Int) (b : List Int) (h : 0 < b.length ∧ b.length ≤ 4096) : ∃ l : List Int, Hid (l = b.take l.length ∧ l.length < b.length) ∧ ¬ IntKind.u64.wrap (b.length : Int) = 0 ∧ wrap64 ((IntKind.u64.wrap cut).tmod (IntKind.u64.wrap (b.length : Int))) = (l.length : Int) := by
  have e : IntKind.u64.wrap (b.length : Int) = (b.length : Int) := by rw [IntKind.wrap_u64]; omega
  have hu : 0 ≤ IntKind.u64.wrap cut := by rw [IntKind.wrap_u64]; omega
  rw [e, Int.tmod_eq_emod_of_nonneg hu]
  generalize IntKind.u64.wrap cut = u at hu
  have h1 := Int.emod_nonneg u (show (b.length : Int) ≠ 0 by omega)
  have h2 := Int.emod_lt_of_pos u (show 0 < (b.length : Int) by omega)
  generalize u % (b.length : Int) = v at h1 h2
  refine ⟨b.take v.toNat, Lib.hid ⟨?_, ?_⟩, by omega, ?_⟩
  · rw [List.length_take, Nat.min_eq_left (by omega)]
  · rw [List.length_take]; omega
  · rw [List.length_take]; unfold wrap64; omega
set_option maxHeartbeats 4000000 in
set_option maxRecDepth 100000 in
theorem slips_walk (w : World) (r : Rec) (a : Lies) (cut more : Int) (h : RIn w r a) (hw : r.Wide) (hm : 0 ≤ more ∧ more ≤ 255) : Calls Try.prog 6 #[.agg (r.cells a), .int .i64 cut, .int .u8 more] w fun e w' => e = .returned (.bool true) ∧ Below w.heap.size w w' := by
  have hu30 := Try.underlying30
  have hu32 := Try.underlying32
  have hu44 := Try.underlying44
  obtain ⟨A5, c5, A6, c6, A8, c8, A9, c9⟩ := a
  have HI := Aside0.mk h
  have HW := Lib.hid hw
  have HM := Lib.hid hm
  clear h hw hm
  unfold Rec.cells
  go_enter Try.func6, Try.ntmps6
  go_wp2_with fail
  refine (alive_true _).mono ?_
  rintro e w1 ⟨rfl, hb⟩
  have BK := Lib.hid (blk_below (heap_alloc_new w _) hb)
  have HB := Lib.hid (below_then (below_alloc (Below.refl w.heap.size w) _) (by rw [World.size_alloc]; omega) hb)
  replace HI := Aside0.mk (HI.out.below HB.out)
  clear hb
  obtain ⟨d_0, d_1, d_2, d_3, d_4, d_5, d_6, d_7, d_8, d_9⟩ := ten_cells BK.out
  have hfd := ten_free BK.out
  go_wp2_with fail
  refine (large_c HI.out HW.out).mono ?_
  rintro e w2 ⟨rfl, hb⟩
  replace BK := Lib.hid (blk_below BK.out hb)
  replace HI := Aside0.mk (HI.out.below hb)
  replace HB := Lib.hid (below_then HB.out HB.out.size hb)
  clear hb d_0 d_1 d_2 d_3 d_4 d_5 d_6 d_7 d_8 d_9 hfd
  by_cases hl : r.many > 3000
  · rw [decide_eq_true hl]
    have HL := Lib.hid hl
    clear hl
    go_wp2
    go_ret
    exact ⟨rfl, HB.out⟩
  · rw [decide_eq_false hl]
    have HF := Lib.hid (HW.out.fits hl)
    clear hl
    obtain ⟨d_0, d_1, d_2, d_3, d_4, d_5, d_6, d_7, d_8, d_9⟩ := ten_cells BK.out
    have hfd := ten_free BK.out
    go_wp2_with fail
    refine (enc_c HI.out HF.out).mono ?_
    rintro e w3 ⟨A, c, rfl, hc, hC, hb⟩
    replace HB := Lib.hid (below_then HB.out HB.out.size hb)
    clear hb d_0 d_1 d_2 d_3 d_4 d_5 d_6 d_7 d_8 d_9 hfd BK HI
    obtain ⟨b, x, he⟩ : ∃ b x, r.enc = (b, x) := ⟨_, _, rfl⟩
    rw [he] at hc hC ⊢
    replace hc : b.length ≤ c := hc
    replace hC : Kd.C (Kd.int .u8) w3 A b.length b := hC
    replace hC := Aside0.mk hC
    have HE := Lib.hid he
    clear he
    have hie := fun (W : World) (a b : Int) => Lib.run_eql_iface_int (P := Try.prog) (t := 32) (tx := 44) (k := .i64) W a b Try.underlying32 (by kernel_rfl) Try.underlying44
    rcases x with _ | x
    · simp only [errW_none]
      have hp := enc_some HE.out
      have Hp := Lib.hid hp
      have hlen : 0 < b.length := hp.1
      obtain ⟨l, Hl, hz, hq⟩ := cut_of cut b ⟨hp.1, hp.2.1⟩
      have hlt : l.length < b.length := Hl.out.2
      have hlc : l.length ≤ c := by omega
      replace hc := Lib.hid hc
      clear hp
      go_wp2_with fail
      have hCl : Kd.C (Kd.int .u8) w3 A l.length l := by
        have := Kd.C_take hC.out (show l.length ≤ b.length by omega)
        rwa [← Hl.out.1] at this
      have hdl : decodeF l = (Rec.zero, some 4) := by
        rw [Hl.out.1]
        exact decode_cut HF.out HE.out l.length hlt
      refine (decode_c (x := some 4) hCl hlc (fun x hx => Hp.out.2.2 x (by rw [Hl.out.1] at hx; exact List.mem_of_mem_take hx)) hdl).mono ?_
      rintro e w4 ⟨a1, rfl, _, hb⟩
      replace hC := Aside0.mk (Kd.C_below hC.out hb)
      replace HB := Lib.hid (below_then HB.out HB.out.size hb)
      clear hCl hdl hb hq hz
      simp only [errW_some, Rec.cells, Rec.zero]
      go_wp2_with (first
        | ((with_reducible refine gate_dst (N := 46) rfl ?_); refine Kd.R_lit (Kd.int .u8) _ 5 ?hg (N := 46) ?hd (xs := ([] : List Int)) (inner := []) (ok := fun _ => True) (okp := fun _ => True) ?hr ?hp (fun _ hk => hk) trivial (Below.refl _ _) (Nat.le_refl _) (by simp) ?_; (case hd => rfl); (case hg => rfl); (case hr => first | (go_simp; done) | (go_simp; rfl)); (case hp => exact (Reps.none _ _)); intro v46 w5 ho hb hg_ hnew_; clear hg_ hnew_; have hb0 := below_then (below_alloc HB.out _) (below_size (below_alloc HB.out _)) hb; have hC5 := Aside0.mk (Kd.C_below (Kd.C_alloc hC.out _) hb); have HO := Aside0.mk (Kd.R_lower ho (below_size (below_alloc HB.out _))); clear ho hb hC; replace HB := Lib.hid hb0; clear hb0)
        | ((with_reducible refine gate_builtin (b := .append) (xs := #[.tmp 46, .tmp 47]) rfl ?_); at_builtin; refine Kd.R_append_rows (Kd.int .u8) (w0 := w) w.heap.size rfl (.tmp 46) (.tmp 47) 22 5 (.int .u8 0) 1 rfl Try.underlying22 info5 rfl (by decide) (by omega) v46 [] b _ _ _ (fun _ => True) (fun _ => False) rfl rfl ?aO ?aR (fun _ _ h => h) (fun _ h => h.elim) ?aF ?aB ?aS ?aL ?_; (case aR => exact hC5.out); (case aB => exact HB.out); (case aF => exact (fun _ _ => trivial)); (case aO => exact HO.out); (case aS => exact below_size HB.out); (case aL => have := Hp.out.2.1; simp only [List.length_nil]; omega); intro v48 w6 ho hb hg hat; rw [List.nil_append] at ho; clear HB HO hC5; have HB := Lib.hid hb; have HO := Aside0.mk ho; clear ho hb hg hat)
        | ((with_reducible refine gate_builtin (b := .append) (xs := #[.tmp 48, .tmp 50]) rfl ?_); at_builtin; refine Kd.R_append (Kd.int .u8) (w0 := w) w.heap.size rfl (.tmp 48) (.tmp 50) 22 5 (.int .u8 0) 1 rfl Try.underlying22 info5 rfl (by decide) (by omega) v48 b more [.int .u8 more] (fun _ => True) (fun _ => False) rfl rfl ?aP (fun _ hk => hk.elim) ?aF ?aO ?aB ?aS ?aL ?_; (case aP => exact rfl); (case aB => exact HB.out); (case aF => exact (fun _ _ => trivial)); (case aO => exact HO.out); (case aS => exact below_size HB.out); (case aL => have := Hp.out.2.1; omega); intro v51 w7 ho hb hg hat; obtain ⟨y, Hy⟩ : ∃ y : List Int, Hid (y = b ++ [more]) := ⟨_, Lib.hid rfl⟩; rw [← Hy.out] at ho; clear HB HO; have HB := Lib.hid hb; obtain ⟨A7, c7, e7, hc7, hC7⟩ := Kd.R_reads ho; subst e7; replace hC7 := Aside0.mk hC7; clear ho hb hg hat))
      have hd2 : decodeF y = (Rec.zero, some 4) := by
        rw [Hy.out]
        exact decode_more HF.out HE.out more
      refine (decode_c (x := some 4) hC7.out hc7 (fun x hx => by
        rw [Hy.out] at hx
        rcases List.mem_append.1 hx with hx | hx
        · exact Hp.out.2.2 x hx
        · obtain rfl : x = more := by simpa using hx
          exact HM.out) hd2).mono ?_
      rintro e w8 ⟨a2, rfl, _, hb⟩
      replace HB := Lib.hid (below_then HB.out HB.out.size hb)
      clear hd2 hb
      simp only [errW_some, Rec.cells, Rec.zero]
      go_wp2
      go_ret
      exact ⟨by rfl, by (with_reducible repeat (first | apply below_alloc | apply pw_below_drewN | apply below_drew1)); exact HB.out⟩
    · obtain ⟨rfl, rfl⟩ := enc_err HE.out
      simp only [errW_some]
      go_wp2
      go_ret
      exact ⟨rfl, HB.out⟩
end Go.Proofs.Ytcplblpmgajmnaa.A
namespace Go.Proofs.Ytcplblpmgajmnaa.recordSlips
open Go.ChangeShapes Go.WideShapes Go.ChangeAt Go.RowKit Go.Proofs.Ytcplblpmgajmnaa.A
open Go.ChangeMaps (open_string shut_string)
set_option linter.unusedVariables false
theorem own : ownKnob Try.prog.godebug = none := by kernel_rfl
theorem laidOut : laidOutB Try.prog = true := by kernel_rfl
set_option maxRecDepth 100000 in
theorem lifted (os : Os) (started : os.Started) (H : Type) (enc : TypeId × Value → H) :
    ReturnsInHanded {} Try.checked os 6 .any (Rows.recordSlipsSpec.pre6 enc Try.prog Try.f6 Rows.recordSlipsRow.domain false) (Rows.recordSlipsSpec.post enc Try.prog Try.f6 false true false false) := by
  refine returnsInHanded_of_change_sized (C := Try.checked) own started (by kernel_rfl) Try.func6
    (ChangeSpec.witness6 (enc := enc) (C := Try.checked) false ⟨#[], #[.agg #[.int .i64 0, .int .i64 0, .int .i64 0, .int .i64 0, .int .i64 0, .slice none 0 0, .slice none 0 0, .int .i64 0, .slice none 0 0, .slice none 0 0], .int .i64 0, .int .u8 0], []⟩ 8 (by kernel_rfl) (by kernel_rfl) (by kernel_rfl) (by kernel_rfl)) ?_
  intro W base args ds gs before hval0 hW hcnd hsz0 _
  have hsz : (DataW.weightsEach Try.prog (Try.f6.params.toList ++ Rows.recordSlipsSpec.plain.varTypes Try.prog) (ds ++ gs)).all (· ≤ reachBytes) = true := hsz0
  have hval : ∀ (j : Nat) t v, Try.f6.params[j]? = some t → args[j]? = some v → Value.okWide Try.prog W .any base t v := hval0
  have hW' := hW
  obtain ⟨p, q, hA0, hV, rfl, hfz, hnd⟩ := hW
  have hA : DataW.TrodAll enc Try.prog W 0 (fun _ => true) true Try.f6.params.toList args.toList ds p := hA0
  rw [Try.params6] at hA hval hsz
  obtain ⟨v0, vs0, d0, ds0, p0, q0, hargs, rfl, rfl, h0, r_0⟩ := trodAll_cons hA
  obtain ⟨v1, vs1, d1, ds1, p1, q1, rfl, rfl, rfl, h1, r_1⟩ := trodAll_cons r_0
  obtain ⟨v2, vs2, d2, ds2, p2, q2, rfl, rfl, rfl, h2, r_2⟩ := trodAll_cons r_1
  obtain ⟨rfl, rfl, rfl⟩ := trodAll_nil r_2
  obtain rfl : args = #[v0, v1, v2] := by cases args; simp_all
  obtain ⟨rfl, rfl⟩ := trodVars_none hV
  have t0 := h0
  have lt0 : ∀ x ∈ p0, x.block < W.heap.size := by obtain ⟨m, hm⟩ := t0; exact DataW.trod_lt m _ _ _ hm
  have wz0 : ∀ n ∈ d0.weights Try.prog 30, n ≤ reachBytes := fun n hn => by have := List.all_eq_true.1 hsz n (DataW.weights_mem_each (j := 0) rfl rfl n hn); simpa using this
  obtain ⟨r0, b0, rfl, i0, g0⟩ := open_record (hval 0 30 v0 rfl rfl) h0 wz0
  obtain ⟨a1, rfl, rfl, rfl, w1⟩ := open_int Try.underlying3 (hval 1 3 v1 rfl rfl) h1
  obtain ⟨a2, rfl, rfl, rfl, w2⟩ := open_int Try.underlying5 (hval 2 5 v2 rfl rfl) h2
  clear hA0 hval0 hsz0 hsz
  refine (A.slips_walk W r0 b0 a1 a2 i0 g0 (u8_wf w2)).mono fun e W' ⟨he, bel⟩ => ?_
  subst he
  exact ⟨_, rfl, _, _, _, [], _, [], hW', trodAll_mk1 (shut_bool Try.underlying4 _), (trodAll_cons_mk (Below.trod laidOut (by kernel_rfl) (of_decide_eq_true (by kernel_rfl)) t0 bel lt0) (trodAll_cons_mk (shut_int Try.underlying3 w1) (trodAll_cons_mk (shut_int Try.underlying5 w2) trodAll_mk0))), rfl, bel.frame _, fun h => by cases h⟩
theorem over : Rows.recordSlipsRow.holds Try.pinned (OpenSpec.ofChange Rows.recordSlipsSpec) :=
  OpenClaim.holds_of_wide 6 Try.f6 rfl rfl rfl rfl rfl rfl rfl ⟨rfl, rfl, rfl, rfl, rfl⟩ rfl rfl rfl rfl rfl (by kernel_rfl) Try.func6 (by kernel_rfl)
    (of_decide_eq_true (by kernel_rfl)) (by unfold Func.isWrapper; first | (rw [if_pos (by decide +kernel)]; kernel_rfl) | (rw [if_neg (by decide +kernel)]; exact ⟨rfl, rfl⟩))
    (fun os started H enc _ => lifted os started H enc)
theorem proved : Rows.RecordSlipsSaid := over
end Go.Proofs.Ytcplblpmgajmnaa.recordSlips
namespace Go.Proofs.Ytcplblpmgajmnaa
theorem recordSlips_holds : Rows.RecordSlipsSaid := recordSlips.proved
end Go.Proofs.Ytcplblpmgajmnaa
