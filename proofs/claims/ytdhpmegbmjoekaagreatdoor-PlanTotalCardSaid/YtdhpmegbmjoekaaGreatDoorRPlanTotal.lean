/- The row of the law PlanTotal: out of the law over heaps. -/
import Derived.Test.YtdhpmegbmjoekaaGreatDoorRows
import Derived.Test.YtdhpmegbmjoekaaGreatDoorLPlanTotal
import Derived.Test.YtdhpmegbmjoekaaGreatDoorShArg
import Derived.Test.YtdhpmegbmjoekaaGreatDoorCLaid
import Derived.Test.YtdhpmegbmjoekaaGreatDoorCards
import Derived.Test.YtdhpmegbmjoekaaGreatDoorTie
import Derived.SevenTiedAt
namespace Go.Proofs.YtdhpmegbmjoekaaGreatDoor.planTotal
open Go Go.Sh Go.ChangeShapes Go.WideShapes Go.ChangeAt Go.RowKit
open Go.ChangeMaps (open_string shut_string)
set_option linter.unusedVariables false
theorem own : ownKnob Tryz.prog.godebug = none := by kernel_rfl
theorem laidOut : laidOutB Tryz.prog = true := by kernel_rfl
set_option maxRecDepth 100000 in
theorem lifted (os : Os) (started : os.Started) (H : Type) (enc : TypeId × Value → H) :
    ReturnsInHanded {} Tryz.checked os 6 .any (fun w args => (Rows.planTotalSpec.pre enc Tryz.prog Tryz.f6 Rows.planTotalRow.domain false w args ∧ laidMetH Tryz.prog G.DV w) ∧ sizedMet enc Tryz.prog Tryz.f6 (OpenSpec.ofChange Rows.planTotalSpec) false w args) (Rows.planTotalSpec.post enc Tryz.prog Tryz.f6 false true false false) := by
  refine returnsInHanded_of_change_and (C := Tryz.checked) (X := fun w _ => laidMetH Tryz.prog G.DV w) (fun _ _ _ hh h => h.of_heap hh) own started (by kernel_rfl) Tryz.func6
    (ChangeSpec.witness_shaped (enc := enc) (C := Tryz.checked) (os := os) (X := fun w _ => laidMetH Tryz.prog G.DV w) false (World.laidAll Tryz.prog os G.DV) #[(.string (ByteArray.mk #[])), (.slice none 0 0), (.agg #[(.int .i64 (0 : Int)), (.int .i64 (0 : Int)), (.int .i64 (0 : Int)), (.int .i64 (0 : Int)), (.int .i64 (0 : Int))])] 8 (World.laidAll_os _ _ _) (World.shaped_of_ZipB (by kernel_rfl) (by kernel_rfl)) (by kernel_rfl) (by kernel_rfl) (by kernel_rfl) (G.N5 os _)) ?_
  intro W base args ds gs before hval0 hW hcnd hsz0 hL _
  have hsz : (DataW.weightsEach Tryz.prog (Tryz.f6.params.toList ++ Rows.planTotalSpec.plain.varTypes Tryz.prog) (ds ++ gs)).all (· ≤ reachBytes) = true := hsz0
  have hval : ∀ (j : Nat) t v, Tryz.f6.params[j]? = some t → args[j]? = some v → Value.okWide Tryz.prog W .any base t v := hval0
  have hW' := hW
  obtain ⟨p, q, hA0, hV, rfl, hfz, hnd⟩ := hW
  have hA : DataW.TrodAll enc Tryz.prog W 0 (fun _ => true) true Tryz.f6.params.toList args.toList ds p := hA0
  rw [Tryz.params6] at hA hval hsz
  obtain ⟨v0, vs0, d0, ds0, p0, q0, hargs, rfl, rfl, h0, r0⟩ := trodAll_cons hA
  obtain ⟨v1, vs1, d1, ds1, p1, q1, rfl, rfl, rfl, h1, r1⟩ := trodAll_cons r0
  obtain ⟨v2, vs2, d2, ds2, p2, q2, rfl, rfl, rfl, h2, r2⟩ := trodAll_cons r1
  obtain ⟨rfl, rfl, rfl⟩ := trodAll_nil r2
  obtain rfl : args = #[v0, v1, v2] := by cases args; simp_all
  obtain ⟨rfl, rfl⟩ := trodVars_none hV
  obtain ⟨a0, rfl, rfl, rfl, y0⟩ := open_string Tryz.underlying9 (hval 0 9 v0 rfl rfl) h0
  have w0 : a0.size ≤ 140737488351232 := by
    have z := sized_string hsz (j := 0) (t := 9) rfl rfl
    rw [Array.length_toList] at z
    exact z
  have k1 := h1
  have lt1 : ∀ x ∈ p1, x.block < W.heap.size := by obtain ⟨m, hm⟩ := k1; exact DataW.trod_lt m _ _ _ hm
  obtain ⟨a1, l1, c1, z1, rfl, row1, len1, lc1, _, wf1, _⟩ := DT Tryz.underlying22 Tryz.underlying3 (by kernel_rfl) (hval 1 22 v1 rfl rfl) h1
  have y1 : l1 * 8 ≤ 140737488351232 := DU hsz (j := 1) (t := 22) rfl rfl Tryz.underlying22 Tryz.underlying3 (by kernel_rfl) (by kernel_rfl) h1
  have k2 := h2
  have lt2 : ∀ x ∈ p2, x.block < W.heap.size := by obtain ⟨m, hm⟩ := k2; exact DataW.trod_lt m _ _ _ hm
  obtain ⟨cs2, rfl, hm2_0⟩ := N4 (n := 8) (ss := [.int .i64, .int .i64, .int .i64, .int .i64, .int .i64]) (by kernel_rfl) (by kernel_rfl) (hval 2 23 v2 rfl rfl) h2
  obtain ⟨x2_0, r2_0, rfl, m2_0, hm2_1⟩ := hm2_0.cons
  obtain ⟨a2_0, rfl, wf2_0⟩ := m2_0
  obtain ⟨x2_1, r2_1, rfl, m2_1, hm2_2⟩ := hm2_1.cons
  obtain ⟨a2_1, rfl, wf2_1⟩ := m2_1
  obtain ⟨x2_2, r2_2, rfl, m2_2, hm2_3⟩ := hm2_2.cons
  obtain ⟨a2_2, rfl, wf2_2⟩ := m2_2
  obtain ⟨x2_3, r2_3, rfl, m2_3, hm2_4⟩ := hm2_3.cons
  obtain ⟨a2_3, rfl, wf2_3⟩ := m2_3
  obtain ⟨x2_4, r2_4, rfl, m2_4, hm2_5⟩ := hm2_4.cons
  obtain ⟨a2_4, rfl, wf2_4⟩ := m2_4
  obtain rfl := hm2_5.nil
  clear hA0 hval0 hsz0 hsz
  refine (Iv (G.FM (G.JP hL) a0 row1 len1 lc1 (by omega) a2_0 a2_1 a2_2 a2_3 a2_4)).mono fun e W' ⟨he, bel⟩ => ?_
  subst he
  exact ⟨_, rfl, _, _, _, [], _, [], hW', trodAll_mk1 (shut_bool Tryz.underlying4 _), (trodAll_cons_mk (shut_string Tryz.underlying9 y0) (trodAll_cons_mk (Below.trod laidOut (by kernel_rfl) (of_decide_eq_true (by kernel_rfl)) k1 bel lt1) (trodAll_cons_mk (Below.trod laidOut (by kernel_rfl) (of_decide_eq_true (by kernel_rfl)) k2 bel lt2) trodAll_mk0))), rfl, bel.frame _, fun h => by cases h⟩
theorem over : Rows.planTotalRow.holds Tryz.pinned (OpenSpec.ofChange Rows.planTotalSpec) :=
  OpenClaim.holds_of_wide 6 Tryz.f6 rfl rfl rfl rfl rfl rfl rfl ⟨rfl, rfl, rfl, rfl, rfl⟩ rfl rfl rfl rfl rfl (by kernel_rfl) Tryz.func6 (by kernel_rfl)
    (of_decide_eq_true (by kernel_rfl)) (by unfold Func.isWrapper; first | (rw [if_pos (by decide +kernel)]; kernel_rfl) | (rw [if_neg (by decide +kernel)]; exact ⟨rfl, rfl⟩))
    (fun os started H enc _ => lifted os started H enc)
end Go.Proofs.YtdhpmegbmjoekaaGreatDoor.planTotal
namespace Go.Proofs.YtdhpmegbmjoekaaGreatDoor
set_option maxRecDepth 100000 in
open Go in
/-- The law PlanTotal, for the claim: its row, and what the row lists tied to the program's text. -/
theorem planTotal_holds : Rows.PlanTotalCardSaid :=
  Claim7.holds_tied_plain_at .later [] [.data] true (true, "e8516d44fa406f9624674b5fc4bc46ed197ea5d2413a9bb05b121631932877e3") false planTotal.over (fun _ h => by cases h) (by kernel_rfl) (fun _ h => by cases h) planTotal_row_tie rfl ⟨rfl, rfl⟩ (by kernel_rfl) rfl
    (fun f fn hf hfn => by
      obtain rfl : f = 6 := Option.some.inj ((show Tryz.prog.funcNamed "earshot/earshotlaw22.PlanTotal" = some 6 by kernel_rfl).symm.trans hf) |>.symm
      obtain rfl : fn = Tryz.f6 := (Option.some.inj (Tryz.func6.symm.trans hfn)).symm
      exact ⟨by kernel_rfl, fun j t ht => by
        rw [Tryz.params6] at ht
        have hm : t ∈ [9, 22, 23] := by simpa using Array.mem_of_getElem? ht
        have hall : ([9, 22, 23].all fun u => !Tryz.prog.wantsStandIn u) = true := by kernel_rfl
        exact (show Tryz.prog.wantsStandIn t = false by simpa using List.all_eq_true.1 hall t hm)⟩)
    (by kernel_rfl)
#print axioms planTotal_holds
end Go.Proofs.YtdhpmegbmjoekaaGreatDoor
