/- The row of the law WakeMoves: out of the law over heaps. -/
import Derived.Test.YtoobckjlkopikaaRows
import Derived.Test.YtoobckjlkopikaaLWakeMoves
import Derived.Test.YtoobckjlkopikaaShArg
namespace Go.Proofs.Ytoobckjlkopikaa.wakeMoves
open Go Go.Sh Go.ChangeShapes Go.WideShapes Go.ChangeAt Go.RowKit
open Go.ChangeMaps (open_string shut_string)
set_option linter.unusedVariables false
theorem own : ownKnob Try.prog.godebug = none := by kernel_rfl
theorem laidOut : laidOutB Try.prog = true := by kernel_rfl
set_option maxRecDepth 100000 in
theorem lifted (os : Os) (started : os.Started) (H : Type) (enc : TypeId × Value → H) :
    ReturnsInHanded {} Try.checked os 7 .any (Rows.wakeMovesSpec.pre6 enc Try.prog Try.f7 Rows.wakeMovesRow.domain false) (Rows.wakeMovesSpec.post enc Try.prog Try.f7 false true false false) := by
  refine returnsInHanded_of_change_sized (C := Try.checked) own started (by kernel_rfl) Try.func7
    (ChangeSpec.witness6 (enc := enc) (C := Try.checked) false ⟨#[], #[(.agg #[(.int .i64 (0 : Int)), (.int .i64 (0 : Int)), (.int .i64 (0 : Int))]), (.slice none 0 0), (.agg #[(.int .i64 (0 : Int)), (.int .i64 (0 : Int)), (.int .i64 (0 : Int))])], []⟩ 8 (by kernel_rfl) (by kernel_rfl) (by kernel_rfl) (by kernel_rfl)) ?_
  intro W base args ds gs before hval0 hW hcnd hsz0 _
  have hsz : (DataW.weightsEach Try.prog (Try.f7.params.toList ++ Rows.wakeMovesSpec.plain.varTypes Try.prog) (ds ++ gs)).all (· ≤ reachBytes) = true := hsz0
  have hval : ∀ (j : Nat) t v, Try.f7.params[j]? = some t → args[j]? = some v → Value.okWide Try.prog W .any base t v := hval0
  have hW' := hW
  obtain ⟨p, q, hA0, hV, rfl, hfz, hnd⟩ := hW
  have hA : DataW.TrodAll enc Try.prog W 0 (fun _ => true) true Try.f7.params.toList args.toList ds p := hA0
  rw [Try.params7] at hA hval hsz
  obtain ⟨v0, vs0, d0, ds0, p0, q0, hargs, rfl, rfl, h0, r0⟩ := trodAll_cons hA
  obtain ⟨v1, vs1, d1, ds1, p1, q1, rfl, rfl, rfl, h1, r1⟩ := trodAll_cons r0
  obtain ⟨v2, vs2, d2, ds2, p2, q2, rfl, rfl, rfl, h2, r2⟩ := trodAll_cons r1
  obtain ⟨rfl, rfl, rfl⟩ := trodAll_nil r2
  obtain rfl : args = #[v0, v1, v2] := by cases args; simp_all
  obtain ⟨rfl, rfl⟩ := trodVars_none hV
  have k0 := h0
  have lt0 : ∀ x ∈ p0, x.block < W.heap.size := by obtain ⟨m, hm⟩ := k0; exact DataW.trod_lt m _ _ _ hm
  obtain ⟨cs0, rfl, hm0_0⟩ := open_agg (n := 8) (ss := [.int .i64, .int .i64, .int .i64]) (by kernel_rfl) (by kernel_rfl) (hval 0 22 v0 rfl rfl) h0
  obtain ⟨x0_0, r0_0, rfl, m0_0, hm0_1⟩ := hm0_0.cons
  obtain ⟨a0_0, rfl, wf0_0⟩ := m0_0
  obtain ⟨x0_1, r0_1, rfl, m0_1, hm0_2⟩ := hm0_1.cons
  obtain ⟨a0_1, rfl, wf0_1⟩ := m0_1
  obtain ⟨x0_2, r0_2, rfl, m0_2, hm0_3⟩ := hm0_2.cons
  obtain ⟨a0_2, rfl, wf0_2⟩ := m0_2
  obtain rfl := hm0_3.nil
  have k1 := h1
  have lt1 : ∀ x ∈ p1, x.block < W.heap.size := by obtain ⟨m, hm⟩ := k1; exact DataW.trod_lt m _ _ _ hm
  obtain ⟨a1, l1, c1, z1, rfl, row1, len1, lc1, _, wf1, _⟩ := open_int_slice Try.underlying23 Try.underlying3 (by kernel_rfl) (hval 1 23 v1 rfl rfl) h1
  have y1 : l1 * 8 ≤ 140737488351232 := size_int_slice hsz (j := 1) (t := 23) rfl rfl Try.underlying23 Try.underlying3 (by kernel_rfl) (by kernel_rfl) h1
  have k2 := h2
  have lt2 : ∀ x ∈ p2, x.block < W.heap.size := by obtain ⟨m, hm⟩ := k2; exact DataW.trod_lt m _ _ _ hm
  obtain ⟨cs2, rfl, hm2_0⟩ := open_agg (n := 8) (ss := [.int .i64, .int .i64, .int .i64]) (by kernel_rfl) (by kernel_rfl) (hval 2 22 v2 rfl rfl) h2
  obtain ⟨x2_0, r2_0, rfl, m2_0, hm2_1⟩ := hm2_0.cons
  obtain ⟨a2_0, rfl, wf2_0⟩ := m2_0
  obtain ⟨x2_1, r2_1, rfl, m2_1, hm2_2⟩ := hm2_1.cons
  obtain ⟨a2_1, rfl, wf2_1⟩ := m2_1
  obtain ⟨x2_2, r2_2, rfl, m2_2, hm2_3⟩ := hm2_2.cons
  obtain ⟨a2_2, rfl, wf2_2⟩ := m2_2
  obtain rfl := hm2_3.nil
  clear hA0 hval0 hsz0 hsz
  refine (callP_below (G.WakeMoves_ok a0_0 a0_1 a0_2 row1 len1 (by omega) a2_0 a2_1 a2_2)).mono fun e W' ⟨he, bel⟩ => ?_
  subst he
  exact ⟨_, rfl, _, _, _, [], _, [], hW', trodAll_mk1 (shut_bool Try.underlying4 _), (trodAll_cons_mk (Below.trod laidOut (by kernel_rfl) (of_decide_eq_true (by kernel_rfl)) k0 bel lt0) (trodAll_cons_mk (Below.trod laidOut (by kernel_rfl) (of_decide_eq_true (by kernel_rfl)) k1 bel lt1) (trodAll_cons_mk (Below.trod laidOut (by kernel_rfl) (of_decide_eq_true (by kernel_rfl)) k2 bel lt2) trodAll_mk0))), rfl, bel.frame _, fun h => by cases h⟩
theorem over : Rows.wakeMovesRow.holds Try.pinned (OpenSpec.ofChange Rows.wakeMovesSpec) :=
  OpenClaim.holds_of_wide 7 Try.f7 rfl rfl rfl rfl rfl rfl rfl ⟨rfl, rfl, rfl, rfl, rfl⟩ rfl rfl rfl rfl rfl (by kernel_rfl) Try.func7 (by kernel_rfl)
    (of_decide_eq_true (by kernel_rfl)) (by unfold Func.isWrapper; first | (rw [if_pos (by decide +kernel)]; kernel_rfl) | (rw [if_neg (by decide +kernel)]; exact ⟨rfl, rfl⟩))
    (fun os started H enc _ => lifted os started H enc)
end Go.Proofs.Ytoobckjlkopikaa.wakeMoves
namespace Go.Proofs.Ytoobckjlkopikaa
/-- The law WakeMoves, for the claim. -/
theorem wakeMoves_holds : Rows.WakeMovesSaid := wakeMoves.over
#print axioms wakeMoves_holds
end Go.Proofs.Ytoobckjlkopikaa
