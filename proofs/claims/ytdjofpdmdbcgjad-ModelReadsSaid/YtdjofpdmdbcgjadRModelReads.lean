/- The row of the law ModelReads: out of the law over heaps. -/
import Derived.Test.YtdjofpdmdbcgjadRows
import Derived.Test.YtdjofpdmdbcgjadLModelReads
import Derived.Test.YtdjofpdmdbcgjadShArg
namespace Go.Proofs.Ytdjofpdmdbcgjad.modelReads
open Go Go.Sh Go.ChangeShapes Go.WideShapes Go.ChangeAt Go.RowKit
open Go.ChangeMaps (open_string shut_string)
set_option linter.unusedVariables false
theorem own : ownKnob Try.prog.godebug = none := by kernel_rfl
theorem laidOut : laidOutB Try.prog = true := by kernel_rfl
set_option maxRecDepth 100000 in
theorem lifted (os : Os) (started : os.Started) (H : Type) (enc : TypeId × Value → H) :
    ReturnsInHanded {} Try.checked os 4 .any (Rows.modelReadsSpec.pre6 enc Try.prog Try.f4 Rows.modelReadsRow.domain false) (Rows.modelReadsSpec.post enc Try.prog Try.f4 false true false false) := by
  refine returnsInHanded_of_change_sized (C := Try.checked) own started (by kernel_rfl) Try.func4
    (ChangeSpec.witness6 (enc := enc) (C := Try.checked) false ⟨#[], #[(.string (ByteArray.mk #[])), (.slice none 0 0), (.agg #[(.int .i64 (0 : Int)), (.int .i64 (0 : Int)), (.int .i64 (0 : Int)), (.int .i64 (0 : Int)), (.int .i64 (0 : Int)), (.int .i64 (0 : Int))])], []⟩ 8 (by kernel_rfl) (by kernel_rfl) (by kernel_rfl) (by kernel_rfl)) ?_
  intro W base args ds gs before hval0 hW hcnd hsz0 _
  have hsz : (DataW.weightsEach Try.prog (Try.f4.params.toList ++ Rows.modelReadsSpec.plain.varTypes Try.prog) (ds ++ gs)).all (· ≤ reachBytes) = true := hsz0
  have hval : ∀ (j : Nat) t v, Try.f4.params[j]? = some t → args[j]? = some v → Value.okWide Try.prog W .any base t v := hval0
  have hW' := hW
  obtain ⟨p, q, hA0, hV, rfl, hfz, hnd⟩ := hW
  have hA : DataW.TrodAll enc Try.prog W 0 (fun _ => true) true Try.f4.params.toList args.toList ds p := hA0
  rw [Try.params4] at hA hval hsz
  obtain ⟨v0, vs0, d0, ds0, p0, q0, hargs, rfl, rfl, h0, r0⟩ := trodAll_cons hA
  obtain ⟨v1, vs1, d1, ds1, p1, q1, rfl, rfl, rfl, h1, r1⟩ := trodAll_cons r0
  obtain ⟨v2, vs2, d2, ds2, p2, q2, rfl, rfl, rfl, h2, r2⟩ := trodAll_cons r1
  obtain ⟨rfl, rfl, rfl⟩ := trodAll_nil r2
  obtain rfl : args = #[v0, v1, v2] := by cases args; simp_all
  obtain ⟨rfl, rfl⟩ := trodVars_none hV
  obtain ⟨a0, rfl, rfl, rfl, y0⟩ := open_string Try.underlying9 (hval 0 9 v0 rfl rfl) h0
  have w0 : a0.size ≤ 140737488351232 := by
    have z := sized_string hsz (j := 0) (t := 9) rfl rfl
    rw [Array.length_toList] at z
    exact z
  have k1 := h1
  have lt1 : ∀ x ∈ p1, x.block < W.heap.size := by obtain ⟨m, hm⟩ := k1; exact DataW.trod_lt m _ _ _ hm
  obtain ⟨a1, l1, c1, z1, rfl, row1, len1, lc1, _, wf1, _⟩ := open_int_slice Try.underlying22 Try.underlying3 (by kernel_rfl) (hval 1 22 v1 rfl rfl) h1
  have y1 : l1 * 8 ≤ 140737488351232 := size_int_slice hsz (j := 1) (t := 22) rfl rfl Try.underlying22 Try.underlying3 (by kernel_rfl) (by kernel_rfl) h1
  have k2 := h2
  have lt2 : ∀ x ∈ p2, x.block < W.heap.size := by obtain ⟨m, hm⟩ := k2; exact DataW.trod_lt m _ _ _ hm
  obtain ⟨cs2, rfl, hm2_0⟩ := open_agg (n := 8) (ss := [.int .i64, .int .i64, .int .i64, .int .i64, .int .i64, .int .i64]) (by kernel_rfl) (by kernel_rfl) (hval 2 37 v2 rfl rfl) h2
  obtain ⟨x2_0, r2_0, rfl, m2_0, hm2_1⟩ := hm2_0.cons
  obtain ⟨a2_0, rfl, wf2_0⟩ := m2_0
  obtain ⟨x2_1, r2_1, rfl, m2_1, hm2_2⟩ := hm2_1.cons
  obtain ⟨a2_1, rfl, wf2_1⟩ := m2_1
  obtain ⟨x2_2, r2_2, rfl, m2_2, hm2_3⟩ := hm2_2.cons
  obtain ⟨a2_2, rfl, wf2_2⟩ := m2_2
  obtain ⟨x2_3, r2_3, rfl, m2_3, hm2_4⟩ := hm2_3.cons
  obtain ⟨a2_3, rfl, wf2_3⟩ := m2_3
  obtain ⟨x2_4, r2_4, rfl, m2_4, hm2_5⟩ := hm2_4.cons
  obtain ⟨a2_4, rfl, wf2_4⟩ := m2_4
  obtain ⟨x2_5, r2_5, rfl, m2_5, hm2_6⟩ := hm2_5.cons
  obtain ⟨a2_5, rfl, wf2_5⟩ := m2_5
  obtain rfl := hm2_6.nil
  clear hA0 hval0 hsz0 hsz
  refine (callP_below (G.ModelReads_ok a0 a2_0 a2_1 a2_2 a2_3 a2_4 a2_5 row1 len1 lc1 (by omega))).mono fun e W' ⟨he, bel⟩ => ?_
  subst he
  exact ⟨_, rfl, _, _, _, [], _, [], hW', trodAll_mk1 (shut_bool Try.underlying4 _), (trodAll_cons_mk (shut_string Try.underlying9 y0) (trodAll_cons_mk (Below.trod laidOut (by kernel_rfl) (of_decide_eq_true (by kernel_rfl)) k1 bel lt1) (trodAll_cons_mk (Below.trod laidOut (by kernel_rfl) (of_decide_eq_true (by kernel_rfl)) k2 bel lt2) trodAll_mk0))), rfl, bel.frame _, fun h => by cases h⟩
theorem over : Rows.modelReadsRow.holds Try.pinned (OpenSpec.ofChange Rows.modelReadsSpec) :=
  OpenClaim.holds_of_wide 4 Try.f4 rfl rfl rfl rfl rfl rfl rfl ⟨rfl, rfl, rfl, rfl, rfl⟩ rfl rfl rfl rfl rfl (by kernel_rfl) Try.func4 (by kernel_rfl)
    (of_decide_eq_true (by kernel_rfl)) (by unfold Func.isWrapper; first | (rw [if_pos (by decide +kernel)]; kernel_rfl) | (rw [if_neg (by decide +kernel)]; exact ⟨rfl, rfl⟩))
    (fun os started H enc _ => lifted os started H enc)
end Go.Proofs.Ytdjofpdmdbcgjad.modelReads
namespace Go.Proofs.Ytdjofpdmdbcgjad
/-- The law ModelReads, for the claim. -/
theorem modelReads_holds : Rows.ModelReadsSaid := modelReads.over
#print axioms modelReads_holds
end Go.Proofs.Ytdjofpdmdbcgjad
