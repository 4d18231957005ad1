/- The row of the law WakeNil: out of the law over heaps. -/
import Derived.Test.YtoobckjlkopikaaRows
import Derived.Test.YtoobckjlkopikaaLWakeNil
import Derived.Test.YtoobckjlkopikaaShArg
namespace Go.Proofs.Ytoobckjlkopikaa.wakeNil
open Go Go.Sh Go.ChangeShapes Go.WideShapes Go.ChangeAt Go.RowKit
open Go.ChangeMaps (open_string shut_string)
set_option linter.unusedVariables false
theorem own : ownKnob Try.prog.godebug = none := by kernel_rfl
theorem laidOut : laidOutB Try.prog = true := by kernel_rfl
set_option maxRecDepth 100000 in
theorem lifted (os : Os) (started : os.Started) (H : Type) (enc : TypeId × Value → H) :
    ReturnsInHanded {} Try.checked os 8 .any (Rows.wakeNilSpec.pre6 enc Try.prog Try.f8 Rows.wakeNilRow.domain false) (Rows.wakeNilSpec.post enc Try.prog Try.f8 false true false false) := by
  refine returnsInHanded_of_change_sized (C := Try.checked) own started (by kernel_rfl) Try.func8
    (ChangeSpec.witness6 (enc := enc) (C := Try.checked) false ⟨#[], #[(.int .i64 (0 : Int)), (.agg #[(.int .i64 (0 : Int)), (.int .i64 (0 : Int)), (.bool false)])], []⟩ 8 (by kernel_rfl) (by kernel_rfl) (by kernel_rfl) (by kernel_rfl)) ?_
  intro W base args ds gs before hval0 hW hcnd hsz0 _
  have hsz : (DataW.weightsEach Try.prog (Try.f8.params.toList ++ Rows.wakeNilSpec.plain.varTypes Try.prog) (ds ++ gs)).all (· ≤ reachBytes) = true := hsz0
  have hval : ∀ (j : Nat) t v, Try.f8.params[j]? = some t → args[j]? = some v → Value.okWide Try.prog W .any base t v := hval0
  have hW' := hW
  obtain ⟨p, q, hA0, hV, rfl, hfz, hnd⟩ := hW
  have hA : DataW.TrodAll enc Try.prog W 0 (fun _ => true) true Try.f8.params.toList args.toList ds p := hA0
  rw [Try.params8] at hA hval hsz
  obtain ⟨v0, vs0, d0, ds0, p0, q0, hargs, rfl, rfl, h0, r0⟩ := trodAll_cons hA
  obtain ⟨v1, vs1, d1, ds1, p1, q1, rfl, rfl, rfl, h1, r1⟩ := trodAll_cons r0
  obtain ⟨rfl, rfl, rfl⟩ := trodAll_nil r1
  obtain rfl : args = #[v0, v1] := by cases args; simp_all
  obtain ⟨rfl, rfl⟩ := trodVars_none hV
  obtain ⟨a0, rfl, rfl, rfl, wf0⟩ := open_int Try.underlying3 (hval 0 3 v0 rfl rfl) h0
  have k1 := h1
  have lt1 : ∀ x ∈ p1, x.block < W.heap.size := by obtain ⟨m, hm⟩ := k1; exact DataW.trod_lt m _ _ _ hm
  obtain ⟨cs1, rfl, hm1_0⟩ := open_agg (n := 8) (ss := [.int .i64, .int .i64, .bool]) (by kernel_rfl) (by kernel_rfl) (hval 1 40 v1 rfl rfl) h1
  obtain ⟨x1_0, r1_0, rfl, m1_0, hm1_1⟩ := hm1_0.cons
  obtain ⟨a1_0, rfl, wf1_0⟩ := m1_0
  obtain ⟨x1_1, r1_1, rfl, m1_1, hm1_2⟩ := hm1_1.cons
  obtain ⟨a1_1, rfl, wf1_1⟩ := m1_1
  obtain ⟨x1_2, r1_2, rfl, m1_2, hm1_3⟩ := hm1_2.cons
  obtain ⟨a1_2, rfl⟩ := m1_2
  obtain rfl := hm1_3.nil
  clear hA0 hval0 hsz0 hsz
  refine (callP_below (G.WakeNil_ok a0 a1_0 a1_1 a1_2)).mono fun e W' ⟨he, bel⟩ => ?_
  subst he
  exact ⟨_, rfl, _, _, _, [], _, [], hW', trodAll_mk1 (shut_bool Try.underlying4 _), (trodAll_cons_mk (shut_int Try.underlying3 wf0) (trodAll_cons_mk (Below.trod laidOut (by kernel_rfl) (of_decide_eq_true (by kernel_rfl)) k1 bel lt1) trodAll_mk0)), rfl, bel.frame _, fun h => by cases h⟩
theorem over : Rows.wakeNilRow.holds Try.pinned (OpenSpec.ofChange Rows.wakeNilSpec) :=
  OpenClaim.holds_of_wide 8 Try.f8 rfl rfl rfl rfl rfl rfl rfl ⟨rfl, rfl, rfl, rfl, rfl⟩ rfl rfl rfl rfl rfl (by kernel_rfl) Try.func8 (by kernel_rfl)
    (of_decide_eq_true (by kernel_rfl)) (by unfold Func.isWrapper; first | (rw [if_pos (by decide +kernel)]; kernel_rfl) | (rw [if_neg (by decide +kernel)]; exact ⟨rfl, rfl⟩))
    (fun os started H enc _ => lifted os started H enc)
end Go.Proofs.Ytoobckjlkopikaa.wakeNil
namespace Go.Proofs.Ytoobckjlkopikaa
/-- The law WakeNil, for the claim. -/
theorem wakeNil_holds : Rows.WakeNilSaid := wakeNil.over
#print axioms wakeNil_holds
end Go.Proofs.Ytoobckjlkopikaa
