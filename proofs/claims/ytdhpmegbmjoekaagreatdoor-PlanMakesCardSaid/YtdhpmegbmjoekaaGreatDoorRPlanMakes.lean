/- The row of the law PlanMakes: out of the law over heaps. -/
import Derived.Test.YtdhpmegbmjoekaaGreatDoorRows
import Derived.Test.YtdhpmegbmjoekaaGreatDoorLPlanMakes
import Derived.Test.YtdhpmegbmjoekaaGreatDoorShArg
import Derived.Test.YtdhpmegbmjoekaaGreatDoorCLaid
import Derived.Test.YtdhpmegbmjoekaaGreatDoorCards
import Derived.Test.YtdhpmegbmjoekaaGreatDoorTie
import Derived.SevenTiedAt
namespace Go.Proofs.YtdhpmegbmjoekaaGreatDoor.planMakes
open Go Go.Sh Go.ChangeShapes Go.WideShapes Go.ChangeAt Go.RowKit
open Go.ChangeMaps (open_string shut_string)
set_option linter.unusedVariables false
theorem own : ownKnob Tryz.prog.godebug = none := by kernel_rfl
theorem laidOut : laidOutB Tryz.prog = true := by kernel_rfl
set_option maxRecDepth 100000 in
theorem lifted(os : Os)(d : os.Started)(H : Type)(enc : TypeId × Value → H) :
    ReturnsInHanded {} Tryz.checked os 3 .any (fun w a => (Rows.planMakesSpec.pre enc Tryz.prog Tryz.f3 Rows.planMakesRow.domain false w a ∧ laidMetH Tryz.prog G.Ey w) ∧ sizedMet enc Tryz.prog Tryz.f3 (OpenSpec.ofChange Rows.planMakesSpec) false w a) (Rows.planMakesSpec.post enc Tryz.prog Tryz.f3 false true false false) := by
  refine returnsInHanded_of_change_and (C := Tryz.checked) (X := fun w _ => laidMetH Tryz.prog G.Ey w) (fun _ _ _ hh h => h.of_heap hh) own d (by kernel_rfl) Tryz.func3
    (ChangeSpec.witness_shaped (enc := enc) (C := Tryz.checked) (os := os) (X := fun w _ => laidMetH Tryz.prog G.Ey w) false (World.laidAll Tryz.prog os G.Ey) #[(.string (ByteArray.mk #[])), (.slice none 0 0), (.agg #[(.int .i64 (0 : Int)), (.int .i64 (0 : Int)), (.int .i64 (0 : Int)), (.int .i64 (0 : Int)), (.int .i64 (0 : Int))])] 8 (World.laidAll_os _ _ _) (World.shaped_of_ZipB (by kernel_rfl) (by kernel_rfl)) (by kernel_rfl) (by kernel_rfl) (by kernel_rfl) (G.QW os _)) ?_
  intro W base a ds gs P c hW ai g hL _;have f : (DataW.weightsEach Tryz.prog (Tryz.f3.params.toList ++ Rows.planMakesSpec.plain.varTypes Tryz.prog) (ds ++ gs)).all (· ≤ reachBytes) = true := g;have b : ∀ (j : Nat) t v, Tryz.f3.params[j]? = some t → a[j]? = some v → Value.okWide Tryz.prog W .any base t v := c;have R := hW;obtain ⟨p, q, F, hV, rfl, a8, a9⟩ := hW;have hA : DataW.TrodAll enc Tryz.prog W 0 (fun _ => true) true Tryz.f3.params.toList a.toList ds p := F;rw [Tryz.params3]at hA b f;obtain ⟨v0, ba, d0, a5, p0, q0, S, rfl, rfl, h0, r0⟩ := trodAll_cons hA;obtain ⟨v1, bb, d1, a6, p1, q1, rfl, rfl, rfl, Q, r1⟩ := trodAll_cons r0;obtain ⟨v2, bd, d2, a7, p2, q2, rfl, rfl, rfl, h2, r2⟩ := trodAll_cons r1;obtain ⟨rfl, rfl, rfl⟩ := trodAll_nil r2;obtain rfl : a = #[v0, v1, v2] := by cases a; simp_all
  obtain ⟨rfl, rfl⟩ := trodVars_none hV;obtain ⟨a0, rfl, rfl, rfl, y0⟩ := open_string Tryz.underlying9 (b 0 9 v0 rfl rfl) h0;have w0 : a0.size ≤ 140737488351232 := by
    have z := sized_string f (j := 0) (t := 9) rfl rfl;rw [Array.length_toList]at z;exact z
  have k1 := Q;have V : ∀ x ∈ p1, x.block < W.heap.size := by obtain ⟨m, T⟩ := k1; exact DataW.trod_lt m _ _ _ T
  obtain ⟨a1, l1, c1, z1, rfl, O, I, U, _, bg, _⟩ := Ew Tryz.underlying22 Tryz.underlying3 (by kernel_rfl) (b 1 22 v1 rfl rfl) Q;have y1 : l1 * 8 ≤ 140737488351232 := Ex f (j := 1) (t := 22) rfl rfl Tryz.underlying22 Tryz.underlying3 (by kernel_rfl) (by kernel_rfl) Q;have k2 := h2;have Y : ∀ x ∈ p2, x.block < W.heap.size := by obtain ⟨m, T⟩ := k2; exact DataW.trod_lt m _ _ _ T
  obtain ⟨a4, rfl, k⟩ := QV (n := 8) (ss := [.int .i64, .int .i64, .int .i64, .int .i64, .int .i64]) (by kernel_rfl) (by kernel_rfl) (b 2 23 v2 rfl rfl) h2;obtain ⟨aw, aj, rfl, J, l⟩ := k.cons;obtain ⟨y, rfl, Z⟩ := J;obtain ⟨ax, an, rfl, K, o⟩ := l.cons;obtain ⟨A, rfl, aa⟩ := K;obtain ⟨ay, ao, rfl, L, r⟩ := o.cons;obtain ⟨B, rfl, ab⟩ := L;obtain ⟨a2, ap, rfl, M, s⟩ := r.cons;obtain ⟨D, rfl, ad⟩ := M;obtain ⟨a3, ar, rfl, N, u⟩ := s.cons;obtain ⟨E, rfl, ag⟩ := N;obtain rfl := u.nil;clear F c g f;refine (JZ (G.Gx (G.L1 hL) a0 O I U (by omega) y A B D E)).mono fun e W' ⟨he, i⟩ => ?_;subst he;exact ⟨_, rfl, _, _, _, [], _, [], R, trodAll_mk1 (shut_bool Tryz.underlying4 _), (trodAll_cons_mk (shut_string Tryz.underlying9 y0) (trodAll_cons_mk (Below.trod laidOut (by kernel_rfl) (of_decide_eq_true (by kernel_rfl)) k1 i V) (trodAll_cons_mk (Below.trod laidOut (by kernel_rfl) (of_decide_eq_true (by kernel_rfl)) k2 i Y) trodAll_mk0))), rfl, i.frame _, fun h => by cases h⟩
theorem over : Rows.planMakesRow.holds Tryz.pinned (OpenSpec.ofChange Rows.planMakesSpec) :=
  OpenClaim.holds_of_wide 3 Tryz.f3 rfl rfl rfl rfl rfl rfl rfl ⟨rfl, rfl, rfl, rfl, rfl⟩ rfl rfl rfl rfl rfl (by kernel_rfl) Tryz.func3 (by kernel_rfl)
    (of_decide_eq_true (by kernel_rfl)) (by unfold Func.isWrapper; first | (rw [if_pos (by decide +kernel)]; kernel_rfl) | (rw [if_neg (by decide +kernel)]; exact ⟨rfl, rfl⟩))
    (fun os a H b _ => lifted os a H b)
end Go.Proofs.YtdhpmegbmjoekaaGreatDoor.planMakes
namespace Go.Proofs.YtdhpmegbmjoekaaGreatDoor
set_option maxRecDepth 100000 in
open Go in
/-- The law PlanMakes, for the claim: its row, and what the row lists tied to the program's text. -/
theorem planMakes_holds : Rows.PlanMakesCardSaid :=
  Claim7.holds_tied_plain_at .later [] [.data] true (true, "e8516d44fa406f9624674b5fc4bc46ed197ea5d2413a9bb05b121631932877e3") false planMakes.over (fun _ h => by cases h) (by kernel_rfl) (fun _ h => by cases h) planMakes_row_tie rfl ⟨rfl, rfl⟩ (by kernel_rfl) rfl
    (fun f fn d b => by
      obtain rfl : f = 3 := Option.some.inj ((show Tryz.prog.funcNamed "earshot/earshotlaw22.PlanMakes" = some 3 by kernel_rfl).symm.trans d) |>.symm
      obtain rfl : fn = Tryz.f3 := (Option.some.inj (Tryz.func3.symm.trans b)).symm;exact ⟨by kernel_rfl, fun j t c => by
        rw [Tryz.params3]at c;have e : t ∈ [9, 22, 23] := by simpa using Array.mem_of_getElem? c
        have a : ([9, 22, 23].all fun u => !Tryz.prog.wantsStandIn u) = true := by kernel_rfl
        exact (show Tryz.prog.wantsStandIn t = false by simpa using List.all_eq_true.1 a t e)⟩)
    (by kernel_rfl)
#print axioms planMakes_holds
end Go.Proofs.YtdhpmegbmjoekaaGreatDoor

