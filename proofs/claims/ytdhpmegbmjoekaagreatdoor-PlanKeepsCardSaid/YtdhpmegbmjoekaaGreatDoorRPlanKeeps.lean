/- The row of the law PlanKeeps: out of the law over heaps. -/
import Derived.Test.YtdhpmegbmjoekaaGreatDoorRows
import Derived.Test.YtdhpmegbmjoekaaGreatDoorLPlanKeeps
import Derived.Test.YtdhpmegbmjoekaaGreatDoorShArg
import Derived.Test.YtdhpmegbmjoekaaGreatDoorCLaid
import Derived.Test.YtdhpmegbmjoekaaGreatDoorCards
import Derived.Test.YtdhpmegbmjoekaaGreatDoorTie
import Derived.SevenTiedAt
namespace Go.Proofs.YtdhpmegbmjoekaaGreatDoor.planKeeps
open Go Go.Sh Go.ChangeShapes Go.WideShapes Go.ChangeAt Go.RowKit
open Go.ChangeMaps (open_string shut_string)
set_option linter.unusedVariables false
theorem own : ownKnob Tryz.prog.godebug = none := by kernel_rfl
theorem laidOut : laidOutB Tryz.prog = true := by kernel_rfl
set_option maxRecDepth 100000 in
theorem lifted (os : Os) (d : os.Started) (H : Type) (enc : TypeId × Value → H) :
    ReturnsInHanded {} Tryz.checked os 4 .any (fun w a => (Rows.planKeepsSpec.pre enc Tryz.prog Tryz.f4 Rows.planKeepsRow.domain false w a ∧ laidMetH Tryz.prog G.FK w) ∧ sizedMet enc Tryz.prog Tryz.f4 (OpenSpec.ofChange Rows.planKeepsSpec) false w a) (Rows.planKeepsSpec.post enc Tryz.prog Tryz.f4 false true false false) := by
  refine returnsInHanded_of_change_and (C := Tryz.checked) (X := fun w _ => laidMetH Tryz.prog G.FK w) (fun _ _ _ hh h => h.of_heap hh) own d (by kernel_rfl) Tryz.func4
    (ChangeSpec.witness_shaped (enc := enc) (C := Tryz.checked) (os := os) (X := fun w _ => laidMetH Tryz.prog G.FK w) false (World.laidAll Tryz.prog os G.FK) #[(.slice none 0 0), (.int .i64 (0 : Int)), (.slice none 0 0)] 8 (World.laidAll_os _ _ _) (World.shaped_of_ZipB (by kernel_rfl) (by kernel_rfl)) (by kernel_rfl) (by kernel_rfl) (by kernel_rfl) (G.P7 os _)) ?_
  intro W base a ds U s c J K g Y _;have f : (DataW.weightsEach Tryz.prog (Tryz.f4.params.toList ++ Rows.planKeepsSpec.plain.varTypes Tryz.prog) (ds ++ U)).all (· ≤ reachBytes) = true := g;have b : ∀ (j : Nat) t v, Tryz.f4.params[j]? = some t → a[j]? = some v → Value.okWide Tryz.prog W .any base t v := c;have y := J;obtain ⟨p, q, k, Z, rfl, aa, ab⟩ := J;have I : DataW.TrodAll enc Tryz.prog W 0 (fun _ => true) true Tryz.f4.params.toList a.toList ds p := k;rw [Tryz.params4] at I b f;obtain ⟨N, ag, d0, R, p0, q0, z, rfl, rfl, h0, r0⟩ := trodAll_cons I;obtain ⟨O, ai, d1, S, p1, q1, rfl, rfl, rfl, V, r1⟩ := trodAll_cons r0;obtain ⟨P, aj, d2, T, p2, q2, rfl, rfl, rfl, u, r2⟩ := trodAll_cons r1;obtain ⟨rfl, rfl, rfl⟩ := trodAll_nil r2;obtain rfl : a = #[N, O, P] := by cases a; simp_all
  obtain ⟨rfl, rfl⟩ := trodVars_none Z;have L := h0;have D : ∀ x ∈ p0, x.block < W.heap.size := by obtain ⟨m, A⟩ := L; exact DataW.trod_lt m _ _ _ A
  obtain ⟨a0, l0, c0, z0, rfl, o, l, B, _, an, _⟩ := vy Tryz.underlying22 Tryz.underlying3 (by kernel_rfl) (b 0 22 N rfl rfl) h0;have y0 : l0 * 8 ≤ 140737488351232 := vz f (j := 0) (t := 22) rfl rfl Tryz.underlying22 Tryz.underlying3 (by kernel_rfl) (by kernel_rfl) h0;obtain ⟨Q, rfl, rfl, rfl, F⟩ := open_int Tryz.underlying3 (b 1 3 O rfl rfl) V;have M := u;have E : ∀ x ∈ p2, x.block < W.heap.size := by obtain ⟨m, A⟩ := M; exact DataW.trod_lt m _ _ _ A
  obtain ⟨a2, l2, c2, z2, rfl, r, n, ad, _, ao, _⟩ := vy Tryz.underlying22 Tryz.underlying3 (by kernel_rfl) (b 2 22 P rfl rfl) u;have y2 : l2 * 8 ≤ 140737488351232 := vz f (j := 2) (t := 22) rfl rfl Tryz.underlying22 Tryz.underlying3 (by kernel_rfl) (by kernel_rfl) u;clear k c g f;refine (Kk (G.HB (G.LJ Y) o l B (by omega) Q r n (by omega))).mono fun e W' ⟨he, i⟩ => ?_;subst he;exact ⟨_, rfl, _, _, _, [], _, [], y, trodAll_mk1 (shut_bool Tryz.underlying4 _), (trodAll_cons_mk (Below.trod laidOut (by kernel_rfl) (of_decide_eq_true (by kernel_rfl)) L i D) (trodAll_cons_mk (shut_int Tryz.underlying3 F) (trodAll_cons_mk (Below.trod laidOut (by kernel_rfl) (of_decide_eq_true (by kernel_rfl)) M i E) trodAll_mk0))), rfl, i.frame _, fun h => by cases h⟩
theorem over : Rows.planKeepsRow.holds Tryz.pinned (OpenSpec.ofChange Rows.planKeepsSpec) :=
  OpenClaim.holds_of_wide 4 Tryz.f4 rfl rfl rfl rfl rfl rfl rfl ⟨rfl, rfl, rfl, rfl, rfl⟩ rfl rfl rfl rfl rfl (by kernel_rfl) Tryz.func4 (by kernel_rfl)
    (of_decide_eq_true (by kernel_rfl)) (by unfold Func.isWrapper; first | (rw [if_pos (by decide +kernel)]; kernel_rfl) | (rw [if_neg (by decide +kernel)]; exact ⟨rfl, rfl⟩))
    (fun os a H b _ => lifted os a H b)
end Go.Proofs.YtdhpmegbmjoekaaGreatDoor.planKeeps
namespace Go.Proofs.YtdhpmegbmjoekaaGreatDoor
set_option maxRecDepth 100000 in
open Go in
/-- The law PlanKeeps, for the claim: its row, and what the row lists tied to the program's text. -/
theorem planKeeps_holds : Rows.PlanKeepsCardSaid :=
  Claim7.holds_tied_plain_at .later [] [.data] true (true, "e8516d44fa406f9624674b5fc4bc46ed197ea5d2413a9bb05b121631932877e3") false planKeeps.over (fun _ h => by cases h) (by kernel_rfl) (fun _ h => by cases h) planKeeps_row_tie rfl ⟨rfl, rfl⟩ (by kernel_rfl) rfl
    (fun f fn d b => by
      obtain rfl : f = 4 := Option.some.inj ((show Tryz.prog.funcNamed "earshot/earshotlaw22.PlanKeeps" = some 4 by kernel_rfl).symm.trans d) |>.symm
      obtain rfl : fn = Tryz.f4 := (Option.some.inj (Tryz.func4.symm.trans b)).symm;exact ⟨by kernel_rfl, fun j t c => by
        rw [Tryz.params4] at c;have e : t ∈ [22, 3, 22] := by simpa using Array.mem_of_getElem? c
        have a : ([22, 3, 22].all fun u => !Tryz.prog.wantsStandIn u) = true := by kernel_rfl
        exact (show Tryz.prog.wantsStandIn t = false by simpa using List.all_eq_true.1 a t e)⟩)
    (by kernel_rfl)
#print axioms planKeeps_holds
end Go.Proofs.YtdhpmegbmjoekaaGreatDoor

