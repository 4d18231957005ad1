/- The law FuseTells, over heaps. -/
import Derived.Test.YtbgplllcjhgdhaaDoorCTells
import Derived.Test.YtbgplllcjhgdhaaDoorCMade21
namespace Go.Proofs.YtbgplllcjhgdhaaDoor.G
open Go Go.Sh
set_option linter.unusedVariables false
set_option linter.unusedSimpArgs false

theorem FuseTells_ok {h : Heap} (hT : KT h) {p : Option Addr} {l c : Nat} {L : List Int} (hx : Row h p (ints L)) (hL : L.length = l) (hlc : l ≤ c) (hl : l < 2 ^ 62) (more out : Int) :
    callP P n_law21_FuseTells #[.slice p l c, .int .i64 more, .int .i64 out] h fun v h' => v = .bool true ∧ Fra no h h' := by
  refine call_law21_FuseTells _ _ _ _ _ ?_
  unfold law21_FuseTells
  have S := ((Sep.start h no).read (row p (ints L)) hx).read (blk 0 (ints kindTab)) hT
  refine (awake21_ok (S.r 1 _ rfl)).mono ?_
  rintro _ h1 ⟨rfl, F⟩
  replace S := S.fra0 F
  refine ⟨_, rfl, ?_⟩
  refine (Made21_S (S.row 0 rfl) hL hlc hl more).mono ?_
  rintro _ h2 ⟨gv, rfl, ok, mg, hl10, sz, S1⟩
  replace S := S.add S1 fun _ _ h => h
  dsimp only [List.cons_append, List.nil_append] at S
  refine exS_i gv.t ⟨rfl, ?_⟩
  refine newI_S (cs := mkS' grSh (zT grSh)) S fun b6 h3 _ S => ?_
  dsimp only [List.cons_append, List.nil_append] at S
  refine stL_S S 2 rfl rfl (mkS_one rfl) fun h4 _ S => ?_
  dsimp only [List.set] at S
  refine ldAg_S S 2 rfl (x := gv.t) rfl ?_
  refine newI_S (cs := mkS' grSh (zT grSh)) S fun b10 h5 _ S => ?_
  dsimp only [List.cons_append, List.nil_append] at S
  refine stL_S S 3 rfl rfl (mkS_one rfl) fun h6 _ S => ?_
  dsimp only [List.set] at S
  refine stI_S S 3 rfl (Nat.le_of_ble_eq_true rfl) fun h7 _ S => ?_
  dsimp only [List.set] at S
  have hs : ∀ n ∈ gv.ns, n.inn.l < 2 ^ 40 ∧ n.weights.l < 2 ^ 40 ∧ n.bias.l < 2 ^ 40 := fun n hn => by have := sz n hn; omega
  refine ifB_true rfl ?_
  refine ldAg_S S 2 rfl (x := gv.t) rfl ?_
  refine (tells21_ok ok (S.own 0 rfl).row (S.w 1 _ rfl) (by omega) hs (S.r 1 _ rfl)).mono ?_
  rintro _ h8 ⟨rfl, F⟩
  replace S := S.fra0 F
  refine ⟨_, rfl, ifB_true rfl ?_⟩
  refine ldAg_S S 3 rfl (x := ({ gv with out := out } : Gv).t) rfl ?_
  refine (tells21_ok (gv := { gv with out := out }) ok (S.own 0 rfl).row (S.w 1 _ rfl) (show gv.l < 2 ^ 20 by omega) hs (S.r 1 _ rfl)).mono ?_
  rintro _ h9 ⟨rfl, F⟩
  replace S := S.fra0 F
  exact ⟨_, rfl, rfl, S.fra⟩
end Go.Proofs.YtbgplllcjhgdhaaDoor.G
