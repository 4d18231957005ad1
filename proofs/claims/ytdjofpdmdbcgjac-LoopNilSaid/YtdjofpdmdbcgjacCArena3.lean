/- Contracts: package arena, an arena's own Get and Put; what is nil; the document's arena. -/
import Derived.Test.YtdjofpdmdbcgjacCArena2
import Derived.Test.YtdjofpdmdbcgjacCLayout
namespace Go.Proofs.Ytdjofpdmdbcgjac.G
open Go Go.Sh
set_option linter.unusedVariables false

section
variable {h0 h : Heap} {T : Nat → Prop} {W R : List Fact} {a bw n p at_ k : Nat} {err : Int} {ws : List Int}

theorem PLen_ok (S : Sep h0 T h W R) (ip : Nat) (ep : W[ip]? = some (pt p a bw at_ k)) : callP P n_arena_Part_Len #[.pointer (some ⟨p, 0, none⟩)] h fun v h' => v = .int .i64 k ∧ h' = h := by
  refine call_arena_Part_Len _ ?_
  unfold arena_Part_Len
  exact ifB_false rfl (nilI_some (ldSlice_i (S.cell ip ep rfl) ⟨rfl, rfl⟩))

/-! what is nil -/
theorem nPGet (i : Int) : callP P n_arena_Part_Get #[.pointer none, .int .i64 i] h fun v h' => v = .int .i64 0 ∧ h' = h := by
  refine call_arena_Part_Get _ _ ?_
  unfold arena_Part_Get
  exact ifB_true rfl ⟨rfl, rfl⟩
theorem nPPut (i x : Int) : callP P n_arena_Part_Put #[.pointer none, .int .i64 i, .int .i64 x] h fun v h' => v = .tuple #[] ∧ h' = h := by
  refine call_arena_Part_Put _ _ _ ?_
  unfold arena_Part_Put
  exact ifB_true rfl ⟨rfl, rfl⟩
theorem nPLen : callP P n_arena_Part_Len #[.pointer none] h fun v h' => v = .int .i64 0 ∧ h' = h := by
  refine call_arena_Part_Len _ ?_
  unfold arena_Part_Len
  exact ifB_true rfl ⟨rfl, rfl⟩
theorem nErr : callP P n_arena_Arena_Err #[.pointer none] h fun v h' => v = .int .i64 1 ∧ h' = h := by
  refine call_arena_Arena_Err _ ?_
  unfold arena_Arena_Err
  exact ifB_true rfl ⟨rfl, rfl⟩
theorem nPart (x y : Int) : callP P n_arena_Arena_Part #[.pointer none, .int .i64 x, .int .i64 y] h fun v h' => v = .pointer none ∧ h' = h := by
  refine call_arena_Arena_Part _ _ _ ?_
  unfold arena_Arena_Part
  exact ⟨fun _ _ => False, fun _ _ h => h.elim, ifB_true rfl ⟨rfl, rfl⟩⟩
theorem nWords : callP P n_arena_Arena_Words #[.pointer none] h fun v h' => v = .slice none 0 0 ∧ h' = h := by
  refine call_arena_Arena_Words _ ?_
  unfold arena_Arena_Words
  exact ifB_true rfl ⟨rfl, rfl⟩
theorem nSet (q : Option Addr) (l c : Nat) : callP P n_arena_Arena_Set #[.pointer none, .slice q l c] h fun v h' => v = .int .i64 1 ∧ h' = h := by
  refine call_arena_Arena_Set _ _ _ _ ?_
  unfold arena_Arena_Set
  exact ifB_true rfl ⟨rfl, rfl⟩
end

end Go.Proofs.Ytdjofpdmdbcgjac.G
