/- Contracts: package arena, an arena's own Get and Put; what is nil; the document's arena. -/
import Derived.Test.YtdjofpdmdbcgjaaCArena2
import Derived.Test.YtdjofpdmdbcgjaaCLayout
namespace Go.Proofs.Ytdjofpdmdbcgjaa.G
open Go Go.Sh
set_option linter.unusedVariables false

section
variable {h0 h : Heap} {T : Nat → Prop} {W R : List Fact} {a bw n p at_ k : Nat} {err : Int} {ws : List Int}

theorem whole_S (S : Sep h0 T h W R) (ia : Nat) (ea : W[ia]? = some (ar a bw n err)) (hn : n ≤ 4096) :
    callP P n_arena_Arena_whole #[.pointer (some ⟨a, 0, none⟩)] h fun v h' => ∃ p, v = .pointer (some ⟨p, 0, none⟩) ∧ Sep h0 T h' (W ++ [pt p a bw 0 n]) R := by
  refine call_arena_Arena_whole _ ?_
  unfold arena_Arena_whole
  refine (Len_ok S ia ea).mono ?_
  rintro _ _ ⟨rfl, rfl⟩
  refine ⟨_, rfl, ?_⟩
  refine (Part_S S ia ea 0 n hn (by omega)).mono ?_
  rintro _ _ ⟨p, rfl, S⟩
  exact ⟨_, rfl, p, rfl, S⟩

theorem AGet_S (S : Sep h0 T h W R) (ia iw : Nat) (ea : W[ia]? = some (ar a bw n err)) (ew : W[iw]? = some (wds bw ws)) (hn : ws.length = n) (hn2 : n ≤ 4096) (i : Int) :
    callP P n_arena_Arena_Get #[.pointer (some ⟨a, 0, none⟩), .int .i64 i] h fun v h' => v = .int .i64 (pget ws err 0 n i).1 ∧ ∃ p, Sep h0 T h' (W.set ia (ar a bw n (pget ws err 0 n i).2) ++ [pt p a bw 0 n]) R := by
  refine call_arena_Arena_Get _ _ ?_
  unfold arena_Arena_Get
  refine (whole_S S ia ea hn2).mono ?_
  rintro _ g ⟨p, rfl, S⟩
  refine ⟨_, rfl, ?_⟩
  have hia : ia < W.length := (List.getElem?_eq_some_iff.1 ea).1
  have hiw : iw < W.length := (List.getElem?_eq_some_iff.1 ew).1
  refine (Get_S S ia W.length iw (by rw [List.getElem?_append_left hia]; exact ea) (by rw [List.getElem?_concat_length]) (by rw [List.getElem?_append_left hiw]; exact ew) (by omega) i).mono ?_
  rintro _ g ⟨rfl, S⟩
  refine ⟨_, rfl, rfl, p, ?_⟩
  rw [List.set_append_left _ _ hia] at S
  exact S

theorem APut_S (S : Sep h0 T h W R) (ia iw : Nat) (ea : W[ia]? = some (ar a bw n err)) (ew : W[iw]? = some (wds bw ws)) (hne : ia ≠ iw) (hn : ws.length = n) (hn2 : n ≤ 4096) (i x : Int) :
    callP P n_arena_Arena_Put #[.pointer (some ⟨a, 0, none⟩), .int .i64 i, .int .i64 x] h fun v h' => v = .tuple #[] ∧ ∃ p, Sep h0 T h' ((W.set ia (ar a bw n (pput ws err 0 n i x).2)).set iw (wds bw (pput ws err 0 n i x).1) ++ [pt p a bw 0 n]) R := by
  refine call_arena_Arena_Put _ _ _ ?_
  unfold arena_Arena_Put
  refine (whole_S S ia ea hn2).mono ?_
  rintro _ g ⟨p, rfl, S⟩
  refine ⟨_, rfl, ?_⟩
  have hia : ia < W.length := (List.getElem?_eq_some_iff.1 ea).1
  have hiw : iw < W.length := (List.getElem?_eq_some_iff.1 ew).1
  refine (Put_S S ia W.length iw (by rw [List.getElem?_append_left hia]; exact ea) (by rw [List.getElem?_concat_length]) (by rw [List.getElem?_append_left hiw]; exact ew) hne (by omega) i x).mono ?_
  rintro _ g ⟨rfl, S⟩
  refine ⟨rfl, rfl, p, ?_⟩
  rw [List.set_append_left _ _ hia, List.set_append_left _ _ (by rw [List.length_set]; exact hiw)] at S
  exact S

theorem PErr_ok (S : Sep h0 T h W R) (ia ip : Nat) (ea : W[ia]? = some (ar a bw n err)) (ep : W[ip]? = some (pt p a bw at_ k)) : callP P n_arena_Part_Err #[.pointer (some ⟨p, 0, none⟩)] h fun v h' => v = .int .i64 err ∧ h' = h := by
  refine call_arena_Part_Err _ ?_
  unfold arena_Part_Err
  refine ifB_false rfl (nilI_some (ldPtr_i (S.cell ip ep rfl) ?_))
  refine (Err_ok S ia ea).mono ?_
  rintro _ _ ⟨rfl, rfl⟩
  exact ⟨_, rfl, rfl, rfl⟩
theorem PLen_ok (S : Sep h0 T h W R) (ip : Nat) (ep : W[ip]? = some (pt p a bw at_ k)) : callP P n_arena_Part_Len #[.pointer (some ⟨p, 0, none⟩)] h fun v h' => v = .int .i64 k ∧ h' = h := by
  refine call_arena_Part_Len _ ?_
  unfold arena_Part_Len
  exact ifB_false rfl (nilI_some (ldSlice_i (S.cell ip ep rfl) ⟨rfl, rfl⟩))

/-! what is nil -/
theorem nPGet (i : Int) : callP P n_arena_Part_Get #[.pointer none, .int .i64 i] h fun v h' => v = .int .i64 0 ∧ h' = h := by
  refine call_arena_Part_Get _ _ ?_
  unfold arena_Part_Get
  exact ifB_true rfl ⟨rfl, rfl⟩
theorem nPPut (i x : Int) : callP P n_arena_Part_Put #[.pointer none, .int .i64 i, .int .i64 x] h fun v h' => v = .tuple #[] ∧ h' = h := by
  refine call_arena_Part_Put _ _ _ ?_
  unfold arena_Part_Put
  exact ifB_true rfl ⟨rfl, rfl⟩
theorem nPLen : callP P n_arena_Part_Len #[.pointer none] h fun v h' => v = .int .i64 0 ∧ h' = h := by
  refine call_arena_Part_Len _ ?_
  unfold arena_Part_Len
  exact ifB_true rfl ⟨rfl, rfl⟩
theorem nPErr : callP P n_arena_Part_Err #[.pointer none] h fun v h' => v = .int .i64 1 ∧ h' = h := by
  refine call_arena_Part_Err _ ?_
  unfold arena_Part_Err
  exact ifB_true rfl ⟨rfl, rfl⟩
theorem nLen : callP P n_arena_Arena_Len #[.pointer none] h fun v h' => v = .int .i64 0 ∧ h' = h := by
  refine call_arena_Arena_Len _ ?_
  unfold arena_Arena_Len
  exact ifB_true rfl ⟨rfl, rfl⟩
theorem nErr : callP P n_arena_Arena_Err #[.pointer none] h fun v h' => v = .int .i64 1 ∧ h' = h := by
  refine call_arena_Arena_Err _ ?_
  unfold arena_Arena_Err
  exact ifB_true rfl ⟨rfl, rfl⟩
theorem nPart (x y : Int) : callP P n_arena_Arena_Part #[.pointer none, .int .i64 x, .int .i64 y] h fun v h' => v = .pointer none ∧ h' = h := by
  refine call_arena_Arena_Part _ _ _ ?_
  unfold arena_Arena_Part
  exact ⟨fun _ _ => False, fun _ _ h => h.elim, ifB_true rfl ⟨rfl, rfl⟩⟩
theorem nwhole : callP P n_arena_Arena_whole #[.pointer none] h fun v h' => v = .pointer none ∧ h' = h := by
  refine call_arena_Arena_whole _ ?_
  unfold arena_Arena_whole
  refine nLen.mono ?_
  rintro _ _ ⟨rfl, rfl⟩
  refine ⟨_, rfl, ?_⟩
  refine (nPart _ _).mono ?_
  rintro _ _ ⟨rfl, rfl⟩
  exact ⟨_, rfl, rfl, rfl⟩
theorem nAGet (i : Int) : callP P n_arena_Arena_Get #[.pointer none, .int .i64 i] h fun v h' => v = .int .i64 0 ∧ h' = h := by
  refine call_arena_Arena_Get _ _ ?_
  unfold arena_Arena_Get
  refine nwhole.mono ?_
  rintro _ _ ⟨rfl, rfl⟩
  refine ⟨_, rfl, ?_⟩
  refine (nPGet _).mono ?_
  rintro _ _ ⟨rfl, rfl⟩
  exact ⟨_, rfl, rfl, rfl⟩
theorem nAPut (i x : Int) : callP P n_arena_Arena_Put #[.pointer none, .int .i64 i, .int .i64 x] h fun v h' => v = .tuple #[] ∧ h' = h := by
  refine call_arena_Arena_Put _ _ _ ?_
  unfold arena_Arena_Put
  refine nwhole.mono ?_
  rintro _ _ ⟨rfl, rfl⟩
  refine ⟨_, rfl, ?_⟩
  refine (nPPut _ _).mono ?_
  rintro _ _ ⟨rfl, rfl⟩
  exact ⟨rfl, rfl, rfl⟩
theorem nZero : callP P n_arena_Arena_Zero #[.pointer none] h fun v h' => v = .tuple #[] ∧ h' = h := by
  refine call_arena_Arena_Zero _ ?_
  unfold arena_Arena_Zero
  exact ifB_false rfl ⟨rfl, rfl⟩
theorem nWords : callP P n_arena_Arena_Words #[.pointer none] h fun v h' => v = .slice none 0 0 ∧ h' = h := by
  refine call_arena_Arena_Words _ ?_
  unfold arena_Arena_Words
  exact ifB_true rfl ⟨rfl, rfl⟩
theorem nSet (q : Option Addr) (l c : Nat) : callP P n_arena_Arena_Set #[.pointer none, .slice q l c] h fun v h' => v = .int .i64 1 ∧ h' = h := by
  refine call_arena_Arena_Set _ _ _ _ ?_
  unfold arena_Arena_Set
  exact ifB_true rfl ⟨rfl, rfl⟩
end

end Go.Proofs.Ytdjofpdmdbcgjaa.G
