/- Contracts: more of the wake laws' helpers. -/
import Derived.Test.YtoobckjlkopikaaCWake3
namespace Go.Proofs.Ytoobckjlkopikaa.G
open Go Go.Sh
set_option linter.unusedVariables false

theorem rPush_S {h : Heap} {b : Nat} {w : Wt} {m : Mk} {p : Option Addr} {l c : Nat} {xs : List Int} {T : Nat → Prop} (S : Sep h T h [wk b w m] [row p (ints xs)]) (hm : Mok w m) (hw : w.hold ≤ 255)
    (hxl : xs.length = l) (hl : l ≤ 2 ^ 40) (hc : -2 ^ 62 ≤ m.cnt ∧ m.cnt + l < 2 ^ 63) :
    callP P n_ref25_Wake_Push #[.pointer (some ⟨b, 0, none⟩), .slice p l c] h fun v h' => ∃ p' l' c', v = .slice p' l' c' ∧ l' = (wrun w m xs).2.length ∧
      Sep h T h' [wk b w (wrun w m xs).1, own 2 p' l' c' (evs (wrun w m xs).2)] [] := by
  refine (rPush_ok (S.at 0 rfl) hm hw (S.row 0 rfl) (fun a ha hx hb => ?_) hxl hl hc).mono ?_
  · exact S.wr 0 0 _ _ rfl rfl b rfl ⟨fun e => hx (by simpa [ints] using e), a, ha, hb⟩
  · rintro v h' ⟨p', l', c', rfl, ho, hl', hwk, hf⟩
    have hb := (S.at 0 rfl).lt
    have hT : T b := S.ok 0 _ rfl b rfl hb
    have hne : ∀ i, (own 2 p' l' c' (evs (wrun w m xs).2)).foot i → h.size ≤ i := by
      rintro i ⟨a, rfl, rfl⟩
      obtain ⟨_, _, ⟨e, _⟩ | ⟨b', cs, e, hb', _⟩⟩ := ho
      · cases e
      · cases e; exact hb'
    refine ⟨p', l', c', rfl, hl', Sep.two (hf.mono fun i _ hi => by subst hi; exact hT) hwk (ho.mono (Nat.zero_le _)) (fun i hi _ => by have : i = b := hi; subst this; exact hT) (fun i hi hlt => ?_) fun i hi hi' => ?_⟩
    · have := hne i hi; omega
    · have : i = b := hi; have := hne i hi'; omega

/-- What a wake comes to is a mark that may be. -/
theorem may_step {w : Wt} {m : Mk} (h : Mok w m) (h0 : 0 ≤ m.cnt ∧ m.str ≤ m.cnt ∧ (m.on = true → w.hold ≤ m.cnt)) (s : Int) :
    0 ≤ (wstep w m s).1.cnt ∧ (wstep w m s).1.str ≤ (wstep w m s).1.cnt ∧ ((wstep w m s).1.on = true → w.hold ≤ (wstep w m s).1.cnt) := by
  obtain ⟨h1, h2, h3⟩ := h0
  unfold wstep
  split
  · rename_i ho
    have := h3 ho
    split
    · exact ⟨by simp only; omega, by simp only; omega, by simp⟩
    · exact ⟨by simp only; omega, by simp only; omega, fun _ => by simp only; omega⟩
  · split
    · exact ⟨by simp only; omega, by simp only; omega, by simp⟩
    · split
      · exact ⟨by simp only; omega, by simp only; omega, fun _ => by simp only; omega⟩
      · exact ⟨by simp only; omega, by simp only; omega, by simp⟩
theorem may_run (w : Wt) : ∀ (a : List Int) (m : Mk), Mok w m → (0 ≤ m.cnt ∧ m.str ≤ m.cnt ∧ (m.on = true → w.hold ≤ m.cnt)) →
    0 ≤ (wrun w m a).1.cnt ∧ (wrun w m a).1.str ≤ (wrun w m a).1.cnt ∧ ((wrun w m a).1.on = true → w.hold ≤ (wrun w m a).1.cnt)
  | [], m, _, h => h
  | s :: r, m, hm, h => may_run w r _ (wstep_ok hm s) (may_step hm h s)
theorem may_of {w : Wt} {m : Mk} (hm : Mok w m) (h : 0 ≤ m.cnt ∧ m.str ≤ m.cnt ∧ (m.on = true → w.hold ≤ m.cnt)) (hc : m.cnt ≤ 2 ^ 62) : may w m :=
  ⟨h.1, hc, hm.1, hm.2.1, h.2.1, fun e => ⟨hm.2.2 e, h.2.2 e⟩⟩

/-- A place to cut, by a number. -/
theorem cut_ok (x : Int) (n : Nat) (hn : n < 2 ^ 40) : ∃ k : Nat, k ≤ n ∧
    Int.tmod (IntKind.wrap .i64 (Int.tmod x (IntKind.wrap .i64 ((n : Int) + 1)) + IntKind.wrap .i64 ((n : Int) + 1))) (IntKind.wrap .i64 ((n : Int) + 1)) = (k : Int) := by
  have hb := tmod_bound x (m := (n : Int) + 1) (by omega)
  have e1 : IntKind.wrap .i64 ((n : Int) + 1) = (n : Int) + 1 := wrap64_in (by omega)
  rw [e1, wrap64_in (by omega)]
  generalize Int.tmod x ((n : Int) + 1) = y at *
  have h1 : 0 ≤ Int.tmod (y + ((n : Int) + 1)) ((n : Int) + 1) := Int.tmod_nonneg _ (by omega)
  have h2 := (tmod_bound (y + ((n : Int) + 1)) (m := (n : Int) + 1) (by omega)).2
  exact ⟨(Int.tmod (y + ((n : Int) + 1)) ((n : Int) + 1)).toNat, by omega, by omega⟩

end Go.Proofs.Ytoobckjlkopikaa.G
