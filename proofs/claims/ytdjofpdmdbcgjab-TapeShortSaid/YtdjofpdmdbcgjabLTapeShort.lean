/- The law TapeShort, over heaps. -/
import Derived.Test.YtdjofpdmdbcgjabLTapeBack
namespace Go.Proofs.Ytdjofpdmdbcgjab.G
open Go Go.Sh
set_option linter.unusedVariables false

theorem words_append (a b : List Int) : words (a ++ b) = words a ++ words b := by unfold words; exact List.flatMap_append
theorem words_cons (q : Int) (r : List Int) : words (q :: r) = low (IntKind.wrap .u64 q) 4 ++ words r := by unfold words; exact List.flatMap_cons

/-- The state behind i words of a text that is cut. -/
def cutSt (k i : Nat) : St := if i ≤ k / 4 then ⟨4 * i, 0⟩ else ⟨4 * (k / 4), 11⟩

theorem cut_word {xs : List Int} {k i : Nat} (hk : k < (words xs).length) : rget ((words xs).take k) (cutSt k i) 4 = (if i < k / 4 then IntKind.wrap .u64 (xs.getD i 0) % 256 ^ 4 else 0, cutSt k (i + 1)) := by
  have hlen : ((words xs).take k).length = k := by rw [List.length_take]; omega
  rw [words_length] at hk
  by_cases h1 : i < k / 4
  · rw [if_pos h1]
    have hi : i < xs.length := by omega
    have e1 : cutSt k i = ⟨4 * i, 0⟩ := by unfold cutSt; rw [if_pos (by omega)]
    have e2 : cutSt k (i + 1) = ⟨4 * i + 4, 0⟩ := by unfold cutSt; rw [if_pos (by omega)]; congr 1
    have hd : (words xs).drop (4 * i) = low (IntKind.wrap .u64 xs[i]) 4 ++ words (xs.drop (i + 1)) := by
      conv => lhs; rw [← List.take_append_drop i xs, List.drop_eq_getElem_cons hi, words_append, words_cons]
      have hl : (words (xs.take i)).length = 4 * i := by rw [words_length, List.length_take]; omega
      rw [List.drop_append_of_le_length (by omega), List.drop_of_length_le (by omega), List.nil_append]
    have hd2 : ((words xs).take k).drop (4 * i) = low (IntKind.wrap .u64 xs[i]) 4 ++ (words (xs.drop (i + 1))).take (k - (4 * i + 4)) := by
      rw [List.drop_take, hd, List.take_append, List.take_of_length_le (by rw [low_length]; omega), low_length]
      congr 2
    rw [e1, e2, rget_low (by decide) hd2]
    congr 2
    rw [List.getD_eq_getElem?_getD, List.getElem?_eq_getElem hi]; rfl
  · rw [if_neg h1]
    by_cases h2 : i ≤ k / 4
    · have e1 : cutSt k i = ⟨4 * i, 0⟩ := by unfold cutSt; rw [if_pos h2]
      have e2 : cutSt k (i + 1) = ⟨4 * (k / 4), 11⟩ := by unfold cutSt; rw [if_neg (by omega)]
      rw [e1, e2]
      unfold rget
      rw [if_neg (by simp), if_pos (by simp only; rw [hlen]; omega)]
      simp only [Prod.mk.injEq, St.mk.injEq, true_and, and_true]
      omega
    · have e1 : cutSt k i = ⟨4 * (k / 4), 11⟩ := by unfold cutSt; rw [if_neg h2]
      have e2 : cutSt k (i + 1) = ⟨4 * (k / 4), 11⟩ := by unfold cutSt; rw [if_neg (by omega)]
      rw [e1, e2]
      unfold rget
      rw [if_pos (by simp)]

theorem rget_bad (s : List UInt8) (a n : Nat) : rget s ⟨a, 11⟩ n = (0, ⟨a, 11⟩) := by
  unfold rget; rw [if_pos (by simp)]

/-- Reading what is cut. -/
theorem TapeShort_r {h0 h : Heap} {p : Option Addr} {l c : Nat} {xs : List Int} {br k : Nat} {kk : Int} {K1 : ((Option Addr × Nat × Nat) × Int × Bool × Addr × Int × Unit) → Heap → Prop} (hl : xs.length = l) (hl15 : l ≤ 15) (hk : k < (words xs).length) (hkk : kk = (words xs).length - k)
    (S : Sep h0 no h [rd br 0 ((words xs).take k) 0] [row p (ints xs)]) :
    LoopS (S := ((Option Addr × Nat × Nat) × Bool × ByteArray × Int × Int × Option Addr × Int × Unit)) (fun K2 s h => law06_TapeShort_l16 (fun v h' => v = .bool true ∧ Fra no h0 h') K1 K2 s.1.1 s.1.2.1 s.1.2.2 s.2.1 s.2.2.1 s.2.2.2.1 s.2.2.2.2.1 s.2.2.2.2.2.1 s.2.2.2.2.2.2.1 h)
      ((p, l, c), true, str (words xs), kk, ((k / 4 : Nat) : Int), some ⟨br, 0, none⟩, (0 : Int), ()) h := by
  have hw := words_length xs
  generalize hs : (words xs).take k = s at *
  have hsl : s.length = k := by rw [← hs, List.length_take]; omega
  refine LoopS_i (fun m s' g => ∃ i : Nat, s' = ((p, l, c), true, str (words xs), kk, ((k / 4 : Nat) : Int), some ⟨br, 0, none⟩, (i : Int), ()) ∧ i ≤ l ∧ m = l - i ∧ Sep h0 no g [rd br (cutSt k i).at_ s (cutSt k i).err] [row p (ints xs)]) l
    ⟨0, rfl, by omega, rfl, by unfold cutSt; rw [if_pos (by omega)]; exact S⟩ ?_
  rintro m s' g ⟨i, rfl, hi, rfl, S⟩
  have hok : ∀ i, (cutSt k i).ok s := by
    intro i
    unfold cutSt St.ok
    split
    · exact ⟨by simp only; omega, .inl rfl⟩
    · exact ⟨by simp only; omega, .inr rfl⟩
  unfold law06_TapeShort_l16
  dsimp only
  refine ifB_dec (fun hlt => ?_) (fun hge => ?_)
  · have hlt : i < l := by omega
    have hcut := cut_word (i := i) hk
    rw [hs] at hcut
    refine (rWord_S (t := cutSt k i) (S.into [0] [] []) (hok i) (by omega)).mono ?_
    rintro _ g2 ⟨rfl, S1⟩
    refine ⟨_, rfl, ?_⟩
    replace S := S.back [0] S1
    rw [hcut] at S ⊢
    dsimp only
    replace S : Sep h0 no g2 [rd br (cutSt k (i + 1)).at_ s (cutSt k (i + 1)).err] [row p (ints xs)] := S
    refine ⟨fun s' g' => s' = ((p, l, c), true, str (words xs), kk, ((k / 4 : Nat) : Int), some ⟨br, 0, none⟩, (i : Int), sgn (if i < k / 4 then IntKind.wrap .u64 (xs.getD i 0) % 256 ^ 4 else 0), ()) ∧ g' = g2, ?_, ?_⟩
    · rintro s' g' ⟨rfl, hg⟩
      subst hg
      unfold law06_TapeShort_j21
      dsimp only
      have hwr : IntKind.wrap .i64 ((i : Int) + 1) = ((i + 1 : Nat) : Int) := wrap64_in (by omega)
      rw [hwr]
      have next : ∃ n', n' < l - i ∧ ∃ i' : Nat, (((p, l, c), true, str (words xs), kk, ((k / 4 : Nat) : Int), some ⟨br, 0, none⟩, ((i + 1 : Nat) : Int), ()) : (Option Addr × Nat × Nat) × Bool × ByteArray × Int × Int × Option Addr × Int × Unit) =
          ((p, l, c), true, str (words xs), kk, ((k / 4 : Nat) : Int), some ⟨br, 0, none⟩, (i' : Int), ()) ∧ i' ≤ l ∧ n' = l - i' ∧ Sep h0 no g' [rd br (cutSt k i').at_ s (cutSt k i').err] [row p (ints xs)] := ⟨l - (i + 1), by omega, i + 1, rfl, by omega, rfl, S⟩
      refine ifB_dec (fun hge => ?_) (fun _ => next)
      have e2 : cutSt k (i + 1) = ⟨4 * (k / 4), 11⟩ := by unfold cutSt; rw [if_neg (by omega)]
      rw [if_neg (show ¬ i < k / 4 by omega)]
      refine ifB_false (by decide) ?_
      refine (rErr_ok (S.cell 0 rfl rfl)).mono ?_
      rintro _ _ ⟨rfl, rfl⟩
      refine ⟨_, rfl, ?_⟩
      refine ifB_false (by rw [e2]; rfl) ?_
      refine (rAt_ok (S.cell 0 rfl rfl)).mono ?_
      rintro _ _ ⟨rfl, rfl⟩
      refine ⟨_, rfl, ?_⟩
      refine ifB_false ?_ next
      rw [e2, wrap64_in (by omega)]; simp
    · refine ifB_dec (fun h1 => ?_) (fun h1 => ⟨by trivial, by trivial⟩)
      have h1 : i < k / 4 := by omega
      have hix : i < xs.length := by omega
      refine ifB_false (decide_eq_false (by omega)) ?_
      obtain ⟨a, rfl⟩ := (S.row 0 rfl).some_of (by rw [ints_length]; omega)
      refine idxI_i rfl rfl (by omega) ?_
      simp only [Int.toNat_natCast, Nat.mul_one]
      refine ldInt_i ((S.row 0 rfl).cell (ints_get (List.getElem?_eq_getElem hix))) ?_
      have hr : -2147483648 ≤ IntKind.wrap .i32 xs[i] ∧ IntKind.wrap .i32 xs[i] < 2147483648 := sgn_range xs[i]
      have hgd : xs.getD i 0 = xs[i] := by rw [List.getD_eq_getElem?_getD, List.getElem?_eq_getElem hix]; rfl
      refine ifB_false ?_ ?_
      · rw [if_pos h1, hgd, sgn_word, wrap64_in (by omega)]; simp
      have e2 : cutSt k (i + 1) = ⟨4 * (i + 1), 0⟩ := by unfold cutSt; rw [if_pos (by omega)]
      refine (rErr_ok (S.cell 0 rfl rfl)).mono ?_
      rintro _ _ ⟨rfl, rfl⟩
      refine ⟨_, rfl, ?_⟩
      exact ifB_false (by rw [e2]; rfl) ⟨by trivial, by trivial⟩
  · have hil : i = l := by omega
    have e2 : cutSt k i = ⟨4 * (k / 4), 11⟩ := by unfold cutSt; rw [if_neg (by omega)]
    rw [e2] at S
    have hb : St.ok s ⟨4 * (k / 4), 11⟩ := by rw [← e2]; exact hok i
    refine ifB_true rfl ?_
    refine (rByte_S (t := ⟨4 * (k / 4), 11⟩) (S.into [0] [] []) hb (by omega)).mono ?_
    rintro _ _ ⟨rfl, S1⟩
    refine ⟨_, rfl, ?_⟩
    replace S := S.back [0] S1
    rw [rget_bad] at S ⊢
    refine ifB_true rfl ?_
    refine (rLong_S (t := ⟨4 * (k / 4), 11⟩) (S.into [0] [] []) hb (by omega)).mono ?_
    rintro _ _ ⟨rfl, S1⟩
    refine ⟨_, rfl, ?_⟩
    replace S := S.back [0] S1
    rw [rget_bad] at S ⊢
    refine ifB_true rfl ?_
    have hrr : rrow s ⟨4 * (k / 4), 11⟩ = ([], ⟨4 * (k / 4), 11⟩) := by unfold rrow; rw [rget_bad]; rfl
    refine (rRow_S (t := ⟨4 * (k / 4), 11⟩) (S.into [0] [] []) hb (by omega)).mono ?_
    rintro _ _ ⟨p1, l1, c1, rfl, hl1, S1⟩
    refine ⟨_, _, _, rfl, ?_⟩
    replace S := S.back [0] S1
    rw [hrr] at S hl1
    simp only [List.length_nil] at hl1
    subst hl1
    refine ifB_true rfl ?_
    refine (rAt_ok (S.cell 0 rfl rfl)).mono ?_
    rintro _ _ ⟨rfl, rfl⟩
    refine ⟨_, rfl, ?_⟩
    refine ifB_true (by rw [wrap64_in (by omega)]; simp) ?_
    refine (rLeft_ok (s := s) (t := ⟨4 * (k / 4), 11⟩) (S.at 0 rfl) hb (by omega)).mono ?_
    rintro _ _ ⟨rfl, rfl⟩
    refine ⟨_, rfl, ?_⟩
    refine ifB_true ?_ ?_
    · rw [str_size, wrap64_in (n := ((words xs).length : Int) - kk) (by omega), wrap64_in (n := (4 : Int) * ((k / 4 : Nat) : Int)) (by omega), wrap64_in (by omega)]
      simp; omega
    refine (rErr_ok (S.cell 0 rfl rfl)).mono ?_
    rintro _ _ ⟨rfl, rfl⟩
    exact ⟨_, rfl, rfl, S.fra⟩

theorem TapeShort_j {h0 h : Heap} {p : Option Addr} {l c : Nat} {xs : List Int} (cut : Int) (hl : xs.length = l) (hl15 : l ≤ 15) (S : Sep h0 no h [] [row p (ints xs)]) :
    law06_TapeShort_j4 (fun v h' => v = .bool true ∧ Fra no h0 h') p l c cut true h := by
  unfold law06_TapeShort_j4
  refine newI_S S (fun b5 _ _ S => ?_)
  replace S := S.nil 1
  refine LoopS_i (fun m s g => ∃ (i : Nat) (q : Option Addr) (e : Nat), s = ((p, l, c), cut, true, ⟨b5, 0, none⟩, (i : Int), ()) ∧ i ≤ l ∧ m = l - i ∧
    Sep h0 no g [wr b5 (4 * i : Nat) q (4 * i) e, own 1 q (4 * i) e (u8s (words (xs.take i)))] [row p (ints xs)]) l
    ⟨0, none, 0, rfl, by omega, rfl, S⟩ ?_
  rintro m s g ⟨i, q, e, rfl, hi, rfl, S⟩
  unfold law06_TapeShort_l6
  dsimp only
  refine ifB_dec (fun hlt => ?_) (fun hge => ?_)
  · have hix : i < xs.length := by omega
    obtain ⟨a, rfl⟩ := (S.row 0 rfl).some_of (by rw [ints_length]; omega)
    refine idxI_i rfl rfl (by omega) ?_
    simp only [Int.toNat_natCast, Nat.mul_one]
    refine ldInt_i ((S.row 0 rfl).cell (ints_get (List.getElem?_eq_getElem hix))) ?_
    refine (Word_W xs[i] (S.into [0, 1] [] []) (by omega) (by omega)).mono ?_
    rintro _ h2 ⟨rfl, p2, c2, S1⟩
    refine ⟨rfl, ?_⟩
    rw [low_length] at S1
    replace S := S.back [0, 1] S1
    rw [← words_snoc hix] at S
    rw [wrap64_in (by omega)]
    refine ⟨l - (i + 1), by omega, i + 1, p2, c2, rfl, by omega, rfl, ?_⟩
    have e1 : ((4 * (i + 1) : Nat) : Int) = ((4 * i : Nat) : Int) + ((4 : Nat) : Int) := by omega
    rw [e1]
    exact S
  · have hil : i = l := by omega
    rw [List.take_of_length_le (by omega)] at S
    refine (Text_ok S).mono ?_
    rintro _ _ ⟨rfl, rfl⟩
    refine ⟨_, rfl, ?_⟩
    have hw := words_length xs
    dsimp only
    rw [str_size]
    refine ifB_i (fun h0 => ?_) (fun h0 => ?_)
    · refine ifB_true rfl ?_
      rw [show ByteArray.mk #[] = str [] from rfl]
      refine (Read_S []).mono ?_
      rintro _ _ ⟨ba, rfl, S1⟩
      refine ⟨_, rfl, ?_⟩
      replace S := S.add S1 fun _ _ h => h
      refine (rErr_ok (S.cell 2 rfl rfl)).mono ?_
      rintro _ _ ⟨rfl, rfl⟩
      refine ⟨_, rfl, ?_⟩
      refine ifB_true rfl ?_
      refine (Read_S []).mono ?_
      rintro _ _ ⟨bb, rfl, S1⟩
      refine ⟨_, rfl, ?_⟩
      replace S := S.add S1 fun _ _ h => h
      refine (rWord_S (t := ⟨0, 0⟩) (s := []) (S.into [3] [] []) ⟨Nat.le_refl _, .inl rfl⟩ (by decide)).mono ?_
      rintro _ _ ⟨rfl, S1⟩
      refine ⟨_, rfl, ?_, (S.back [3] S1).fra⟩
      rfl
    · have h0 : (words xs).length ≠ 0 := by intro hh; rw [hh] at h0; simp at h0
      have hne : (((words xs).length : Nat) : Int) ≠ 0 := by omega
      refine ⟨hne, hne, ?_⟩
      generalize hn : (words xs).length = n at *
      have hb := tmod_bound cut (m := (n : Int)) (by omega)
      generalize Int.tmod cut (n : Int) = y at *
      rw [wrap64_in (n := y + (n : Int)) (by omega)]
      have h1 : 0 ≤ Int.tmod (y + (n : Int)) (n : Int) := Int.tmod_nonneg _ (by omega)
      have h2 := (tmod_bound (y + (n : Int)) (m := (n : Int)) (by omega)).2
      generalize Int.tmod (y + (n : Int)) (n : Int) = z at *
      rw [wrap64_in (n := 1 + z) (by omega), wrap64_in (n := (n : Int) - (1 + z)) (by omega)]
      obtain ⟨k, hk⟩ : ∃ k : Nat, (n : Int) - (1 + z) = k := ⟨((n : Int) - (1 + z)).toNat, by omega⟩
      rw [hk]
      refine bndI_i rfl (by omega) ?_
      rw [str_extract, List.drop_zero, Nat.sub_zero]
      refine (Read_S _).mono ?_
      rintro _ _ ⟨br, rfl, S1⟩
      refine ⟨_, rfl, ?_⟩
      replace S := S.add S1 fun _ _ h => h
      have hdiv : IntKind.wrap .i64 (Int.tdiv (k : Int) 4) = ((k / 4 : Nat) : Int) := by
        rw [Int.tdiv_eq_ediv_of_nonneg (by omega), wrap64_in (by omega)]; rfl
      rw [hdiv]
      exact TapeShort_r hl hl15 (by omega) (by omega) (S.pick [2] [0])

theorem TapeShort_ok {h : Heap} {p : Option Addr} {l c : Nat} {xs : List Int} (hx : Row h p (ints xs)) (hl : xs.length = l) (hc : l ≤ c) (cut : Int) :
    callP P n_law06_TapeShort #[.slice p l c, .int .i64 cut] h fun v h' => v = .bool true ∧ Fra no h h' := by
  refine call_law06_TapeShort _ _ _ _ ?_
  unfold law06_TapeShort
  have S := (Sep.start h no).read (row p (ints xs)) hx
  refine (awake06_ok).mono ?_
  rintro _ _ ⟨rfl, F⟩
  refine ⟨_, rfl, ?_⟩
  replace S := S.fra0 F
  refine ⟨fun s g => ∃ (p : Option Addr) (l c : Nat) (xs : List Int), s = ((p, l, c), cut, true, ()) ∧ xs.length = l ∧ l ≤ 15 ∧ Sep h no g [] [row p (ints xs)], ?_, ?_⟩
  · rintro s g ⟨p, l, c, xs, rfl, hl, hl15, S⟩
    exact TapeShort_j cut hl hl15 S
  · refine ifB_dec (fun hgt => ?_) (fun hle => ⟨p, l, c, xs, rfl, hl, by omega, S⟩)
    refine bndI_i (n := 15) rfl (by omega) ?_
    rw [sl0]
    replace S := S.head 0 15
    rw [ints_take] at S
    exact ⟨p, 15, c, xs.take 15, rfl, by rw [List.length_take]; omega, by omega, S⟩

end Go.Proofs.Ytdjofpdmdbcgjab.G
