/- The law TapeBack, over heaps. -/
import Derived.Test.YtdjofpdmdbcgjabCTape4
import Derived.Test.YtdjofpdmdbcgjabCTapeA
namespace Go.Proofs.Ytdjofpdmdbcgjab.G
open Go Go.Sh
set_option linter.unusedVariables false

theorem rget_low {s rest : List UInt8} {a k : Nat} {x : Int} (hk : 0 < k) (h : s.drop a = low x k ++ rest) : rget s ⟨a, 0⟩ k = (x % 256 ^ k, ⟨a + k, 0⟩) := by
  have hl := congrArg List.length h
  rw [List.length_drop, List.length_append, low_length] at hl
  unfold rget
  rw [if_neg (by simp), if_neg (by simp only; omega)]
  simp only
  rw [h, List.take_append_of_le_length (by rw [low_length]; omega), List.take_of_length_le (by rw [low_length]; omega), num_low]

theorem drop_of {s rest : List UInt8} {a k : Nat} {x : Int} (h : s.drop a = low x k ++ rest) : s.drop (a + k) = rest := by
  rw [← List.drop_drop, h, List.drop_append_of_le_length (by rw [low_length]; omega), List.drop_of_length_le (by rw [low_length]; omega), List.nil_append]

theorem sgn_word (x : Int) : sgn (IntKind.wrap .u64 x % 256 ^ 4) = IntKind.wrap .i32 x := by
  unfold sgn
  rw [wrap_u64, wrap_i32, wrap_i32]
  omega

theorem rw_words {s : List UInt8} : ∀ (ys : List Int) (a : Nat) (rest : List UInt8), s.drop a = words ys ++ rest →
    rw s ys.length ⟨a, 0⟩ = (some (ys.map (IntKind.wrap .i32)), ⟨a + 4 * ys.length, 0⟩)
  | [], a, rest, h => by simp [rw]
  | y :: r, a, rest, h => by
    have h' : s.drop a = low (IntKind.wrap .u64 y) 4 ++ (words r ++ rest) := by
      rw [h]; simp [words]
    have hg := rget_low (by decide) h'
    have ih := rw_words r (a + 4) rest (drop_of h')
    simp only [List.length_cons, rw, hg]
    rw [if_neg (by simp), ih, sgn_word]
    simp
    omega

theorem rrow_row {s rest : List UInt8} {a : Nat} {ys : List Int} (hy : ys.length ≤ 9) (h : s.drop a = rowB ys ++ rest) : rrow s ⟨a, 0⟩ = (ys.map (IntKind.wrap .i32), ⟨a + (rowB ys).length, 0⟩) := by
  have hr : rowB ys = low (IntKind.wrap .u64 ys.length) 2 ++ words ys := by unfold rowB; rw [if_neg (by omega)]
  have hl : (rowB ys).length = 2 + 4 * ys.length := by rw [hr, List.length_append, low_length, words_length]
  rw [hr, List.append_assoc] at h
  have hg := rget_low (by decide) h
  have hn : IntKind.wrap .u64 (ys.length : Int) % 256 ^ 2 = ys.length := by rw [wrap_u64]; omega
  rw [hn] at hg
  unfold rrow
  rw [hg]
  simp only [Int.toNat_natCast]
  rw [rw_words ys (a + 2) rest (drop_of h), hl]
  simp
  omega

theorem allB_append (a b : List It) : allB (a ++ b) = allB a ++ allB b := by unfold allB; exact List.flatMap_append
theorem allB_cons (q : It) (r : List It) : allB (q :: r) = q.bytes ++ allB r := by unfold allB; exact List.flatMap_cons
theorem allB_le (l : List It) (k : Nat) : (allB (l.take k)).length ≤ (allB l).length := by
  conv => rhs; rw [← List.take_append_drop k l, allB_append, List.length_append]
  omega
theorem allB_drop {its : List It} {i : Nat} (hi : i < its.length) : (allB its).drop (allB (its.take i)).length = its[i].bytes ++ allB (its.drop (i + 1)) := by
  have e : allB its = allB (its.take i) ++ (its[i].bytes ++ allB (its.drop (i + 1))) := by
    conv => lhs; rw [← List.take_append_drop i its, List.drop_eq_getElem_cons hi]
    rw [allB_append, allB_cons]
  rw [e, List.drop_append_of_le_length (by omega), List.drop_of_length_le (by omega), List.nil_append]
theorem allB_take_len {its : List It} {i : Nat} (hi : i < its.length) : (allB (its.take (i + 1))).length = (allB (its.take i)).length + its[i].bytes.length := by
  rw [allB_snoc hi, List.length_append]

/-- The loop over a row's numbers. -/
theorem TapeBack_l {h0 h : Heap} {p : Option Addr} {l c : Nat} {w : Addr} {r : Option Addr} {i : Int} {K : (Option Addr × Nat × Nat) × Bool × Addr × Option Addr × Int × Unit → Heap → Prop} {Q : Value → Heap → Prop}
    {p1 p2 : Option Addr} {l1 c1 l2 c2 : Nat} {ys : List Int} (h1 : Row h p1 (ints (ys.map (IntKind.wrap .i32)))) (h2 : Row h p2 (ints ys)) (hl1 : l1 = ys.length) (hl2 : l2 = ys.length) (hy : ys.length ≤ 9)
    (H : K ((p, l, c), true, w, r, IntKind.wrap .i64 (i + 1), ()) h) :
    LoopS (S := ((Option Addr × Nat × Nat) × Bool × Addr × Option Addr × Int × Bool × (Option Addr × Nat × Nat) × (Option Addr × Nat × Nat) × Int × Unit)) (fun K2 s h => law06_TapeBack_l18 Q K K2 s.1.1 s.1.2.1 s.1.2.2 s.2.1 s.2.2.1 s.2.2.2.1 s.2.2.2.2.1 s.2.2.2.2.2.1 s.2.2.2.2.2.2.1.1 s.2.2.2.2.2.2.1.2.1 s.2.2.2.2.2.2.1.2.2 s.2.2.2.2.2.2.2.1.1 s.2.2.2.2.2.2.2.1.2.1 s.2.2.2.2.2.2.2.1.2.2 s.2.2.2.2.2.2.2.2.1 h)
      ((p, l, c), true, w, r, i, (((l1 : Nat) : Int) == ((l2 : Nat) : Int)), (p1, l1, c1), (p2, l2, c2), (0 : Int), ()) h := by
  subst hl1
  refine LoopS_i (fun m s g => g = h ∧ ∃ j : Nat, s = ((p, l, c), true, w, r, i, true, (p1, ys.length, c1), (p2, l2, c2), (j : Int), ()) ∧ j ≤ ys.length ∧ m = ys.length - j) ys.length ⟨rfl, 0, by rw [hl2, beq_self_eq_true]; rfl, by omega, rfl⟩ ?_
  rintro m s g ⟨rfl, j, rfl, hj, rfl⟩
  unfold law06_TapeBack_l18
  dsimp only
  refine ifB_dec (fun hlt => ifB_true rfl ?_) (fun hge => ifB_false rfl H)
  have hj' : j < ys.length := by omega
  obtain ⟨a1, rfl⟩ := h1.some_of (by rw [ints_length, List.length_map]; omega)
  obtain ⟨a2, rfl⟩ := h2.some_of (by rw [ints_length]; omega)
  refine idxI_i rfl rfl (by omega) (idxI_i rfl rfl (by omega) ?_)
  simp only [Int.toNat_natCast, Nat.mul_one]
  refine ldInt_i (h1.cell (ints_get (n := IntKind.wrap .i32 ys[j]) (by simp [hj']))) (ldInt_i (h2.cell (ints_get (List.getElem?_eq_getElem hj'))) ?_)
  have hr : -2147483648 ≤ IntKind.wrap .i32 ys[j] ∧ IntKind.wrap .i32 ys[j] < 2147483648 := sgn_range ys[j]
  rw [wrap64_in (by omega), wrap64_in (by omega), beq_self_eq_true]
  exact ⟨ys.length - (j + 1), by omega, by trivial, j + 1, rfl, by omega, rfl⟩

theorem TapeBack_j {h0 h : Heap} {p : Option Addr} {l c : Nat} {its : List It} {b3 : Nat} {q : Option Addr} {e n : Nat} (hits : ∀ q ∈ its, q.ok) (hl : its.length = l) (hl2 : l < 2 ^ 63) (hn : n ≤ l) (hn30 : n ≤ 30) (hfin : n = l ∨ n = 30)
    (S : Sep h0 no h [wr b3 (allB (its.take n)).length q (allB (its.take n)).length e, own 1 q (allB (its.take n)).length e (u8s (allB (its.take n)))] [row p (its.map It.cells).flatten, reads (its.map It.row)]) :
    law06_TapeBack_j7 (fun v h' => v = .bool true ∧ Fra no h0 h') p l c true ⟨b3, 0, none⟩ h := by
  unfold law06_TapeBack_j7
  refine (Text_ok S).mono ?_
  rintro _ _ ⟨rfl, rfl⟩
  refine ⟨_, rfl, ?_⟩
  refine (Read_S _).mono ?_
  rintro _ _ ⟨br, rfl, S1⟩
  refine ⟨_, rfl, ?_⟩
  replace S := S.add S1 fun _ _ h => h
  have hB := allB_length (its.take n)
  rw [List.length_take, Nat.min_eq_left (by omega)] at hB
  generalize hs : allB (its.take n) = s at *
  refine LoopS_i (fun m s' g => ∃ i : Nat, s' = ((p, l, c), true, ⟨b3, 0, none⟩, some ⟨br, 0, none⟩, (i : Int), ()) ∧ i ≤ n ∧ m = n - i ∧
    Sep h0 no g [wr b3 s.length q s.length e, rd br (allB ((its.take n).take i)).length s 0] [row p (its.map It.cells).flatten, reads (its.map It.row)]) n
    ⟨0, rfl, by omega, rfl, S.pick [0, 2] [0, 1]⟩ ?_
  rintro m s' g ⟨i, rfl, hi, rfl, S⟩
  unfold law06_TapeBack_l9
  dsimp only
  have fin : i = n → ifB true
      (callInt P .i64 n_tape_Reader_Left #[(.pointer (some ⟨br, 0, none⟩))] g fun n44 h43 =>
        ifB (n44 == (0 : Int)) (
          callInt P .i64 n_tape_Reader_Err #[(.pointer (some ⟨br, 0, none⟩))] h43 fun n46 h45 =>
          ifB (n46 == (0 : Int)) (
            callInt P .i64 n_tape_Reader_At #[(.pointer (some ⟨br, 0, none⟩))] h45 fun n48 h47 =>
            callInt P .i64 n_tape_Writer_At #[(.pointer (some ⟨b3, 0, none⟩))] h47 fun n50 h49 =>
            (Value.bool (n48 == n50) = .bool true ∧ Fra no h0 h49)) (
            Value.bool false = .bool true ∧ Fra no h0 h45)) (
          Value.bool false = .bool true ∧ Fra no h0 h43)) (
        Value.bool false = .bool true ∧ Fra no h0 g) := by
    rintro rfl
    rw [List.take_of_length_le (by rw [List.length_take]; omega), hs] at S
    refine ifB_true rfl ?_
    refine (rLeft_ok (s := s) (t := ⟨s.length, 0⟩) (S.at 1 rfl) ⟨Nat.le_refl _, .inl rfl⟩ (by omega)).mono ?_
    rintro _ _ ⟨rfl, rfl⟩
    refine ⟨_, rfl, ?_⟩
    refine ifB_true (by simp) ?_
    refine (rErr_ok (S.cell 1 rfl rfl)).mono ?_
    rintro _ _ ⟨rfl, rfl⟩
    refine ⟨_, rfl, ?_⟩
    refine ifB_true rfl ?_
    refine (rAt_ok (S.cell 1 rfl rfl)).mono ?_
    rintro _ _ ⟨rfl, rfl⟩
    refine ⟨_, rfl, ?_⟩
    refine (At_ok (S.cell 0 rfl rfl)).mono ?_
    rintro _ _ ⟨rfl, rfl⟩
    exact ⟨_, rfl, by rw [beq_self_eq_true], S.fra⟩
  refine ⟨fun s' g' => s' = ((p, l, c), true, ⟨b3, 0, none⟩, some ⟨br, 0, none⟩, (i : Int), ()) ∧ g' = g ∧ i < n, ?_, ?_⟩
  · rintro s' g' ⟨rfl, hg, hin⟩
    subst hg
    unfold law06_TapeBack_j11
    dsimp only
    have hlt : i < its.length := by omega
    have hit : i < (its.take n).length := by rw [List.length_take]; omega
    have hget : (its.take n)[i] = its[i] := by simp
    have hdrop := allB_drop hit
    have hlen' := allB_take_len hit
    rw [hs] at hdrop
    rw [hget] at hdrop hlen'
    generalize ha : (allB ((its.take n).take i)).length = a at *
    have hal : a ≤ s.length := by
      have := congrArg List.length hdrop
      have hb : a + its[i].bytes.length ≤ (allB (its.take n)).length := by
        rw [← hlen']
        exact allB_le _ _
      rw [hs] at hb; omega
    have hok : St.ok s ⟨a, 0⟩ := ⟨hal, .inl rfl⟩
    obtain ⟨pp, rfl⟩ := (S.row 0 rfl).some_of (by rw [flat_len It.cells 3 It.cells_length]; omega)
    obtain ⟨k1, k2, k3⟩ := it_cells hlt (S.row 0 rfl)
    have hmem : its[i] ∈ its := List.getElem_mem hlt
    refine idxI_i rfl rfl (by omega) ?_
    simp only [Int.toNat_natCast]
    refine ldInt_i k2 (idxI_i rfl rfl (by omega) ?_)
    refine ldInt_i k1 (ldInt_i k2 (ldSlice_i k3 ?_))
    refine (kind_ok its[i]).mono ?_
    rintro _ _ ⟨rfl, F⟩
    refine ⟨_, rfl, ?_⟩
    replace S := S.fra0 F
    have hw : IntKind.wrap .i64 ((i : Int) + 1) = ((i + 1 : Nat) : Int) := wrap64_in (by omega)
    rw [hw]
    have next : ∀ (g' : Heap) (k : Nat), its[i].bytes.length = k → Sep h0 no g' [wr b3 s.length q s.length e, rd br (a + k) s 0] [row (some pp) (its.map It.cells).flatten, reads (its.map It.row)] →
        ∃ n', n' < n - i ∧ ∃ i' : Nat, (((some pp, l, c), true, ⟨b3, 0, none⟩, some ⟨br, 0, none⟩, ((i + 1 : Nat) : Int), ()) : (Option Addr × Nat × Nat) × Bool × Addr × Option Addr × Int × Unit) = ((some pp, l, c), true, ⟨b3, 0, none⟩, some ⟨br, 0, none⟩, (i' : Int), ()) ∧ i' ≤ n ∧ n' = n - i' ∧
          Sep h0 no g' [wr b3 s.length q s.length e, rd br (allB ((its.take n).take i')).length s 0] [row (some pp) (its.map It.cells).flatten, reads (its.map It.row)] := by
      intro g' k hk S
      refine ⟨n - (i + 1), by omega, i + 1, rfl, by omega, rfl, ?_⟩
      rw [hlen', hk]
      exact S
    refine ifB_i (fun e => ?_) (fun e0 => ifB_i (fun e => ?_) (fun e1 => ifB_i (fun e => ?_) (fun e2 => ifB_i (fun e => ?_) (fun e3 => ?_))))
    · have hb : its[i].bytes = low (IntKind.wrap .u64 its[i].n) 1 := by unfold It.bytes; rw [if_pos (by simpa using e)]
      rw [hb] at hdrop
      have hg := rget_low (by decide) hdrop
      refine (rByte_S (t := ⟨a, 0⟩) (S.into [1] [] []) hok (by omega)).mono ?_
      rintro _ _ ⟨rfl, S1⟩
      refine ⟨_, rfl, ?_⟩
      replace S := S.back [1] S1
      rw [hg] at S ⊢
      have e1 : andI .i64 its[i].n 255 = its[i].n % 256 := andI_low _ 255 8 rfl (by decide)
      refine ifB_false ?_ (next _ 1 (by rw [hb, low_length]) S)
      dsimp only
      rw [e1, wrap_u64]; simp
    · have hb : its[i].bytes = low (IntKind.wrap .u64 its[i].n) 2 := by unfold It.bytes; simp at e0 e; rw [if_neg e0, if_pos e]
      rw [hb] at hdrop
      have hg := rget_low (by decide) hdrop
      refine (rShort_S (t := ⟨a, 0⟩) (S.into [1] [] []) hok (by omega)).mono ?_
      rintro _ _ ⟨rfl, S1⟩
      refine ⟨_, rfl, ?_⟩
      replace S := S.back [1] S1
      rw [hg] at S ⊢
      have e1 : andI .i64 its[i].n 65535 = its[i].n % 65536 := andI_low _ 65535 16 rfl (by decide)
      refine ifB_false ?_ (next _ 2 (by rw [hb, low_length]) S)
      dsimp only
      rw [e1, wrap_u64]; simp
    · have hb : its[i].bytes = low (IntKind.wrap .u64 its[i].n) 4 := by unfold It.bytes; simp at e0 e1 e; rw [if_neg e0, if_neg e1, if_pos e]
      rw [hb] at hdrop
      have hg := rget_low (by decide) hdrop
      refine (rWord_S (t := ⟨a, 0⟩) (S.into [1] [] []) hok (by omega)).mono ?_
      rintro _ _ ⟨rfl, S1⟩
      refine ⟨_, rfl, ?_⟩
      replace S := S.back [1] S1
      rw [hg] at S ⊢
      refine ifB_false ?_ (next _ 4 (by rw [hb, low_length]) S)
      dsimp only
      have hr : -2147483648 ≤ IntKind.wrap .i32 its[i].n ∧ IntKind.wrap .i32 its[i].n < 2147483648 := sgn_range its[i].n
      rw [sgn_word, wrap64_in (by omega), beq_self_eq_true]; rfl
    · have hb : its[i].bytes = low (IntKind.wrap .u64 its[i].n) 8 := by unfold It.bytes; simp at e0 e1 e2 e; rw [if_neg e0, if_neg e1, if_neg e2, if_pos e]
      rw [hb] at hdrop
      have hg := rget_low (by decide) hdrop
      refine (rLong_S (t := ⟨a, 0⟩) (S.into [1] [] []) hok (by omega)).mono ?_
      rintro _ _ ⟨rfl, S1⟩
      refine ⟨_, rfl, ?_⟩
      replace S := S.back [1] S1
      rw [hg] at S ⊢
      refine ifB_false ?_ (next _ 8 (by rw [hb, low_length]) S)
      dsimp only
      rw [wrap_u64]; simp
    · have hb : its[i].bytes = rowB its[i].ys := by unfold It.bytes; simp at e0 e1 e2 e3; rw [if_neg e0, if_neg e1, if_neg e2, if_neg e3]
      rw [hb] at hdrop
      have hy9 : its[i].ys.length ≤ 9 := by simp [It.ys]; omega
      have hg := rrow_row hy9 hdrop
      have hys : (ints its[i].xs).take 9 = ints its[i].ys := ints_take _ _
      refine (rRow_S (t := ⟨a, 0⟩) (S.into [1] [] []) hok (by omega)).mono ?_
      rintro _ _ ⟨p1, l1, c1, rfl, hl1, S1⟩
      refine ⟨_, _, _, rfl, ?_⟩
      replace S := S.back [1] S1
      rw [hg] at S hl1
      rw [List.length_map] at hl1
      obtain ⟨k1, k2, k3⟩ := it_cells hlt (S.row 0 rfl)
      refine idxI_i rfl rfl (by omega) ?_
      refine ldInt_i k1 (ldInt_i k2 (ldSlice_i k3 ?_))
      refine (xs_ok its[i] (hits _ hmem)).mono ?_
      rintro _ _ ⟨⟨l2, c2, rfl, hl2⟩, F⟩
      refine ⟨_, _, _, rfl, ?_⟩
      replace S := S.fra0 F
      have S2 := ((S.into [] [] [1]).oneOf 0 (List.mem_map.2 ⟨_, hmem, rfl⟩)).head (p := its[i].p) (xs := ints its[i].xs) 0 9
      rw [hys] at S2
      refine TapeBack_l (ys := its[i].ys) (h0 := h0) (S.own 2 rfl).row (S2.row 0 rfl) hl1 hl2 hy9 ?_
      rw [hw]
      exact next _ _ (by rw [hb]) (S.pick [0, 1] [0, 1])
  · exact ifB_dec (fun h1 => ifB_dec (fun h2 => ⟨rfl, rfl, by omega⟩) fun h2 => fin (by omega)) fun h1 => fin (by omega)

theorem TapeBack_ok {h : Heap} {p : Option Addr} {l c : Nat} {its : List It} (hs : Script h p its) (hl : its.length = l) (hl2 : l < 2 ^ 63) :
    callP P n_law06_TapeBack #[.slice p l c] h fun v h' => v = .bool true ∧ Fra no h h' := by
  refine call_law06_TapeBack _ _ _ ?_
  unfold law06_TapeBack
  have S := hs.sep
  refine (awake06_ok).mono ?_
  rintro _ _ ⟨rfl, F⟩
  refine ⟨_, rfl, ?_⟩
  replace S := S.fra0 F
  refine newI_S S (fun b3 _ _ S => ?_)
  replace S := S.nil 1
  refine ⟨fun s g => s = ((p, l, c), true, ⟨b3, 0, none⟩, ()) ∧ ∃ (n : Nat) (q : Option Addr) (e : Nat), n ≤ l ∧ n ≤ 30 ∧ (n = l ∨ n = 30) ∧
    Sep h no g [wr b3 (allB (its.take n)).length q (allB (its.take n)).length e, own 1 q (allB (its.take n)).length e (u8s (allB (its.take n)))] [row p (its.map It.cells).flatten, reads (its.map It.row)], ?_, ?_⟩
  · rintro s g ⟨rfl, n, q, e, h1, h2, h3, S⟩
    exact TapeBack_j (fun q hq => (hs.2 q hq).1) hl hl2 h1 h2 h3 S
  refine LoopS_i (fun m s g => ∃ (i : Nat) (q : Option Addr) (e : Nat), s = ((p, l, c), true, ⟨b3, 0, none⟩, (i : Int), ()) ∧ i ≤ l ∧ i ≤ 30 ∧ m = 30 - i ∧
    Sep h no g [wr b3 (allB (its.take i)).length q (allB (its.take i)).length e, own 1 q (allB (its.take i)).length e (u8s (allB (its.take i)))] [row p (its.map It.cells).flatten, reads (its.map It.row)]) 30
    ⟨0, none, 0, rfl, by omega, by omega, rfl, S⟩ ?_
  rintro m s g ⟨i, q, e, rfl, hi, hi2, rfl, S⟩
  unfold law06_TapeBack_l4
  dsimp only
  have hlen := allB_length (its.take i)
  rw [List.length_take, Nat.min_eq_left (by omega)] at hlen
  refine ifB_dec (fun h1 => ifB_dec (fun h2 => ?_) fun h2 => ⟨rfl, i, q, e, hi, hi2, .inr (by omega), S⟩) fun h1 => ⟨rfl, i, q, e, hi, hi2, .inl (by omega), S⟩
  have hlt : i < its.length := by omega
  obtain ⟨a, rfl⟩ := (S.row 0 rfl).some_of (by rw [flat_len It.cells 3 It.cells_length]; omega)
  obtain ⟨k1, k2, k3⟩ := it_cells hlt (S.row 0 rfl)
  refine idxI_i rfl rfl (by omega) ?_
  simp only [Int.toNat_natCast]
  refine ldInt_i k1 (ldInt_i k2 (ldSlice_i k3 ?_))
  have hmem : its[i] ∈ its := List.getElem_mem hlt
  refine (write_S its[i] (hs.2 _ hmem).1 ((S.into [0, 1] [] [1]).oneOf 0 (List.mem_map.2 ⟨_, hmem, rfl⟩)) (by omega) (by omega)).mono ?_
  rintro _ g1 ⟨rfl, p1, c1, S1⟩
  refine ⟨_, rfl, ?_⟩
  replace S := S.back [0, 1] S1
  have hl' : (allB (its.take (i + 1))).length = (allB (its.take i)).length + its[i].bytes.length := by rw [allB_snoc hlt, List.length_append]
  rw [wrap64_in (by omega)]
  refine ⟨30 - (i + 1), by omega, i + 1, p1, c1, rfl, by omega, by omega, rfl, ?_⟩
  rw [← allB_snoc hlt] at S
  rw [hl', Int.natCast_add]
  exact S

theorem TapeBack_row {h : Heap} {n : Nat} {p : Option Addr} {l c : Nat} {xss : List (List Value)} (r : Row h p xss.flatten) (he : ∀ xs ∈ xss, Mts h (n + 2) [.int .i64, .int .i64, .sl [.int .i64]] xs) (hl : xss.length = l) (hc : l ≤ c) (hm : c ≤ maxLen) :
    callP P n_law06_TapeBack #[.slice p l c] h fun v h' => v = .bool true ∧ Fra no h h' := by
  obtain ⟨its, hs, hi⟩ := script_of r he
  exact TapeBack_ok hs (by omega) (by have := maxLen_lt; omega)

end Go.Proofs.Ytdjofpdmdbcgjab.G
