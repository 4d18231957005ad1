/- Contracts: package loop, the document's loop. -/
import Derived.Test.YtdjofpdmdbcgjacCArenaR
namespace Go.Proofs.Ytdjofpdmdbcgjac.G
open Go Go.Sh
set_option linter.unusedVariables false

abbrev lo (lp pp w r cnt : Nat) : Fact := blk lp [.pointer (some ⟨pp, 0, none⟩), .int .i64 w, .int .i64 r, .int .i64 cnt]
abbrev rl (b : Nat) (p : Option Addr) (l c w r cnt : Nat) : Fact := blk b [.slice p l c, .int .i64 w, .int .i64 r, .int .i64 cnt]

/-- Some words put from o on. -/
def putAt (ws : List Int) (o : Nat) (f : List Int) : List Int := ws.take o ++ f ++ ws.drop (o + f.length)
theorem putAt_length {ws f : List Int} {o : Nat} (h : o + f.length ≤ ws.length) : (putAt ws o f).length = ws.length := by
  unfold putAt; simp; omega
theorem putAt_step {ws f : List Int} {o j : Nat} (h : o + f.length ≤ ws.length) (hj : j < f.length) : (putAt ws o (f.take j)).set (o + j) f[j] = putAt ws o (f.take (j + 1)) := by
  unfold putAt
  have h1 : (ws.take o ++ f.take j).length = o + j := by simp; omega
  rw [List.set_append_right _ _ (by omega), h1, Nat.sub_self]
  have h2 : ws.drop (o + (f.take j).length) = ws[o + j]'(by omega) :: ws.drop (o + j + 1) := by
    rw [List.length_take, Nat.min_eq_left (by omega), List.drop_eq_getElem_cons (by omega)]
  rw [h2, List.set_cons_zero, List.take_succ_eq_append_getElem hj]
  simp only [List.append_assoc, List.singleton_append, List.length_append, List.length_take, List.length_singleton]
  congr 4
  omega
theorem putAt_nil (ws : List Int) (o : Nat) : putAt ws o [] = ws := by unfold putAt; simp

/-- What Push tells, the words then, and the count. -/
def lps (ws : List Int) (at_ w r cnt : Nat) (f : List Int) : Int × List Int × Nat :=
  if f.length ≠ w then (14, ws, cnt) else if ¬ allW f then (16, ws, cnt) else (0, putAt ws (at_ + cnt % r * w) f, cnt + 1)
def lin (r cnt : Nat) (t : Int) : Bool := decide (((cnt - r : Nat) : Int) ≤ t ∧ t < cnt)
def lgt (ws : List Int) (at_ w r cnt : Nat) (t : Int) : List Int := if lin r cnt t = true then (ws.drop (at_ + t.toNat % r * w)).take w else []

theorem mod_mul_le {t r w k : Nat} (hr : 1 ≤ r) (h : r * w ≤ k) : t % r * w + w ≤ k := by
  have h1 : t % r < r := Nat.mod_lt _ (by omega)
  have h2 : (t % r + 1) * w ≤ r * w := Nat.mul_le_mul_right _ (by omega)
  rw [Nat.add_mul, Nat.one_mul] at h2
  omega

section
variable {h0 h : Heap} {T : Nat → Prop} {W R : List Fact} {a bw n pp at_ k lp w r cnt : Nat} {err : Int} {ws : List Int}

theorem LNew_S (S : Sep h0 T h W R) (ip : Nat) (ep : W[ip]? = some (pt pp a bw at_ k)) (w : Nat) (hw : 1 ≤ w) (hk : w ≤ k) (hk2 : k ≤ 4096) :
    callP P n_loop_New #[.pointer (some ⟨pp, 0, none⟩), .int .i64 w] h fun v h' => ∃ lp, v = .pointer (some ⟨lp, 0, none⟩) ∧ Sep h0 T h' (W ++ [lo lp pp w (k / w) 0]) R := by
  refine call_loop_New _ _ ?_
  unfold loop_New
  refine ifB_false rfl (ifB_false (decide_eq_false (by omega)) ?_)
  refine (PLen_ok S ip ep).mono ?_
  rintro _ _ ⟨rfl, rfl⟩
  refine ⟨_, rfl, ?_⟩
  refine ifB_false (decide_eq_false (by omega)) ?_
  refine (PLen_ok S ip ep).mono ?_
  rintro _ _ ⟨rfl, rfl⟩
  refine ⟨_, rfl, ?_⟩
  refine ⟨by omega, ?_⟩
  have e : IntKind.wrap .i64 (Int.tdiv (k : Int) (w : Int)) = ((k / w : Nat) : Int) := by
    rw [Int.tdiv_eq_ediv_of_nonneg (by omega)]
    have h2 : k / w ≤ k := Nat.div_le_self _ _
    rw [← Int.natCast_ediv]
    generalize k / w = z at h2
    exact wrap64_in (by omega)
  rw [e]
  refine newI_S S (fun b1 _ _ S => ?_)
  exact ⟨b1, rfl, S⟩

theorem LNew_not (S : Sep h0 T h W R) (ip : Nat) (ep : W[ip]? = some (pt pp a bw at_ k)) (x : Int) (hx : x < 1 ∨ (k : Int) < x) :
    callP P n_loop_New #[.pointer (some ⟨pp, 0, none⟩), .int .i64 x] h fun v h' => v = .pointer none ∧ h' = h := by
  refine call_loop_New _ _ ?_
  unfold loop_New
  refine ifB_false rfl (ifB_dec (fun _ => ⟨rfl, rfl⟩) fun h1 => ?_)
  refine (PLen_ok S ip ep).mono ?_
  rintro _ _ ⟨rfl, rfl⟩
  refine ⟨_, rfl, ?_⟩
  exact ifB_true (decide_eq_true (by omega)) ⟨rfl, rfl⟩

theorem LWidth_ok (S : Sep h0 T h W R) (il : Nat) (el : W[il]? = some (lo lp pp w r cnt)) : callP P n_loop_Loop_Width #[.pointer (some ⟨lp, 0, none⟩)] h fun v h' => v = .int .i64 w ∧ h' = h := by
  refine call_loop_Loop_Width _ ?_
  unfold loop_Loop_Width
  exact ifB_false rfl (nilI_some (ldInt_i (S.cell il el rfl) ⟨rfl, rfl⟩))
theorem LRoom_ok (S : Sep h0 T h W R) (il : Nat) (el : W[il]? = some (lo lp pp w r cnt)) : callP P n_loop_Loop_Room #[.pointer (some ⟨lp, 0, none⟩)] h fun v h' => v = .int .i64 r ∧ h' = h := by
  refine call_loop_Loop_Room _ ?_
  unfold loop_Loop_Room
  exact ifB_false rfl (nilI_some (ldInt_i (S.cell il el rfl) ⟨rfl, rfl⟩))
theorem LCount_ok (S : Sep h0 T h W R) (il : Nat) (el : W[il]? = some (lo lp pp w r cnt)) : callP P n_loop_Loop_Count #[.pointer (some ⟨lp, 0, none⟩)] h fun v h' => v = .int .i64 cnt ∧ h' = h := by
  refine call_loop_Loop_Count _ ?_
  unfold loop_Loop_Count
  exact ifB_false rfl (nilI_some (ldInt_i (S.cell il el rfl) ⟨rfl, rfl⟩))
theorem LOldest_ok (S : Sep h0 T h W R) (il : Nat) (el : W[il]? = some (lo lp pp w r cnt)) (hc : cnt < 2 ^ 63) (hr : r ≤ 4096) : callP P n_loop_Loop_Oldest #[.pointer (some ⟨lp, 0, none⟩)] h fun v h' => v = .int .i64 ((cnt - r : Nat) : Int) ∧ h' = h := by
  refine call_loop_Loop_Oldest _ ?_
  unfold loop_Loop_Oldest
  refine (LCount_ok S il el).mono ?_
  rintro _ _ ⟨rfl, rfl⟩
  refine ⟨_, rfl, ?_⟩
  refine (LRoom_ok S il el).mono ?_
  rintro _ _ ⟨rfl, rfl⟩
  refine ⟨_, rfl, ?_⟩
  refine ⟨?_, rfl⟩
  congr 1
  rw [wrap64_in (by omega)]
  split <;> omega
theorem LSeek_S (S : Sep h0 T h W R) (il : Nat) (el : W[il]? = some (lo lp pp w r cnt)) (x : Int) : callP P n_loop_Loop_Seek #[.pointer (some ⟨lp, 0, none⟩), .int .i64 x] h fun v h' => v = .bool (!decide (x < 0)) ∧ Sep h0 T h' (W.set il (lo lp pp w r (if x < 0 then cnt else x.toNat))) R := by
  refine call_loop_Loop_Seek _ _ ?_
  unfold loop_Loop_Seek
  refine ifB_false rfl (ifB_dec (fun h1 => ⟨by rw [decide_eq_true h1]; rfl, ?_⟩) fun h1 => nilI_some ?_)
  · rw [if_pos h1]; exact same_fact S il el
  · refine stI_S S il el (Nat.le_of_ble_eq_true rfl) fun h' _ S => ⟨by rw [decide_eq_false h1]; rfl, ?_⟩
    rw [if_neg h1]
    have : (x : Int) = ((x.toNat : Nat) : Int) := by omega
    rw [this] at S
    exact S
theorem Lat_ok (S : Sep h0 T h W R) (il : Nat) (el : W[il]? = some (lo lp pp w r cnt)) (t : Nat) (hr : 1 ≤ r) (hb : r * w ≤ 4096) : callP P n_loop_Loop_at #[.pointer (some ⟨lp, 0, none⟩), .int .i64 t] h fun v h' => v = .int .i64 ((t % r * w : Nat) : Int) ∧ h' = h := by
  refine call_loop_Loop_at _ _ ?_
  unfold loop_Loop_at
  refine nilI_some (nilI_some (ldInt_i (S.cell il el rfl) ⟨by omega, ldInt_i (S.cell il el rfl) ⟨?_, rfl⟩⟩))
  have h1 := mod_mul_le (t := t) (w := w) hr hb
  congr 1
  rw [Int.tmod_eq_emod_of_nonneg (by omega)]
  have : ((t : Int) % (r : Int)) * (w : Int) = ((t % r * w : Nat) : Int) := by simp
  rw [this, wrap64_in (by omega)]

theorem LPush_S (S : Sep h0 T h [wds bw ws, ar a bw n err, pt pp a bw at_ k, lo lp pp w r cnt] R) (ix : Nat) {q : Option Addr} {l d : Nat} {f : List Int} (ex : R[ix]? = some (row q (ints f))) (hl : f.length = l) (hl2 : l < 2 ^ 62)
    (hr : 1 ≤ r) (hb : r * w ≤ k) (hk : at_ + k ≤ ws.length) (hk2 : k ≤ 4096) (hat : at_ ≤ 4096) (hc : cnt < 2 ^ 62 + 2 ^ 61) :
    callP P n_loop_Loop_Push #[.pointer (some ⟨lp, 0, none⟩), .slice q l d] h fun v h' => v = .int .i64 (lps ws at_ w r cnt f).1 ∧
      Sep h0 T h' [wds bw (lps ws at_ w r cnt f).2.1, ar a bw n err, pt pp a bw at_ k, lo lp pp w r (lps ws at_ w r cnt f).2.2] R := by
  refine call_loop_Loop_Push _ _ _ _ ?_
  unfold loop_Loop_Push
  refine ifB_false rfl (nilI_some (ldInt_i (S.cell 3 rfl rfl) ?_))
  refine ifB_i (fun hne => ?_) (fun he => ?_)
  · have e : lps ws at_ w r cnt f = (14, ws, cnt) := by unfold lps; rw [if_pos (by simp at hne; omega)]
    rw [e]; exact ⟨rfl, S⟩
  have hlw : l = w := by simp at he; omega
  have hx := S.row ix ex
  refine LoopS_i (fun m s g => g = h ∧ ∃ i : Nat, s = (some ⟨lp, 0, none⟩, (q, l, d), (q, l, d), (l : Int), (i : Int), ()) ∧ i ≤ l ∧ m = l - i ∧ ∀ j x, j < i → f[j]? = some x → isW x) l ⟨rfl, 0, rfl, by omega, rfl, by intro j x hj; omega⟩ ?_
  rintro m s g ⟨rfl, i, rfl, hi, rfl, hw⟩
  unfold loop_Loop_Push_l6
  dsimp only
  refine ifB_dec (fun hlt => ?_) (fun hge => ?_)
  · have hix : i < f.length := by omega
    obtain ⟨aa, rfl⟩ := hx.some_of (by rw [ints_length]; omega)
    refine idxI_i rfl rfl (by omega) ?_
    simp only [Int.toNat_natCast, Nat.mul_one]
    refine ldInt_i (hx.cell (ints_get (List.getElem?_eq_getElem hix))) ?_
    refine (Fits_ok f[i]).mono ?_
    rintro _ _ ⟨rfl, rfl⟩
    refine ⟨_, rfl, ?_⟩
    refine ifB_i (fun hb' => ?_) (fun hb' => ?_)
    · have hn : ¬ isW f[i] := by simpa using hb'
      have e : lps ws at_ w r cnt f = (16, ws, cnt) := by unfold lps; rw [if_neg (by omega), if_pos (fun h => hn (h _ (List.getElem_mem hix)))]
      rw [e]; exact ⟨by trivial, S⟩
    · have hn : isW f[i] := by simpa using hb'
      rw [wrap64_in (by omega)]
      refine ⟨l - (i + 1), by omega, by trivial, i + 1, rfl, by omega, rfl, fun j x hj hx => ?_⟩
      by_cases hji : j = i
      · subst hji; rw [List.getElem?_eq_getElem hix] at hx; cases hx; exact hn
      · exact hw j x (by omega) hx
  · have hall : allW f := fun x hx => by
      obtain ⟨j, hj⟩ := List.getElem?_of_mem hx
      exact hw j x (by have := (List.getElem?_eq_some_iff.1 hj).1; omega) hj
    have e : lps ws at_ w r cnt f = (0, putAt ws (at_ + cnt % r * w) f, cnt + 1) := by unfold lps; rw [if_neg (by omega), if_neg (by simpa using hall)]
    rw [e]
    have hm := mod_mul_le (t := cnt) (w := w) hr hb
    refine LoopS_i (fun m s g => ∃ i : Nat, s = (some ⟨lp, 0, none⟩, (q, l, d), (l : Int), (i : Int), ()) ∧ i ≤ l ∧ m = l - i ∧ Sep h0 T g [wds bw (putAt ws (at_ + cnt % r * w) (f.take i)), ar a bw n err, pt pp a bw at_ k, lo lp pp w r cnt] R) l ⟨0, rfl, by omega, rfl, by rw [List.take_zero, putAt_nil]; exact S⟩ ?_
    rintro m s g ⟨i, rfl, hi, rfl, S⟩
    unfold loop_Loop_Push_l12
    dsimp only
    have hx := S.row ix ex
    refine ifB_dec (fun hlt => ?_) (fun hge => ?_)
    · have hix : i < f.length := by omega
      obtain ⟨aa, rfl⟩ := hx.some_of (by rw [ints_length]; omega)
      refine idxI_i rfl rfl (by omega) ?_
      simp only [Int.toNat_natCast, Nat.mul_one]
      refine ldInt_i (hx.cell (ints_get (List.getElem?_eq_getElem hix))) ?_
      (repeat (first | with_reducible refine nilI_some ?_ | ((with_reducible refine ldInt_id ?_); (first | refine ldInt_i (S.cell 0 rfl rfl) ?_ | refine ldInt_i (S.cell 1 rfl rfl) ?_ | refine ldInt_i (S.cell 2 rfl rfl) ?_ | refine ldInt_i (S.cell 3 rfl rfl) ?_ | refine ldInt_i (S.cell 4 rfl rfl) ?_ | refine ldInt_i (S.cell 5 rfl rfl) ?_ | refine ldInt_i (S.cell 6 rfl rfl) ?_ | refine ldInt_i (S.cell 7 rfl rfl) ?_ | refine ldInt_i (S.cellR 0 rfl rfl) ?_ | refine ldInt_i (S.cellR 1 rfl rfl) ?_ | refine ldInt_i (S.cellR 2 rfl rfl) ?_)) | ((with_reducible refine ldBool_id ?_); (first | refine ldBool_i (S.cell 0 rfl rfl) ?_ | refine ldBool_i (S.cell 1 rfl rfl) ?_ | refine ldBool_i (S.cell 2 rfl rfl) ?_ | refine ldBool_i (S.cell 3 rfl rfl) ?_ | refine ldBool_i (S.cell 4 rfl rfl) ?_ | refine ldBool_i (S.cell 5 rfl rfl) ?_ | refine ldBool_i (S.cell 6 rfl rfl) ?_ | refine ldBool_i (S.cell 7 rfl rfl) ?_ | refine ldBool_i (S.cellR 0 rfl rfl) ?_ | refine ldBool_i (S.cellR 1 rfl rfl) ?_ | refine ldBool_i (S.cellR 2 rfl rfl) ?_)) | ((with_reducible refine ldPtr_id ?_); (first | refine ldPtr_i (S.cell 0 rfl rfl) ?_ | refine ldPtr_i (S.cell 1 rfl rfl) ?_ | refine ldPtr_i (S.cell 2 rfl rfl) ?_ | refine ldPtr_i (S.cell 3 rfl rfl) ?_ | refine ldPtr_i (S.cell 4 rfl rfl) ?_ | refine ldPtr_i (S.cell 5 rfl rfl) ?_ | refine ldPtr_i (S.cell 6 rfl rfl) ?_ | refine ldPtr_i (S.cell 7 rfl rfl) ?_ | refine ldPtr_i (S.cellR 0 rfl rfl) ?_ | refine ldPtr_i (S.cellR 1 rfl rfl) ?_ | refine ldPtr_i (S.cellR 2 rfl rfl) ?_)) | ((with_reducible refine ldSlice_id ?_); (first | refine ldSlice_i (S.cell 0 rfl rfl) ?_ | refine ldSlice_i (S.cell 1 rfl rfl) ?_ | refine ldSlice_i (S.cell 2 rfl rfl) ?_ | refine ldSlice_i (S.cell 3 rfl rfl) ?_ | refine ldSlice_i (S.cell 4 rfl rfl) ?_ | refine ldSlice_i (S.cell 5 rfl rfl) ?_ | refine ldSlice_i (S.cell 6 rfl rfl) ?_ | refine ldSlice_i (S.cell 7 rfl rfl) ?_ | refine ldSlice_i (S.cellR 0 rfl rfl) ?_ | refine ldSlice_i (S.cellR 1 rfl rfl) ?_ | refine ldSlice_i (S.cellR 2 rfl rfl) ?_)) | ((with_reducible refine ldStr_id ?_); (first | refine ldStr_i (S.cell 0 rfl rfl) ?_ | refine ldStr_i (S.cell 1 rfl rfl) ?_ | refine ldStr_i (S.cell 2 rfl rfl) ?_ | refine ldStr_i (S.cell 3 rfl rfl) ?_ | refine ldStr_i (S.cell 4 rfl rfl) ?_ | refine ldStr_i (S.cell 5 rfl rfl) ?_ | refine ldStr_i (S.cell 6 rfl rfl) ?_ | refine ldStr_i (S.cell 7 rfl rfl) ?_ | refine ldStr_i (S.cellR 0 rfl rfl) ?_ | refine ldStr_i (S.cellR 1 rfl rfl) ?_ | refine ldStr_i (S.cellR 2 rfl rfl) ?_)) | ((with_reducible refine stI_id ?_); (first | refine stI_S S 0 rfl (Nat.le_of_ble_eq_true rfl) (fun _ _ S => ?_) | refine stI_S S 1 rfl (Nat.le_of_ble_eq_true rfl) (fun _ _ S => ?_) | refine stI_S S 2 rfl (Nat.le_of_ble_eq_true rfl) (fun _ _ S => ?_) | refine stI_S S 3 rfl (Nat.le_of_ble_eq_true rfl) (fun _ _ S => ?_) | refine stI_S S 4 rfl (Nat.le_of_ble_eq_true rfl) (fun _ _ S => ?_) | refine stI_S S 5 rfl (Nat.le_of_ble_eq_true rfl) (fun _ _ S => ?_) | refine stI_S S 6 rfl (Nat.le_of_ble_eq_true rfl) (fun _ _ S => ?_) | refine stI_S S 7 rfl (Nat.le_of_ble_eq_true rfl) (fun _ _ S => ?_)); try dsimp only [List.set, List.cons_append, List.nil_append] at S) | ((with_reducible refine and_id ?_); (first | refine and_i (S.cell 0 rfl rfl) ?_ | refine and_i (S.cell 1 rfl rfl) ?_ | refine and_i (S.cell 2 rfl rfl) ?_ | refine and_i (S.cell 3 rfl rfl) ?_ | refine and_i (S.cell 4 rfl rfl) ?_ | refine and_i (S.cell 5 rfl rfl) ?_ | refine and_i (S.cell 6 rfl rfl) ?_ | refine and_i (S.cell 7 rfl rfl) ?_ | refine and_i (S.cellR 0 rfl rfl) ?_ | refine and_i (S.cellR 1 rfl rfl) ?_ | refine and_i (S.cellR 2 rfl rfl) ?_)) | refine arrI_i (by decide) (by decide) ?_))
      refine (Lat_ok S 3 rfl cnt hr (by omega)).mono ?_
      rintro _ _ ⟨rfl, rfl⟩
      refine ⟨_, rfl, ?_⟩
      (repeat (first | with_reducible refine nilI_some ?_ | ((with_reducible refine ldInt_id ?_); (first | refine ldInt_i (S.cell 0 rfl rfl) ?_ | refine ldInt_i (S.cell 1 rfl rfl) ?_ | refine ldInt_i (S.cell 2 rfl rfl) ?_ | refine ldInt_i (S.cell 3 rfl rfl) ?_ | refine ldInt_i (S.cell 4 rfl rfl) ?_ | refine ldInt_i (S.cell 5 rfl rfl) ?_ | refine ldInt_i (S.cell 6 rfl rfl) ?_ | refine ldInt_i (S.cell 7 rfl rfl) ?_ | refine ldInt_i (S.cellR 0 rfl rfl) ?_ | refine ldInt_i (S.cellR 1 rfl rfl) ?_ | refine ldInt_i (S.cellR 2 rfl rfl) ?_)) | ((with_reducible refine ldBool_id ?_); (first | refine ldBool_i (S.cell 0 rfl rfl) ?_ | refine ldBool_i (S.cell 1 rfl rfl) ?_ | refine ldBool_i (S.cell 2 rfl rfl) ?_ | refine ldBool_i (S.cell 3 rfl rfl) ?_ | refine ldBool_i (S.cell 4 rfl rfl) ?_ | refine ldBool_i (S.cell 5 rfl rfl) ?_ | refine ldBool_i (S.cell 6 rfl rfl) ?_ | refine ldBool_i (S.cell 7 rfl rfl) ?_ | refine ldBool_i (S.cellR 0 rfl rfl) ?_ | refine ldBool_i (S.cellR 1 rfl rfl) ?_ | refine ldBool_i (S.cellR 2 rfl rfl) ?_)) | ((with_reducible refine ldPtr_id ?_); (first | refine ldPtr_i (S.cell 0 rfl rfl) ?_ | refine ldPtr_i (S.cell 1 rfl rfl) ?_ | refine ldPtr_i (S.cell 2 rfl rfl) ?_ | refine ldPtr_i (S.cell 3 rfl rfl) ?_ | refine ldPtr_i (S.cell 4 rfl rfl) ?_ | refine ldPtr_i (S.cell 5 rfl rfl) ?_ | refine ldPtr_i (S.cell 6 rfl rfl) ?_ | refine ldPtr_i (S.cell 7 rfl rfl) ?_ | refine ldPtr_i (S.cellR 0 rfl rfl) ?_ | refine ldPtr_i (S.cellR 1 rfl rfl) ?_ | refine ldPtr_i (S.cellR 2 rfl rfl) ?_)) | ((with_reducible refine ldSlice_id ?_); (first | refine ldSlice_i (S.cell 0 rfl rfl) ?_ | refine ldSlice_i (S.cell 1 rfl rfl) ?_ | refine ldSlice_i (S.cell 2 rfl rfl) ?_ | refine ldSlice_i (S.cell 3 rfl rfl) ?_ | refine ldSlice_i (S.cell 4 rfl rfl) ?_ | refine ldSlice_i (S.cell 5 rfl rfl) ?_ | refine ldSlice_i (S.cell 6 rfl rfl) ?_ | refine ldSlice_i (S.cell 7 rfl rfl) ?_ | refine ldSlice_i (S.cellR 0 rfl rfl) ?_ | refine ldSlice_i (S.cellR 1 rfl rfl) ?_ | refine ldSlice_i (S.cellR 2 rfl rfl) ?_)) | ((with_reducible refine ldStr_id ?_); (first | refine ldStr_i (S.cell 0 rfl rfl) ?_ | refine ldStr_i (S.cell 1 rfl rfl) ?_ | refine ldStr_i (S.cell 2 rfl rfl) ?_ | refine ldStr_i (S.cell 3 rfl rfl) ?_ | refine ldStr_i (S.cell 4 rfl rfl) ?_ | refine ldStr_i (S.cell 5 rfl rfl) ?_ | refine ldStr_i (S.cell 6 rfl rfl) ?_ | refine ldStr_i (S.cell 7 rfl rfl) ?_ | refine ldStr_i (S.cellR 0 rfl rfl) ?_ | refine ldStr_i (S.cellR 1 rfl rfl) ?_ | refine ldStr_i (S.cellR 2 rfl rfl) ?_)) | ((with_reducible refine stI_id ?_); (first | refine stI_S S 0 rfl (Nat.le_of_ble_eq_true rfl) (fun _ _ S => ?_) | refine stI_S S 1 rfl (Nat.le_of_ble_eq_true rfl) (fun _ _ S => ?_) | refine stI_S S 2 rfl (Nat.le_of_ble_eq_true rfl) (fun _ _ S => ?_) | refine stI_S S 3 rfl (Nat.le_of_ble_eq_true rfl) (fun _ _ S => ?_) | refine stI_S S 4 rfl (Nat.le_of_ble_eq_true rfl) (fun _ _ S => ?_) | refine stI_S S 5 rfl (Nat.le_of_ble_eq_true rfl) (fun _ _ S => ?_) | refine stI_S S 6 rfl (Nat.le_of_ble_eq_true rfl) (fun _ _ S => ?_) | refine stI_S S 7 rfl (Nat.le_of_ble_eq_true rfl) (fun _ _ S => ?_)); try dsimp only [List.set, List.cons_append, List.nil_append] at S) | ((with_reducible refine and_id ?_); (first | refine and_i (S.cell 0 rfl rfl) ?_ | refine and_i (S.cell 1 rfl rfl) ?_ | refine and_i (S.cell 2 rfl rfl) ?_ | refine and_i (S.cell 3 rfl rfl) ?_ | refine and_i (S.cell 4 rfl rfl) ?_ | refine and_i (S.cell 5 rfl rfl) ?_ | refine and_i (S.cell 6 rfl rfl) ?_ | refine and_i (S.cell 7 rfl rfl) ?_ | refine and_i (S.cellR 0 rfl rfl) ?_ | refine and_i (S.cellR 1 rfl rfl) ?_ | refine and_i (S.cellR 2 rfl rfl) ?_)) | refine arrI_i (by decide) (by decide) ?_))
      rw [wrap64_in (by omega)]
      have e1 : ((cnt % r * w : Nat) : Int) + (i : Int) = ((cnt % r * w + i : Nat) : Int) := by omega
      rw [e1]
      have hlen : (putAt ws (at_ + cnt % r * w) (List.take i f)).length = ws.length := putAt_length (by simp; omega)
      refine (Put_S S 1 2 0 rfl rfl rfl (by decide) (by omega) _ f[i]).mono ?_
      rintro _ g2 ⟨rfl, S⟩
      have e2 : pput (putAt ws (at_ + cnt % r * w) (List.take i f)) err at_ k ((cnt % r * w + i : Nat) : Int) f[i] = (putAt ws (at_ + cnt % r * w) (f.take (i + 1)), err) := by
        unfold pput
        rw [if_pos (by omega), if_pos (hall _ (List.getElem_mem hix)), Int.toNat_natCast, ← Nat.add_assoc, putAt_step (by omega) hix]
      rw [e2] at S
      refine ⟨rfl, ?_⟩
      rw [wrap64_in (by omega)]
      exact ⟨l - (i + 1), by omega, i + 1, rfl, by omega, rfl, S⟩
    · (repeat (first | with_reducible refine nilI_some ?_ | ((with_reducible refine ldInt_id ?_); (first | refine ldInt_i (S.cell 0 rfl rfl) ?_ | refine ldInt_i (S.cell 1 rfl rfl) ?_ | refine ldInt_i (S.cell 2 rfl rfl) ?_ | refine ldInt_i (S.cell 3 rfl rfl) ?_ | refine ldInt_i (S.cell 4 rfl rfl) ?_ | refine ldInt_i (S.cell 5 rfl rfl) ?_ | refine ldInt_i (S.cell 6 rfl rfl) ?_ | refine ldInt_i (S.cell 7 rfl rfl) ?_ | refine ldInt_i (S.cellR 0 rfl rfl) ?_ | refine ldInt_i (S.cellR 1 rfl rfl) ?_ | refine ldInt_i (S.cellR 2 rfl rfl) ?_)) | ((with_reducible refine ldBool_id ?_); (first | refine ldBool_i (S.cell 0 rfl rfl) ?_ | refine ldBool_i (S.cell 1 rfl rfl) ?_ | refine ldBool_i (S.cell 2 rfl rfl) ?_ | refine ldBool_i (S.cell 3 rfl rfl) ?_ | refine ldBool_i (S.cell 4 rfl rfl) ?_ | refine ldBool_i (S.cell 5 rfl rfl) ?_ | refine ldBool_i (S.cell 6 rfl rfl) ?_ | refine ldBool_i (S.cell 7 rfl rfl) ?_ | refine ldBool_i (S.cellR 0 rfl rfl) ?_ | refine ldBool_i (S.cellR 1 rfl rfl) ?_ | refine ldBool_i (S.cellR 2 rfl rfl) ?_)) | ((with_reducible refine ldPtr_id ?_); (first | refine ldPtr_i (S.cell 0 rfl rfl) ?_ | refine ldPtr_i (S.cell 1 rfl rfl) ?_ | refine ldPtr_i (S.cell 2 rfl rfl) ?_ | refine ldPtr_i (S.cell 3 rfl rfl) ?_ | refine ldPtr_i (S.cell 4 rfl rfl) ?_ | refine ldPtr_i (S.cell 5 rfl rfl) ?_ | refine ldPtr_i (S.cell 6 rfl rfl) ?_ | refine ldPtr_i (S.cell 7 rfl rfl) ?_ | refine ldPtr_i (S.cellR 0 rfl rfl) ?_ | refine ldPtr_i (S.cellR 1 rfl rfl) ?_ | refine ldPtr_i (S.cellR 2 rfl rfl) ?_)) | ((with_reducible refine ldSlice_id ?_); (first | refine ldSlice_i (S.cell 0 rfl rfl) ?_ | refine ldSlice_i (S.cell 1 rfl rfl) ?_ | refine ldSlice_i (S.cell 2 rfl rfl) ?_ | refine ldSlice_i (S.cell 3 rfl rfl) ?_ | refine ldSlice_i (S.cell 4 rfl rfl) ?_ | refine ldSlice_i (S.cell 5 rfl rfl) ?_ | refine ldSlice_i (S.cell 6 rfl rfl) ?_ | refine ldSlice_i (S.cell 7 rfl rfl) ?_ | refine ldSlice_i (S.cellR 0 rfl rfl) ?_ | refine ldSlice_i (S.cellR 1 rfl rfl) ?_ | refine ldSlice_i (S.cellR 2 rfl rfl) ?_)) | ((with_reducible refine ldStr_id ?_); (first | refine ldStr_i (S.cell 0 rfl rfl) ?_ | refine ldStr_i (S.cell 1 rfl rfl) ?_ | refine ldStr_i (S.cell 2 rfl rfl) ?_ | refine ldStr_i (S.cell 3 rfl rfl) ?_ | refine ldStr_i (S.cell 4 rfl rfl) ?_ | refine ldStr_i (S.cell 5 rfl rfl) ?_ | refine ldStr_i (S.cell 6 rfl rfl) ?_ | refine ldStr_i (S.cell 7 rfl rfl) ?_ | refine ldStr_i (S.cellR 0 rfl rfl) ?_ | refine ldStr_i (S.cellR 1 rfl rfl) ?_ | refine ldStr_i (S.cellR 2 rfl rfl) ?_)) | ((with_reducible refine stI_id ?_); (first | refine stI_S S 0 rfl (Nat.le_of_ble_eq_true rfl) (fun _ _ S => ?_) | refine stI_S S 1 rfl (Nat.le_of_ble_eq_true rfl) (fun _ _ S => ?_) | refine stI_S S 2 rfl (Nat.le_of_ble_eq_true rfl) (fun _ _ S => ?_) | refine stI_S S 3 rfl (Nat.le_of_ble_eq_true rfl) (fun _ _ S => ?_) | refine stI_S S 4 rfl (Nat.le_of_ble_eq_true rfl) (fun _ _ S => ?_) | refine stI_S S 5 rfl (Nat.le_of_ble_eq_true rfl) (fun _ _ S => ?_) | refine stI_S S 6 rfl (Nat.le_of_ble_eq_true rfl) (fun _ _ S => ?_) | refine stI_S S 7 rfl (Nat.le_of_ble_eq_true rfl) (fun _ _ S => ?_)); try dsimp only [List.set, List.cons_append, List.nil_append] at S) | ((with_reducible refine and_id ?_); (first | refine and_i (S.cell 0 rfl rfl) ?_ | refine and_i (S.cell 1 rfl rfl) ?_ | refine and_i (S.cell 2 rfl rfl) ?_ | refine and_i (S.cell 3 rfl rfl) ?_ | refine and_i (S.cell 4 rfl rfl) ?_ | refine and_i (S.cell 5 rfl rfl) ?_ | refine and_i (S.cell 6 rfl rfl) ?_ | refine and_i (S.cell 7 rfl rfl) ?_ | refine and_i (S.cellR 0 rfl rfl) ?_ | refine and_i (S.cellR 1 rfl rfl) ?_ | refine and_i (S.cellR 2 rfl rfl) ?_)) | refine arrI_i (by decide) (by decide) ?_))
      rw [wrap64_in (by omega), List.take_of_length_le (by omega)] at S
      exact ⟨by trivial, S⟩

theorem LGet_S (S : Sep h0 T h [wds bw ws, ar a bw n err, pt pp a bw at_ k, lo lp pp w r cnt] R)
    (hr : 1 ≤ r) (hw : 1 ≤ w) (hb : r * w ≤ k) (hk : at_ + k ≤ ws.length) (hk2 : k ≤ 4096) (hat : at_ ≤ 4096) (hc : cnt < 2 ^ 63) (t : Int) :
    callP P n_loop_Loop_Get #[.pointer (some ⟨lp, 0, none⟩), .int .i64 t] h fun v h' => ∃ p' l' c', v = .tuple #[.slice p' l' c', .bool (lin r cnt t)] ∧ l' = (lgt ws at_ w r cnt t).length ∧
      Sep h0 T h' [wds bw ws, ar a bw n err, pt pp a bw at_ k, lo lp pp w r cnt, own 1 p' l' c' (ints (lgt ws at_ w r cnt t))] R := by
  refine call_loop_Loop_Get _ _ ?_
  unfold loop_Loop_Get
  have hr2 : r ≤ 4096 := Nat.le_trans (Nat.le_trans (Nat.le_mul_of_pos_right r hw) hb) hk2
  have hm := mod_mul_le (t := t.toNat) (w := w) hr hb
  refine ⟨fun s g => s = (some ⟨lp, 0, none⟩, t, ()) ∧ g = h ∧ lin r cnt t = true, ?_, ?_⟩
  · rintro s g ⟨rfl, rfl, hin⟩
    unfold loop_Loop_Get_j3
    dsimp only
    have hin2 := hin
    unfold lin at hin2
    have hin2 := of_decide_eq_true hin2
    have ht : t = ((t.toNat : Nat) : Int) := by omega
    have e : lgt ws at_ w r cnt t = (ws.drop (at_ + t.toNat % r * w)).take w := by unfold lgt; rw [if_pos hin]
    rw [e, hin]
    (repeat (first | with_reducible refine nilI_some ?_ | ((with_reducible refine ldInt_id ?_); (first | refine ldInt_i (S.cell 0 rfl rfl) ?_ | refine ldInt_i (S.cell 1 rfl rfl) ?_ | refine ldInt_i (S.cell 2 rfl rfl) ?_ | refine ldInt_i (S.cell 3 rfl rfl) ?_ | refine ldInt_i (S.cell 4 rfl rfl) ?_ | refine ldInt_i (S.cell 5 rfl rfl) ?_ | refine ldInt_i (S.cell 6 rfl rfl) ?_ | refine ldInt_i (S.cell 7 rfl rfl) ?_ | refine ldInt_i (S.cellR 0 rfl rfl) ?_ | refine ldInt_i (S.cellR 1 rfl rfl) ?_ | refine ldInt_i (S.cellR 2 rfl rfl) ?_)) | ((with_reducible refine ldBool_id ?_); (first | refine ldBool_i (S.cell 0 rfl rfl) ?_ | refine ldBool_i (S.cell 1 rfl rfl) ?_ | refine ldBool_i (S.cell 2 rfl rfl) ?_ | refine ldBool_i (S.cell 3 rfl rfl) ?_ | refine ldBool_i (S.cell 4 rfl rfl) ?_ | refine ldBool_i (S.cell 5 rfl rfl) ?_ | refine ldBool_i (S.cell 6 rfl rfl) ?_ | refine ldBool_i (S.cell 7 rfl rfl) ?_ | refine ldBool_i (S.cellR 0 rfl rfl) ?_ | refine ldBool_i (S.cellR 1 rfl rfl) ?_ | refine ldBool_i (S.cellR 2 rfl rfl) ?_)) | ((with_reducible refine ldPtr_id ?_); (first | refine ldPtr_i (S.cell 0 rfl rfl) ?_ | refine ldPtr_i (S.cell 1 rfl rfl) ?_ | refine ldPtr_i (S.cell 2 rfl rfl) ?_ | refine ldPtr_i (S.cell 3 rfl rfl) ?_ | refine ldPtr_i (S.cell 4 rfl rfl) ?_ | refine ldPtr_i (S.cell 5 rfl rfl) ?_ | refine ldPtr_i (S.cell 6 rfl rfl) ?_ | refine ldPtr_i (S.cell 7 rfl rfl) ?_ | refine ldPtr_i (S.cellR 0 rfl rfl) ?_ | refine ldPtr_i (S.cellR 1 rfl rfl) ?_ | refine ldPtr_i (S.cellR 2 rfl rfl) ?_)) | ((with_reducible refine ldSlice_id ?_); (first | refine ldSlice_i (S.cell 0 rfl rfl) ?_ | refine ldSlice_i (S.cell 1 rfl rfl) ?_ | refine ldSlice_i (S.cell 2 rfl rfl) ?_ | refine ldSlice_i (S.cell 3 rfl rfl) ?_ | refine ldSlice_i (S.cell 4 rfl rfl) ?_ | refine ldSlice_i (S.cell 5 rfl rfl) ?_ | refine ldSlice_i (S.cell 6 rfl rfl) ?_ | refine ldSlice_i (S.cell 7 rfl rfl) ?_ | refine ldSlice_i (S.cellR 0 rfl rfl) ?_ | refine ldSlice_i (S.cellR 1 rfl rfl) ?_ | refine ldSlice_i (S.cellR 2 rfl rfl) ?_)) | ((with_reducible refine ldStr_id ?_); (first | refine ldStr_i (S.cell 0 rfl rfl) ?_ | refine ldStr_i (S.cell 1 rfl rfl) ?_ | refine ldStr_i (S.cell 2 rfl rfl) ?_ | refine ldStr_i (S.cell 3 rfl rfl) ?_ | refine ldStr_i (S.cell 4 rfl rfl) ?_ | refine ldStr_i (S.cell 5 rfl rfl) ?_ | refine ldStr_i (S.cell 6 rfl rfl) ?_ | refine ldStr_i (S.cell 7 rfl rfl) ?_ | refine ldStr_i (S.cellR 0 rfl rfl) ?_ | refine ldStr_i (S.cellR 1 rfl rfl) ?_ | refine ldStr_i (S.cellR 2 rfl rfl) ?_)) | ((with_reducible refine stI_id ?_); (first | refine stI_S S 0 rfl (Nat.le_of_ble_eq_true rfl) (fun _ _ S => ?_) | refine stI_S S 1 rfl (Nat.le_of_ble_eq_true rfl) (fun _ _ S => ?_) | refine stI_S S 2 rfl (Nat.le_of_ble_eq_true rfl) (fun _ _ S => ?_) | refine stI_S S 3 rfl (Nat.le_of_ble_eq_true rfl) (fun _ _ S => ?_) | refine stI_S S 4 rfl (Nat.le_of_ble_eq_true rfl) (fun _ _ S => ?_) | refine stI_S S 5 rfl (Nat.le_of_ble_eq_true rfl) (fun _ _ S => ?_) | refine stI_S S 6 rfl (Nat.le_of_ble_eq_true rfl) (fun _ _ S => ?_) | refine stI_S S 7 rfl (Nat.le_of_ble_eq_true rfl) (fun _ _ S => ?_)); try dsimp only [List.set, List.cons_append, List.nil_append] at S) | ((with_reducible refine and_id ?_); (first | refine and_i (S.cell 0 rfl rfl) ?_ | refine and_i (S.cell 1 rfl rfl) ?_ | refine and_i (S.cell 2 rfl rfl) ?_ | refine and_i (S.cell 3 rfl rfl) ?_ | refine and_i (S.cell 4 rfl rfl) ?_ | refine and_i (S.cell 5 rfl rfl) ?_ | refine and_i (S.cell 6 rfl rfl) ?_ | refine and_i (S.cell 7 rfl rfl) ?_ | refine and_i (S.cellR 0 rfl rfl) ?_ | refine and_i (S.cellR 1 rfl rfl) ?_ | refine and_i (S.cellR 2 rfl rfl) ?_)) | refine arrI_i (by decide) (by decide) ?_))
    refine mkI_S S w rfl rfl rfl (by decide) (by omega) (by omega) fun b1 h1 _ S => ?_
    rw [repl_one, show List.replicate w (Value.int .i64 0) = ints (List.replicate w 0) by simp [ints]] at S
    simp only [Int.toNat_natCast]
    dsimp only [List.cons_append, List.nil_append] at S
    generalize hg : (ws.drop (at_ + t.toNat % r * w)).take w = fr
    have hfl : fr.length = w := by rw [← hg]; simp; omega
    refine LoopS_i (fun m s g => ∃ i : Nat, s = (some ⟨lp, 0, none⟩, t, (some ⟨b1, 0, none⟩, w, w), (w : Int), (i : Int), ()) ∧ i ≤ w ∧ m = w - i ∧ Sep h0 T g [wds bw ws, ar a bw n err, pt pp a bw at_ k, lo lp pp w r cnt, blk b1 (ints (putAt (List.replicate w 0) 0 (fr.take i)))] R) w ⟨0, rfl, by omega, rfl, by rw [List.take_zero, putAt_nil]; exact S⟩ ?_
    rintro m s g ⟨i, rfl, hi, rfl, S⟩
    unfold loop_Loop_Get_l5
    dsimp only
    refine ifB_dec (fun hlt => ?_) (fun hge => ?_)
    · (repeat (first | with_reducible refine nilI_some ?_ | ((with_reducible refine ldInt_id ?_); (first | refine ldInt_i (S.cell 0 rfl rfl) ?_ | refine ldInt_i (S.cell 1 rfl rfl) ?_ | refine ldInt_i (S.cell 2 rfl rfl) ?_ | refine ldInt_i (S.cell 3 rfl rfl) ?_ | refine ldInt_i (S.cell 4 rfl rfl) ?_ | refine ldInt_i (S.cell 5 rfl rfl) ?_ | refine ldInt_i (S.cell 6 rfl rfl) ?_ | refine ldInt_i (S.cell 7 rfl rfl) ?_ | refine ldInt_i (S.cellR 0 rfl rfl) ?_ | refine ldInt_i (S.cellR 1 rfl rfl) ?_ | refine ldInt_i (S.cellR 2 rfl rfl) ?_)) | ((with_reducible refine ldBool_id ?_); (first | refine ldBool_i (S.cell 0 rfl rfl) ?_ | refine ldBool_i (S.cell 1 rfl rfl) ?_ | refine ldBool_i (S.cell 2 rfl rfl) ?_ | refine ldBool_i (S.cell 3 rfl rfl) ?_ | refine ldBool_i (S.cell 4 rfl rfl) ?_ | refine ldBool_i (S.cell 5 rfl rfl) ?_ | refine ldBool_i (S.cell 6 rfl rfl) ?_ | refine ldBool_i (S.cell 7 rfl rfl) ?_ | refine ldBool_i (S.cellR 0 rfl rfl) ?_ | refine ldBool_i (S.cellR 1 rfl rfl) ?_ | refine ldBool_i (S.cellR 2 rfl rfl) ?_)) | ((with_reducible refine ldPtr_id ?_); (first | refine ldPtr_i (S.cell 0 rfl rfl) ?_ | refine ldPtr_i (S.cell 1 rfl rfl) ?_ | refine ldPtr_i (S.cell 2 rfl rfl) ?_ | refine ldPtr_i (S.cell 3 rfl rfl) ?_ | refine ldPtr_i (S.cell 4 rfl rfl) ?_ | refine ldPtr_i (S.cell 5 rfl rfl) ?_ | refine ldPtr_i (S.cell 6 rfl rfl) ?_ | refine ldPtr_i (S.cell 7 rfl rfl) ?_ | refine ldPtr_i (S.cellR 0 rfl rfl) ?_ | refine ldPtr_i (S.cellR 1 rfl rfl) ?_ | refine ldPtr_i (S.cellR 2 rfl rfl) ?_)) | ((with_reducible refine ldSlice_id ?_); (first | refine ldSlice_i (S.cell 0 rfl rfl) ?_ | refine ldSlice_i (S.cell 1 rfl rfl) ?_ | refine ldSlice_i (S.cell 2 rfl rfl) ?_ | refine ldSlice_i (S.cell 3 rfl rfl) ?_ | refine ldSlice_i (S.cell 4 rfl rfl) ?_ | refine ldSlice_i (S.cell 5 rfl rfl) ?_ | refine ldSlice_i (S.cell 6 rfl rfl) ?_ | refine ldSlice_i (S.cell 7 rfl rfl) ?_ | refine ldSlice_i (S.cellR 0 rfl rfl) ?_ | refine ldSlice_i (S.cellR 1 rfl rfl) ?_ | refine ldSlice_i (S.cellR 2 rfl rfl) ?_)) | ((with_reducible refine ldStr_id ?_); (first | refine ldStr_i (S.cell 0 rfl rfl) ?_ | refine ldStr_i (S.cell 1 rfl rfl) ?_ | refine ldStr_i (S.cell 2 rfl rfl) ?_ | refine ldStr_i (S.cell 3 rfl rfl) ?_ | refine ldStr_i (S.cell 4 rfl rfl) ?_ | refine ldStr_i (S.cell 5 rfl rfl) ?_ | refine ldStr_i (S.cell 6 rfl rfl) ?_ | refine ldStr_i (S.cell 7 rfl rfl) ?_ | refine ldStr_i (S.cellR 0 rfl rfl) ?_ | refine ldStr_i (S.cellR 1 rfl rfl) ?_ | refine ldStr_i (S.cellR 2 rfl rfl) ?_)) | ((with_reducible refine stI_id ?_); (first | refine stI_S S 0 rfl (Nat.le_of_ble_eq_true rfl) (fun _ _ S => ?_) | refine stI_S S 1 rfl (Nat.le_of_ble_eq_true rfl) (fun _ _ S => ?_) | refine stI_S S 2 rfl (Nat.le_of_ble_eq_true rfl) (fun _ _ S => ?_) | refine stI_S S 3 rfl (Nat.le_of_ble_eq_true rfl) (fun _ _ S => ?_) | refine stI_S S 4 rfl (Nat.le_of_ble_eq_true rfl) (fun _ _ S => ?_) | refine stI_S S 5 rfl (Nat.le_of_ble_eq_true rfl) (fun _ _ S => ?_) | refine stI_S S 6 rfl (Nat.le_of_ble_eq_true rfl) (fun _ _ S => ?_) | refine stI_S S 7 rfl (Nat.le_of_ble_eq_true rfl) (fun _ _ S => ?_)); try dsimp only [List.set, List.cons_append, List.nil_append] at S) | ((with_reducible refine and_id ?_); (first | refine and_i (S.cell 0 rfl rfl) ?_ | refine and_i (S.cell 1 rfl rfl) ?_ | refine and_i (S.cell 2 rfl rfl) ?_ | refine and_i (S.cell 3 rfl rfl) ?_ | refine and_i (S.cell 4 rfl rfl) ?_ | refine and_i (S.cell 5 rfl rfl) ?_ | refine and_i (S.cell 6 rfl rfl) ?_ | refine and_i (S.cell 7 rfl rfl) ?_ | refine and_i (S.cellR 0 rfl rfl) ?_ | refine and_i (S.cellR 1 rfl rfl) ?_ | refine and_i (S.cellR 2 rfl rfl) ?_)) | refine arrI_i (by decide) (by decide) ?_))
      rw [ht]
      refine (Lat_ok S 3 rfl t.toNat hr (by omega)).mono ?_
      rintro _ _ ⟨rfl, rfl⟩
      refine ⟨_, rfl, ?_⟩
      (repeat (first | with_reducible refine nilI_some ?_ | ((with_reducible refine ldInt_id ?_); (first | refine ldInt_i (S.cell 0 rfl rfl) ?_ | refine ldInt_i (S.cell 1 rfl rfl) ?_ | refine ldInt_i (S.cell 2 rfl rfl) ?_ | refine ldInt_i (S.cell 3 rfl rfl) ?_ | refine ldInt_i (S.cell 4 rfl rfl) ?_ | refine ldInt_i (S.cell 5 rfl rfl) ?_ | refine ldInt_i (S.cell 6 rfl rfl) ?_ | refine ldInt_i (S.cell 7 rfl rfl) ?_ | refine ldInt_i (S.cellR 0 rfl rfl) ?_ | refine ldInt_i (S.cellR 1 rfl rfl) ?_ | refine ldInt_i (S.cellR 2 rfl rfl) ?_)) | ((with_reducible refine ldBool_id ?_); (first | refine ldBool_i (S.cell 0 rfl rfl) ?_ | refine ldBool_i (S.cell 1 rfl rfl) ?_ | refine ldBool_i (S.cell 2 rfl rfl) ?_ | refine ldBool_i (S.cell 3 rfl rfl) ?_ | refine ldBool_i (S.cell 4 rfl rfl) ?_ | refine ldBool_i (S.cell 5 rfl rfl) ?_ | refine ldBool_i (S.cell 6 rfl rfl) ?_ | refine ldBool_i (S.cell 7 rfl rfl) ?_ | refine ldBool_i (S.cellR 0 rfl rfl) ?_ | refine ldBool_i (S.cellR 1 rfl rfl) ?_ | refine ldBool_i (S.cellR 2 rfl rfl) ?_)) | ((with_reducible refine ldPtr_id ?_); (first | refine ldPtr_i (S.cell 0 rfl rfl) ?_ | refine ldPtr_i (S.cell 1 rfl rfl) ?_ | refine ldPtr_i (S.cell 2 rfl rfl) ?_ | refine ldPtr_i (S.cell 3 rfl rfl) ?_ | refine ldPtr_i (S.cell 4 rfl rfl) ?_ | refine ldPtr_i (S.cell 5 rfl rfl) ?_ | refine ldPtr_i (S.cell 6 rfl rfl) ?_ | refine ldPtr_i (S.cell 7 rfl rfl) ?_ | refine ldPtr_i (S.cellR 0 rfl rfl) ?_ | refine ldPtr_i (S.cellR 1 rfl rfl) ?_ | refine ldPtr_i (S.cellR 2 rfl rfl) ?_)) | ((with_reducible refine ldSlice_id ?_); (first | refine ldSlice_i (S.cell 0 rfl rfl) ?_ | refine ldSlice_i (S.cell 1 rfl rfl) ?_ | refine ldSlice_i (S.cell 2 rfl rfl) ?_ | refine ldSlice_i (S.cell 3 rfl rfl) ?_ | refine ldSlice_i (S.cell 4 rfl rfl) ?_ | refine ldSlice_i (S.cell 5 rfl rfl) ?_ | refine ldSlice_i (S.cell 6 rfl rfl) ?_ | refine ldSlice_i (S.cell 7 rfl rfl) ?_ | refine ldSlice_i (S.cellR 0 rfl rfl) ?_ | refine ldSlice_i (S.cellR 1 rfl rfl) ?_ | refine ldSlice_i (S.cellR 2 rfl rfl) ?_)) | ((with_reducible refine ldStr_id ?_); (first | refine ldStr_i (S.cell 0 rfl rfl) ?_ | refine ldStr_i (S.cell 1 rfl rfl) ?_ | refine ldStr_i (S.cell 2 rfl rfl) ?_ | refine ldStr_i (S.cell 3 rfl rfl) ?_ | refine ldStr_i (S.cell 4 rfl rfl) ?_ | refine ldStr_i (S.cell 5 rfl rfl) ?_ | refine ldStr_i (S.cell 6 rfl rfl) ?_ | refine ldStr_i (S.cell 7 rfl rfl) ?_ | refine ldStr_i (S.cellR 0 rfl rfl) ?_ | refine ldStr_i (S.cellR 1 rfl rfl) ?_ | refine ldStr_i (S.cellR 2 rfl rfl) ?_)) | ((with_reducible refine stI_id ?_); (first | refine stI_S S 0 rfl (Nat.le_of_ble_eq_true rfl) (fun _ _ S => ?_) | refine stI_S S 1 rfl (Nat.le_of_ble_eq_true rfl) (fun _ _ S => ?_) | refine stI_S S 2 rfl (Nat.le_of_ble_eq_true rfl) (fun _ _ S => ?_) | refine stI_S S 3 rfl (Nat.le_of_ble_eq_true rfl) (fun _ _ S => ?_) | refine stI_S S 4 rfl (Nat.le_of_ble_eq_true rfl) (fun _ _ S => ?_) | refine stI_S S 5 rfl (Nat.le_of_ble_eq_true rfl) (fun _ _ S => ?_) | refine stI_S S 6 rfl (Nat.le_of_ble_eq_true rfl) (fun _ _ S => ?_) | refine stI_S S 7 rfl (Nat.le_of_ble_eq_true rfl) (fun _ _ S => ?_)); try dsimp only [List.set, List.cons_append, List.nil_append] at S) | ((with_reducible refine and_id ?_); (first | refine and_i (S.cell 0 rfl rfl) ?_ | refine and_i (S.cell 1 rfl rfl) ?_ | refine and_i (S.cell 2 rfl rfl) ?_ | refine and_i (S.cell 3 rfl rfl) ?_ | refine and_i (S.cell 4 rfl rfl) ?_ | refine and_i (S.cell 5 rfl rfl) ?_ | refine and_i (S.cell 6 rfl rfl) ?_ | refine and_i (S.cell 7 rfl rfl) ?_ | refine and_i (S.cellR 0 rfl rfl) ?_ | refine and_i (S.cellR 1 rfl rfl) ?_ | refine and_i (S.cellR 2 rfl rfl) ?_)) | refine arrI_i (by decide) (by decide) ?_))
      rw [wrap64_in (by omega)]
      have e1 : ((t.toNat % r * w : Nat) : Int) + (i : Int) = ((t.toNat % r * w + i : Nat) : Int) := by omega
      rw [e1]
      refine (Get_S S 1 2 0 rfl rfl rfl (by omega) _).mono ?_
      rintro _ g2 ⟨rfl, S⟩
      have hif : i < fr.length := by omega
      have e2 : pget ws err at_ k ((t.toNat % r * w + i : Nat) : Int) = (fr[i], err) := by
        unfold pget
        rw [if_pos (by omega), Int.toNat_natCast, ← Nat.add_assoc, List.getD_eq_getElem?_getD]
        have : fr[i]? = ws[at_ + t.toNat % r * w + i]? := by rw [← hg, List.getElem?_take, if_pos (by omega), List.getElem?_drop]
        rw [← this, List.getElem?_eq_getElem hif]; rfl
      rw [e2] at S ⊢
      refine ⟨_, rfl, ?_⟩
      dsimp only [List.set] at S
      refine idxI_i rfl rfl (by omega) ?_
      simp only [Int.toNat_natCast, Nat.mul_one, add_mk, Nat.zero_add]
      have hlen : (putAt (List.replicate w 0) 0 (List.take i fr)).length = w := by rw [putAt_length (by simp; omega)]; simp
      refine stI_S S 4 rfl (by rw [ints_length]; omega) fun h' _ S => ?_
      rw [wrap64_in (by omega)]
      refine ⟨w - (i + 1), by omega, i + 1, by rw [← ht]; rfl, by omega, rfl, ?_⟩
      have e3 : (ints (putAt (List.replicate w 0) 0 (List.take i fr))).set i (.int .i64 fr[i]) = ints (putAt (List.replicate w 0) 0 (fr.take (i + 1))) := by
        rw [← putAt_step (ws := List.replicate w 0) (o := 0) (by simp; omega) hif, Nat.zero_add]
        simp [ints, List.map_set]
      rw [e3] at S
      exact S
    · have e4 : putAt (List.replicate w 0) 0 (fr.take i) = fr := by
        rw [List.take_of_length_le (by omega)]
        unfold putAt
        rw [List.take_zero, List.nil_append, List.drop_of_length_le (by simp; omega), List.append_nil]
      rw [e4] at S
      refine ⟨_, _, _, rfl, hfl.symm, ?_⟩
      have S2 := S.toOwn 4 1 w w (by rw [ints_length, Nat.mul_one]; exact hfl) (Nat.le_refl _)
      rw [List.take_of_length_le (by rw [ints_length]; omega)] at S2
      exact S2
  · have bad : ¬ (((cnt - r : Nat) : Int) ≤ t ∧ t < cnt) → ∃ p' l' c', Value.tuple #[.slice none 0 0, .bool false] = .tuple #[.slice p' l' c', .bool (lin r cnt t)] ∧ l' = (lgt ws at_ w r cnt t).length ∧
      Sep h0 T h [wds bw ws, ar a bw n err, pt pp a bw at_ k, lo lp pp w r cnt, own 1 p' l' c' (ints (lgt ws at_ w r cnt t))] R := fun hn => by
      have e : lin r cnt t = false := decide_eq_false hn
      have e2 : lgt ws at_ w r cnt t = [] := by unfold lgt; rw [e]; rfl
      rw [e, e2]
      exact ⟨none, 0, 0, rfl, rfl, S.nil 1⟩
    refine ifB_false rfl ?_
    refine (LOldest_ok S 3 rfl hc hr2).mono ?_
    rintro _ _ ⟨rfl, rfl⟩
    refine ⟨_, rfl, ?_⟩
    refine ifB_dec (fun h1 => bad (by omega)) fun h1 => ?_
    (repeat (first | with_reducible refine nilI_some ?_ | ((with_reducible refine ldInt_id ?_); (first | refine ldInt_i (S.cell 0 rfl rfl) ?_ | refine ldInt_i (S.cell 1 rfl rfl) ?_ | refine ldInt_i (S.cell 2 rfl rfl) ?_ | refine ldInt_i (S.cell 3 rfl rfl) ?_ | refine ldInt_i (S.cell 4 rfl rfl) ?_ | refine ldInt_i (S.cell 5 rfl rfl) ?_ | refine ldInt_i (S.cell 6 rfl rfl) ?_ | refine ldInt_i (S.cell 7 rfl rfl) ?_ | refine ldInt_i (S.cellR 0 rfl rfl) ?_ | refine ldInt_i (S.cellR 1 rfl rfl) ?_ | refine ldInt_i (S.cellR 2 rfl rfl) ?_)) | ((with_reducible refine ldBool_id ?_); (first | refine ldBool_i (S.cell 0 rfl rfl) ?_ | refine ldBool_i (S.cell 1 rfl rfl) ?_ | refine ldBool_i (S.cell 2 rfl rfl) ?_ | refine ldBool_i (S.cell 3 rfl rfl) ?_ | refine ldBool_i (S.cell 4 rfl rfl) ?_ | refine ldBool_i (S.cell 5 rfl rfl) ?_ | refine ldBool_i (S.cell 6 rfl rfl) ?_ | refine ldBool_i (S.cell 7 rfl rfl) ?_ | refine ldBool_i (S.cellR 0 rfl rfl) ?_ | refine ldBool_i (S.cellR 1 rfl rfl) ?_ | refine ldBool_i (S.cellR 2 rfl rfl) ?_)) | ((with_reducible refine ldPtr_id ?_); (first | refine ldPtr_i (S.cell 0 rfl rfl) ?_ | refine ldPtr_i (S.cell 1 rfl rfl) ?_ | refine ldPtr_i (S.cell 2 rfl rfl) ?_ | refine ldPtr_i (S.cell 3 rfl rfl) ?_ | refine ldPtr_i (S.cell 4 rfl rfl) ?_ | refine ldPtr_i (S.cell 5 rfl rfl) ?_ | refine ldPtr_i (S.cell 6 rfl rfl) ?_ | refine ldPtr_i (S.cell 7 rfl rfl) ?_ | refine ldPtr_i (S.cellR 0 rfl rfl) ?_ | refine ldPtr_i (S.cellR 1 rfl rfl) ?_ | refine ldPtr_i (S.cellR 2 rfl rfl) ?_)) | ((with_reducible refine ldSlice_id ?_); (first | refine ldSlice_i (S.cell 0 rfl rfl) ?_ | refine ldSlice_i (S.cell 1 rfl rfl) ?_ | refine ldSlice_i (S.cell 2 rfl rfl) ?_ | refine ldSlice_i (S.cell 3 rfl rfl) ?_ | refine ldSlice_i (S.cell 4 rfl rfl) ?_ | refine ldSlice_i (S.cell 5 rfl rfl) ?_ | refine ldSlice_i (S.cell 6 rfl rfl) ?_ | refine ldSlice_i (S.cell 7 rfl rfl) ?_ | refine ldSlice_i (S.cellR 0 rfl rfl) ?_ | refine ldSlice_i (S.cellR 1 rfl rfl) ?_ | refine ldSlice_i (S.cellR 2 rfl rfl) ?_)) | ((with_reducible refine ldStr_id ?_); (first | refine ldStr_i (S.cell 0 rfl rfl) ?_ | refine ldStr_i (S.cell 1 rfl rfl) ?_ | refine ldStr_i (S.cell 2 rfl rfl) ?_ | refine ldStr_i (S.cell 3 rfl rfl) ?_ | refine ldStr_i (S.cell 4 rfl rfl) ?_ | refine ldStr_i (S.cell 5 rfl rfl) ?_ | refine ldStr_i (S.cell 6 rfl rfl) ?_ | refine ldStr_i (S.cell 7 rfl rfl) ?_ | refine ldStr_i (S.cellR 0 rfl rfl) ?_ | refine ldStr_i (S.cellR 1 rfl rfl) ?_ | refine ldStr_i (S.cellR 2 rfl rfl) ?_)) | ((with_reducible refine stI_id ?_); (first | refine stI_S S 0 rfl (Nat.le_of_ble_eq_true rfl) (fun _ _ S => ?_) | refine stI_S S 1 rfl (Nat.le_of_ble_eq_true rfl) (fun _ _ S => ?_) | refine stI_S S 2 rfl (Nat.le_of_ble_eq_true rfl) (fun _ _ S => ?_) | refine stI_S S 3 rfl (Nat.le_of_ble_eq_true rfl) (fun _ _ S => ?_) | refine stI_S S 4 rfl (Nat.le_of_ble_eq_true rfl) (fun _ _ S => ?_) | refine stI_S S 5 rfl (Nat.le_of_ble_eq_true rfl) (fun _ _ S => ?_) | refine stI_S S 6 rfl (Nat.le_of_ble_eq_true rfl) (fun _ _ S => ?_) | refine stI_S S 7 rfl (Nat.le_of_ble_eq_true rfl) (fun _ _ S => ?_)); try dsimp only [List.set, List.cons_append, List.nil_append] at S) | ((with_reducible refine and_id ?_); (first | refine and_i (S.cell 0 rfl rfl) ?_ | refine and_i (S.cell 1 rfl rfl) ?_ | refine and_i (S.cell 2 rfl rfl) ?_ | refine and_i (S.cell 3 rfl rfl) ?_ | refine and_i (S.cell 4 rfl rfl) ?_ | refine and_i (S.cell 5 rfl rfl) ?_ | refine and_i (S.cell 6 rfl rfl) ?_ | refine and_i (S.cell 7 rfl rfl) ?_ | refine and_i (S.cellR 0 rfl rfl) ?_ | refine and_i (S.cellR 1 rfl rfl) ?_ | refine and_i (S.cellR 2 rfl rfl) ?_)) | refine arrI_i (by decide) (by decide) ?_))
    exact ifB_dec (fun h2 => bad (by omega)) fun h2 => ⟨rfl, rfl, decide_eq_true (by omega)⟩

/-! the document's -/
variable {b l c : Nat} {p : Option Addr}

theorem RLNew_S (n w : Nat) (hw : 1 ≤ w) (hn : w ≤ n) (hn2 : n ≤ 4096) : callP P n_ref08_New #[.int .i64 n, .int .i64 w] h fun v h' => ∃ b q, v = .pointer (some ⟨b, 0, none⟩) ∧ Sep h no h' [rl b q n n w (n / w) 0, own 1 q n n (ints (List.replicate n 0))] [] := by
  refine call_ref08_New _ _ ?_
  unfold ref08_New
  have S := Sep.start h no
  have e : IntKind.wrap .i64 (Int.tdiv (n : Int) (w : Int)) = ((n / w : Nat) : Int) := by
    rw [Int.tdiv_eq_ediv_of_nonneg (by omega)]
    have h2 : n / w ≤ n := Nat.div_le_self _ _
    rw [← Int.natCast_ediv]
    generalize n / w = z at h2
    exact wrap64_in (by omega)
  have h3 : 0 < n / w := Nat.div_pos hn (by omega)
  rw [e]
  refine ifB_false (decide_eq_false (by omega)) (ifB_false (decide_eq_false (by omega)) ⟨by omega, ifB_false (by simp only [beq_eq_false_iff_ne, ne_eq]; omega) ⟨by omega, ?_⟩⟩)
  refine mkI_S S n rfl rfl rfl (by decide) (by omega) (by omega) fun b1 h1 _ S => ?_
  rw [repl_one] at S
  refine newI_S S (fun b3 _ _ S => ?_)
  rw [Int.toNat_natCast] at S
  refine ⟨b3, some ⟨b1, 0, none⟩, rfl, ?_⟩
  have e : ints (List.replicate n 0) = List.replicate n (.int .i64 0) := by simp [ints]
  rw [e]
  have S2 := S.toOwn (cs := List.replicate n (.int .i64 0)) 0 1 n n (by simp) (Nat.le_refl _)
  rw [List.take_of_length_le (by simp)] at S2
  exact S2.pw [1, 0]

theorem RLNew_not (n : Nat) (x : Int) (hx : x < 1 ∨ (n : Int) < x) (hn : n ≤ 4096) : callP P n_ref08_New #[.int .i64 n, .int .i64 x] h fun v h' => v = .pointer none ∧ h' = h := by
  refine call_ref08_New _ _ ?_
  unfold ref08_New
  refine ifB_false (decide_eq_false (by omega)) (ifB_dec (fun _ => ⟨rfl, rfl⟩) fun h1 => ⟨by omega, ifB_true ?_ ⟨rfl, rfl⟩⟩)
  rw [Int.tdiv_eq_ediv_of_nonneg (by omega), Int.ediv_eq_zero_of_lt (by omega) (by omega)]; rfl

theorem RLOldest_ok (S : Sep h0 T h W R) (ib : Nat) (eb : W[ib]? = some (rl b p l c w r cnt)) (hc : cnt < 2 ^ 63) (hr : r ≤ 4096) : callP P n_ref08_Loop_Oldest #[.pointer (some ⟨b, 0, none⟩)] h fun v h' => v = .int .i64 ((cnt - r : Nat) : Int) ∧ h' = h := by
  refine call_ref08_Loop_Oldest _ ?_
  unfold ref08_Loop_Oldest
  refine nilI_some (nilI_some (ldInt_i (S.cell ib eb rfl) (ldInt_i (S.cell ib eb rfl) (ifB_dec (fun h1 => nilI_some (nilI_some (ldInt_i (S.cell ib eb rfl) (ldInt_i (S.cell ib eb rfl) ⟨?_, rfl⟩)))) fun h1 => ⟨?_, rfl⟩))))
  · rw [wrap64_in (by omega)]; congr 1; omega
  · congr 1; omega

theorem RLSeek_S (S : Sep h0 T h W R) (il : Nat) (el : W[il]? = some (rl b p l c w r cnt)) (x : Int) : callP P n_ref08_Loop_Seek #[.pointer (some ⟨b, 0, none⟩), .int .i64 x] h fun v h' => v = .bool (!decide (x < 0)) ∧ Sep h0 T h' (W.set il (rl b p l c w r (if x < 0 then cnt else x.toNat))) R := by
  refine call_ref08_Loop_Seek _ _ ?_
  unfold ref08_Loop_Seek
  refine ifB_dec (fun h1 => ⟨by rw [decide_eq_true h1]; rfl, ?_⟩) fun h1 => nilI_some ?_
  · rw [if_pos h1]; exact same_fact S il el
  · refine stI_S S il el (Nat.le_of_ble_eq_true rfl) fun h' _ S => ⟨by rw [decide_eq_false h1]; rfl, ?_⟩
    rw [if_neg h1]
    have : (x : Int) = ((x.toNat : Nat) : Int) := by omega
    rw [this] at S
    exact S

theorem RLPush_S (S : Sep h0 T h [rl b p l c w r cnt, own 1 p l c (ints ws)] R) (ix : Nat) {q : Option Addr} {lf d : Nat} {f : List Int} (ex : R[ix]? = some (row q (ints f))) (hl : f.length = lf) (hl2 : lf < 2 ^ 62)
    (hr : 1 ≤ r) (hb : r * w ≤ ws.length) (hk2 : ws.length ≤ 4096) (hc : cnt < 2 ^ 62 + 2 ^ 61) :
    callP P n_ref08_Loop_Push #[.pointer (some ⟨b, 0, none⟩), .slice q lf d] h fun v h' => v = .int .i64 (lps ws 0 w r cnt f).1 ∧
      Sep h0 T h' [rl b p l c w r (lps ws 0 w r cnt f).2.2, own 1 p l c (ints (lps ws 0 w r cnt f).2.1)] R := by
  refine call_ref08_Loop_Push _ _ _ _ ?_
  unfold ref08_Loop_Push
  refine nilI_some (ldInt_i (S.cell 0 rfl rfl) ?_)
  refine ifB_i (fun hne => ?_) (fun he => ?_)
  · have e : lps ws 0 w r cnt f = (14, ws, cnt) := by unfold lps; rw [if_pos (by simp at hne; omega)]
    rw [e]; exact ⟨rfl, S⟩
  have hlw : lf = w := by simp at he; omega
  have hx := S.row ix ex
  have hwl : ws.length = l := by have := (S.own 1 rfl).1; rw [ints_length] at this; omega
  refine LoopS_i (fun m s g => g = h ∧ ∃ i : Nat, s = (some ⟨b, 0, none⟩, (q, lf, d), (i : Int), ()) ∧ i ≤ lf ∧ m = lf - i ∧ ∀ j x, j < i → f[j]? = some x → isW x) lf ⟨rfl, 0, rfl, by omega, rfl, by intro j x hj; omega⟩ ?_
  rintro m s g ⟨rfl, i, rfl, hi, rfl, hw⟩
  unfold ref08_Loop_Push_l4
  dsimp only
  refine ifB_dec (fun hlt => ?_) (fun hge => ?_)
  · have hix : i < f.length := by omega
    obtain ⟨aa, rfl⟩ := hx.some_of (by rw [ints_length]; omega)
    refine idxI_i rfl rfl (by omega) ?_
    simp only [Int.toNat_natCast, Nat.mul_one]
    refine ldInt_i (hx.cell (ints_get (List.getElem?_eq_getElem hix))) ?_
    refine (Word_ok f[i]).mono ?_
    rintro _ _ ⟨rfl, rfl⟩
    refine ⟨_, rfl, ?_⟩
    refine ifB_i (fun hb' => ?_) (fun hb' => ?_)
    · have hn : ¬ isW f[i] := by simpa using hb'
      have e : lps ws 0 w r cnt f = (16, ws, cnt) := by unfold lps; rw [if_neg (by omega), if_pos (fun h => hn (h _ (List.getElem_mem hix)))]
      rw [e]; exact ⟨by trivial, S⟩
    · have hn : isW f[i] := by simpa using hb'
      rw [wrap64_in (by omega)]
      refine ⟨lf - (i + 1), by omega, by trivial, i + 1, rfl, by omega, rfl, fun j x hj hx => ?_⟩
      by_cases hji : j = i
      · subst hji; rw [List.getElem?_eq_getElem hix] at hx; cases hx; exact hn
      · exact hw j x (by omega) hx
  · have hall : allW f := fun x hx => by
      obtain ⟨j, hj⟩ := List.getElem?_of_mem hx
      exact hw j x (by have := (List.getElem?_eq_some_iff.1 hj).1; omega) hj
    have e : lps ws 0 w r cnt f = (0, putAt ws (0 + cnt % r * w) f, cnt + 1) := by unfold lps; rw [if_neg (by omega), if_neg (by simpa using hall)]
    rw [e, Nat.zero_add]
    have hm := mod_mul_le (t := cnt) (w := w) hr hb
    refine LoopS_i (fun m s g => ∃ i : Nat, s = (some ⟨b, 0, none⟩, (q, lf, d), (i : Int), ()) ∧ i ≤ lf ∧ m = lf - i ∧ Sep h0 T g [rl b p l c w r cnt, own 1 p l c (ints (putAt ws (cnt % r * w) (f.take i)))] R) lf ⟨0, rfl, by omega, rfl, by rw [List.take_zero, putAt_nil]; exact S⟩ ?_
    rintro m s g ⟨i, rfl, hi, rfl, S⟩
    unfold ref08_Loop_Push_l10
    dsimp only
    have hx := S.row ix ex
    refine ifB_dec (fun hlt => ?_) (fun hge => ?_)
    · have hix : i < f.length := by omega
      have hlen : (putAt ws (cnt % r * w) (List.take i f)).length = ws.length := putAt_length (by simp; omega)
      obtain ⟨aa, rfl⟩ := hx.some_of (by rw [ints_length]; omega)
      obtain ⟨aw, rfl⟩ := (S.own 1 rfl).row.some_of (by rw [ints_length]; omega)
      refine nilI_some (nilI_some (nilI_some (nilI_some (idxI_i rfl rfl (by omega) (ldSlice_i (S.cell 0 rfl rfl) (ldInt_i (S.cell 0 rfl rfl) (ldInt_i (S.cell 0 rfl rfl) ⟨by omega, ldInt_i (S.cell 0 rfl rfl) ?_⟩)))))))
      simp only [Int.toNat_natCast, Nat.mul_one]
      refine ldInt_i (hx.cell (ints_get (List.getElem?_eq_getElem hix))) ?_
      rw [Int.tmod_eq_emod_of_nonneg (by omega)]
      have e0 : ((cnt : Int) % (r : Int)) * (w : Int) = ((cnt % r * w : Nat) : Int) := by simp
      rw [e0, wrap64_in (n := ((cnt % r * w : Nat) : Int)) (by omega), wrap64_in (by omega)]
      have e1 : ((cnt % r * w : Nat) : Int) + (i : Int) = ((cnt % r * w + i : Nat) : Int) := by omega
      rw [e1]
      refine idxI_i rfl rfl (by omega) ?_
      simp only [Int.toNat_natCast]
      refine stO_S S 1 rfl (by rw [ints_length]; omega) fun h' _ S => ?_
      rw [wrap64_in (by omega)]
      have e2 : (ints (putAt ws (cnt % r * w) (List.take i f))).set (cnt % r * w + i) (.int .i64 f[i]) = ints (putAt ws (cnt % r * w) (f.take (i + 1))) := by
        rw [← putAt_step (by omega) hix]; simp [ints, List.map_set]
      rw [e2] at S
      exact ⟨lf - (i + 1), by omega, i + 1, rfl, by omega, rfl, S⟩
    · (repeat (first | with_reducible refine nilI_some ?_ | ((with_reducible refine ldInt_id ?_); (first | refine ldInt_i (S.cell 0 rfl rfl) ?_ | refine ldInt_i (S.cell 1 rfl rfl) ?_ | refine ldInt_i (S.cell 2 rfl rfl) ?_ | refine ldInt_i (S.cell 3 rfl rfl) ?_ | refine ldInt_i (S.cell 4 rfl rfl) ?_ | refine ldInt_i (S.cell 5 rfl rfl) ?_ | refine ldInt_i (S.cell 6 rfl rfl) ?_ | refine ldInt_i (S.cell 7 rfl rfl) ?_ | refine ldInt_i (S.cellR 0 rfl rfl) ?_ | refine ldInt_i (S.cellR 1 rfl rfl) ?_ | refine ldInt_i (S.cellR 2 rfl rfl) ?_)) | ((with_reducible refine ldBool_id ?_); (first | refine ldBool_i (S.cell 0 rfl rfl) ?_ | refine ldBool_i (S.cell 1 rfl rfl) ?_ | refine ldBool_i (S.cell 2 rfl rfl) ?_ | refine ldBool_i (S.cell 3 rfl rfl) ?_ | refine ldBool_i (S.cell 4 rfl rfl) ?_ | refine ldBool_i (S.cell 5 rfl rfl) ?_ | refine ldBool_i (S.cell 6 rfl rfl) ?_ | refine ldBool_i (S.cell 7 rfl rfl) ?_ | refine ldBool_i (S.cellR 0 rfl rfl) ?_ | refine ldBool_i (S.cellR 1 rfl rfl) ?_ | refine ldBool_i (S.cellR 2 rfl rfl) ?_)) | ((with_reducible refine ldPtr_id ?_); (first | refine ldPtr_i (S.cell 0 rfl rfl) ?_ | refine ldPtr_i (S.cell 1 rfl rfl) ?_ | refine ldPtr_i (S.cell 2 rfl rfl) ?_ | refine ldPtr_i (S.cell 3 rfl rfl) ?_ | refine ldPtr_i (S.cell 4 rfl rfl) ?_ | refine ldPtr_i (S.cell 5 rfl rfl) ?_ | refine ldPtr_i (S.cell 6 rfl rfl) ?_ | refine ldPtr_i (S.cell 7 rfl rfl) ?_ | refine ldPtr_i (S.cellR 0 rfl rfl) ?_ | refine ldPtr_i (S.cellR 1 rfl rfl) ?_ | refine ldPtr_i (S.cellR 2 rfl rfl) ?_)) | ((with_reducible refine ldSlice_id ?_); (first | refine ldSlice_i (S.cell 0 rfl rfl) ?_ | refine ldSlice_i (S.cell 1 rfl rfl) ?_ | refine ldSlice_i (S.cell 2 rfl rfl) ?_ | refine ldSlice_i (S.cell 3 rfl rfl) ?_ | refine ldSlice_i (S.cell 4 rfl rfl) ?_ | refine ldSlice_i (S.cell 5 rfl rfl) ?_ | refine ldSlice_i (S.cell 6 rfl rfl) ?_ | refine ldSlice_i (S.cell 7 rfl rfl) ?_ | refine ldSlice_i (S.cellR 0 rfl rfl) ?_ | refine ldSlice_i (S.cellR 1 rfl rfl) ?_ | refine ldSlice_i (S.cellR 2 rfl rfl) ?_)) | ((with_reducible refine ldStr_id ?_); (first | refine ldStr_i (S.cell 0 rfl rfl) ?_ | refine ldStr_i (S.cell 1 rfl rfl) ?_ | refine ldStr_i (S.cell 2 rfl rfl) ?_ | refine ldStr_i (S.cell 3 rfl rfl) ?_ | refine ldStr_i (S.cell 4 rfl rfl) ?_ | refine ldStr_i (S.cell 5 rfl rfl) ?_ | refine ldStr_i (S.cell 6 rfl rfl) ?_ | refine ldStr_i (S.cell 7 rfl rfl) ?_ | refine ldStr_i (S.cellR 0 rfl rfl) ?_ | refine ldStr_i (S.cellR 1 rfl rfl) ?_ | refine ldStr_i (S.cellR 2 rfl rfl) ?_)) | ((with_reducible refine stI_id ?_); (first | refine stI_S S 0 rfl (Nat.le_of_ble_eq_true rfl) (fun _ _ S => ?_) | refine stI_S S 1 rfl (Nat.le_of_ble_eq_true rfl) (fun _ _ S => ?_) | refine stI_S S 2 rfl (Nat.le_of_ble_eq_true rfl) (fun _ _ S => ?_) | refine stI_S S 3 rfl (Nat.le_of_ble_eq_true rfl) (fun _ _ S => ?_) | refine stI_S S 4 rfl (Nat.le_of_ble_eq_true rfl) (fun _ _ S => ?_) | refine stI_S S 5 rfl (Nat.le_of_ble_eq_true rfl) (fun _ _ S => ?_) | refine stI_S S 6 rfl (Nat.le_of_ble_eq_true rfl) (fun _ _ S => ?_) | refine stI_S S 7 rfl (Nat.le_of_ble_eq_true rfl) (fun _ _ S => ?_)); try dsimp only [List.set, List.cons_append, List.nil_append] at S) | ((with_reducible refine and_id ?_); (first | refine and_i (S.cell 0 rfl rfl) ?_ | refine and_i (S.cell 1 rfl rfl) ?_ | refine and_i (S.cell 2 rfl rfl) ?_ | refine and_i (S.cell 3 rfl rfl) ?_ | refine and_i (S.cell 4 rfl rfl) ?_ | refine and_i (S.cell 5 rfl rfl) ?_ | refine and_i (S.cell 6 rfl rfl) ?_ | refine and_i (S.cell 7 rfl rfl) ?_ | refine and_i (S.cellR 0 rfl rfl) ?_ | refine and_i (S.cellR 1 rfl rfl) ?_ | refine and_i (S.cellR 2 rfl rfl) ?_)) | refine arrI_i (by decide) (by decide) ?_))
      rw [wrap64_in (by omega), List.take_of_length_le (by omega)] at S
      exact ⟨by trivial, S⟩

theorem RLGet_S (S : Sep h0 T h [rl b p l c w r cnt, own 1 p l c (ints ws)] R) (hr : 1 ≤ r) (hw : 1 ≤ w) (hb : r * w ≤ ws.length) (hk2 : ws.length ≤ 4096) (hc : cnt < 2 ^ 63) (t : Int) :
    callP P n_ref08_Loop_Get #[.pointer (some ⟨b, 0, none⟩), .int .i64 t] h fun v h' => ∃ p' l' c', v = .agg #[.slice p' l' c', .bool (lin r cnt t)] ∧ l' = (lgt ws 0 w r cnt t).length ∧
      Sep h0 T h' [rl b p l c w r cnt, own 1 p l c (ints ws), own 1 p' l' c' (ints (lgt ws 0 w r cnt t))] R := by
  refine call_ref08_Loop_Get _ _ ?_
  unfold ref08_Loop_Get
  have hr2 : r ≤ 4096 := Nat.le_trans (Nat.le_trans (Nat.le_mul_of_pos_right r hw) hb) hk2
  have hm := mod_mul_le (t := t.toNat) (w := w) hr hb
  have hwl : ws.length = l := by have := (S.own 1 rfl).1; rw [ints_length] at this; omega
  have hlc : l ≤ c := (S.own 1 rfl).2.1
  refine newI_S S (fun b1 _ _ S => ?_)
  dsimp only [List.cons_append, List.nil_append] at S
  have bad : ¬ (((cnt - r : Nat) : Int) ≤ t ∧ t < cnt) → ∀ g, Sep h0 T g [rl b p l c w r cnt, own 1 p l c (ints ws), blk b1 [.slice none 0 0, .bool false]] R → ∃ p' l' c', Value.agg #[.slice none 0 0, .bool false] = .agg #[.slice p' l' c', .bool (lin r cnt t)] ∧ l' = (lgt ws 0 w r cnt t).length ∧
      Sep h0 T g [rl b p l c w r cnt, own 1 p l c (ints ws), own 1 p' l' c' (ints (lgt ws 0 w r cnt t))] R := fun hn g S => by
    have e : lin r cnt t = false := decide_eq_false hn
    have e2 : lgt ws 0 w r cnt t = [] := by unfold lgt; rw [e]; rfl
    rw [e, e2]
    exact ⟨none, 0, 0, rfl, rfl, (S.pw [0, 1]).nil 1⟩
  refine (RLOldest_ok S 0 rfl hc hr2).mono ?_
  rintro _ _ ⟨rfl, rfl⟩
  refine ⟨_, rfl, ?_⟩
  refine ifB_dec (fun h1 => ?_) fun h1 => ?_
  · (repeat (first | with_reducible refine nilI_some ?_ | ((with_reducible refine ldInt_id ?_); (first | refine ldInt_i (S.cell 0 rfl rfl) ?_ | refine ldInt_i (S.cell 1 rfl rfl) ?_ | refine ldInt_i (S.cell 2 rfl rfl) ?_ | refine ldInt_i (S.cell 3 rfl rfl) ?_ | refine ldInt_i (S.cell 4 rfl rfl) ?_ | refine ldInt_i (S.cell 5 rfl rfl) ?_ | refine ldInt_i (S.cell 6 rfl rfl) ?_ | refine ldInt_i (S.cell 7 rfl rfl) ?_ | refine ldInt_i (S.cellR 0 rfl rfl) ?_ | refine ldInt_i (S.cellR 1 rfl rfl) ?_ | refine ldInt_i (S.cellR 2 rfl rfl) ?_)) | ((with_reducible refine ldBool_id ?_); (first | refine ldBool_i (S.cell 0 rfl rfl) ?_ | refine ldBool_i (S.cell 1 rfl rfl) ?_ | refine ldBool_i (S.cell 2 rfl rfl) ?_ | refine ldBool_i (S.cell 3 rfl rfl) ?_ | refine ldBool_i (S.cell 4 rfl rfl) ?_ | refine ldBool_i (S.cell 5 rfl rfl) ?_ | refine ldBool_i (S.cell 6 rfl rfl) ?_ | refine ldBool_i (S.cell 7 rfl rfl) ?_ | refine ldBool_i (S.cellR 0 rfl rfl) ?_ | refine ldBool_i (S.cellR 1 rfl rfl) ?_ | refine ldBool_i (S.cellR 2 rfl rfl) ?_)) | ((with_reducible refine ldPtr_id ?_); (first | refine ldPtr_i (S.cell 0 rfl rfl) ?_ | refine ldPtr_i (S.cell 1 rfl rfl) ?_ | refine ldPtr_i (S.cell 2 rfl rfl) ?_ | refine ldPtr_i (S.cell 3 rfl rfl) ?_ | refine ldPtr_i (S.cell 4 rfl rfl) ?_ | refine ldPtr_i (S.cell 5 rfl rfl) ?_ | refine ldPtr_i (S.cell 6 rfl rfl) ?_ | refine ldPtr_i (S.cell 7 rfl rfl) ?_ | refine ldPtr_i (S.cellR 0 rfl rfl) ?_ | refine ldPtr_i (S.cellR 1 rfl rfl) ?_ | refine ldPtr_i (S.cellR 2 rfl rfl) ?_)) | ((with_reducible refine ldSlice_id ?_); (first | refine ldSlice_i (S.cell 0 rfl rfl) ?_ | refine ldSlice_i (S.cell 1 rfl rfl) ?_ | refine ldSlice_i (S.cell 2 rfl rfl) ?_ | refine ldSlice_i (S.cell 3 rfl rfl) ?_ | refine ldSlice_i (S.cell 4 rfl rfl) ?_ | refine ldSlice_i (S.cell 5 rfl rfl) ?_ | refine ldSlice_i (S.cell 6 rfl rfl) ?_ | refine ldSlice_i (S.cell 7 rfl rfl) ?_ | refine ldSlice_i (S.cellR 0 rfl rfl) ?_ | refine ldSlice_i (S.cellR 1 rfl rfl) ?_ | refine ldSlice_i (S.cellR 2 rfl rfl) ?_)) | ((with_reducible refine ldStr_id ?_); (first | refine ldStr_i (S.cell 0 rfl rfl) ?_ | refine ldStr_i (S.cell 1 rfl rfl) ?_ | refine ldStr_i (S.cell 2 rfl rfl) ?_ | refine ldStr_i (S.cell 3 rfl rfl) ?_ | refine ldStr_i (S.cell 4 rfl rfl) ?_ | refine ldStr_i (S.cell 5 rfl rfl) ?_ | refine ldStr_i (S.cell 6 rfl rfl) ?_ | refine ldStr_i (S.cell 7 rfl rfl) ?_ | refine ldStr_i (S.cellR 0 rfl rfl) ?_ | refine ldStr_i (S.cellR 1 rfl rfl) ?_ | refine ldStr_i (S.cellR 2 rfl rfl) ?_)) | ((with_reducible refine stI_id ?_); (first | refine stI_S S 0 rfl (Nat.le_of_ble_eq_true rfl) (fun _ _ S => ?_) | refine stI_S S 1 rfl (Nat.le_of_ble_eq_true rfl) (fun _ _ S => ?_) | refine stI_S S 2 rfl (Nat.le_of_ble_eq_true rfl) (fun _ _ S => ?_) | refine stI_S S 3 rfl (Nat.le_of_ble_eq_true rfl) (fun _ _ S => ?_) | refine stI_S S 4 rfl (Nat.le_of_ble_eq_true rfl) (fun _ _ S => ?_) | refine stI_S S 5 rfl (Nat.le_of_ble_eq_true rfl) (fun _ _ S => ?_) | refine stI_S S 6 rfl (Nat.le_of_ble_eq_true rfl) (fun _ _ S => ?_) | refine stI_S S 7 rfl (Nat.le_of_ble_eq_true rfl) (fun _ _ S => ?_)); try dsimp only [List.set, List.cons_append, List.nil_append] at S) | ((with_reducible refine and_id ?_); (first | refine and_i (S.cell 0 rfl rfl) ?_ | refine and_i (S.cell 1 rfl rfl) ?_ | refine and_i (S.cell 2 rfl rfl) ?_ | refine and_i (S.cell 3 rfl rfl) ?_ | refine and_i (S.cell 4 rfl rfl) ?_ | refine and_i (S.cell 5 rfl rfl) ?_ | refine and_i (S.cell 6 rfl rfl) ?_ | refine and_i (S.cell 7 rfl rfl) ?_ | refine and_i (S.cellR 0 rfl rfl) ?_ | refine and_i (S.cellR 1 rfl rfl) ?_ | refine and_i (S.cellR 2 rfl rfl) ?_)) | refine arrI_i (by decide) (by decide) ?_))
    exact bad (by omega) _ S
  · (repeat (first | with_reducible refine nilI_some ?_ | ((with_reducible refine ldInt_id ?_); (first | refine ldInt_i (S.cell 0 rfl rfl) ?_ | refine ldInt_i (S.cell 1 rfl rfl) ?_ | refine ldInt_i (S.cell 2 rfl rfl) ?_ | refine ldInt_i (S.cell 3 rfl rfl) ?_ | refine ldInt_i (S.cell 4 rfl rfl) ?_ | refine ldInt_i (S.cell 5 rfl rfl) ?_ | refine ldInt_i (S.cell 6 rfl rfl) ?_ | refine ldInt_i (S.cell 7 rfl rfl) ?_ | refine ldInt_i (S.cellR 0 rfl rfl) ?_ | refine ldInt_i (S.cellR 1 rfl rfl) ?_ | refine ldInt_i (S.cellR 2 rfl rfl) ?_)) | ((with_reducible refine ldBool_id ?_); (first | refine ldBool_i (S.cell 0 rfl rfl) ?_ | refine ldBool_i (S.cell 1 rfl rfl) ?_ | refine ldBool_i (S.cell 2 rfl rfl) ?_ | refine ldBool_i (S.cell 3 rfl rfl) ?_ | refine ldBool_i (S.cell 4 rfl rfl) ?_ | refine ldBool_i (S.cell 5 rfl rfl) ?_ | refine ldBool_i (S.cell 6 rfl rfl) ?_ | refine ldBool_i (S.cell 7 rfl rfl) ?_ | refine ldBool_i (S.cellR 0 rfl rfl) ?_ | refine ldBool_i (S.cellR 1 rfl rfl) ?_ | refine ldBool_i (S.cellR 2 rfl rfl) ?_)) | ((with_reducible refine ldPtr_id ?_); (first | refine ldPtr_i (S.cell 0 rfl rfl) ?_ | refine ldPtr_i (S.cell 1 rfl rfl) ?_ | refine ldPtr_i (S.cell 2 rfl rfl) ?_ | refine ldPtr_i (S.cell 3 rfl rfl) ?_ | refine ldPtr_i (S.cell 4 rfl rfl) ?_ | refine ldPtr_i (S.cell 5 rfl rfl) ?_ | refine ldPtr_i (S.cell 6 rfl rfl) ?_ | refine ldPtr_i (S.cell 7 rfl rfl) ?_ | refine ldPtr_i (S.cellR 0 rfl rfl) ?_ | refine ldPtr_i (S.cellR 1 rfl rfl) ?_ | refine ldPtr_i (S.cellR 2 rfl rfl) ?_)) | ((with_reducible refine ldSlice_id ?_); (first | refine ldSlice_i (S.cell 0 rfl rfl) ?_ | refine ldSlice_i (S.cell 1 rfl rfl) ?_ | refine ldSlice_i (S.cell 2 rfl rfl) ?_ | refine ldSlice_i (S.cell 3 rfl rfl) ?_ | refine ldSlice_i (S.cell 4 rfl rfl) ?_ | refine ldSlice_i (S.cell 5 rfl rfl) ?_ | refine ldSlice_i (S.cell 6 rfl rfl) ?_ | refine ldSlice_i (S.cell 7 rfl rfl) ?_ | refine ldSlice_i (S.cellR 0 rfl rfl) ?_ | refine ldSlice_i (S.cellR 1 rfl rfl) ?_ | refine ldSlice_i (S.cellR 2 rfl rfl) ?_)) | ((with_reducible refine ldStr_id ?_); (first | refine ldStr_i (S.cell 0 rfl rfl) ?_ | refine ldStr_i (S.cell 1 rfl rfl) ?_ | refine ldStr_i (S.cell 2 rfl rfl) ?_ | refine ldStr_i (S.cell 3 rfl rfl) ?_ | refine ldStr_i (S.cell 4 rfl rfl) ?_ | refine ldStr_i (S.cell 5 rfl rfl) ?_ | refine ldStr_i (S.cell 6 rfl rfl) ?_ | refine ldStr_i (S.cell 7 rfl rfl) ?_ | refine ldStr_i (S.cellR 0 rfl rfl) ?_ | refine ldStr_i (S.cellR 1 rfl rfl) ?_ | refine ldStr_i (S.cellR 2 rfl rfl) ?_)) | ((with_reducible refine stI_id ?_); (first | refine stI_S S 0 rfl (Nat.le_of_ble_eq_true rfl) (fun _ _ S => ?_) | refine stI_S S 1 rfl (Nat.le_of_ble_eq_true rfl) (fun _ _ S => ?_) | refine stI_S S 2 rfl (Nat.le_of_ble_eq_true rfl) (fun _ _ S => ?_) | refine stI_S S 3 rfl (Nat.le_of_ble_eq_true rfl) (fun _ _ S => ?_) | refine stI_S S 4 rfl (Nat.le_of_ble_eq_true rfl) (fun _ _ S => ?_) | refine stI_S S 5 rfl (Nat.le_of_ble_eq_true rfl) (fun _ _ S => ?_) | refine stI_S S 6 rfl (Nat.le_of_ble_eq_true rfl) (fun _ _ S => ?_) | refine stI_S S 7 rfl (Nat.le_of_ble_eq_true rfl) (fun _ _ S => ?_)); try dsimp only [List.set, List.cons_append, List.nil_append] at S) | ((with_reducible refine and_id ?_); (first | refine and_i (S.cell 0 rfl rfl) ?_ | refine and_i (S.cell 1 rfl rfl) ?_ | refine and_i (S.cell 2 rfl rfl) ?_ | refine and_i (S.cell 3 rfl rfl) ?_ | refine and_i (S.cell 4 rfl rfl) ?_ | refine and_i (S.cell 5 rfl rfl) ?_ | refine and_i (S.cell 6 rfl rfl) ?_ | refine and_i (S.cell 7 rfl rfl) ?_ | refine and_i (S.cellR 0 rfl rfl) ?_ | refine and_i (S.cellR 1 rfl rfl) ?_ | refine and_i (S.cellR 2 rfl rfl) ?_)) | refine arrI_i (by decide) (by decide) ?_))
    refine ifB_dec (fun h2 => ?_) fun h2 => ?_
    · (repeat (first | with_reducible refine nilI_some ?_ | ((with_reducible refine ldInt_id ?_); (first | refine ldInt_i (S.cell 0 rfl rfl) ?_ | refine ldInt_i (S.cell 1 rfl rfl) ?_ | refine ldInt_i (S.cell 2 rfl rfl) ?_ | refine ldInt_i (S.cell 3 rfl rfl) ?_ | refine ldInt_i (S.cell 4 rfl rfl) ?_ | refine ldInt_i (S.cell 5 rfl rfl) ?_ | refine ldInt_i (S.cell 6 rfl rfl) ?_ | refine ldInt_i (S.cell 7 rfl rfl) ?_ | refine ldInt_i (S.cellR 0 rfl rfl) ?_ | refine ldInt_i (S.cellR 1 rfl rfl) ?_ | refine ldInt_i (S.cellR 2 rfl rfl) ?_)) | ((with_reducible refine ldBool_id ?_); (first | refine ldBool_i (S.cell 0 rfl rfl) ?_ | refine ldBool_i (S.cell 1 rfl rfl) ?_ | refine ldBool_i (S.cell 2 rfl rfl) ?_ | refine ldBool_i (S.cell 3 rfl rfl) ?_ | refine ldBool_i (S.cell 4 rfl rfl) ?_ | refine ldBool_i (S.cell 5 rfl rfl) ?_ | refine ldBool_i (S.cell 6 rfl rfl) ?_ | refine ldBool_i (S.cell 7 rfl rfl) ?_ | refine ldBool_i (S.cellR 0 rfl rfl) ?_ | refine ldBool_i (S.cellR 1 rfl rfl) ?_ | refine ldBool_i (S.cellR 2 rfl rfl) ?_)) | ((with_reducible refine ldPtr_id ?_); (first | refine ldPtr_i (S.cell 0 rfl rfl) ?_ | refine ldPtr_i (S.cell 1 rfl rfl) ?_ | refine ldPtr_i (S.cell 2 rfl rfl) ?_ | refine ldPtr_i (S.cell 3 rfl rfl) ?_ | refine ldPtr_i (S.cell 4 rfl rfl) ?_ | refine ldPtr_i (S.cell 5 rfl rfl) ?_ | refine ldPtr_i (S.cell 6 rfl rfl) ?_ | refine ldPtr_i (S.cell 7 rfl rfl) ?_ | refine ldPtr_i (S.cellR 0 rfl rfl) ?_ | refine ldPtr_i (S.cellR 1 rfl rfl) ?_ | refine ldPtr_i (S.cellR 2 rfl rfl) ?_)) | ((with_reducible refine ldSlice_id ?_); (first | refine ldSlice_i (S.cell 0 rfl rfl) ?_ | refine ldSlice_i (S.cell 1 rfl rfl) ?_ | refine ldSlice_i (S.cell 2 rfl rfl) ?_ | refine ldSlice_i (S.cell 3 rfl rfl) ?_ | refine ldSlice_i (S.cell 4 rfl rfl) ?_ | refine ldSlice_i (S.cell 5 rfl rfl) ?_ | refine ldSlice_i (S.cell 6 rfl rfl) ?_ | refine ldSlice_i (S.cell 7 rfl rfl) ?_ | refine ldSlice_i (S.cellR 0 rfl rfl) ?_ | refine ldSlice_i (S.cellR 1 rfl rfl) ?_ | refine ldSlice_i (S.cellR 2 rfl rfl) ?_)) | ((with_reducible refine ldStr_id ?_); (first | refine ldStr_i (S.cell 0 rfl rfl) ?_ | refine ldStr_i (S.cell 1 rfl rfl) ?_ | refine ldStr_i (S.cell 2 rfl rfl) ?_ | refine ldStr_i (S.cell 3 rfl rfl) ?_ | refine ldStr_i (S.cell 4 rfl rfl) ?_ | refine ldStr_i (S.cell 5 rfl rfl) ?_ | refine ldStr_i (S.cell 6 rfl rfl) ?_ | refine ldStr_i (S.cell 7 rfl rfl) ?_ | refine ldStr_i (S.cellR 0 rfl rfl) ?_ | refine ldStr_i (S.cellR 1 rfl rfl) ?_ | refine ldStr_i (S.cellR 2 rfl rfl) ?_)) | ((with_reducible refine stI_id ?_); (first | refine stI_S S 0 rfl (Nat.le_of_ble_eq_true rfl) (fun _ _ S => ?_) | refine stI_S S 1 rfl (Nat.le_of_ble_eq_true rfl) (fun _ _ S => ?_) | refine stI_S S 2 rfl (Nat.le_of_ble_eq_true rfl) (fun _ _ S => ?_) | refine stI_S S 3 rfl (Nat.le_of_ble_eq_true rfl) (fun _ _ S => ?_) | refine stI_S S 4 rfl (Nat.le_of_ble_eq_true rfl) (fun _ _ S => ?_) | refine stI_S S 5 rfl (Nat.le_of_ble_eq_true rfl) (fun _ _ S => ?_) | refine stI_S S 6 rfl (Nat.le_of_ble_eq_true rfl) (fun _ _ S => ?_) | refine stI_S S 7 rfl (Nat.le_of_ble_eq_true rfl) (fun _ _ S => ?_)); try dsimp only [List.set, List.cons_append, List.nil_append] at S) | ((with_reducible refine and_id ?_); (first | refine and_i (S.cell 0 rfl rfl) ?_ | refine and_i (S.cell 1 rfl rfl) ?_ | refine and_i (S.cell 2 rfl rfl) ?_ | refine and_i (S.cell 3 rfl rfl) ?_ | refine and_i (S.cell 4 rfl rfl) ?_ | refine and_i (S.cell 5 rfl rfl) ?_ | refine and_i (S.cell 6 rfl rfl) ?_ | refine and_i (S.cell 7 rfl rfl) ?_ | refine and_i (S.cellR 0 rfl rfl) ?_ | refine and_i (S.cellR 1 rfl rfl) ?_ | refine and_i (S.cellR 2 rfl rfl) ?_)) | refine arrI_i (by decide) (by decide) ?_))
      exact bad (by omega) _ S
    · have hin : lin r cnt t = true := decide_eq_true (by omega)
      have ht : t = ((t.toNat : Nat) : Int) := by omega
      have e : lgt ws 0 w r cnt t = (ws.drop (t.toNat % r * w)).take w := by unfold lgt; rw [if_pos hin, Nat.zero_add]
      rw [e, hin]
      refine nilI_some (nilI_some (ldInt_i (S.cell 0 rfl rfl) ⟨by omega, ldInt_i (S.cell 0 rfl rfl) (nilI_some (nilI_some (ldSlice_i (S.cell 0 rfl rfl) (ldInt_i (S.cell 0 rfl rfl) ?_))))⟩))
      rw [Int.tmod_eq_emod_of_nonneg (by omega)]
      have e0 : (t % (r : Int)) * (w : Int) = ((t.toNat % r * w : Nat) : Int) := by rw [ht]; simp
      rw [e0, wrap64_in (n := ((t.toNat % r * w : Nat) : Int)) (by omega), wrap64_in (by omega)]
      refine bndI_i (n := t.toNat % r * w + w) (by omega) (by omega) (bndI_i (n := t.toNat % r * w) rfl (by omega) ?_)
      refine newI_S (cs := []) S fun b2 h2 _ S => ?_
      replace S := S.toOwn 3 1 0 0 rfl (Nat.le_refl _)
      dsimp only [List.set, List.cons_append, List.nil_append] at S
      have hrow : Row h2 (if c = t.toNat % r * w then p else Option.map (fun a => Addr.add a (t.toNat % r * w * 1)) p) (ints ((ws.drop (t.toNat % r * w)).take w)) := by
        rw [if_neg (by omega), Nat.mul_one, ← ints_take, ← ints_drop]
        exact ((S.own 1 rfl).row.drop' _ (by rw [ints_length]; omega)).take w
      refine appI_S S 3 (ys := ints ((ws.drop (t.toNat % r * w)).take w)) rfl rfl (by decide) (by omega) hrow (by rw [ints_length]; simp; omega) ints_one fun p' l' c' h' hl' S => ?_
      dsimp only [List.set, List.cons_append, List.nil_append, List.take] at S
      (repeat (first | with_reducible refine nilI_some ?_ | ((with_reducible refine ldInt_id ?_); (first | refine ldInt_i (S.cell 0 rfl rfl) ?_ | refine ldInt_i (S.cell 1 rfl rfl) ?_ | refine ldInt_i (S.cell 2 rfl rfl) ?_ | refine ldInt_i (S.cell 3 rfl rfl) ?_ | refine ldInt_i (S.cell 4 rfl rfl) ?_ | refine ldInt_i (S.cell 5 rfl rfl) ?_ | refine ldInt_i (S.cell 6 rfl rfl) ?_ | refine ldInt_i (S.cell 7 rfl rfl) ?_ | refine ldInt_i (S.cellR 0 rfl rfl) ?_ | refine ldInt_i (S.cellR 1 rfl rfl) ?_ | refine ldInt_i (S.cellR 2 rfl rfl) ?_)) | ((with_reducible refine ldBool_id ?_); (first | refine ldBool_i (S.cell 0 rfl rfl) ?_ | refine ldBool_i (S.cell 1 rfl rfl) ?_ | refine ldBool_i (S.cell 2 rfl rfl) ?_ | refine ldBool_i (S.cell 3 rfl rfl) ?_ | refine ldBool_i (S.cell 4 rfl rfl) ?_ | refine ldBool_i (S.cell 5 rfl rfl) ?_ | refine ldBool_i (S.cell 6 rfl rfl) ?_ | refine ldBool_i (S.cell 7 rfl rfl) ?_ | refine ldBool_i (S.cellR 0 rfl rfl) ?_ | refine ldBool_i (S.cellR 1 rfl rfl) ?_ | refine ldBool_i (S.cellR 2 rfl rfl) ?_)) | ((with_reducible refine ldPtr_id ?_); (first | refine ldPtr_i (S.cell 0 rfl rfl) ?_ | refine ldPtr_i (S.cell 1 rfl rfl) ?_ | refine ldPtr_i (S.cell 2 rfl rfl) ?_ | refine ldPtr_i (S.cell 3 rfl rfl) ?_ | refine ldPtr_i (S.cell 4 rfl rfl) ?_ | refine ldPtr_i (S.cell 5 rfl rfl) ?_ | refine ldPtr_i (S.cell 6 rfl rfl) ?_ | refine ldPtr_i (S.cell 7 rfl rfl) ?_ | refine ldPtr_i (S.cellR 0 rfl rfl) ?_ | refine ldPtr_i (S.cellR 1 rfl rfl) ?_ | refine ldPtr_i (S.cellR 2 rfl rfl) ?_)) | ((with_reducible refine ldSlice_id ?_); (first | refine ldSlice_i (S.cell 0 rfl rfl) ?_ | refine ldSlice_i (S.cell 1 rfl rfl) ?_ | refine ldSlice_i (S.cell 2 rfl rfl) ?_ | refine ldSlice_i (S.cell 3 rfl rfl) ?_ | refine ldSlice_i (S.cell 4 rfl rfl) ?_ | refine ldSlice_i (S.cell 5 rfl rfl) ?_ | refine ldSlice_i (S.cell 6 rfl rfl) ?_ | refine ldSlice_i (S.cell 7 rfl rfl) ?_ | refine ldSlice_i (S.cellR 0 rfl rfl) ?_ | refine ldSlice_i (S.cellR 1 rfl rfl) ?_ | refine ldSlice_i (S.cellR 2 rfl rfl) ?_)) | ((with_reducible refine ldStr_id ?_); (first | refine ldStr_i (S.cell 0 rfl rfl) ?_ | refine ldStr_i (S.cell 1 rfl rfl) ?_ | refine ldStr_i (S.cell 2 rfl rfl) ?_ | refine ldStr_i (S.cell 3 rfl rfl) ?_ | refine ldStr_i (S.cell 4 rfl rfl) ?_ | refine ldStr_i (S.cell 5 rfl rfl) ?_ | refine ldStr_i (S.cell 6 rfl rfl) ?_ | refine ldStr_i (S.cell 7 rfl rfl) ?_ | refine ldStr_i (S.cellR 0 rfl rfl) ?_ | refine ldStr_i (S.cellR 1 rfl rfl) ?_ | refine ldStr_i (S.cellR 2 rfl rfl) ?_)) | ((with_reducible refine stI_id ?_); (first | refine stI_S S 0 rfl (Nat.le_of_ble_eq_true rfl) (fun _ _ S => ?_) | refine stI_S S 1 rfl (Nat.le_of_ble_eq_true rfl) (fun _ _ S => ?_) | refine stI_S S 2 rfl (Nat.le_of_ble_eq_true rfl) (fun _ _ S => ?_) | refine stI_S S 3 rfl (Nat.le_of_ble_eq_true rfl) (fun _ _ S => ?_) | refine stI_S S 4 rfl (Nat.le_of_ble_eq_true rfl) (fun _ _ S => ?_) | refine stI_S S 5 rfl (Nat.le_of_ble_eq_true rfl) (fun _ _ S => ?_) | refine stI_S S 6 rfl (Nat.le_of_ble_eq_true rfl) (fun _ _ S => ?_) | refine stI_S S 7 rfl (Nat.le_of_ble_eq_true rfl) (fun _ _ S => ?_)); try dsimp only [List.set, List.cons_append, List.nil_append] at S) | ((with_reducible refine and_id ?_); (first | refine and_i (S.cell 0 rfl rfl) ?_ | refine and_i (S.cell 1 rfl rfl) ?_ | refine and_i (S.cell 2 rfl rfl) ?_ | refine and_i (S.cell 3 rfl rfl) ?_ | refine and_i (S.cell 4 rfl rfl) ?_ | refine and_i (S.cell 5 rfl rfl) ?_ | refine and_i (S.cell 6 rfl rfl) ?_ | refine and_i (S.cell 7 rfl rfl) ?_ | refine and_i (S.cellR 0 rfl rfl) ?_ | refine and_i (S.cellR 1 rfl rfl) ?_ | refine and_i (S.cellR 2 rfl rfl) ?_)) | refine arrI_i (by decide) (by decide) ?_))
      exact ⟨p', l', c', rfl, by simp; omega, S.pw [0, 1, 3]⟩

end

/-! what is nil -/
section
variable {h : Heap}
theorem nLGet (t : Int) : callP P n_loop_Loop_Get #[.pointer none, .int .i64 t] h fun v h' => v = .tuple #[.slice none 0 0, .bool false] ∧ h' = h := by
  refine call_loop_Loop_Get _ _ ?_
  unfold loop_Loop_Get
  exact ⟨fun _ _ => False, fun _ _ h => h.elim, ifB_true rfl ⟨rfl, rfl⟩⟩
theorem nLPush (q : Option Addr) (l c : Nat) : callP P n_loop_Loop_Push #[.pointer none, .slice q l c] h fun v h' => v = .int .i64 1 ∧ h' = h := by
  refine call_loop_Loop_Push _ _ _ _ ?_
  unfold loop_Loop_Push
  exact ifB_true rfl ⟨rfl, rfl⟩
theorem nLWidth : callP P n_loop_Loop_Width #[.pointer none] h fun v h' => v = .int .i64 0 ∧ h' = h := by
  refine call_loop_Loop_Width _ ?_
  unfold loop_Loop_Width
  exact ifB_true rfl ⟨rfl, rfl⟩
theorem nLRoom : callP P n_loop_Loop_Room #[.pointer none] h fun v h' => v = .int .i64 0 ∧ h' = h := by
  refine call_loop_Loop_Room _ ?_
  unfold loop_Loop_Room
  exact ifB_true rfl ⟨rfl, rfl⟩
theorem nLCount : callP P n_loop_Loop_Count #[.pointer none] h fun v h' => v = .int .i64 0 ∧ h' = h := by
  refine call_loop_Loop_Count _ ?_
  unfold loop_Loop_Count
  exact ifB_true rfl ⟨rfl, rfl⟩
theorem nLOldest : callP P n_loop_Loop_Oldest #[.pointer none] h fun v h' => v = .int .i64 0 ∧ h' = h := by
  refine call_loop_Loop_Oldest _ ?_
  unfold loop_Loop_Oldest
  refine (nLCount).mono ?_
  rintro _ _ ⟨rfl, rfl⟩
  refine ⟨_, rfl, ?_⟩
  refine (nLRoom).mono ?_
  rintro _ _ ⟨rfl, rfl⟩
  refine ⟨_, rfl, ?_⟩
  exact ⟨rfl, rfl⟩
theorem nLSeek (x : Int) : callP P n_loop_Loop_Seek #[.pointer none, .int .i64 x] h fun v h' => v = .bool false ∧ h' = h := by
  refine call_loop_Loop_Seek _ _ ?_
  unfold loop_Loop_Seek
  exact ifB_true rfl ⟨rfl, rfl⟩
theorem nLNew (x : Int) : callP P n_loop_New #[.pointer none, .int .i64 x] h fun v h' => v = .pointer none ∧ h' = h := by
  refine call_loop_New _ _ ?_
  unfold loop_New
  exact ifB_true rfl ⟨rfl, rfl⟩
end

end Go.Proofs.Ytdjofpdmdbcgjac.G
