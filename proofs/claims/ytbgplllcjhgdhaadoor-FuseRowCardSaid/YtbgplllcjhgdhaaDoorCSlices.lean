/- Contracts: the library's slices: Clone, Index, Contains, Values, Compact. -/
import Derived.Test.YtbgplllcjhgdhaaDoorCGraph5
namespace Go.Proofs.YtbgplllcjhgdhaaDoor.G
open Go Go.Sh
set_option linter.unusedVariables false
set_option linter.unusedSimpArgs false

theorem nflat_one {ns : List Nv} : ∀ y ∈ nflat ns, one1 y = true := by
  intro y hy
  unfold nflat at hy
  obtain ⟨l, hl, hy⟩ := List.mem_flatten.1 hy
  obtain ⟨n, _, rfl⟩ := List.mem_map.1 hl
  exact mkS_one (l := ndSh) rfl y hy

section
variable {h : Heap}

theorem CloneI_ok {p : Option Addr} {l c : Nat} {xs : List Int} (hx : Row h p (ints xs)) (hl : xs.length = l) (hl2 : l < 2 ^ 40) :
    callP P n_slices_Clone_int_int #[.slice p l c] h fun v h' => ∃ p' c', v = .slice p' l c' ∧ Sep h no h' [own 1 p' l c' (ints xs)] [] := by
  refine call_slices_Clone_int_int _ _ _ ?_
  unfold slices_Clone_int_int
  have S := (Sep.start h no).read (row p (ints xs)) hx
  cases p with
  | none =>
    have hx0 : xs.length = 0 := by
      cases hxl : xs.length with
      | zero => rfl
      | succ k =>
        obtain ⟨a, ea⟩ := hx.some_of (by rw [ints_length]; omega)
        cases ea
    have e0 : xs = [] := List.length_eq_zero_iff.1 hx0
    have el : l = 0 := by omega
    subst e0 el
    exact ifB_true rfl ⟨none, 0, rfl, noR (S.nil 1)⟩
  | some q =>
    refine ifB_false rfl ?_
    refine newI_S (cs := []) S fun b1 h1 _ S => ?_
    replace S := S.toOwn 0 1 0 0 rfl (Nat.le_refl _)
    refine appI_S S 0 (ys := ints xs) rfl rfl (by decide) (by omega) (S.row 0 rfl) (by rw [ints_length]; omega) vals_one fun p' l' c' h' hl' S => ?_
    have : l' = l := by omega
    subst this
    exact ⟨p', c', rfl, S.pick [0] []⟩

theorem CloneN_ok {p : Option Addr} {l c : Nat} {ns : List Nv} (hx : Row h p (nflat ns)) (hl : ns.length = l) (hl2 : l < 2 ^ 20) :
    callP P n_slices_Clone_api_Node_api_Node #[.slice p l c] h fun v h' => ∃ p' c', v = .slice p' l c' ∧ Sep h no h' [own 15 p' l c' (nflat ns)] [] := by
  refine call_slices_Clone_api_Node_api_Node _ _ _ ?_
  unfold slices_Clone_api_Node_api_Node
  have S := (Sep.start h no).read (row p (nflat ns)) hx
  cases p with
  | none =>
    have hx0 : ns.length = 0 := by
      cases hxl : ns.length with
      | zero => rfl
      | succ k =>
        obtain ⟨a, ea⟩ := hx.some_of (by rw [nflat_length]; omega)
        cases ea
    have e0 : ns = [] := List.length_eq_zero_iff.1 hx0
    have el : l = 0 := by omega
    subst e0 el
    exact ifB_true rfl ⟨none, 0, rfl, noR (S.nil 15)⟩
  | some q =>
    refine ifB_false rfl ?_
    refine newI_S (cs := []) S fun b1 h1 _ S => ?_
    replace S := S.toOwn 0 15 0 0 rfl (Nat.le_refl _)
    refine appI_S S 0 (ys := nflat ns) rfl rfl (by decide) (by omega) (S.row 0 rfl) (by rw [nflat_length]; omega) nflat_one fun p' l' c' h' hl' S => ?_
    have : l' = l := by omega
    subst this
    exact ⟨p', c', rfl, S.pick [0] []⟩

theorem ContainsI_ok {p : Option Addr} {l c : Nat} {xs : List Int} (hx : Row h p (ints xs)) (hl : xs.length = l) (hl2 : l < 2 ^ 62) (v : Int) :
    callP P n_slices_Contains_int_int #[.slice p l c, .int .i64 v] h fun r h' => r = .bool (decide (v ∈ xs)) ∧ h' = h := by
  refine call_slices_Contains_int_int _ _ _ _ ?_
  unfold slices_Contains_int_int
  have I : callP P n_slices_Index_int_int #[.slice p l c, .int .i64 v] h fun r h' => ∃ i : Int, r = .int .i64 i ∧ (0 ≤ i ↔ v ∈ xs) ∧ h' = h := by
    refine call_slices_Index_int_int _ _ _ _ ?_
    unfold slices_Index_int_int
    refine LoopS_i (fun m s g => g = h ∧ ∃ i : Nat, s = ((p, l, c), v, (l : Int), (i : Int), ()) ∧ i ≤ l ∧ m = l - i ∧ v ∉ xs.take i) l ⟨rfl, 0, rfl, by omega, rfl, by simp⟩ ?_
    rintro m s g ⟨rfl, i, rfl, hi, rfl, hall⟩
    unfold slices_Index_int_int_l2
    dsimp only
    refine ifB_dec (fun hlt => ?_) (fun hge => ?_)
    · have hix : i < xs.length := by omega
      obtain ⟨aa, rfl⟩ := hx.some_of (by rw [ints_length]; omega)
      refine idxI_i rfl rfl (by omega) ?_
      simp only [Int.toNat_natCast, Nat.mul_one]
      refine ldInt_i (hx.cell (ints_get (List.getElem?_eq_getElem hix))) ?_
      refine ifB_beq (fun e => ⟨_, rfl, ⟨fun _ => by rw [e]; exact List.getElem_mem hix, fun _ => by omega⟩, by trivial⟩) (fun e => ?_)
      rw [wrap64_in (by omega)]
      refine ⟨l - (i + 1), by omega, by trivial, i + 1, rfl, by omega, rfl, fun hj => ?_⟩
      rw [List.take_succ_eq_append_getElem hix] at hj
      rcases List.mem_append.1 hj with hj | hj
      · exact hall hj
      · simp only [List.mem_singleton] at hj; exact e hj
    · rw [List.take_of_length_le (by omega)] at hall
      exact ⟨_, rfl, ⟨fun h => by omega, fun hv => absurd hv hall⟩, rfl⟩
  refine I.mono ?_
  rintro _ _ ⟨i, rfl, hi, rfl⟩
  refine ⟨_, rfl, ?_, rfl⟩
  congr 1
  rw [decide_eq_decide]
  exact hi

theorem Values_ok (p : Option Addr) (l c : Nat) : callP P n_slices_Values_int_int #[.slice p l c] h fun v h' => ∃ b, v = .func (.func n_slices_Values_int_int_1) #[] #[.pointer (some ⟨b, 0, none⟩)] ∧ Sep h no h' [blk b [.slice p l c]] [] := by
  refine call_slices_Values_int_int _ _ _ ?_
  unfold slices_Values_int_int
  have S := Sep.start h no
  refine newI_S (cs := [.slice p l c]) S fun b1 h1 _ S => ?_
  exact ⟨b1, rfl, S⟩
end

/-! Compact -/
def compStep (acc : List Int) (x : Int) : List Int := if acc.getLast? = some x then acc else acc ++ [x]
def comp (xs : List Int) : List Int := xs.foldl compStep []
theorem comp_snoc (xs : List Int) (x : Int) : comp (xs ++ [x]) = compStep (comp xs) x := by simp [comp, List.foldl_append]
theorem comp_last (xs : List Int) (x : Int) : (comp (xs ++ [x])).getLast? = some x := by
  rw [comp_snoc]; unfold compStep
  split
  · rename_i h; exact h
  · simp
theorem comp_succ {xs : List Int} {i : Nat} (h1 : 1 ≤ i) (hi : i < xs.length) : comp (xs.take (i + 1)) = if xs[i] = xs[i - 1] then comp (xs.take i) else comp (xs.take i) ++ [xs[i]] := by
  rw [List.take_succ_eq_append_getElem hi, comp_snoc]
  have e : xs.take i = xs.take (i - 1) ++ [xs[i - 1]] := by
    have := List.take_succ_eq_append_getElem (l := xs) (i := i - 1) (by omega)
    rw [← this]; congr 1; omega
  unfold compStep
  have hl : (comp (xs.take i)).getLast? = some xs[i - 1] := by rw [e]; exact comp_last _ _
  rw [hl]
  by_cases hx : xs[i] = xs[i - 1]
  · rw [if_pos (by rw [hx]), if_pos hx]
  · rw [if_neg (fun h => hx (Option.some.inj h).symm), if_neg hx]
theorem comp_length (xs : List Int) : (comp xs).length ≤ xs.length := by
  have : ∀ (l acc : List Int), (l.foldl compStep acc).length ≤ acc.length + l.length := by
    intro l
    induction l with
    | nil => intro acc; simp
    | cons x r ih =>
      intro acc
      rw [List.foldl_cons]
      have := ih (compStep acc x)
      have h2 : (compStep acc x).length ≤ acc.length + 1 := by unfold compStep; split <;> simp
      simp only [List.length_cons]; omega
  have := this xs []
  simpa [comp] using this

theorem Own.prefix1 {h : Heap} {base : Nat} {p : Option Addr} {l c k : Nat} {xs : List Value} (o : Own h base 1 p l c xs) (hk : k ≤ l) : Own h base 1 p k c (xs.take k) := by
  obtain ⟨h1, h2, ⟨rfl, rfl, rfl⟩ | ⟨b, cs, rfl, hb, hat, hlen, ht⟩⟩ := o
  · have : k = 0 := by omega
    subst this
    exact ⟨by simp, Nat.le_refl _, .inl ⟨rfl, rfl, rfl⟩⟩
  · refine ⟨by rw [List.length_take]; omega, by omega, .inr ⟨b, cs, rfl, hb, hat, hlen, ?_⟩⟩
    have e : (xs.take k).length = k := by rw [List.length_take]; omega
    rw [e]
    conv => rhs; rw [← ht, List.take_take, Nat.min_eq_left (by omega)]

section
variable {h0 h : Heap} {T : Nat → Prop} {W R : List Fact} {p : Option Addr} {l c : Nat} {xs : List Int}

theorem Compact_S (S : Sep h0 T h W R) (i : Nat) (e : W[i]? = some (own 1 p l c (ints xs))) (hl2 : l < 2 ^ 40) :
    callP P n_slices_Compact_int_int #[.slice p l c] h fun v h' => ∃ l', v = .slice p l' c ∧ Sep h0 T h' (W.set i (own 1 p l' c (ints (comp xs)))) R := by
  refine call_slices_Compact_int_int _ _ _ ?_
  unfold slices_Compact_int_int
  have hiW : i < W.length := (List.getElem?_eq_some_iff.1 e).1
  have o := S.own i e
  have hlen : xs.length = l := by have := o.1; rw [ints_length] at this; omega
  have hlc := o.2.1
  have same : ∀ {g : Heap}, Sep h0 T g W R → comp xs = xs → Sep h0 T g (W.set i (own 1 p l c (ints (comp xs)))) R := fun S ec => S.turn i e _ (fun hh => by rw [ec]; exact hh) fun _ hb => hb
  refine ifB_dec (fun h2 => ⟨l, rfl, same S ?_⟩) (fun h2 => ?_)
  · match xs, hlen with
    | [], _ => rfl
    | [x], _ => rfl
    | _ :: _ :: _, hlen => simp at hlen; omega
  obtain ⟨b, rfl⟩ : ∃ b, p = some ⟨b, 0, none⟩ := by
    obtain ⟨_, _, ⟨_, h0, _⟩ | ⟨b, cs, rfl, _⟩⟩ := o
    · omega
    · exact ⟨b, rfl⟩
  refine LoopS_i (fun m s g => ∃ k : Nat, s = ((some ⟨b, 0, none⟩, l, c), (k : Int), ()) ∧ 1 ≤ k ∧ k ≤ l ∧ m = l - k ∧ comp (xs.take k) = xs.take k ∧ Sep h0 T g W R) (l - 1) ⟨1, rfl, by omega, by omega, rfl, ?_, S⟩ ?_
  · match xs, hlen with
    | [], _ => rfl
    | x :: r, _ => rfl
  clear S o
  rintro m s g ⟨k, rfl, hk1, hk, rfl, hck, S⟩
  unfold slices_Compact_int_int_l4
  dsimp only
  refine ifB_dec (fun hlt => ?_) (fun hge => ?_)
  · have hkx : k < xs.length := by omega
    have rw0 : Row g (some ⟨b, 0, none⟩) (ints xs) := (S.own i e).row
    have ek1 : IntKind.wrap .i64 ((k : Int) - 1) = ((k - 1 : Nat) : Int) := by rw [wrap64_in (by omega)]; omega
    rw [ek1]
    refine idxI_i rfl rfl (by omega) (idxI_i rfl rfl (by omega) ?_)
    simp only [Int.toNat_natCast, Nat.mul_one]
    refine ldInt_i (rw0.cell (ints_get (List.getElem?_eq_getElem hkx))) (ldInt_i (rw0.cell (ints_get (List.getElem?_eq_getElem (i := k - 1) (by omega)))) ?_)
    refine ifB_beq (fun hd => ?_) (fun hd => ?_)
    · refine bndI_i (n := k) rfl (by omega) ?_
      have hcl := S.own i e
      have hlc := hcl.2.1
      rw [if_neg (show ¬ c = k by omega)]
      simp only [Option.map_some, Nat.mul_one, add_mk, Nat.zero_add]
      have hstart : comp (xs.take (k + 1)) = xs.take k := by rw [comp_succ hk1 hkx, if_pos hd, hck]
      refine LoopS_i (fun m s g => ∃ (j q : Nat) (ys : List Int), s = ((some ⟨b, 0, none⟩, l, c), (q : Int), (some ⟨b, k, none⟩, l - k, c - k), ((j - k : Nat) : Int), ()) ∧ k + 1 ≤ j ∧ j ≤ l ∧ m = l - j ∧ ys.length = l ∧ (comp (xs.take j)).length = q ∧ 1 ≤ q ∧ q ≤ j - 1 ∧ ys.take q = comp (xs.take j) ∧ ys.drop (j - 1) = xs.drop (j - 1) ∧
        Sep h0 T g (W.set i (own 1 (some ⟨b, 0, none⟩) l c (ints ys))) R) (l - (k + 1)) ⟨k + 1, k, xs, by rw [show k + 1 - k = 1 by omega]; rfl, by omega, by omega, rfl, hlen, by rw [hstart, List.length_take]; omega, hk1, by omega, by rw [hstart], rfl, S.turn i e _ (fun hh => hh) fun _ hb => hb⟩ ?_
      clear S hcl rw0
      rintro m s g ⟨j, q, ys, rfl, hj1, hj, rfl, hyl, hq, hq1, hqj, hyt, hyd, S⟩
      have e2 : (W.set i (own 1 (some ⟨b, 0, none⟩) l c (ints ys)))[i]? = some (own 1 (some ⟨b, 0, none⟩) l c (ints ys)) := by rw [List.getElem?_set_self hiW]
      unfold slices_Compact_int_int_l9
      dsimp only
      refine ifB_dec (fun hlt2 => ?_) (fun hge2 => ?_)
      · have hjx : j < xs.length := by omega
        have row : Row g (some ⟨b, 0, none⟩) (ints ys) := (S.own i e2).row
        have g1 : ys[j]? = some xs[j] := by
          have := congrArg (fun z : List Int => z[1]?) hyd
          simp only [List.getElem?_drop] at this
          rw [show j - 1 + 1 = j by omega] at this
          rw [this, List.getElem?_eq_getElem hjx]
        have g2 : ys[j - 1]? = some xs[j - 1] := by
          have := congrArg (fun z : List Int => z[0]?) hyd
          simp only [List.getElem?_drop, Nat.add_zero] at this
          rw [this, List.getElem?_eq_getElem (by omega)]
        have c1 := row.cell (ints_get g1)
        have c2 := row.cell (ints_get g2)
        simp only [add_mk, Nat.zero_add] at c1 c2
        have ej1 : IntKind.wrap .i64 (((j - k : Nat) : Int) - 1) = ((j - k - 1 : Nat) : Int) := by rw [wrap64_in (by omega)]; omega
        rw [ej1]
        refine idxI_i rfl rfl (by omega) (idxI_i rfl rfl (by omega) ?_)
        simp only [Int.toNat_natCast, Nat.mul_one, add_mk]
        rw [show k + (j - k) = j by omega, show k + (j - k - 1) = j - 1 by omega]
        refine ldInt_i c1 (ldInt_i c2 (ifB_bne (fun hne => ?_) (fun heq => ?_)))
        · refine idxI_i rfl rfl (by omega) ?_
          simp only [Int.toNat_natCast, Nat.mul_one, add_mk]
          rw [show k + (j - k) = j by omega]
          refine ldInt_i c1 (idxI_i rfl rfl (by omega) ?_)
          try simp only [Int.toNat_natCast, Nat.mul_one]
          refine stO_S S i e2 (k := q) (by rw [ints_length]; omega) fun g3 _ S => ?_
          rw [ints_set', List.set_set] at S
          have hc := comp_succ (xs := xs) (i := j) (by omega) hjx
          rw [if_neg hne] at hc
          rw [wrap64_in (n := (q : Int) + 1) (by omega), wrap64_in (n := ((j - k : Nat) : Int) + 1) (by omega)]
          refine ⟨l - (j + 1), by omega, j + 1, q + 1, ys.set q xs[j], ?_, by omega, by omega, rfl, by rw [List.length_set]; exact hyl, by rw [hc, List.length_append, hq]; rfl, by omega, by omega, ?_, ?_, S⟩
          · rw [show j + 1 - k = (j - k) + 1 by omega]; rfl
          · rw [hc, ← hyt, List.take_succ_eq_append_getElem (by rw [List.length_set]; omega), List.getElem_set_self, List.take_set_of_le (Nat.le_refl _)]
          · rw [show j + 1 - 1 = j by omega, List.drop_set_of_lt (by omega)]
            have := congrArg (fun z : List Int => z.drop 1) hyd
            simp only [List.drop_drop] at this
            rw [show j - 1 + 1 = j by omega] at this
            exact this
        · have hc := comp_succ (xs := xs) (i := j) (by omega) hjx
          rw [if_pos heq] at hc
          rw [wrap64_in (n := ((j - k : Nat) : Int) + 1) (by omega)]
          refine ⟨l - (j + 1), by omega, j + 1, q, ys, ?_, by omega, by omega, rfl, hyl, by rw [hc]; exact hq, hq1, by omega, by rw [hc]; exact hyt, ?_, S⟩
          · rw [show j + 1 - k = (j - k) + 1 by omega]; rfl
          · rw [show j + 1 - 1 = j by omega]
            have := congrArg (fun z : List Int => z.drop 1) hyd
            simp only [List.drop_drop] at this
            rw [show j - 1 + 1 = j by omega] at this
            exact this
      · have hjl : j = l := by omega
        have hxt : xs.take j = xs := List.take_of_length_le (by omega)
        rw [hxt] at hq hyt
        have hlc := (S.own i e2).2.1
        refine bndI_i (n := q) rfl (by omega) ?_
        rw [if_neg (show ¬ c = q by omega)]
        simp only [Option.map_some, Nat.mul_one]
        have hz : (Builtin.zeroCells (Value.int .i64 0).cells (l - q)).toList = ints (List.replicate (l - q) 0) := by
          have : Builtin.zeroCells (Value.int .i64 0).cells (l - q) = ((List.replicate (l - q) [Value.int .i64 0]).flatten).toArray := by
            rw [← range_flat [Value.int .i64 0] 1 rfl (l - q)]
            apply Array.ext'
            simp [Builtin.zeroCells, Value.cells]
          rw [this, repl_one]; simp [ints]
        refine ⟨fun h => absurd h (by omega), fun _ => ?_⟩
        rw [hz]
        refine stLO_S S i e2 (k := q) (by rw [ints_length, ints_length, List.length_replicate]; omega) vals_one fun g3 _ S => ?_
        rw [List.set_set] at S
        refine bndI_i (n := q) rfl (by omega) ?_
        simp only [add_mk, ite_self, Nat.sub_zero, Nat.add_zero]
        refine ⟨q, rfl, ?_⟩
        have e3 := S.turn i (List.getElem?_set_self hiW) (own 1 (some ⟨b, 0, none⟩) q c (ints (comp xs))) (fun hh => ?_) (fun _ hb => hb)
        · rw [List.set_set] at e3; exact e3
        · have hp := Own.prefix1 hh (k := q) (by omega)
          have et : ((ints ys).take q ++ ints (List.replicate (l - q) 0) ++ (ints ys).drop (q + (ints (List.replicate (l - q) 0)).length)).take q = ints (comp xs) := by
            rw [List.append_assoc, List.take_append_of_le_length (by rw [List.length_take, ints_length]; omega), List.take_take, Nat.min_self, ints_take, hyt]
          rw [et] at hp
          exact hp
    · rw [wrap64_in (by omega)]
      refine ⟨l - (k + 1), by omega, k + 1, rfl, by omega, by omega, rfl, ?_, S⟩
      rw [comp_succ hk1 hkx, if_neg hd, hck, List.take_succ_eq_append_getElem hkx]
  · refine ⟨l, rfl, same S ?_⟩
    have : k = l := by omega
    subst this
    rw [List.take_of_length_le (by omega)] at hck
    exact hck
end

end Go.Proofs.YtbgplllcjhgdhaaDoor.G
