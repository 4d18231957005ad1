/- How far nodes reach: that there are such numbers, and how large they may be; the document's helpers. -/
import Derived.Test.YtbgplllcjhgdhaaDoorCGood2
import Derived.Test.YtbgplllcjhgdhaaDoorCRef16c
import Derived.Test.YtbgplllcjhgdhaaDoorGenZ
namespace Go.Proofs.YtbgplllcjhgdhaaDoor.G
open Go Go.Sh
set_option linter.unusedVariables false
set_option linter.unusedSimpArgs false

/-- Values, node by node, along an order. -/
theorem val_ex {ns : List Nd} (h : (ordG ns).length = ns.length) (v0 : Int) (F : Nat → Nd → List Int → Int) : ∃ V : Int → Int, V 0 = v0 ∧ ∀ (i : Nat) (n : Nd), ns[i]? = some n → V ((i : Int) + 1) = F i n (n.inn.map V) := by
  have key : ∀ k, ∃ V : Int → Int, V 0 = v0 ∧ ∀ (i : Nat) (n : Nd), ns[i]? = some n → ((i : Int) + 1) ∈ ordK ns k → V ((i : Int) + 1) = F i n (n.inn.map V) := by
    intro k
    induction k with
    | zero => exact ⟨fun _ => v0, rfl, fun i n _ hi => by simp [ordK] at hi; omega⟩
    | succ k ih =>
      obtain ⟨V, h0, hV⟩ := ih
      rcases stepO_cases ns (ordK ns k) with e | ⟨q, m, em, q1, q2, e⟩
      · rw [show ordK ns (k + 1) = ordK ns k from e]; exact ⟨V, h0, hV⟩
      · have e : ordK ns (k + 1) = ordK ns k ++ [(q : Int) + 1] := e
        have key2 : ∀ (v : Int) (l : List Int), (∀ j ∈ l, j ∈ ordK ns k) → l.map (fun x => if x = (q : Int) + 1 then v else V x) = l.map V := fun v l hl => List.map_congr_left fun j hj => if_neg (fun (h : j = (q : Int) + 1) => q1 (h ▸ hl j hj))
        refine ⟨fun x => if x = (q : Int) + 1 then F q m (m.inn.map V) else V x, by dsimp only; rw [if_neg (by omega)]; exact h0, fun i n en hi => ?_⟩
        dsimp only
        rw [e] at hi
        by_cases hk : ((i : Int) + 1) ∈ ordK ns k
        · have hne : ¬ ((i : Int) + 1 = (q : Int) + 1) := fun h => q1 (h ▸ hk)
          rw [key2 _ _ (fun j hj => (ordK_rank ns k i n en hk j hj).1), if_neg hne]
          exact hV i n en hk
        · have hiq : i = q := by
            rcases List.mem_append.1 hi with h | h
            · exact absurd h hk
            · simp only [List.mem_singleton] at h; omega
          subst hiq
          rw [em] at en; cases en
          rw [key2 _ _ q2, if_pos rfl]
  obtain ⟨V, h0, hV⟩ := key ns.length
  refine ⟨V, h0, fun i n en => hV i n en ?_⟩
  have := (List.getElem?_eq_some_iff.1 en).1
  rw [ordK_cons]
  exact List.mem_cons_of_mem _ (ordG_all h (by omega) (by omega))
theorem reach_ex {ns : List Nd} (h : (ordG ns).length = ns.length) (R : Int → Int) : ∃ Lo Hi, Reach ns R Lo Hi := by
  obtain ⟨Lo, l0, hL⟩ := val_ex h 0 fun i n l => if 0 < R ((i : Int) + 1) then leastL l - (n.inn.map R).getD 0 0 * n.leftN else 0
  obtain ⟨Hi, h0, hH⟩ := val_ex h 0 fun i n l => if 0 < R ((i : Int) + 1) then mostL l + (n.inn.map R).getD 0 0 * (n.span - 1 - n.leftN) else 0
  exact ⟨Lo, Hi, l0, h0, hL, hH⟩

theorem least_mem : ∀ (l : List Int) (a : Int), l.foldl (fun x y => if y < x then y else x) a = a ∨ l.foldl (fun x y => if y < x then y else x) a ∈ l
  | [], a => .inl rfl
  | y :: r, a => by
    rw [List.foldl_cons]
    rcases least_mem r (if y < a then y else a) with h | h
    · rw [h]
      split
      · exact .inr List.mem_cons_self
      · exact .inl rfl
    · exact .inr (List.mem_cons_of_mem _ h)
theorem most_mem : ∀ (l : List Int) (a : Int), l.foldl (fun x y => if y > x then y else x) a = a ∨ l.foldl (fun x y => if y > x then y else x) a ∈ l
  | [], a => .inl rfl
  | y :: r, a => by
    rw [List.foldl_cons]
    rcases most_mem r (if y > a then y else a) with h | h
    · rw [h]
      split
      · exact .inr List.mem_cons_self
      · exact .inl rfl
    · exact .inr (List.mem_cons_of_mem _ h)
theorem leastL_mem {l : List Int} (h : 1 ≤ l.length) : leastL l ∈ l := by
  have hd : l.getD 0 0 ∈ l := by rw [getD_eq (by omega)]; exact List.getElem_mem _
  rcases least_mem l (l.getD 0 0) with h | h
  · unfold leastL; rw [h]; exact hd
  · exact h
theorem mostL_mem {l : List Int} (h : 1 ≤ l.length) : mostL l ∈ l := by
  have hd : l.getD 0 0 ∈ l := by rw [getD_eq (by omega)]; exact List.getElem_mem _
  rcases most_mem l (l.getD 0 0) with h | h
  · unfold mostL; rw [h]; exact hd
  · exact h

/-- How large a right node's numbers are. -/
theorem chk_size {n : Nd} {ws : List Int} (h : n.chk ws = 0) : (0 ≤ n.size ∧ n.size ≤ 8) ∧ (0 ≤ n.gap ∧ n.gap ≤ 4) ∧ (0 ≤ n.leftN ∧ n.leftN ≤ 31) ∧ (0 ≤ n.span - 1 - n.leftN ∧ n.span - 1 - n.leftN ≤ 31) ∧ (1 ≤ n.span ∧ n.span ≤ 32) ∧ (1 ≤ stepN n.kind n.step ∧ stepN n.kind n.step ≤ 4) := by
  obtain ⟨c1, c2, c3, c4, c5, c6, c7, c8, c9, c10, c11, c12⟩ := chk_ok h
  obtain ⟨e1, e2, _⟩ := c9
  obtain ⟨s1, s2, _⟩ := c10
  have esp : n.span = if n.kind = 12 then n.size else if four n.kind then (n.size - 1) * n.gap + 1 else 1 := rfl
  unfold Nd.leftN stepN
  rw [esp]
  by_cases h12 : n.kind = 12
  · have h4 : ¬ four n.kind := by rintro (h | h | h | h) <;> omega
    have := s1 (.inr h12)
    have := e1 h4
    rw [if_pos h12, if_pos h12, if_neg h4]
    omega
  · rw [if_neg h12, if_neg h12]
    by_cases h4 : four n.kind
    · have hs := s1 (.inl h4)
      have h42 := s2 h4
      rw [esp, if_neg h12, if_pos h4] at h42
      rw [if_pos h4, if_pos h4, if_pos h4]
      obtain ⟨⟨a1, a2⟩, ⟨b1, b2⟩, ⟨d1, d2⟩, _⟩ := h42
      have hg : n.gap = 1 ∨ n.gap = 2 ∨ n.gap = 3 ∨ n.gap = 4 := by omega
      rcases hg with g | g | g | g <;> rw [g] at d2 ⊢ <;> omega
    · have h0 := e2 ⟨h4, h12⟩
      have := e1 h4
      rw [if_neg h4, if_neg h4, if_neg h4]
      omega

theorem pow4_le {a b : Nat} (h : a ≤ b) : (4 : Int) ^ a ≤ 4 ^ b := by
  have := Nat.pow_le_pow_right (show 0 < 4 by decide) h
  exact_mod_cast this
theorem right_rate {g : Gr} {W R : Int → Int} (r : Right g W R (posG g.nodes)) : ∀ (p : Nat) (x : Int), posG g.nodes x = p → 0 ≤ x → x ≤ (g.nodes.length : Int) → 0 ≤ R x ∧ R x ≤ 4 ^ p := by
  intro p
  induction p using Nat.strongRecOn with
  | ind p ih =>
    intro x hp h0 h1
    refine ⟨r.rates h0 h1, ?_⟩
    by_cases hx : x = 0
    · subst hx
      rw [r.r0]
      have := pow4_le (Nat.zero_le p)
      simpa using this
    · obtain ⟨i, rfl⟩ : ∃ i : Nat, x = (i : Int) + 1 := ⟨(x - 1).toNat, by omega⟩
      obtain ⟨n, en⟩ : ∃ n, g.nodes[i]? = some n := ⟨_, List.getElem?_eq_getElem (by omega)⟩
      have hc := r.chk i n en
      have hlen : 1 ≤ n.inn.length := by have := (chk_ok hc).2.1; rw [List.length_map] at this; exact this
      obtain ⟨j, t, ej⟩ : ∃ j t, n.inn = j :: t := by
        cases hn : n.inn with
        | nil => rw [hn] at hlen; simp at hlen
        | cons j t => exact ⟨j, t, rfl⟩
      have hj : j ∈ n.inn := by rw [ej]; simp
      have hjr := (first_ok r.first).2.2.2.2.2 n (List.mem_of_getElem? en) j hj
      have hpj := posG_rank r.ordered en hj
      have ihj := ih (posG g.nodes j) (by omega) j rfl hjr.1 hjr.2
      have hst := (chk_size hc).2.2.2.2.2
      have hrat := r.rat i n en
      rw [r.rid i n en]
      have e1 : (n.inn.map R).getD 0 0 = R j := by rw [ej]; rfl
      have hp4 : (4 : Int) ^ (posG g.nodes j + 1) ≤ 4 ^ p := pow4_le (by omega)
      rw [Int.pow_succ] at hp4
      have hpos : (1 : Int) ≤ 4 ^ p := by have := pow4_le (Nat.zero_le p); simpa using this
      have hm : R j * stepN n.kind n.step ≤ 4 ^ posG g.nodes j * 4 := Int.mul_le_mul ihj.2 hst.2 (by omega) (by omega)
      unfold rateN
      rw [e1]
      split
      · omega
      · split
        · omega
        · split
          · omega
          · omega
theorem right_reach {g : Gr} {W R Lo Hi : Int → Int} (r : Right g W R (posG g.nodes)) (c : Reach g.nodes R Lo Hi) : ∀ (p : Nat) (x : Int), posG g.nodes x = p → 0 ≤ x → x ≤ (g.nodes.length : Int) → (-(p * 2 ^ 30) ≤ Lo x ∧ Lo x ≤ p * 2 ^ 30) ∧ (-(p * 2 ^ 30) ≤ Hi x ∧ Hi x ≤ p * 2 ^ 30) := by
  intro p
  induction p using Nat.strongRecOn with
  | ind p ih =>
    intro x hp h0 h1
    by_cases hx : x = 0
    · subst hx
      rw [c.l0, c.h0]; omega
    · obtain ⟨i, rfl⟩ : ∃ i : Nat, x = (i : Int) + 1 := ⟨(x - 1).toNat, by omega⟩
      obtain ⟨n, en⟩ : ∃ n, g.nodes[i]? = some n := ⟨_, List.getElem?_eq_getElem (by omega)⟩
      have hc := r.chk i n en
      have hlen : 1 ≤ n.inn.length := by have := (chk_ok hc).2.1; rw [List.length_map] at this; exact this
      have hz := chk_size hc
      have hn12 := (first_ok r.first).2.1
      have hR : 0 ≤ (n.inn.map R).getD 0 0 ∧ (n.inn.map R).getD 0 0 ≤ 2 ^ 24 := by
        obtain ⟨j, t, ej⟩ : ∃ j t, n.inn = j :: t := by
          cases hn : n.inn with
          | nil => rw [hn] at hlen; simp at hlen
          | cons j t => exact ⟨j, t, rfl⟩
        have hj : j ∈ n.inn := by rw [ej]; simp
        have hjr := (first_ok r.first).2.2.2.2.2 n (List.mem_of_getElem? en) j hj
        have := right_rate r _ j rfl hjr.1 hjr.2
        have hp12 : (4 : Int) ^ posG g.nodes j ≤ 4 ^ 12 := pow4_le (by have := posG_le g.nodes j; omega)
        have e1 : (n.inn.map R).getD 0 0 = R j := by rw [ej]; rfl
        rw [e1]; omega
      have m1 : 0 ≤ (n.inn.map R).getD 0 0 * n.leftN ∧ (n.inn.map R).getD 0 0 * n.leftN ≤ 2 ^ 24 * 31 := ⟨Int.mul_nonneg hR.1 hz.2.2.1.1, Int.mul_le_mul hR.2 hz.2.2.1.2 hz.2.2.1.1 (by omega)⟩
      have m2 : 0 ≤ (n.inn.map R).getD 0 0 * (n.span - 1 - n.leftN) ∧ (n.inn.map R).getD 0 0 * (n.span - 1 - n.leftN) ≤ 2 ^ 24 * 31 := ⟨Int.mul_nonneg hR.1 hz.2.2.2.1.1, Int.mul_le_mul hR.2 hz.2.2.2.1.2 hz.2.2.2.1.1 (by omega)⟩
      have each : ∀ j ∈ n.inn, (-((p - 1 : Int) * 2 ^ 30) ≤ Lo j ∧ Lo j ≤ (p - 1 : Int) * 2 ^ 30) ∧ (-((p - 1 : Int) * 2 ^ 30) ≤ Hi j ∧ Hi j ≤ (p - 1 : Int) * 2 ^ 30) := fun j hj => by
        have hjr := (first_ok r.first).2.2.2.2.2 n (List.mem_of_getElem? en) j hj
        have hpj := posG_rank r.ordered en hj
        have := ih (posG g.nodes j) (by omega) j rfl hjr.1 hjr.2
        omega
      have h1l : 1 ≤ (n.inn.map Lo).length := by rw [List.length_map]; exact hlen
      have h1h : 1 ≤ (n.inn.map Hi).length := by rw [List.length_map]; exact hlen
      obtain ⟨j1, hj1, e1⟩ := List.mem_map.1 (leastL_mem h1l)
      obtain ⟨j2, hj2, e2⟩ := List.mem_map.1 (mostL_mem h1h)
      have b1 := (each j1 hj1).1
      have b2 := (each j2 hj2).2
      rw [c.lo i n en, c.hi i n en, ← e1, ← e2]
      split <;> omega

/-! the helpers -/
section
variable {h : Heap}

theorem of19_ok {lp ip : Option Addr} {ll lc il ic : Nat} {xs js : List Int} (hx : Row h lp (ints xs)) (hj : Row h ip (ints js)) (hl : xs.length = ll) (hil : js.length = il) (hb : il < 2 ^ 20) (hr : ∀ j ∈ js, 0 ≤ j ∧ j < (xs.length : Int)) :
    callP P n_ref19_of #[.slice lp ll lc, .slice ip il ic] h fun v h' => ∃ (p : Option Addr) (c : Nat), v = .slice p il c ∧ Sep h no h' [own 1 p il c (ints (pickG xs js))] [] := by
  refine call_ref19_of _ _ _ _ _ _ ?_
  unfold ref19_of
  have S := (((Sep.start h no).read (row lp (ints xs)) hx).read (row ip (ints js)) hj).nil 1
  dsimp only [List.nil_append, List.cons_append] at S
  refine LoopS_i (fun mm s g => ∃ (t : Nat) (p : Option Addr) (l c : Nat), s = ((lp, ll, lc), (ip, il, ic), (p, l, c), (t : Int), ()) ∧ t ≤ il ∧ mm = il - t ∧ l = t ∧ Sep h no g [own 1 p l c (ints (pickG xs (js.take t)))] [row lp (ints xs), row ip (ints js)]) il ⟨0, none, 0, 0, rfl, by omega, rfl, rfl, S⟩ ?_
  clear S
  rintro mm s g ⟨t, p, l, c, rfl, ht, rfl, rfl, S⟩
  unfold ref19_of_l3
  dsimp only
  refine ifB_dec (fun hlt => ?_) (fun hge => ?_)
  · have htj : l < js.length := by omega
    have irow := S.row 1 rfl
    obtain ⟨ia, eia⟩ := irow.some_of (by rw [ints_length]; omega)
    rw [eia] at irow
    refine idxI_i eia rfl (by omega) ?_
    simp only [Int.toNat_natCast, Nat.mul_one]
    refine ldInt_i (irow.cell (ints_get (List.getElem?_eq_getElem htj))) ?_
    have hjr := hr _ (List.getElem_mem htj)
    obtain ⟨x, ex⟩ : ∃ x : Nat, js[l] = (x : Int) := ⟨js[l].toNat, by omega⟩
    rw [ex] at hjr ⊢
    have xrow := S.row 0 rfl
    obtain ⟨xa, exa⟩ := xrow.some_of (by rw [ints_length]; omega)
    rw [exa] at xrow
    refine idxI_i exa (k := x) rfl (by omega) ?_
    simp only [Int.toNat_natCast, Nat.mul_one]
    refine ldInt_i (xrow.cell (ints_get (List.getElem?_eq_getElem (show x < xs.length by omega)))) ?_
    refine newI_S (cs := [.int .i64 xs[x]]) S fun b6 g2 _ S => ?_
    dsimp only [List.cons_append, List.nil_append] at S
    refine appI_S S 0 (ys := ints [xs[x]]) rfl rfl (by decide) (by omega) (Row.of_at (S.at 1 rfl)) rfl vals_one fun p2 l2 c2 g3 hl2 S => ?_
    dsimp only [List.set] at S
    have e : ints (pickG xs (js.take l)) ++ ints [xs[x]] = ints (pickG xs (js.take (l + 1))) := by
      rw [List.take_succ_eq_append_getElem htj, ex]
      have : pickG xs (js.take l ++ [(x : Int)]) = pickG xs (js.take l) ++ [xs[x]] := by
        unfold pickG
        rw [List.map_append, List.map_cons, List.map_nil, Int.toNat_natCast, getD_eq (by omega)]
      rw [this]
      simp only [ints, List.map_append, List.map_cons, List.map_nil]
    rw [e] at S
    rw [wrap64_in (by omega)]
    exact ⟨il - (l + 1), by omega, l + 1, p2, l2, c2, rfl, by omega, rfl, hl2, S.pw [0]⟩
  · have : l = il := by omega
    subst this
    rw [List.take_of_length_le (by omega)] at S
    exact ⟨p, c, rfl, noR S⟩

theorem least19_ok {p : Option Addr} {l c : Nat} {xs : List Int} (hx : Row h p (ints xs)) (hl : xs.length = l) (h1 : 1 ≤ l) (hb : l < 2 ^ 40) : callP P n_ref19_least #[.slice p l c] h fun v h' => v = .int .i64 (leastL xs) ∧ h' = h := by
  refine call_ref19_least _ _ _ ?_
  unfold ref19_least
  obtain ⟨a, ea⟩ := hx.some_of (by rw [ints_length]; omega)
  subst ea
  refine idxI_i rfl (k := 0) rfl (by omega) ?_
  refine ldInt_i (n := xs.getD 0 0) (hx.cell (i := 0) (ints_get (by rw [List.getElem?_eq_getElem (by omega), getD_eq (by omega)]))) ?_
  refine LoopS_i (fun mm s g => g = h ∧ ∃ t : Nat, s = ((some a, l, c), (xs.take t).foldl (fun x y => if y < x then y else x) (xs.getD 0 0), (t : Int), ()) ∧ t ≤ l ∧ mm = l - t) l ⟨rfl, 0, rfl, by omega, rfl⟩ ?_
  rintro mm s g ⟨rfl, t, rfl, ht, rfl⟩
  unfold ref19_least_l3
  dsimp only
  refine ifB_dec (fun hlt => ?_) (fun hge => ?_)
  · have htx : t < xs.length := by omega
    refine idxI_i rfl rfl (by omega) ?_
    simp only [Int.toNat_natCast, Nat.mul_one]
    refine ldInt_i (hx.cell (ints_get (List.getElem?_eq_getElem htx))) ?_
    rw [wrap64_in (by omega)]
    refine ⟨l - (t + 1), by omega, by trivial, t + 1, ?_, by omega, rfl⟩
    rw [List.take_succ_eq_append_getElem htx, List.foldl_append]; rfl
  · rw [List.take_of_length_le (by omega)]
    exact ⟨rfl, rfl⟩
theorem most19_ok {p : Option Addr} {l c : Nat} {xs : List Int} (hx : Row h p (ints xs)) (hl : xs.length = l) (h1 : 1 ≤ l) (hb : l < 2 ^ 40) : callP P n_ref19_most #[.slice p l c] h fun v h' => v = .int .i64 (mostL xs) ∧ h' = h := by
  refine call_ref19_most _ _ _ ?_
  unfold ref19_most
  obtain ⟨a, ea⟩ := hx.some_of (by rw [ints_length]; omega)
  subst ea
  refine idxI_i rfl (k := 0) rfl (by omega) ?_
  refine ldInt_i (n := xs.getD 0 0) (hx.cell (i := 0) (ints_get (by rw [List.getElem?_eq_getElem (by omega), getD_eq (by omega)]))) ?_
  refine LoopS_i (fun mm s g => g = h ∧ ∃ t : Nat, s = ((some a, l, c), (xs.take t).foldl (fun x y => if y > x then y else x) (xs.getD 0 0), (t : Int), ()) ∧ t ≤ l ∧ mm = l - t) l ⟨rfl, 0, rfl, by omega, rfl⟩ ?_
  rintro mm s g ⟨rfl, t, rfl, ht, rfl⟩
  unfold ref19_most_l3
  dsimp only
  refine ifB_dec (fun hlt => ?_) (fun hge => ?_)
  · have htx : t < xs.length := by omega
    refine idxI_i rfl rfl (by omega) ?_
    simp only [Int.toNat_natCast, Nat.mul_one]
    refine ldInt_i (hx.cell (ints_get (List.getElem?_eq_getElem htx))) ?_
    rw [wrap64_in (by omega)]
    refine ⟨l - (t + 1), by omega, by trivial, t + 1, ?_, by omega, rfl⟩
    rw [List.take_succ_eq_append_getElem htx, List.foldl_append]; rfl
  · rw [List.take_of_length_le (by omega)]
    exact ⟨rfl, rfl⟩
theorem Left14_ok (nv : Nv) (hs : -2 ^ 20 ≤ nv.size ∧ nv.size ≤ 2 ^ 20) : callP P n_ref14_Left #[nv.v] h fun v h' => v = .int .i64 nv.nd.leftN ∧ Fra no h h' := by
  refine call_ref14_Left _ ?_
  unfold ref14_Left
  have S := Sep.start h no
  refine newI_S (cs := nv.cells) S fun b1 h1 _ S => ?_
  dsimp only [List.nil_append] at S
  have e : nv.nd.leftN = if nv.kind = 12 then nv.size - 1 else if four nv.kind then nv.left else 0 := rfl
  rw [e]
  refine ldInt_i (n := nv.kind) (S.cell 0 rfl rfl) (ifB_beq (fun h12 => ?_) (fun h12 => ?_))
  · refine ldInt_i (n := nv.size) (S.cell 0 rfl rfl) ?_
    rw [wrap64_in (by omega), if_pos h12]
    exact ⟨rfl, S.fra⟩
  · rw [if_neg h12]
    refine ldInt_i (n := nv.kind) (S.cell 0 rfl rfl) ?_
    refine (four14_ok nv.kind).mono ?_
    rintro _ g2 ⟨rfl, rfl⟩
    refine ⟨_, rfl, ifB_dec (fun h4 => ?_) (fun h4 => ?_)⟩
    · refine ldInt_i (n := nv.left) (S.cell 0 rfl rfl) ?_
      rw [if_pos h4]; exact ⟨rfl, S.fra⟩
    · rw [if_neg h4]; exact ⟨rfl, S.fra⟩
theorem Cost17_ok {nv : Nv} (hok : nv.ok) (hr : nv.rows.P h) (hli : nv.inn.l < 2 ^ 62) (hlw : nv.weights.l < 2 ^ 62) (hlb : nv.bias.l < 2 ^ 62) {w : Int} (hc : wei nv.kind → nv.nd.chk [w] = 0) :
    callP P n_ref17_Cost #[nv.v, .int .i64 w] h fun v h' => v = .int .i64 (nv.nd.cost : Int) ∧ Fra no h h' := by
  refine call_ref17_Cost _ _ ?_
  unfold ref17_Cost
  have S := (Sep.start h no).read nv.rows hr
  refine newI_S (cs := nv.cells) S fun b1 h1 _ S => ?_
  dsimp only [List.nil_append] at S
  have e : nv.nd.cost = if wei nv.kind then nv.weights.xs.length else 0 := rfl
  have wl : nv.weights.xs.length = nv.weights.l := hok.2.1.1
  rw [wl] at e
  rw [e]
  have go : ∀ g, Sep h no g [blk b1 nv.cells] [nv.rows] → wei nv.kind → ldAg A2 g ⟨b1, 0, none⟩ fun x6 => newI g (.cells #[(.int .i64 w)] 3 (0, 0)) fun b7 h8 => callInt P .i64 n_ref14_Check #[(agS A2 x6), (.slice (some ⟨b7, 0, none⟩) 1 1)] h8 fun n10 h9 =>
      ifB (n10 != (0 : Int)) ((fun v h' => v = Value.int .i64 ((if wei nv.kind then nv.weights.l else 0 : Nat) : Int) ∧ Fra no h h') (.int .i64 (0 : Int)) h9) (ldSlice h9 ⟨b1, 8, none⟩ fun p11 l11 c11 => (fun v h' => v = Value.int .i64 ((if wei nv.kind then nv.weights.l else 0 : Nat) : Int) ∧ Fra no h h') (.int .i64 ((l11 : Nat) : Int)) h9) := by
    intro g S hw
    refine ldAg_S S 0 rfl (x := nv.t) rfl ?_
    refine newI_S (cs := [.int .i64 w]) S fun b7 h8 _ S => ?_
    dsimp only [List.cons_append, List.nil_append] at S
    have wrow : Row h8 (some ⟨b7, 0, none⟩) (ints [w]) := Row.of_at (S.at 1 rfl)
    refine (Check14_ok hok (S.r 0 _ rfl) hli hlw hlb wrow rfl (by show 1 < 2 ^ 56; decide)).mono ?_
    rintro _ h9 ⟨rfl, F⟩
    replace S := S.fra0 F
    rw [hc hw]
    refine ⟨_, rfl, ifB_false (by decide) ?_⟩
    refine ldSlice_i (p := nv.weights.p) (l := nv.weights.l) (c := nv.weights.c) (S.cell 0 rfl rfl) ?_
    rw [if_pos hw]
    exact ⟨rfl, S.fra⟩
  refine ldInt_i (n := nv.kind) (S.cell 0 rfl rfl) (ifB_bne (fun k1 => ?_) (fun k1 => go _ S (.inl k1)))
  refine ldInt_i (n := nv.kind) (S.cell 0 rfl rfl) (ifB_bne (fun k2 => ?_) (fun k2 => go _ S (.inr (.inl k2))))
  refine ldInt_i (n := nv.kind) (S.cell 0 rfl rfl) (ifB_bne (fun k6 => ?_) (fun k6 => go _ S (.inr (.inr k6))))
  rw [if_neg (by rintro (h | h | h); exact k1 h; exact k2 h; exact k6 h)]
  exact ⟨rfl, S.fra⟩
end
end Go.Proofs.YtbgplllcjhgdhaaDoor.G
