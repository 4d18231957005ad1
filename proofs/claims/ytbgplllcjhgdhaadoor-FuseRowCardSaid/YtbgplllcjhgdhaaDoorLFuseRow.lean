/- FuseRow: a node that weighs, with a row of Scale and Clamp behind it, takes as many as it may: the walk. -/
import Derived.Test.YtbgplllcjhgdhaaDoorCLaw21
namespace Go.Proofs.YtbgplllcjhgdhaaDoor.G
open Go Go.Sh
set_option linter.unusedVariables false
set_option linter.unusedSimpArgs false

/-- Which are Scale, by bits. -/
def sbit (bits : Int) (i : Nat) : Bool := andI .i64 (shrI bits (min (IntKind.wrap .u64 (i : Int)).toNat 64)) 1 == 1
theorem frB_len (bs : List Bool) : (frB bs).1.length = bs.length ∧ 0 ≤ (frB bs).2.2 ∧ (frB bs).2.2 ≤ (bs.length : Int) := by
  have key : ∀ (bs : List Bool) (st : FrS), 0 ≤ st.2.2 ∧ st.2.2 ≤ (st.1.length : Int) → (bs.foldl frStep st).1.length = st.1.length + bs.length ∧ 0 ≤ (bs.foldl frStep st).2.2 ∧ (bs.foldl frStep st).2.2 ≤ ((st.1.length + bs.length : Nat) : Int) := by
    intro bs
    induction bs with
    | nil => intro st h; exact ⟨rfl, h⟩
    | cons b r ih =>
      intro st h
      have h2 : 0 ≤ (frStep st b).2.2 ∧ (frStep st b).2.2 ≤ ((frStep st b).1.length : Int) := by
        unfold frStep
        simp only [List.length_append, List.length_singleton]
        split <;> omega
      have h3 : (frStep st b).1.length = st.1.length + 1 := by simp [frStep]
      have := ih (frStep st b) h2
      rw [List.foldl_cons, h3] at *
      simp only [List.length_cons]
      omega
  have := key bs ([], 0, 0) ⟨by decide, by decide⟩
  unfold frB
  simpa using this
theorem frB_snoc (bs : List Bool) (s : Bool) : frB (bs ++ [s]) = frStep (frB bs) s := by simp [frB, List.foldl_append]
theorem frOk_all (bs : List Bool) (h : bs.length ≤ 6) : frOk bs = true := by
  have hm := allBs_mem bs
  have hl : bs.length = 0 ∨ bs.length = 1 ∨ bs.length = 2 ∨ bs.length = 3 ∨ bs.length = 4 ∨ bs.length = 5 ∨ bs.length = 6 := by omega
  rcases hl with e | e | e | e | e | e | e <;> rw [e] at hm
  · exact List.all_eq_true.1 fr0 bs hm
  · exact List.all_eq_true.1 fr1 bs hm
  · exact List.all_eq_true.1 fr2 bs hm
  · exact List.all_eq_true.1 fr3 bs hm
  · exact List.all_eq_true.1 fr4 bs hm
  · exact List.all_eq_true.1 fr5 bs hm
  · exact List.all_eq_true.1 fr6 bs hm
theorem frX_small (s : Bool) (i : Nat) : (frX s i).inn.length < 2 ^ 20 ∧ (frX s i).weights.length < 2 ^ 20 ∧ (frX s i).bias.length < 2 ^ 20 := by cases s <;> exact ⟨by show 1 < 2 ^ 20; decide, by show 0 < 2 ^ 20; decide, by show 0 < 2 ^ 20; decide⟩
theorem frG_small (bs : List Bool) : ∀ n ∈ (frG bs).nodes, n.inn.length < 2 ^ 20 ∧ n.weights.length < 2 ^ 20 ∧ n.bias.length < 2 ^ 20 := by
  have key : ∀ (bs : List Bool) (st : FrS), (∀ n ∈ st.1, n.inn.length < 2 ^ 20 ∧ n.weights.length < 2 ^ 20 ∧ n.bias.length < 2 ^ 20) → ∀ n ∈ (bs.foldl frStep st).1, n.inn.length < 2 ^ 20 ∧ n.weights.length < 2 ^ 20 ∧ n.bias.length < 2 ^ 20 := by
    intro bs
    induction bs with
    | nil => intro st h; exact h
    | cons b r ih =>
      intro st h
      refine ih (frStep st b) fun n hn => ?_
      rcases List.mem_append.1 hn with hn | hn
      · exact h n hn
      · simp only [List.mem_singleton] at hn; subst hn; exact frX_small b _
  intro n hn
  rcases List.mem_cons.1 hn with rfl | hn
  · exact ⟨by show 1 < 2 ^ 20; decide, by show 1 < 2 ^ 20; decide, by show 1 < 2 ^ 20; decide⟩
  · exact key bs ([], 0, 0) (fun n hn => by cases hn) n hn

/-- A node of the row, as it lies. -/
def frV (s : Bool) (i bi : Nat) : Nv := if s then ⟨10, ⟨some ⟨bi, 0, none⟩, 1, 1, [(i : Int) + 1]⟩, 0, 0, 0, 0, 0, 0, Sl.nil, Sl.nil, 2, 0, 0, 0, 0⟩ else ⟨9, ⟨some ⟨bi, 0, none⟩, 1, 1, [(i : Int) + 1]⟩, 0, 0, 0, 0, 0, 0, Sl.nil, Sl.nil, 0, 0, 0, 50, 0⟩
theorem frV_nd (s : Bool) (i bi : Nat) : (frV s i bi).nd = frX s i := by cases s <;> rfl
theorem frV_ok (s : Bool) (i bi : Nat) : (frV s i bi).ok := by cases s <;> exact ⟨⟨rfl, Nat.le_refl _⟩, ⟨rfl, Nat.le_refl _⟩, ⟨rfl, Nat.le_refl _⟩⟩
theorem frV_rows {h : Heap} {s : Bool} {i bi : Nat} (a : At h bi (ints [(i : Int) + 1])) : (frV s i bi).rows.P h := by
  intro f hf
  cases s <;>
  · simp only [List.mem_cons, List.not_mem_nil, or_false] at hf
    rcases hf with rfl | rfl | rfl
    · exact Row.of_at a
    · exact Row.nil _ _
    · exact Row.nil _ _
theorem frV_foot {s : Bool} {i bi b : Nat} (h : (frV s i bi).rows.foot b) : b = bi := by
  obtain ⟨f, hf, hb⟩ := h
  cases s <;>
  · simp only [List.mem_cons, List.not_mem_nil, or_false] at hf
    rcases hf with rfl | rfl | rfl
    · obtain ⟨_, a, ha, hb⟩ := hb; cases ha; exact hb.symm
    · exact absurd rfl hb.1
    · exact absurd rfl hb.1

section
variable {h : Heap}

theorem FuseRow_ok (hT : KT h) (bits many : Int) : callP P n_law21_FuseRow #[.int .i64 bits, .int .i64 many] h fun v h' => v = .bool true ∧ Fra no h h' := by
  refine call_law21_FuseRow _ _ ?_
  unfold law21_FuseRow
  have S := (Sep.start h no).read (blk 0 (ints kindTab)) hT
  refine (awake21_ok hT).mono ?_
  rintro _ h1 ⟨rfl, F⟩
  replace S := S.fra0 F
  refine ⟨_, rfl, ?_⟩
  obtain ⟨k, hk6, ek⟩ : ∃ k : Nat, k ≤ 6 ∧ Int.tmod (IntKind.wrap .i64 (Int.tmod many 7 + 7)) 7 = (k : Int) := by
    have h1 := Int.tmod_lt_of_pos many (show (0 : Int) < 7 by decide)
    have h2 : -7 < Int.tmod many 7 := by
      have := Int.tmod_lt_of_pos (-many) (show (0 : Int) < 7 by decide)
      rw [Int.neg_tmod] at this; omega
    rw [wrap64_in (by omega)]
    have h3 := Int.tmod_lt_of_pos (Int.tmod many 7 + 7) (show (0 : Int) < 7 by decide)
    have h4 := Int.tmod_nonneg 7 (show 0 ≤ Int.tmod many 7 + 7 by omega)
    exact ⟨(Int.tmod (Int.tmod many 7 + 7) 7).toNat, by omega, by omega⟩
  rw [ek]
  have ek1 : IntKind.wrap .i64 ((k : Int) + 1) = (k : Int) + 1 := by rw [wrap64_in (by omega)]
  rw [ek1]
  refine newI_S (cs := ints [0]) S fun b3 h2 _ S => ?_
  dsimp only [List.cons_append, List.nil_append] at S
  refine newI_S (cs := ints [5]) S fun b5 h3 _ S => ?_
  dsimp only [List.cons_append, List.nil_append] at S
  refine newI_S (cs := ints [0]) S fun b7 h4 _ S => ?_
  dsimp only [List.cons_append, List.nil_append] at S
  obtain ⟨n0, en0⟩ : ∃ n0 : Nv, n0 = ⟨6, ⟨some ⟨b3, 0, none⟩, 1, 1, [0]⟩, 1, 0, 0, 0, 0, 0, ⟨some ⟨b5, 0, none⟩, 1, 1, [5]⟩, ⟨some ⟨b7, 0, none⟩, 1, 1, [0]⟩, 0, 0, 0, 0, 0⟩ := ⟨_, rfl⟩
  refine newI_S S fun b9 h5 _ S => ?_
  dsimp only [List.cons_append, List.nil_append] at S
  have S2 : Sep h no h5 [blk b3 (ints [0]), blk b5 (ints [5]), blk b7 (ints [0]), blk b9 n0.cells] [blk 0 (ints kindTab)] := by rw [en0]; exact S
  clear S
  have S := S2
  clear S2
  refine newI_S (cs := mkS' grSh (zT grSh)) S fun b11 h6 _ S => ?_
  dsimp only [List.cons_append, List.nil_append] at S
  refine stL_S S 4 rfl rfl (mkS_one (l := grSh) (x := (⟨1, 0, 9, some ⟨b9, 0, none⟩, 1, 1, (k : Int) + 1, []⟩ : Gv).t) rfl) fun h7 _ S => ?_
  dsimp only [List.set] at S
  replace S := S.toOwn 3 15 1 1 rfl (Nat.le_refl _)
  dsimp only [List.set] at S
  have e15 : n0.cells.take (1 * 15) = nflat [n0] := by
    rw [List.take_of_length_le (by rw [Nv.cells_length]; decide)]
    simp [nflat]
  rw [e15] at S
  have S2 := S.join [4, 3] [0, 1, 2]
  have S2 : Sep h no h7 [blk b11 (⟨1, 0, 9, some ⟨b9, 0, none⟩, 1, 1, (k : Int) + 1, []⟩ : Gv).cells, own 15 (some ⟨b9, 0, none⟩) 1 1 (nflat [n0]), reads [blk b3 (ints [0]), blk b5 (ints [5]), blk b7 (ints [0])]] [blk 0 (ints kindTab)] := S2
  have S3 := S2.turn 2 rfl (nrows [n0]) (fun H => by
    have h3 := H (blk b3 (ints [0])) (by simp)
    have h5 := H (blk b5 (ints [5])) (by simp)
    have h7 := H (blk b7 (ints [0])) (by simp)
    intro f hf
    simp only [List.map_cons, List.map_nil, List.mem_singleton] at hf
    subst hf
    intro f hf
    rw [en0] at hf
    simp only [List.mem_cons, List.not_mem_nil, or_false] at hf
    rcases hf with rfl | rfl | rfl
    · exact Row.of_at h3
    · exact Row.of_at h5
    · exact Row.of_at h7) (fun b hb => by
    obtain ⟨f, hf, hb⟩ := hb
    simp only [List.map_cons, List.map_nil, List.mem_singleton] at hf
    subst hf
    obtain ⟨f, hf, hb⟩ := hb
    rw [en0] at hf
    simp only [List.mem_cons, List.not_mem_nil, or_false] at hf
    rcases hf with rfl | rfl | rfl
    · obtain ⟨_, a, ha, hb⟩ := hb; cases ha; exact ⟨blk b3 (ints [0]), by simp, hb.symm⟩
    · obtain ⟨_, a, ha, hb⟩ := hb; cases ha; exact ⟨blk b5 (ints [5]), by simp, hb.symm⟩
    · obtain ⟨_, a, ha, hb⟩ := hb; cases ha; exact ⟨blk b7 (ints [0]), by simp, hb.symm⟩)
  dsimp only [List.set] at S3
  clear S S2
  have S := S3
  clear S3
  have n0ok : n0.ok := by rw [en0]; exact ⟨⟨rfl, Nat.le_refl _⟩, ⟨rfl, Nat.le_refl _⟩, ⟨rfl, Nat.le_refl _⟩⟩
  have n0nd : n0.nd = frBase := by rw [en0]; rfl
  refine LoopS_i (fun mm s g => ∃ (i : Nat) (p : Option Addr) (l c : Nat) (ns : List Nv) (bs : List Bool), s = (bits, true, (k : Int), ⟨b11, 0, none⟩, (frB bs).2.1, (k : Int) - (frB bs).2.2, (i : Int), ()) ∧ i ≤ k ∧ mm = k - i ∧ bs.length = i ∧ ns.map Nv.nd = frBase :: (frB bs).1 ∧ (∀ n ∈ ns, n.ok) ∧
    Sep h no g [blk b11 (⟨1, 0, 9, p, l, c, (k : Int) + 1, []⟩ : Gv).cells, own 15 p l c (nflat ns), nrows ns] [blk 0 (ints kindTab)]) k
    ⟨0, some ⟨b9, 0, none⟩, 1, 1, [n0], [], by simp [frB], by omega, rfl, rfl, by rw [List.map_cons, n0nd]; rfl, fun n hn => by simp only [List.mem_singleton] at hn; subst hn; exact n0ok, S⟩ ?_
  clear S
  rintro mm s g ⟨i, p, l, c, ns, bs, rfl, hi, rfl, hbl, hnd, hnok, S⟩
  obtain ⟨hfl, ht0, ht1⟩ := frB_len bs
  have hns : ns.length = l := by have := (S.own 1 rfl).1; rw [nflat_length] at this; omega
  have hnsl : ns.length = i + 1 := by have := congrArg List.length hnd; simp [hfl, hbl] at this; exact this
  obtain ⟨post, epost⟩ : ∃ post, (frB bs).2.1 = post := ⟨_, rfl⟩
  obtain ⟨t, et⟩ : ∃ t, (frB bs).2.2 = t := ⟨_, rfl⟩
  rw [et] at ht0 ht1
  unfold law21_FuseRow_l7
  dsimp only
  rw [epost, et]
  have eki : IntKind.wrap .i64 ((k : Int) - (i : Int)) = (k : Int) - (i : Int) := by rw [wrap64_in (by omega)]
  have hti : (((k : Int) - t) == ((k : Int) - (i : Int))) = (t == (i : Int)) := by
    rw [Bool.eq_iff_iff, beq_iff_eq, beq_iff_eq]; omega
  refine ifB_dec (fun hlt => ?_) (fun hge => ?_)
  · have ei1 : IntKind.wrap .i64 ((i : Int) + 1) = (i : Int) + 1 := by rw [wrap64_in (by omega)]
    rw [ei1, eki, hti]
    refine newI_S (cs := ints [(i : Int) + 1]) S fun b15 h16 _ S => ?_
    dsimp only [List.cons_append, List.nil_append] at S
    refine newI_S (cs := mkS' ndSh (zT ndSh)) S fun b17 h18 _ S => ?_
    dsimp only [List.cons_append, List.nil_append] at S
    refine stL_S S 4 rfl rfl (mkS_one (l := ndSh) (x := (frV false i b15).t) rfl) fun h19 _ S => ?_
    dsimp only [List.set] at S
    refine ⟨fun s g => s = (bits, true, (k : Int), ⟨b11, 0, none⟩, post, (k : Int) - t, (i : Int), ⟨b17, 0, none⟩, frTook post t false i, ()) ∧
      Sep h no g [blk b11 (⟨1, 0, 9, p, l, c, (k : Int) + 1, []⟩ : Gv).cells, own 15 p l c (nflat ns), nrows ns, blk b15 (ints [(i : Int) + 1]), blk b17 (frV false i b15).cells] [blk 0 (ints kindTab)], ?_, ?_⟩
    rotate_left
    · have eT : frTook post t false i = (andI .i64 post 2 == 0 && t == (i : Int)) := rfl
      refine ifB_known (fun hb => ⟨by rw [eT, hb]; rfl, S⟩) (fun hb => ⟨by rw [eT, hb]; rfl, S⟩)
    clear S
    rintro s g ⟨rfl, S⟩
    unfold law21_FuseRow_j11
    dsimp only
    obtain ⟨sb, esb⟩ : ∃ sb, sbit bits i = sb := ⟨_, rfl⟩
    refine ⟨fun s g => ∃ bi : Nat, s = (bits, true, (k : Int), ⟨b11, 0, none⟩, (if frTook post t sb i then (if sb then 1 else orI .i64 post 2) else post), (k : Int) - t, (i : Int), ⟨b17, 0, none⟩, frTook post t sb i, ()) ∧
      Sep h no g [blk b11 (⟨1, 0, 9, p, l, c, (k : Int) + 1, []⟩ : Gv).cells, own 15 p l c (nflat ns), nrows ns, blk bi (ints [(i : Int) + 1]), blk b17 (frV sb i bi).cells] [blk 0 (ints kindTab)], ?_, ?_⟩
    rotate_left
    · refine ⟨by rw [wrap_u64]; omega, ?_⟩
      rw [ei1, eki, hti]
      refine ifB_known (fun hb => ?_) (fun hb => ?_)
      · have hsb : sb = true := by rw [← esb]; exact hb
        subst hsb
        have eT : frTook post t true i = (post == 0 && t == (i : Int)) := rfl
        rw [eT]
        refine newI_S (cs := ints [(i : Int) + 1]) S fun b38 h39 _ S => ?_
        dsimp only [List.cons_append, List.nil_append] at S
        refine stL_S S 4 rfl rfl (mkS_one (l := ndSh) (x := (frV true i b38).t) rfl) fun h40 _ S => ?_
        dsimp only [List.set] at S
        have S2 := S.pw [0, 1, 2, 5, 4]
        refine ifB_known (fun hp => ifB_known (fun hq => ⟨b38, ?_, S2⟩) (fun hq => ⟨b38, ?_, S2⟩)) (fun hp => ⟨b38, ?_, S2⟩)
        · rw [hp, hq]; rfl
        · rw [hp, hq]; rfl
        · rw [hp]; rfl
      · have hsb : sb = false := by rw [← esb]; exact hb
        subst hsb
        refine ifB_known (fun hp => ⟨b15, ?_, S⟩) (fun hp => ⟨b15, ?_, S⟩)
        · rw [hp]; rfl
        · rw [hp]; rfl
    clear S
    rintro s g ⟨bi, rfl, S⟩
    unfold law21_FuseRow_j18
    simp only [add_mk, Nat.zero_add]
    rw [ei1]
    have hstep : frB (bs ++ [sb]) = frStep (frB bs) sb := frB_snoc bs sb
    have e1 : (frStep (frB bs) sb).2.1 = if frTook post t sb i then (if sb then 1 else orI .i64 post 2) else post := by
      unfold frStep; dsimp only; rw [epost, et, hfl, hbl]
    have e2 : (frStep (frB bs) sb).2.2 = if frTook post t sb i then t + 1 else t := by
      unfold frStep; dsimp only; rw [epost, et, hfl, hbl]
    have e3 : (frStep (frB bs) sb).1 = (frB bs).1 ++ [frX sb i] := by unfold frStep; dsimp only; rw [hfl, hbl]
    have app : ∀ (left : Int), (k : Int) - (frB (bs ++ [sb])).2.2 = left → ldSlice g ⟨b11, 3, none⟩ fun p24 l24 c24 => ldAg ndSh g ⟨b17, 0, none⟩ fun x25 => newI g (.cells (mkS' ndSh x25).toArray 25 (0, 0)) fun b26 h27 =>
        appI 25 15 168 (agS ndSh (zT ndSh)) p24 l24 c24 (some ⟨b26, 0, none⟩) 1 h27 fun p28 l28 c28 h29 => stI h29 ⟨b11, 3, none⟩ (.slice p28 l28 c28) fun h30 =>
        ∃ m', m' < k - i ∧ ∃ (i' : Nat) (p : Option Addr) (l c : Nat) (ns : List Nv) (bs' : List Bool), ((bits, true, (k : Int), ⟨b11, 0, none⟩, (if frTook post t sb i then (if sb then 1 else orI .i64 post 2) else post), left, (i : Int) + 1, ()) : Int × Bool × Int × Addr × Int × Int × Int × Unit) = (bits, true, (k : Int), ⟨b11, 0, none⟩, (frB bs').2.1, (k : Int) - (frB bs').2.2, (i' : Int), ()) ∧ i' ≤ k ∧ m' = k - i' ∧ bs'.length = i' ∧ ns.map Nv.nd = frBase :: (frB bs').1 ∧ (∀ n ∈ ns, n.ok) ∧
          Sep h no h30 [blk b11 (⟨1, 0, 9, p, l, c, (k : Int) + 1, []⟩ : Gv).cells, own 15 p l c (nflat ns), nrows ns] [blk 0 (ints kindTab)] := fun left hleft => by
      refine ldSlice_i (p := p) (l := l) (c := c) (S.cell 0 rfl rfl) ?_
      refine ldAg_S S 4 rfl (x := (frV sb i bi).t) rfl ?_
      refine newI_S S fun b26 h27 _ S => ?_
      dsimp only [List.cons_append, List.nil_append] at S
      refine appI_S S 1 (ys := (frV sb i bi).cells) rfl rfl (by decide) (by omega) (Row.of_at (S.at 5 rfl)) rfl (mkS_one rfl) fun p28 l28 c28 h29 hl28 S => ?_
      dsimp only [List.set] at S
      refine stI_S S 0 rfl (Nat.le_of_ble_eq_true rfl) fun h30 _ S => ?_
      dsimp only [List.set] at S
      have S2 := S.turn 3 rfl (frV sb i bi).rows (fun hh => frV_rows hh) (fun b hb => frV_foot hb)
      dsimp only [List.set] at S2
      have S3 := S2.joinR [0, 1] 2 3 rfl rfl
      dsimp only [Sh.pick, List.getElem?_cons_zero, List.getElem?_cons_succ, List.cons_append, List.nil_append] at S3
      refine ⟨k - (i + 1), by omega, i + 1, p28, l28, c28, ns ++ [frV sb i bi], bs ++ [sb], ?_, by omega, rfl, by simp [hbl], ?_, ?_, ?_⟩
      · rw [hleft, hstep, e1]; rfl
      · rw [List.map_append, hnd, hstep, e3, List.map_cons, List.map_nil, frV_nd]; rfl
      · intro n hn
        rcases List.mem_append.1 hn with hn | hn
        · exact hnok n hn
        · simp only [List.mem_singleton] at hn; subst hn; exact frV_ok _ _ _
      · have en : nflat (ns ++ [frV sb i bi]) = nflat ns ++ (frV sb i bi).cells := by rw [nflat_append]; simp [nflat]
        have er : nrows (ns ++ [frV sb i bi]) = reads (ns.map Nv.rows ++ [(frV sb i bi).rows]) := by unfold nrows; rw [List.map_append]; rfl
        rw [en, er]; exact S3
    refine ifB_known (fun hb => ?_) (fun hb => ?_)
    · have ew : IntKind.wrap .i64 ((k : Int) - t - 1) = (k : Int) - t - 1 := by rw [wrap64_in (by omega)]
      rw [ew]
      exact app _ (by rw [hstep, e2, hb]; simp; omega)
    · exact app _ (by rw [hstep, e2, hb]; simp)
  · have hik : i = k := by omega
    subst hik
    obtain ⟨gv, egv⟩ : ∃ gv : Gv, gv = ⟨1, 0, 9, p, l, c, (i : Int) + 1, ns⟩ := ⟨_, rfl⟩
    have hgr : gv.gr = frG bs := by
      rw [egv]
      show Gr.mk 1 0 9 (ns.map Nv.nd) _ = _
      rw [hnd]; unfold frG; rw [hbl]
    have hok : gv.ok := by rw [egv]; exact ⟨hns, (S.own 1 rfl).2.1, hnok⟩
    have hsz : ∀ n ∈ gv.ns, n.inn.l < 2 ^ 20 ∧ n.weights.l < 2 ^ 20 ∧ n.bias.l < 2 ^ 20 := fun n hn => by
      have hm : n.nd ∈ (frG bs).nodes := by rw [← hgr]; exact List.mem_map_of_mem hn
      have := frG_small bs n.nd hm
      have ok := hok.2.2 n hn
      have e1 : n.nd.inn.length = n.inn.l := ok.1.1
      have e2 : n.nd.weights.length = n.weights.l := ok.2.1.1
      have e3 : n.nd.bias.length = n.bias.l := ok.2.2.1
      omega
    refine ldAg_S S 0 rfl (x := (⟨1, 0, 9, p, l, c, (i : Int) + 1, ns⟩ : Gv).t) rfl ?_
    have F := Fuse_ok sorted_spec hok (by rw [egv]; exact (S.own 1 rfl).row) (by rw [egv]; exact S.w 2 _ rfl) (by rw [egv]; show l < 2 ^ 20; omega) (fun n hn => by have := hsz n hn; omega) (S.r 0 _ rfl)
    rw [egv] at F
    refine callP.mono F ?_
    rintro _ h12 ⟨g2, rfl, egr, ok2, S1⟩
    rw [← egv, hgr] at egr
    replace S := S.add S1 fun _ _ h => h
    dsimp only [List.cons_append, List.nil_append] at S
    refine exS_i g2.t ⟨rfl, ?_⟩
    refine newI_S (cs := mkS' grSh (zT grSh)) S fun b45 h13 _ S => ?_
    dsimp only [List.cons_append, List.nil_append] at S
    refine stL_S S 6 rfl rfl (mkS_one rfl) fun h14 _ S => ?_
    dsimp only [List.set] at S
    have fine := frOk_all bs (by omega)
    unfold frOk at fine
    simp only [Bool.and_eq_true, beq_iff_eq] at fine
    rw [← egr, epost, et, hbl] at fine
    obtain ⟨⟨⟨f1, f2⟩, f3⟩, f4⟩ := fine
    have hg2 : g2.gr.nodes.length = g2.l := by rw [← ok2.1]; simp [Gv.gr]
    have ew : IntKind.wrap .i64 ((i : Int) - t + 1) = (i : Int) - t + 1 := by rw [wrap64_in (by omega)]
    rw [ew]
    refine ifB_true rfl ?_
    refine ldSlice_i (p := g2.p) (l := g2.l) (c := g2.c) (S.cell 6 rfl rfl) (ifB_beq (fun _ => ?_) (fun hh => absurd (by omega) hh))
    have hl0 : 0 < g2.ns.length := by rw [ok2.1]; omega
    obtain ⟨m0, e0⟩ : ∃ m0, g2.ns[0]? = some m0 := ⟨_, List.getElem?_eq_getElem hl0⟩
    have hpost : m0.post = post := by
      have : (g2.gr.nodes.map Nd.post).head? = some m0.post := by
        show ((g2.ns.map Nv.nd).map Nd.post).head? = _
        rw [List.head?_eq_getElem?, List.getElem?_map, List.getElem?_map, e0]; rfl
      rw [this] at f2
      exact Option.some.inj f2
    obtain ⟨a, ea⟩ := (S.own 3 rfl).row.some_of (by rw [nflat_length]; omega)
    have hr2 : Row h14 (some a) (nflat g2.ns) := by rw [← ea]; exact (S.own 3 rfl).row
    refine ldSlice_i (p := g2.p) (l := g2.l) (c := g2.c) (S.cell 6 rfl rfl) (idxI_i ea (k := 0) rfl (by omega) ?_)
    simp only [Int.toNat_zero]
    have ldp : cellH h14 ((a.add (0 * 15)).add 14) = some (.int .i64 m0.post) := by
      have := hr2.cell (i := 0 * 15 + 14) (v := .int .i64 m0.post) (by rw [nflat_at e0 (by decide)]; rfl)
      rw [add_add _ _ (by decide)]; exact this
    refine ldInt_i ldp (ifB_beq (fun _ => ?_) (fun hh => absurd hpost hh))
    refine ldInt_i (n := g2.out) (S.cell 6 rfl rfl) (ifB_beq (fun _ => ?_) (fun hh => absurd f3 hh))
    refine ldAg_S S 6 rfl (x := g2.t) rfl ?_
    have hsz2 := kin_small (B := 2 ^ 20) (frG_small bs) ok2 egr
    have hkl : g2.l < 2 ^ 20 := by omega
    refine (Look16_ok ok2 (S.own 3 rfl).row (nrowsO (S.w 4 _ rfl) (S.w 5 _ rfl)) hkl (fun n hn => by have := hsz2 n hn; omega)).mono ?_
    rintro _ h15 ⟨o, w, r, rfl, _, _, _, _, _, _, S1⟩
    refine ⟨_, _, _, _, _, _, _, _, _, _, rfl, ?_, (S.fra0 S1.fra).fra⟩
    rw [f4]; rfl
end
end Go.Proofs.YtbgplllcjhgdhaaDoor.G
