/- Contracts: the rest of package wake, the document's wake (earshotref25), and what the laws of layer 25 use. -/
import Derived.Test.YtoobckjlkopikaaCWake
namespace Go.Proofs.Ytoobckjlkopikaa.G
open Go Go.Sh
set_option linter.unusedVariables false

theorem rRight_ok {h : Heap} (a b c : Int) : callP P n_ref25_Right #[.agg #[.int .i64 a, .int .i64 b, .int .i64 c]] h fun v h' => v = .bool (decide (b ≤ a ∧ 1 ≤ c ∧ c ≤ 255)) ∧ Fra no h h' := by
  refine call_ref25_Right _ _ _ ?_
  unfold ref25_Right
  refine newI_i (cs := [.int .i64 a, .int .i64 b, .int .i64 c]) fun b1 h1 hb1 hs1 hat1 hf1 => ?_
  refine ldInt_i (hat1.cell rfl) (ldInt_i (hat1.cell rfl) ?_)
  refine ifB_dec (fun h1 => ?_) (fun h1 => ⟨by simp [h1], hf1⟩)
  refine ldInt_i (hat1.cell rfl) ?_
  refine ifB_dec (fun h2 => ?_) (fun h2 => ⟨by have : ¬ 1 ≤ c := h2; simp [this], hf1⟩)
  refine ldInt_i (hat1.cell rfl) ⟨?_, hf1⟩
  have : 1 ≤ c := h2
  simp [h1, this]

theorem rPush_ok {h : Heap} {b : Nat} {w : Wt} {m : Mk} {p : Option Addr} {l c : Nat} {xs : List Int} (hk : Wk h b w m) (hm : Mok w m) (hw : w.hold ≤ 255) (hx : Row h p (ints xs)) (hp : ∀ a, p = some a → xs ≠ [] → a.block ≠ b)
    (hxl : xs.length = l) (hl : l ≤ 2 ^ 40) (hc : -2 ^ 62 ≤ m.cnt ∧ m.cnt + l < 2 ^ 63) :
    callP P n_ref25_Wake_Push #[.pointer (some ⟨b, 0, none⟩), .slice p l c] h (PushPost w m xs b h) := by
  refine call_ref25_Wake_Push _ _ _ _ ?_
  unfold ref25_Wake_Push
  have hb := hk.lt
  refine LoopS_i (fun n s h1 => Fra (fun i => i = b) h h1 ∧ ∃ (i : Nat) (o : Option Addr) (k d : Nat), s = (some ⟨b, 0, none⟩, (p, l, c), (o, k, d), (i : Int), ()) ∧ i ≤ l ∧ n = l - i ∧
    Own h1 h.size 2 o k d (evs (wrun w m (xs.take i)).2) ∧ Wk h1 b w (wrun w m (xs.take i)).1) l ⟨Fra.refl _ _, 0, none, 0, 0, rfl, by omega, by omega, Own.nil _ _ _, hk⟩ ?_
  rintro n s h1 ⟨hf, i, o, k, d, rfl, hi, rfl, ho, hwk⟩
  unfold ref25_Wake_Push_l3
  dsimp only
  refine ifB_dec (fun hlt => ?_) (fun hge => ?_)
  · have hlt : i < l := by omega
    have hlt' : i < xs.length := by omega
    have hx1 := hx.frame hf (fun a ha _ => hp a ha (by rintro rfl; simp at hlt'))
    obtain ⟨a, rfl⟩ := hx.some_of (by rw [ints_length]; omega)
    refine idxI_i rfl rfl hlt ?_
    simp only [Int.toNat_natCast, Nat.mul_one]
    refine ldInt_i (hx1.cell (ints_get (List.getElem?_eq_getElem hlt'))) ?_
    have hstep := wrun_take_succ w m hlt'
    have hcnt := wrun_cnt w (xs.take i) m
    have hlen := wrun_len w (xs.take i) m
    have hok := wrun_ok (xs.take i) hm
    rw [List.length_take, Nat.min_eq_left (by omega)] at hcnt hlen
    generalize hmm : (wrun w m (xs.take i)).1 = mm at *
    generalize hee : (wrun w m (xs.take i)).2 = ee at *
    have hk2 : k * 2 = ee.length * 2 := by rw [← ho.1, evs_length]
    have hsz := hf.size
    refine ⟨fun s h5 => Fra (fun i => i = b) h h5 ∧ ∃ (o' : Option Addr) (k' d' : Nat) (mq : Mk) (ev : List (Int × Bool)), s = (some ⟨b, 0, none⟩, (some a, l, c), (o', k', d'), (i : Int), ()) ∧ mq.cnt = mm.cnt ∧ Wk h5 b w mq ∧
      wstep w mm xs[i] = (⟨mm.cnt + 1, mq.str, mq.on⟩, ev) ∧ Own h5 h.size 2 o' k' d' (evs (ee ++ ev)), ?_, ?_⟩
    · rintro s h5 ⟨hf5, o', k', d', mq, ev, rfl, hmq, hwk5, hst, ho5⟩
      unfold ref25_Wake_Push_j17
      dsimp only
      refine nilI_some ?_
      rw [add_mk]
      refine ldInt_i (hwk5.cell rfl) (nilI_some ?_)
      rw [add_mk, hmq, wrap64_in (by omega), wrap64_in (by omega)]
      refine stI_i hwk5 (by simp) fun h3 hs3 hat3 hf3 => ?_
      refine ⟨l - (i + 1), by omega, hf5.trans hf3, i + 1, o', k', d', rfl, by omega, rfl, ?_, ?_⟩
      · rw [hstep, hst]
        exact ho5.frame hf3 (fun j hj _ => by omega)
      · rw [hstep, hst]; exact hat3
    · have evt : ∀ (e : Nat) (h2 : Heap) (mq : Mk) (bb : Bool), Fra (fun i => i = b) h1 h2 → Wk h2 b w mq → mq.cnt = mm.cnt → mq.on = bb → wstep w mm xs[i] = (⟨mm.cnt + 1, mq.str, mq.on⟩, [(mm.cnt, bb)]) →
          nilI (some ⟨b, 0, none⟩) fun a16 => ldInt .i64 h2 (Addr.add a16 3) fun n17 => newI h2 (.cells #[.int .i64 n17, .bool bb] e (0, 0)) fun b18 h19 =>
          appI e 2 16 (.agg #[.int .i64 0, .bool false]) o k d (some ⟨b18, 0, none⟩) 1 h19 fun p20 l20 c20 h21 =>
            Fra (fun i => i = b) h h21 ∧ ∃ (o' : Option Addr) (k' d' : Nat) (mq : Mk) (ev : List (Int × Bool)), ((some ⟨b, 0, none⟩, (some a, l, c), (p20, l20, c20), (i : Int), ()) : Option Addr × (Option Addr × Nat × Nat) × (Option Addr × Nat × Nat) × Int × Unit) = (some ⟨b, 0, none⟩, (some a, l, c), (o', k', d'), (i : Int), ()) ∧ mq.cnt = mm.cnt ∧ Wk h21 b w mq ∧
              wstep w mm xs[i] = (⟨mm.cnt + 1, mq.str, mq.on⟩, ev) ∧ Own h21 h.size 2 o' k' d' (evs (ee ++ ev)) := by
        intro e h2 mq bb hf2 hwk2 hmq hbb hst
        refine nilI_some ?_
        rw [add_mk]
        refine ldInt_i (hwk2.cell rfl) ?_
        rw [hmq]
        refine newI_i (cs := [.int .i64 mm.cnt, .bool bb]) fun b5 h5 hb5 hs5 hat5 hf5 => ?_
        have hsz2 := hf2.size
        refine appI_own (xs := evs ee) (ys := evs [(mm.cnt, bb)]) ((ho.frame hf2 (fun j hj _ => by omega)).frame0 hf5) (by omega) rfl (by omega) (by omega) (Row.of_at hat5) rfl (evs_one _) ?_
        intro p' l' c' h6 hl' ho6 hf6 hs6
        refine ⟨((hf.trans hf2).trans hf5.weak).two hf6 (by omega), p', l', c', mq, _, rfl, hmq, hf6.at (hf5.at0 hwk2) (by omega), hst, ?_⟩
        rw [evs_append]; exact ho6
      have still : ∀ (h2 : Heap) (mq : Mk), Fra (fun i => i = b) h1 h2 → Wk h2 b w mq → mq.cnt = mm.cnt → wstep w mm xs[i] = (⟨mm.cnt + 1, mq.str, mq.on⟩, []) →
            Fra (fun i => i = b) h h2 ∧ ∃ (o' : Option Addr) (k' d' : Nat) (mq : Mk) (ev : List (Int × Bool)), ((some ⟨b, 0, none⟩, (some a, l, c), (o, k, d), (i : Int), ()) : Option Addr × (Option Addr × Nat × Nat) × (Option Addr × Nat × Nat) × Int × Unit) = (some ⟨b, 0, none⟩, (some a, l, c), (o', k', d'), (i : Int), ()) ∧ mq.cnt = mm.cnt ∧ Wk h2 b w mq ∧
              wstep w mm xs[i] = (⟨mm.cnt + 1, mq.str, mq.on⟩, ev) ∧ Own h2 h.size 2 o' k' d' (evs (ee ++ ev)) := by
        intro h2 mq hf2 hwk2 hmq hst
        refine ⟨hf.trans hf2, o, k, d, mq, [], rfl, hmq, hwk2, hst, ?_⟩
        rw [List.append_nil]; exact ho.frame hf2 (fun j hj _ => by omega)
      have hok1 := hok.1
      have hok2 := hok.2.1
      refine nilI_some ?_
      rw [add_mk]
      refine ldBool_i (hwk.cell rfl) ?_
      refine ifB_i (fun hon => ?_) (fun hoff => ?_)
      · refine nilI_some ?_
        rw [add_mk]
        refine ldInt_i (hwk.cell rfl) ?_
        refine ifB_dec (fun hs => ?_) (fun hs => ?_)
        · refine nilI_some ?_
          rw [add_mk]
          refine stI_i hwk (by simp) fun h3 hs3 hat3 hf3 => ?_
          refine evt _ h3 ⟨mm.cnt, mm.str, false⟩ false hf3 hat3 rfl rfl ?_
          simp only [wstep, hon, if_true, if_pos hs, hok.2.2 hon]
        · refine nilI_some ?_
          rw [add_mk]
          refine ldBool_i (hwk.cell rfl) (ifB_false (by simp [hon]) (nilI_some ?_))
          rw [add_mk]
          refine ldBool_i (hwk.cell rfl) (ifB_false (by simp [hon]) (still _ mm (Fra.refl _ _) hwk rfl ?_))
          simp only [wstep, hon, if_true, if_neg hs]
      · refine nilI_some ?_
        rw [add_mk]
        refine ldBool_i (hwk.cell rfl) (ifB_true (by simp [hoff]) (nilI_some ?_))
        refine ldInt_i (hwk.cell rfl) ?_
        refine ifB_dec (fun hs => ?_) (fun hs => ?_)
        · refine nilI_some ?_
          rw [add_mk]
          refine ldInt_i (hwk.cell rfl) (nilI_some ?_)
          rw [add_mk, wrap64_in (by omega)]
          refine stI_i hwk (by simp) fun h3 hs3 hat3 hf3 => nilI_some (nilI_some ?_)
          rw [add_mk, add_mk]
          refine ldInt_i (hat3.cell rfl) (ldInt_i (hat3.cell rfl) ?_)
          have h1 : ¬ xs[i] < w.on := by omega
          refine ifB_i (fun he => nilI_some ?_) (fun he => ?_)
          · rw [add_mk]
            refine stI_i hat3 (by simp) fun h4 hs4 hat4 hf4 => nilI_some ?_
            rw [add_mk]
            refine stI_i hat4 (by simp) fun h5 hs5 hat5 hf5 => ?_
            have he : mm.str + 1 = w.hold := by simpa using he
            refine evt _ h5 ⟨mm.cnt, 0, true⟩ true ((hf3.trans hf4).trans hf5) hat5 rfl rfl ?_
            simp only [wstep, hoff, Bool.false_eq_true, if_false, if_neg h1, if_pos he]
          · have he : ¬ mm.str + 1 = w.hold := by simpa using he
            refine still h3 ⟨mm.cnt, mm.str + 1, false⟩ hf3 ?_ rfl ?_
            · have := hat3; rw [hoff] at this; exact this
            · simp only [wstep, hoff, Bool.false_eq_true, if_false, if_neg h1, if_neg he]
        · refine nilI_some ?_
          rw [add_mk]
          refine ldBool_i (hwk.cell rfl) (ifB_true (by simp [hoff]) (nilI_some ?_))
          rw [add_mk]
          refine stI_i hwk (by simp) fun h3 hs3 hat3 hf3 => ?_
          refine still h3 ⟨mm.cnt, 0, false⟩ hf3 ?_ rfl ?_
          · have := hat3; rw [hoff] at this; exact this
          · have h1 : xs[i] < w.on := by omega
            simp only [wstep, hoff, Bool.false_eq_true, if_false, if_pos h1]
  · have hil : i = l := by omega
    rw [List.take_of_length_le (by omega)] at ho hwk
    refine ⟨o, k, d, rfl, ho, ?_, hwk, hf⟩
    have := ho.1
    rw [evs_length] at this
    omega

theorem esame_ok {p q : Option Addr} {l c l' c' : Nat} {h : Heap} {xs ys : List (Int × Bool)} (hx : Row h p (evs xs)) (hxl : xs.length = l) (hy : Row h q (evs ys)) (hyl : ys.length = l') (hb : l < 2 ^ 62) :
    callP P n_ref25_Same #[.slice p l c, .slice q l' c'] h fun v h' => v = .bool (decide (xs = ys)) ∧ h' = h := by
  refine call_ref25_Same _ _ _ _ _ _ ?_
  unfold ref25_Same
  refine ifB_i (fun e => ?_) (fun e => ?_)
  · have hne : l ≠ l' := by simp at e; omega
    exact ⟨by rw [decide_eq_false]; intro hh; subst hh; omega, rfl⟩
  · have hle : l = l' := by simp at e; omega
    refine LoopS_i (fun m s h' => h' = h ∧ ∃ i : Nat, s = ((p, l, c), (q, l', c'), (i : Int), ()) ∧ i ≤ l ∧ m = l - i ∧ xs.take i = ys.take i) l ⟨rfl, 0, rfl, by omega, by omega, rfl⟩ ?_
    rintro m s h' ⟨rfl, i, rfl, hi, rfl, ht⟩
    unfold ref25_Same_l4
    dsimp only
    refine ifB_dec (fun hlt => ?_) (fun hge => ?_)
    · have hlt : i < l := by omega
      obtain ⟨a, rfl⟩ := hx.some_of (by rw [evs_length]; omega)
      obtain ⟨b, rfl⟩ := hy.some_of (by rw [evs_length]; omega)
      refine idxI_i rfl rfl hlt (idxI_i rfl rfl (by omega) ?_)
      simp only [Int.toNat_natCast]
      have ex := evs_at (es := xs) (i := i) (by omega)
      have ey := evs_at (es := ys) (i := i) (by omega)
      refine ldInt_i (hx.cell ex.1) (ldBool_i (by rw [add_add _ _ (by omega)]; exact hx.cell ex.2) (ldInt_i (hy.cell ey.1) (ldBool_i (by rw [add_add _ _ (by omega)]; exact hy.cell ey.2) ?_)))
      have key : (xs[i].1 == ys[i].1 && (xs[i].2 == ys[i].2 && true)) = decide (xs[i] = ys[i]) := by
        rw [Bool.eq_iff_iff]; simp [Prod.ext_iff]
      rw [key]
      refine ifB_i (fun e => ?_) (fun e => ?_)
      · refine ⟨?_, by trivial⟩
        rw [decide_eq_false]
        intro hh
        subst hh
        simp at e
      · rw [wrap64_in (by omega)]
        refine ⟨l - (i + 1), by omega, by trivial, i + 1, rfl, by omega, rfl, ?_⟩
        rw [List.take_succ_eq_append_getElem (by omega), List.take_succ_eq_append_getElem (by omega), ht]
        congr 2
        simpa using e
    · refine ⟨?_, by trivial⟩
      have : i = l := by omega
      rw [decide_eq_true]
      rw [List.take_of_length_le (by omega), List.take_of_length_le (by omega)] at ht
      exact ht

theorem Mark_ok {h : Heap} {b : Nat} {w : Wt} {m : Mk} (hk : Wk h b w m) : callP P n_wake_Wake_Mark #[.pointer (some ⟨b, 0, none⟩)] h fun v h' => v = .agg #[.int .i64 m.cnt, .int .i64 m.str, .bool m.on] ∧ Fra no h h' := by
  refine call_wake_Wake_Mark _ ?_
  unfold wake_Wake_Mark
  refine newI_i (cs := [.int .i64 0, .int .i64 0, .bool false]) fun b1 h1 hb1 hs1 hat1 hf1 => ?_
  have hb := hk.lt
  have hk1 := hf1.at0 hk
  refine ifB_false rfl (nilI_some ?_)
  rw [add_mk, add_mk, add_mk]
  refine ldInt_i (hk1.cell rfl) (ldInt_i (hk1.cell rfl) (ldBool_i (hk1.cell rfl) ?_))
  refine stI_i hat1 (by simp) fun h2 hs2 hat2 hf2 => stI_i hat2 (by simp) fun h3 hs3 hat3 hf3 => stI_i hat3 (by simp) fun h4 hs4 hat4 hf4 => ?_
  exact ldInt_i (hat4.cell rfl) (ldInt_i (hat4.cell rfl) (ldBool_i (hat4.cell rfl) ⟨rfl, ((hf1.one hf2 (by omega)).one hf3 (by omega)).one hf4 (by omega)⟩))

theorem Mark_nil {h : Heap} : callP P n_wake_Wake_Mark #[.pointer none] h fun v h' => v = .agg #[.int .i64 0, .int .i64 0, .bool false] ∧ Fra no h h' := by
  refine call_wake_Wake_Mark _ ?_
  unfold wake_Wake_Mark
  refine newI_i (cs := [.int .i64 0, .int .i64 0, .bool false]) fun b1 h1 hb1 hs1 hat1 hf1 => ?_
  refine ifB_true rfl ?_
  refine stI_i hat1 (by simp) fun h2 hs2 hat2 hf2 => stI_i hat2 (by simp) fun h3 hs3 hat3 hf3 => stI_i hat3 (by simp) fun h4 hs4 hat4 hf4 => ?_
  exact ldInt_i (hat4.cell rfl) (ldInt_i (hat4.cell rfl) (ldBool_i (hat4.cell rfl) ⟨rfl, ((hf1.one hf2 (by omega)).one hf3 (by omega)).one hf4 (by omega)⟩))

theorem Count_ok {h : Heap} {b : Nat} {w : Wt} {m : Mk} (hk : Wk h b w m) : callP P n_wake_Wake_Count #[.pointer (some ⟨b, 0, none⟩)] h fun v h' => v = .int .i64 m.cnt ∧ Fra no h h' := by
  refine call_wake_Wake_Count _ ?_
  unfold wake_Wake_Count
  refine (Mark_ok hk).mono ?_
  rintro v h1 ⟨rfl, hf1⟩
  exact ⟨_, _, _, rfl, rfl, hf1⟩
theorem Count_nil {h : Heap} : callP P n_wake_Wake_Count #[.pointer none] h fun v h' => v = .int .i64 0 ∧ Fra no h h' := by
  refine call_wake_Wake_Count _ ?_
  unfold wake_Wake_Count
  refine Mark_nil.mono ?_
  rintro v h1 ⟨rfl, hf1⟩
  exact ⟨_, _, _, rfl, rfl, hf1⟩

theorem On_ok {h : Heap} {b : Nat} {w : Wt} {m : Mk} (hk : Wk h b w m) : callP P n_wake_Wake_On #[.pointer (some ⟨b, 0, none⟩)] h fun v h' => v = .bool m.on ∧ h' = h := by
  refine call_wake_Wake_On _ ?_
  unfold wake_Wake_On
  refine ifB_true rfl (nilI_some ?_)
  rw [add_mk]
  exact ldBool_i (hk.cell rfl) ⟨rfl, rfl⟩
theorem On_nil {h : Heap} : callP P n_wake_Wake_On #[.pointer none] h fun v h' => v = .bool false ∧ h' = h := by
  refine call_wake_Wake_On _ ?_
  unfold wake_Wake_On
  exact ifB_false rfl ⟨rfl, rfl⟩

theorem Reset_ok {h : Heap} {b : Nat} {w : Wt} {m : Mk} (hk : Wk h b w m) : callP P n_wake_Wake_Reset #[.pointer (some ⟨b, 0, none⟩)] h fun v h' => v = .tuple #[] ∧ Wk h' b w ⟨0, 0, false⟩ ∧ Fra (fun i => i = b) h h' := by
  refine call_wake_Wake_Reset _ ?_
  unfold wake_Wake_Reset
  refine ifB_true rfl (nilI_some ?_)
  rw [add_mk, add_mk, add_mk]
  exact stI_i hk (by simp) fun h1 hs1 hat1 hf1 => stI_i hat1 (by simp) fun h2 hs2 hat2 hf2 => stI_i hat2 (by simp) fun h3 hs3 hat3 hf3 => ⟨rfl, hat3, (hf1.trans hf2).trans hf3⟩
theorem Reset_nil {h : Heap} : callP P n_wake_Wake_Reset #[.pointer none] h fun v h' => v = .tuple #[] ∧ h' = h := by
  refine call_wake_Wake_Reset _ ?_
  unfold wake_Wake_Reset
  exact ifB_false rfl ⟨rfl, rfl⟩

/-- May a wake of this watch have the mark? -/
def may (w : Wt) (m : Mk) : Prop := 0 ≤ m.cnt ∧ m.cnt ≤ 2 ^ 62 ∧ 0 ≤ m.str ∧ m.str < w.hold ∧ m.str ≤ m.cnt ∧ (m.on = true → m.str = 0 ∧ w.hold ≤ m.cnt)
instance (w : Wt) (m : Mk) : Decidable (may w m) := by unfold may; infer_instance

theorem Set_yes {h : Heap} {b : Nat} {w : Wt} {m0 m : Mk} (hk : Wk h b w m0) (hm : may w m) : callP P n_wake_Wake_Set #[.pointer (some ⟨b, 0, none⟩), .agg #[.int .i64 m.cnt, .int .i64 m.str, .bool m.on]] h fun v h' =>
    v = .int .i64 0 ∧ Wk h' b w m ∧ Fra (fun i => i = b) h h' := by
  obtain ⟨h1, h2, h3, h4, h5, h6⟩ := hm
  refine call_wake_Wake_Set _ _ _ _ ?_
  unfold wake_Wake_Set
  refine newI_i (cs := [.int .i64 m.cnt, .int .i64 m.str, .bool m.on]) fun b1 g1 hb1 hs1 hat1 hf1 => ?_
  have hb := hk.lt
  have hk1 := hf1.at0 hk
  refine ifB_false rfl (ldInt_i (hat1.cell rfl) (ifB_false (by simp; omega) (ldInt_i (hat1.cell rfl) (ifB_false (by simp; omega) (ldInt_i (hat1.cell rfl) (ifB_false (by simp; omega) (nilI_some ?_)))))))
  rw [add_mk]
  refine ldInt_i (hat1.cell rfl) (ldInt_i (hk1.cell rfl) (ifB_false (by simp; omega) (ldInt_i (hat1.cell rfl) (ldInt_i (hat1.cell rfl) (ifB_false (by simp; omega) (ldBool_i (hat1.cell rfl) ?_))))))
  have fin : ldInt .i64 g1 ⟨b1, 0, none⟩ fun n16 => ldInt .i64 g1 ⟨b1, 1, none⟩ fun n17 => ldBool g1 ⟨b1, 2, none⟩ fun b18 => nilI (some ⟨b, 0, none⟩) fun a19 =>
      stI g1 (Addr.add a19 3) (.int .i64 n16) fun h20 => stI h20 (Addr.add a19 4) (.int .i64 n17) fun h21 => stI h21 (Addr.add a19 5) (.bool b18) fun h22 => (Value.int .i64 0 = .int .i64 0 ∧ Wk h22 b w m ∧ Fra (fun i => i = b) h h22) := by
    refine ldInt_i (hat1.cell rfl) (ldInt_i (hat1.cell rfl) (ldBool_i (hat1.cell rfl) (nilI_some ?_)))
    rw [add_mk, add_mk, add_mk]
    exact stI_i hk1 (by simp) fun g2 hs2 hat2 hf2 => stI_i hat2 (by simp) fun g3 hs3 hat3 hf3 => stI_i hat3 (by simp) fun g4 hs4 hat4 hf4 => ⟨rfl, hat4, ((hf1.weak.trans hf2).trans hf3).trans hf4⟩
  refine ifB_i (fun hon => ?_) (fun hoff => fin)
  obtain ⟨h7, h8⟩ := h6 hon
  refine ldInt_i (hat1.cell rfl) (ifB_false (by simp; omega) (nilI_some ?_))
  rw [add_mk]
  exact ldInt_i (hat1.cell rfl) (ldInt_i (hk1.cell rfl) (ifB_false (by simp; omega) fin))

theorem Set_no {h : Heap} {b : Nat} {w : Wt} {m0 m : Mk} (hk : Wk h b w m0) (hm : ¬ may w m) : callP P n_wake_Wake_Set #[.pointer (some ⟨b, 0, none⟩), .agg #[.int .i64 m.cnt, .int .i64 m.str, .bool m.on]] h fun v h' =>
    v = .int .i64 1 ∧ Fra no h h' := by
  refine call_wake_Wake_Set _ _ _ _ ?_
  unfold wake_Wake_Set
  refine newI_i (cs := [.int .i64 m.cnt, .int .i64 m.str, .bool m.on]) fun b1 g1 hb1 hs1 hat1 hf1 => ?_
  have hk1 := hf1.at0 hk
  have err : Value.int .i64 1 = .int .i64 1 ∧ Fra no h g1 := ⟨rfl, hf1⟩
  refine ifB_false rfl (ldInt_i (hat1.cell rfl) (ifB_dec (fun _ => err) fun h1 => ldInt_i (hat1.cell rfl) (ifB_dec (fun _ => err) fun h2 => ldInt_i (hat1.cell rfl) (ifB_dec (fun _ => err) fun h3 => nilI_some ?_))))
  rw [add_mk]
  refine ldInt_i (hat1.cell rfl) (ldInt_i (hk1.cell rfl) (ifB_dec (fun _ => err) fun h4 => ldInt_i (hat1.cell rfl) (ldInt_i (hat1.cell rfl) (ifB_dec (fun _ => err) fun h5 => ldBool_i (hat1.cell rfl) ?_))))
  refine ifB_i (fun hon => ?_) (fun hoff => ?_)
  · refine ldInt_i (hat1.cell rfl) (ifB_dec (fun _ => err) fun h6 => nilI_some ?_)
    rw [add_mk]
    refine ldInt_i (hat1.cell rfl) (ldInt_i (hk1.cell rfl) (ifB_dec (fun _ => err) fun h7 => ?_))
    exact absurd ⟨by omega, by omega, by omega, by omega, by omega, fun _ => ⟨by omega, by omega⟩⟩ hm
  · exact absurd ⟨by omega, by omega, by omega, by omega, by omega, fun e => by rw [hoff] at e; cases e⟩ hm

theorem Set_nil {h : Heap} (a b : Int) (c : Bool) : callP P n_wake_Wake_Set #[.pointer none, .agg #[.int .i64 a, .int .i64 b, .bool c]] h fun v h' => v = .int .i64 1 ∧ Fra no h h' := by
  refine call_wake_Wake_Set _ _ _ _ ?_
  unfold wake_Wake_Set
  refine newI_i (cs := [.int .i64 a, .int .i64 b, .bool c]) fun b1 g1 hb1 hs1 hat1 hf1 => ?_
  exact ifB_true rfl ⟨rfl, hf1⟩

theorem May_ok {h : Heap} {b : Nat} {w : Wt} {m0 m : Mk} (hk : Wk h b w m0) : callP P n_ref25_Wake_May #[.pointer (some ⟨b, 0, none⟩), .agg #[.int .i64 m.cnt, .int .i64 m.str, .bool m.on]] h fun v h' =>
    v = .bool (decide (may w m)) ∧ Fra no h h' := by
  refine call_ref25_Wake_May _ _ _ _ ?_
  unfold ref25_Wake_May
  refine newI_i (cs := [.int .i64 m.cnt, .int .i64 m.str, .bool m.on]) fun b1 g1 hb1 hs1 hat1 hf1 => ?_
  have hk1 := hf1.at0 hk
  have err : ¬ may w m → Value.bool false = .bool (decide (may w m)) ∧ Fra no h g1 := fun hm => ⟨by rw [decide_eq_false hm], hf1⟩
  refine ⟨fun s h2 => s = (some ⟨b, 0, none⟩, ⟨b1, 0, none⟩, ()) ∧ h2 = g1 ∧ 0 ≤ m.cnt ∧ m.cnt ≤ 2 ^ 62 ∧ 0 ≤ m.str ∧ m.str < w.hold ∧ m.str ≤ m.cnt, ?_, ?_⟩
  · rintro s h2 ⟨rfl, rfl, h1, h2, h3, h4, h5⟩
    unfold ref25_Wake_May_j3
    dsimp only
    rw [add_mk]
    refine ldBool_i (hat1.cell rfl) (ifB_i (fun e => ?_) (fun e => ?_))
    · exact ⟨by rw [decide_eq_true]; exact ⟨h1, h2, h3, h4, h5, fun hh => by rw [hh] at e; cases e⟩, hf1⟩
    · have hon : m.on = true := by simpa using e
      rw [add_mk]
      refine ldInt_i (hat1.cell rfl) (ifB_i (fun e2 => nilI_some ?_) (fun e2 => err fun hm => by have := (hm.2.2.2.2.2 hon).1; simp [this] at e2))
      rw [add_mk]
      refine ldInt_i (hat1.cell rfl) (ldInt_i (hk1.cell rfl) ⟨?_, hf1⟩)
      congr 1
      have e2 : m.str = 0 := by simpa using e2
      rw [Bool.eq_iff_iff]
      simp only [decide_eq_true_eq]
      constructor
      · intro h; exact ⟨h1, h2, h3, h4, h5, fun _ => ⟨e2, h⟩⟩
      · intro h; exact (h.2.2.2.2.2 hon).2
  · refine ldInt_i (hat1.cell rfl) (ifB_dec (fun hh => err fun hm => by have := hm.1; omega) fun h1 => ldInt_i (hat1.cell rfl) (ifB_dec (fun hh => err fun hm => by have := hm.2.1; omega) fun h2 => ldInt_i (hat1.cell rfl) (ifB_dec (fun hh => err fun hm => by have := hm.2.2.1; omega) fun h3 => nilI_some ?_)))
    rw [add_mk]
    refine ldInt_i (hat1.cell rfl) (ldInt_i (hk1.cell rfl) (ifB_dec (fun hh => err fun hm => by have := hm.2.2.2.1; omega) fun h4 => ldInt_i (hat1.cell rfl) (ldInt_i (hat1.cell rfl) (ifB_dec (fun hh => err fun hm => by have := hm.2.2.2.2.1; omega) fun h5 => ?_))))
    exact ⟨rfl, rfl, by omega, by omega, by omega, by omega, by omega⟩

end Go.Proofs.Ytoobckjlkopikaa.G
