/- Contracts: package wake, and the document's wake (earshotref25). -/
import Derived.Test.YtoobckjlkopikaaGen
import Derived.Test.YtoobckjlkopikaaShS
namespace Go.Proofs.Ytoobckjlkopikaa.G
open Go Go.Sh
set_option linter.unusedVariables false

/-- A watch: On, Off, Hold. -/
structure Wt where
  on : Int
  off : Int
  hold : Int

/-- A mark: Count, Streak, On. -/
structure Mk where
  cnt : Int
  str : Int
  on : Bool
deriving DecidableEq

/-- One score. -/
def wstep (w : Wt) (m : Mk) (s : Int) : Mk × List (Int × Bool) :=
  if m.on then (if s < w.off then (⟨m.cnt + 1, 0, false⟩, [(m.cnt, false)]) else (⟨m.cnt + 1, m.str, true⟩, []))
  else if s < w.on then (⟨m.cnt + 1, 0, false⟩, [])
  else if m.str + 1 = w.hold then (⟨m.cnt + 1, 0, true⟩, [(m.cnt, true)]) else (⟨m.cnt + 1, m.str + 1, false⟩, [])

def wrun (w : Wt) : Mk → List Int → Mk × List (Int × Bool)
  | m, [] => (m, [])
  | m, s :: r => ((wrun w (wstep w m s).1 r).1, (wstep w m s).2 ++ (wrun w (wstep w m s).1 r).2)

theorem wrun_append (w : Wt) : ∀ (a b : List Int) (m : Mk), wrun w m (a ++ b) = ((wrun w (wrun w m a).1 b).1, (wrun w m a).2 ++ (wrun w (wrun w m a).1 b).2)
  | [], b, m => by simp [wrun]
  | s :: r, b, m => by simp [wrun, wrun_append w r b]

theorem wstep_cnt (w : Wt) (m : Mk) (s : Int) : (wstep w m s).1.cnt = m.cnt + 1 := by
  unfold wstep
  (repeat' split) <;> rfl
theorem wrun_cnt (w : Wt) : ∀ (a : List Int) (m : Mk), (wrun w m a).1.cnt = m.cnt + a.length
  | [], m => by simp [wrun]
  | s :: r, m => by simp only [wrun, wrun_cnt w r, wstep_cnt, List.length_cons]; omega

/-- What a mark always is. -/
def Mok (w : Wt) (m : Mk) : Prop := 0 ≤ m.str ∧ m.str < w.hold ∧ (m.on = true → m.str = 0)
theorem wstep_ok {w : Wt} {m : Mk} (h : Mok w m) (s : Int) : Mok w (wstep w m s).1 := by
  obtain ⟨h1, h2, h3⟩ := h
  unfold wstep
  split
  · rename_i ho
    split
    · exact ⟨by simp, by simp only; omega, by simp⟩
    · exact ⟨h1, h2, fun _ => h3 ho⟩
  · split
    · exact ⟨by simp, by simp only; omega, by simp⟩
    · split
      · exact ⟨by simp, by simp only; omega, by simp⟩
      · exact ⟨by simp only; omega, by simp only; omega, by simp⟩
theorem wrun_ok {w : Wt} : ∀ (a : List Int) {m : Mk}, Mok w m → Mok w (wrun w m a).1
  | [], m, h => h
  | s :: r, m, h => wrun_ok r (wstep_ok h s)

theorem wrun_take_succ (w : Wt) (m : Mk) {xs : List Int} {i : Nat} (hi : i < xs.length) :
    wrun w m (xs.take (i + 1)) = ((wstep w (wrun w m (xs.take i)).1 xs[i]).1, (wrun w m (xs.take i)).2 ++ (wstep w (wrun w m (xs.take i)).1 xs[i]).2) := by
  rw [List.take_succ_eq_append_getElem hi, wrun_append]
  simp [wrun]

theorem wstep_len (w : Wt) (m : Mk) (s : Int) : (wstep w m s).2.length ≤ 1 := by
  unfold wstep
  (repeat' split) <;> simp
theorem wrun_len (w : Wt) : ∀ (a : List Int) (m : Mk), (wrun w m a).2.length ≤ a.length
  | [], m => by simp [wrun]
  | s :: r, m => by
    have := wrun_len w r (wstep w m s).1
    have := wstep_len w m s
    simp only [wrun, List.length_append, List.length_cons]; omega

/-- Events as cells. -/
def evs (es : List (Int × Bool)) : List Value := es.flatMap fun e => [.int .i64 e.1, .bool e.2]
theorem evs_append (a b : List (Int × Bool)) : evs (a ++ b) = evs a ++ evs b := by simp [evs]
theorem evs_length (a : List (Int × Bool)) : (evs a).length = a.length * 2 := by
  induction a with
  | nil => rfl
  | cons x r ih => simp only [evs, List.flatMap_cons, List.length_append, List.length_cons, List.length_nil] at *; omega
theorem evs_one (a : List (Int × Bool)) : ∀ y ∈ evs a, one1 y = true := by
  intro y hy
  simp only [evs, List.mem_flatMap] at hy
  obtain ⟨e, _, hy⟩ := hy
  simp at hy
  rcases hy with rfl | rfl <;> rfl
theorem evs_at {es : List (Int × Bool)} {i : Nat} (hi : i < es.length) : (evs es)[i * 2]? = some (.int .i64 es[i].1) ∧ (evs es)[i * 2 + 1]? = some (.bool es[i].2) := by
  induction es generalizing i with
  | nil => simp at hi
  | cons x r ih =>
    cases i with
    | zero => simp [evs]
    | succ i =>
      have := ih (i := i) (by simpa using hi)
      have e1 : (i + 1) * 2 = i * 2 + 2 := by omega
      rw [e1]
      simpa [evs, List.getElem?_append] using this

/-- A wake in memory. -/
def Wk (h : Heap) (b : Nat) (w : Wt) (m : Mk) : Prop := At h b [.int .i64 w.on, .int .i64 w.off, .int .i64 w.hold, .int .i64 m.cnt, .int .i64 m.str, .bool m.on]

theorem Right_ok {h : Heap} (a b c : Int) : callP P n_wake_Right #[.agg #[.int .i64 a, .int .i64 b, .int .i64 c]] h fun v h' => v = .bool (decide (b ≤ a ∧ 1 ≤ c ∧ c ≤ 255)) ∧ Fra no h h' := by
  refine call_wake_Right _ _ _ ?_
  unfold wake_Right
  refine newI_i (cs := [.int .i64 a, .int .i64 b, .int .i64 c]) fun b1 h1 hb1 hs1 hat1 hf1 => ?_
  refine ldInt_i (hat1.cell rfl) (ldInt_i (hat1.cell rfl) ?_)
  refine ifB_dec (fun h1 => ?_) (fun h1 => ⟨by simp [h1], hf1⟩)
  refine ldInt_i (hat1.cell rfl) ?_
  refine ifB_dec (fun h2 => ?_) (fun h2 => ⟨by have : ¬ 1 ≤ c := h2; simp [this], hf1⟩)
  refine ldInt_i (hat1.cell rfl) ⟨?_, hf1⟩
  have : 1 ≤ c := h2
  simp [h1, this]

theorem New_ok {h : Heap} {w : Wt} (hw : w.off ≤ w.on ∧ 1 ≤ w.hold ∧ w.hold ≤ 255) : callP P n_wake_New #[.agg #[.int .i64 w.on, .int .i64 w.off, .int .i64 w.hold]] h fun v h' =>
    ∃ b, v = .pointer (some ⟨b, 0, none⟩) ∧ h.size ≤ b ∧ Wk h' b w ⟨0, 0, false⟩ ∧ Fra no h h' := by
  refine call_wake_New _ _ _ ?_
  unfold wake_New
  refine newI_i (cs := [.int .i64 w.on, .int .i64 w.off, .int .i64 w.hold]) fun b1 h1 hb1 hs1 hat1 hf1 => ?_
  refine ldInt_i (hat1.cell rfl) (ldInt_i (hat1.cell rfl) (ldInt_i (hat1.cell rfl) ?_))
  refine (Right_ok _ _ _).mono ?_
  rintro v h2 ⟨rfl, hf2⟩
  refine ⟨_, rfl, ?_⟩
  refine ifB_false (by simp [hw]) ?_
  have hat2 := hf2.at0 hat1
  refine ldInt_i (hat2.cell rfl) (ldInt_i (hat2.cell rfl) (ldInt_i (hat2.cell rfl) ?_))
  refine newI_i (cs := [.int .i64 w.on, .int .i64 w.off, .int .i64 w.hold, .int .i64 0, .int .i64 0, .bool false]) fun b3 h3 hb3 hs3 hat3 hf3 => ?_
  exact ⟨b3, rfl, by have := hf2.size; omega, hat3, (hf1.trans hf2).trans hf3⟩

theorem New_not {h : Heap} {w : Wt} (hw : ¬ (w.off ≤ w.on ∧ 1 ≤ w.hold ∧ w.hold ≤ 255)) : callP P n_wake_New #[.agg #[.int .i64 w.on, .int .i64 w.off, .int .i64 w.hold]] h fun v h' =>
    v = .pointer none ∧ Fra no h h' := by
  refine call_wake_New _ _ _ ?_
  unfold wake_New
  refine newI_i (cs := [.int .i64 w.on, .int .i64 w.off, .int .i64 w.hold]) fun b1 h1 hb1 hs1 hat1 hf1 => ?_
  refine ldInt_i (hat1.cell rfl) (ldInt_i (hat1.cell rfl) (ldInt_i (hat1.cell rfl) ?_))
  refine (Right_ok _ _ _).mono ?_
  rintro v h2 ⟨rfl, hf2⟩
  refine ⟨_, rfl, ?_⟩
  exact ifB_true (by simp only [decide_eq_false hw, Bool.not_false]) ⟨rfl, hf1.trans hf2⟩

theorem loud_ok {h : Heap} {b : Nat} {w : Wt} {m : Mk} (s : Int) (hk : Wk h b w m) : callP P n_wake_Wake_loud #[.pointer (some ⟨b, 0, none⟩), .int .i64 s] h fun v h' => v = .bool (decide (s < w.off)) ∧ h' = h := by
  refine call_wake_Wake_loud _ _ ?_
  unfold wake_Wake_loud
  refine nilI_some (ldInt_i (hk.cell rfl) ⟨rfl, rfl⟩)

theorem quiet_ok {h : Heap} {b : Nat} {w : Wt} {m : Mk} (s : Int) (hk : Wk h b w m) (hm : 0 ≤ m.str ∧ m.str < 2 ^ 62) : callP P n_wake_Wake_quiet #[.pointer (some ⟨b, 0, none⟩), .int .i64 s] h fun v h' =>
    v = .bool (decide (w.on ≤ s ∧ m.str + 1 = w.hold)) ∧ Wk h' b w ⟨m.cnt, if s < w.on then 0 else m.str + 1, m.on⟩ ∧ Fra (fun i => i = b) h h' ∧ h'.size = h.size := by
  refine call_wake_Wake_quiet _ _ ?_
  unfold wake_Wake_quiet
  refine nilI_some (ldInt_i (hk.cell rfl) ?_)
  refine ifB_dec (fun hlt => nilI_some ?_) (fun hge => nilI_some ?_)
  · rw [add_mk]
    refine stI_i hk (by simp) fun h1 hs1 hat1 hf1 => ⟨?_, ?_, hf1, hs1⟩
    · rw [decide_eq_false (by omega)]
    · rw [if_pos hlt]; exact hat1
  · rw [add_mk]
    refine ldInt_i (hk.cell rfl) (nilI_some ?_)
    rw [add_mk, wrap64_in (by omega)]
    refine stI_i hk (by simp) fun h1 hs1 hat1 hf1 => nilI_some (nilI_some ?_)
    rw [add_mk, add_mk]
    refine ldInt_i (hat1.cell rfl) (ldInt_i (hat1.cell rfl) ⟨?_, ?_, hf1, hs1⟩)
    · have : w.on ≤ s := by omega
      simp [this]
      rfl
    · rw [if_neg hge]; exact hat1

/-- What a Push tells, in memory. -/
def PushPost (w : Wt) (m : Mk) (xs : List Int) (b : Nat) (h : Heap) (v : Value) (h' : Heap) : Prop :=
  ∃ p l c, v = .slice p l c ∧ Own h' h.size 2 p l c (evs (wrun w m xs).2) ∧ l = (wrun w m xs).2.length ∧ Wk h' b w (wrun w m xs).1 ∧ Fra (fun i => i = b) h h'

theorem Push_ok {h : Heap} {b : Nat} {w : Wt} {m : Mk} {p : Option Addr} {l c : Nat} {xs : List Int} (hk : Wk h b w m) (hm : Mok w m) (hw : w.hold ≤ 255) (hx : Row h p (ints xs)) (hp : ∀ a, p = some a → xs ≠ [] → a.block ≠ b)
    (hxl : xs.length = l) (hl : l ≤ 2 ^ 40) (hc : -2 ^ 62 ≤ m.cnt ∧ m.cnt + l < 2 ^ 63) :
    callP P n_wake_Wake_Push #[.pointer (some ⟨b, 0, none⟩), .slice p l c] h (PushPost w m xs b h) := by
  refine call_wake_Wake_Push _ _ _ _ ?_
  unfold wake_Wake_Push
  refine ifB_false rfl ?_
  have hb := hk.lt
  refine LoopS_i (fun n s h1 => Fra (fun i => i = b) h h1 ∧ ∃ (i : Nat) (o : Option Addr) (k d : Nat), s = (some ⟨b, 0, none⟩, (o, k, d), (p, l, c), (l : Int), (i : Int), ()) ∧ i ≤ l ∧ n = l - i ∧
    Own h1 h.size 2 o k d (evs (wrun w m (xs.take i)).2) ∧ Wk h1 b w (wrun w m (xs.take i)).1) l ⟨Fra.refl _ _, 0, none, 0, 0, rfl, by omega, by omega, Own.nil _ _ _, hk⟩ ?_
  rintro n s h1 ⟨hf, i, o, k, d, rfl, hi, rfl, ho, hwk⟩
  unfold wake_Wake_Push_l5
  dsimp only
  refine ifB_dec (fun hlt => ?_) (fun hge => ?_)
  · have hlt : i < l := by omega
    have hlt' : i < xs.length := by omega
    have hx1 := hx.frame hf (fun a ha _ => hp a ha (by rintro rfl; simp at hlt'))
    obtain ⟨a, rfl⟩ := hx.some_of (by rw [ints_length]; omega)
    refine idxI_i rfl rfl hlt ?_
    simp only [Int.toNat_natCast, Nat.mul_one]
    refine ldInt_i (hx1.cell (ints_get (List.getElem?_eq_getElem hlt'))) (nilI_some ?_)
    rw [add_mk]
    refine ldBool_i (hwk.cell rfl) ?_
    have hstep := wrun_take_succ w m hlt'
    have hcnt := wrun_cnt w (xs.take i) m
    have hlen := wrun_len w (xs.take i) m
    have hok := wrun_ok (xs.take i) hm
    rw [List.length_take, Nat.min_eq_left (by omega)] at hcnt hlen
    generalize hmm : (wrun w m (xs.take i)).1 = mm at *
    generalize hee : (wrun w m (xs.take i)).2 = ee at *
    have hk2 : k * 2 = ee.length * 2 := by rw [← ho.1, evs_length]
    have hsz := hf.size
    -- a score that tells nothing
    have quietly : ∀ (h2 : Heap) (mq : Mk), Fra (fun i => i = b) h1 h2 → Wk h2 b w mq → mq.cnt = mm.cnt → wstep w mm xs[i] = (⟨mm.cnt + 1, mq.str, mq.on⟩, []) →
        nilI (some ⟨b, 0, none⟩) fun a26 => ldInt .i64 h2 (Addr.add a26 3) fun n27 => nilI (some ⟨b, 0, none⟩) fun a28 => stI h2 (Addr.add a28 3) (.int .i64 (IntKind.wrap .i64 (n27 + 1))) fun h29 =>
          ∃ n', n' < l - i ∧ Fra (fun i => i = b) h h29 ∧ ∃ (i' : Nat) (o' : Option Addr) (k' d' : Nat), ((some ⟨b, 0, none⟩, (o, k, d), (some a, l, c), (l : Int), IntKind.wrap .i64 ((i : Int) + 1), ()) : Option Addr × (Option Addr × Nat × Nat) × (Option Addr × Nat × Nat) × Int × Int × Unit) = (some ⟨b, 0, none⟩, (o', k', d'), (some a, l, c), (l : Int), (i' : Int), ()) ∧ i' ≤ l ∧ n' = l - i' ∧
            Own h29 h.size 2 o' k' d' (evs (wrun w m (xs.take i')).2) ∧ Wk h29 b w (wrun w m (xs.take i')).1 := by
      intro h2 mq hf2 hwk2 hmq hst
      refine nilI_some ?_
      rw [add_mk]
      refine ldInt_i (hwk2.cell rfl) (nilI_some ?_)
      rw [add_mk, hmq, wrap64_in (by omega), wrap64_in (by omega)]
      refine stI_i hwk2 (by simp) fun h3 hs3 hat3 hf3 => ?_
      refine ⟨l - (i + 1), by omega, (hf.trans hf2).trans hf3, i + 1, o, k, d, rfl, by omega, rfl, ?_, ?_⟩
      · rw [hstep, hst, List.append_nil]
        exact (ho.frame hf2 (fun j hj _ => by omega)).frame hf3 (fun j hj _ => by omega)
      · rw [hstep, hst]; exact hat3
    -- one that tells an event
    have loudly : ∀ (e : Nat) (h2 : Heap) (mq : Mk), Fra (fun i => i = b) h1 h2 → Wk h2 b w mq → mq.cnt = mm.cnt → wstep w mm xs[i] = (⟨mm.cnt + 1, 0, !mq.on⟩, [(mm.cnt, !mq.on)]) →
        nilI (some ⟨b, 0, none⟩) fun a8 => ldBool h2 (Addr.add a8 5) fun b9 => nilI (some ⟨b, 0, none⟩) fun a10 => stI h2 (Addr.add a10 5) (.bool (!b9)) fun h11 =>
        nilI (some ⟨b, 0, none⟩) fun a12 => stI h11 (Addr.add a12 4) (.int .i64 0) fun h13 => nilI (some ⟨b, 0, none⟩) fun a14 => nilI (some ⟨b, 0, none⟩) fun a15 =>
        ldInt .i64 h13 (Addr.add a14 3) fun n16 => ldBool h13 (Addr.add a15 5) fun b17 => newI h13 (.cells #[.int .i64 n16, .bool b17] e (0, 0)) fun b18 h19 =>
        appI e 2 16 (.agg #[.int .i64 0, .bool false]) o k d (some ⟨b18, 0, none⟩) 1 h19 fun p20 l20 c20 h21 =>
        cellH h21 (Addr.add a14 3) = some (.int .i64 n16) ∧ nilI (some ⟨b, 0, none⟩) fun a22 => ldInt .i64 h21 (Addr.add a22 3) fun n23 =>
        nilI (some ⟨b, 0, none⟩) fun a24 => stI h21 (Addr.add a24 3) (.int .i64 (IntKind.wrap .i64 (n23 + 1))) fun h25 =>
          ∃ n', n' < l - i ∧ Fra (fun i => i = b) h h25 ∧ ∃ (i' : Nat) (o' : Option Addr) (k' d' : Nat), ((some ⟨b, 0, none⟩, (p20, l20, c20), (some a, l, c), (l : Int), IntKind.wrap .i64 ((i : Int) + 1), ()) : Option Addr × (Option Addr × Nat × Nat) × (Option Addr × Nat × Nat) × Int × Int × Unit) = (some ⟨b, 0, none⟩, (o', k', d'), (some a, l, c), (l : Int), (i' : Int), ()) ∧ i' ≤ l ∧ n' = l - i' ∧
            Own h25 h.size 2 o' k' d' (evs (wrun w m (xs.take i')).2) ∧ Wk h25 b w (wrun w m (xs.take i')).1 := by
      intro e h2 mq hf2 hwk2 hmq hst
      refine nilI_some ?_
      rw [add_mk]
      refine ldBool_i (hwk2.cell rfl) (nilI_some ?_)
      rw [add_mk]
      refine stI_i hwk2 (by simp) fun h3 hs3 hat3 hf3 => nilI_some ?_
      rw [add_mk]
      refine stI_i hat3 (by simp) fun h4 hs4 hat4 hf4 => nilI_some (nilI_some ?_)
      rw [add_mk, add_mk]
      refine ldInt_i (hat4.cell rfl) (ldBool_i (hat4.cell rfl) ?_)
      refine newI_i (cs := [.int .i64 mq.cnt, .bool (!mq.on)]) fun b5 h5 hb5 hs5 hat5 hf5 => ?_
      have hsz2 := hf2.size
      have ho5 : Own h5 h.size 2 o k d (evs ee) := (((ho.frame hf2 (fun j hj _ => by omega)).frame hf3 (fun j hj _ => by omega)).frame hf4 (fun j hj _ => by omega)).frame0 hf5
      have hwk5 := hf5.at0 hat4
      refine appI_own (xs := evs ee) (ys := evs [(mq.cnt, !mq.on)]) ho5 (by omega) rfl (by omega) (by omega) (Row.of_at hat5) rfl (evs_one _) ?_
      intro p' l' c' h6 hl' ho6 hf6 hs6
      have hwk6 := hf6.at hwk5 (by omega)
      refine ⟨hwk6.cell rfl, nilI_some ?_⟩
      rw [add_mk]
      refine ldInt_i (hwk6.cell rfl) (nilI_some ?_)
      rw [add_mk, hmq, wrap64_in (by omega), wrap64_in (by omega)]
      refine stI_i hwk6 (by simp) fun h7 hs7 hat7 hf7 => ?_
      have hf16 : Fra (fun i => i = b) h h6 := (((((hf.trans hf2).trans hf3).trans hf4).trans hf5.weak).two hf6 (by omega))
      refine ⟨l - (i + 1), by omega, hf16.trans hf7, i + 1, p', l', c', rfl, by omega, rfl, ?_, ?_⟩
      · rw [hstep, hst, evs_append, ← hmq]
        exact ho6.frame hf7 (fun j hj _ => by omega)
      · rw [hstep, hst]; exact hat7
    refine ifB_i (fun hon => ?_) (fun hoff => ?_)
    · refine (loud_ok _ hwk).mono ?_
      rintro v h2 ⟨rfl, rfl⟩
      refine ⟨_, rfl, ?_⟩
      refine ifB_dec (fun hs => ?_) (fun hs => ?_)
      · refine loudly _ _ mm (Fra.refl _ _) hwk rfl ?_
        simp only [wstep, hon, if_true, if_pos hs, Bool.not_true]
      · refine quietly _ mm (Fra.refl _ _) hwk rfl ?_
        simp only [wstep, hon, if_true, if_neg hs]
    · have hok1 := hok.1
      have hok2 := hok.2.1
      refine (quiet_ok xs[i] hwk (by omega)).mono ?_
      rintro v h2 ⟨rfl, hwk2, hf2, hs2⟩
      refine ⟨_, rfl, ?_⟩
      refine ifB_dec (fun hs => ?_) (fun hs => ?_)
      · refine loudly _ _ _ hf2 hwk2 rfl ?_
        have h1 : ¬ xs[i] < w.on := by omega
        simp only [wstep, hoff, if_neg h1, if_pos hs.2, Bool.not_false, Bool.false_eq_true, if_false]
      · refine quietly _ _ hf2 hwk2 rfl ?_
        simp only [wstep, hoff, Bool.false_eq_true, if_false]
        by_cases h1 : xs[i] < w.on
        · simp only [if_pos h1]
        · simp only [if_neg h1, if_neg (fun e => hs ⟨by omega, e⟩)]
  · have hil : i = l := by omega
    rw [List.take_of_length_le (by omega)] at ho hwk
    refine ⟨o, k, d, rfl, ho, ?_, hwk, hf⟩
    have := ho.1
    rw [evs_length] at this
    omega

end Go.Proofs.Ytoobckjlkopikaa.G
