/- Contracts: the program's Check and Width of nodes (kind). -/
import Derived.Test.YtbgplllcjhgdhaaDoorCKindP
namespace Go.Proofs.YtbgplllcjhgdhaaDoor.G
open Go Go.Sh
set_option linter.unusedVariables false
set_option linter.unusedSimpArgs false

section
variable {h : Heap}

theorem bare_ok {nv : Nv} (hok : nv.ok) (hT : KT h) (hk : inR nv.kind 1 12) : callP P n_kind_bare #[nv.v] h fun v h' => v = .bool (decide nv.nd.else0) ∧ Fra no h h' := by
  refine call_kind_bare _ ?_
  unfold kind_bare
  have lw := hok.2.1.1
  have lb := hok.2.2.1
  have iff := else0_iff nv
  have S := (Sep.start h no).read (blk 0 (ints kindTab)) hT
  refine newI_S (cs := nv.cells) S fun b1 h1 _ S => ?_
  dsimp only [List.cons_append, List.nil_append] at S
  refine ⟨fun s g => ∃ t1 t2 t3 t4 t5 t6 : Bool, s = (⟨b1, 0, none⟩, ((1 : Int), t1, (17 : Int), t2, (2 : Int), t3, (4 : Int), t4, (32 : Int), t5, (64 : Int), t6, ()), (0 : Int), ()) ∧
    (t1 = true ↔ ¬ (nv.step = 0 ∧ nv.gap = 0 ∧ nv.left = 0 ∧ nv.right = 0)) ∧ (t2 = true ↔ nv.size ≠ 0) ∧ (t3 = true ↔ nv.width ≠ 0) ∧ (t4 = true ↔ ¬ (nv.weights.xs.length = 0 ∧ nv.bias.xs.length = 0)) ∧
    (t5 = true ↔ ¬ (nv.low = 0 ∧ nv.high = 0)) ∧ (t6 = true ↔ ¬ (nv.mult = 0 ∧ nv.shift = 0)) ∧ Sep h no g [blk b1 nv.cells] [blk 0 (ints kindTab)], ?_, ?_⟩
  · rintro s g ⟨t1, t2, t3, t4, t5, t6, rfl, e1, e2, e3, e4, e5, e6, S⟩
    unfold kind_bare_j2
    dsimp only
    have ew : ∃ wl : List (Int × Bool), wl = [(1, t1), (17, t2), (2, t3), (4, t4), (32, t5), (64, t6)] := ⟨_, rfl⟩
    obtain ⟨wl, ewl⟩ := ew
    have hlen : wl.length = 6 := by rw [ewl]; rfl
    have h0 : nv.nd.else0 ↔ ∀ x ∈ wl, x.2 = true → hasP nv.kind nv.post x.1 := by
      rw [iff, ewl]
      simp only [List.mem_cons, List.not_mem_nil, or_false, forall_eq_or_imp, forall_eq, has1, has17, has2, has4, has32 hk, has64 hk, e1, e2, e3, e4, e5, e6]
      unfold wins
      constructor
      · rintro ⟨a1, a2, a3, a4, a5, a6⟩
        exact ⟨fun x => Classical.byContradiction fun y => x (a1 y), fun x => Classical.byContradiction fun y => x (a2 ⟨fun z => y (.inl z), fun z => y (.inr z)⟩), fun x => Classical.byContradiction fun y => x (a3 y), fun x => Classical.byContradiction fun y => x (a4 y), fun x => a6.resolve_right x, fun x => a5.resolve_right x⟩
      · rintro ⟨a1, a2, a3, a4, a5, a6⟩
        exact ⟨fun x => Classical.byContradiction fun y => x (a1 y), fun x => Classical.byContradiction fun y => (a2 y).elim x.1 x.2, fun x => Classical.byContradiction fun y => x (a3 y), fun x => Classical.byContradiction fun y => x (a4 y), Classical.or_iff_not_imp_right.2 a6, Classical.or_iff_not_imp_right.2 a5⟩
    refine LoopS_i (fun m s' g' => ∃ i : Nat, s' = (⟨b1, 0, none⟩, ((1 : Int), t1, (17 : Int), t2, (2 : Int), t3, (4 : Int), t4, (32 : Int), t5, (64 : Int), t6, ()), (i : Int), ()) ∧ i ≤ 6 ∧ m = 6 - i ∧ (∀ x ∈ wl.take i, x.2 = true → hasP nv.kind nv.post x.1) ∧ Sep h no g' [blk b1 nv.cells] [blk 0 (ints kindTab)]) 6 ⟨0, rfl, by omega, rfl, by simp, S⟩ ?_
    clear S
    rintro m s' g' ⟨i, rfl, hi, rfl, hall, S⟩
    unfold kind_bare_l2
    dsimp only
    refine ifB_dec (fun hlt => ?_) (fun hge => ?_)
    · have hix : i < wl.length := by omega
      obtain ⟨n, b, hw, hx⟩ : ∃ (n : Int) (b : Bool), wl[i] = (n, b) ∧ Array.extract (#[(.int .i64 1), (.bool t1), (.int .i64 17), (.bool t2), (.int .i64 2), (.bool t3), (.int .i64 4), (.bool t4), (.int .i64 32), (.bool t5), (.int .i64 64), (.bool t6)] : Array Value) (i * 2) (i * 2 + 2) = (#[(.int .i64 n), (.bool b)] : Array Value) := by
        subst ewl
        have : i = 0 ∨ i = 1 ∨ i = 2 ∨ i = 3 ∨ i = 4 ∨ i = 5 := by omega
        rcases this with rfl | rfl | rfl | rfl | rfl | rfl <;> exact ⟨_, _, rfl, rfl⟩
      refine arrI_i (by omega) (by omega) ?_
      simp only [Int.toNat_natCast]
      refine ⟨n, b, hx, ?_⟩
      refine newI_S S (fun b8 _ _ S => ?_)
      dsimp only [List.cons_append, List.nil_append] at S
      refine stI_S S 1 rfl (Nat.le_of_ble_eq_true rfl) fun _ _ S => ?_
      dsimp only [List.set] at S
      refine stI_S S 1 rfl (Nat.le_of_ble_eq_true rfl) fun _ _ S => ?_
      dsimp only [List.set] at S
      refine ldBool_i (n := b) (S.cell 1 rfl rfl) ?_
      have next : (b = true → hasP nv.kind nv.post n) → ∀ x ∈ wl.take (i + 1), x.2 = true → hasP nv.kind nv.post x.1 := by
        intro hb x hx
        rw [List.take_succ_eq_append_getElem hix] at hx
        rcases List.mem_append.1 hx with hx | hx
        · exact hall x hx
        · simp only [List.mem_singleton] at hx; subst hx; rw [hw]; exact hb
      refine ifB_known (fun hb => ?_) (fun hb => ?_)
      · refine ldAg_S S 0 rfl (x := nv.t) rfl (ldInt_i (n := n) (S.cell 1 rfl rfl) ?_)
        refine (has_ok nv n (S.r 0 _ rfl)).mono ?_
        rintro _ _ ⟨rfl, F⟩
        refine ⟨_, rfl, ?_⟩
        replace S := S.fra0 F
        refine ifB_not (ifB_dec (fun h2 => ?_) (fun h2 => ?_))
        · rw [wrap64_in (by omega)]
          exact ⟨6 - (i + 1), by omega, i + 1, rfl, by omega, rfl, next fun _ => h2, S.pw [0]⟩
        · refine ⟨?_, S.fra⟩
          rw [decide_eq_false]
          intro he
          have := h0.1 he wl[i] (List.getElem_mem hix)
          rw [hw] at this
          exact h2 (this hb)
      · rw [wrap64_in (by omega)]
        exact ⟨6 - (i + 1), by omega, i + 1, rfl, by omega, rfl, next (fun h => by rw [hb] at h; cases h), S.pw [0]⟩
    · rw [List.take_of_length_le (by omega)] at hall
      exact ⟨by rw [decide_eq_true (h0.2 hall)], S.fra⟩
  have leaf : ∀ {t1 t2 t3 t4 t5 t6 : Bool} {g : Heap}, Sep h no g [blk b1 nv.cells] [blk 0 (ints kindTab)] → (t1 = true ↔ ¬ (nv.step = 0 ∧ nv.gap = 0 ∧ nv.left = 0 ∧ nv.right = 0)) → (t2 = true ↔ nv.size ≠ 0) → (t3 = true ↔ nv.width ≠ 0) → (t4 = true ↔ ¬ (nv.weights.xs.length = 0 ∧ nv.bias.xs.length = 0)) →
    (t5 = true ↔ ¬ (nv.low = 0 ∧ nv.high = 0)) → (t6 = true ↔ ¬ (nv.mult = 0 ∧ nv.shift = 0)) → ∃ s1 s2 s3 s4 s5 s6 : Bool, ((⟨b1, 0, none⟩ : Addr), ((1 : Int), t1, (17 : Int), t2, (2 : Int), t3, (4 : Int), t4, (32 : Int), t5, (64 : Int), t6, ()), (0 : Int), ()) = (⟨b1, 0, none⟩, ((1 : Int), s1, (17 : Int), s2, (2 : Int), s3, (4 : Int), s4, (32 : Int), s5, (64 : Int), s6, ()), (0 : Int), ()) ∧
    (s1 = true ↔ ¬ (nv.step = 0 ∧ nv.gap = 0 ∧ nv.left = 0 ∧ nv.right = 0)) ∧ (s2 = true ↔ nv.size ≠ 0) ∧ (s3 = true ↔ nv.width ≠ 0) ∧ (s4 = true ↔ ¬ (nv.weights.xs.length = 0 ∧ nv.bias.xs.length = 0)) ∧
    (s5 = true ↔ ¬ (nv.low = 0 ∧ nv.high = 0)) ∧ (s6 = true ↔ ¬ (nv.mult = 0 ∧ nv.shift = 0)) ∧ Sep h no g [blk b1 nv.cells] [blk 0 (ints kindTab)] := fun S a1 a2 a3 a4 a5 a6 => ⟨_, _, _, _, _, _, rfl, a1, a2, a3, a4, a5, a6, S⟩
  have st := fun k (v : Value) (e : nv.cells[k]? = some v) => S.cell 0 (k := k) (v := v) rfl e
  have rest1 : ∀ t1 : Bool, (t1 = true ↔ ¬ (nv.step = 0 ∧ nv.gap = 0 ∧ nv.left = 0 ∧ nv.right = 0)) → (t1 = true ↔ ¬ (nv.step = 0 ∧ nv.gap = 0 ∧ nv.left = 0 ∧ nv.right = 0)) := fun _ x => x
  refine ldInt_i (n := nv.step) (S.cell 0 rfl rfl) (ifB_bne (fun c1 => ?kxa) (fun c1 => ?kxb))
  case' kxb => refine ldInt_i (n := nv.gap) (S.cell 0 rfl rfl) (ifB_bne (fun c2 => ?kxc) (fun c2 => ?kxd))
  case' kxd => refine ldInt_i (n := nv.left) (S.cell 0 rfl rfl) (ifB_bne (fun c3 => ?kxe) (fun c3 => ?kxf))
  case' kxf => refine ldInt_i (n := nv.right) (S.cell 0 rfl rfl) ?_
  all_goals
    refine ldInt_i (n := nv.size) (S.cell 0 rfl rfl) (ldInt_i (n := nv.width) (S.cell 0 rfl rfl) (ldSlice_i (p := nv.weights.p) (l := nv.weights.l) (c := nv.weights.c) (S.cell 0 rfl rfl) (ifB_dec (fun d1 => ?_) (fun d1 => ldSlice_i (p := nv.bias.p) (l := nv.bias.l) (c := nv.bias.c) (S.cell 0 rfl rfl) ?_))))
  all_goals
    refine ldInt_i (n := nv.low) (S.cell 0 rfl rfl) (ifB_bne (fun l1 => ?_) (fun l1 => ldInt_i (n := nv.high) (S.cell 0 rfl rfl) ?_))
  all_goals
    refine ldInt_i (n := nv.mult) (S.cell 0 rfl rfl) (ifB_bne (fun m1 => ?_) (fun m1 => ldInt_i (n := nv.shift) (S.cell 0 rfl rfl) ?_))
  all_goals
    refine leaf S ?_ ?_ ?_ ?_ ?_ ?_
  all_goals first
    | (simp only [true_iff]; omega)
    | (simp only [bne_iff_ne, ne_eq, decide_eq_true_eq]; done)
    | (simp only [bne_iff_ne, ne_eq, decide_eq_true_eq]; omega)

theorem fits_ok {nv : Nv} (hok : nv.ok) (hr : nv.rows.P h) (hlw : nv.weights.l < 2 ^ 62) (hlb : nv.bias.l < 2 ^ 62) (hT : KT h) {w : Int} (hw : 1 ≤ w ∧ w ≤ 16) : callP P n_kind_fits #[nv.v, .int .i64 w] h fun v h' => v = .bool (decide (nv.nd.sized w)) ∧ Fra no h h' := by
  refine call_kind_fits _ _ ?_
  unfold kind_fits
  have lw := hok.2.1.1
  have lb := hok.2.2.1
  have iff := sized_iff nv w
  have S := ((Sep.start h no).read (blk 0 (ints kindTab)) hT).read nv.rows hr
  refine newI_S (cs := nv.cells) S fun b1 h1 _ S => ?_
  dsimp only [List.cons_append, List.nil_append] at S
  have bad : ∀ g, Sep h no g [blk b1 nv.cells] [blk 0 (ints kindTab), nv.rows] → ¬ nv.nd.sized w → Value.bool false = .bool (decide (nv.nd.sized w)) ∧ Fra no h g := fun g S hn => ⟨by rw [decide_eq_false hn], S.fra⟩
  refine ⟨fun s g => s = (w, ⟨b1, 0, none⟩, ()) ∧ Sep h no g [blk b1 nv.cells] [blk 0 (ints kindTab), nv.rows] ∧ (wins nv.kind → inR nv.size 1 8) ∧ (wide nv.kind → inR nv.width 1 16), ?_, ?_⟩
  · rintro s g ⟨rfl, S, c1, c2⟩
    unfold kind_fits_j3
    dsimp only
    refine ⟨fun s g => s = (w, ⟨b1, 0, none⟩, ()) ∧ Sep h no g [blk b1 nv.cells] [blk 0 (ints kindTab), nv.rows] ∧ (four nv.kind → inR nv.step 1 4 ∧ inR nv.gap 1 4 ∧ (0 ≤ nv.left ∧ nv.left < nv.nd.span) ∧ (0 ≤ nv.right ∧ nv.right < nv.nd.span)), ?_, ?_⟩
    · rintro s g ⟨rfl, S, c3⟩
      unfold kind_fits_j5
      dsimp only
      refine ⟨fun s g => s = (⟨b1, 0, none⟩, ()) ∧ Sep h no g [blk b1 nv.cells] [blk 0 (ints kindTab), nv.rows] ∧
        (wei nv.kind → (nv.weights.xs.length : Int) = nv.nd.wcount w ∧ (nv.bias.xs.length : Int) = (if nv.kind = 2 then w else nv.width) ∧ fitR (-128) 127 nv.weights.xs ∧ fitR (-16777216) 16777216 nv.bias.xs), ?_, ?_⟩
      · rintro s g ⟨rfl, S, c4⟩
        unfold kind_fits_j14
        simp only [add_mk, Nat.zero_add]
        refine ldInt_i (n := nv.mult) (S.cell 0 rfl rfl) ?_
        refine (in_ok nv.mult 0 32767).mono ?_
        rintro _ _ ⟨rfl, rfl⟩
        refine ⟨_, rfl, ?_⟩
        refine ifB_dec (fun f1 => ?_) (fun f1 => bad _ S fun hs => f1 (iff.1 hs).2.2.2.2.1)
        refine ldInt_i (n := nv.shift) (S.cell 0 rfl rfl) ?_
        refine (in_ok nv.shift 0 30).mono ?_
        rintro _ _ ⟨rfl, rfl⟩
        refine ⟨_, rfl, ?_⟩
        refine ifB_dec (fun f2 => ?_) (fun f2 => bad _ S fun hs => f2 (iff.1 hs).2.2.2.2.2.1)
        refine ldInt_i (n := nv.low) (S.cell 0 rfl rfl) (ldInt_i (n := nv.high) (S.cell 0 rfl rfl) ?_)
        refine (in_ok nv.low (-2147483648) nv.high).mono ?_
        rintro _ _ ⟨rfl, rfl⟩
        refine ⟨_, rfl, ?_⟩
        refine ifB_dec (fun f3 => ?_) (fun f3 => bad _ S fun hs => f3 (by have := (iff.1 hs).2.2.2.2; unfold lo32 at this; omega))
        refine ldInt_i (n := nv.high) (S.cell 0 rfl rfl) (ldInt_i (n := nv.low) (S.cell 0 rfl rfl) ?_)
        refine (in_ok nv.high nv.low 2147483647).mono ?_
        rintro _ _ ⟨rfl, rfl⟩
        refine ⟨_, rfl, ?_⟩
        refine ⟨?_, S.fra⟩
        congr 1
        rw [decide_eq_decide, iff]
        constructor
        · intro f4
          exact ⟨c1, c3, c2, c4, f1, f2, by unfold lo32 hi32; omega, by unfold lo32 hi32; omega, by omega⟩
        · rintro ⟨_, _, _, _, _, _, _, f5, f6⟩
          unfold lo32 hi32 at f5; omega
      · simp only [add_mk, Nat.zero_add]
        refine ldAg_S S 0 rfl (x := nv.t) rfl ?_
        refine (has_ok nv 4 (S.r 0 _ rfl)).mono ?_
        rintro _ _ ⟨rfl, F⟩
        refine ⟨_, rfl, ?_⟩
        replace S := S.fra0 F
        refine ifB_dec (fun h4 => ?_) (fun h4 => ⟨by trivial, S, fun hn => absurd (has4.2 hn) h4⟩)
        rw [has4] at h4
        have wrow : ∀ {g : Heap}, Sep h no g [blk b1 nv.cells] [blk 0 (ints kindTab), nv.rows] → Row g nv.weights.p (ints nv.weights.xs) := fun S => S.r 1 _ rfl nv.weights.row (by simp)
        have brow : ∀ {g : Heap}, Sep h no g [blk b1 nv.cells] [blk 0 (ints kindTab), nv.rows] → Row g nv.bias.p (ints nv.bias.xs) := fun S => S.r 1 _ rfl nv.bias.row (by simp)
        refine ldInt_i (n := nv.width) (S.cell 0 rfl rfl) (ldInt_i (n := nv.kind) (S.cell 0 rfl rfl) ?_)
        have no4 : ¬ ((nv.weights.xs.length : Int) = nv.nd.wcount w ∧ (nv.bias.xs.length : Int) = (if nv.kind = 2 then w else nv.width) ∧ fitR (-128) 127 nv.weights.xs ∧ fitR (-16777216) 16777216 nv.bias.xs) → ¬ nv.nd.sized w := fun hn hs => hn ((iff.1 hs).2.2.2.1 h4)
        have ewc : nv.nd.wcount w = if nv.kind = 1 then nv.width * nv.size * w else if nv.kind = 2 then w * nv.size else nv.width * w := rfl
        rw [ewc] at no4
        refine ifB_beq (fun k2 => ?k2) (fun k2 => ifB_beq (fun k1 => ?k1) (fun k1 => ?k6))
        case' k2 =>
          rw [if_neg (by omega), if_pos k2, if_pos k2] at no4
          have c := c1 (by unfold wins four; omega)
          have bm := bd_mul (a := w) (b := nv.size) (x := 16) (y := 8) (by omega) (by omega)
          refine ldInt_i (n := nv.size) (S.cell 0 rfl rfl) ?_
          rw [Int.one_mul, wrap64_in (n := nv.size) (by omega), wrap64_in (n := w * nv.size) (by omega)]
        case' k1 =>
          rw [if_pos k1, if_neg k2] at no4
          have c := c1 (by unfold wins four; omega)
          have c' := c2 (by unfold wide; omega)
          have bm := bd_mul (a := w) (b := nv.size) (x := 16) (y := 8) (by omega) (by omega)
          have bm2 := bd_mul (a := nv.width) (b := w * nv.size) (x := 16) (y := 128) (by omega) (by omega)
          have ee : nv.width * nv.size * w = nv.width * (w * nv.size) := by rw [Int.mul_assoc, Int.mul_comm nv.size w]
          rw [ee] at no4
          refine ldInt_i (n := nv.size) (S.cell 0 rfl rfl) ?_
          rw [wrap64_in (n := w * nv.size) (by omega), wrap64_in (n := nv.width * (w * nv.size)) (by omega)]
        case' k6 =>
          rw [if_neg k1, if_neg k2, if_neg k2] at no4
          have c' := c2 (by unfold wide; unfold wei at h4; omega)
          have bm := bd_mul (a := nv.width) (b := w) (x := 16) (y := 16) (by omega) (by omega)
          rw [wrap64_in (n := nv.width * w) (by omega)]
        all_goals
          refine ldSlice_i (p := nv.weights.p) (l := nv.weights.l) (c := nv.weights.c) (S.cell 0 rfl rfl) (ifB_bne (fun g1 => bad _ S (no4 fun hh => g1 (by rw [← lw]; exact hh.1))) fun g1 => ?_)
          refine ldSlice_i (p := nv.bias.p) (l := nv.bias.l) (c := nv.bias.c) (S.cell 0 rfl rfl) (ifB_bne (fun g2 => bad _ S (no4 fun hh => g2 (by rw [← lb]; exact hh.2.1))) fun g2 => ?_)
          refine ldSlice_i (p := nv.weights.p) (l := nv.weights.l) (c := nv.weights.c) (S.cell 0 rfl rfl) ?_
          refine (every_ok (wrow S) lw hlw (-128) 127).mono ?_
          rintro _ _ ⟨rfl, rfl⟩
          refine ⟨_, rfl, ?_⟩
          refine ifB_not (ifB_dec (fun g3 => ?_) (fun g3 => bad _ S (no4 fun hh => g3 hh.2.2.1)))
          refine ldSlice_i (p := nv.bias.p) (l := nv.bias.l) (c := nv.bias.c) (S.cell 0 rfl rfl) ?_
          refine (every_ok (brow S) lb hlb (-16777216) 16777216).mono ?_
          rintro _ _ ⟨rfl, rfl⟩
          refine ⟨_, rfl, ?_⟩
          refine ifB_not (ifB_dec (fun g4 => ?_) (fun g4 => bad _ S (no4 fun hh => g4 hh.2.2.2)))
          refine ⟨by trivial, S, fun _ => ?_⟩
          rw [ewc]
        all_goals first
          | (rw [if_pos k1, if_neg k2, ee]; exact ⟨by rw [lw]; exact g1, by rw [lb]; exact g2, g3, g4⟩)
          | (rw [if_neg k1, if_neg k2, if_neg k2]; exact ⟨by rw [lw]; exact g1, by rw [lb]; exact g2, g3, g4⟩)
          | (rw [if_neg (by omega), if_pos k2, if_pos k2]; exact ⟨by rw [lw]; exact g1, by rw [lb]; exact g2, g3, g4⟩)
    · simp only [add_mk, Nat.zero_add]
      refine ldAg_S S 0 rfl (x := nv.t) rfl ?_
      refine (has_ok nv 1 (S.r 0 _ rfl)).mono ?_
      rintro _ _ ⟨rfl, F⟩
      refine ⟨_, rfl, ?_⟩
      replace S := S.fra0 F
      refine ifB_dec (fun h1 => ?_) (fun h1 => ⟨by trivial, S, fun hn => absurd (has1.2 hn) h1⟩)
      rw [has1] at h1
      have c := c1 (.inl h1)
      refine ldInt_i (n := nv.step) (S.cell 0 rfl rfl) ?_
      refine (in_ok nv.step 1 4).mono ?_
      rintro _ _ ⟨rfl, rfl⟩
      refine ⟨_, rfl, ?_⟩
      refine ifB_dec (fun f1 => ?_) (fun f1 => ifB_true rfl (bad _ S fun hs => f1 ((iff.1 hs).2.1 h1).1))
      refine ldInt_i (n := nv.gap) (S.cell 0 rfl rfl) ?_
      refine (in_ok nv.gap 1 4).mono ?_
      rintro _ _ ⟨rfl, rfl⟩
      refine ⟨_, rfl, ?_⟩
      refine ifB_dec (fun f2 => ?_) (fun f2 => ifB_true rfl (bad _ S fun hs => f2 ((iff.1 hs).2.1 h1).2.1))
      have hspan : nv.nd.span = (nv.size - 1) * nv.gap + 1 := by
        have e : nv.nd.span = if nv.kind = 12 then nv.size else if four nv.kind then (nv.size - 1) * nv.gap + 1 else 1 := rfl
        rw [e, if_neg (by unfold four at h1; omega), if_pos h1]
      have bm := bd_mul (a := nv.size - 1) (b := nv.gap) (x := 7) (y := 4) (by omega) (by omega)
      refine ldInt_i (n := nv.left) (S.cell 0 rfl rfl) (ldAg_S S 0 rfl (x := nv.t) rfl ?_)
      refine (Span_ok nv (S.r 0 _ rfl) (by omega) (by omega)).mono ?_
      rintro _ _ ⟨rfl, F⟩
      refine ⟨_, rfl, ?_⟩
      replace S := S.fra0 F
      refine and_i (S.cell 0 rfl rfl) ?_
      rw [wrap64_in (n := nv.nd.span - 1) (by omega)]
      refine (in_ok nv.left 0 (nv.nd.span - 1)).mono ?_
      rintro _ _ ⟨rfl, rfl⟩
      refine ⟨_, rfl, ?_⟩
      refine ifB_dec (fun f3 => ?_) (fun f3 => and_i (S.cell 0 rfl rfl) (and_i (S.cell 0 rfl rfl) (ifB_true rfl (bad _ S fun hs => f3 (by have := ((iff.1 hs).2.1 h1).2.2.1; omega)))))
      refine ldInt_i (n := nv.right) (S.cell 0 rfl rfl) (ldAg_S S 0 rfl (x := nv.t) rfl ?_)
      refine (Span_ok nv (S.r 0 _ rfl) (by omega) (by omega)).mono ?_
      rintro _ _ ⟨rfl, F⟩
      refine ⟨_, rfl, ?_⟩
      replace S := S.fra0 F
      refine and_i (S.cell 0 rfl rfl) (and_i (S.cell 0 rfl rfl) ?_)
      rw [wrap64_in (n := nv.nd.span - 1) (by omega)]
      refine (in_ok nv.right 0 (nv.nd.span - 1)).mono ?_
      rintro _ _ ⟨rfl, rfl⟩
      refine ⟨_, rfl, ?_⟩
      refine and_i (S.cell 0 rfl rfl) (ifB_not (ifB_dec (fun f4 => ?_) (fun f4 => bad _ S fun hs => f4 (by have := ((iff.1 hs).2.1 h1).2.2.2; omega))))
      exact ⟨by trivial, S, fun _ => ⟨f1, f2, by omega, by omega⟩⟩
  · have fin : ∀ g, Sep h no g [blk b1 nv.cells] [blk 0 (ints kindTab), nv.rows] → (wins nv.kind → inR nv.size 1 8) → (wide nv.kind → inR nv.width 1 16) → ((w, (⟨b1, 0, none⟩ : Addr), ()) = (w, ⟨b1, 0, none⟩, ()) ∧ Sep h no g [blk b1 nv.cells] [blk 0 (ints kindTab), nv.rows] ∧ (wins nv.kind → inR nv.size 1 8) ∧ (wide nv.kind → inR nv.width 1 16)) := fun g S a b => ⟨rfl, S, a, b⟩
    refine ldAg_S S 0 rfl (x := nv.t) rfl ?_
    refine (has_ok nv 17 (S.r 0 _ rfl)).mono ?_
    rintro _ _ ⟨rfl, F⟩
    refine ⟨_, rfl, ?_⟩
    replace S := S.fra0 F
    refine ifB_dec (fun f1 => ?ka) (fun f1 => ?kb)
    case' ka =>
      rw [has17] at f1
      refine ldInt_i (n := nv.size) (S.cell 0 rfl rfl) ?_
      refine (in_ok nv.size 1 8).mono ?_
      rintro _ _ ⟨rfl, rfl⟩
      refine ⟨_, rfl, ?_⟩
      refine ifB_not (ifB_dec (fun f2 => ?_) (fun f2 => bad _ S fun hs => f2 ((iff.1 hs).1 f1)))
      have f3 : wins nv.kind → inR nv.size 1 8 := fun _ => f2
      clear f1 f2
    case' kb =>
      rw [has17] at f1
      have f3 : wins nv.kind → inR nv.size 1 8 := fun hn => absurd hn f1
      clear f1
    all_goals
      refine ldAg_S S 0 rfl (x := nv.t) rfl ?_
      refine (has_ok nv 2 (S.r 0 _ rfl)).mono ?_
      rintro _ _ ⟨rfl, F⟩
      refine ⟨_, rfl, ?_⟩
      replace S := S.fra0 F
      refine ifB_dec (fun f4 => ?_) (fun f4 => fin _ S f3 fun hn => absurd (has2.2 hn) f4)
      rw [has2] at f4
      refine ldInt_i (n := nv.width) (S.cell 0 rfl rfl) ?_
      refine (in_ok nv.width 1 16).mono ?_
      rintro _ _ ⟨rfl, rfl⟩
      refine ⟨_, rfl, ?_⟩
      exact ifB_not (ifB_dec (fun f5 => fin _ S f3 fun _ => f5) (fun f5 => bad _ S fun hs => f5 ((iff.1 hs).2.2.1 f4)))
end

end Go.Proofs.YtbgplllcjhgdhaaDoor.G
