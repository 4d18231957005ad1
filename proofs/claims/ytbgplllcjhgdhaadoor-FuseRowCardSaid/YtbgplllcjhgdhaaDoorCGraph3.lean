/- Contracts: the program's graph: rate; what is known of a graph. -/
import Derived.Test.YtbgplllcjhgdhaaDoorCGraph2
namespace Go.Proofs.YtbgplllcjhgdhaaDoor.G
open Go Go.Sh
set_option linter.unusedVariables false
set_option linter.unusedSimpArgs false

theorem noR {h0 h : Heap} {T : Nat → Prop} {W R : List Fact} (S : Sep h0 T h W R) : Sep h0 T h W [] := ⟨S.fra, S.w, by simp, S.ok, S.ww, by simp⟩

section
variable {h : Heap}

theorem rate_1_ok {a : Addr} {r : Int} (ha : cellH h a = some (.int .i64 r)) (x : Int) : callP P n_graph_rate_1 #[.int .i64 x, .pointer (some a)] h fun v h' => v = .bool (x != r) ∧ h' = h := by
  refine call_graph_rate_1 _ _ ?_
  unfold graph_rate_1
  exact ldInt_i ha ⟨rfl, rfl⟩

theorem ContainsR_ok {a : Addr} {r : Int} (ha : cellH h a = some (.int .i64 r)) {p : Option Addr} {l c : Nat} {xs : List Int} (hx : Row h p (ints xs)) (hl : xs.length = l) (hl2 : l < 2 ^ 62) :
    callP P n_slices_ContainsFunc_int_int #[.slice p l c, .func (.func n_graph_rate_1) #[] #[.pointer (some a)]] h fun v h' => v = .bool (decide (∃ j ∈ xs, j ≠ r)) ∧ h' = h := by
  refine call_slices_ContainsFunc_int_int_at_graph_rate_1 _ _ _ _ ?_
  unfold slices_ContainsFunc_int_int_at_graph_rate_1
  have I : callP P n_slices_IndexFunc_int_int #[.slice p l c, .func (.func n_graph_rate_1) #[] #[.pointer (some a)]] h fun v h' => ∃ i : Int, v = .int .i64 i ∧ (0 ≤ i ↔ ∃ j ∈ xs, j ≠ r) ∧ h' = h := by
    refine call_slices_IndexFunc_int_int_at_graph_rate_1 _ _ _ _ ?_
    unfold slices_IndexFunc_int_int_at_graph_rate_1
    refine LoopS_i (fun m s g => g = h ∧ ∃ i : Nat, s = ((p, l, c), ((), (a, ())), (l : Int), (i : Int), ()) ∧ i ≤ l ∧ m = l - i ∧ ∀ j ∈ xs.take i, j = r) l ⟨rfl, 0, rfl, by omega, rfl, by simp⟩ ?_
    rintro m s g ⟨rfl, i, rfl, hi, rfl, hall⟩
    unfold slices_IndexFunc_int_int_at_graph_rate_1_l2
    dsimp only
    refine ifB_dec (fun hlt => ?_) (fun hge => ?_)
    · have hix : i < xs.length := by omega
      obtain ⟨aa, rfl⟩ := hx.some_of (by rw [ints_length]; omega)
      refine idxI_i rfl rfl (by omega) ?_
      simp only [Int.toNat_natCast, Nat.mul_one]
      refine ldInt_i (hx.cell (ints_get (List.getElem?_eq_getElem hix))) ?_
      refine (rate_1_ok ha xs[i]).mono ?_
      rintro _ _ ⟨rfl, rfl⟩
      refine ⟨_, rfl, ?_⟩
      refine ifB_bne (fun hM => ⟨_, rfl, ⟨fun _ => ⟨_, List.getElem_mem hix, hM⟩, fun _ => by omega⟩, rfl⟩) (fun hM => ?_)
      rw [wrap64_in (by omega)]
      refine ⟨l - (i + 1), by omega, by trivial, i + 1, rfl, by omega, rfl, fun j hj => ?_⟩
      rw [List.take_succ_eq_append_getElem hix] at hj
      rcases List.mem_append.1 hj with hj | hj
      · exact hall j hj
      · simp only [List.mem_singleton] at hj; subst hj; exact hM
    · rw [List.take_of_length_le (by omega)] at hall
      exact ⟨_, rfl, ⟨fun h => by omega, fun ⟨j, hj, e⟩ => absurd (hall j hj) e⟩, rfl⟩
  refine I.mono ?_
  rintro _ _ ⟨i, rfl, hi, rfl⟩
  refine ⟨_, rfl, ?_, rfl⟩
  congr 1
  rw [decide_eq_decide]
  exact hi

theorem span_big {n : Nd} (h : 1 < n.span) : wins n.kind := by
  apply Decidable.byContradiction
  intro hn
  have e : n.span = if n.kind = 12 then n.size else if four n.kind then (n.size - 1) * n.gap + 1 else 1 := rfl
  unfold wins at hn
  rw [e, if_neg (fun h => hn (.inr h)), if_neg (fun h => hn (.inl h))] at h
  omega

theorem rate_ok {nv : Nv} (hT : KT h) {p : Option Addr} {l c : Nat} {rs : List Int} (hw : Row h p (ints rs)) (hl : rs.length = l) (h1l : 1 ≤ l) (hl2 : l < 2 ^ 56) (hr : 0 ≤ rs.getD 0 0 ∧ rs.getD 0 0 ≤ 2 ^ 30) (hs : four nv.kind → 0 ≤ nv.step ∧ nv.step ≤ 2 ^ 20)
    (hk : 1 ≤ nv.kind) (hz : -2 ^ 20 ≤ nv.size ∧ nv.size ≤ 2 ^ 20) (hg : -2 ^ 20 ≤ nv.gap ∧ nv.gap ≤ 2 ^ 20) :
    callP P n_graph_rate #[nv.v, .slice p l c] h fun v h' => v = .tuple #[.int .i64 (if rateN nv.nd rs < 0 then 0 else rateN nv.nd rs), .bool (decide (0 ≤ rateN nv.nd rs))] ∧ Fra no h h' := by
  refine call_graph_rate _ _ _ _ ?_
  unfold graph_rate
  have S := ((Sep.start h no).read (blk 0 (ints kindTab)) hT).read (row p (ints rs)) hw
  refine newI_S (cs := nv.cells) S fun b1 h1 _ S => ?_
  dsimp only [List.nil_append, List.cons_append] at S
  have hx := S.row 1 rfl
  obtain ⟨aa, epa⟩ := hx.some_of (by rw [ints_length]; omega)
  have hx' : Row h1 (some aa) (ints rs) := by rw [← epa]; exact hx
  refine idxI_i epa (k := 0) rfl (by omega) ?_
  refine ldInt_i (n := rs.getD 0 0) (hx'.cell (i := 0) (ints_get (by rw [List.getElem?_eq_getElem (by omega), getD_eq (by omega)]))) ?_
  generalize hr0 : rs.getD 0 0 = r at hr ⊢
  refine newI_S (cs := [.int .i64 0]) S fun b5 h2 _ S => ?_
  dsimp only [List.nil_append, List.cons_append] at S
  refine stI_S S 1 rfl (Nat.le_of_ble_eq_true rfl) fun h3 _ S => ?_
  dsimp only [List.set] at S
  have eR : rateN nv.nd rs = if ¬ ∀ x ∈ rs, x = r then -1 else if r = 0 ∧ (wins nv.kind ∨ nv.kind = 5) then -1 else if nv.kind = 5 then 0 else r * stepN nv.kind nv.step := by
    unfold rateN; rw [hr0]; rfl
  have no0 : ∀ g, rateN nv.nd rs = -1 → Sep h no g [blk b1 nv.cells, blk b5 [.int .i64 r]] [blk 0 (ints kindTab), row p (ints rs)] →
      Value.tuple #[.int .i64 0, .bool false] = .tuple #[.int .i64 (if rateN nv.nd rs < 0 then 0 else rateN nv.nd rs), .bool (decide (0 ≤ rateN nv.nd rs))] ∧ Fra no h g := fun g e S => ⟨by rw [e]; rfl, S.fra⟩
  refine ⟨fun s g => ∃ b : Bool, s = ((p, l, c), ⟨b1, 0, none⟩, ⟨b5, 0, none⟩, b, ()) ∧ (b = true ↔ wins nv.kind) ∧ Sep h no g [blk b1 nv.cells, blk b5 [.int .i64 r]] [blk 0 (ints kindTab), row p (ints rs)], ?_, ?_⟩
  · rintro s g ⟨b, rfl, hb, S⟩
    unfold graph_rate_j3
    dsimp only
    refine ⟨fun s g => s = (⟨b1, 0, none⟩, ⟨b5, 0, none⟩, ()) ∧ (∀ x ∈ rs, x = r) ∧ ¬ (r = 0 ∧ (wins nv.kind ∨ nv.kind = 5)) ∧ Sep h no g [blk b1 nv.cells, blk b5 [.int .i64 r]] [blk 0 (ints kindTab), row p (ints rs)], ?_, ?_⟩
    · rintro s g ⟨rfl, hall, hn, S⟩
      unfold graph_rate_j5
      dsimp only
      have na : ¬ ¬ ∀ x ∈ rs, x = r := fun h => h hall
      rw [if_neg na, if_neg hn] at eR
      refine ldInt_i (n := nv.kind) (S.cell 0 rfl rfl) (ifB_beq (fun h5 => ?_) (fun h5 => ?_))
      · rw [if_pos h5] at eR
        rw [eR]; exact ⟨rfl, S.fra⟩
      · rw [if_neg h5] at eR
        refine ldAg_S S 0 rfl (x := nv.t) rfl (ldInt_i (n := r) (S.cell 1 rfl rfl) ?_)
        refine (Step_ok nv (S.r 0 _ rfl)).mono ?_
        rintro _ _ ⟨rfl, F⟩
        refine ⟨_, rfl, ?_⟩
        replace S := S.fra0 F
        have hst : 0 ≤ stepN nv.kind nv.step ∧ stepN nv.kind nv.step ≤ 2 ^ 20 := by
          unfold stepN; split
          · rename_i h; exact hs h
          · decide
        have hm : 0 ≤ r * stepN nv.kind nv.step ∧ r * stepN nv.kind nv.step ≤ 2 ^ 50 := by
          refine ⟨Int.mul_nonneg hr.1 hst.1, ?_⟩
          have := Int.mul_le_mul hr.2 hst.2 hst.1 (by decide)
          omega
        dsimp only
        rw [wrap64_in (n := r * stepN nv.kind nv.step) (by omega)]
        refine and_i (S.cell 1 rfl rfl) ⟨?_, S.fra⟩
        rw [eR, if_neg (by omega), decide_eq_true hm.1]
    · refine (ContainsR_ok (a := ⟨b5, 0, none⟩) (S.cell 1 rfl rfl) (S.row 1 rfl) hl (by omega)).mono ?_
      rintro _ _ ⟨rfl, rfl⟩
      refine ⟨_, rfl, ?_⟩
      refine ifB_dec (fun hc => no0 _ ?_ S) (fun hc => ?_)
      · rw [eR, if_pos]
        intro hall
        obtain ⟨j, hj, e⟩ := hc
        exact e (hall j hj)
      · have hall : ∀ x ∈ rs, x = r := fun x hx => Decidable.byContradiction fun e => hc ⟨x, hx, e⟩
        have na : ¬ ¬ ∀ x ∈ rs, x = r := fun h => h hall
        rw [if_neg na] at eR
        refine ldInt_i (n := r) (S.cell 1 rfl rfl) (ifB_beq (fun h0 => ifB_known (fun hbt => no0 _ ?_ S) (fun hbf => ?_)) (fun h0 => ?_))
        · rw [eR, if_pos ⟨h0, .inl (hb.1 hbt)⟩]
        · have nw : ¬ wins nv.kind := fun w => by have := hb.2 w; rw [hbf] at this; cases this
          refine ldInt_i (n := nv.kind) (S.cell 0 rfl rfl) (ifB_beq (fun h5 => no0 _ ?_ S) (fun h5 => ?_))
          · rw [eR, if_pos ⟨h0, .inr h5⟩]
          · exact ⟨rfl, hall, fun hh => hh.2.elim nw h5, S⟩
        · exact ⟨rfl, hall, fun hh => h0 hh.1, S⟩
  · refine ldAg_S S 0 rfl (x := nv.t) rfl ?_
    refine (Span_ok nv (S.r 0 _ rfl) hz hg).mono ?_
    rintro _ _ ⟨rfl, F⟩
    refine ⟨_, rfl, ?_⟩
    replace S := S.fra0 F
    refine ifB_dec (fun h4 => ⟨_, rfl, ⟨fun _ => span_big h4, fun _ => rfl⟩, S⟩) (fun h4 => ldInt_i (n := nv.kind) (S.cell 0 rfl rfl) (ifB_dec (fun h5 => ⟨_, rfl, ⟨fun _ => by unfold wins four; omega, fun _ => rfl⟩, S⟩) (fun h5 => ldInt_i (n := nv.kind) (S.cell 0 rfl rfl) ⟨_, rfl, ?_, S⟩)))
    rw [beq_iff_eq]
    unfold wins four
    omega
end

/-! plain: what is known of a graph -/
def lookL (ns : List Nd) : List Int → List Int → List Int → Int × List Int × List Int
  | [], ws, rs => (0, ws, rs)
  | i :: r, ws, rs =>
    match ns[i.toNat - 1]? with
    | none => (0, ws, rs)
    | some n =>
      if n.chk (pickG ws n.inn) ≠ 0 then (n.chk (pickG ws n.inn), ws, rs)
      else if rateN n (pickG rs n.inn) < 0 then (15, ws, rs)
      else lookL ns r (ws.set i.toNat (n.wid (pickG ws n.inn))) (rs.set i.toNat (rateN n (pickG rs n.inn)))
/-- A graph's error, and, where there is none, its order, widths, rates. -/
structure Known where
  e : Int
  order : List Int
  widths : List Int
  rates : List Int
def Gr.look (g : Gr) : Known :=
  if g.first ≠ 0 then ⟨g.first, [], [], []⟩
  else if (ordG g.nodes).length ≠ g.nodes.length then ⟨13, [], [], []⟩
  else if (lookL g.nodes (ordG g.nodes) (g.width :: List.replicate g.nodes.length 0) (1 :: List.replicate g.nodes.length 0)).1 ≠ 0 then ⟨(lookL g.nodes (ordG g.nodes) (g.width :: List.replicate g.nodes.length 0) (1 :: List.replicate g.nodes.length 0)).1, [], [], []⟩
  else ⟨0, ordG g.nodes, (lookL g.nodes (ordG g.nodes) (g.width :: List.replicate g.nodes.length 0) (1 :: List.replicate g.nodes.length 0)).2.1, (lookL g.nodes (ordG g.nodes) (g.width :: List.replicate g.nodes.length 0) (1 :: List.replicate g.nodes.length 0)).2.2⟩

theorem ordK_mem (ns : List Nd) : ∀ (k : Nat) (x : Int), x ∈ (ordK ns k).tail → 1 ≤ x ∧ x ≤ (ns.length : Int)
  | 0, x, h => by simp [ordK] at h
  | k + 1, x, h => by
    have ih := ordK_mem ns k x
    simp only [ordK, stepO] at h
    split at h
    · rename_i i hi
      rw [ordK_cons] at h
      simp only [List.cons_append, List.tail_cons, List.mem_append, List.mem_singleton] at h
      rcases h with h | h
      · exact ih h
      · obtain ⟨j, n, hj, hn, _⟩ := nextO_some hi
        have := (List.getElem?_eq_some_iff.1 hn).1
        omega
    · exact ih h
theorem first_ok {g : Gr} (h : g.first = 0) : 1 ≤ g.nodes.length ∧ g.nodes.length ≤ 12 ∧ (1 ≤ g.width ∧ g.width ≤ 16) ∧ (g.low ≤ g.high ∧ -32768 ≤ g.low ∧ g.high ≤ 32767) ∧ (1 ≤ g.out ∧ g.out ≤ (g.nodes.length : Int)) ∧ ∀ n ∈ g.nodes, fitR 0 g.nodes.length n.inn := by
  unfold Gr.first at h
  split at h
  · cases h
  split at h
  · cases h
  split at h
  · rename_i h1 h2 h3
    exact ⟨by omega, by omega, by omega, by omega, by omega, h3⟩
  · cases h

end Go.Proofs.YtbgplllcjhgdhaaDoor.G
