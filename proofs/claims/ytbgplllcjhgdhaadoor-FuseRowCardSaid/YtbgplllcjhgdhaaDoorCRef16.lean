/- Contracts: the document's graphs (chapter 16): a graph's own numbers, order, rate. -/
import Derived.Test.YtbgplllcjhgdhaaDoorCGraph5
namespace Go.Proofs.YtbgplllcjhgdhaaDoor.G
open Go Go.Sh
set_option linter.unusedVariables false
set_option linter.unusedSimpArgs false

section
variable {h : Heap}

theorem has16_ok {p : Option Addr} {l c : Nat} {xs : List Int} (hx : Row h p (ints xs)) (hl : xs.length = l) (hl2 : l < 2 ^ 62) (v : Int) :
    callP P n_ref16_has #[.slice p l c, .int .i64 v] h fun r h' => r = .bool (decide (v ∈ xs)) ∧ h' = h := by
  refine call_ref16_has _ _ _ _ ?_
  unfold ref16_has
  refine LoopS_i (fun m s g => g = h ∧ ∃ i : Nat, s = ((p, l, c), v, (i : Int), ()) ∧ i ≤ l ∧ m = l - i ∧ v ∉ xs.take i) l ⟨rfl, 0, rfl, by omega, rfl, by simp⟩ ?_
  rintro m s g ⟨rfl, i, rfl, hi, rfl, hall⟩
  unfold ref16_has_l2
  dsimp only
  refine ifB_dec (fun hlt => ?_) (fun hge => ?_)
  · have hix : i < xs.length := by omega
    obtain ⟨aa, rfl⟩ := hx.some_of (by rw [ints_length]; omega)
    refine idxI_i rfl rfl (by omega) ?_
    simp only [Int.toNat_natCast, Nat.mul_one]
    refine ldInt_i (hx.cell (ints_get (List.getElem?_eq_getElem hix))) ?_
    refine ifB_beq (fun e => ⟨by rw [decide_eq_true (by rw [← e]; exact List.getElem_mem hix)], by trivial⟩) (fun e => ?_)
    rw [wrap64_in (by omega)]
    refine ⟨l - (i + 1), by omega, by trivial, i + 1, rfl, by omega, rfl, fun hj => ?_⟩
    rw [List.take_succ_eq_append_getElem hix] at hj
    rcases List.mem_append.1 hj with hj | hj
    · exact hall hj
    · simp only [List.mem_singleton] at hj; exact e hj.symm
  · rw [List.take_of_length_le (by omega)] at hall
    exact ⟨by rw [decide_eq_false hall], rfl⟩

theorem first16_ok {gv : Gv} (hok : gv.ok) (hn : Row h gv.p (nflat gv.ns)) (hr : (nrows gv.ns).P h) (hl : gv.l < 2 ^ 56) (hs : ∀ n ∈ gv.ns, n.inn.l < 2 ^ 62) : callP P n_ref16_first #[gv.v] h fun v h' => v = .int .i64 gv.gr.first ∧ Fra no h h' := by
  refine call_ref16_first _ ?_
  unfold ref16_first
  have hgl := hok.1
  have hgn : gv.gr.nodes.length = gv.l := by rw [← hgl]; simp [Gv.gr]
  have S := ((Sep.start h no).read (row gv.p (nflat gv.ns)) hn).read (nrows gv.ns) hr
  refine newI_S (cs := gv.cells) S fun b1 h1 _ S => ?_
  dsimp only [List.nil_append, List.cons_append] at S
  refine ldSlice_i (p := gv.p) (l := gv.l) (c := gv.c) (S.cell 0 rfl rfl) ?_
  have r22 : (gv.gr.nodes.length < 1 ∨ 12 < gv.gr.nodes.length) → ∀ g, Sep h no g [blk b1 gv.cells] [row gv.p (nflat gv.ns), nrows gv.ns] → Value.int .i64 22 = .int .i64 gv.gr.first ∧ Fra no h g := fun hh g S => ⟨by unfold Gr.first; rw [if_pos hh], S.fra⟩
  refine ⟨fun s g => s = (⟨b1, 0, none⟩, (gv.l : Int), ()) ∧ ¬ (gv.gr.nodes.length < 1 ∨ 12 < gv.gr.nodes.length) ∧ Sep h no g [blk b1 gv.cells] [row gv.p (nflat gv.ns), nrows gv.ns], ?_, ifB_dec (fun h1 => r22 (by omega) _ S) fun h1 => ifB_dec (fun h2 => r22 (by omega) _ S) fun h2 => ⟨rfl, by omega, S⟩⟩
  clear S r22
  rintro s g ⟨rfl, n1, S⟩
  unfold ref16_first_j4
  simp only [add_mk, Nat.zero_add]
  have r1 : (gv.width < 1 ∨ 16 < gv.width ∨ gv.low > gv.high ∨ gv.low < -32768 ∨ gv.high > 32767 ∨ gv.out < 1 ∨ gv.out > (gv.gr.nodes.length : Int)) → ∀ g, Sep h no g [blk b1 gv.cells] [row gv.p (nflat gv.ns), nrows gv.ns] → Value.int .i64 1 = .int .i64 gv.gr.first ∧ Fra no h g :=
    fun hh g S => ⟨by unfold Gr.first; rw [if_neg n1]; exact congrArg _ (if_pos hh).symm, S.fra⟩
  refine ⟨fun s g => s = (⟨b1, 0, none⟩, (gv.l : Int), ()) ∧ ¬ (gv.width < 1 ∨ 16 < gv.width ∨ gv.low > gv.high ∨ gv.low < -32768 ∨ gv.high > 32767 ∨ gv.out < 1 ∨ gv.out > (gv.gr.nodes.length : Int)) ∧ Sep h no g [blk b1 gv.cells] [row gv.p (nflat gv.ns), nrows gv.ns], ?_, ?_⟩
  · rintro s g ⟨rfl, n2, S⟩
    unfold ref16_first_j6
    dsimp only
    have fin : ∀ g, Sep h no g [blk b1 gv.cells] [row gv.p (nflat gv.ns), nrows gv.ns] → (∀ n ∈ gv.ns, fitR 0 (gv.l : Int) n.inn.xs) → Value.int .i64 0 = .int .i64 gv.gr.first ∧ Fra no h g := fun g S hall => ⟨by
      have : ∀ n ∈ gv.gr.nodes, fitR 0 (gv.gr.nodes.length : Int) n.inn := fun n hn' => by
        obtain ⟨m, hm, rfl⟩ := List.mem_map.1 hn'
        rw [hgn]; exact hall m hm
      unfold Gr.first; rw [if_neg n1]
      exact congrArg _ (((if_neg n2).trans (if_pos this)).symm), S.fra⟩
    have bad : ∀ g, Sep h no g [blk b1 gv.cells] [row gv.p (nflat gv.ns), nrows gv.ns] → (∃ n ∈ gv.ns, ¬ fitR 0 (gv.l : Int) n.inn.xs) → Value.int .i64 1 = .int .i64 gv.gr.first ∧ Fra no h g := fun g S ⟨m, hm, hb⟩ => ⟨by
      have : ¬ ∀ n ∈ gv.gr.nodes, fitR 0 (gv.gr.nodes.length : Int) n.inn := fun hall => by
        have := hall m.nd (List.mem_map_of_mem hm)
        rw [hgn] at this; exact hb this
      unfold Gr.first; rw [if_neg n1]
      exact congrArg _ (((if_neg n2).trans (if_neg this)).symm), S.fra⟩
    refine LoopS_i (fun m s g => ∃ i : Nat, s = (⟨b1, 0, none⟩, (gv.l : Int), (i : Int), ()) ∧ i ≤ gv.l ∧ m = gv.l - i ∧ (∀ n ∈ gv.ns.take i, fitR 0 (gv.l : Int) n.inn.xs) ∧ Sep h no g [blk b1 gv.cells] [row gv.p (nflat gv.ns), nrows gv.ns]) gv.l ⟨0, rfl, by omega, rfl, by simp, S⟩ ?_
    clear S
    rintro m s g ⟨i, rfl, hi, rfl, hall, S⟩
    unfold ref16_first_l7
    dsimp only
    refine ifB_dec (fun hlt => ?_) (fun hge => ?_)
    · have hig : i < gv.ns.length := by omega
      obtain ⟨nv, en⟩ : ∃ n, gv.ns[i]? = some n := ⟨_, List.getElem?_eq_getElem hig⟩
      have en' : gv.ns[i] = nv := by rw [List.getElem?_eq_getElem hig] at en; exact Option.some.inj en
      have hmem := List.mem_of_getElem? en
      have nok := hok.2.2 nv hmem
      have ilen : nv.inn.xs.length = nv.inn.l := nok.1.1
      have hsz := hs nv hmem
      refine LoopS_i (fun m s g => ∃ j : Nat, s = (⟨b1, 0, none⟩, (gv.l : Int), (i : Int), (j : Int), ()) ∧ j ≤ nv.inn.l ∧ m = nv.inn.l - j ∧ fitR 0 (gv.l : Int) (nv.inn.xs.take j) ∧ Sep h no g [blk b1 gv.cells] [row gv.p (nflat gv.ns), nrows gv.ns]) nv.inn.l ⟨0, rfl, by omega, rfl, by rw [List.take_zero]; exact fitR_nil _ _, S⟩ ?_
      clear S
      rintro m s g ⟨j, rfl, hj, rfl, hfit, S⟩
      unfold ref16_first_l10
      simp only [add_mk, Nat.zero_add]
      have ldg : cellH g ⟨b1, 3, none⟩ = some (.slice gv.p gv.l gv.c) := S.cell 0 rfl rfl
      obtain ⟨a, ea⟩ := (S.row 0 rfl).some_of (by rw [nflat_length]; omega)
      have hrow : Row g (some a) (nflat gv.ns) := by rw [← ea]; exact S.row 0 rfl
      have hcell : cellH g ((a.add (i * 15)).add 1) = some nv.inn.v := by
        have := hrow.cell (i := i * 15 + 1) (v := nv.inn.v) (by rw [nflat_at en (by decide)]; rfl)
        rw [add_add _ _ (by decide)]; exact this
      refine ldSlice_i (p := gv.p) (l := gv.l) (c := gv.c) ldg (idxI_i ea rfl (by omega) ?_)
      simp only [Int.toNat_natCast]
      refine ldSlice_i (p := nv.inn.p) (l := nv.inn.l) (c := nv.inn.c) hcell ?_
      refine ifB_dec (fun hlt2 => ?_) (fun hge2 => ?_)
      · have hjx : j < nv.inn.xs.length := by omega
        refine ldSlice_i (p := gv.p) (l := gv.l) (c := gv.c) ldg (idxI_i ea rfl (by omega) ?_)
        refine ldSlice_i (p := nv.inn.p) (l := nv.inn.l) (c := nv.inn.c) hcell ?_
        have irow : Row g nv.inn.p (ints nv.inn.xs) := S.r 1 _ rfl _ (List.mem_map_of_mem hmem) nv.inn.row (by simp)
        obtain ⟨aa, eaa⟩ := irow.some_of (by rw [ints_length]; omega)
        have irow2 : Row g (some aa) (ints nv.inn.xs) := by rw [← eaa]; exact irow
        refine idxI_i eaa rfl (by omega) ?_
        simp only [Int.toNat_natCast, Nat.mul_one]
        have lx := irow2.cell (ints_get (List.getElem?_eq_getElem hjx))
        refine ldInt_i lx (ifB_dec (fun hneg => bad g S ⟨nv, hmem, fun hf => ?_⟩) (fun hneg => ?_))
        · have := hf _ (List.getElem_mem hjx); omega
        refine ldSlice_i (p := gv.p) (l := gv.l) (c := gv.c) ldg (idxI_i ea rfl (by omega) ?_)
        refine ldSlice_i (p := nv.inn.p) (l := nv.inn.l) (c := nv.inn.c) hcell (idxI_i eaa rfl (by omega) ?_)
        refine ldInt_i lx (ifB_dec (fun hbig => bad g S ⟨nv, hmem, fun hf => ?_⟩) (fun hbig => ?_))
        · have := hf _ (List.getElem_mem hjx); omega
        rw [wrap64_in (by omega)]
        refine ⟨nv.inn.l - (j + 1), by omega, j + 1, rfl, by omega, rfl, fun x hx => ?_, S⟩
        rw [List.take_succ_eq_append_getElem hjx] at hx
        rcases List.mem_append.1 hx with hx | hx
        · exact hfit x hx
        · simp only [List.mem_singleton] at hx; subst hx; omega
      · rw [wrap64_in (by omega)]
        refine ⟨gv.l - (i + 1), by omega, i + 1, rfl, by omega, rfl, fun n hn' => ?_, S⟩
        rw [List.take_succ_eq_append_getElem hig, en'] at hn'
        rcases List.mem_append.1 hn' with hn' | hn'
        · exact hall n hn'
        · simp only [List.mem_singleton] at hn'; subst hn'
          rw [List.take_of_length_le (by omega)] at hfit; exact hfit
    · rw [List.take_of_length_le (by omega)] at hall
      exact fin g S hall
  · refine ldInt_i (n := gv.width) (S.cell 0 rfl rfl) (ifB_dec (fun c1 => r1 (.inl c1) _ S) fun c1 => ?_)
    refine ldInt_i (n := gv.width) (S.cell 0 rfl rfl) (ifB_dec (fun c2 => r1 (.inr (.inl (by omega))) _ S) fun c2 => ?_)
    refine ldInt_i (n := gv.low) (S.cell 0 rfl rfl) (ldInt_i (n := gv.high) (S.cell 0 rfl rfl) (ifB_dec (fun c3 => r1 (.inr (.inr (.inl c3))) _ S) fun c3 => ?_))
    refine ldInt_i (n := gv.low) (S.cell 0 rfl rfl) (ifB_dec (fun c4 => r1 (.inr (.inr (.inr (.inl c4)))) _ S) fun c4 => ?_)
    refine ldInt_i (n := gv.high) (S.cell 0 rfl rfl) (ifB_dec (fun c5 => r1 (.inr (.inr (.inr (.inr (.inl c5))))) _ S) fun c5 => ?_)
    refine ldInt_i (n := gv.out) (S.cell 0 rfl rfl) (ifB_dec (fun c6 => r1 (.inr (.inr (.inr (.inr (.inr (.inl c6)))))) _ S) fun c6 => ?_)
    refine ldInt_i (n := gv.out) (S.cell 0 rfl rfl) (ifB_dec (fun c7 => r1 (.inr (.inr (.inr (.inr (.inr (.inr (by rw [hgn]; exact c7))))))) _ S) fun c7 => ⟨rfl, ?_, S⟩)
    rw [hgn]; omega

theorem order16_ok {gv : Gv} (hok : gv.ok) (hn : Row h gv.p (nflat gv.ns)) (hr : (nrows gv.ns).P h) (hl : gv.l ≤ 2 ^ 20) (hs : ∀ n ∈ gv.ns, n.inn.l < 2 ^ 62) :
    callP P n_ref16_order #[gv.v] h fun v h' => ∃ (q : Option Addr) (m d : Nat), v = .slice q m d ∧ m ≤ d ∧ (ordG gv.gr.nodes).length = m ∧ Sep h no h' [row q (ints (ordG gv.gr.nodes))] [] := by
  refine call_ref16_order _ ?_
  unfold ref16_order
  have hgl := hok.1
  have S := ((Sep.start h no).read (row gv.p (nflat gv.ns)) hn).read (nrows gv.ns) hr
  refine newI_S (cs := gv.cells) S fun b1 h1 _ S => ?_
  dsimp only [List.nil_append, List.cons_append] at S
  refine newI_S (cs := [.int .i64 0]) S fun b3 h2 _ S => ?_
  dsimp only [List.nil_append, List.cons_append] at S
  obtain ⟨nds, ends⟩ : ∃ nds, gv.gr.nodes = nds := ⟨_, rfl⟩
  have ends' : gv.ns.map Nv.nd = nds := ends
  have hnl : nds.length = gv.l := by rw [← ends', List.length_map, hgl]
  rw [ends]
  replace S := S.toOwn 1 1 1 1 rfl (Nat.le_refl _)
  refine LoopS_i (fun mm s g => ∃ (k : Nat) (q : Option Addr) (m d : Nat), s = (⟨b1, 0, none⟩, (q, m, d), (k : Int), ()) ∧ k ≤ gv.l ∧ mm = gv.l - k ∧ (ordK nds k).length = m ∧
    Sep h no g [blk b1 gv.cells, own 1 q m d (ints (ordK nds k))] [row gv.p (nflat gv.ns), nrows gv.ns]) gv.l ⟨0, _, 1, 1, rfl, by omega, rfl, rfl, S⟩ ?_
  clear S
  rintro mm s g ⟨k, q, m, d, rfl, hk, rfl, hm, S⟩
  have hmk : m ≤ k + 1 := by
    have := ordK_length nds k
    rw [List.length_tail] at this; omega
  unfold ref16_order_l3
  simp only [add_mk, Nat.zero_add]
  refine ldSlice_i (p := gv.p) (l := gv.l) (c := gv.c) (S.cell 0 rfl rfl) ?_
  have ek : IntKind.wrap .i64 ((k : Int) + 1) = ((k + 1 : Nat) : Int) := by rw [wrap64_in (by omega)]; rfl
  refine ifB_dec (fun hlt => ?_) (fun hge => ?_)
  · refine LoopS_i (fun mm s g => ∃ t : Nat, s = (⟨b1, 0, none⟩, (q, m, d), (k : Int), (t : Int) + 1, ()) ∧ t ≤ gv.l ∧ mm = gv.l - t ∧ nextO (ordK nds k) (nds.drop t) t = nextO (ordK nds k) nds 0 ∧
      Sep h no g [blk b1 gv.cells, own 1 q m d (ints (ordK nds k))] [row gv.p (nflat gv.ns), nrows gv.ns]) gv.l ⟨0, rfl, by omega, rfl, by rw [List.drop_zero], S⟩ ?_
    clear S
    rintro mm s g ⟨t, rfl, ht, rfl, hnx, S⟩
    unfold ref16_order_l6
    simp only [add_mk, Nat.zero_add]
    refine ldSlice_i (p := gv.p) (l := gv.l) (c := gv.c) (S.cell 0 rfl rfl) ?_
    refine ifB_dec (fun hlt2 => ?_) (fun hge2 => ?_)
    · have htg : t < gv.ns.length := by omega
      have htd : t < nds.length := by omega
      obtain ⟨nv, en⟩ : ∃ n, gv.ns[t]? = some n := ⟨_, List.getElem?_eq_getElem htg⟩
      have hmem := List.mem_of_getElem? en
      have nok := hok.2.2 nv hmem
      have ilen : nv.inn.xs.length = nv.inn.l := nok.1.1
      have hsz := hs nv hmem
      have endt : nds[t] = nv.nd := by
        have : nds[t]? = some nv.nd := by rw [← ends', List.getElem?_map, en]; rfl
        rw [List.getElem?_eq_getElem htd] at this; exact Option.some.inj this
      refine (has16_ok (S.own 1 rfl).row hm (by omega) ((t : Int) + 1)).mono ?_
      rintro _ g1 ⟨rfl, hg⟩
      subst g1
      refine ⟨_, rfl, ?_⟩
      refine ldSlice_i (p := gv.p) (l := gv.l) (c := gv.c) (S.cell 0 rfl rfl) ?_
      have et : IntKind.wrap .i64 ((t : Int) + 1 - 1) = (t : Int) := by rw [wrap64_in (by omega)]; omega
      rw [et]
      obtain ⟨a, ea⟩ := (S.row 0 rfl).some_of (by rw [nflat_length]; omega)
      have hrow : Row g (some a) (nflat gv.ns) := by rw [← ea]; exact S.row 0 rfl
      have hcell : cellH g ((a.add (t * 15)).add 1) = some nv.inn.v := by
        have := hrow.cell (i := t * 15 + 1) (v := nv.inn.v) (by rw [nflat_at en (by decide)]; rfl)
        rw [add_add _ _ (by decide)]; exact this
      refine idxI_i ea rfl (by omega) ?_
      simp only [Int.toNat_natCast]
      refine ldSlice_i (p := nv.inn.p) (l := nv.inn.l) (c := nv.inn.c) hcell ?_
      refine LoopS_i (fun mm s g => ∃ (j : Nat) (may : Bool), s = (⟨b1, 0, none⟩, (q, m, d), (k : Int), (t : Int) + 1, may, (nv.inn.p, nv.inn.l, nv.inn.c), (j : Int), ()) ∧ j ≤ nv.inn.l ∧ mm = nv.inn.l - j ∧ (may = true ↔ ((t : Int) + 1) ∉ ordK nds k ∧ ∀ x ∈ nv.inn.xs.take j, x ∈ ordK nds k) ∧
        Sep h no g [blk b1 gv.cells, own 1 q m d (ints (ordK nds k))] [row gv.p (nflat gv.ns), nrows gv.ns]) nv.inn.l ⟨0, _, rfl, by omega, rfl, by simp, S⟩ ?_
      clear S hrow hcell
      rintro mm s g ⟨j, may, rfl, hj, rfl, hmay, S⟩
      unfold ref16_order_l11
      dsimp only
      have ej : IntKind.wrap .i64 ((j : Int) + 1) = ((j + 1 : Nat) : Int) := by rw [wrap64_in (by omega)]; rfl
      rw [ej]
      refine ifB_dec (fun hlt3 => ?_) (fun hge3 => ?_)
      · have hjx : j < nv.inn.xs.length := by omega
        have htk : nv.inn.xs.take (j + 1) = nv.inn.xs.take j ++ [nv.inn.xs[j]] := List.take_succ_eq_append_getElem hjx
        refine ifB_known (fun hb => ?_) (fun hb => ?_)
        · have irow : Row g nv.inn.p (ints nv.inn.xs) := S.r 1 _ rfl _ (List.mem_map_of_mem hmem) nv.inn.row (by simp)
          obtain ⟨aa, eaa⟩ := irow.some_of (by rw [ints_length]; omega)
          rw [eaa] at irow
          refine idxI_i eaa rfl (by omega) ?_
          simp only [Int.toNat_natCast, Nat.mul_one]
          refine ldInt_i (irow.cell (ints_get (List.getElem?_eq_getElem hjx))) ?_
          refine (has16_ok (S.own 1 rfl).row hm (by omega) nv.inn.xs[j]).mono ?_
          rintro _ _ ⟨rfl, rfl⟩
          refine ⟨_, rfl, nv.inn.l - (j + 1), by omega, j + 1, _, rfl, by omega, rfl, ?_, S⟩
          rw [htk, decide_eq_true_iff]
          have := hmay.1 hb
          constructor
          · intro hx
            refine ⟨this.1, fun y hy => ?_⟩
            rcases List.mem_append.1 hy with hy | hy
            · exact this.2 y hy
            · simp only [List.mem_singleton] at hy; subst hy; exact hx
          · intro hh; exact hh.2 _ (List.mem_append_right _ (List.mem_singleton.2 rfl))
        · refine ⟨nv.inn.l - (j + 1), by omega, j + 1, false, rfl, by omega, rfl, ?_, S⟩
          rw [htk]
          constructor
          · intro h; cases h
          · intro hh
            have := hmay.2 ⟨hh.1, fun y hy => hh.2 y (List.mem_append_left _ hy)⟩
            rw [hb] at this; cases this
      · rw [List.take_of_length_le (by omega)] at hmay
        have hin : nds[t].inn = nv.inn.xs := by rw [endt]; rfl
        refine ifB_known (fun hb => ?_) (fun hb => ?_)
        · have hc := hmay.1 hb
          have hhere := nextO_here htd (by rw [hin]; exact hc)
          rw [hhere] at hnx
          have hstep : ordK nds (k + 1) = ordK nds k ++ [(t : Int) + 1] := by
            show stepO nds (ordK nds k) = _
            unfold stepO
            rw [← hnx]
          refine newI_S (cs := [.int .i64 ((t : Int) + 1)]) S fun b19 h20 _ S => ?_
          dsimp only [List.cons_append, List.nil_append] at S
          refine appI_S S 1 (ys := ints [(t : Int) + 1]) rfl rfl (by decide) (by omega) (Row.of_at (S.at 2 rfl)) rfl vals_one fun p2 l2 c2 h9 hl2 S => ?_
          dsimp only [List.set] at S
          rw [ek]
          refine ⟨gv.l - (k + 1), by omega, k + 1, p2, l2, c2, rfl, by omega, rfl, by rw [hstep, List.length_append, hm]; exact hl2.symm, ?_⟩
          have e : ints (ordK nds k) ++ ints [(t : Int) + 1] = ints (ordK nds (k + 1)) := by rw [hstep]; simp only [ints, List.map_append, List.map_cons, List.map_nil]
          rw [e] at S
          exact S.pw [0, 1]
        · have hnc : ¬ (((t : Int) + 1) ∉ ordK nds k ∧ ∀ j ∈ nds[t].inn, j ∈ ordK nds k) := fun hh => by
            rw [hin] at hh
            have := hmay.2 hh
            rw [hb] at this; cases this
          have ew : IntKind.wrap .i64 ((t : Int) + 1 + 1) = ((t + 1 : Nat) : Int) + 1 := by rw [wrap64_in (by omega)]; omega
          rw [ew]
          exact ⟨gv.l - (t + 1), by omega, t + 1, rfl, by omega, rfl, by rw [nextO_drop htd hnc]; exact hnx, S⟩
    · have : t = nds.length := by omega
      subst this
      rw [List.drop_length] at hnx
      have hnone : nextO (ordK nds k) nds 0 = none := hnx.symm
      have hstep : ordK nds (k + 1) = ordK nds k := by
        show stepO nds (ordK nds k) = _
        unfold stepO
        rw [hnone]
      rw [ek]
      refine ⟨gv.l - (k + 1), by omega, k + 1, q, m, d, rfl, by omega, rfl, by rw [hstep]; exact hm, ?_⟩
      rw [hstep]; exact S
  · have : k = nds.length := by omega
    subst this
    have hcons := ordK_cons nds nds.length
    have h1m : 1 ≤ m := by rw [← hm, hcons]; simp
    have o := S.own 1 rfl
    have hmd := o.2.1
    refine bndI_i (n := 1) rfl h1m ?_
    refine ⟨_, _, _, rfl, by omega, by unfold ordG; rw [List.length_tail, hm], ?_⟩
    have S2 := S.turn 1 rfl (row (if d = 1 then q else Option.map (fun a => a.add (1 * 1)) q) (ints (ordG nds))) (fun hh => ?_) (fun b hb => ?_)
    · exact noR (S2.pw [1])
    · have r := Own.row hh
      have e : (ints (ordK nds nds.length)).drop 1 = ints (ordG nds) := by rw [ints_drop]; unfold ordG; rw [List.drop_one]
      by_cases hd : d = 1
      · rw [if_pos hd]
        have : ordG nds = [] := by
          have : (ordG nds).length = 0 := by unfold ordG; rw [List.length_tail, hm]; omega
          exact List.length_eq_zero_iff.1 this
        show Row _ _ _
        rw [this]; exact Row.nil _ _
      · rw [if_neg hd]
        have := r.drop' 1 (by rw [ints_length, hm]; omega)
        rw [e] at this
        exact this
    · by_cases hd : d = 1
      · rw [if_pos hd] at hb; exact hb.2
      · rw [if_neg hd] at hb
        obtain ⟨_, a, ha, hb⟩ := hb
        obtain ⟨a0, e0, rfl⟩ := Option.map_eq_some_iff.1 ha
        exact ⟨a0, e0, hb⟩

theorem rate16_ok {nv : Nv} {p : Option Addr} {l c : Nat} {rs : List Int} (hw : Row h p (ints rs)) (hl : rs.length = l) (h1l : 1 ≤ l) (hl2 : l < 2 ^ 56) (hr : 0 ≤ rs.getD 0 0 ∧ rs.getD 0 0 ≤ 2 ^ 30) (hs : four nv.kind → 0 ≤ nv.step ∧ nv.step ≤ 2 ^ 20) :
    callP P n_ref16_rate #[nv.v, .slice p l c] h fun v h' => v = .int .i64 (rateN nv.nd rs) ∧ Fra no h h' := by
  refine call_ref16_rate _ _ _ _ ?_
  unfold ref16_rate
  have S := (Sep.start h no).read (row p (ints rs)) hw
  refine newI_S (cs := nv.cells) S fun b1 h1 _ S => ?_
  dsimp only [List.nil_append, List.cons_append] at S
  have hx := S.row 0 rfl
  obtain ⟨aa, epa⟩ := hx.some_of (by rw [ints_length]; omega)
  rw [epa] at hx
  refine idxI_i epa (k := 0) rfl (by omega) ?_
  refine ldInt_i (n := rs.getD 0 0) (hx.cell (i := 0) (ints_get (by rw [List.getElem?_eq_getElem (by omega), getD_eq (by omega)]))) ?_
  generalize hr0 : rs.getD 0 0 = r at hr ⊢
  have eR : rateN nv.nd rs = if ¬ ∀ x ∈ rs, x = r then -1 else if r = 0 ∧ (wins nv.kind ∨ nv.kind = 5) then -1 else if nv.kind = 5 then 0 else r * stepN nv.kind nv.step := by
    unfold rateN; rw [hr0]; rfl
  refine LoopS_i (fun m s g => ∃ i : Nat, s = ((p, l, c), ⟨b1, 0, none⟩, r, (i : Int), ()) ∧ i ≤ l ∧ m = l - i ∧ (∀ x ∈ rs.take i, x = r) ∧ Sep h no g [blk b1 nv.cells] [row p (ints rs)]) l ⟨0, rfl, by omega, rfl, by simp, S⟩ ?_
  clear S hx
  rintro m s g ⟨i, rfl, hi, rfl, hall, S⟩
  unfold ref16_rate_l3
  dsimp only
  refine ifB_dec (fun hlt => ?_) (fun hge => ?_)
  · have hix : i < rs.length := by omega
    have hx := S.row 0 rfl
    rw [epa] at hx
    refine idxI_i epa rfl (by omega) ?_
    simp only [Int.toNat_natCast, Nat.mul_one]
    refine ldInt_i (hx.cell (ints_get (List.getElem?_eq_getElem hix))) (ifB_bne (fun hne => ⟨?_, S.fra⟩) (fun he => ?_))
    · rw [eR, if_pos (fun hh => hne (hh _ (List.getElem_mem hix)))]
    · rw [wrap64_in (by omega)]
      refine ⟨l - (i + 1), by omega, i + 1, rfl, by omega, rfl, fun x hx' => ?_, S⟩
      rw [List.take_succ_eq_append_getElem hix] at hx'
      rcases List.mem_append.1 hx' with hx' | hx'
      · exact hall x hx'
      · simp only [List.mem_singleton] at hx'; subst hx'; exact he
  · rw [List.take_of_length_le (by omega)] at hall
    have na : ¬ ¬ ∀ x ∈ rs, x = r := fun h => h hall
    rw [if_neg na] at eR
    have hst : 0 ≤ stepN nv.kind nv.step ∧ stepN nv.kind nv.step ≤ 2 ^ 20 := by
      unfold stepN; split
      · rename_i h; exact hs h
      · decide
    have hm : 0 ≤ r * stepN nv.kind nv.step ∧ r * stepN nv.kind nv.step ≤ 2 ^ 50 := by
      refine ⟨Int.mul_nonneg hr.1 hst.1, ?_⟩
      have := Int.mul_le_mul hr.2 hst.2 hst.1 (by decide)
      omega
    have tail : ¬ (r = 0 ∧ (wins nv.kind ∨ nv.kind = 5)) → ldInt .i64 g ⟨b1, 0, none⟩ fun n => ifB (n == (5 : Int)) (Value.int .i64 0 = .int .i64 (rateN nv.nd rs) ∧ Fra no h g) (ldAg ndSh g ⟨b1, 0, none⟩ fun x => callInt P .i64 n_ref14_Step #[agS ndSh x] g fun n h14 => Value.int .i64 (IntKind.wrap .i64 (r * n)) = .int .i64 (rateN nv.nd rs) ∧ Fra no h h14) := fun hn => by
      rw [if_neg hn] at eR
      refine ldInt_i (n := nv.kind) (S.cell 0 rfl rfl) (ifB_beq (fun h5 => ⟨by rw [eR, if_pos h5], S.fra⟩) (fun h5 => ?_))
      rw [if_neg h5] at eR
      refine ldAg_S S 0 rfl (x := nv.t) rfl ?_
      refine (Step14_ok nv).mono ?_
      rintro _ g2 ⟨rfl, F⟩
      refine ⟨_, rfl, ?_, S.fra.trans F⟩
      rw [wrap64_in (by omega), eR]
    refine ldInt_i (n := nv.kind) (S.cell 0 rfl rfl) ?_
    refine (Windows14_ok nv.kind).mono ?_
    rintro _ _ ⟨rfl, rfl⟩
    refine ⟨_, rfl, ?_⟩
    refine ifB_beq (fun h0 => ?_) (fun h0 => tail fun hh => h0 hh.1)
    refine ifB_dec (fun hw => ⟨by rw [eR, if_pos ⟨h0, .inl hw⟩], S.fra⟩) (fun hw => ?_)
    refine ldInt_i (n := nv.kind) (S.cell 0 rfl rfl) (ifB_beq (fun h5 => ⟨by rw [eR, if_pos ⟨h0, .inr h5⟩], S.fra⟩) (fun h5 => ?_))
    exact tail fun hh => hh.2.elim hw h5
end
end Go.Proofs.YtbgplllcjhgdhaaDoor.G
