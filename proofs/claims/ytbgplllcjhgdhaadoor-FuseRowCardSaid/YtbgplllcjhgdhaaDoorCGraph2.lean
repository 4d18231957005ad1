/- Contracts: the program's graph: the order of nodes, pick, rate. -/
import Derived.Test.YtbgplllcjhgdhaaDoorCGraph
namespace Go.Proofs.YtbgplllcjhgdhaaDoor.G
open Go Go.Sh
set_option linter.unusedVariables false
set_option linter.unusedSimpArgs false

theorem ints_set' (xs : List Int) (i : Nat) (x : Int) : (ints xs).set i (.int .i64 x) = ints (xs.set i x) := by simp [ints, List.map_set]
theorem ints_snoc (xs : List Int) (x : Int) : ints xs ++ [Value.int .i64 x] = ints (xs ++ [x]) := by simp [ints]
theorem nextO_drop {there : List Int} {ns : List Nd} {i : Nat} (hi : i < ns.length) (hc : ¬ (((i : Int) + 1) ∉ there ∧ ∀ j ∈ ns[i].inn, j ∈ there)) : nextO there (ns.drop (i + 1)) (i + 1) = nextO there (ns.drop i) i := by
  rw [List.drop_eq_getElem_cons hi]
  conv => rhs; unfold nextO
  rw [if_neg hc]
theorem nextO_here {there : List Int} {ns : List Nd} {i : Nat} (hi : i < ns.length) (hc : ((i : Int) + 1) ∉ there ∧ ∀ j ∈ ns[i].inn, j ∈ there) : nextO there (ns.drop i) i = some ((i : Int) + 1) := by
  rw [List.drop_eq_getElem_cons hi]
  unfold nextO
  rw [if_pos hc]

section
variable {h : Heap}

theorem ordered_ok {p : Option Addr} {l c : Nat} {ns : List Nv} (hn : Row h p (nflat ns)) (hr : (nrows ns).P h) (hl : ns.length = l) (hl2 : l ≤ 2 ^ 20) (hok : ∀ n ∈ ns, n.inn.ok) (hs : ∀ n ∈ ns, n.inn.l < 2 ^ 62) :
    callP P n_graph_ordered #[.slice p l c] h fun v h' => ∃ (q : Option Addr) (m d : Nat), v = .tuple #[.slice q m d, .bool (decide ((ordG (ns.map Nv.nd)).length = ns.length))] ∧ (ordG (ns.map Nv.nd)).length = m ∧ Sep h no h' [own 1 q m d (ints (ordG (ns.map Nv.nd)))] [] := by
  refine call_graph_ordered _ _ _ ?_
  unfold graph_ordered
  have S := ((Sep.start h no).read (row p (nflat ns)) hn).read (nrows ns) hr
  obtain ⟨nds, ends⟩ : ∃ nds, ns.map Nv.nd = nds := ⟨_, rfl⟩
  have hnl : nds.length = l := by rw [← ends, List.length_map, hl]
  rw [ends]
  refine newM_S .i64 S fun r2 h1 _ S => ?_
  dsimp only [List.nil_append, List.cons_append] at S
  refine updB_S S 0 rfl fun h2 S => ?_
  rw [lM_none, upL_lM] at S
  dsimp only [List.set] at S
  refine newI_S (cs := [.map none]) S fun b4 h3 _ S => ?_
  dsimp only [List.nil_append, List.cons_append] at S
  refine stI_S S 1 rfl (Nat.le_of_ble_eq_true rfl) fun h4 _ S => ?_
  replace S := S.nil 1
  dsimp only [List.set, List.nil_append, List.cons_append] at S
  refine LoopS_i (fun mm s g => ∃ (k : Nat) (q : Option Addr) (m d : Nat) (M : Int → Option Int), s = ((p, l, c), ⟨b4, 0, none⟩, (q, m, d), (l : Int), (k : Int), ()) ∧ k ≤ l ∧ mm = l - k ∧ (ordK nds k).tail.length = m ∧ (∀ n, (M n).isSome ↔ n ∈ ordK nds k) ∧
    Sep h no g [mpi r2 M, blk b4 [.map (some r2)], own 1 q m d (ints (ordK nds k).tail)] [row p (nflat ns), nrows ns]) l ⟨0, none, 0, 0, _, rfl, by omega, rfl, rfl, ?_, S⟩ ?_
  · intro n
    unfold upM ordK
    by_cases h0 : n = 0
    · simp [h0]
    · simp [h0]
  clear S
  rintro mm s g ⟨k, q, m, d, M, rfl, hk, rfl, hm, hM, S⟩
  have hmk : m ≤ k := by rw [← hm]; exact ordK_length nds k
  unfold graph_ordered_l4
  dsimp only
  refine ifB_dec (fun hlt => ?_) (fun hge => ?_)
  · refine LoopS_i (fun mm s g => ∃ i : Nat, s = ((p, l, c), ⟨b4, 0, none⟩, (q, m, d), (l : Int), (k : Int), (p, l, c), (l : Int), (i : Int), ()) ∧ i ≤ l ∧ mm = l - i ∧ nextO (ordK nds k) (nds.drop i) i = nextO (ordK nds k) nds 0 ∧
      Sep h no g [mpi r2 M, blk b4 [.map (some r2)], own 1 q m d (ints (ordK nds k).tail)] [row p (nflat ns), nrows ns]) l ⟨0, rfl, by omega, rfl, by rw [List.drop_zero], S⟩ ?_
    clear S
    rintro mm s g ⟨i, rfl, hi, rfl, hnx, S⟩
    unfold graph_ordered_l6
    dsimp only
    refine ifB_dec (fun hlt2 => ?_) (fun hge2 => ?_)
    · have hix : i < ns.length := by omega
      have hid : i < nds.length := by omega
      obtain ⟨n, en⟩ : ∃ n, ns[i]? = some n := ⟨_, List.getElem?_eq_getElem hix⟩
      have hmem := List.mem_of_getElem? en
      have nok := hok n hmem
      have hni := hs n hmem
      have end' : nds[i] = n.nd := by
        subst ends
        rw [List.getElem?_eq_getElem hix] at en
        simp only [Option.some.injEq] at en
        simp [en]
      obtain ⟨a, ea⟩ := (S.row 0 rfl).some_of (by rw [nflat_length]; omega)
      have hrow : Row g (some a) (nflat ns) := by rw [← ea]; exact S.row 0 rfl
      refine idxI_i ea rfl (by omega) ?_
      simp only [Int.toNat_natCast]
      refine ldNode hrow en ?_
      refine newI_S S fun b11 g2 _ S => ?_
      dsimp only [List.cons_append, List.nil_append] at S
      refine stL_S S 3 rfl rfl (mkS_one rfl) fun g3 _ S => ?_
      dsimp only [List.set] at S
      rw [wrap64_in (n := (i : Int) + 1) (by omega)]
      refine ⟨some r2, S.cell 1 rfl rfl, lookI_of (S.w 0 _ rfl) ⟨_, _, rfl, ?_⟩⟩
      have skip : ¬ (((i : Int) + 1) ∉ ordK nds k ∧ ∀ j ∈ nds[i].inn, j ∈ ordK nds k) → nextO (ordK nds k) (nds.drop (i + 1)) (i + 1) = nextO (ordK nds k) nds 0 := fun hc => by rw [nextO_drop hid hc]; exact hnx
      refine ifB_known (fun hb => ?_) (fun hb => ?_)
      · exact ⟨l - (i + 1), by omega, i + 1, rfl, by omega, rfl, skip fun hc => hc.1 ((hM _).1 hb), S.pw [0, 1, 2]⟩
      · refine ldSlice_i (p := n.inn.p) (l := n.inn.l) (c := n.inn.c) (S.cell 3 rfl rfl) ?_
        have irow : Row g3 n.inn.p (ints n.inn.xs) := S.r 1 _ rfl _ (List.mem_map_of_mem hmem) n.inn.row (by simp)
        refine (ContainsO_ok (a := ⟨b4, 0, none⟩) (S.cell 1 rfl rfl) (S.w 0 _ rfl) irow nok.1 hni).mono ?_
        rintro _ _ ⟨rfl, rfl⟩
        refine ⟨_, rfl, ?_⟩
        have hin : nds[i].inn = n.inn.xs := by rw [end']; rfl
        refine ifB_dec (fun hc => ?_) (fun hc => ?_)
        · refine ⟨l - (i + 1), by omega, i + 1, rfl, by omega, rfl, skip fun hh => ?_, S.pw [0, 1, 2]⟩
          obtain ⟨j, hj, e⟩ := hc
          rw [hin] at hh
          have := (hM j).2 (hh.2 j hj)
          rw [e] at this; cases this
        · have hhere : ((i : Int) + 1) ∉ ordK nds k ∧ ∀ j ∈ nds[i].inn, j ∈ ordK nds k := by
            refine ⟨fun hh => (by have := (hM _).2 hh; rw [hb] at this; cases this), fun j hj => ?_⟩
            rw [hin] at hj
            refine (hM j).1 ?_
            cases hMj : M j with
            | none => exact absurd ⟨j, hj, hMj⟩ hc
            | some x => rfl
          rw [nextO_here hid hhere] at hnx
          have hstep : ordK nds (k + 1) = ordK nds k ++ [(i : Int) + 1] := by
            show stepO nds (ordK nds k) = _
            unfold stepO
            rw [← hnx]
          have htail : (ordK nds (k + 1)).tail = (ordK nds k).tail ++ [(i : Int) + 1] := by
            rw [hstep]
            conv => lhs; rw [ordK_cons nds k]
            rfl
          refine ⟨some r2, S.cell 1 rfl rfl, updB_S S 0 rfl fun g4 S => ?_⟩
          rw [upL_lM] at S
          dsimp only [List.set] at S
          refine newI_S S (fun b25 _ _ S => ?_)
          dsimp only [List.cons_append, List.nil_append] at S
          refine appI_S S 2 rfl rfl (by decide) (by omega) (Row.of_at (S.at 4 rfl)) rfl (by simp [one1]) fun p27 l27 c27 g5 el S => ?_
          rw [ints_snoc, ← htail] at S
          dsimp only [List.set] at S
          rw [wrap64_in (by omega)]
          refine ⟨l - (k + 1), by omega, k + 1, p27, l27, c27, _, rfl, by omega, rfl, ?_, fun x => ?_, S.pw [0, 1, 2]⟩
          · rw [htail, List.length_append, List.length_singleton, hm, el]
          · rw [hstep, List.mem_append, List.mem_singleton, ← hM x]
            unfold upM
            by_cases hx : x = (i : Int) + 1
            · simp [hx]
            · simp [hx]
    · have hil : i = l := by omega
      rw [List.drop_of_length_le (by omega)] at hnx
      have hstep : ordK nds (k + 1) = ordK nds k := by
        show stepO nds (ordK nds k) = _
        unfold stepO
        rw [← hnx]; rfl
      rw [wrap64_in (by omega)]
      refine ⟨l - (k + 1), by omega, k + 1, q, m, d, M, rfl, by omega, rfl, by rw [hstep]; exact hm, fun x => by rw [hstep]; exact hM x, by rw [hstep]; exact S⟩
  · have hkl : k = nds.length := by omega
    subst hkl
    refine ⟨q, m, d, ?_, hm, S.pw [2]  |> fun S => ⟨S.fra, S.w, by simp, S.ok, S.ww, by simp⟩⟩
    have e : ((m : Int) == (l : Int)) = decide ((ordG nds).length = ns.length) := by
      rw [Bool.eq_iff_iff, beq_iff_eq, decide_eq_true_iff]
      have : (ordG nds).length = m := hm
      omega
    rw [e]

/-! pick -/
def pickG (xs js : List Int) : List Int := js.map fun j => xs.getD j.toNat 0

theorem set_rep {A : List Int} {m i : Nat} (hA : A.length = i) (hi : i < m) (v : Int) : (A ++ List.replicate (m - i) 0).set i v = (A ++ [v]) ++ List.replicate (m - (i + 1)) 0 := by
  have : m - i = (m - (i + 1)) + 1 := by omega
  rw [this, List.replicate_succ, List.set_append_right _ _ (by omega), hA, Nat.sub_self, List.set_cons_zero]
  simp

theorem pick_ok {p q : Option Addr} {l c m d : Nat} {xs js : List Int} (hx : Row h p (ints xs)) (hj : Row h q (ints js)) (hl : xs.length = l) (hm : js.length = m) (hm2 : m ≤ 2 ^ 40) (hin : ∀ j ∈ js, 0 ≤ j ∧ j < (xs.length : Int)) :
    callP P n_graph_pick #[.slice p l c, .slice q m d] h fun v h' => ∃ b, v = .slice (some ⟨b, 0, none⟩) m m ∧ Sep h no h' [blk b (ints (pickG xs js))] [] := by
  refine call_graph_pick _ _ _ _ _ _ ?_
  unfold graph_pick
  have S := ((Sep.start h no).read (row p (ints xs)) hx).read (row q (ints js)) hj
  refine mkI_S S m rfl rfl rfl (by decide) (by omega) (by omega) fun b1 h1 _ S => ?_
  dsimp only [List.nil_append, List.cons_append] at S
  rw [repl_one, show List.replicate m (Value.int .i64 0) = ints (List.replicate m 0) by simp [ints]] at S
  simp only [Int.toNat_natCast]
  refine LoopS_i (fun mm s g => ∃ i : Nat, s = ((p, l, c), (some ⟨b1, 0, none⟩, m, m), (q, m, d), (m : Int), (i : Int), ()) ∧ i ≤ m ∧ mm = m - i ∧
    Sep h no g [blk b1 (ints (pickG xs (js.take i) ++ List.replicate (m - i) 0))] [row p (ints xs), row q (ints js)]) m ⟨0, rfl, by omega, rfl, S⟩ ?_
  clear S
  rintro mm s g ⟨i, rfl, hi, rfl, S⟩
  unfold graph_pick_l3
  dsimp only
  refine ifB_dec (fun hlt => ?_) (fun hge => ?_)
  · have hix : i < js.length := by omega
    obtain ⟨qa, eqa⟩ := (S.row 1 rfl).some_of (by rw [ints_length]; omega)
    have hq : Row g (some qa) (ints js) := by rw [← eqa]; exact S.row 1 rfl
    have hji := hin js[i] (List.getElem_mem hix)
    obtain ⟨k, ek⟩ : ∃ k : Nat, js[i] = k := ⟨js[i].toNat, by omega⟩
    have hkx : k < xs.length := by omega
    obtain ⟨pa, epa⟩ := (S.row 0 rfl).some_of (by rw [ints_length]; omega)
    have hp : Row g (some pa) (ints xs) := by rw [← epa]; exact S.row 0 rfl
    refine idxI_i eqa rfl (by omega) ?_
    simp only [Int.toNat_natCast, Nat.mul_one]
    refine ldInt_i (n := (k : Int)) (hq.cell (ints_get (by rw [List.getElem?_eq_getElem hix, ek]))) (idxI_i epa rfl (by omega) ?_)
    simp only [Int.toNat_natCast, Nat.mul_one]
    refine ldInt_i (n := xs.getD k 0) (hp.cell (ints_get (by rw [List.getElem?_eq_getElem hkx, getD_eq hkx]))) (idxI_i rfl rfl (by omega) ?_)
    simp only [add_mk, Nat.zero_add]
    have hpl : (pickG xs (js.take i)).length = i := by unfold pickG; rw [List.length_map, List.length_take]; omega
    refine stI_S S 0 rfl (by rw [ints_length, List.length_append, hpl, List.length_replicate]; omega) fun g2 _ S => ?_
    rw [ints_set', set_rep hpl (by omega)] at S
    have hsn : pickG xs (js.take i) ++ [xs.getD k 0] = pickG xs (js.take (i + 1)) := by
      rw [List.take_succ_eq_append_getElem hix]
      unfold pickG
      rw [List.map_append, ek]; rfl
    rw [hsn] at S
    dsimp only [List.set] at S
    rw [wrap64_in (by omega)]
    exact ⟨m - (i + 1), by omega, i + 1, rfl, by omega, rfl, S⟩
  · have him : i = m := by omega
    subst him
    rw [List.take_of_length_le (by omega), Nat.sub_self, List.replicate_zero, List.append_nil] at S
    exact ⟨b1, rfl, ⟨S.fra, S.w, by simp, S.ok, S.ww, by simp⟩⟩
end

end Go.Proofs.YtbgplllcjhgdhaaDoor.G
