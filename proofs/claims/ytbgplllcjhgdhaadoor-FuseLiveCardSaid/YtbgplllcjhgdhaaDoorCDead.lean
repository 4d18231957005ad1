/- What is not live could be any node over the input: the graph is right, and fused the same. -/
import Derived.Test.YtbgplllcjhgdhaaDoorCMadeR
import Derived.Test.YtbgplllcjhgdhaaDoorCRefL
namespace Go.Proofs.YtbgplllcjhgdhaaDoor.G
open Go Go.Sh
set_option linter.unusedVariables false
set_option linter.unusedSimpArgs false

def wholeN : Nd := ⟨5, [0], 0, 0, 0, 0, 0, 0, [], [], 0, 0, 0, 0, 0⟩
/-- Of the first t nodes, those that are not live turned. -/
def deadT (M : LM) (t : Nat) (ns : List Nd) : List Nd := ns.mapIdx fun i n => if i < t ∧ (M ((i : Int) + 1)).isSome = false then wholeN else n
def deadG (g : Gr) : Gr := { g with nodes := deadT (liveM g.nodes g.out) g.nodes.length g.nodes }
theorem deadT_get (M : LM) (t : Nat) (ns : List Nd) (i : Nat) : (deadT M t ns)[i]? = ns[i]?.map fun n => if i < t ∧ (M ((i : Int) + 1)).isSome = false then wholeN else n := by
  unfold deadT; rw [List.getElem?_mapIdx]
theorem deadT_length (M : LM) (t : Nat) (ns : List Nd) : (deadT M t ns).length = ns.length := by simp [deadT]
theorem deadT_live {M : LM} {t : Nat} {ns : List Nd} {i : Nat} (h : (M ((i : Int) + 1)).isSome) : (deadT M t ns)[i]? = ns[i]? := by
  rw [deadT_get]
  cases ns[i]? with
  | none => rfl
  | some n =>
    simp only [Option.map_some]
    rw [if_neg (fun hh => by rw [hh.2] at h; cases h)]
theorem deadT_dead {M : LM} {ns : List Nd} {i : Nat} {n : Nd} (h : (M ((i : Int) + 1)).isSome = false) (en : (deadT M ns.length ns)[i]? = some n) : n = wholeN := by
  have hi := (List.getElem?_eq_some_iff.1 en).1
  rw [deadT_length] at hi
  rw [deadT_get, List.getElem?_eq_getElem hi] at en
  simp only [Option.map_some, Option.some.injEq] at en
  rw [if_pos ⟨hi, h⟩] at en
  exact en.symm

theorem whole_chk {w : Int} (hw : inR w 1 16) : wholeN.chk [w] = 0 := by
  have f : fitR 1 16 [w] := fun x hx => by simp only [List.mem_singleton] at hx; subst hx; exact hw
  exact chk_zero rfl f (by decide) (fun h => absurd h (by decide)) (fun _ => rfl) rfl (by decide) ⟨fun h => absurd h (by decide), fun h => absurd h (by decide), fun h => absurd h (by decide), fun h => absurd h (by decide), by decide⟩ (fun h => absurd h (by decide)) (fun h => absurd h (by decide))

theorem dead_look {g : Gr} (h : g.look.e = 0) : (deadG g).look.e = 0 := by
  obtain ⟨W, R, r⟩ := look_right h
  have I := look_finv h
  obtain ⟨M, eM⟩ : ∃ M, liveM g.nodes g.out = M := ⟨_, rfl⟩
  have eN : (deadG g).nodes = deadT M g.nodes.length g.nodes := by rw [← eM]; rfl
  rw [eM] at I
  obtain ⟨f1, f2, f3, f4, f5, f6⟩ := first_ok r.first
  have hl : (deadG g).nodes.length = g.nodes.length := by rw [eN, deadT_length]
  have hget : ∀ (i : Nat) (n : Nd), (deadG g).nodes[i]? = some n → ((M ((i : Int) + 1)).isSome = true ∧ g.nodes[i]? = some n) ∨ ((M ((i : Int) + 1)).isSome = false ∧ n = wholeN) := fun i n en => by
    rw [eN] at en
    cases hm : (M ((i : Int) + 1)).isSome with
    | true => rw [deadT_live hm] at en; exact .inl ⟨rfl, en⟩
    | false => exact .inr ⟨rfl, deadT_dead hm en⟩
  have lvj : ∀ (i : Nat) (n : Nd), (M ((i : Int) + 1)).isSome = true → g.nodes[i]? = some n → ∀ j ∈ n.inn, (M j).isSome = true := fun i n hm en j hj => (I.lv j).2 (((I.lv _).1 hm).inn en hj)
  have key : ∀ (V : Int → Int) (v : Int) (l : List Int), (∀ j ∈ l, (M j).isSome = true) → l.map (fun x => if x = 0 ∨ (M x).isSome = true then V x else v) = l.map V := fun V v l hh => List.map_congr_left fun j hj => if_pos (.inr (hh j hj))
  have r2 : Right (deadG g) (fun x => if x = 0 ∨ (M x).isSome = true then W x else wholeN.wid [g.width]) (fun x => if x = 0 ∨ (M x).isSome = true then R x else rateN wholeN [1]) (posG g.nodes) := by
    refine ⟨first_mk ?_ f3 f4 ?_ fun n hn x hx => ?_, fun i n en j hj h0 => ?_, ?_, ?_, fun i n en => ?_, fun i n en => ?_, fun i n en => ?_, fun i n en => ?_⟩
    · rw [hl]; exact ⟨f1, f2⟩
    · rw [hl]; exact f5
    · obtain ⟨i, en⟩ := List.mem_iff_getElem?.1 hn
      rw [hl]
      rcases hget i n en with ⟨_, en⟩ | ⟨_, rfl⟩
      · exact f6 n (List.mem_of_getElem? en) x hx
      · have : x = 0 := by simpa [wholeN] using hx
        omega
    · rcases hget i n en with ⟨_, en⟩ | ⟨_, rfl⟩
      · exact r.rank i n en j hj h0
      · have : j = 0 := by simpa [wholeN] using hj
        omega
    · rw [if_pos (.inl rfl)]; exact r.w0
    · rw [if_pos (.inl rfl)]; exact r.r0
    all_goals
      have w0' : wholeN.inn.map (fun x => if x = 0 ∨ (M x).isSome = true then W x else wholeN.wid [g.width]) = [g.width] := by
        show [if (0 : Int) = 0 ∨ _ then W 0 else _] = _
        rw [if_pos (.inl rfl), r.w0]
      have r0' : wholeN.inn.map (fun x => if x = 0 ∨ (M x).isSome = true then R x else rateN wholeN [1]) = [1] := by
        show [if (0 : Int) = 0 ∨ _ then R 0 else _] = _
        rw [if_pos (.inl rfl), r.r0]
      rcases hget i n en with ⟨hm, en⟩ | ⟨hm, rfl⟩
    · rw [key W _ _ (lvj i n hm en)]; exact r.chk i n en
    · rw [w0']; exact whole_chk f3
    · rw [key W _ _ (lvj i n hm en)]
      try dsimp only
      rw [if_pos (.inr hm)]; exact r.wid i n en
    · rw [w0']
      try dsimp only
      rw [if_neg (fun hh => by rcases hh with hh | hh; omega; rw [hm] at hh; cases hh)]
    · rw [key R _ _ (lvj i n hm en)]; exact r.rat i n en
    · rw [r0']; decide
    · rw [key R _ _ (lvj i n hm en)]
      try dsimp only
      rw [if_pos (.inr hm)]; exact r.rid i n en
    · rw [r0']
      try dsimp only
      rw [if_neg (fun hh => by rcases hh with hh | hh; omega; rw [hm] at hh; cases hh)]
  rw [r2.look]

/-! fused the same -/
/-- On what is live the same. -/
structure Sim (s t : FSt) : Prop where
  len : t.1.length = s.1.length
  out : t.2.1 = s.2.1
  some : ∀ x, (t.2.2 x).isSome = (s.2.2 x).isSome
  val : ∀ x, 1 ≤ x → t.2.2 x = s.2.2 x
  nd : ∀ i : Nat, (s.2.2 ((i : Int) + 1)).isSome = true → t.1[i]? = s.1[i]?

section
variable {s t : FSt} {pos : Int → Nat}

theorem Sim.userTo (S : Sim s t) (a : Int) : ∀ j ≤ s.1.length, G.userTo t.1 t.2.2 a j = G.userTo s.1 s.2.2 a j
  | 0, _ => rfl
  | j + 1, hj => by
    have ih := S.userTo a j (by omega)
    obtain ⟨n, en⟩ : ∃ n, s.1[j]? = Option.some n := ⟨_, List.getElem?_eq_getElem (by omega)⟩
    obtain ⟨m, em⟩ : ∃ m, t.1[j]? = Option.some m := ⟨_, List.getElem?_eq_getElem (by rw [S.len]; omega)⟩
    unfold G.userTo
    rw [en, em]
    dsimp only
    rw [S.some]
    by_cases h : (s.2.2 ((j : Int) + 1)).isSome = true
    · have := S.nd j h
      rw [en, em] at this
      cases this
      rw [ih]
    · rw [if_neg (fun hh => h hh.1), if_neg (fun hh => h hh.1)]; exact ih
theorem Sim.userOf (S : Sim s t) (a : Int) : G.userOf t.1 t.2.2 a = G.userOf s.1 s.2.2 a := by
  unfold G.userOf
  rw [S.len]; exact S.userTo a _ (Nat.le_refl _)

theorem Sim.stepAt (S : Sim s t) (I : FInv s.1 s.2.1 s.2.2 pos) (i : Nat) : (G.stepAt s.1 s.2.1 s.2.2 i = none → G.stepAt t.1 t.2.1 t.2.2 i = none) ∧ ∀ s', G.stepAt s.1 s.2.1 s.2.2 i = Option.some s' → ∃ t', G.stepAt t.1 t.2.1 t.2.2 i = Option.some t' ∧ Sim s' t' := by
  by_cases hc : s.2.2 ((i : Int) + 1) = Option.some 1
  · have hlive : (s.2.2 ((i : Int) + 1)).isSome = true := by rw [hc]; rfl
    have hc' : t.2.2 ((i : Int) + 1) = Option.some 1 := by rw [S.val _ (by omega)]; exact hc
    have hnd := S.nd i hlive
    obtain ⟨w, hw, hwl, hws, _⟩ := I.user (a := (i : Int) + 1) (by omega) hc
    have hwt : G.userOf t.1 t.2.2 ((i : Int) + 1) = (w : Int) + 1 := by rw [S.userOf]; exact hw
    have hwn := S.nd w hws
    have es : G.stepAt s.1 s.2.1 s.2.2 i = match s.1[i]? with
      | none => none
      | Option.some a => if s.2.2 ((i : Int) + 1) = Option.some 1 ∧ (i : Int) + 1 ≠ s.2.1 ∧ wei a.kind then
          match s.1[w]? with
          | none => none
          | Option.some nu => (tkN a nu).map fun a' => (repN ((w : Int) + 1) ((i : Int) + 1) (s.1.set i a'), if s.2.1 = (w : Int) + 1 then (i : Int) + 1 else s.2.1, dlM (upM s.2.2 ((i : Int) + 1) ((s.2.2 ((w : Int) + 1)).getD 0)) ((w : Int) + 1))
        else none := by
      unfold G.stepAt
      rw [hw, show ((w : Int) + 1 - 1).toNat = w by omega]
      all_goals rfl
    have et : G.stepAt t.1 t.2.1 t.2.2 i = match s.1[i]? with
      | none => none
      | Option.some a => if s.2.2 ((i : Int) + 1) = Option.some 1 ∧ (i : Int) + 1 ≠ s.2.1 ∧ wei a.kind then
          match s.1[w]? with
          | none => none
          | Option.some nu => (tkN a nu).map fun a' => (repN ((w : Int) + 1) ((i : Int) + 1) (t.1.set i a'), if s.2.1 = (w : Int) + 1 then (i : Int) + 1 else s.2.1, dlM (upM t.2.2 ((i : Int) + 1) ((t.2.2 ((w : Int) + 1)).getD 0)) ((w : Int) + 1))
        else none := by
      unfold G.stepAt
      rw [hwt, show ((w : Int) + 1 - 1).toNat = w by omega, hnd, hwn, S.out, hc, hc']
      all_goals rfl
    obtain ⟨na, ena⟩ : ∃ n, s.1[i]? = Option.some n := by
      cases e : s.1[i]? with
      | some n => exact ⟨n, rfl⟩
      | none =>
        exfalso
        have := I.range hlive
        have := List.getElem?_eq_none_iff.1 e
        omega
    obtain ⟨nu, enu⟩ : ∃ n, s.1[w]? = Option.some n := ⟨_, List.getElem?_eq_getElem hwl⟩
    rw [ena, enu] at es et
    dsimp only at es et
    by_cases hw2 : s.2.2 ((i : Int) + 1) = Option.some 1 ∧ (i : Int) + 1 ≠ s.2.1 ∧ wei na.kind
    · rw [if_pos hw2] at es et
      cases ht : tkN na nu with
      | none =>
        rw [ht] at es et
        exact ⟨fun _ => et, fun s' h => by rw [es] at h; cases h⟩
      | some a' =>
        rw [ht] at es et
        refine ⟨(fun h => by rw [es] at h; cases h), fun s' h => ⟨_, et, ?_⟩⟩
        rw [es] at h
        have h := Option.some.inj h
        obtain ⟨_, _, _, _, st⟩ := stepAt_stp I (show G.stepAt s.1 s.2.1 s.2.2 i = Option.some s' by rw [es]; exact congrArg Option.some h)
        subst h
        refine ⟨?_, rfl, fun x => ?_, fun x hx => ?_, fun q hq => ?_⟩
        · show (repN _ _ _).length = (repN _ _ _).length
          rw [repN_length, repN_length, List.length_set, List.length_set]; exact S.len
        · show (dlM (upM _ _ _) _ x).isSome = (dlM (upM _ _ _) _ x).isSome
          unfold dlM upM
          split
          · rfl
          · split
            · rfl
            · exact S.some x
        · show dlM (upM _ _ _) _ x = dlM (upM _ _ _) _ x
          unfold dlM upM
          rw [S.val _ (show (1 : Int) ≤ (w : Int) + 1 by omega), S.val x hx]
        · have hq' : (s.2.2 ((q : Int) + 1)).isSome = true := by
            have : (dlM (upM s.2.2 ((i : Int) + 1) ((s.2.2 ((w : Int) + 1)).getD 0)) ((w : Int) + 1) ((q : Int) + 1)).isSome = true := hq
            unfold dlM upM at this
            split at this
            · cases this
            · split at this
              · rename_i h; rw [h]; exact hlive
              · exact this
          show (repN _ _ _)[q]? = (repN _ _ _)[q]?
          rw [repN_get, repN_get]
          congr 1
          by_cases h : i = q
          · subst h
            rw [List.getElem?_set_self (by rw [S.len]; exact (List.getElem?_eq_some_iff.1 ena).1), List.getElem?_set_self (List.getElem?_eq_some_iff.1 ena).1]
          · rw [List.getElem?_set_ne h, List.getElem?_set_ne h]
            exact S.nd q hq'
    · rw [if_neg hw2] at es et
      exact ⟨fun _ => et, fun s' h => by rw [es] at h; cases h⟩
  · have h1 : ∀ u : FSt, u.2.2 ((i : Int) + 1) ≠ Option.some 1 → G.stepAt u.1 u.2.1 u.2.2 i = none := fun u hu => by
      unfold G.stepAt
      cases u.1[i]? with
      | none => rfl
      | some n => dsimp only; rw [if_neg (fun h => hu h.1)]
    refine ⟨fun _ => h1 t (by rw [S.val _ (by omega)]; exact hc), fun s' h => ?_⟩
    rw [h1 s hc] at h; cases h
theorem Sim.stepF (S : Sim s t) (I : FInv s.1 s.2.1 s.2.2 pos) : ∀ (k i : Nat), (G.stepF s.1 s.2.1 s.2.2 k i = none → G.stepF t.1 t.2.1 t.2.2 k i = none) ∧ ∀ s', G.stepF s.1 s.2.1 s.2.2 k i = Option.some s' → ∃ t', G.stepF t.1 t.2.1 t.2.2 k i = Option.some t' ∧ Sim s' t'
  | 0, i => ⟨fun _ => rfl, fun s' h => by cases h⟩
  | k + 1, i => by
    have ih := S.stepF I k (i + 1)
    have h := S.stepAt I i
    unfold G.stepF
    cases e : G.stepAt s.1 s.2.1 s.2.2 i with
    | none =>
      rw [h.1 e]
      exact ih
    | some x =>
      obtain ⟨t', e2, S2⟩ := h.2 x e
      rw [e2]
      exact ⟨(fun h => by cases h), fun s' h => ⟨t', rfl, by cases h; exact S2⟩⟩
theorem Sim.fuseIt {pos : Int → Nat} : ∀ (k : Nat) (s t : FSt), Sim s t → FInv s.1 s.2.1 s.2.2 pos → Sim (G.fuseIt k s) (G.fuseIt k t)
  | 0, s, t, S, _ => S
  | k + 1, s, t, S, I => by
    have h := S.stepF I s.1.length 0
    unfold G.fuseIt
    have et : stepP t.1 t.2.1 t.2.2 = G.stepF t.1 t.2.1 t.2.2 s.1.length 0 := by unfold stepP; rw [S.len]
    have es : stepP s.1 s.2.1 s.2.2 = G.stepF s.1 s.2.1 s.2.2 s.1.length 0 := rfl
    cases e : G.stepF s.1 s.2.1 s.2.2 s.1.length 0 with
    | none => rw [et, es, e, h.1 e]; exact S
    | some x =>
      obtain ⟨t', e2, S2⟩ := h.2 x e
      rw [et, es, e, e2]
      obtain ⟨i, w, na, nu, a', st, _⟩ := stepP_stp I (show stepP s.1 s.2.1 s.2.2 = Option.some x from e)
      exact Sim.fuseIt k x t' S2 (st.inv I)
theorem Sim.numT (S : Sim s t) : ∀ i ≤ s.1.length, G.numT t.1 t.2.2 i = G.numT s.1 s.2.2 i
  | 0, _ => rfl
  | i + 1, hi => by
    have ih := S.numT i (by omega)
    obtain ⟨n, en⟩ : ∃ n, s.1[i]? = Option.some n := ⟨_, List.getElem?_eq_getElem (by omega)⟩
    obtain ⟨m, em⟩ : ∃ m, t.1[i]? = Option.some m := ⟨_, List.getElem?_eq_getElem (by rw [S.len]; omega)⟩
    unfold G.numT
    rw [en, em]
    dsimp only
    rw [S.some]
    by_cases h : (s.2.2 ((i : Int) + 1)).isSome = true
    · have := S.nd i h
      rw [en, em] at this
      cases this
      rw [ih]
    · rw [if_neg h, if_neg h]; exact ih
end

theorem Sim.left {g g' : Gr} {s t : FSt} (S : Sim s t) (h1 : g'.width = g.width) (h2 : g'.low = g.low) (h3 : g'.high = g.high) : leftG g' t = leftG g s := by
  unfold leftG
  rw [S.len, S.numT _ (Nat.le_refl _), S.out, h1, h2, h3]

theorem dead_fuse {g : Gr} (h : g.look.e = 0) : fuseG (deadG g) = fuseG g := by
  have h' := dead_look h
  have I := look_finv h
  have I' := look_finv h'
  have hl : (deadG g).nodes.length = g.nodes.length := deadT_length _ _ _
  have ho : (deadG g).out = g.out := rfl
  obtain ⟨M, eM⟩ : ∃ M, liveM g.nodes g.out = M := ⟨_, rfl⟩
  have eN : (deadG g).nodes = deadT M g.nodes.length g.nodes := by rw [← eM]; rfl
  rw [eM] at I
  rw [ho] at I'
  have live : ∀ (i : Nat), (M ((i : Int) + 1)).isSome = true → (deadG g).nodes[i]? = g.nodes[i]? := fun i hm => by rw [eN]; exact deadT_live hm
  have l1 : ∀ x, Lv (deadG g).nodes g.out x → Lv g.nodes g.out x := fun x hx => by
    induction hx with
    | out => exact .out
    | @inn i n j _ en hj ih =>
      rw [live i ((I.lv _).2 ih)] at en
      exact ih.inn en hj
  have l2 : ∀ x, Lv g.nodes g.out x → Lv (deadG g).nodes g.out x := fun x hx => by
    induction hx with
    | out => exact .out
    | @inn i n j hi en hj ih =>
      refine ih.inn (n := n) ?_ hj
      rw [live i ((I.lv _).2 hi)]; exact en
  obtain ⟨M', eM'⟩ : ∃ M', liveM (deadG g).nodes g.out = M' := ⟨_, rfl⟩
  rw [eM'] at I'
  have some : ∀ x, (M' x).isSome = (M x).isSome := fun x => by
    rw [Bool.eq_iff_iff, I'.lv, I.lv]
    exact ⟨l1 x, l2 x⟩
  have S : Sim (g.nodes, g.out, M) ((deadG g).nodes, g.out, M') := by
    refine ⟨hl, rfl, some, fun x hx => ?_, live⟩
    show M' x = M x
    cases e : M x with
    | none =>
      have := some x
      rw [e] at this
      cases e2 : M' x with
      | none => rfl
      | some _ => rw [e2] at this; cases this
    | some c =>
      have := some x
      rw [e] at this
      obtain ⟨d, hd⟩ := Option.isSome_iff_exists.1 this
      rw [hd]
      have c1 := I.ct x c hx e
      have c2 := I'.ct x d hx hd
      have eu : usersL (deadG g).nodes M' x = usersL g.nodes M x := by
        unfold usersL
        rw [hl]
        refine List.filter_congr fun q hq => ?_
        rw [decide_eq_decide, some]
        by_cases hm : (M ((q : Int) + 1)).isSome = true
        · have := live q hm
          unfold innOf
          rw [show ((q : Int) + 1 - 1).toNat = q by omega, this]
        · constructor
          · intro hh; exact absurd hh.1 hm
          · intro hh; exact absurd hh.1 hm
      rw [eu] at c2
      rw [c1, c2]
  have F := Sim.fuseIt (g.nodes.length + 1) _ _ S I
  unfold fuseG
  rw [if_pos h', if_pos h, hl, ho, eM, eM']
  exact F.left rfl rfl rfl
end Go.Proofs.YtbgplllcjhgdhaaDoor.G
