/- Contracts: the program's Live: which nodes are live. -/
import Derived.Test.YtbgplllcjhgdhaaDoorCRenum
import Derived.Test.YtbgplllcjhgdhaaDoorShRg
namespace Go.Proofs.YtbgplllcjhgdhaaDoor.G
open Go Go.Sh
set_option linter.unusedVariables false
set_option linter.unusedSimpArgs false

/-- All inputs are nodes, or the input. -/
def Inn (ns : List Nd) : Prop := ∀ n ∈ ns, ∀ j ∈ n.inn, 0 ≤ j ∧ j ≤ (ns.length : Int)
theorem Ranked.Inn {ns : List Nd} {pos : Int → Nat} (h : Ranked ns pos) : Inn ns := fun n hn j hj => by
  obtain ⟨i, en⟩ := List.mem_iff_getElem?.1 hn
  have := (h i n en).2 j hj
  exact ⟨this.1, this.2.1⟩

/-- Which nodes are live, as the counts have it. -/
def boolsM (n : Nat) (M : LM) : List Bool := (List.range (n + 1)).map fun x : Nat => (M (x : Int)).isSome
theorem boolsM_length (n : Nat) (M : LM) : (boolsM n M).length = n + 1 := by simp [boolsM]
theorem boolsM_get {n : Nat} {M : LM} {x : Nat} (h : x ≤ n) : (boolsM n M)[x]? = some (M (x : Int)).isSome := by
  unfold boolsM
  rw [List.getElem?_map, List.getElem?_range (by omega)]; rfl
def bls (l : List Bool) : List Value := l.map .bool
theorem bls_length (l : List Bool) : (bls l).length = l.length := by simp [bls]
theorem bls_get {l : List Bool} {i : Nat} {b : Bool} (h : l[i]? = some b) : (bls l)[i]? = some (.bool b) := by simp [bls, h]
theorem bls_set (l : List Bool) (i : Nat) (b : Bool) : (bls l).set i (.bool b) = bls (l.set i b) := by simp [bls, List.map_set]

section
variable {h : Heap}

theorem pushRow0 {h0 h : Heap} {T : Nat → Prop} {W : List Fact} (S : Sep h0 T h W []) (p : Option Addr) : Sep h0 T h (W ++ [row p []]) [] := by
  have := S.add (W1 := [row p []]) (R1 := []) (U := no) (Sep.one (Fra.refl _ _) (Row.nil _ _) fun b hb hlt => absurd rfl hb.1) fun b hb hu => hu
  exact this
/-- What Live tells. -/
def LivQ (g : Gr) (h : Heap) (v : Value) (h' : Heap) : Prop :=
  ∃ (p : Option Addr) (l c : Nat), v = .slice p l c ∧ (if g.look.e = 0 then boolsM g.nodes.length (liveM g.nodes g.out) else []).length = l ∧ Sep h no h' [row p (bls (if g.look.e = 0 then boolsM g.nodes.length (liveM g.nodes g.out) else []))] []

theorem filter_lt {α : Type} {p q : α → Bool} (hq : ∀ x, q x = true → p x = true) : ∀ l : List α, (l.filter q).length ≤ (l.filter p).length ∧ ∀ x ∈ l, p x = true → q x = false → (l.filter q).length < (l.filter p).length
  | [] => ⟨Nat.le_refl _, by simp⟩
  | a :: r => by
    have ih := filter_lt hq r
    rw [List.filter_cons, List.filter_cons]
    have e1 : (if q a = true then a :: r.filter q else r.filter q).length = (r.filter q).length + if q a = true then 1 else 0 := by split <;> rfl
    have e2 : (if p a = true then a :: r.filter p else r.filter p).length = (r.filter p).length + if p a = true then 1 else 0 := by split <;> rfl
    rw [e1, e2]
    have i1 := ih.1
    refine ⟨?_, fun x hx hp hn => ?_⟩
    · by_cases h : q a = true
      · rw [if_pos h, if_pos (hq a h)]; omega
      · rw [if_neg h]; split <;> omega
    · rcases List.mem_cons.1 hx with rfl | hx
      · rw [if_neg (by rw [hn]; simp), if_pos hp]; omega
      · have := ih.2 x hx hp hn
        by_cases h : q a = true
        · rw [if_pos h, if_pos (hq a h)]; omega
        · rw [if_neg h]; split <;> omega

theorem FInv.range {ns : List Nd} {out : Int} {M : LM} {pos : Int → Nat} (I : FInv ns out M pos) {x : Int} (h : (M x).isSome) : 0 ≤ x ∧ x ≤ (ns.length : Int) := by
  have := (I.lv x).1 h
  induction this with
  | out => exact ⟨by have := I.out1; omega, I.outn⟩
  | @inn i n j _ en hj _ => exact I.ranked.Inn n (List.mem_of_getElem? en) j hj

theorem nodup_born : ∀ {l : List MapEntry} {x y : MapEntry}, (l.map (·.born)).Nodup → x ∈ l → y ∈ l → x.born = y.born → x = y
  | [], _, _, _, h, _, _ => by simp at h
  | a :: r, x, y, hn, hx, hy, e => by
    rw [List.map_cons, List.nodup_cons] at hn
    have key : ∀ z ∈ r, z.born ≠ a.born := fun z hz ez => hn.1 (List.mem_map.2 ⟨z, hz, ez⟩)
    rcases List.mem_cons.1 hx with h1 | h1
    · rcases List.mem_cons.1 hy with h2 | h2
      · rw [h1, h2]
      · exact absurd (by rw [← e, h1]) (key y h2)
    · rcases List.mem_cons.1 hy with h2 | h2
      · exact absurd (by rw [e, h2]) (key x h1)
      · exact nodup_born hn.2 h1 h2 e

theorem LivP_ok (hS : SortedSpec) {gv : Gv} (hok : gv.ok) (hn : Row h gv.p (nflat gv.ns)) (hr : (nrows gv.ns).P h) (hl : gv.l < 2 ^ 20) (hs : ∀ n ∈ gv.ns, n.inn.l < 2 ^ 40 ∧ n.weights.l < 2 ^ 62 ∧ n.bias.l < 2 ^ 62) (hT : KT h) :
    callP P n_fuse_Live #[gv.v] h (LivQ gv.gr h) := by
  refine call_fuse_Live _ ?_
  unfold fuse_Live
  have hgl := hok.1
  have hgn : gv.gr.nodes.length = gv.l := by rw [← hgl]; simp [Gv.gr]
  have S := (((Sep.start h no).read (row gv.p (nflat gv.ns)) hn).read (nrows gv.ns) hr).read (blk 0 (ints kindTab)) hT
  refine newI_S (cs := gv.cells) S fun b1 h1 _ S => ?_
  dsimp only [List.nil_append, List.cons_append] at S
  refine ldAg_S S 0 rfl (x := gv.t) rfl ?_
  refine (GCheck_ok hok (S.row 0 rfl) (S.r 1 _ rfl) hl hs (S.r 2 _ rfl)).mono ?_
  rintro _ h3 ⟨rfl, F⟩
  replace S := S.fra0 F
  refine ⟨_, rfl, ifB_bne (fun he => ?_) (fun he => ?_)⟩
  · refine ⟨none, 0, 0, rfl, ?_⟩
    rw [if_neg he]
    exact ⟨rfl, pushRow0 (noR (S.pw [])) none⟩
  · have e0 : gv.gr.look.e = 0 := he
    obtain ⟨rk, o1, o2, n1, n12, one, _⟩ := look_inv e0
    have I := look_finv e0
    refine ldSlice_i (p := gv.p) (l := gv.l) (c := gv.c) (S.cell 0 rfl rfl) ?_
    have ew : IntKind.wrap .i64 ((gv.l : Int) + 1) = ((gv.l + 1 : Nat) : Int) := by rw [wrap64_in (by omega)]; omega
    rw [ew]
    simp only [Int.toNat_natCast]
    refine mkI_S S (gv.l + 1) rfl rfl rfl (by decide) (by omega) (by omega) fun b7 h8 _ S => ?_
    have ezero : (List.replicate (gv.l + 1) [Value.bool false]).flatten = bls (List.replicate (gv.l + 1) false) := by rw [repl_one]; simp [bls]
    rw [ezero] at S
    dsimp only [List.cons_append, List.nil_append] at S
    refine ldAg_S S 0 rfl (x := gv.t) rfl ?_
    refine (live_ok hS hok (S.row 0 rfl) (S.r 1 _ rfl) hl rk (posG_le _) ⟨o1, by rw [← hgn]; exact o2⟩).mono ?_
    rintro _ h9 ⟨r, rfl, S1⟩
    replace S := S.add S1 fun _ _ h => h
    dsimp only [List.cons_append, List.nil_append] at S
    refine ⟨_, rfl, ?_⟩
    refine rangeB_S S 2 rfl fun b13 h12 es c m S => ?_
    dsimp only [List.set, List.cons_append, List.nil_append] at S
    obtain ⟨M, eM⟩ : ∃ M, liveM gv.gr.nodes gv.gr.out = M := ⟨_, rfl⟩
    have eM' : liveM gv.gr.nodes gv.out = M := eM
    rw [eM'] at m
    have goalE : LivQ gv.gr h = fun v h' => ∃ (p : Option Addr) (l c : Nat), v = .slice p l c ∧ (boolsM gv.gr.nodes.length M).length = l ∧ Sep h no h' [row p (bls (boolsM gv.gr.nodes.length M))] [] := by
      unfold LivQ; rw [if_pos e0, eM]
    rw [goalE]
    rw [eM] at I
    refine LoopS_i (fun mm s g => ∃ (seen : Array Nat) (X : List Bool), s = ((some ⟨b7, 0, none⟩, gv.l + 1, gv.l + 1), ⟨b13, 0, none⟩, ()) ∧ mm = (es.toList.filter fun e => !seen.contains e.born).length ∧ X.length = gv.l + 1 ∧
      (∀ x : Nat, X[x]? = some true ↔ ∃ e ∈ es.toList, seen.contains e.born = true ∧ e.key = .int .i64 (x : Int)) ∧
      Sep h no g [blk b1 gv.cells, blk b7 (bls X), obj r (.map es c), obj b13 (.mapIter (some r) c seen c)] [row gv.p (nflat gv.ns), nrows gv.ns, blk 0 (ints kindTab)]) (es.toList.filter fun e => !(#[] : Array Nat).contains e.born).length
      ⟨#[], _, rfl, rfl, by rw [List.length_replicate], fun x => ?_, S⟩ ?_
    · constructor
      · intro hx
        rw [List.getElem?_replicate] at hx
        split at hx <;> simp at hx
      · rintro ⟨e, _, h2, _⟩
        simp at h2
    clear S S1
    rintro mm s g ⟨seen, X, rfl, rfl, hXl, hX, S⟩
    unfold fuse_Live_l5
    dsimp only
    refine nextB_S S 2 3 rfl rfl m (fun hall => ?_) (fun e g2 he hs2 S => ?_)
    · refine ifB_false rfl ⟨_, _, _, rfl, by rw [boolsM_length, hgn], ?_⟩
      have eX : X = boolsM gv.gr.nodes.length M := by
        apply List.ext_getElem?
        intro x
        by_cases hx : x ≤ gv.gr.nodes.length
        · rw [boolsM_get hx, List.getElem?_eq_getElem (by omega)]
          have h1 := hX x
          rw [List.getElem?_eq_getElem (by omega)] at h1
          have h2 : X[x] = true ↔ (M (x : Int)).isSome = true := by
            constructor
            · intro hx
              obtain ⟨e, he, _, hk⟩ := h1.1 (by rw [hx])
              have := (m.mem (n := (x : Int)) (v := e.val)).2 ⟨e, he, hk, rfl⟩
              cases eM2 : M (x : Int) with
              | some _ => rfl
              | none =>
                have h0 : lM M (x : Int) = none := by unfold lM; rw [eM2]; rfl
                rw [h0] at this; cases this
            · intro hx
              obtain ⟨k, hk⟩ := Option.isSome_iff_exists.1 hx
              obtain ⟨e, he, hk2, _⟩ := (m.mem (n := (x : Int)) (v := .int .i64 k)).1 (by unfold lM; rw [hk]; rfl)
              exact Option.some.inj (h1.2 ⟨e, he, hall e he, hk2⟩)
          congr 1
          exact Bool.eq_iff_iff.2 h2
        · rw [List.getElem?_eq_none (by omega), List.getElem?_eq_none (by rw [boolsM_length]; omega)]
      rw [← eX]
      have S3 := noR (S.pw [1])
      exact S3.turn 0 rfl (row (some ⟨b7, 0, none⟩) _) (fun hh => Row.of_at hh) fun b' hb => by obtain ⟨_, a, ha, hb⟩ := hb; cases ha; exact hb.symm
    · dsimp only [List.set] at S
      refine ifB_true rfl ?_
      obtain ⟨a, ea⟩ := m.all e he
      have hMa : (M a).isSome := by
        have := (m.mem (n := a) (v := e.val)).2 ⟨e, he, ea, rfl⟩
        cases eM2 : M a with
        | some _ => rfl
        | none =>
          have h0 : lM M a = none := by unfold lM; rw [eM2]; rfl
          rw [h0] at this; cases this
      have ra := I.range hMa
      rw [hgn] at ra
      have hfind : es.find? (fun x => x.born == e.born) = some e := by
        rw [← Array.find?_toList]
        obtain ⟨l1, l2, e12⟩ := List.append_of_mem he
        have hnd := m.nodup
        rw [e12] at hnd ⊢
        rw [List.find?_append, List.find?_cons_of_pos (by simp)]
        have : l1.find? (fun x => x.born == e.born) = none := List.find?_eq_none.2 fun x hx => by
          intro hxe
          have hxe : x.born = e.born := by simpa using hxe
          rw [List.map_append, List.nodup_append] at hnd
          exact hnd.2.2 x.born (List.mem_map_of_mem hx) e.born (by simp) hxe
        rw [this]; rfl
      refine ⟨rfl, r, c, seen.push e.born, c, es, S.w 3 _ rfl, S.w 2 _ rfl, e.born, e, a, by simp, hfind, ea, ?_⟩
      refine idxI_i rfl (k := a.toNat) (by omega) (by omega) ?_
      simp only [add_mk, Nat.zero_add, Nat.mul_one]
      refine stI_S S 1 rfl (by rw [bls_length]; omega) fun g3 _ S => ?_
      rw [bls_set] at S
      dsimp only [List.set] at S
      have hcont : ∀ b : Nat, (seen.push e.born).contains b = true ↔ seen.contains b = true ∨ b = e.born := fun b => by simp
      refine ⟨_, ?_, seen.push e.born, X.set a.toNat true, by trivial, rfl, by rw [List.length_set]; exact hXl, fun x => ?_, S⟩
      · refine (filter_lt (p := fun x : MapEntry => !seen.contains x.born) (q := fun x : MapEntry => !(seen.push e.born).contains x.born) (fun x hx => ?_) es.toList).2 e he (by rw [hs2]; rfl) (by
          have := (hcont e.born).2 (.inr rfl)
          rw [this]; rfl)
        cases hc : seen.contains x.born with
        | false => rfl
        | true =>
          have := (hcont x.born).2 (.inl hc)
          rw [this] at hx; cases hx
      · by_cases hxa : a.toNat = x
        · rw [hxa, List.getElem?_set_self (by omega)]
          constructor
          · intro _
            exact ⟨e, he, (hcont _).2 (.inr rfl), by rw [ea, ← hxa]; congr 1; omega⟩
          · intro _; rfl
        · rw [List.getElem?_set_ne hxa, hX x]
          constructor
          · rintro ⟨e', h1, h2, h3⟩
            exact ⟨e', h1, (hcont _).2 (.inl h2), h3⟩
          · rintro ⟨e', h1, h2, h3⟩
            rcases (hcont _).1 h2 with h2 | h2
            · exact ⟨e', h1, h2, h3⟩
            · exfalso
              have : e' = e := by
                exact nodup_born m.nodup h1 he h2
              subst this
              rw [ea] at h3
              injection h3 with _ h3
              omega
end
end Go.Proofs.YtbgplllcjhgdhaaDoor.G
