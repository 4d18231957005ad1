/- Contracts: the program's fuse: step. -/
import Derived.Test.YtbgplllcjhgdhaaDoorCStep
namespace Go.Proofs.YtbgplllcjhgdhaaDoor.G
open Go Go.Sh
set_option linter.unusedVariables false
set_option linter.unusedSimpArgs false

/-- A row of which the first m are renamed, if they are to be. -/
def pmX (u a : Int) (b : Bool) (xs : List Int) (m : Nat) : List Int := if b then xs else (xs.take m).map (rep1 u a) ++ xs.drop m
theorem pmX_zero (u a : Int) (b : Bool) (xs : List Int) : pmX u a b xs 0 = xs := by unfold pmX; split <;> simp
theorem pmX_length (u a : Int) (b : Bool) (xs : List Int) (m : Nat) : (pmX u a b xs m).length = xs.length := by unfold pmX; split <;> simp; omega
theorem pmX_get (u a : Int) (b : Bool) {xs : List Int} {m : Nat} (hm : m < xs.length) : (pmX u a b xs m)[m]? = some xs[m] := by
  unfold pmX; split
  · exact List.getElem?_eq_getElem hm
  · rw [List.getElem?_append_right (by simp; omega), List.getElem?_drop]
    simp only [List.length_map, List.length_take]
    rw [show m + (m - min m xs.length) = m by omega, List.getElem?_eq_getElem hm]
theorem pmX_hit {u a : Int} {xs : List Int} {m : Nat} (hm : m < xs.length) (hu : xs[m] = u) : (pmX u a false xs m).set m a = pmX u a false xs (m + 1) := by
  unfold pmX
  simp only [Bool.false_eq_true, if_false]
  rw [List.set_append_right _ _ (by simp; omega), List.length_map, List.length_take, Nat.min_eq_left (by omega), Nat.sub_self, List.drop_eq_getElem_cons hm, List.set_cons_zero, List.take_succ_eq_append_getElem hm, List.map_append, List.append_assoc]
  congr 1
  simp [rep1, hu]
theorem pmX_miss {u a : Int} {b : Bool} {xs : List Int} {m : Nat} (hm : m < xs.length) (hu : b = true ∨ xs[m] ≠ u) : pmX u a b xs (m + 1) = pmX u a b xs m := by
  unfold pmX
  split
  · rfl
  · rename_i hb
    have hu : xs[m] ≠ u := by rcases hu with h | h; exact absurd h hb; exact h
    rw [List.take_succ_eq_append_getElem hm, List.map_append, List.append_assoc, List.drop_eq_getElem_cons hm]
    congr 1
    simp [rep1, hu]
theorem pmX_all (u a : Int) (b : Bool) (xs : List Int) : pmX u a b xs xs.length = if b then xs else xs.map (rep1 u a) := by unfold pmX; split <;> simp
theorem repV_inns {u a : Int} {j : Nat} {ns : List Nv} {n : Nv} (e : ns[j]? = some n) : (repV u a (j + 1) ns).map Nv.inn = ((repV u a j ns).map Nv.inn).set j { n.inn with xs := pmX u a (decide ((j : Int) + 1 = u)) n.inn.xs n.inn.xs.length } := by
  have hj := (List.getElem?_eq_some_iff.1 e).1
  have en : ns[j] = n := by rw [List.getElem?_eq_getElem hj] at e; exact Option.some.inj e
  rw [repV_succ hj, pmX_all, en]
  by_cases hu : (j : Int) + 1 = u
  · rw [if_pos hu, if_pos (by simpa using hu)]
    have : ((repV u a j ns).map Nv.inn)[j]? = some n.inn := by rw [List.getElem?_map, repV_get, e, Option.map_some, if_pos (.inl hu)]; rfl
    have hl : j < ((repV u a j ns).map Nv.inn).length := by rw [List.length_map, repV_length]; exact hj
    rw [List.getElem?_eq_getElem hl] at this
    show _ = List.set _ j n.inn
    rw [← Option.some.inj this, List.set_getElem_self]
  · rw [if_neg hu, if_neg (by simpa using hu), List.map_set]; rfl
theorem gset_out (gv : Gv) (x : Int) : gv.cells.set 4 (.int .i64 x) = ({ gv with out := x } : Gv).cells := rfl

section
variable {h0 h : Heap} {T : Nat → Prop} {R : List Fact}

/-- A node's users are told another name. -/
theorem stepRen_S {gv : Gv} (hl : gv.l < 2 ^ 20) {ms : List Nv} (hms : ms.length = gv.l) (hs : ∀ n ∈ ms, n.inn.xs.length = n.inn.l ∧ n.inn.l < 2 ^ 40) {b1 r : Nat} {M : LM} {Q : Value → Heap → Prop} {K1 K2} (i : Nat) (hi : i < gv.l) (u : Int)
    (S : Sep h0 T h [blk b1 gv.cells, own 15 gv.p gv.l gv.c (nflat ms), owns (ms.map Nv.inn), mpi r M] R)
    (H : ∀ h', Sep h0 T h' [blk b1 ({ gv with out := if gv.out = u then (i : Int) + 1 else gv.out } : Gv).cells, own 15 gv.p gv.l gv.c (nflat ms), owns ((repV u ((i : Int) + 1) ms.length ms).map Nv.inn), mpi r (dlM (upM M ((i : Int) + 1) ((M u).getD 0)) u)] R → Q (.bool true) h') :
    LoopS (S := (Option Addr × Option Nat × Int × Int × Int × Int × Unit)) (fun K3 s h => fuse_step_l17 Q K1 K2 K3 s.1 s.2.1 s.2.2.1 s.2.2.2.1 s.2.2.2.2.1 s.2.2.2.2.2.1 h) (some ⟨b1, 0, none⟩, some r, (i : Int), u, ((gv.l : Nat) : Int), (0 : Int), ()) h := by
  have ei : IntKind.wrap .i64 ((i : Int) + 1) = (i : Int) + 1 := by rw [wrap64_in (by omega)]
  refine LoopS_i (fun mm s g => ∃ j : Nat, s = (some ⟨b1, 0, none⟩, some r, (i : Int), u, (gv.l : Int), (j : Int), ()) ∧ j ≤ gv.l ∧ mm = gv.l - j ∧
    Sep h0 T g [blk b1 gv.cells, own 15 gv.p gv.l gv.c (nflat ms), owns ((repV u ((i : Int) + 1) j ms).map Nv.inn), mpi r M] R) gv.l ⟨0, rfl, by omega, rfl, by rw [repV_zero]; exact S⟩ ?_
  clear S
  rintro mm s g ⟨j, rfl, hj, rfl, S⟩
  unfold fuse_step_l17
  simp only [nilI_iff, add_mk, Nat.zero_add]
  refine ifB_dec (fun hlt => ?_) (fun hge => ?_)
  · have hjm : j < ms.length := by omega
    obtain ⟨n, en⟩ : ∃ n, ms[j]? = some n := ⟨_, List.getElem?_eq_getElem hjm⟩
    have hmem := List.mem_of_getElem? en
    obtain ⟨hxl, hxs⟩ := hs n hmem
    refine ldSlice_i (p := gv.p) (l := gv.l) (c := gv.c) (S.cell 0 rfl rfl) ?_
    obtain ⟨b, eb⟩ : ∃ b, gv.p = some ⟨b, 0, none⟩ := by
      obtain ⟨_, _, ⟨_, h0, _⟩ | ⟨b, cs, e, _⟩⟩ := S.own 1 rfl
      · omega
      · exact ⟨b, e⟩
    refine idxI_i eb rfl (by omega) ?_
    simp only [Int.toNat_natCast, add_mk, Nat.zero_add]
    have ld : ∀ {g : Heap} {W : List Fact}, Sep h0 T g W R → W[1]? = some (own 15 gv.p gv.l gv.c (nflat ms)) → cellH g ⟨b, j * 15 + 1, none⟩ = some n.inn.v := fun S e => by
      have hr := (S.own 1 e).row
      rw [eb] at hr
      have := hr.cell (i := j * 15 + 1) (by rw [nflat_at en (by decide)]; rfl)
      rw [add_mk, Nat.zero_add] at this
      exact this
    refine ldSlice_i (p := n.inn.p) (l := n.inn.l) (c := n.inn.c) (ld S rfl) ?_
    have hrl : j < ((repV u ((i : Int) + 1) j ms).map Nv.inn).length := by rw [List.length_map, repV_length]; exact hjm
    have hrg : ((repV u ((i : Int) + 1) j ms).map Nv.inn)[j]? = some n.inn := by rw [List.getElem?_map, repV_get, en, Option.map_some, if_pos (.inr (Nat.le_refl _))]; rfl
    have hre : ((repV u ((i : Int) + 1) j ms).map Nv.inn).set j n.inn = (repV u ((i : Int) + 1) j ms).map Nv.inn := by
      rw [List.getElem?_eq_getElem hrl] at hrg
      rw [← Option.some.inj hrg, List.set_getElem_self]
    refine LoopS_i (fun mm s g => ∃ m : Nat, s = (some ⟨b1, 0, none⟩, some r, (i : Int), u, (j : Int), (gv.l : Int), (j : Int), (n.inn.p, n.inn.l, n.inn.c), (n.inn.l : Int), (m : Int), ()) ∧ m ≤ n.inn.l ∧ mm = n.inn.l - m ∧
      Sep h0 T g [blk b1 gv.cells, own 15 gv.p gv.l gv.c (nflat ms), owns (((repV u ((i : Int) + 1) j ms).map Nv.inn).set j { n.inn with xs := pmX u ((i : Int) + 1) (decide ((j : Int) + 1 = u)) n.inn.xs m }), mpi r M] R) n.inn.l
      ⟨0, rfl, by omega, rfl, by rw [pmX_zero]; show Sep h0 T g [_, _, owns (List.set _ j n.inn), _] R; rw [hre]; exact S⟩ ?_
    clear S
    rintro mm s g ⟨m, rfl, hm, rfl, S⟩
    unfold fuse_step_l20
    simp only [nilI_iff, add_mk, Nat.zero_add]
    have ej : IntKind.wrap .i64 ((j : Int) + 1) = (j : Int) + 1 := by rw [wrap64_in (by omega)]
    have em : IntKind.wrap .i64 ((m : Int) + 1) = ((m + 1 : Nat) : Int) := by rw [wrap64_in (by omega)]; rfl
    have hgj : (((repV u ((i : Int) + 1) j ms).map Nv.inn).set j { n.inn with xs := pmX u ((i : Int) + 1) (decide ((j : Int) + 1 = u)) n.inn.xs m })[j]? = some { n.inn with xs := pmX u ((i : Int) + 1) (decide ((j : Int) + 1 = u)) n.inn.xs m } := by rw [List.getElem?_set_self hrl]
    refine ifB_dec (fun hlt2 => ?_) (fun hge2 => ?_)
    · have hmx : m < n.inn.xs.length := by omega
      have irow : Row g n.inn.p (ints (pmX u ((i : Int) + 1) (decide ((j : Int) + 1 = u)) n.inn.xs m)) := owns_row (S.w 2 _ rfl) (List.mem_of_getElem? hgj)
      obtain ⟨a, ea⟩ := irow.some_of (by rw [ints_length, pmX_length]; omega)
      have irow2 : Row g (some a) (ints (pmX u ((i : Int) + 1) (decide ((j : Int) + 1 = u)) n.inn.xs m)) := by rw [← ea]; exact irow
      refine idxI_i ea rfl (by omega) ?_
      simp only [Int.toNat_natCast, Nat.mul_one]
      refine ldInt_i (n := n.inn.xs[m]) (irow2.cell (ints_get (pmX_get _ _ _ hmx))) ?_
      rw [em]
      refine ifB_beq (fun hk => ?_) (fun hk => ?_)
      · rw [ej]
        refine ifB_bne (fun hju => ?_) (fun hju => ?_)
        · refine ldSlice_i (p := gv.p) (l := gv.l) (c := gv.c) (S.cell 0 rfl rfl) ?_
          refine idxI_i eb rfl (by omega) ?_
          simp only [add_mk, Nat.zero_add]
          refine ldSlice_i (p := n.inn.p) (l := n.inn.l) (c := n.inn.c) (ld S rfl) ?_
          refine idxI_i ea rfl (by omega) ?_
          rw [ei]
          refine stOs_S S 2 rfl hgj ea (by rw [pmX_length]; exact hmx) fun g2 S => ?_
          dsimp only [List.set] at S
          rw [List.set_set] at S
          have hd : decide ((j : Int) + 1 = u) = false := by simpa using hju
          refine ⟨n.inn.l - (m + 1), by omega, m + 1, rfl, by omega, rfl, ?_⟩
          have e := pmX_hit (a := (i : Int) + 1) hmx hk
          rw [hd] at S ⊢
          rw [← e]
          exact S
        · refine ⟨n.inn.l - (m + 1), by omega, m + 1, rfl, by omega, rfl, ?_⟩
          rw [pmX_miss hmx (.inl (by simpa using hju))]
          exact S
      · refine ⟨n.inn.l - (m + 1), by omega, m + 1, rfl, by omega, rfl, ?_⟩
        rw [pmX_miss hmx (.inr hk)]
        exact S
    · have : m = n.inn.xs.length := by omega
      subst this
      rw [ej]
      refine ⟨gv.l - (j + 1), by omega, j + 1, rfl, by omega, rfl, ?_⟩
      rw [repV_inns en]
      exact S
  · have : j = ms.length := by omega
    subst this
    refine ldInt_i (n := gv.out) (S.cell 0 rfl rfl) ?_
    rw [ei]
    refine ifB_beq (fun ho => ?_) (fun ho => ?_)
    · rw [if_pos ho] at H
      refine stI_S S 0 rfl (Nat.le_of_ble_eq_true rfl) fun g2 _ S => ?_
      dsimp only [List.set] at S
      refine lookI_of (S.w 3 _ rfl) ⟨_, rfl, updB_S S 3 rfl fun g3 S => ?_⟩
      rw [upL_lM] at S
      dsimp only [List.set] at S
      refine delB_S S 3 rfl fun g4 S => ?_
      rw [delL_lM] at S
      dsimp only [List.set] at S
      exact H g4 S
    · rw [if_neg ho] at H
      refine lookI_of (S.w 3 _ rfl) ⟨_, rfl, updB_S S 3 rfl fun g3 S => ?_⟩
      rw [upL_lM] at S
      dsimp only [List.set] at S
      refine delB_S S 3 rfl fun g4 S => ?_
      rw [delL_lM] at S
      dsimp only [List.set] at S
      exact H g4 S
end

end Go.Proofs.YtbgplllcjhgdhaaDoor.G
