/- Sh, part 15: more rules over facts that stand apart: make, copy, clear, stores into slices. -/
import Derived.Test.YtdjofpdmdbcgjadShB
namespace Go.Sh

/-- Some of the facts that are written; all that are read. -/
theorem Sep.pw {h0 h : Heap} {T : Nat → Prop} {W R : List Fact} (S : Sep h0 T h W R) (l : List Nat) (hl : l.Nodup := by decide) : Sep h0 T h (Sh.pick W l) R :=
  ⟨S.fra, fun k f hf => by obtain ⟨i, _, hi⟩ := pick_mem hf; exact S.w i f hi, S.r, fun k f hf => by obtain ⟨i, _, hi⟩ := pick_mem hf; exact S.ok i f hi, pick_apart S.ww hl,
    fun i j f g hf hg => by obtain ⟨i', _, hi⟩ := pick_mem hf; exact S.wr i' j f g hi hg⟩
/-- Facts m are only read from here on. -/
theorem Sep.settle {h0 h : Heap} {T : Nat → Prop} {W R : List Fact} (S : Sep h0 T h W R) (l m : List Nat) (hl : (l ++ m).Nodup := by decide) : Sep h0 T h (Sh.pick W l) (R ++ Sh.pick W m) := by
  have hl' := List.nodup_append.1 hl
  have P := S.pw l hl'.1
  refine ⟨P.fra, P.w, fun k f hf => ?_, P.ok, P.ww, fun i j f g hf hg => ?_⟩
  · rw [List.getElem?_append] at hf
    split at hf
    · exact S.r k f hf
    · obtain ⟨i, _, hi⟩ := pick_mem hf; exact S.w i f hi
  · rw [List.getElem?_append] at hg
    split at hg
    · exact P.wr i j f g hf hg
    · obtain ⟨i', hi', hi⟩ := pick_mem hf
      obtain ⟨j', hj', hj⟩ := pick_mem hg
      exact S.ww i' j' f g hi hj (hl'.2.2 _ hi' _ hj')

theorem Sep.turn {h0 h : Heap} {T : Nat → Prop} {W R : List Fact} (S : Sep h0 T h W R) (i : Nat) {f : Fact} (e : W[i]? = some f) (f' : Fact) (hp : f.P h → f'.P h) (hs : ∀ b, f'.foot b → f.foot b) : Sep h0 T h (W.set i f') R :=
  S.upd i e f' (Fra.refl _ _) (hp (S.w i f e)) fun b hb => .inl (hs b hb)

/-- A block that was just made is a slice for itself. -/
theorem Sep.toOwn {h0 h : Heap} {T : Nat → Prop} {W R : List Fact} (S : Sep h0 T h W R) (i : Nat) (sz l c : Nat) {b : Nat} {cs : List Value} (hc : cs.length = c * sz) (hl : l ≤ c) (e : W[i]? = some (blk b cs) := by rfl) :
    Sep h0 T h (W.set i (Sh.own sz (some ⟨b, 0, none⟩) l c (cs.take (l * sz)))) R := by
  refine S.turn i e _ (fun hat => ?_) fun j hj => ?_
  · have hle : l * sz ≤ cs.length := by rw [hc]; exact Nat.mul_le_mul_right _ hl
    refine ⟨by rw [List.length_take]; omega, hl, .inr ⟨b, cs, rfl, Nat.zero_le _, hat, hc, ?_⟩⟩
    rw [List.length_take, Nat.min_eq_left hle]
  · obtain ⟨a, ha, rfl⟩ := hj; cases ha; rfl

theorem range_flat (zs : List Value) (sz : Nat) (hz : zs.length = sz) : ∀ (n : Nat), (List.range (n * sz)).map (fun i => zs.toArray[i % zs.toArray.size]!) = (List.replicate n zs).flatten
  | 0 => by simp
  | n + 1 => by
    rw [List.replicate_succ', List.flatten_append, ← range_flat zs sz hz n, Nat.add_mul, Nat.one_mul, List.range_add, List.map_append]
    congr 1
    simp only [List.flatten_cons, List.flatten_nil, List.append_nil, List.map_map]
    apply List.ext_getElem?
    intro i
    by_cases hi : i < sz
    · rw [List.getElem?_map, List.getElem?_range hi]
      simp only [Option.map_some, Function.comp_apply]
      have : (n * sz + i) % zs.toArray.size = i := by
        simp only [List.size_toArray, hz]
        rw [Nat.mul_comm, Nat.mul_add_mod, Nat.mod_eq_of_lt hi]
      rw [this, List.getElem?_eq_getElem (by omega)]
      simp [hz, hi]
    · rw [List.getElem?_eq_none (by simp; omega), List.getElem?_eq_none (by omega)]

/-- make. -/
theorem mkI_S {h0 h : Heap} {T : Nat → Prop} {W R : List Fact} (S : Sep h0 T h W R) {e sz by_ : Nat} {z : Value} {l : Int} {zs : List Value} {K : Nat → Heap → Prop} (n : Nat) (hl : l = n) (hz : z.cells = zs.toArray) (hzs : zs.length = sz) (hsz : sz ≠ 0) (hn : n < 2 ^ 62) (hb : by_ * n ≤ 2 ^ 48)
    (H : ∀ b h', b = h.size → Sep h0 T h' (W ++ [blk b (List.replicate n zs).flatten]) R → K b h') : mkI e sz by_ z l l h K := by
  subst hl
  refine ⟨hsz, by omega, Int.le_refl _, by omega, by exact_mod_cast hb, ?_⟩
  have ec : ((Array.range ((n : Int).toNat * sz)).map (z.cells[· % z.cells.size]!)) = (List.replicate n zs).flatten.toArray := by
    rw [hz, Int.toNat_natCast, ← range_flat zs sz hzs n]
    apply Array.ext'
    simp [Array.toList_map, Array.toList_range]
  rw [ec]
  exact newI_S S H

theorem repl_one (n : Nat) (v : Value) : (List.replicate n [v]).flatten = List.replicate n v := by
  induction n with
  | zero => rfl
  | succ n ih => rw [List.replicate_succ, List.flatten_cons, ih, List.replicate_succ]; rfl

/-- copy into a block. -/
theorem cpI_S {h0 h : Heap} {T : Nat → Prop} {W R : List Fact} (S : Sep h0 T h W R) (i : Nat) {sz b k len n : Nat} {q : Option Addr} {cs ys : List Value} {K : Int → Heap → Prop} (e : W[i]? = some (blk b cs))
    (hy : Row h q ys) (hyl : ys.length = Nat.min n len * sz) (h1 : ∀ y ∈ ys, one1 y = true) (hk : k + ys.length ≤ cs.length)
    (H : ∀ h', h'.size = h.size → Sep h0 T h' (W.set i (blk b (cs.take k ++ ys ++ cs.drop (k + ys.length)))) R → K ((Nat.min n len : Nat) : Int) h') : cpI sz (some ⟨b, k, none⟩) len q n h K := by
  refine ⟨ys, hy.readO hyl, ?_⟩
  dsimp only
  refine storeL_own ys h cs k 0 (S.at i e) (by omega) h1 fun h' hs hat hf => ?_
  simp only [Nat.add_zero] at hat
  exact H h' hs (S.upd i e _ hf hat fun _ h => .inl h)

theorem cpI_nil {h : Heap} {sz len : Nat} {q : Option Addr} {n : Nat} {K : Int → Heap → Prop} (hl : len = 0) (H : K 0 h) : cpI sz none len q n h K := by
  subst hl
  exact ⟨[], by rw [show Nat.min n 0 = 0 from Nat.min_zero n, Nat.zero_mul]; cases q <;> rfl, by rw [show Nat.min n 0 = 0 from Nat.min_zero n]; exact H⟩

/-- clear of a block's cells. -/
theorem clB_S {h0 h : Heap} {T : Nat → Prop} {W R : List Fact} (S : Sep h0 T h W R) (i : Nat) {z : Value} {b k len : Nat} {cs zs : List Value} {K : Heap → Prop} (e : W[i]? = some (blk b cs)) (hz : (Builtin.zeroCells z.cells len).toList = zs) (h1 : ∀ y ∈ zs, one1 y = true) (hk : k + zs.length ≤ cs.length)
    (H : ∀ h', h'.size = h.size → Sep h0 T h' (W.set i (blk b (cs.take k ++ zs ++ cs.drop (k + zs.length)))) R → K h') (hlen : len = 0 → zs = []) : clB z (some ⟨b, k, none⟩) len h K := by
  refine ⟨fun h0 => ?_, fun _ => ?_⟩
  · have := hlen h0
    subst this
    refine H h rfl ?_
    have e1 : cs.take k ++ [] ++ cs.drop (k + ([] : List Value).length) = cs := by simp
    rw [e1]
    exact S.turn i e _ (fun h => h) fun _ h => h
  · rw [hz]
    refine storeL_own zs h cs k 0 (S.at i e) (by omega) h1 fun h' hs hat hf => ?_
    simp only [Nat.add_zero] at hat
    exact H h' hs (S.upd i e _ hf hat fun _ h => .inl h)

/-- A store into a slice that has its block for itself. -/
theorem stO_S {h0 h : Heap} {T : Nat → Prop} {W R : List Fact} (S : Sep h0 T h W R) (i : Nat) {sz : Nat} {a : Addr} {l c k : Nat} {xs : List Value} {v : Value} {K : Heap → Prop} (e : W[i]? = some (own sz (some a) l c xs)) (hk : k < xs.length)
    (H : ∀ h', h'.size = h.size → Sep h0 T h' (W.set i (own sz (some a) l c (xs.set k v))) R → K h') : stI h (Addr.add a k) v K := by
  obtain ⟨h1, h2, ⟨e', _⟩ | ⟨b, cs, e', hb, hat, hlen, ht⟩⟩ := S.own i e
  · cases e'
  · cases e'
    rw [add_mk, Nat.zero_add]
    have hle : xs.length ≤ cs.length := by rw [← ht]; simp; omega
    refine stI_i hat (by omega) fun h' hs hat' hf => H h' hs (S.upd i e _ (hf.mono fun j _ hj => ⟨_, rfl, hj.symm⟩) ⟨?_, h2, .inr ⟨b, _, rfl, hb, hat', by simpa using hlen, ?_⟩⟩ fun _ h => .inl h)
    · simpa using h1
    · rw [List.length_set, List.take_set, ht]

end Go.Sh
