/- Contracts: the program's fuse: rows that are a graph's own; own, take. -/
import Derived.Test.YtbgplllcjhgdhaaDoorCSlices
namespace Go.Proofs.YtbgplllcjhgdhaaDoor.G
open Go Go.Sh
set_option linter.unusedVariables false
set_option linter.unusedSimpArgs false

/-! slices of whole numbers, each with a block for itself -/
def apartL (ss : List Sl) : Prop := ss.Pairwise fun s t => ∀ a b : Addr, s.p = some a → t.p = some b → a.block ≠ b.block
def Sl.own (s : Sl) : Fact := Sh.own 1 s.p s.l s.c (ints s.xs)
def owns (ss : List Sl) : Fact :=
  { P := fun h => (∀ s ∈ ss, s.own.P h) ∧ apartL ss, foot := fun i => ∃ s ∈ ss, s.own.foot i,
    lt := fun a ⟨s, hs, hb⟩ => s.own.lt (a.1 s hs) hb,
    loc := fun a hsz hs => ⟨fun s hm => s.own.loc (a.1 s hm) hsz fun b hb => hs b ⟨s, hm, hb⟩, a.2⟩ }

section
variable {h0 h : Heap} {T : Nat → Prop} {W R : List Fact}

theorem owns0_S (S : Sep h0 T h W R) : Sep h0 T h (W ++ [owns []]) R := by
  have := S.add (W1 := [owns []]) (R1 := []) (U := no) (Sep.one (Fra.refl _ _) ⟨by simp, List.Pairwise.nil⟩ fun b ⟨s, hs, _⟩ => by simp at hs) fun b hb hu => hu
  exact this

theorem joinO_S (S : Sep h0 T h W R) (l : List Nat) (i j : Nat) {ss : List Sl} {s : Sl} (e1 : W[i]? = some (owns ss)) (e2 : W[j]? = some s.own) (hl : (l ++ [i, j]).Nodup := by decide) :
    Sep h0 T h (Sh.pick W l ++ [owns (ss ++ [s])]) R := by
  have S2 := S.join l [i, j] hl
  have ep : Sh.pick W [i, j] = [owns ss, s.own] := by simp only [Sh.pick, e1, e2]
  rw [ep] at S2
  have hij : i ≠ j := by
    have := (List.nodup_append.1 hl).2.1
    simp at this; exact this
  have hap : ∀ t ∈ ss, ∀ a b : Addr, t.p = some a → s.p = some b → a.block ≠ b.block := fun t ht a b ha hb hab =>
    S.ww i j _ _ e1 e2 hij a.block ⟨t, ht, a, ha, rfl⟩ ⟨b, hb, hab.symm⟩
  have e : (Sh.pick W l ++ [reads [owns ss, s.own]])[(Sh.pick W l).length]? = some (reads [owns ss, s.own]) := by rw [List.getElem?_concat_length]
  have S3 := S2.turn (Sh.pick W l).length e (owns (ss ++ [s])) (fun H => by
    have h1 := H (owns ss) (by simp)
    have h2 := H s.own (by simp)
    refine ⟨fun t ht => ?_, ?_⟩
    · rcases List.mem_append.1 ht with ht | ht
      · exact h1.1 t ht
      · simp only [List.mem_singleton] at ht; subst ht; exact h2
    · unfold apartL
      rw [List.pairwise_append]
      exact ⟨h1.2, List.pairwise_singleton _ _, fun t ht u hu => by simp only [List.mem_singleton] at hu; subst hu; exact hap t ht⟩) (fun b ⟨t, ht, hb⟩ => by
    rcases List.mem_append.1 ht with ht | ht
    · exact ⟨owns ss, by simp, t, ht, hb⟩
    · simp only [List.mem_singleton] at ht; subst ht; exact ⟨t.own, by simp, hb⟩)
  rw [List.set_append_right _ _ (Nat.le_refl _), Nat.sub_self] at S3
  exact S3

theorem stOs_S (S : Sep h0 T h W R) (i : Nat) {ss : List Sl} {j k : Nat} {s : Sl} {a : Addr} {v : Int} {K : Heap → Prop} (e : W[i]? = some (owns ss)) (hj : ss[j]? = some s) (hp : s.p = some a) (hk : k < s.xs.length)
    (H : ∀ h', Sep h0 T h' (W.set i (owns (ss.set j { s with xs := s.xs.set k v }))) R → K h') : stI h (Addr.add a k) (.int .i64 v) K := by
  have O := S.w i _ e
  have hm := List.mem_of_getElem? hj
  have S1 : Sep h s.own.foot h [s.own] [] := Sep.one (Fra.refl _ _) (O.1 s hm) fun b hb _ => hb
  have e1 : ([s.own] : List Fact)[0]? = some (Sh.own 1 (some a) s.l s.c (ints s.xs)) := by rw [← hp]; rfl
  refine stO_S S1 0 e1 (by rw [ints_length]; exact hk) fun h' _ S2 => H h' ?_
  rw [ints_set'] at S2
  have o' : ({ s with xs := s.xs.set k v } : Sl).own.P h' := by
    have := S2.w 0 _ rfl
    unfold Sl.own
    rw [hp]; exact this
  have hjl : j < ss.length := (List.getElem?_eq_some_iff.1 hj).1
  have hsj : ss[j] = s := by rw [List.getElem?_eq_getElem hjl] at hj; exact Option.some.inj hj
  refine S.upd i e _ (S2.fra.mono fun b _ hb => ⟨s, hm, hb⟩) ⟨fun t ht => ?_, ?_⟩ fun b hb => .inl ?_
  · obtain ⟨m, hml, rfl⟩ := List.mem_iff_getElem.1 ht
    rw [List.length_set] at hml
    by_cases hmj : j = m
    · subst hmj; rw [List.getElem_set_self]; exact o'
    · rw [List.getElem_set_ne hmj]
      refine ss[m].own.loc (O.1 _ (List.getElem_mem hml)) S2.fra.size fun b hb => S2.fra.same b (ss[m].own.lt (O.1 _ (List.getElem_mem hml)) hb) ?_
      rintro ⟨a1, ha1, hb1⟩
      obtain ⟨a2, ha2, hb2⟩ := hb
      have hpw := O.2
      unfold apartL at hpw
      rw [List.pairwise_iff_getElem] at hpw
      rcases Nat.lt_or_ge j m with hlt | hge
      · exact hpw j m hjl hml hlt a1 a2 (by rw [hsj]; exact ha1) ha2 (by rw [hb1, hb2])
      · exact hpw m j hml hjl (by omega) a2 a1 ha2 (by rw [hsj]; exact ha1) (by rw [hb1, hb2])
  · have hpw := O.2
    unfold apartL at hpw ⊢
    rw [List.pairwise_iff_getElem] at hpw ⊢
    intro m n hm' hn' hmn
    rw [List.length_set] at hm' hn'
    have pe : ∀ q (hq : q < ss.length), ((ss.set j { s with xs := s.xs.set k v })[q]'(by rw [List.length_set]; exact hq)).p = ss[q].p := fun q hq => by
      by_cases hqj : j = q
      · subst hqj; rw [List.getElem_set_self, hsj]
      · rw [List.getElem_set_ne hqj]
    rw [pe m hm', pe n hn']
    exact hpw m n hm' hn' hmn
  · obtain ⟨t, ht, a2, ha2, hb2⟩ := hb
    obtain ⟨m, hml, rfl⟩ := List.mem_iff_getElem.1 ht
    rw [List.length_set] at hml
    refine ⟨ss[m], List.getElem_mem hml, a2, ?_, hb2⟩
    by_cases hmj : j = m
    · subst hmj; rw [List.getElem_set_self] at ha2; rw [hsj]; exact ha2
    · rw [List.getElem_set_ne hmj] at ha2; exact ha2
theorem owns_row {ss : List Sl} {s : Sl} (O : (owns ss).P h) (hs : s ∈ ss) : Row h s.p (ints s.xs) := Own.row (O.1 s hs)
end

/-! a cell of a node that stands in a row -/
theorem flat_setc {α : Type} (f : α → List Value) (c : Nat) (hc : ∀ x, (f x).length = c) : ∀ (l : List α) (i j : Nat) (x y : α) (v : Value), l[i]? = some x → j < c → (f x).set j v = f y → (l.map f).flatten.set (i * c + j) v = ((l.set i y).map f).flatten
  | [], i, j, x, y, v, h, _, _ => by simp at h
  | z :: r, 0, j, x, y, v, h, hj, e => by
    simp at h; subst h
    rw [List.map_cons, List.flatten_cons, Nat.zero_mul, Nat.zero_add, List.set_append_left _ _ (by rw [hc]; exact hj), e]; rfl
  | z :: r, i + 1, j, x, y, v, h, hj, e => by
    rw [List.map_cons, List.flatten_cons, List.set_append_right _ _ (by rw [hc, Nat.add_mul]; omega), hc]
    have := flat_setc f c hc r i j x y v (by simpa using h) hj e
    rw [show (i + 1) * c + j - c = i * c + j by rw [Nat.add_mul]; omega, this]; rfl
theorem nflat_setc {ns : List Nv} {i j : Nat} {n n' : Nv} {v : Value} (h : ns[i]? = some n) (hj : j < 15) (e : n.cells.set j v = n'.cells) : (nflat ns).set (i * 15 + j) v = nflat (ns.set i n') :=
  flat_setc Nv.cells 15 Nv.cells_length ns i j n n' v h hj e

theorem nilI_iff (a : Addr) (K : Addr → Prop) : nilI (some a) K = K a := propext ⟨fun ⟨b, e, k⟩ => by cases e; exact k, fun k => ⟨a, rfl, k⟩⟩

theorem cells_eq (n : Nv) : n.cells = [.int .i64 n.kind, n.inn.v, .int .i64 n.width, .int .i64 n.size, .int .i64 n.step, .int .i64 n.gap, .int .i64 n.left, .int .i64 n.right, n.weights.v, n.bias.v, .int .i64 n.mult, .int .i64 n.shift, .int .i64 n.low, .int .i64 n.high, .int .i64 n.post] := rfl
theorem set_post (n : Nv) (x : Int) : n.cells.set 14 (.int .i64 x) = ({ n with post := x } : Nv).cells := by rw [cells_eq, cells_eq]; rfl
theorem set_mult (n : Nv) (x : Int) : n.cells.set 10 (.int .i64 x) = ({ n with mult := x } : Nv).cells := by rw [cells_eq, cells_eq]; rfl
theorem set_shift (n : Nv) (x : Int) : n.cells.set 11 (.int .i64 x) = ({ n with shift := x } : Nv).cells := by rw [cells_eq, cells_eq]; rfl
theorem set_low (n : Nv) (x : Int) : n.cells.set 12 (.int .i64 x) = ({ n with low := x } : Nv).cells := by rw [cells_eq, cells_eq]; rfl
theorem set_high (n : Nv) (x : Int) : n.cells.set 13 (.int .i64 x) = ({ n with high := x } : Nv).cells := by rw [cells_eq, cells_eq]; rfl
theorem set_inn (n : Nv) (x : Sl) : n.cells.set 1 x.v = ({ n with inn := x } : Nv).cells := by rw [cells_eq, cells_eq]; rfl
theorem set_weights (n : Nv) (x : Sl) : n.cells.set 8 x.v = ({ n with weights := x } : Nv).cells := by rw [cells_eq, cells_eq]; rfl
theorem set_bias (n : Nv) (x : Sl) : n.cells.set 9 x.v = ({ n with bias := x } : Nv).cells := by rw [cells_eq, cells_eq]; rfl

/-! take -/
/-- A node that took another one, if it may. -/
def tkN (a u : Nd) : Option Nd :=
  if u.kind = 10 ∧ a.post = 0 then some { a with post := 1, mult := u.mult, shift := u.shift }
  else if u.kind = 9 ∧ andI .i64 a.post 2 = 0 then some { a with post := orI .i64 a.post 2, low := u.low, high := u.high }
  else none
def tkV (a u : Nv) : Nv :=
  if u.kind = 10 ∧ a.post = 0 then { a with post := 1, mult := u.mult, shift := u.shift }
  else if u.kind = 9 ∧ andI .i64 a.post 2 = 0 then { a with post := orI .i64 a.post 2, low := u.low, high := u.high }
  else a
theorem tkV_nd (a u : Nv) : (tkV a u).nd = (tkN a.nd u.nd).getD a.nd := by
  have k : u.nd.kind = u.kind := rfl
  have p : a.nd.post = a.post := rfl
  unfold tkV tkN
  rw [k, p]
  split
  · rfl
  · split
    · rfl
    · rfl
theorem tkV_rows (a u : Nv) : (tkV a u).inn = a.inn ∧ (tkV a u).weights = a.weights ∧ (tkV a u).bias = a.bias := by
  unfold tkV; split
  · exact ⟨rfl, rfl, rfl⟩
  · split
    · exact ⟨rfl, rfl, rfl⟩
    · exact ⟨rfl, rfl, rfl⟩

section
variable {h0 h : Heap} {T : Nat → Prop} {W R : List Fact}

theorem three_S (S : Sep h0 T h W R) (i : Nat) {b l c ka : Nat} {ns : List Nv} {na : Nv} (e : W[i]? = some (own 15 (some ⟨b, 0, none⟩) l c (nflat ns))) (ha : ns[ka]? = some na) {x y z : Int} {j1 j2 : Nat} {n1 n2 n3 : Nv} (q1 : na.cells.set 14 (.int .i64 x) = n1.cells) (q2 : n1.cells.set j1 (.int .i64 y) = n2.cells) (q3 : n2.cells.set j2 (.int .i64 z) = n3.cells) (hj1 : j1 < 15) (hj2 : j2 < 15) {K : Heap → Prop} (H : ∀ g, Sep h0 T g (W.set i (own 15 (some ⟨b, 0, none⟩) l c (nflat (ns.set ka n3)))) R → K g) :
    stI h ⟨b, ka * 15 + 14, none⟩ (.int .i64 x) fun h1 => stI h1 ⟨b, ka * 15 + j1, none⟩ (.int .i64 y) fun h2 => stI h2 ⟨b, ka * 15 + j2, none⟩ (.int .i64 z) K := by
  have hiW : i < W.length := (List.getElem?_eq_some_iff.1 e).1
  have hka : ka < ns.length := (List.getElem?_eq_some_iff.1 ha).1
  have st : ∀ {g : Heap} {m : List Nv} {j : Nat} {n n' : Nv} {v : Int} {K : Heap → Prop}, Sep h0 T g (W.set i (own 15 (some ⟨b, 0, none⟩) l c (nflat m))) R → m[ka]? = some n → j < 15 → n.cells.set j (.int .i64 v) = n'.cells → (∀ g', Sep h0 T g' (W.set i (own 15 (some ⟨b, 0, none⟩) l c (nflat (m.set ka n')))) R → K g') → stI g ⟨b, ka * 15 + j, none⟩ (.int .i64 v) K := by
    intro g m j n n' v K S hm hj q H
    have hkm : ka < m.length := (List.getElem?_eq_some_iff.1 hm).1
    have := stO_S S i (K := K) (v := .int .i64 v) (List.getElem?_set_self hiW) (k := ka * 15 + j) (by rw [nflat_length]; omega) fun g' _ S' => H g' (by rw [List.set_set, nflat_setc hm hj q] at S'; exact S')
    rw [add_mk, Nat.zero_add] at this
    exact this
  refine st (m := ns) (S.turn i e _ (fun hh => hh) fun _ hb => hb) ha (by decide) q1 fun g1 S1 => ?_
  refine st S1 (by rw [List.getElem?_set_self hka]) hj1 q2 fun g2 S2 => ?_
  rw [List.set_set] at S2
  refine st S2 (by rw [List.getElem?_set_self hka]) hj2 q3 fun g3 S3 => ?_
  rw [List.set_set] at S3
  exact H g3 S3

theorem take_S (S : Sep h0 T h W R) (i : Nat) {b l c ka ku : Nat} {ns : List Nv} {na nu : Nv} (e : W[i]? = some (own 15 (some ⟨b, 0, none⟩) l c (nflat ns))) (ha : ns[ka]? = some na) (hu : ns[ku]? = some nu) :
    callP P n_fuse_take #[.pointer (some ⟨b, ka * 15, none⟩), .pointer (some ⟨b, ku * 15, none⟩)] h fun v h' => v = .bool (tkN na.nd nu.nd).isSome ∧ Sep h0 T h' (W.set i (own 15 (some ⟨b, 0, none⟩) l c (nflat (ns.set ka (tkV na nu))))) R := by
  refine call_fuse_take _ _ ?_
  unfold fuse_take
  have hiW : i < W.length := (List.getElem?_eq_some_iff.1 e).1
  have hka : ka < ns.length := (List.getElem?_eq_some_iff.1 ha).1
  have ld : ∀ {k j : Nat} {n : Nv} {v : Value}, ns[k]? = some n → j < 15 → n.cells[j]? = some v → cellH h ⟨b, k * 15 + j, none⟩ = some v := fun hn hj hv => by
    have := (S.own i e).row.cell (i := _ * 15 + _) (by rw [nflat_at hn hj]; exact hv)
    rw [add_mk, Nat.zero_add] at this
    exact this
  have ek : nu.nd.kind = nu.kind := rfl
  have ep : na.nd.post = na.post := rfl
  have stay : (tkN na.nd nu.nd) = none → Sep h0 T h (W.set i (own 15 (some ⟨b, 0, none⟩) l c (nflat (ns.set ka (tkV na nu))))) R := fun hn => by
    have et : tkV na nu = na := by
      unfold tkN at hn
      rw [ek, ep] at hn
      unfold tkV
      split at hn
      · cases hn
      · rename_i h1
        split at hn
        · cases hn
        · rename_i h2
          rw [if_neg h1, if_neg h2]
    have es : ns.set ka na = ns := by
      rw [List.getElem?_eq_getElem hka] at ha
      rw [← Option.some.inj ha, List.set_getElem_self]
    rw [et, es]
    exact S.turn i e _ (fun hh => hh) fun _ hb => hb
  have scale : nu.kind = 10 → na.post = 0 → stI h ⟨b, ka * 15 + 14, none⟩ (.int .i64 1) fun h1 => stI h1 ⟨b, ka * 15 + 10, none⟩ (.int .i64 nu.mult) fun h2 => stI h2 ⟨b, ka * 15 + 11, none⟩ (.int .i64 nu.shift) fun h3 =>
      Value.bool true = .bool (tkN na.nd nu.nd).isSome ∧ Sep h0 T h3 (W.set i (own 15 (some ⟨b, 0, none⟩) l c (nflat (ns.set ka (tkV na nu))))) R := fun h1 h2 => by
    refine three_S S i e ha (set_post na 1) (set_mult _ nu.mult) (set_shift _ nu.shift) (by decide) (by decide) fun g S' => ?_
    have e1 : tkV na nu = { na with post := 1, mult := nu.mult, shift := nu.shift } := by unfold tkV; rw [if_pos ⟨h1, h2⟩]
    have e2 : (tkN na.nd nu.nd).isSome = true := by unfold tkN; rw [ek, ep, if_pos ⟨h1, h2⟩]; rfl
    rw [e1, e2]; exact ⟨rfl, S'⟩
  have clamp : ¬ (nu.kind = 10 ∧ na.post = 0) → nu.kind = 9 → andI .i64 na.post 2 = 0 → stI h ⟨b, ka * 15 + 14, none⟩ (.int .i64 (orI .i64 na.post 2)) fun h1 => stI h1 ⟨b, ka * 15 + 12, none⟩ (.int .i64 nu.low) fun h2 => stI h2 ⟨b, ka * 15 + 13, none⟩ (.int .i64 nu.high) fun h3 =>
      Value.bool true = .bool (tkN na.nd nu.nd).isSome ∧ Sep h0 T h3 (W.set i (own 15 (some ⟨b, 0, none⟩) l c (nflat (ns.set ka (tkV na nu))))) R := fun h0 h1 h2 => by
    refine three_S S i e ha (set_post na (orI .i64 na.post 2)) (set_low _ nu.low) (set_high _ nu.high) (by decide) (by decide) fun g S' => ?_
    have e1 : tkV na nu = { na with post := orI .i64 na.post 2, low := nu.low, high := nu.high } := by unfold tkV; rw [if_neg h0, if_pos ⟨h1, h2⟩]
    have e2 : (tkN na.nd nu.nd).isSome = true := by unfold tkN; rw [ek, ep, if_neg h0, if_pos ⟨h1, h2⟩]; rfl
    rw [e1, e2]; exact ⟨rfl, S'⟩
  have nope : ¬ (nu.kind = 10 ∧ na.post = 0) → ¬ (nu.kind = 9 ∧ andI .i64 na.post 2 = 0) → Value.bool false = .bool (tkN na.nd nu.nd).isSome ∧ Sep h0 T h (W.set i (own 15 (some ⟨b, 0, none⟩) l c (nflat (ns.set ka (tkV na nu))))) R := fun h1 h2 => by
    have e : tkN na.nd nu.nd = none := by unfold tkN; rw [ek, ep, if_neg h1, if_neg h2]
    rw [e]; exact ⟨rfl, stay e⟩
  simp only [nilI_iff, add_mk]
  refine ldInt_i (n := nu.kind) (ld (j := 0) hu (by decide) rfl) (ifB_beq (fun k1 => ?_) (fun k1 => ?_))
  · refine ldInt_i (n := na.post) (ld ha (by decide) rfl) (ifB_beq (fun p1 => ?_) (fun p1 => ?_))
    · refine ldInt_i (n := nu.mult) (ld hu (by decide) rfl) (ldInt_i (n := nu.shift) (ld hu (by decide) rfl) ?_)
      exact scale k1 p1
    · refine ldInt_i (n := nu.kind) (ld (j := 0) hu (by decide) rfl) (ifB_beq (fun k2 => absurd k2 (by omega)) (fun k2 => ?_))
      exact nope (fun h => p1 h.2) (fun h => k2 h.1)
  · refine ldInt_i (n := nu.kind) (ld (j := 0) hu (by decide) rfl) (ifB_beq (fun k2 => ?_) (fun k2 => ?_))
    · refine ldInt_i (n := na.post) (ld ha (by decide) rfl) (ifB_beq (fun p1 => ?_) (fun p1 => ?_))
      · refine ldInt_i (n := na.post) (ld ha (by decide) rfl) (ldInt_i (n := nu.low) (ld hu (by decide) rfl) (ldInt_i (n := nu.high) (ld hu (by decide) rfl) ?_))
        exact clamp (fun h => k1 h.1) k2 p1
      · exact nope (fun h => k1 h.1) (fun h => p1 h.2)
    · exact nope (fun h => k1 h.1) (fun h => k2 h.1)
end

end Go.Proofs.YtbgplllcjhgdhaaDoor.G
