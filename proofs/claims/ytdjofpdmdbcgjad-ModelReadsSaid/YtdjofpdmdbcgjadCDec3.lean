/- Contracts: graphs that are read: strings.CutPrefix, model.Decode and the document's. -/
import Derived.Test.YtdjofpdmdbcgjadCDec2
import Derived.Test.YtdjofpdmdbcgjadCMade5
namespace Go.Proofs.Ytdjofpdmdbcgjad.G
open Go Go.Sh
set_option linter.unusedVariables false
set_option linter.unusedSimpArgs false

def rnodes (s : List UInt8) (t : St) : Nat → List Nd × St
  | 0 => ([], t)
  | n + 1 => ((rnodes s t n).1 ++ [(dNode s (rnodes s t n).2).1], (dNode s (rnodes s t n).2).2)
theorem rnodes_ok {s : List UInt8} {t : St} (h : t.ok s) : ∀ n, (rnodes s t n).2.ok s
  | 0 => h
  | n + 1 => dNode_ok (rnodes_ok h n)
theorem rnodes_length (s : List UInt8) (t : St) : ∀ n, (rnodes s t n).1.length = n
  | 0 => rfl
  | n + 1 => by simp [rnodes, rnodes_length s t n]

def Gr.zero : Gr := ⟨0, 0, 0, [], 0⟩
/-- What stands behind the first four bytes, read. -/
def dG (s : List UInt8) : Gr × Int :=
  let a := rget s ⟨0, 0⟩ 1
  let b := rget s a.2 4
  let c := rget s b.2 4
  let d := rget s c.2 1
  let e := rnodes s d.2 d.1.toNat
  let f := rget s e.2 1
  if f.2.err ≠ 0 then (Gr.zero, 11) else if (s.length : Int) - f.2.at_ > 0 then (Gr.zero, 10) else (⟨a.1, sgn b.1, sgn c.1, e.1, f.1⟩, 0)
def dGr (s : List UInt8) : Gr × Int := if magic <+: s then dG (s.drop 4) else (Gr.zero, 10)

def Gv.zero : Gv := ⟨0, 0, 0, none, 0, 0, 0, []⟩
def DecP (h : Heap) (r : Gr × Int) (v : Value) (h' : Heap) : Prop :=
  ∃ gv : Gv, v = .tuple #[gv.v, .int .i64 r.2] ∧ gv.ok ∧ gv.gr = r.1 ∧ Sep h no h' [own 15 gv.p gv.l gv.c (nflat gv.ns), nrows gv.ns] []

instance (a b : List UInt8) : Decidable (a <+: b) := decidable_of_iff (a.isPrefixOf b = true) (List.isPrefixOf_iff_prefix)
theorem pre_take {a b : List UInt8} : a <+: b ↔ b.take a.length = a := by
  rw [List.prefix_iff_eq_take]; exact eq_comm

section
variable {h : Heap} {s : List UInt8}

theorem HasPrefix_ok (a : List UInt8) : callP P n_internal_stringslite_HasPrefix #[.string (str s), .string (str a)] h fun v h' => v = .bool (decide (a <+: s)) ∧ h' = h := by
  refine call_internal_stringslite_HasPrefix _ _ ?_
  unfold internal_stringslite_HasPrefix
  rw [str_size, str_size]
  refine ifB_dec (fun hge => ?_) (fun hlt => ?_)
  · refine bndI_i rfl (by omega) ⟨?_, rfl⟩
    rw [str_extract, toList_beq]
    congr 1
    rw [decide_eq_decide, pre_take, List.drop_zero, Nat.sub_zero]
  · refine ⟨?_, rfl⟩
    rw [decide_eq_false]
    intro hp
    have := hp.length_le
    omega

theorem CutPrefix_ok (a : List UInt8) : callP P n_strings_CutPrefix #[.string (str s), .string (str a)] h fun v h' => v = .tuple #[.string (str (if a <+: s then s.drop a.length else s)), .bool (decide (a <+: s))] ∧ h' = h := by
  refine call_strings_CutPrefix _ _ ?_
  unfold strings_CutPrefix
  refine callP.mono (K := fun v h' => v = .tuple #[.string (str (if a <+: s then s.drop a.length else s)), .bool (decide (a <+: s))] ∧ h' = h) ?_ ?_
  · refine call_internal_stringslite_CutPrefix _ _ ?_
    unfold internal_stringslite_CutPrefix
    refine (HasPrefix_ok a).mono ?_
    rintro _ _ ⟨rfl, rfl⟩
    refine ⟨_, rfl, ?_⟩
    refine ifB_not (ifB_dec (fun hp => ?_) (fun hp => ?_))
    · have := hp.length_le
      refine bndI_i (by rw [str_size]) (by rw [str_size]; omega) ⟨?_, rfl⟩
      rw [if_pos hp, decide_eq_true hp, str_extract, str_size, List.take_of_length_le (by rw [List.length_drop]; omega)]
    · refine ⟨?_, rfl⟩
      rw [if_neg hp, decide_eq_false hp]
  · rintro _ _ ⟨rfl, rfl⟩
    exact ⟨_, _, rfl, rfl, rfl⟩
end

section
variable {h : Heap} {s : List UInt8}

theorem dec_end {g : Heap} {T : Nat → Prop} {R : List Fact} {b1 : Nat} {r : Gr × Int} {W : List Fact} {n : Int} (S : Sep h no g (blk b1 (mkS' grSh (zT grSh)) :: W) R) (hr : r = (Gr.zero, n)) :
    storeL [.int .i64 0, .int .i64 0, .int .i64 0, .slice none 0 0, .int .i64 0] g ⟨b1, 0, none⟩ 0 fun h49 => ldAg grSh h49 ⟨b1, 0, none⟩ fun x50 => DecP h r (.tuple #[agS grSh x50, .int .i64 n]) h49 := by
  refine stL_S S 0 rfl rfl (show ∀ y ∈ Gv.zero.cells, one1 y = true from mkS_one rfl) fun h6 _ S => ?_
  refine ldAg_S S 0 rfl (x := Gv.zero.t) rfl ?_
  refine ⟨Gv.zero, by rw [hr], ⟨rfl, Nat.le_refl _, fun n hn => (by cases hn)⟩, by rw [hr]; rfl, ?_⟩
  have S3 := (((S.pick [] []).nil 15)).reads0
  exact S3

set_option maxHeartbeats 2000000 in
theorem Decode_S (hs : s.length < 2 ^ 62) : callP P n_model_Decode #[.string (str s)] h (DecP h (dGr s)) := by
  refine call_model_Decode _ ?_
  unfold model_Decode
  have S := Sep.start h no
  refine newI_S S fun b1 h2 _ S => ?_
  dsimp only [List.nil_append] at S
  have em : (ByteArray.mk #[69, 65, 82, 49]) = str magic := rfl
  rw [em]
  refine (CutPrefix_ok magic).mono ?_
  rintro _ _ ⟨rfl, rfl⟩
  refine ⟨_, _, rfl, ?_⟩
  refine ifB_not (ifB_dec (fun hp => ?_) (fun hp => dec_end (T := no) S (by unfold dGr; rw [if_neg hp])))
  rw [if_pos hp]
  have hd0 : dGr s = dG (s.drop 4) := by unfold dGr; rw [if_pos hp]
  rw [hd0]
  have hml : magic.length = 4 := rfl
  rw [hml]
  have hs2 : (s.drop 4).length < 2 ^ 62 := by rw [List.length_drop]; omega
  generalize s.drop 4 = u at hs2
  clear hd0
  refine (Read_S u).mono ?_
  rintro _ _ ⟨br, rfl, S1⟩
  refine ⟨_, rfl, ?_⟩
  replace S := S.add S1 fun _ _ h => h
  refine newI_S S (fun b11 _ _ S => ?_)
  refine stI_S S 2 rfl (k := 0) (Nat.le_of_ble_eq_true rfl) fun h13 _ S => ?_
  refine newI_S S fun b14 h15 _ S => ?_
  dsimp only [List.set, List.cons_append, List.nil_append] at S
  refine ldPtr_i (S.cell 2 rfl rfl) ?_
  refine newI_S S (fun b17 _ _ S => ?_)
  have okz : St.ok u ⟨0, 0⟩ := ⟨Nat.zero_le _, .inl rfl⟩
  have S2 : Sep h no _ [rd br (⟨0, 0⟩ : St).at_ u (⟨0, 0⟩ : St).err, blk b14 Gv.zero.cells, blk b11 [.pointer (some ⟨br, 0, none⟩)], blk b1 (mkS' grSh (zT grSh)), blk b17 [tptr b14 b11 (false, 0)]] [] := S.pw [1, 3, 2, 0, 4]
  clear S
  have S := S2
  clear S2
  refine (rsmall_S ((S.into [0, 1, 2] [4] []).rowB 0) okz hs2 0 (ts := [(false, 0)]) (k := 1) rfl rfl (by decide) (by intro x hx; simp at hx; subst hx; exact Nat.le_of_ble_eq_true rfl)).mono ?_
  rintro _ _ ⟨rfl, S1⟩
  refine ⟨rfl, ?_⟩
  replace S := S.back [0,1,2] S1
  try dsimp only [merge, List.set, List.cons_append, List.nil_append] at S
  have er1 : rbs u 1 ⟨0, 0⟩ = ([(rget u ⟨0, 0⟩ 1).1], (rget u ⟨0, 0⟩ 1).2) := rfl
  rw [er1] at S
  have oka := rget_ok okz 1
  generalize hka : rget u ⟨0, 0⟩ 1 = a at S oka
  refine ldPtr_i (S.cell 2 rfl rfl) (ldPtr_i (S.cell 2 rfl rfl) ?_)
  refine (rWord_S (S.into [0] [] []) oka hs2).mono ?_
  rintro _ _ ⟨rfl, S1⟩
  refine ⟨_, rfl, ?_⟩
  replace S := S.back [0] S1
  try dsimp only [merge, List.set, List.cons_append, List.nil_append] at S
  have okb := rget_ok oka 4
  generalize hkb : rget u a.2 4 = b at S okb
  refine and_i (S.cell 2 rfl rfl) ?_
  refine (rWord_S (S.into [0] [] []) okb hs2).mono ?_
  rintro _ _ ⟨rfl, S1⟩
  refine ⟨_, rfl, ?_⟩
  replace S := S.back [0] S1
  try dsimp only [merge, List.set, List.cons_append, List.nil_append] at S
  have okc := rget_ok okb 4
  generalize hkc : rget u b.2 4 = c at S okc
  refine and_i (S.cell 2 rfl rfl) ?_
  refine stI_S S 1 rfl (k := 1) (Nat.le_of_ble_eq_true rfl) fun g1 _ S => ?_
  refine and_i (S.cell 2 rfl rfl) ?_
  refine stI_S S 1 rfl (k := 2) (Nat.le_of_ble_eq_true rfl) fun g2 _ S => ?_
  refine ldPtr_i (S.cell 2 rfl rfl) ?_
  refine (rByte_S (S.into [0] [] []) okc hs2).mono ?_
  rintro _ _ ⟨rfl, S1⟩
  refine ⟨_, rfl, ?_⟩
  replace S := S.back [0] S1
  try dsimp only [merge, List.set, List.cons_append, List.nil_append] at S
  have okd := rget_ok okc 1
  have hr := rget_range u c.2 1
  generalize hkd : rget u c.2 1 = d at S okd hr
  obtain ⟨kn, ekn⟩ : ∃ kn : Nat, d.1 = kn := ⟨d.1.toNat, by omega⟩
  rw [ekn] at hr ⊢
  have S2 : Sep h no _ [rd br d.2.at_ u d.2.err, blk b14 (⟨a.1, sgn b.1, sgn c.1, none, 0, 0, 0, []⟩ : Gv).cells, blk b11 [.pointer (some ⟨br, 0, none⟩)], blk b1 (mkS' grSh (zT grSh))] [] := S.pw [0, 1, 2, 3]
  clear S
  have S := ((S2.nil 15).reads0).pw [0, 1, 2, 3, 4, 5]
  clear S2
  dsimp only [Sh.pick, List.getElem?_cons_zero, List.getElem?_cons_succ, List.cons_append, List.nil_append] at S
  refine LoopS_i (fun m s' g => ∃ (q : Option Addr) (k d' : Nat) (ns : List Nv), s' = (⟨b1, 0, none⟩, ⟨b11, 0, none⟩, ⟨b14, 0, none⟩, (kn : Int), (k : Int), ()) ∧ k ≤ kn ∧ m = kn - k ∧ ns.length = k ∧ (∀ n ∈ ns, n.ok) ∧ ns.map Nv.nd = (rnodes u d.2 k).1 ∧
    Sep h no g [rd br (rnodes u d.2 k).2.at_ u (rnodes u d.2 k).2.err, blk b14 (⟨a.1, sgn b.1, sgn c.1, q, k, d', 0, []⟩ : Gv).cells, blk b11 [.pointer (some ⟨br, 0, none⟩)], blk b1 (mkS' grSh (zT grSh)), own 15 q k d' (nflat ns), nrows ns] []) kn
    ⟨none, 0, 0, [], rfl, Nat.zero_le _, rfl, rfl, (fun n hn => by cases hn), rfl, S⟩ ?_
  clear S
  rintro m s' g ⟨q, k, d', ns, rfl, hk, rfl, hnk, nok, hnd, S⟩
  unfold model_Decode_l9
  dsimp only
  refine ifB_dec (fun hlt => ?_) (fun hge => ?_)
  · refine ldSlice_i (p := q) (l := k) (c := d') (S.cell 1 rfl rfl) (ldPtr_i (S.cell 2 rfl rfl) ?_)
    refine (rnode_S (S.into [0] [] []) (rnodes_ok okd k) hs2).mono ?_
    rintro _ g2 ⟨nv, rfl, nvok, nnd, S1⟩
    replace S := S.back [0] S1
    dsimp only [merge, List.set, List.cons_append, List.nil_append] at S
    refine exS_i nv.t ⟨rfl, ?_⟩
    refine and_i (S.cell 1 rfl rfl) ?_
    refine newI_S S fun b37 h3 _ S => ?_
    dsimp only [List.set, List.cons_append, List.nil_append] at S
    refine appI_S S 4 (ys := nv.cells) rfl rfl (by decide) (by omega) (Row.of_at (S.at 7 rfl)) rfl (mkS_one rfl) fun q' k' d2 h4 hk' S => ?_
    dsimp only [List.set] at S
    refine stI_S S 1 rfl (k := 3) (Nat.le_of_ble_eq_true rfl) fun h5 _ S => ?_
    dsimp only [List.set] at S
    rw [wrap64_in (by omega)]
    have S3 := S.joinR [0, 1, 2, 3, 4] 5 6 rfl rfl
    dsimp only [Sh.pick, List.getElem?_cons_zero, List.getElem?_cons_succ, List.cons_append, List.nil_append] at S3
    have hk1 : k' = k + 1 := hk'
    subst hk1
    refine ⟨kn - (k + 1), by omega, q', k + 1, d2, ns ++ [nv], rfl, by omega, rfl, by simp; omega, ?_, ?_, ?_⟩
    · intro n hn
      rcases List.mem_append.1 hn with hn | hn
      · exact nok n hn
      · simp only [List.mem_singleton] at hn; subst hn; exact nvok
    · rw [List.map_append, hnd, List.map_cons, List.map_nil, nnd]; rfl
    · have e1 : nflat (ns ++ [nv]) = nflat ns ++ nv.cells := by rw [nflat_append]; simp [nflat]
      rw [e1, nrows_cat]
      exact S3
  · have hkn : k = kn := by omega
    have eu : rnodes u d.2 d.1.toNat = rnodes u d.2 k := by rw [ekn, hkn, Int.toNat_natCast]
    have oke := rnodes_ok okd k
    generalize hke : rnodes u d.2 k = e at S oke eu hnd
    refine ldPtr_i (S.cell 2 rfl rfl) ?_
    refine newI_S S (fun b43 _ _ S => ?_)
    have S2 : Sep h no _ [rd br e.2.at_ u e.2.err, blk b14 (⟨a.1, sgn b.1, sgn c.1, q, k, d', 0, []⟩ : Gv).cells, blk b11 [.pointer (some ⟨br, 0, none⟩)], blk b1 (mkS' grSh (zT grSh)), own 15 q k d' (nflat ns), nrows ns, blk b43 [tptr b14 b11 (false, 4)]] [] := S
    clear S
    have S := S2
    clear S2
    refine (rsmall_S ((S.into [0, 1, 2] [6] []).rowB 0) oke hs2 0 (ts := [(false, 4)]) (k := 1) rfl rfl (by decide) (by intro x hx; simp at hx; subst hx; exact Nat.le_of_ble_eq_true rfl)).mono ?_
    rintro _ _ ⟨rfl, S1⟩
    refine ⟨rfl, ?_⟩
    replace S := S.back [0,1,2] S1
    try dsimp only [merge, List.set, List.cons_append, List.nil_append] at S
    have er1 : rbs u 1 e.2 = ([(rget u e.2 1).1], (rget u e.2 1).2) := rfl
    rw [er1] at S
    have okf := rget_ok oke 1
    generalize hkf : rget u e.2 1 = f at S okf
    have hd : dG u = if f.2.err ≠ 0 then (Gr.zero, 11) else if (u.length : Int) - f.2.at_ > 0 then (Gr.zero, 10) else (⟨a.1, sgn b.1, sgn c.1, e.1, f.1⟩, 0) := by
      unfold dG
      simp only [hka, hkb, hkc, hkd, eu, hkf]
    have S2 : Sep h no _ [blk b1 (mkS' grSh (zT grSh)), rd br f.2.at_ u f.2.err, blk b14 (⟨a.1, sgn b.1, sgn c.1, q, k, d', f.1, ns⟩ : Gv).cells, blk b11 [.pointer (some ⟨br, 0, none⟩)], own 15 q k d' (nflat ns), nrows ns] [] := S.pw [3, 0, 1, 2, 4, 5]
    clear S
    have S := S2
    clear S2
    refine ldPtr_i (S.cell 3 rfl rfl) ?_
    refine (rErr_ok (x := f.2.err) (S.cell 1 rfl rfl)).mono ?_
    rintro _ _ ⟨rfl, rfl⟩
    refine ⟨_, rfl, ?_⟩
    refine ifB_bne (fun he => dec_end (T := no) S (by rw [hd, if_pos he])) (fun he => ?_)
    refine ldPtr_i (S.cell 3 rfl rfl) ?_
    refine (rLeft_ok (S.at 1 rfl) okf hs2).mono ?_
    rintro _ _ ⟨rfl, rfl⟩
    refine ⟨_, rfl, ?_⟩
    refine ifB_dec (fun hl => dec_end (T := no) S (by rw [hd, if_neg (by omega), if_pos hl])) (fun hl => ?_)
    have hd2 : dG u = (⟨a.1, sgn b.1, sgn c.1, e.1, f.1⟩, 0) := by rw [hd, if_neg (by omega), if_neg hl]
    generalize hgv : (⟨a.1, sgn b.1, sgn c.1, q, k, d', f.1, ns⟩ : Gv) = gv at S
    refine ldAg_S S 2 rfl (x := gv.t) rfl ?_
    refine stL_S S 0 rfl rfl (mkS_one rfl) fun g6 _ S => ?_
    dsimp only [List.set] at S
    refine ldAg_S S 0 rfl (x := gv.t) rfl ?_
    refine ⟨gv, by rw [hd2], ?_, by rw [hd2, ← hgv, ← hnd]; rfl, ?_⟩
    · rw [← hgv]; exact ⟨hnk, (S.own 4 rfl).2.1, nok⟩
    · rw [← hgv]; exact S.pick [4, 5] []

set_option maxHeartbeats 2000000 in
theorem dDecode_S (hs : s.length < 2 ^ 62) : callP P n_ref15_Decode #[.string (str s)] h (DecP h (dGr s)) := by
  refine call_ref15_Decode _ ?_
  unfold ref15_Decode
  have S := Sep.start h no
  refine newI_S S fun b1 h2 _ S => ?_
  dsimp only [List.nil_append] at S
  have em : (ByteArray.mk #[69, 65, 82, 49]) = str magic := rfl
  have hml : magic.length = 4 := rfl
  refine ⟨fun s' g => s' = (str s, ⟨b1, 0, none⟩, ()) ∧ magic <+: s ∧ Sep h no g [blk b1 (mkS' grSh (zT grSh))] [], ?_, ?_⟩
  · clear S
    rintro s' g ⟨rfl, hp, S⟩
    unfold ref15_Decode_j3
    dsimp only
    have hle := hp.length_le
    rw [hml] at hle
    refine bndI_i (n := 4) rfl (by rw [str_size]; omega) ?_
    rw [str_extract, str_size, List.take_of_length_le (by rw [List.length_drop]; omega)]
    have hd0 : dGr s = dG (s.drop 4) := by unfold dGr; rw [if_pos hp]
    rw [hd0]
    have hs2 : (s.drop 4).length < 2 ^ 62 := by rw [List.length_drop]; omega
    generalize s.drop 4 = u at hs2
    clear hd0
    refine (dRead_S u).mono ?_
    rintro _ _ ⟨br, rfl, S1⟩
    refine ⟨_, rfl, ?_⟩
    replace S := S.add S1 fun _ _ h => h
    have okz : St.ok u ⟨0, 0⟩ := ⟨Nat.zero_le _, .inl rfl⟩
    have S2 : Sep h no _ [rf br (⟨0, 0⟩ : St).at_ u (⟨0, 0⟩ : St).err, blk b1 (mkS' grSh (zT grSh))] [] := S.pw [1, 0]
    clear S
    have S := S2
    clear S2
    refine (Num_S (n := 1) (S.into [0] [] []) okz hs2 (by decide)).mono ?_
    rintro _ _ ⟨rfl, S1⟩
    refine ⟨_, rfl, ?_⟩
    replace S := S.back [0] S1
    try dsimp only [merge, List.set, List.cons_append, List.nil_append] at S
    have oka := rget_ok okz 1
    dsimp only
    rw [wr1]
    generalize hka : rget u ⟨0, 0⟩ 1 = a at S oka
    refine newI_S S fun b10 h11 _ S => ?_
    dsimp only [List.cons_append, List.nil_append] at S
    refine stL_S S 2 rfl rfl (show ∀ y ∈ ({Gv.zero with width := a.1} : Gv).cells, one1 y = true from mkS_one rfl) fun h12 _ S => ?_
    dsimp only [List.set] at S
    refine (dWord_S (S.into [0] [] []) oka hs2).mono ?_
    rintro _ _ ⟨rfl, S1⟩
    refine ⟨_, rfl, ?_⟩
    replace S := S.back [0] S1
    try dsimp only [merge, List.set, List.cons_append, List.nil_append] at S
    have okb := rget_ok oka 4
    generalize hkb : rget u a.2 4 = b at S okb
    refine stI_S S 2 rfl (k := 1) (Nat.le_of_ble_eq_true rfl) fun g1 _ S => ?_
    refine (dWord_S (S.into [0] [] []) okb hs2).mono ?_
    rintro _ _ ⟨rfl, S1⟩
    refine ⟨_, rfl, ?_⟩
    replace S := S.back [0] S1
    try dsimp only [merge, List.set, List.cons_append, List.nil_append] at S
    have okc := rget_ok okb 4
    generalize hkc : rget u b.2 4 = c at S okc
    refine stI_S S 2 rfl (k := 2) (Nat.le_of_ble_eq_true rfl) fun g2 _ S => ?_
    refine (Num_S (n := 1) (S.into [0] [] []) okc hs2 (by decide)).mono ?_
    rintro _ _ ⟨rfl, S1⟩
    refine ⟨_, rfl, ?_⟩
    replace S := S.back [0] S1
    try dsimp only [merge, List.set, List.cons_append, List.nil_append] at S
    have okd := rget_ok okc 1
    have hr := rget_range u c.2 1
    dsimp only
    rw [wr1]
    generalize hkd : rget u c.2 1 = d at S okd hr
    obtain ⟨kn, ekn⟩ : ∃ kn : Nat, d.1 = kn := ⟨d.1.toNat, by omega⟩
    rw [ekn] at hr ⊢
    have S2 : Sep h no _ [rf br d.2.at_ u d.2.err, blk b10 (⟨a.1, sgn b.1, sgn c.1, none, 0, 0, 0, []⟩ : Gv).cells, blk b1 (mkS' grSh (zT grSh))] [] := S.pw [0, 2, 1]
    clear S
    have S := ((S2.nil 15).reads0).pw [0, 1, 2, 3, 4]
    clear S2
    dsimp only [Sh.pick, List.getElem?_cons_zero, List.getElem?_cons_succ, List.cons_append, List.nil_append] at S
    refine LoopS_i (fun m s' g => ∃ (q : Option Addr) (k d' : Nat) (ns : List Nv), s' = (⟨b1, 0, none⟩, some ⟨br, 0, none⟩, ⟨b10, 0, none⟩, (kn : Int), (k : Int), ()) ∧ k ≤ kn ∧ m = kn - k ∧ ns.length = k ∧ (∀ n ∈ ns, n.ok) ∧ ns.map Nv.nd = (rnodes u d.2 k).1 ∧
      Sep h no g [rf br (rnodes u d.2 k).2.at_ u (rnodes u d.2 k).2.err, blk b10 (⟨a.1, sgn b.1, sgn c.1, q, k, d', 0, []⟩ : Gv).cells, blk b1 (mkS' grSh (zT grSh)), own 15 q k d' (nflat ns), nrows ns] []) kn
      ⟨none, 0, 0, [], rfl, Nat.zero_le _, rfl, rfl, (fun n hn => by cases hn), rfl, S⟩ ?_
    clear S
    rintro m s' g ⟨q, k, d', ns, rfl, hk, rfl, hnk, nok, hnd, S⟩
    unfold ref15_Decode_l9
    dsimp only
    refine ifB_dec (fun hlt => ?_) (fun hge => ?_)
    · refine ldSlice_i (p := q) (l := k) (c := d') (S.cell 1 rfl rfl) ?_
      refine (dnode_S (S.into [0] [] []) (rnodes_ok okd k) hs2).mono ?_
      rintro _ g2 ⟨nv, rfl, nvok, nnd, S1⟩
      replace S := S.back [0] S1
      dsimp only [merge, List.set, List.cons_append, List.nil_append] at S
      refine exS_i nv.t ⟨rfl, ?_⟩
      refine and_i (S.cell 1 rfl rfl) ?_
      refine newI_S S fun b37 h3 _ S => ?_
      dsimp only [List.set, List.cons_append, List.nil_append] at S
      refine appI_S S 3 (ys := nv.cells) rfl rfl (by decide) (by omega) (Row.of_at (S.at 6 rfl)) rfl (mkS_one rfl) fun q' k' d2 h4 hk' S => ?_
      dsimp only [List.set] at S
      refine stI_S S 1 rfl (k := 3) (Nat.le_of_ble_eq_true rfl) fun h5 _ S => ?_
      dsimp only [List.set] at S
      rw [wrap64_in (by omega)]
      have S3 := S.joinR [0, 1, 2, 3] 4 5 rfl rfl
      dsimp only [Sh.pick, List.getElem?_cons_zero, List.getElem?_cons_succ, List.cons_append, List.nil_append] at S3
      have hk1 : k' = k + 1 := hk'
      subst hk1
      refine ⟨kn - (k + 1), by omega, q', k + 1, d2, ns ++ [nv], rfl, by omega, rfl, by simp; omega, ?_, ?_, ?_⟩
      · intro n hn
        rcases List.mem_append.1 hn with hn | hn
        · exact nok n hn
        · simp only [List.mem_singleton] at hn; subst hn; exact nvok
      · rw [List.map_append, hnd, List.map_cons, List.map_nil, nnd]; rfl
      · have e1 : nflat (ns ++ [nv]) = nflat ns ++ nv.cells := by rw [nflat_append]; simp [nflat]
        rw [e1, nrows_cat]
        exact S3
    · have hkn : k = kn := by omega
      have eu : rnodes u d.2 d.1.toNat = rnodes u d.2 k := by rw [ekn, hkn, Int.toNat_natCast]
      have oke := rnodes_ok okd k
      generalize hke : rnodes u d.2 k = e at S oke eu hnd
      refine (Num_S (n := 1) (S.into [0] [] []) oke hs2 (by decide)).mono ?_
      rintro _ _ ⟨rfl, S1⟩
      refine ⟨_, rfl, ?_⟩
      replace S := S.back [0] S1
      try dsimp only [merge, List.set, List.cons_append, List.nil_append] at S
      have okf := rget_ok oke 1
      dsimp only
      rw [wr1]
      generalize hkf : rget u e.2 1 = f at S okf
      have hd : dG u = if f.2.err ≠ 0 then (Gr.zero, 11) else if (u.length : Int) - f.2.at_ > 0 then (Gr.zero, 10) else (⟨a.1, sgn b.1, sgn c.1, e.1, f.1⟩, 0) := by
        unfold dG
        simp only [hka, hkb, hkc, hkd, eu, hkf]
      refine stI_S S 1 rfl (k := 4) (Nat.le_of_ble_eq_true rfl) fun g3 _ S => ?_
      have S2 : Sep h no _ [blk b1 (mkS' grSh (zT grSh)), rf br f.2.at_ u f.2.err, blk b10 (⟨a.1, sgn b.1, sgn c.1, q, k, d', f.1, ns⟩ : Gv).cells, own 15 q k d' (nflat ns), nrows ns] [] := S.pw [2, 0, 1, 3, 4]
      clear S
      have S := S2
      clear S2
      refine nilI_some (ldInt_i (n := f.2.err) (S.cell 1 rfl rfl) ?_)
      refine ifB_bne (fun he => dec_end (T := no) S (by rw [hd, if_pos he])) (fun he => ?_)
      refine (dLeft_ok (S.at 1 rfl) okf hs2).mono ?_
      rintro _ _ ⟨rfl, rfl⟩
      refine ⟨_, rfl, ?_⟩
      refine ifB_dec (fun hl => dec_end (T := no) S (by rw [hd, if_neg (by omega), if_pos hl])) (fun hl => ?_)
      have hd2 : dG u = (⟨a.1, sgn b.1, sgn c.1, e.1, f.1⟩, 0) := by rw [hd, if_neg (by omega), if_neg hl]
      generalize hgv : (⟨a.1, sgn b.1, sgn c.1, q, k, d', f.1, ns⟩ : Gv) = gv at S
      refine ldAg_S S 2 rfl (x := gv.t) rfl ?_
      refine stL_S S 0 rfl rfl (mkS_one rfl) fun g6 _ S => ?_
      dsimp only [List.set] at S
      refine ldAg_S S 0 rfl (x := gv.t) rfl ?_
      refine ⟨gv, by rw [hd2], ?_, by rw [hd2, ← hgv, ← hnd]; rfl, ?_⟩
      · rw [← hgv]; exact ⟨hnk, (S.own 3 rfl).2.1, nok⟩
      · rw [← hgv]; exact S.pick [3, 4] []
  · rw [str_size]
    refine ifB_dec (fun hlt => dec_end (T := no) S ?_) (fun hge => ?_)
    · unfold dGr
      rw [if_neg]
      intro hp
      have := hp.length_le
      rw [hml] at this
      omega
    · refine bndI_i (n := 4) rfl (by omega) ?_
      rw [str_extract, em, toList_beq, List.drop_zero]
      have ep : (s.take (4 - 0) = magic) ↔ magic <+: s := by rw [pre_take]; exact Iff.rfl
      refine ifB_not (ifB_dec (fun hp => ⟨rfl, ep.1 hp, S⟩) (fun hp => dec_end (T := no) S ?_))
      unfold dGr
      rw [if_neg (fun h => hp (ep.2 h))]
end

end Go.Proofs.Ytdjofpdmdbcgjad.G
