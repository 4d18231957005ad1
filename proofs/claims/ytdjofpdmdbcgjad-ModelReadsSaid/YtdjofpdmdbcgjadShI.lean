/- Sh, part 8: a function's whole code on heaps, with what lives at a loop's head, and where ways meet, named by their shapes; and that a call does just that. General: for every program. -/
import Derived.Test.YtdjofpdmdbcgjadShReg
namespace Go.Sh
set_option linter.unusedSimpArgs false

/-! ### shapes of what lives -/

inductive Sc where
  | int (k : IntKind)
  | bool | str | ptr | adr | slice | map | any

def Sc.T : Sc → Type
  | .int _ => Int
  | .bool => Bool
  | .str => ByteArray
  | .ptr => Option Addr
  | .adr => Addr
  | .slice => Option Addr × Nat × Nat
  | .map => Option Nat
  | .any => Value

def Sc.mk : (s : Sc) → s.T → Value
  | .int k, n => .int k n
  | .bool, b => .bool b
  | .str, s => .string s
  | .ptr, p => .pointer p
  | .adr, a => .pointer (some a)
  | .slice, x => .slice x.1 x.2.1 x.2.2
  | .map, r => .map r
  | .any, v => v

def Sc.rd : (s : Sc) → Value → (s.T → Prop) → Prop
  | .int k, v, K => match v with | .int k' n => if k = k' then K n else False | _ => False
  | .bool, v, K => match v with | .bool b => K b | _ => False
  | .str, v, K => match v with | .string s => K s | _ => False
  | .ptr, v, K => match v with | .pointer p => K p | _ => False
  | .adr, v, K => match v with | .pointer (some a) => K a | _ => False
  | .slice, v, K => match v with | .slice a l c => K (a, l, c) | _ => False
  | .map, v, K => match v with | .map r => K r | _ => False
  | .any, v, K => K v

theorem Sc.rd_mk : ∀ (s : Sc) (v : Value) (K : s.T → Prop), s.rd v K → ∃ x, s.mk x = v ∧ K x := by
  intro s v K h
  cases s <;> simp only [Sc.rd] at h
  case any => exact ⟨v, rfl, h⟩
  case int k =>
    split at h
    · split at h
      · rename_i hk; subst hk; exact ⟨_, rfl, h⟩
      · exact h.elim
    · exact h.elim
  all_goals
    split at h
    · exact ⟨_, rfl, h⟩
    · exact h.elim

def TS : List Sc → Type
  | [] => Unit
  | s :: r => s.T × TS r

def mkS' : (l : List Sc) → TS l → List Value
  | [], _ => []
  | s :: r, x => s.mk x.1 :: mkS' r x.2

def rdS : (l : List Sc) → List Value → (TS l → Prop) → Prop
  | [], [], K => K ()
  | s :: r, v :: vs, K => s.rd v fun x => rdS r vs fun xs => K (x, xs)
  | _, _, _ => False

theorem rdS_mk : ∀ (l : List Sc) (vs : List Value) (K : TS l → Prop), rdS l vs K → ∃ x, mkS' l x = vs ∧ K x
  | [], [], K, h => ⟨(), rfl, h⟩
  | [], _ :: _, _, h => h.elim
  | _ :: _, [], _, h => h.elim
  | s :: r, v :: vs, K, h => by
    obtain ⟨x, hx, h⟩ := s.rd_mk v _ h
    obtain ⟨xs, hxs, h⟩ := rdS_mk r vs _ h
    exact ⟨(x, xs), by simp only [mkS', hx, hxs], h⟩

inductive Ls where
  | sc (s : Sc)
  | ag (l : List Sc)
  | fn (f : Nat) (l m : List Sc)

def Ls.T : Ls → Type
  | .sc s => s.T
  | .ag l => TS l
  | .fn _ l m => TS l × TS m

def Ls.mk : (s : Ls) → s.T → Value
  | .sc s, x => s.mk x
  | .ag l, x => .agg (mkS' l x).toArray
  | .fn f l m, x => .func (.func f) (mkS' l x.1).toArray (mkS' m x.2).toArray

def Ls.rd : (s : Ls) → Value → (s.T → Prop) → Prop
  | .sc s, v, K => s.rd v K
  | .ag l, v, K => match v with | .agg cs => rdS l cs.toList K | _ => False
  | .fn f l m, v, K => match v with
    | .func (.func g) a b => match Nat.beq g f with
      | true => rdS l a.toList fun x => rdS m b.toList fun y => K (x, y)
      | false => False
    | _ => False

theorem Ls.rd_mk (s : Ls) (v : Value) (K : s.T → Prop) (h : s.rd v K) : ∃ x, s.mk x = v ∧ K x := by
  cases s with
  | sc s => exact s.rd_mk v K h
  | ag l =>
    simp only [Ls.rd] at h
    split at h
    · obtain ⟨x, hx, h⟩ := rdS_mk l _ K h
      exact ⟨x, by simp only [Ls.mk, hx], h⟩
    · exact h.elim
  | fn f l m =>
    simp only [Ls.rd] at h
    split at h
    · split at h
      · rename_i g a b hg
        obtain ⟨x, hx, h⟩ := rdS_mk l _ _ h
        obtain ⟨y, hy, h⟩ := rdS_mk m _ _ h
        exact ⟨(x, y), by simp only [Ls.mk, hx, hy, Nat.eq_of_beq_eq_true hg], h⟩
      · exact h.elim
    · exact h.elim

abbrev Live := List (Nat × Ls)

def TL : Live → Type
  | [] => Unit
  | x :: r => x.2.T × TL r

def embL : (l : Live) → TL l → Tm
  | [], _ => fun _ => .bot
  | x :: r, s => upd (embL r s.2) x.1 (.val (x.2.mk s.1))

/-- What a slot holds, if it may be read. -/
def rdT (t : Tm) (i : Nat) (K : Value → Prop) : Prop :=
  match t i with
  | .bot => False
  | .known b => K (.bool b)
  | .val v => K v

def rdL : (l : Live) → Tm → (TL l → Prop) → Prop
  | [], _, K => K ()
  | x :: r, t, K => rdT t x.1 fun v => x.2.rd v fun y => rdL r t fun ys => K (y, ys)

theorem rdL_emb : ∀ (l : Live) (t : Tm) (K : TL l → Prop), rdL l t K → ∃ s, K s ∧ ∀ i, embL l s i = .bot ∨ ((embL l s i).v = (t i).v ∧ t i ≠ .bot)
  | [], t, K, h => ⟨(), h, fun i => .inl rfl⟩
  | x :: r, t, K, h => by
    simp only [rdL, rdT] at h
    have key : ∀ v, t x.1 ≠ .bot → (t x.1).v = v → (x.2.rd v fun y => rdL r t fun ys => K (y, ys)) → ∃ s, K s ∧ ∀ i, embL (x :: r) s i = .bot ∨ ((embL (x :: r) s i).v = (t i).v ∧ t i ≠ .bot) := by
      intro v hb hv h
      obtain ⟨y, hy, h⟩ := x.2.rd_mk v _ h
      obtain ⟨ys, hk, hys⟩ := rdL_emb r t _ h
      refine ⟨(y, ys), hk, fun i => ?_⟩
      simp only [embL]
      by_cases hi : i = x.1
      · right
        rw [hi, upd_same]
        exact ⟨by rw [hv]; exact hy, hb⟩
      · rw [upd_ne _ _ hi]; exact hys i
    split at h
    · exact h.elim
    · rename_i b hb; exact key _ (by rw [hb]; simp) (by rw [hb]; rfl) h
    · rename_i v hb; exact key _ (by rw [hb]; simp) (by rw [hb]; rfl) h

theorem Rel.emb {n : Nat} {t : Tm} {a : Act} (r : Rel n t a) {l : Live} {s : TL l} (h : ∀ i, embL l s i = .bot ∨ ((embL l s i).v = (t i).v ∧ t i ≠ .bot)) : Rel n (embL l s) a := by
  refine ⟨r.size, fun i => ?_⟩
  rcases h i with h | ⟨h, hb⟩
  · exact .inl h
  · right
    rcases r.at_ i with h' | h'
    · exact absurd h' hb
    · rw [h, h']

/-! ### code -/

def lookT {α : Type} (d : α) : List (Nat × α) → Nat → α
  | [], _ => d
  | x :: r, i => match Nat.beq x.1 i with | true => x.2 | false => lookT d r i

structure Tab where
  sch : Nat → Sch
  lp : Nat → Live
  jn : Nat → Option Live

def key : Code → Nat
  | .region id _ _ => id
  | .seq a _ => key a
  | .block _ c => key c
  | .loop c => key c
  | .scope c => key c
  | _ => 1000000

def seqK (N : Tm → Heap → Prop) (Q : Exit → Tm → Heap → Prop) : Exit → Tm → Heap → Prop
  | .normal, t, h => N t h
  | e, t, h => Q e t h

def blkK (id : Nat) (Q : Exit → Tm → Heap → Prop) : Exit → Tm → Heap → Prop
  | .exit id', t, h => match Nat.beq id' id with | true => Q .normal t h | false => Q (.exit id') t h
  | e, t, h => Q e t h

def scoK (Q : Exit → Tm → Heap → Prop) : Exit → Tm → Heap → Prop
  | .goto _, _, _ => False
  | e, t, h => Q e t h

/-- A loop over what lives: an invariant that bears a number, which each round lowers. -/
def LoopS {S : Type} (B : (S → Heap → Prop) → S → Heap → Prop) (s : S) (h : Heap) : Prop :=
  ∃ inv : Nat → S → Heap → Prop, (∃ n, inv n s h) ∧ ∀ n s h, inv n s h → B (fun s' h' => ∃ m, m < n ∧ inv m s' h') s h

def I (P : Program) (n : Nat) (tb : Tab) : Code → (Exit → Tm → Heap → Prop) → Tm → Heap → Prop
  | .skip, Q, t, h => Q .normal t h
  | .label _, Q, t, h => Q .normal t h
  | .region id ops draw, Q, t, h => match draw with
    | false => seqI P n ops.toList ops.toList (Q .normal) t h
    | true => schI P n ops.toList (tb.sch id) [] (Q .normal) t h
  | .seq a b, Q, t, h => match tb.jn (key b) with
    | none => I P n tb a (seqK (I P n tb b Q) Q) t h
    | some L => ∃ J : TL L → Heap → Prop, (∀ s h, J s h → I P n tb b Q (embL L s) h) ∧ I P n tb a (seqK (fun t h => rdL L t fun s => J s h) Q) t h
  | .cond c x y, Q, t, h => match tvO t c with
    | .known true => I P n tb x Q t h
    | .known false => I P n tb y Q t h
    | .val (.bool b) =>
      (b = true → I P n tb x Q (match c with | .tmp i => upd t i (.known true) | _ => t) h) ∧
      (b = false → I P n tb y Q (match c with | .tmp i => upd t i (.known false) | _ => t) h)
    | _ => False
  | .block id c, Q, t, h => I P n tb c (blkK id Q) t h
  | .loop body, Q, t, h => rdL (tb.lp (key body)) t fun s =>
      LoopS (fun K s h => I P n tb body (seqK (fun t' h' => rdL (tb.lp (key body)) t' fun s' => K s' h') Q) (embL (tb.lp (key body)) s) h) s h
  | .exit id, Q, t, h => Q (.exit id) t h
  | .scope c, Q, t, h => I P n tb c (scoK Q) t h
  | .ret, Q, t, h => Q .ret t h
  | _, _, _, _ => False

def codeOk (P : Program) (tb : Tab) : Code → Bool
  | .region id ops draw => plainOps ops.toList && (!draw || schOk P ops (tb.sch id) 0 [])
  | .seq a b => codeOk P tb a && codeOk P tb b
  | .cond _ x y => codeOk P tb x && codeOk P tb y
  | .block _ c => codeOk P tb c
  | .loop c => codeOk P tb c
  | .scope c => codeOk P tb c
  | _ => true

theorem Post.mono {n : Nat} {d0 : List Deferred} {w0 w1 : World} {QI QI' : Exit → Tm → Heap → Prop} (hf : Fr w0 w1) (hq : ∀ e t h, QI e t h → QI' e t h) (e : Exit) (a : Act) (w : World)
    (h : Post n d0 w1 QI e a w) : Post n d0 w0 QI' e a w := by
  obtain ⟨h1, t, r, f, d, q⟩ := h
  exact ⟨h1, t, r, hf.trans f, d, hq _ _ _ q⟩

theorem I_sound {P : Program} {n : Nat} {tb : Tab} (hm : P.follows .mixedOrders = true) : ∀ (c : Code), codeOk P tb c = true → ∀ (QI : Exit → Tm → Heap → Prop) (t : Tm) (a : Act) (w : World),
    Rel n t a → I P n tb c QI t w.heap → c.wp P (Post n a.defers w QI) a w := by
  intro c
  induction c with
  | skip => intro _ QI t a w r H; exact wp_skip ⟨trivial, t, r, Fr.refl w, rfl, H⟩
  | label l => intro _ QI t a w r H; exact wp_label ⟨trivial, t, r, Fr.refl w, rfl, H⟩
  | goto l => intro _ QI t a w r H; exact H.elim
  | rangeFunc => intro _ QI t a w r H; exact H.elim
  | refuse why => intro _ QI t a w r H; exact H.elim
  | exit id => intro _ QI t a w r H; exact wp_exit ⟨trivial, t, r, Fr.refl w, rfl, H⟩
  | ret => intro _ QI t a w r H; exact wp_ret ⟨trivial, t, r, Fr.refl w, rfl, H⟩
  | region id ops draw =>
    intro hok QI t a w r H
    simp only [codeOk, Bool.and_eq_true] at hok
    cases draw with
    | false => exact region_sound hok.1 r H
    | true => exact region_draw_sound hm hok.1 (by simpa using hok.2) r H
  | seq x y ihx ihy =>
    intro hok QI t a w r H
    simp only [codeOk, Bool.and_eq_true] at hok
    simp only [I] at H
    have fin : ∀ N : Tm → Heap → Prop, (∀ t a' w', Rel n t a' → Fr w w' → a'.defers = a.defers → N t w'.heap → y.wp P (Post n a.defers w QI) a' w') → I P n tb x (seqK N QI) t w.heap →
        (Code.seq x y).wp P (Post n a.defers w QI) a w := by
      intro N hN H
      refine wp_seq (wp_mono (ihx hok.1 _ t a w r H) fun e a' w' hp => ?_)
      obtain ⟨h1, t', r', f', d', q⟩ := hp
      cases e with
      | normal => exact hN t' a' w' r' f' d' q
      | exit id => exact ⟨h1, t', r', f', d', q⟩
      | goto l => exact ⟨h1, t', r', f', d', q⟩
      | ret => exact ⟨h1, t', r', f', d', q⟩
      | panic ch => exact h1.elim
      | outgrown => exact h1.elim
    split at H
    · exact fin _ (fun t' a' w' r' f' d' q => wp_mono (ihy hok.2 QI t' a' w' r' q) fun e a2 w2 h2 => Post.mono f' (fun _ _ _ x => x) e a2 w2 (d' ▸ h2)) H
    · rename_i L hL
      obtain ⟨J, hJ, H⟩ := H
      refine fin _ (fun t' a' w' r' f' d' q => ?_) H
      obtain ⟨s, hs, he⟩ := rdL_emb L t' _ q
      exact wp_mono (ihy hok.2 QI _ a' w' (r'.emb he) (hJ s _ hs)) fun e a2 w2 h2 => Post.mono f' (fun _ _ _ x => x) e a2 w2 (d' ▸ h2)
  | cond c x y ihx ihy =>
    intro hok QI t a w r H
    simp only [codeOk, Bool.and_eq_true] at hok
    simp only [I] at H
    have hne : ∀ v, tvO t c = v → v ≠ .bot → (tvO t c).v = a.eval c := fun v hv hb => r.ev (by
      cases c with
      | tmp i => simp only [okO]; simp only [tvO] at hv; cases h : t i <;> simp_all
      | _ => rfl)
    split at H
    · rename_i hc
      exact wp_cond_true (by rw [← hne _ hc (by simp), hc]; rfl) (ihx hok.1 QI t a w r H)
    · rename_i hc
      exact wp_cond_false (by rw [← hne _ hc (by simp), hc]; rfl) (ihy hok.2 QI t a w r H)
    · rename_i b hc
      have hev : a.eval c = .bool b := by rw [← hne _ hc (by simp), hc]; rfl
      refine wp_cond_split hev (fun hb => ?_) (fun hb => ?_)
      · have := H.1 hb
        cases c with
        | tmp i => subst hb; exact ihx hok.1 QI _ a w (r.known i true hc) this
        | const v => exact ihx hok.1 QI _ a w r this
        | global g => exact ihx hok.1 QI _ a w r this
        | func f => exact ihx hok.1 QI _ a w r this
      · have := H.2 hb
        cases c with
        | tmp i => subst hb; exact ihy hok.2 QI _ a w (r.known i false hc) this
        | const v => exact ihy hok.2 QI _ a w r this
        | global g => exact ihy hok.2 QI _ a w r this
        | func f => exact ihy hok.2 QI _ a w r this
    · exact H.elim
  | block id c ih =>
    intro hok QI t a w r H
    simp only [codeOk] at hok
    refine wp_block (wp_mono (ih hok _ t a w r H) fun e a' w' hp => ?_)
    obtain ⟨h1, t', r', f', d', q⟩ := hp
    cases e with
    | exit id' =>
      simp only [Exit.inBlock]
      simp only [blkK] at q
      by_cases hid : id' = id
      · subst hid
        simp only [Nat.beq_refl] at q
        rw [if_pos rfl]; exact ⟨trivial, t', r', f', d', q⟩
      · have : Nat.beq id' id = false := by
          cases hb : Nat.beq id' id with
          | false => rfl
          | true => exact absurd (Nat.eq_of_beq_eq_true hb) hid
        simp only [this] at q
        rw [if_neg hid]; exact ⟨trivial, t', r', f', d', q⟩
    | normal => exact ⟨h1, t', r', f', d', q⟩
    | goto l => exact ⟨h1, t', r', f', d', q⟩
    | ret => exact ⟨h1, t', r', f', d', q⟩
    | panic ch => exact h1.elim
    | outgrown => exact h1.elim
  | scope c ih =>
    intro hok QI t a w r H
    simp only [codeOk] at hok
    refine wp_scope_straight (wp_mono (ih hok _ t a w r H) fun e a' w' hp => ?_)
    obtain ⟨h1, t', r', f', d', q⟩ := hp
    cases e with
    | goto l => exact q.elim
    | exit id => exact ⟨h1, t', r', f', d', q⟩
    | normal => exact ⟨h1, t', r', f', d', q⟩
    | ret => exact ⟨h1, t', r', f', d', q⟩
    | panic ch => exact h1.elim
    | outgrown => exact h1.elim
  | loop body ih =>
    intro hok QI t a w r H
    simp only [codeOk] at hok
    simp only [I] at H
    obtain ⟨s, ⟨inv, ⟨m, hm0⟩, hround⟩, he⟩ := rdL_emb _ t _ H
    refine wp_loop_ghost (fun m a' w' => ∃ s, inv m s w'.heap ∧ Rel n (embL (tb.lp (key body)) s) a' ∧ Fr w w' ∧ a'.defers = a.defers) m ⟨s, hm0, r.emb he, Fr.refl w, rfl⟩ ?_
    rintro m a' w' ⟨s, hs, r', f', d'⟩
    refine wp_mono (ih hok _ _ a' w' r' (hround m s _ hs)) fun e a2 w2 hp => ?_
    obtain ⟨h1, t2, r2, f2, d2, q⟩ := hp
    cases e with
    | normal =>
      obtain ⟨s2, ⟨m2, hlt, hi⟩, he2⟩ := rdL_emb _ t2 _ q
      exact ⟨m2, hlt, s2, hi, r2.emb he2, f'.trans f2, by rw [d2, d']⟩
    | exit id => exact ⟨h1, t2, r2, f'.trans f2, by rw [d2, d'], q⟩
    | goto l => exact ⟨h1, t2, r2, f'.trans f2, by rw [d2, d'], q⟩
    | ret => exact ⟨h1, t2, r2, f'.trans f2, by rw [d2, d'], q⟩
    | panic ch => exact h1.elim
    | outgrown => exact h1.elim

/-! ### functions -/

def nthV : List Value → Nat → Tv
  | [], _ => .bot
  | x :: _, 0 => .val x
  | _ :: xs, n + 1 => nthV xs n

def argT (args : List Value) : Tm := fun i => nthV args i

theorem nthV_eq : ∀ (l : List Value) (i : Nat), nthV l i = .bot ∨ (∃ v, l[i]? = some v ∧ nthV l i = .val v)
  | [], _ => .inl rfl
  | x :: _, 0 => .inr ⟨x, rfl, rfl⟩
  | _ :: xs, n + 1 => by simpa [nthV] using nthV_eq xs n

def resI (P : Program) : List ResultVar → Tm → Heap → (List Value → Prop) → Prop
  | [], _, _, K => K []
  | .tmp i :: r, t, h, K => rdT t i fun v => resI P r t h fun vs => K (v :: vs)
  | .cell a ty :: r, t, h, K => match t a with
    | .val (.pointer (some ad)) => loadI P ty h ad fun v => resI P r t h fun vs => K (v :: vs)
    | _ => False

def tupV : List Value → Value
  | [v] => v
  | vs => .tuple vs.toArray

def retK (P : Program) (rs : List ResultVar) (Q : Value → Heap → Prop) : Exit → Tm → Heap → Prop
  | .normal, t, h => resI P rs t h fun vs => Q (tupV vs) h
  | .ret, t, h => resI P rs t h fun vs => Q (tupV vs) h
  | _, _, _ => False

def fnI (P : Program) (fn : Func) (tb : Tab) (args : List Value) (h : Heap) (Q : Value → Heap → Prop) : Prop :=
  match fn.body, Nat.ble args.length fn.ntmps with
  | some c, true => I P fn.ntmps tb c (retK P fn.results.toList Q) (argT args) h
  | _, _ => False

def fnOk (P : Program) (fn : Func) (tb : Tab) : Bool :=
  match fn.body with
  | some c => codeOk P tb c
  | none => false

def resF (a : Act) : ResultVar → Sem Value
  | .tmp t => pure (a.tmps.getD t undef)
  | .cell x ty => do loadVar ty (← asAddr (a.tmps.getD x undef))

theorem resI_run {P : Program} {n : Nat} : ∀ {rs : List ResultVar} {t : Tm} {a : Act} {w : World} {K : List Value → Prop}, Rel n t a → resI P rs t w.heap K →
    ∃ vs, K vs ∧ (rs.mapM (resF a)).run P w = .ok vs w
  | [], t, a, w, K, r, H => ⟨[], H, rfl⟩
  | .tmp i :: rs, t, a, w, K, r, H => by
    simp only [resI, rdT] at H
    have key : ∀ v, t i ≠ .bot → (t i).v = v → (resI P rs t w.heap fun vs => K (v :: vs)) → ∃ vs, K vs ∧ ((ResultVar.tmp i :: rs).mapM (resF a)).run P w = .ok vs w := by
      intro v hb hv h
      obtain ⟨vs, hk, hr⟩ := resI_run r h
      refine ⟨v :: vs, hk, ?_⟩
      have : a.tmps.getD i undef = v := by
        rcases r.at_ i with h' | h'
        · exact absurd h' hb
        · rw [← h', hv]
      rw [List.mapM_cons, run_bind]
      have e : (resF a (.tmp i)).run P w = .ok v w := by simp only [resF, this]; rfl
      rw [e]
      simp only
      rw [run_bind, hr]; rfl
    split at H
    · exact H.elim
    · rename_i b hb; exact key _ (by rw [hb]; simp) (by rw [hb]; rfl) H
    · rename_i v hb; exact key _ (by rw [hb]; simp) (by rw [hb]; rfl) H
  | .cell x ty :: rs, t, a, w, K, r, H => by
    simp only [resI] at H
    split at H
    · rename_i ad hx
      obtain ⟨v, h, hl⟩ := loadI_run H
      obtain ⟨vs, hk, hr⟩ := resI_run r h
      refine ⟨v :: vs, hk, ?_⟩
      have : a.tmps.getD x undef = .pointer (some ad) := by
        rcases r.at_ x with h' | h'
        · rw [hx] at h'; cases h'
        · rw [← h', hx]; rfl
      rw [List.mapM_cons, run_bind]
      have e : (resF a (.cell x ty)).run P w = .ok v w := by
        simp only [resF, this, run_bind]
        have : (asAddr (.pointer (some ad))).run P w = .ok ad w := rfl
        rw [this]
        exact hl w (Keeps.refl _)
      rw [e]
      simp only
      rw [run_bind, hr]; rfl
    · exact H.elim

theorem results_of {P : Program} {n : Nat} {fn : Func} {t : Tm} {a : Act} {w : World} {Q : Value → Heap → Prop} (r : Rel n t a)
    (H : resI P fn.results.toList t w.heap fun vs => Q (tupV vs) w.heap) : ∃ v, (results fn a.tmps).run P w = .ok v w ∧ Q v w.heap := by
  obtain ⟨vs, hk, hr⟩ := resI_run r H
  refine ⟨tupV vs, ?_, hk⟩
  have hg : (fun x : ResultVar => match x with | .tmp t => pure (a.tmps.getD t undef) | .cell x ty => do loadVar ty (← asAddr (a.tmps.getD x undef)) : ResultVar → Sem Value) = resF a := by
    funext x; cases x <;> rfl
  have e : (fn.results.mapM (resF a)).run P w = .ok vs.toArray w := by
    rw [Array.mapM_eq_mapM_toList, map_eq_pure_bind, run_bind, hr]; rfl
  have e2 : results fn a.tmps = (do let vs ← fn.results.mapM (resF a); pure (if h : vs.size = 1 then vs[0] else .tuple vs)) := by
    rw [← hg]; rfl
  rw [e2, run_bind, e]
  simp only
  rw [run_pure]
  congr 1
  match vs with
  | [] => rfl
  | [v] => rfl
  | v :: u :: r => simp [tupV]

theorem callP_of {P : Program} {f : FuncId} {fn : Func} {tb : Tab} {args : List Value} {h : Heap} {Q : Value → Heap → Prop}
    (hm : P.follows .mixedOrders = true) (hf : P.funcs[f]? = some fn) (hc : ∀ args w, (callFunc f args).run P w = .ok (.enter f args) w)
    (hok : fnOk P fn tb = true) (H : fnI P fn tb args h Q) : callP P f args.toArray h Q := by
  refine ⟨hc _, fun w hw => ?_⟩
  subst hw
  unfold fnI at H
  unfold fnOk at hok
  cases hb : fn.body with
  | none => simp [hb] at H
  | some c =>
    cases hle : Nat.ble args.length fn.ntmps with
    | false => simp [hb, hle] at H
    | true =>
      simp only [hb, hle] at H hok
      have hle := Nat.le_of_ble_eq_true hle
      have rel : Rel fn.ntmps (argT args) { tmps := args.toArray ++ Array.replicate (fn.ntmps - args.toArray.size) undef, defers := [] } := by
        refine ⟨by simp; omega, fun i => ?_⟩
        rcases nthV_eq args i with h | ⟨v, h1, h2⟩
        · exact .inl h
        · right
          have hi : i < args.length := (List.getElem?_eq_some_iff.1 h1).1
          show (nthV args i).v = _
          rw [h2]
          simp [Array.getElem?_append, hi, h1, Tv.v]
          exact (List.getElem?_eq_some_iff.1 h1).2.symm
      refine calls_of_wp hf hb (wp_mono (I_sound hm c hok _ _ _ w rel H) fun e a' w' hp => ?_)
      obtain ⟨h1, t', r', f', d', q⟩ := hp
      cases e with
      | normal => obtain ⟨v, hv, hq⟩ := results_of r' q; exact ⟨d', v, hv, v, rfl, f', hq⟩
      | ret => obtain ⟨v, hv, hq⟩ := results_of r' q; exact ⟨d', v, hv, v, rfl, f', hq⟩
      | exit id => exact q.elim
      | goto l => exact q.elim
      | panic ch => exact h1.elim
      | outgrown => exact h1.elim

end Go.Sh
