/- CModelW CModelE, in one text. -/
import Derived.Test.YtdhpmegbmjoekaaGreatDoorCNode
section
namespace Go.Proofs.YtdhpmegbmjoekaaGreatDoor.G
open Go Go.Sh
set_option linter.unusedVariables false
abbrev wv (b:Nat) (p:Option Addr) (c:Nat) (bs:List UInt8) (bad:Bool):Fact:=wx b (bs.length:Int) p bs.length c [.bool bad]
abbrev wo (p:Option Addr) (c:Nat) (bs:List UInt8):Fact:=own 1 p bs.length c (u8s bs)
section
variable {h:Heap} {T:Nat→Prop} {R:List Fact} {b c:Nat} {p:Option Addr} {bs:List UInt8} {bad:Bool}
theorem wrote_v {h':Heap} {new:List UInt8} (w:Wrote T b (bs.length:Int) bs.length [.bool bad] bs new h h'): ∃p' c',Sep h T h' [wv b p' c' (bs++new) bad,wo p' c' (bs++new)] []:=by
 obtain⟨p',c',S⟩:=w
 have e1:(bs.length:Int)+(new.length:Int)=((bs++new).length:Int):=by simp
 have e2:bs.length+new.length=(bs++new).length:=by simp
 rw[e1,e2] at S
 exact⟨p',c',S⟩
theorem Byte_B (x:Int) (S:Sep h T h [wv b p c bs bad,wo p c bs] []) (hl:bs.length<2 ^ 40):callP P n_tape_Writer_Byte #[.pointer (some ⟨b,0,none⟩),.int .i64 x] h fun v h'=>v= .tuple #[]∧ ∃p' c',Sep h T h' [wv b p' c' (bs++byt x) bad,wo p' c' (bs++byt x)] []:=
 (Byte_W x S hl (by omega)).mono fun v h' ⟨hv,w⟩=>⟨hv,wrote_v w⟩
theorem Short_B (x:Int) (S:Sep h T h [wv b p c bs bad,wo p c bs] []) (hl:bs.length<2 ^ 40):callP P n_tape_Writer_Short #[.pointer (some ⟨b,0,none⟩),.int .i64 x] h fun v h'=>v= .tuple #[]∧ ∃p' c',Sep h T h' [wv b p' c' (bs++low (IntKind.wrap .u64 x) 2) bad,wo p' c' (bs++low (IntKind.wrap .u64 x) 2)] []:=
 (Short_W x S hl (by omega)).mono fun v h' ⟨hv,w⟩=>⟨hv,wrote_v w⟩
theorem Word_B (x:Int) (S:Sep h T h [wv b p c bs bad,wo p c bs] []) (hl:bs.length<2 ^ 40):callP P n_tape_Writer_Word #[.pointer (some ⟨b,0,none⟩),.int .i64 x] h fun v h'=>v= .tuple #[]∧ ∃p' c',Sep h T h' [wv b p' c' (bs++low (IntKind.wrap .u64 x) 4) bad,wo p' c' (bs++low (IntKind.wrap .u64 x) 4)] []:=
 (Word_W x S hl (by omega)).mono fun v h' ⟨hv,w⟩=>⟨hv,wrote_v w⟩
theorem Row_B {q:Option Addr} {k d:Nat} {xs:List Int} (S:Sep h T h [wv b p c bs bad,wo p c bs] [row q (ints xs)]) (hxs:xs.length=k) (hl:bs.length<2 ^ 39) (hk:k≤2 ^ 20):
 callP P n_tape_Writer_Row #[.pointer (some ⟨b,0,none⟩),.slice q k d] h fun v h'=>v= .tuple #[]∧ ∃p' c',Sep h T h' [wv b p' c' (bs++rowB xs) bad,wo p' c' (bs++rowB xs)] []:=
 (Row_W S hxs hl (by omega)).mono fun v h' ⟨hv,w⟩=>⟨hv,wrote_v w⟩
theorem fits_S {n:Int} {l:Nat} (S:Sep h T h [wx b n p l c [.bool bad]] R) (ix:Nat) {q:Option Addr} {k d:Nat} {xs:List Int} (ex:R[ix]? =some (row q (ints xs))) (hk:xs.length=k) (hk2:k<2 ^ 62) (lo hi:Int):
 callP P n_model_writer_fits #[.pointer (some ⟨b,0,none⟩),.int .i64 lo,.int .i64 hi,.slice q k d] h fun v h'=>v= .tuple #[]∧Sep h T h' [wx b n p l c [.bool (bad|| !decide (fitR lo hi xs))]] R:=by
 refine call_model_writer_fits _ _ _ _ _ _ ?_
 unfold model_writer_fits
 refine LoopS_i (fun m s g=> ∃i:Nat,s=(some ⟨b,0,none⟩,lo,hi,(q,k,d),(k:Int),(i:Int),())∧i≤k∧m=k-i∧Sep h T g [wx b n p l c [.bool (bad|| !decide (fitR lo hi (xs.take i)))]] R) k
  ⟨0,rfl,by omega,rfl,by simpa[fitR_nil] using S⟩ ?_
 rintro m s g ⟨i,rfl,hi',rfl,S⟩
 unfold model_writer_fits_l1
 dsimp only
 refine ifB_dec (fun hlt=> ?_) (fun hge=> ?_)
 ·have hix:i<xs.length:=by omega
  have hx:=S.row ix ex
  obtain⟨aa,rfl⟩:=hx.some_of (by rw[ints_length];omega)
  refine idxI_i rfl rfl (by omega) ?_
  simp only[Int.toNat_natCast,Nat.mul_one]
  refine ldInt_i (hx.cell (ints_get (List.getElem?_eq_getElem hix))) ?_
  rw[wrap64_in (by omega)]
  have key: ∀g' v,v=(bad|| !decide (fitR lo hi (xs.take (i+1))))→Sep h T g' [wx b n p l c [.bool v]] R→ ∃m,m<k-i∧ ∃i':Nat,((some (⟨b,0,none⟩:Addr),lo,hi,(some aa,k,d),(k:Int),(i:Int)+1,()):Option Addr×Int×Int×(Option Addr×Nat×Nat)×Int×Int×Unit)=(some ⟨b,0,none⟩,lo,hi,(some aa,k,d),(k:Int),(i':Int),())∧i'≤k∧m=k-i'∧Sep h T g' [wx b n p l c [.bool (bad|| !decide (fitR lo hi (xs.take i')))]] R:=
   fun g' v hv S=>⟨k-(i+1),by omega,i+1,rfl,by omega,rfl,by rw[←hv];exact S⟩
  have hs:=fitR_take_succ (lo:=lo) (hi:=hi) hix
  (repeat (first|with_reducible refine nilI_some ?_|((with_reducible refine ldBool_id ?_);refine ldBool_i (S.cell 0 rfl rfl) ?_)))
  refine ifB_i (fun e=> ?_) (fun e=> ?_)
  ·(repeat (first|with_reducible refine nilI_some ?_|((with_reducible refine stI_id ?_);refine stI_S S 0 rfl (Nat.le_of_ble_eq_true rfl) (fun _ _ S=> ?_);try dsimp only[List.set,List.cons_append,List.nil_append] at S)))
   refine key _ true ?_ S
   rcases Bool.or_eq_true _ _▸e with e|e
   ·rw[e];rfl
   ·rw[Bool.not_eq_true',decide_eq_false_iff_not] at e
    rw[decide_eq_false (fun h=>e (hs.1 h).1)];simp
  ·rw[Bool.or_eq_false_iff] at e
   have e2:fitR lo hi (xs.take i):=by have:=e.2;simpa using this
   refine ifB_dec (fun h1=> ?_) (fun h1=> ?_)
   ·(repeat (first|with_reducible refine nilI_some ?_|((with_reducible refine stI_id ?_);refine stI_S S 0 rfl (Nat.le_of_ble_eq_true rfl) (fun _ _ S=> ?_);try dsimp only[List.set,List.cons_append,List.nil_append] at S)))
    refine key _ true ?_ S
    rw[decide_eq_false (fun h=>by have:=(hs.1 h).2;omega)];simp
   ·(repeat (first|with_reducible refine nilI_some ?_|((with_reducible refine stI_id ?_);refine stI_S S 0 rfl (Nat.le_of_ble_eq_true rfl) (fun _ _ S=> ?_);try dsimp only[List.set,List.cons_append,List.nil_append] at S)))
    refine key _ _ ?_ S
    rw[e.1,Bool.false_or,←decide_not,decide_eq_decide,hs]
    constructor
    ·rintro h3 ⟨_,h4⟩;omega
    ·intro h3;apply Decidable.byContradiction;intro h4;exact h3 ⟨e2,by omega⟩
 ·have:i=k:=by omega
  subst this
  rw[List.take_of_length_le (by omega)] at S
  exact⟨by trivial,S⟩
theorem small_S (S:Sep h T h [wv b p c bs bad,wo p c bs] R) (ix:Nat) {q:Option Addr} {k d:Nat} {xs:List Int} (ex:R[ix]? =some (row q (ints xs))) (hk:xs.length=k) (hl:bs.length+k<2 ^ 40):
 callP P n_model_writer_small #[.pointer (some ⟨b,0,none⟩),.slice q k d] h fun v h'=>v= .tuple #[]∧ ∃p' c',Sep h T h' [wv b p' c' (bs++bytS xs) (bad|| !decide (fitR 0 255 xs)),wo p' c' (bs++bytS xs)] R:=by
 refine call_model_writer_small _ _ _ _ ?_
 unfold model_writer_small
 have P0:=S.into [0] [] [ix]
 have e0:Sh.pick R [ix]=[row q (ints xs)]:=by simp only[Sh.pick,ex]
 rw[e0] at P0
 refine(fits_S P0 0 rfl hk (by omega) 0 255).mono ?_
 rintro _ _ ⟨rfl,S1⟩
 refine⟨rfl,?_⟩
 replace S:=S.back [0] S1
 try dsimp only[merge,List.set,List.cons_append,List.nil_append] at S
 generalize (bad|| !decide (fitR 0 255 xs))=bd at S
 refine LoopS_i (fun m s g=> ∃(i:Nat) (p':Option Addr) (c':Nat),s=(some ⟨b,0,none⟩,(q,k,d),(k:Int),(i:Int),())∧i≤k∧m=k-i∧Sep h T g [wv b p' c' (bs++bytS (xs.take i)) bd,wo p' c' (bs++bytS (xs.take i))] R) k
  ⟨0,p,c,rfl,by omega,rfl,by simpa[bytS] using S⟩ ?_
 rintro m s g ⟨i,p',c',rfl,hi',rfl,S⟩
 unfold model_writer_small_l2
 dsimp only
 refine ifB_dec (fun hlt=> ?_) (fun hge=> ?_)
 ·have hix:i<xs.length:=by omega
  have hx:=S.row ix ex
  obtain⟨aa,rfl⟩:=hx.some_of (by rw[ints_length];omega)
  refine idxI_i rfl rfl (by omega) ?_
  simp only[Int.toNat_natCast,Nat.mul_one]
  refine ldInt_i (hx.cell (ints_get (List.getElem?_eq_getElem hix))) (nilI_some ?_)
  refine(Byte_B xs[i] (S.into [0,1] [] []) (by rw[List.length_append,bytS_length,List.length_take];omega)).mono ?_
  rintro _ _ ⟨rfl,p2,c2,S1⟩
  refine⟨rfl,?_⟩
  replace S:=S.back [0,1] S1
  try dsimp only[merge,List.set,List.cons_append,List.nil_append] at S
  rw[List.append_assoc,←bytS_snoc hix] at S
  rw[wrap64_in (by omega)]
  exact⟨k-(i+1),by omega,i+1,p2,c2,rfl,by omega,rfl,S⟩
 ·have:i=k:=by omega
  subst this
  rw[List.take_of_length_le (by omega)] at S
  exact⟨by trivial,p',c',S⟩
theorem words_S (S:Sep h T h [wv b p c bs bad,wo p c bs] R) (ix:Nat) {q:Option Addr} {k d:Nat} {xs:List Int} (ex:R[ix]? =some (row q (ints xs))) (hk:xs.length=k) (hl:bs.length+4*k<2 ^ 40):
 callP P n_model_writer_words #[.pointer (some ⟨b,0,none⟩),.slice q k d] h fun v h'=>v= .tuple #[]∧ ∃p' c',Sep h T h' [wv b p' c' (bs++words xs) (bad|| !decide (fitR lo32 hi32 xs)),wo p' c' (bs++words xs)] R:=by
 refine call_model_writer_words _ _ _ _ ?_
 unfold model_writer_words
 have P0:=S.into [0] [] [ix]
 have e0:Sh.pick R [ix]=[row q (ints xs)]:=by simp only[Sh.pick,ex]
 rw[e0] at P0
 refine(fits_S P0 0 rfl hk (by omega) lo32 hi32).mono ?_
 rintro _ _ ⟨rfl,S1⟩
 refine⟨rfl,?_⟩
 replace S:=S.back [0] S1
 try dsimp only[merge,List.set,List.cons_append,List.nil_append] at S
 generalize (bad|| !decide (fitR lo32 hi32 xs))=bd at S
 refine LoopS_i (fun m s g=> ∃(i:Nat) (p':Option Addr) (c':Nat),s=(some ⟨b,0,none⟩,(q,k,d),(k:Int),(i:Int),())∧i≤k∧m=k-i∧Sep h T g [wv b p' c' (bs++words (xs.take i)) bd,wo p' c' (bs++words (xs.take i))] R) k
  ⟨0,p,c,rfl,by omega,rfl,by simpa[words] using S⟩ ?_
 rintro m s g ⟨i,p',c',rfl,hi',rfl,S⟩
 unfold model_writer_words_l2
 dsimp only
 refine ifB_dec (fun hlt=> ?_) (fun hge=> ?_)
 ·have hix:i<xs.length:=by omega
  have hx:=S.row ix ex
  obtain⟨aa,rfl⟩:=hx.some_of (by rw[ints_length];omega)
  refine idxI_i rfl rfl (by omega) ?_
  simp only[Int.toNat_natCast,Nat.mul_one]
  refine ldInt_i (hx.cell (ints_get (List.getElem?_eq_getElem hix))) (nilI_some ?_)
  refine(Word_B xs[i] (S.into [0,1] [] []) (by rw[List.length_append,words_length,List.length_take];omega)).mono ?_
  rintro _ _ ⟨rfl,p2,c2,S1⟩
  refine⟨rfl,?_⟩
  replace S:=S.back [0,1] S1
  try dsimp only[merge,List.set,List.cons_append,List.nil_append] at S
  rw[List.append_assoc,←words_snoc hix] at S
  rw[wrap64_in (by omega)]
  exact⟨k-(i+1),by omega,i+1,p2,c2,rfl,by omega,rfl,S⟩
 ·have:i=k:=by omega
  subst this
  rw[List.take_of_length_le (by omega)] at S
  exact⟨by trivial,p',c',S⟩
def rowsB (ss:List Sl):List UInt8:=ss.flatMap fun s=>rowB s.xs
def rowsF (ss:List Sl):Prop:= ∀s∈ss,s.xs.length≤65535∧fitR lo32 hi32 s.xs
instance (ss:List Sl):Decidable (rowsF ss):=by unfold rowsF;infer_instance
end
end Go.Proofs.YtdhpmegbmjoekaaGreatDoor.G
end
section
namespace Go.Proofs.YtdhpmegbmjoekaaGreatDoor.G
open Go Go.Sh
set_option linter.unusedVariables false
set_option linter.unusedSimpArgs false
theorem orb (b:Bool) (p q:Prop) [Decidable p] [Decidable q]:((b|| !decide p)|| !decide q)=(b|| !decide (p∧q)):=by
 cases b<;>by_cases hp:p<;>by_cases hq:q<;>simp[hp,hq]
theorem rowsB_snoc {ss:List Sl} {i:Nat} (hi:i<ss.length):rowsB (ss.take (i+1))=rowsB (ss.take i)++rowB ss[i].xs:=by
 rw[List.take_succ_eq_append_getElem hi];unfold rowsB
 rw[List.flatMap_append];simp only[List.flatMap_cons,List.flatMap_nil,List.append_nil]
theorem rowsF_snoc {ss:List Sl} {i:Nat} (hi:i<ss.length):rowsF (ss.take (i+1))↔rowsF (ss.take i)∧(ss[i].xs.length≤65535∧fitR lo32 hi32 ss[i].xs):=by
 rw[List.take_succ_eq_append_getElem hi]
 unfold rowsF
 constructor
 ·intro h;exact⟨fun x hx=>h x (List.mem_append_left _ hx),h _ (List.mem_append_right _ (by simp))⟩
 ·rintro⟨h1,h2⟩ x hx
  rcases List.mem_append.1 hx with hx|hx
  ·exact h1 x hx
  ·simp only[List.mem_singleton] at hx;subst hx;exact h2
theorem rowsB_length: ∀(ss:List Sl),(∀s∈ss,s.xs.length≤2 ^ 20)→(rowsB ss).length≤ss.length*2 ^ 23
 |[],_=>by simp[rowsB]
 |s::r,h=>by
  have h1:=rowsB_length r fun x hx=>h x (by simp[hx])
  have h2:=rowB_length s.xs
  have h3:=h s (by simp)
  unfold rowsB at h1 ⊢
  simp only[List.flatMap_cons,List.length_append,List.length_cons,Nat.add_mul]
  omega
section
variable {h:Heap} {T:Nat→Prop} {R:List Fact} {b c:Nat} {p:Option Addr} {bs:List UInt8} {bad:Bool}
theorem rows_S (S:Sep h T h [wv b p c bs bad,wo p c bs] R) (iq ir:Nat) {q:Option Addr} {k d:Nat} {ss:List Sl} (eq_:R[iq]? =some (row q (ss.map Sl.v))) (er:R[ir]? =some (reads (ss.map Sl.row))) (hk:ss.length=k) (hk2:k≤8)
 (hs: ∀s∈ss,s.ok∧s.xs.length≤2 ^ 20) (hl:bs.length<2 ^ 38):
 callP P n_model_writer_rows #[.pointer (some ⟨b,0,none⟩),.slice q k d] h fun v h'=>v= .tuple #[]∧ ∃p' c',Sep h T h' [wv b p' c' (bs++rowsB ss) (bad|| !decide (rowsF ss)),wo p' c' (bs++rowsB ss)] R:=by
 refine call_model_writer_rows _ _ _ _ ?_
 unfold model_writer_rows
 refine LoopS_i (fun m s g=> ∃(i:Nat) (p':Option Addr) (c':Nat),s=(some ⟨b,0,none⟩,(q,k,d),(k:Int),(i:Int),())∧i≤k∧m=k-i∧Sep h T g [wv b p' c' (bs++rowsB (ss.take i)) (bad|| !decide (rowsF (ss.take i))),wo p' c' (bs++rowsB (ss.take i))] R) k
  ⟨0,p,c,rfl,by omega,rfl,by simpa[rowsB,rowsF] using S⟩ ?_
 rintro m s g ⟨i,p',c',rfl,hi',rfl,S⟩
 unfold model_writer_rows_l1
 dsimp only
 refine ifB_dec (fun hlt=> ?_) (fun hge=> ?_)
 ·have hix:i<ss.length:=by omega
  have hx:=S.row iq eq_
  obtain⟨aa,rfl⟩:=hx.some_of (by simp;omega)
  have hmem:ss[i]∈ss:=List.getElem_mem hix
  obtain⟨⟨hok1,hok2⟩,hsh⟩:=hs _ hmem
  have hlen:=rowsB_length (ss.take i) fun s h=>(hs s (List.mem_of_mem_take h)).2
  rw[List.length_take] at hlen
  have hb8:min i ss.length*2 ^ 23≤8*2 ^ 23:=Nat.mul_le_mul_right _ (by omega)
  have hb9:(bs++rowsB (ss.take i)).length<2 ^ 39:=by rw[List.length_append];omega
  refine idxI_i rfl rfl (by omega) ?_
  simp only[Int.toNat_natCast,Nat.mul_one]
  refine ldSlice_i (hx.cell (by rw[List.getElem?_map,List.getElem?_eq_getElem hix];rfl)) ?_
  refine newI_S S (fun b4 _ _ S=> ?_)
  dsimp only[List.cons_append,List.nil_append] at S
  refine(fits_S ((S.into [0] [2] []).rowB 0) 0 (xs:=[((ss[i].l:Nat):Int)]) rfl (k:=1) rfl (by decide) 0 65535).mono ?_
  rintro _ _ ⟨rfl,S1⟩
  refine⟨rfl,?_⟩
  replace S:=S.back [0] S1
  try dsimp only[merge,List.set,List.cons_append,List.nil_append] at S
  have P0:=S.into [0] [] [ir]
  have e0:Sh.pick R [ir]=[reads (ss.map Sl.row)]:=by simp only[Sh.pick,er]
  rw[e0] at P0
  have P1:=P0.oneOf 0 (List.mem_map.2 ⟨_,hmem,rfl⟩)
  dsimp only[Sh.pick,List.getElem?_cons_zero,List.nil_append,List.set] at P1
  refine(fits_S P1 0 rfl hok1 (by omega) lo32 hi32).mono ?_
  rintro _ _ ⟨rfl,S1⟩
  refine⟨rfl,?_⟩
  replace S:=S.back [0] S1
  try dsimp only[merge,List.set,List.cons_append,List.nil_append] at S
  refine nilI_some ?_
  have P0:=S.into [0,1] [] [ir]
  rw[e0] at P0
  have P1:=P0.oneOf 0 (List.mem_map.2 ⟨_,hmem,rfl⟩)
  dsimp only[Sh.pick,List.getElem?_cons_zero,List.getElem?_cons_succ,List.nil_append,List.set] at P1
  refine(Row_B P1 hok1 hb9 (by omega)).mono ?_
  rintro _ _ ⟨rfl,p2,c2,S1⟩
  refine⟨rfl,?_⟩
  replace S:=S.back [0,1] S1
  try dsimp only[merge,List.set,List.cons_append,List.nil_append] at S
  rw[wrap64_in (by omega)]
  refine⟨k-(i+1),by omega,i+1,p2,c2,rfl,by omega,rfl,?_⟩
  rw[List.append_assoc,←rowsB_snoc hix,orb,orb] at S
  have e1:decide (rowsF (ss.take i)∧fitR 0 65535 [((ss[i].l:Nat):Int)]∧fitR lo32 hi32 ss[i].xs)=decide (rowsF (ss.take (i+1))):=by
   rw[decide_eq_decide,rowsF_snoc hix,←hok1]
   have:fitR 0 65535 [((ss[i].xs.length:Nat):Int)]↔ss[i].xs.length≤65535:=by unfold fitR;simp;omega
   rw[this]
  rw[e1] at S
  exact S.pw [0,1]
 ·have:i=k:=by omega
  subst this
  rw[List.take_of_length_le (by omega)] at S
  exact⟨by trivial,p',c',S⟩
theorem wnode_S (S:Sep h T h [wv b p c bs bad,wo p c bs] R) (ir:Nat) {nv:Nv} (er:R[ir]? =some nv.rows) (hok:nv.ok) (hs:nv.nd.short) (hl:bs.length<2 ^ 36):
 callP P n_model_writer_node #[.pointer (some ⟨b,0,none⟩),nv.v] h fun v h'=>v= .tuple #[]∧ ∃p' c',Sep h T h' [wv b p' c' (bs++nv.nd.enc) (bad|| !decide nv.nd.fit),wo p' c' (bs++nv.nd.enc)] R:=by
 refine call_model_writer_node _ _ ?_
 unfold model_writer_node
 obtain⟨ok1,ok2,ok3⟩:=hok
 have hi20:nv.inn.xs.length≤2 ^ 20:=hs.1
 have hw20:nv.weights.xs.length≤2 ^ 20:=hs.2.1
 have hb20:nv.bias.xs.length≤2 ^ 20:=hs.2.2
 have el:=ok1.1
 refine newI_S (cs:=nv.cells) S fun b1 h1 _ S=> ?_
 have e0:Sh.pick R [ir]=[nv.rows]:=by simp only[Sh.pick,er]
 dsimp only[List.cons_append,List.nil_append] at S
 (repeat (first|((with_reducible refine ldInt_id ?_);refine ldInt_i (S.cell 2 rfl rfl) ?_)|((with_reducible refine ldSlice_id ?_);refine ldSlice_i (S.cell 2 rfl rfl) ?_)))
 refine newI_S S (fun b5 _ _ S=> ?_)
 dsimp only[List.cons_append,List.nil_append] at S
 refine(small_S ((S.into [0,1] [3] []).rowB 0) 0 (xs:=[nv.kind,((nv.inn.l:Nat):Int)]) rfl (k:=2) rfl (by omega)).mono ?_
 rintro _ _ ⟨rfl,p2,c2,S1⟩
 refine⟨rfl,?_⟩
 replace S:=S.back [0,1] S1
 try dsimp only[merge,List.set,List.cons_append,List.nil_append] at S
 replace S:=S.pw [0,1,2]
 dsimp only[Sh.pick,List.getElem?_cons_zero,List.getElem?_cons_succ] at S
 (repeat (first|((with_reducible refine ldSlice_id ?_);refine ldSlice_i (S.cell 2 rfl rfl) ?_)))
 have P0:=S.into [0,1] [] [ir]
 rw[e0] at P0
 have P1:=P0.oneOf 0 (l:=[nv.inn.row,nv.weights.row,nv.bias.row]) (f:=nv.inn.row) (by simp)
 dsimp only[Sh.pick,List.getElem?_cons_zero,List.getElem?_cons_succ,List.nil_append,List.set] at P1
 refine(small_S P1 0 rfl ok1.1 (by rw[List.length_append,bytS_length,List.length_cons,List.length_cons,List.length_nil];omega)).mono ?_
 rintro _ _ ⟨rfl,p2,c2,S1⟩
 refine⟨rfl,?_⟩
 replace S:=S.back [0,1] S1
 try dsimp only[merge,List.set,List.cons_append,List.nil_append] at S
 (repeat (first|((with_reducible refine ldInt_id ?_);refine ldInt_i (S.cell 2 rfl rfl) ?_)))
 refine newI_S S (fun b16 _ _ S=> ?_)
 dsimp only[List.cons_append,List.nil_append] at S
 refine(small_S ((S.into [0,1] [3] []).rowB 0) 0 (xs:=[nv.width,nv.size,nv.step,nv.gap,nv.left,nv.right]) rfl (k:=6) rfl (by simp only[List.length_append,bytS_length,List.length_cons,List.length_nil];omega)).mono ?_
 rintro _ _ ⟨rfl,p2,c2,S1⟩
 refine⟨rfl,?_⟩
 replace S:=S.back [0,1] S1
 try dsimp only[merge,List.set,List.cons_append,List.nil_append] at S
 replace S:=S.pw [0,1,2]
 dsimp only[Sh.pick,List.getElem?_cons_zero,List.getElem?_cons_succ] at S
 (repeat (first|((with_reducible refine ldSlice_id ?_);refine ldSlice_i (S.cell 2 rfl rfl) ?_)))
 refine newI_S S (fun b21 _ _ S=> ?_)
 dsimp only[List.cons_append,List.nil_append] at S
 have P0:=S.into [0,1] [3] [ir]
 rw[e0] at P0
 have P1:=(P0.rowB 0).view 1 (g:=nv.rows) rfl (reads ([nv.weights,nv.bias].map Sl.row)) (fun H f hf=>H f (by simp at hf ⊢;rcases hf with rfl|rfl<;>simp)) (fun x ⟨f,hf,hx⟩=>⟨f,by simp at hf ⊢;rcases hf with rfl|rfl<;>simp,hx⟩)
 dsimp only[Sh.pick,List.getElem?_cons_zero,List.getElem?_cons_succ,List.nil_append,List.cons_append,List.set] at P1
 refine(rows_S P1 0 1 (ss:=[nv.weights,nv.bias]) rfl rfl (k:=2) rfl (by decide) (by simp;exact⟨⟨ok2,hw20⟩,⟨ok3,hb20⟩⟩) (by simp only[List.length_append,bytS_length,List.length_cons,List.length_nil];omega)).mono ?_
 rintro _ _ ⟨rfl,p2,c2,S1⟩
 refine⟨rfl,?_⟩
 replace S:=S.back [0,1] S1
 try dsimp only[merge,List.set,List.cons_append,List.nil_append] at S
 replace S:=S.pw [0,1,2]
 dsimp only[Sh.pick,List.getElem?_cons_zero,List.getElem?_cons_succ] at S
 have hrl:(rowsB [nv.weights,nv.bias]).length≤2 ^ 24:=by
  have:=rowsB_length [nv.weights,nv.bias] (by simp;exact⟨hw20,hb20⟩)
  simpa using this
 (repeat (first|((with_reducible refine ldInt_id ?_);refine ldInt_i (S.cell 2 rfl rfl) ?_)))
 refine newI_S S (fun b25 _ _ S=> ?_)
 dsimp only[List.cons_append,List.nil_append] at S
 refine(fits_S ((S.into [0] [3] []).rowB 0) 0 (xs:=[nv.mult]) rfl (k:=1) rfl (by decide) 0 65535).mono ?_
 rintro _ _ ⟨rfl,S1⟩
 refine⟨rfl,?_⟩
 replace S:=S.back [0] S1
 try dsimp only[merge,List.set,List.cons_append,List.nil_append] at S
 refine nilI_some ?_
 (repeat (first|((with_reducible refine ldInt_id ?_);refine ldInt_i (S.cell 2 rfl rfl) ?_)))
 refine(Short_B nv.mult (S.into [0,1] [] []) (by simp only[List.length_append,bytS_length,List.length_cons,List.length_nil];omega)).mono ?_
 rintro _ _ ⟨rfl,p2,c2,S1⟩
 refine⟨rfl,?_⟩
 replace S:=S.back [0,1] S1
 try dsimp only[merge,List.set,List.cons_append,List.nil_append] at S
 replace S:=S.pw [0,1,2]
 dsimp only[Sh.pick,List.getElem?_cons_zero,List.getElem?_cons_succ] at S
 (repeat (first|((with_reducible refine ldInt_id ?_);refine ldInt_i (S.cell 2 rfl rfl) ?_)))
 refine newI_S S (fun b32 _ _ S=> ?_)
 dsimp only[List.cons_append,List.nil_append] at S
 refine(small_S ((S.into [0,1] [3] []).rowB 0) 0 (xs:=[nv.shift]) rfl (k:=1) rfl (by simp only[List.length_append,bytS_length,low_length,List.length_cons,List.length_nil];omega)).mono ?_
 rintro _ _ ⟨rfl,p2,c2,S1⟩
 refine⟨rfl,?_⟩
 replace S:=S.back [0,1] S1
 try dsimp only[merge,List.set,List.cons_append,List.nil_append] at S
 replace S:=S.pw [0,1,2]
 dsimp only[Sh.pick,List.getElem?_cons_zero,List.getElem?_cons_succ] at S
 (repeat (first|((with_reducible refine ldInt_id ?_);refine ldInt_i (S.cell 2 rfl rfl) ?_)))
 refine newI_S S (fun b37 _ _ S=> ?_)
 dsimp only[List.cons_append,List.nil_append] at S
 refine(words_S ((S.into [0,1] [3] []).rowB 0) 0 (xs:=[nv.low,nv.high]) rfl (k:=2) rfl (by simp only[List.length_append,bytS_length,low_length,List.length_cons,List.length_nil];omega)).mono ?_
 rintro _ _ ⟨rfl,p2,c2,S1⟩
 refine⟨rfl,?_⟩
 replace S:=S.back [0,1] S1
 try dsimp only[merge,List.set,List.cons_append,List.nil_append] at S
 replace S:=S.pw [0,1,2]
 dsimp only[Sh.pick,List.getElem?_cons_zero,List.getElem?_cons_succ] at S
 (repeat (first|((with_reducible refine ldInt_id ?_);refine ldInt_i (S.cell 2 rfl rfl) ?_)))
 refine newI_S S (fun b41 _ _ S=> ?_)
 dsimp only[List.cons_append,List.nil_append] at S
 refine(small_S ((S.into [0,1] [3] []).rowB 0) 0 (xs:=[nv.post]) rfl (k:=1) rfl (by simp only[List.length_append,bytS_length,low_length,words_length,List.length_cons,List.length_nil];omega)).mono ?_
 rintro _ _ ⟨rfl,p2,c2,S1⟩
 refine⟨rfl,?_⟩
 replace S:=S.back [0,1] S1
 try dsimp only[merge,List.set,List.cons_append,List.nil_append] at S
 replace S:=S.pw [0,1]
 dsimp only[Sh.pick,List.getElem?_cons_zero,List.getElem?_cons_succ] at S
 refine⟨rfl,p2,c2,?_⟩
 simp only[orb] at S
 have e1:bs++nv.nd.enc=bs++bytS [nv.kind,((nv.inn.l:Nat):Int)]++bytS nv.inn.xs++bytS [nv.width,nv.size,nv.step,nv.gap,nv.left,nv.right]++rowsB [nv.weights,nv.bias]++low (IntKind.wrap .u64 nv.mult) 2++bytS [nv.shift]++words [nv.low,nv.high]++bytS [nv.post]:=by
  rw[←el]
  simp only[Nd.enc,Nv.nd,rowsB,List.flatMap_cons,List.flatMap_nil,List.append_nil,List.append_assoc]
 rw[e1]
 have e2:decide nv.nd.fit=decide (((((((fitR 0 255 [nv.kind,((nv.inn.l:Nat):Int)]∧fitR 0 255 nv.inn.xs)∧fitR 0 255 [nv.width,nv.size,nv.step,nv.gap,nv.left,nv.right])∧rowsF [nv.weights,nv.bias])∧fitR 0 65535 [nv.mult])∧fitR 0 255 [nv.shift])∧fitR lo32 hi32 [nv.low,nv.high])∧fitR 0 255 [nv.post]):=by
  rw[decide_eq_decide,←el]
  simp only[Nd.fit,Nv.nd,rowsF,List.forall_mem_cons,List.not_mem_nil,false_implies,implies_true,and_true,and_assoc]
 rw[e2]
 exact S
theorem Encode_S {g:Gv} (hp:Row h g.p (nflat g.ns)) (hr:(nrows g.ns).P h) (hok:g.ok) (hs:g.gr.short):
 callP P n_model_Encode #[g.v] h fun v h'=>v= .tuple #[.string (str g.gr.out2.1),.int .i64 g.gr.out2.2]∧Fra no h h':=by
 refine call_model_Encode _ ?_
 unfold model_Encode
 have S:=((Sep.start h no).read (row g.p (nflat g.ns)) hp).read (nrows g.ns) hr
 dsimp only[List.cons_append,List.nil_append] at S
 obtain⟨gok1,gok2,gok3⟩:=hok
 have hn1000:g.l≤1000:=by have:=hs.1;simp[Gv.gr] at this;omega
 refine newI_S S (fun b1 _ _ S=> ?_)
 refine newI_S S (fun b3 _ _ S=> ?_)
 replace S:=S.nil 1
 dsimp only[List.cons_append,List.nil_append] at S
 (repeat (first|((with_reducible refine ldInt_id ?_);refine ldInt_i (S.cell 0 rfl rfl) ?_)))
 have SS:Sep h no _ [wv b3 none 0 [] false,wo none 0 [],blk b1 [.int .i64 g.width,.int .i64 g.low,.int .i64 g.high,.slice g.p g.l g.c,.int .i64 g.out]] _:=S.pw [1,2,0]
 clear S
 have S:=SS
 clear SS
 refine newI_S S (fun b6 _ _ S=> ?_)
 dsimp only[List.cons_append,List.nil_append] at S
 refine(small_S ((S.into [0,1] [3] []).rowB 0) 0 (xs:=[g.width]) rfl (k:=1) rfl (by decide)).mono ?_
 rintro _ _ ⟨rfl,p2,c2,S1⟩
 refine⟨rfl,?_⟩
 replace S:=S.back [0,1] S1
 try dsimp only[merge,List.set,List.cons_append,List.nil_append] at S
 replace S:=S.pw [0,1,2]
 dsimp only[Sh.pick,List.getElem?_cons_zero,List.getElem?_cons_succ] at S
 (repeat (first|((with_reducible refine ldInt_id ?_);refine ldInt_i (S.cell 2 rfl rfl) ?_)))
 refine newI_S S (fun b11 _ _ S=> ?_)
 dsimp only[List.cons_append,List.nil_append] at S
 refine(words_S ((S.into [0,1] [3] []).rowB 0) 0 (xs:=[g.low,g.high]) rfl (k:=2) rfl (by simp only[List.length_append,bytS_length,List.length_cons,List.length_nil];omega)).mono ?_
 rintro _ _ ⟨rfl,p2,c2,S1⟩
 refine⟨rfl,?_⟩
 replace S:=S.back [0,1] S1
 try dsimp only[merge,List.set,List.cons_append,List.nil_append] at S
 replace S:=S.pw [0,1,2]
 dsimp only[Sh.pick,List.getElem?_cons_zero,List.getElem?_cons_succ] at S
 (repeat (first|((with_reducible refine ldSlice_id ?_);refine ldSlice_i (S.cell 2 rfl rfl) ?_)))
 refine newI_S S (fun b15 _ _ S=> ?_)
 dsimp only[List.cons_append,List.nil_append] at S
 refine(small_S ((S.into [0,1] [3] []).rowB 0) 0 (xs:=[((g.l:Nat):Int)]) rfl (k:=1) rfl (by simp only[List.length_append,bytS_length,words_length,List.length_cons,List.length_nil];omega)).mono ?_
 rintro _ _ ⟨rfl,p2,c2,S1⟩
 refine⟨rfl,?_⟩
 replace S:=S.back [0,1] S1
 try dsimp only[merge,List.set,List.cons_append,List.nil_append] at S
 replace S:=S.pw [0,1,2]
 dsimp only[Sh.pick,List.getElem?_cons_zero,List.getElem?_cons_succ] at S
 (repeat (first|((with_reducible refine ldSlice_id ?_);refine ldSlice_i (S.cell 2 rfl rfl) ?_)))
 generalize hhd:(bytS [g.width]++words [g.low,g.high]++bytS [((g.l:Nat):Int)]:List UInt8)=hd at S
 have hhl:hd.length=10:=by rw[←hhd];simp only[List.length_append,bytS_length,words_length,List.length_cons,List.length_nil]
 generalize hbd:(false|| !decide (fitR 0 255 [g.width])|| !decide (fitR lo32 hi32 [g.low,g.high])|| !decide (fitR 0 255 [((g.l:Nat):Int)]))=bd at S
 have hbd2:bd=false↔(fitR 0 255 [g.width]∧fitR lo32 hi32 [g.low,g.high]∧fitR 0 255 [((g.l:Nat):Int)]):=by
  rw[←hbd];simp only[Bool.false_or,Bool.or_eq_false_iff,Bool.not_eq_false',decide_eq_true_eq,and_assoc]
 clear hbd
 refine LoopS_i (fun m s g'=> ∃(i:Nat) (p':Option Addr) (c':Nat) (bd:Bool),s=(⟨b1,0,none⟩,⟨b3,0,none⟩,(g.p,g.l,g.c),(g.l:Int),(i:Int),())∧i≤g.l∧m=g.l-i∧
  (bd=false↔((fitR 0 255 [g.width]∧fitR lo32 hi32 [g.low,g.high]∧fitR 0 255 [((g.l:Nat):Int)])∧ ∀n∈g.gr.nodes.take i,n.fit))∧
  Sep h no g' [wv b3 p' c' (hd++(g.gr.nodes.take i).flatMap Nd.enc) bd,wo p' c' (hd++(g.gr.nodes.take i).flatMap Nd.enc),
   blk b1 [.int .i64 g.width,.int .i64 g.low,.int .i64 g.high,.slice g.p g.l g.c,.int .i64 g.out]] [row g.p (nflat g.ns),nrows g.ns]) g.l
  ⟨0,p2,c2,bd,rfl,by omega,rfl,by rw[hbd2];simp,by rw[List.take_zero,List.flatMap_nil,List.append_nil];exact S⟩ ?_
 clear hbd2 S bd
 rintro m s g' ⟨i,p',c',bd,rfl,hi',rfl,hbd,S⟩
 unfold model_Encode_l6
 dsimp only
 have henc:=encs_length (g.gr.nodes.take i) fun n hn=>hs.2 n (List.mem_of_mem_take hn)
 have hb8:(g.gr.nodes.take i).length*2 ^ 24≤1000*2 ^ 24:=Nat.mul_le_mul_right _ (by rw[List.length_take];omega)
 have hb9:(hd++(g.gr.nodes.take i).flatMap Nd.enc).length<2 ^ 36:=by rw[List.length_append];omega
 refine ifB_dec (fun hlt=> ?_) (fun hge=> ?_)
 ·have hix:i<g.ns.length:=by omega
  have hx:=S.row 0 rfl
  obtain⟨aa,ea⟩:=hx.some_of (by rw[nflat_length];omega)
  rw[ea] at hx
  refine idxI_i ea rfl (by omega) ?_
  simp only[Int.toNat_natCast]
  refine ldNode hx (List.getElem?_eq_getElem hix) ?_
  have hmem:g.ns[i]∈g.ns:=List.getElem_mem hix
  have hnd:g.gr.nodes[i]? =some g.ns[i].nd:=by simp[Gv.gr,hix]
  generalize hnv:g.ns[i]=nv at hmem hnd
  refine newI_S S fun b22 h23 _ S=> ?_
  refine stL_S S 3 rfl rfl (mkS_one rfl) fun h24 _ S=> ?_
  dsimp only[List.set,List.cons_append,List.nil_append] at S
  (repeat (first|((with_reducible refine ldAg_id ?_);refine ldAg_S S 3 rfl rfl ?_)))
  have P1:=(S.into [0,1] [] [1]).oneOf 0 (f:=nv.rows) (List.mem_map.2 ⟨_,hmem,rfl⟩)
  refine(wnode_S P1 0 rfl (gok3 _ hmem) (hs.2 _ (List.mem_of_getElem? hnd)) hb9).mono ?_
  rintro _ _ ⟨rfl,p2,c2,S1⟩
  refine⟨rfl,?_⟩
  replace S:=S.back [0,1] S1
  try dsimp only[merge,List.set,List.cons_append,List.nil_append] at S
  rw[wrap64_in (by omega)]
  have hin:i<g.gr.nodes.length:=by simp[Gv.gr];omega
  have hge:g.gr.nodes[i]=nv.nd:=by rw[List.getElem?_eq_getElem hin] at hnd;exact Option.some.inj hnd
  have e1:(g.gr.nodes.take (i+1)).flatMap Nd.enc=(g.gr.nodes.take i).flatMap Nd.enc++nv.nd.enc:=by
   rw[List.take_succ_eq_append_getElem hin,List.flatMap_append,hge];simp
  refine⟨g.l-(i+1),by omega,i+1,p2,c2,bd|| !decide nv.nd.fit,rfl,by omega,rfl,?_,?_⟩
  ·rw[Bool.or_eq_false_iff,hbd,Bool.not_eq_false',decide_eq_true_eq,List.take_succ_eq_append_getElem hin,hge,and_assoc]
   constructor
   ·rintro⟨h1,h2,h3⟩
    refine⟨h1,fun n hn=> ?_⟩
    rcases List.mem_append.1 hn with hn|hn
    ·exact h2 n hn
    ·simp only[List.mem_singleton] at hn;subst hn;exact h3
   ·rintro⟨h1,h2⟩;exact⟨h1,fun n hn=>h2 n (List.mem_append_left _ hn),h2 _ (List.mem_append_right _ (by simp))⟩
  ·rw[e1,←List.append_assoc]
   exact S.pw [0,1,2]
 ·have hie:i=g.l:=by omega
  subst hie
  have htk:g.gr.nodes.take g.l=g.gr.nodes:=List.take_of_length_le (by simp[Gv.gr];omega)
  rw[htk] at S hb9
  (repeat (first|((with_reducible refine ldInt_id ?_);refine ldInt_i (S.cell 2 rfl rfl) ?_)))
  refine newI_S S (fun b28 _ _ S=> ?_)
  dsimp only[List.cons_append,List.nil_append] at S
  refine(small_S ((S.into [0,1] [3] []).rowB 0) 0 (xs:=[g.out]) rfl (k:=1) rfl (by omega)).mono ?_
  rintro _ _ ⟨rfl,p2,c2,S1⟩
  refine⟨rfl,?_⟩
  replace S:=S.back [0,1] S1
  try dsimp only[merge,List.set,List.cons_append,List.nil_append] at S
  (repeat (first|((with_reducible refine ldBool_id ?_);refine ldBool_i (S.cell 0 rfl rfl) ?_)))
  have e1:(bd|| !decide (fitR 0 255 [g.out]))= !decide g.gr.fit:=by
   have:((bd|| !decide (fitR 0 255 [g.out]))=false)↔((!decide g.gr.fit)=false):=by
    rw[Bool.or_eq_false_iff,hbd,htk,Bool.not_eq_false',decide_eq_true_eq,Bool.not_eq_false',decide_eq_true_eq,←gok1]
    simp only[Gr.fit,Gv.gr,List.length_map,and_assoc]
   cases h1:(bd|| !decide (fitR 0 255 [g.out]))<;>cases h2:(!decide g.gr.fit)<;>simp_all
  rw[e1] at S ⊢
  by_cases hf:g.gr.fit
  ·have eo:g.gr.out2=(magic++g.gr.enc,0):=by unfold Gr.out2;rw[if_pos hf]
   rw[eo]
   refine ifB_false (by simp[hf]) ?_
   refine(Text_ok (S.pw [0,1])).mono ?_
   rintro _ _ ⟨rfl,rfl⟩
   refine⟨_,rfl,?_⟩
   have hlen:(hd++g.gr.nodes.flatMap Nd.enc++bytS [g.out]).length<2 ^ 40:=by rw[List.length_append,bytS_length,List.length_cons,List.length_nil];omega
   have em:(ByteArray.mk #[69,65,82,49])=str magic:=rfl
   rw[em]
   refine addStrI_i (by rw[str_size,str_size];unfold magic;simp only[List.length_cons,List.length_nil];omega) ?_
   refine⟨?_,S.fra⟩
   rw[str_append]
   congr 5
   have:g.gr.enc=hd++g.gr.nodes.flatMap Nd.enc++bytS [g.out]:=by
    rw[←hhd,←gok1]
    simp only[Gr.enc,Gv.gr,List.length_map]
   rw[this]
  ·have eo:g.gr.out2=([],22):=by unfold Gr.out2;rw[if_neg hf]
   rw[eo]
   exact ifB_true (by simp[hf]) ⟨rfl,S.fra⟩
end
end Go.Proofs.YtdhpmegbmjoekaaGreatDoor.G
end
