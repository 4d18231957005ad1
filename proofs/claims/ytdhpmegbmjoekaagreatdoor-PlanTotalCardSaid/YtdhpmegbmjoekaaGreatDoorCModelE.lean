/- CModelW CModelE, in one text. -/
import Derived.Test.YtdhpmegbmjoekaaGreatDoorCNode
section
namespace Go.Proofs.YtdhpmegbmjoekaaGreatDoor.G
open Go Go.Sh
set_option linter.unusedVariables false
abbrev wv (b:Nat) (p:Option Addr) (c:Nat) (bs:List UInt8) (bad:Bool):bi:=wx b (bs.length:Int) p bs.length c [.bool bad]
abbrev wo (p:Option Addr) (c:Nat) (bs:List UInt8):bi:=own 1 p bs.length c (DX bs)
section
variable {h:ae} {T:Nat→Prop} {R:List bi} {b c:Nat} {p:Option Addr} {bs:List UInt8} {bad:Bool}
theorem Bl {h':ae} {new:List UInt8} (w:EH T b (bs.length:Int) bs.length [.bool bad] bs new h h'): ∃p' c',aK h T h' [wv b p' c' (bs++new) bad,wo p' c' (bs++new)] []:=by
 obtain⟨p',c',S⟩:=w
 have e1:(bs.length:Int)+(new.length:Int)=((bs++new).length:Int):=by simp
 have e2:bs.length+new.length=(bs++new).length:=by simp
 rw[e1,e2] at S
 exact⟨p',c',S⟩
theorem Qj (x:Int) (S:aK h T h [wv b p c bs bad,wo p c bs] []) (hl:bs.length<2 ^ 40):aq P fm #[.pointer (some ⟨b,0,none⟩),.int .i64 x] h fun v h'=>v= .tuple #[]∧ ∃p' c',aK h T h' [wv b p' c' (bs++Mq x) bad,wo p' c' (bs++Mq x)] []:=
 (PO x S hl (by omega)).mono fun v h' ⟨hv,w⟩=>⟨hv,Bl w⟩
theorem Pg (x:Int) (S:aK h T h [wv b p c bs bad,wo p c bs] []) (hl:bs.length<2 ^ 40):aq P dB #[.pointer (some ⟨b,0,none⟩),.int .i64 x] h fun v h'=>v= .tuple #[]∧ ∃p' c',aK h T h' [wv b p' c' (bs++low (IntKind.wrap .u64 x) 2) bad,wo p' c' (bs++low (IntKind.wrap .u64 x) 2)] []:=
 (J0 x S hl (by omega)).mono fun v h' ⟨hv,w⟩=>⟨hv,Bl w⟩
theorem Qk (x:Int) (S:aK h T h [wv b p c bs bad,wo p c bs] []) (hl:bs.length<2 ^ 40):aq P dH #[.pointer (some ⟨b,0,none⟩),.int .i64 x] h fun v h'=>v= .tuple #[]∧ ∃p' c',aK h T h' [wv b p' c' (bs++low (IntKind.wrap .u64 x) 4) bad,wo p' c' (bs++low (IntKind.wrap .u64 x) 4)] []:=
 (Mp x S hl (by omega)).mono fun v h' ⟨hv,w⟩=>⟨hv,Bl w⟩
theorem QY {q:Option Addr} {k d:Nat} {xs:List Int} (S:aK h T h [wv b p c bs bad,wo p c bs] [row q (az xs)]) (hxs:xs.length=k) (hl:bs.length<2 ^ 39) (hk:k≤2 ^ 20):
 aq P fN #[.pointer (some ⟨b,0,none⟩),.slice q k d] h fun v h'=>v= .tuple #[]∧ ∃p' c',aK h T h' [wv b p' c' (bs++rowB xs) bad,wo p' c' (bs++rowB xs)] []:=
 (QC S hxs hl (by omega)).mono fun v h' ⟨hv,w⟩=>⟨hv,Bl w⟩
theorem DN {n:Int} {l:Nat} (S:aK h T h [wx b n p l c [.bool bad]] R) (ix:Nat) {q:Option Addr} {k d:Nat} {xs:List Int} (ex:R[ix]? =some (row q (az xs))) (hk:xs.length=k) (hk2:k<2 ^ 62) (lo hi:Int):
 aq P cN #[.pointer (some ⟨b,0,none⟩),.int .i64 lo,.int .i64 hi,.slice q k d] h fun v h'=>v= .tuple #[]∧aK h T h' [wx b n p l c [.bool (bad|| !decide (bo lo hi xs))]] R:=by
 refine qg _ _ _ _ _ _ ?_
 unfold nO
 refine aT (fun m s g=> ∃i:Nat,s=(some ⟨b,0,none⟩,lo,hi,(q,k,d),(k:Int),(i:Int),())∧i≤k∧m=k-i∧aK h T g [wx b n p l c [.bool (bad|| !decide (bo lo hi (xs.take i)))]] R) k
  ⟨0,rfl,by omega,rfl,by simpa[cD] using S⟩ ?_
 rintro m s g ⟨i,rfl,hi',rfl,S⟩
 unfold lg
 dsimp only
 refine au (fun hlt=> ?_) (fun hge=> ?_)
 ·have hix:i<xs.length:=by omega
  have hx:=S.row ix ex
  obtain⟨aa,rfl⟩:=hx.some_of (by rw[aB];omega)
  refine aG rfl rfl (by omega) ?_
  simp only[Int.toNat_natCast,Nat.mul_one]
  refine af (hx.cell (aN (List.getElem?_eq_getElem hix))) ?_
  rw[al (by omega)]
  have key: ∀g' v,v=(bad|| !decide (bo lo hi (xs.take (i+1))))→aK h T g' [wx b n p l c [.bool v]] R→ ∃m,m<k-i∧ ∃i':Nat,((some (⟨b,0,none⟩:Addr),lo,hi,(some aa,k,d),(k:Int),(i:Int)+1,()):Option Addr×Int×Int×(Option Addr×Nat×Nat)×Int×Int×Unit)=(some ⟨b,0,none⟩,lo,hi,(some aa,k,d),(k:Int),(i':Int),())∧i'≤k∧m=k-i'∧aK h T g' [wx b n p l c [.bool (bad|| !decide (bo lo hi (xs.take i')))]] R:=
   fun g' v hv S=>⟨k-(i+1),by omega,i+1,rfl,by omega,rfl,by rw[←hv];exact S⟩
  have hs:=iu (lo:=lo) (hi:=hi) hix
  (repeat (first|with_reducible refine bK ?_|((with_reducible refine zl ?_);refine tA (S.cell 0 rfl rfl) ?_)))
  refine tz (fun e=> ?_) (fun e=> ?_)
  ·(repeat (first|with_reducible refine bK ?_|((with_reducible refine tw ?_);refine aJ S 0 rfl (Nat.le_of_ble_eq_true rfl) (fun _ _ S=> ?_);try dsimp only[List.set,List.cons_append,List.nil_append] at S)))
   refine key _ true ?_ S
   rcases Bool.or_eq_true _ _▸e with e|e
   ·rw[e];rfl
   ·rw[Bool.not_eq_true',decide_eq_false_iff_not] at e
    rw[decide_eq_false (fun h=>e (hs.1 h).1)];simp
  ·rw[Bool.or_eq_false_iff] at e
   have e2:bo lo hi (xs.take i):=by have:=e.2;simpa using this
   refine au (fun h1=> ?_) (fun h1=> ?_)
   ·(repeat (first|with_reducible refine bK ?_|((with_reducible refine tw ?_);refine aJ S 0 rfl (Nat.le_of_ble_eq_true rfl) (fun _ _ S=> ?_);try dsimp only[List.set,List.cons_append,List.nil_append] at S)))
    refine key _ true ?_ S
    rw[decide_eq_false (fun h=>by have:=(hs.1 h).2;omega)];simp
   ·(repeat (first|with_reducible refine bK ?_|((with_reducible refine tw ?_);refine aJ S 0 rfl (Nat.le_of_ble_eq_true rfl) (fun _ _ S=> ?_);try dsimp only[List.set,List.cons_append,List.nil_append] at S)))
    refine key _ _ ?_ S
    rw[e.1,Bool.false_or,←decide_not,decide_eq_decide,hs]
    constructor
    ·rintro h3 ⟨_,h4⟩;omega
    ·intro h3;apply Decidable.byContradiction;intro h4;exact h3 ⟨e2,by omega⟩
 ·have:i=k:=by omega
  subst this
  rw[List.take_of_length_le (by omega)] at S
  exact⟨by trivial,S⟩
theorem oF (S:aK h T h [wv b p c bs bad,wo p c bs] R) (ix:Nat) {q:Option Addr} {k d:Nat} {xs:List Int} (ex:R[ix]? =some (row q (az xs))) (hk:xs.length=k) (hl:bs.length+k<2 ^ 40):
 aq P bU #[.pointer (some ⟨b,0,none⟩),.slice q k d] h fun v h'=>v= .tuple #[]∧ ∃p' c',aK h T h' [wv b p' c' (bs++dg xs) (bad|| !decide (bo 0 255 xs)),wo p' c' (bs++dg xs)] R:=by
 refine pf _ _ _ _ ?_
 unfold mS
 have P0:=S.into [0] [] [ix]
 have e0:Sh.pick R [ix]=[row q (az xs)]:=by simp only[Sh.pick,ex]
 rw[e0] at P0
 refine(DN P0 0 rfl hk (by omega) 0 255).mono ?_
 rintro _ _ ⟨rfl,S1⟩
 refine⟨rfl,?_⟩
 replace S:=S.back [0] S1
 try dsimp only[bO,List.set,List.cons_append,List.nil_append] at S
 generalize (bad|| !decide (bo 0 255 xs))=bd at S
 refine aT (fun m s g=> ∃(i:Nat) (p':Option Addr) (c':Nat),s=(some ⟨b,0,none⟩,(q,k,d),(k:Int),(i:Int),())∧i≤k∧m=k-i∧aK h T g [wv b p' c' (bs++dg (xs.take i)) bd,wo p' c' (bs++dg (xs.take i))] R) k
  ⟨0,p,c,rfl,by omega,rfl,by simpa[dg] using S⟩ ?_
 rintro m s g ⟨i,p',c',rfl,hi',rfl,S⟩
 unfold kx
 dsimp only
 refine au (fun hlt=> ?_) (fun hge=> ?_)
 ·have hix:i<xs.length:=by omega
  have hx:=S.row ix ex
  obtain⟨aa,rfl⟩:=hx.some_of (by rw[aB];omega)
  refine aG rfl rfl (by omega) ?_
  simp only[Int.toNat_natCast,Nat.mul_one]
  refine af (hx.cell (aN (List.getElem?_eq_getElem hix))) (bK ?_)
  refine(Qj xs[i] (S.into [0,1] [] []) (by rw[List.length_append,bI,List.length_take];omega)).mono ?_
  rintro _ _ ⟨rfl,p2,c2,S1⟩
  refine⟨rfl,?_⟩
  replace S:=S.back [0,1] S1
  try dsimp only[bO,List.set,List.cons_append,List.nil_append] at S
  rw[List.append_assoc,←EJ hix] at S
  rw[al (by omega)]
  exact⟨k-(i+1),by omega,i+1,p2,c2,rfl,by omega,rfl,S⟩
 ·have:i=k:=by omega
  subst this
  rw[List.take_of_length_le (by omega)] at S
  exact⟨by trivial,p',c',S⟩
theorem KG (S:aK h T h [wv b p c bs bad,wo p c bs] R) (ix:Nat) {q:Option Addr} {k d:Nat} {xs:List Int} (ex:R[ix]? =some (row q (az xs))) (hk:xs.length=k) (hl:bs.length+4*k<2 ^ 40):
 aq P dU #[.pointer (some ⟨b,0,none⟩),.slice q k d] h fun v h'=>v= .tuple #[]∧ ∃p' c',aK h T h' [wv b p' c' (bs++words xs) (bad|| !decide (bo fz fD xs)),wo p' c' (bs++words xs)] R:=by
 refine ph _ _ _ _ ?_
 unfold mT
 have P0:=S.into [0] [] [ix]
 have e0:Sh.pick R [ix]=[row q (az xs)]:=by simp only[Sh.pick,ex]
 rw[e0] at P0
 refine(DN P0 0 rfl hk (by omega) fz fD).mono ?_
 rintro _ _ ⟨rfl,S1⟩
 refine⟨rfl,?_⟩
 replace S:=S.back [0] S1
 try dsimp only[bO,List.set,List.cons_append,List.nil_append] at S
 generalize (bad|| !decide (bo fz fD xs))=bd at S
 refine aT (fun m s g=> ∃(i:Nat) (p':Option Addr) (c':Nat),s=(some ⟨b,0,none⟩,(q,k,d),(k:Int),(i:Int),())∧i≤k∧m=k-i∧aK h T g [wv b p' c' (bs++words (xs.take i)) bd,wo p' c' (bs++words (xs.take i))] R) k
  ⟨0,p,c,rfl,by omega,rfl,by simpa[words] using S⟩ ?_
 rintro m s g ⟨i,p',c',rfl,hi',rfl,S⟩
 unfold ky
 dsimp only
 refine au (fun hlt=> ?_) (fun hge=> ?_)
 ·have hix:i<xs.length:=by omega
  have hx:=S.row ix ex
  obtain⟨aa,rfl⟩:=hx.some_of (by rw[aB];omega)
  refine aG rfl rfl (by omega) ?_
  simp only[Int.toNat_natCast,Nat.mul_one]
  refine af (hx.cell (aN (List.getElem?_eq_getElem hix))) (bK ?_)
  refine(Qk xs[i] (S.into [0,1] [] []) (by rw[List.length_append,cn,List.length_take];omega)).mono ?_
  rintro _ _ ⟨rfl,p2,c2,S1⟩
  refine⟨rfl,?_⟩
  replace S:=S.back [0,1] S1
  try dsimp only[bO,List.set,List.cons_append,List.nil_append] at S
  rw[List.append_assoc,←vB hix] at S
  rw[al (by omega)]
  exact⟨k-(i+1),by omega,i+1,p2,c2,rfl,by omega,rfl,S⟩
 ·have:i=k:=by omega
  subst this
  rw[List.take_of_length_le (by omega)] at S
  exact⟨by trivial,p',c',S⟩
def nD (ss:List Sl):List UInt8:=ss.flatMap fun s=>rowB s.xs
def rR (ss:List Sl):Prop:= ∀s∈ss,s.xs.length≤65535∧bo fz fD s.xs
instance (ss:List Sl):Decidable (rR ss):=by unfold rR;infer_instance
end
end Go.Proofs.YtdhpmegbmjoekaaGreatDoor.G
end
section
namespace Go.Proofs.YtdhpmegbmjoekaaGreatDoor.G
open Go Go.Sh
set_option linter.unusedVariables false
set_option linter.unusedSimpArgs false
theorem QZ (b:Bool) (p q:Prop) [Decidable p] [Decidable q]:((b|| !decide p)|| !decide q)=(b|| !decide (p∧q)):=by
 cases b<;>by_cases hp:p<;>by_cases hq:q<;>simp[hp,hq]
theorem JD {ss:List Sl} {i:Nat} (hi:i<ss.length):nD (ss.take (i+1))=nD (ss.take i)++rowB ss[i].xs:=by
 rw[List.take_succ_eq_append_getElem hi];unfold nD
 rw[List.flatMap_append];simp only[List.flatMap_cons,List.flatMap_nil,List.append_nil]
theorem JE {ss:List Sl} {i:Nat} (hi:i<ss.length):rR (ss.take (i+1))↔rR (ss.take i)∧(ss[i].xs.length≤65535∧bo fz fD ss[i].xs):=by
 rw[List.take_succ_eq_append_getElem hi]
 unfold rR
 constructor
 ·intro h;exact⟨fun x hx=>h x (List.mem_append_left _ hx),h _ (List.mem_append_right _ (by simp))⟩
 ·rintro⟨h1,h2⟩ x hx
  rcases List.mem_append.1 hx with hx|hx
  ·exact h1 x hx
  ·simp only[List.mem_singleton] at hx;subst hx;exact h2
theorem qQ: ∀(ss:List Sl),(∀s∈ss,s.xs.length≤2 ^ 20)→(nD ss).length≤ss.length*2 ^ 23
 |[],_=>by simp[nD]
 |s::r,h=>by
  have h1:=qQ r fun x hx=>h x (by simp[hx])
  have h2:=sr s.xs
  have h3:=h s (by simp)
  unfold nD at h1 ⊢
  simp only[List.flatMap_cons,List.length_append,List.length_cons,Nat.add_mul]
  omega
section
variable {h:ae} {T:Nat→Prop} {R:List bi} {b c:Nat} {p:Option Addr} {bs:List UInt8} {bad:Bool}
theorem Ql (S:aK h T h [wv b p c bs bad,wo p c bs] R) (iq ir:Nat) {q:Option Addr} {k d:Nat} {ss:List Sl} (eq_:R[iq]? =some (row q (ss.map Sl.v))) (er:R[ir]? =some (cA (ss.map Sl.row))) (hk:ss.length=k) (hk2:k≤8)
 (hs: ∀s∈ss,s.ok∧s.xs.length≤2 ^ 20) (hl:bs.length<2 ^ 38):
 aq P gj #[.pointer (some ⟨b,0,none⟩),.slice q k d] h fun v h'=>v= .tuple #[]∧ ∃p' c',aK h T h' [wv b p' c' (bs++nD ss) (bad|| !decide (rR ss)),wo p' c' (bs++nD ss)] R:=by
 refine qk _ _ _ _ ?_
 unfold nQ
 refine aT (fun m s g=> ∃(i:Nat) (p':Option Addr) (c':Nat),s=(some ⟨b,0,none⟩,(q,k,d),(k:Int),(i:Int),())∧i≤k∧m=k-i∧aK h T g [wv b p' c' (bs++nD (ss.take i)) (bad|| !decide (rR (ss.take i))),wo p' c' (bs++nD (ss.take i))] R) k
  ⟨0,p,c,rfl,by omega,rfl,by simpa[nD,rR] using S⟩ ?_
 rintro m s g ⟨i,p',c',rfl,hi',rfl,S⟩
 unfold lk
 dsimp only
 refine au (fun hlt=> ?_) (fun hge=> ?_)
 ·have hix:i<ss.length:=by omega
  have hx:=S.row iq eq_
  obtain⟨aa,rfl⟩:=hx.some_of (by simp;omega)
  have hmem:ss[i]∈ss:=List.getElem_mem hix
  obtain⟨⟨hok1,hok2⟩,hsh⟩:=hs _ hmem
  have hlen:=qQ (ss.take i) fun s h=>(hs s (List.mem_of_mem_take h)).2
  rw[List.length_take] at hlen
  have hb8:min i ss.length*2 ^ 23≤8*2 ^ 23:=Nat.mul_le_mul_right _ (by omega)
  have hb9:(bs++nD (ss.take i)).length<2 ^ 39:=by rw[List.length_append];omega
  refine aG rfl rfl (by omega) ?_
  simp only[Int.toNat_natCast,Nat.mul_one]
  refine am (hx.cell (by rw[List.getElem?_map,List.getElem?_eq_getElem hix];rfl)) ?_
  refine aC S (fun b4 _ _ S=> ?_)
  dsimp only[List.cons_append,List.nil_append] at S
  refine(DN ((S.into [0] [2] []).rowB 0) 0 (xs:=[((ss[i].l:Nat):Int)]) rfl (k:=1) rfl (by decide) 0 65535).mono ?_
  rintro _ _ ⟨rfl,S1⟩
  refine⟨rfl,?_⟩
  replace S:=S.back [0] S1
  try dsimp only[bO,List.set,List.cons_append,List.nil_append] at S
  have P0:=S.into [0] [] [ir]
  have e0:Sh.pick R [ir]=[cA (ss.map Sl.row)]:=by simp only[Sh.pick,er]
  rw[e0] at P0
  have P1:=P0.oneOf 0 (List.mem_map.2 ⟨_,hmem,rfl⟩)
  dsimp only[Sh.pick,List.getElem?_cons_zero,List.nil_append,List.set] at P1
  refine(DN P1 0 rfl hok1 (by omega) fz fD).mono ?_
  rintro _ _ ⟨rfl,S1⟩
  refine⟨rfl,?_⟩
  replace S:=S.back [0] S1
  try dsimp only[bO,List.set,List.cons_append,List.nil_append] at S
  refine bK ?_
  have P0:=S.into [0,1] [] [ir]
  rw[e0] at P0
  have P1:=P0.oneOf 0 (List.mem_map.2 ⟨_,hmem,rfl⟩)
  dsimp only[Sh.pick,List.getElem?_cons_zero,List.getElem?_cons_succ,List.nil_append,List.set] at P1
  refine(QY P1 hok1 hb9 (by omega)).mono ?_
  rintro _ _ ⟨rfl,p2,c2,S1⟩
  refine⟨rfl,?_⟩
  replace S:=S.back [0,1] S1
  try dsimp only[bO,List.set,List.cons_append,List.nil_append] at S
  rw[al (by omega)]
  refine⟨k-(i+1),by omega,i+1,p2,c2,rfl,by omega,rfl,?_⟩
  rw[List.append_assoc,←JD hix,QZ,QZ] at S
  have e1:decide (rR (ss.take i)∧bo 0 65535 [((ss[i].l:Nat):Int)]∧bo fz fD ss[i].xs)=decide (rR (ss.take (i+1))):=by
   rw[decide_eq_decide,JE hix,←hok1]
   have:bo 0 65535 [((ss[i].xs.length:Nat):Int)]↔ss[i].xs.length≤65535:=by unfold bo;simp;omega
   rw[this]
  rw[e1] at S
  exact S.pw [0,1]
 ·have:i=k:=by omega
  subst this
  rw[List.take_of_length_le (by omega)] at S
  exact⟨by trivial,p',c',S⟩
theorem Ph (S:aK h T h [wv b p c bs bad,wo p c bs] R) (ir:Nat) {nv:Nv} (er:R[ir]? =some nv.rows) (hok:nv.ok) (hs:nv.nd.short) (hl:bs.length<2 ^ 36):
 aq P gk #[.pointer (some ⟨b,0,none⟩),nv.v] h fun v h'=>v= .tuple #[]∧ ∃p' c',aK h T h' [wv b p' c' (bs++nv.nd.enc) (bad|| !decide nv.nd.fit),wo p' c' (bs++nv.nd.enc)] R:=by
 refine ql _ _ ?_
 unfold nR
 obtain⟨ok1,ok2,ok3⟩:=hok
 have hi20:nv.inn.xs.length≤2 ^ 20:=hs.1
 have hw20:nv.weights.xs.length≤2 ^ 20:=hs.2.1
 have hb20:nv.bias.xs.length≤2 ^ 20:=hs.2.2
 have el:=ok1.1
 refine aC (cs:=nv.cells) S fun b1 h1 _ S=> ?_
 have e0:Sh.pick R [ir]=[nv.rows]:=by simp only[Sh.pick,er]
 dsimp only[List.cons_append,List.nil_append] at S
 (repeat (first|((with_reducible refine aU ?_);refine af (S.cell 2 rfl rfl) ?_)|((with_reducible refine bZ ?_);refine am (S.cell 2 rfl rfl) ?_)))
 refine aC S (fun b5 _ _ S=> ?_)
 dsimp only[List.cons_append,List.nil_append] at S
 refine(oF ((S.into [0,1] [3] []).rowB 0) 0 (xs:=[nv.kind,((nv.inn.l:Nat):Int)]) rfl (k:=2) rfl (by omega)).mono ?_
 rintro _ _ ⟨rfl,p2,c2,S1⟩
 refine⟨rfl,?_⟩
 replace S:=S.back [0,1] S1
 try dsimp only[bO,List.set,List.cons_append,List.nil_append] at S
 replace S:=S.pw [0,1,2]
 dsimp only[Sh.pick,List.getElem?_cons_zero,List.getElem?_cons_succ] at S
 (repeat (first|((with_reducible refine bZ ?_);refine am (S.cell 2 rfl rfl) ?_)))
 have P0:=S.into [0,1] [] [ir]
 rw[e0] at P0
 have P1:=P0.oneOf 0 (l:=[nv.inn.row,nv.weights.row,nv.bias.row]) (f:=nv.inn.row) (by simp)
 dsimp only[Sh.pick,List.getElem?_cons_zero,List.getElem?_cons_succ,List.nil_append,List.set] at P1
 refine(oF P1 0 rfl ok1.1 (by rw[List.length_append,bI,List.length_cons,List.length_cons,List.length_nil];omega)).mono ?_
 rintro _ _ ⟨rfl,p2,c2,S1⟩
 refine⟨rfl,?_⟩
 replace S:=S.back [0,1] S1
 try dsimp only[bO,List.set,List.cons_append,List.nil_append] at S
 (repeat (first|((with_reducible refine aU ?_);refine af (S.cell 2 rfl rfl) ?_)))
 refine aC S (fun b16 _ _ S=> ?_)
 dsimp only[List.cons_append,List.nil_append] at S
 refine(oF ((S.into [0,1] [3] []).rowB 0) 0 (xs:=[nv.width,nv.size,nv.step,nv.gap,nv.left,nv.right]) rfl (k:=6) rfl (by simp only[List.length_append,bI,List.length_cons,List.length_nil];omega)).mono ?_
 rintro _ _ ⟨rfl,p2,c2,S1⟩
 refine⟨rfl,?_⟩
 replace S:=S.back [0,1] S1
 try dsimp only[bO,List.set,List.cons_append,List.nil_append] at S
 replace S:=S.pw [0,1,2]
 dsimp only[Sh.pick,List.getElem?_cons_zero,List.getElem?_cons_succ] at S
 (repeat (first|((with_reducible refine bZ ?_);refine am (S.cell 2 rfl rfl) ?_)))
 refine aC S (fun b21 _ _ S=> ?_)
 dsimp only[List.cons_append,List.nil_append] at S
 have P0:=S.into [0,1] [3] [ir]
 rw[e0] at P0
 have P1:=(P0.rowB 0).view 1 (g:=nv.rows) rfl (cA ([nv.weights,nv.bias].map Sl.row)) (fun H f hf=>H f (by simp at hf ⊢;rcases hf with rfl|rfl<;>simp)) (fun x ⟨f,hf,hx⟩=>⟨f,by simp at hf ⊢;rcases hf with rfl|rfl<;>simp,hx⟩)
 dsimp only[Sh.pick,List.getElem?_cons_zero,List.getElem?_cons_succ,List.nil_append,List.cons_append,List.set] at P1
 refine(Ql P1 0 1 (ss:=[nv.weights,nv.bias]) rfl rfl (k:=2) rfl (by decide) (by simp;exact⟨⟨ok2,hw20⟩,⟨ok3,hb20⟩⟩) (by simp only[List.length_append,bI,List.length_cons,List.length_nil];omega)).mono ?_
 rintro _ _ ⟨rfl,p2,c2,S1⟩
 refine⟨rfl,?_⟩
 replace S:=S.back [0,1] S1
 try dsimp only[bO,List.set,List.cons_append,List.nil_append] at S
 replace S:=S.pw [0,1,2]
 dsimp only[Sh.pick,List.getElem?_cons_zero,List.getElem?_cons_succ] at S
 have hrl:(nD [nv.weights,nv.bias]).length≤2 ^ 24:=by
  have:=qQ [nv.weights,nv.bias] (by simp;exact⟨hw20,hb20⟩)
  simpa using this
 (repeat (first|((with_reducible refine aU ?_);refine af (S.cell 2 rfl rfl) ?_)))
 refine aC S (fun b25 _ _ S=> ?_)
 dsimp only[List.cons_append,List.nil_append] at S
 refine(DN ((S.into [0] [3] []).rowB 0) 0 (xs:=[nv.mult]) rfl (k:=1) rfl (by decide) 0 65535).mono ?_
 rintro _ _ ⟨rfl,S1⟩
 refine⟨rfl,?_⟩
 replace S:=S.back [0] S1
 try dsimp only[bO,List.set,List.cons_append,List.nil_append] at S
 refine bK ?_
 (repeat (first|((with_reducible refine aU ?_);refine af (S.cell 2 rfl rfl) ?_)))
 refine(Pg nv.mult (S.into [0,1] [] []) (by simp only[List.length_append,bI,List.length_cons,List.length_nil];omega)).mono ?_
 rintro _ _ ⟨rfl,p2,c2,S1⟩
 refine⟨rfl,?_⟩
 replace S:=S.back [0,1] S1
 try dsimp only[bO,List.set,List.cons_append,List.nil_append] at S
 replace S:=S.pw [0,1,2]
 dsimp only[Sh.pick,List.getElem?_cons_zero,List.getElem?_cons_succ] at S
 (repeat (first|((with_reducible refine aU ?_);refine af (S.cell 2 rfl rfl) ?_)))
 refine aC S (fun b32 _ _ S=> ?_)
 dsimp only[List.cons_append,List.nil_append] at S
 refine(oF ((S.into [0,1] [3] []).rowB 0) 0 (xs:=[nv.shift]) rfl (k:=1) rfl (by simp only[List.length_append,bI,bS,List.length_cons,List.length_nil];omega)).mono ?_
 rintro _ _ ⟨rfl,p2,c2,S1⟩
 refine⟨rfl,?_⟩
 replace S:=S.back [0,1] S1
 try dsimp only[bO,List.set,List.cons_append,List.nil_append] at S
 replace S:=S.pw [0,1,2]
 dsimp only[Sh.pick,List.getElem?_cons_zero,List.getElem?_cons_succ] at S
 (repeat (first|((with_reducible refine aU ?_);refine af (S.cell 2 rfl rfl) ?_)))
 refine aC S (fun b37 _ _ S=> ?_)
 dsimp only[List.cons_append,List.nil_append] at S
 refine(KG ((S.into [0,1] [3] []).rowB 0) 0 (xs:=[nv.low,nv.high]) rfl (k:=2) rfl (by simp only[List.length_append,bI,bS,List.length_cons,List.length_nil];omega)).mono ?_
 rintro _ _ ⟨rfl,p2,c2,S1⟩
 refine⟨rfl,?_⟩
 replace S:=S.back [0,1] S1
 try dsimp only[bO,List.set,List.cons_append,List.nil_append] at S
 replace S:=S.pw [0,1,2]
 dsimp only[Sh.pick,List.getElem?_cons_zero,List.getElem?_cons_succ] at S
 (repeat (first|((with_reducible refine aU ?_);refine af (S.cell 2 rfl rfl) ?_)))
 refine aC S (fun b41 _ _ S=> ?_)
 dsimp only[List.cons_append,List.nil_append] at S
 refine(oF ((S.into [0,1] [3] []).rowB 0) 0 (xs:=[nv.post]) rfl (k:=1) rfl (by simp only[List.length_append,bI,bS,cn,List.length_cons,List.length_nil];omega)).mono ?_
 rintro _ _ ⟨rfl,p2,c2,S1⟩
 refine⟨rfl,?_⟩
 replace S:=S.back [0,1] S1
 try dsimp only[bO,List.set,List.cons_append,List.nil_append] at S
 replace S:=S.pw [0,1]
 dsimp only[Sh.pick,List.getElem?_cons_zero,List.getElem?_cons_succ] at S
 refine⟨rfl,p2,c2,?_⟩
 simp only[QZ] at S
 have e1:bs++nv.nd.enc=bs++dg [nv.kind,((nv.inn.l:Nat):Int)]++dg nv.inn.xs++dg [nv.width,nv.size,nv.step,nv.gap,nv.left,nv.right]++nD [nv.weights,nv.bias]++low (IntKind.wrap .u64 nv.mult) 2++dg [nv.shift]++words [nv.low,nv.high]++dg [nv.post]:=by
  rw[←el]
  simp only[Nd.enc,Nv.nd,nD,List.flatMap_cons,List.flatMap_nil,List.append_nil,List.append_assoc]
 rw[e1]
 have e2:decide nv.nd.fit=decide (((((((bo 0 255 [nv.kind,((nv.inn.l:Nat):Int)]∧bo 0 255 nv.inn.xs)∧bo 0 255 [nv.width,nv.size,nv.step,nv.gap,nv.left,nv.right])∧rR [nv.weights,nv.bias])∧bo 0 65535 [nv.mult])∧bo 0 255 [nv.shift])∧bo fz fD [nv.low,nv.high])∧bo 0 255 [nv.post]):=by
  rw[decide_eq_decide,←el]
  simp only[Nd.fit,Nv.nd,rR,List.forall_mem_cons,List.not_mem_nil,false_implies,implies_true,and_true,and_assoc]
 rw[e2]
 exact S
theorem NL {g:Gv} (hp:bT h g.p (aF g.ns)) (hr:(aZ g.ns).P h) (hok:g.ok) (hs:g.gr.short):
 aq P j8 #[g.v] h fun v h'=>v= .tuple #[.string (str g.gr.out2.1),.int .i64 g.gr.out2.2]∧cu no h h':=by
 refine wN _ ?_
 unfold wM
 have S:=((aK.start h no).read (row g.p (aF g.ns)) hp).read (aZ g.ns) hr
 dsimp only[List.cons_append,List.nil_append] at S
 obtain⟨gok1,gok2,gok3⟩:=hok
 have hn1000:g.l≤1000:=by have:=hs.1;simp[Gv.gr] at this;omega
 refine aC S (fun b1 _ _ S=> ?_)
 refine aC S (fun b3 _ _ S=> ?_)
 replace S:=S.nil 1
 dsimp only[List.cons_append,List.nil_append] at S
 (repeat (first|((with_reducible refine aU ?_);refine af (S.cell 0 rfl rfl) ?_)))
 have SS:aK h no _ [wv b3 none 0 [] false,wo none 0 [],blk b1 [.int .i64 g.width,.int .i64 g.low,.int .i64 g.high,.slice g.p g.l g.c,.int .i64 g.out]] _:=S.pw [1,2,0]
 clear S
 have S:=SS
 clear SS
 refine aC S (fun b6 _ _ S=> ?_)
 dsimp only[List.cons_append,List.nil_append] at S
 refine(oF ((S.into [0,1] [3] []).rowB 0) 0 (xs:=[g.width]) rfl (k:=1) rfl (by decide)).mono ?_
 rintro _ _ ⟨rfl,p2,c2,S1⟩
 refine⟨rfl,?_⟩
 replace S:=S.back [0,1] S1
 try dsimp only[bO,List.set,List.cons_append,List.nil_append] at S
 replace S:=S.pw [0,1,2]
 dsimp only[Sh.pick,List.getElem?_cons_zero,List.getElem?_cons_succ] at S
 (repeat (first|((with_reducible refine aU ?_);refine af (S.cell 2 rfl rfl) ?_)))
 refine aC S (fun b11 _ _ S=> ?_)
 dsimp only[List.cons_append,List.nil_append] at S
 refine(KG ((S.into [0,1] [3] []).rowB 0) 0 (xs:=[g.low,g.high]) rfl (k:=2) rfl (by simp only[List.length_append,bI,List.length_cons,List.length_nil];omega)).mono ?_
 rintro _ _ ⟨rfl,p2,c2,S1⟩
 refine⟨rfl,?_⟩
 replace S:=S.back [0,1] S1
 try dsimp only[bO,List.set,List.cons_append,List.nil_append] at S
 replace S:=S.pw [0,1,2]
 dsimp only[Sh.pick,List.getElem?_cons_zero,List.getElem?_cons_succ] at S
 (repeat (first|((with_reducible refine bZ ?_);refine am (S.cell 2 rfl rfl) ?_)))
 refine aC S (fun b15 _ _ S=> ?_)
 dsimp only[List.cons_append,List.nil_append] at S
 refine(oF ((S.into [0,1] [3] []).rowB 0) 0 (xs:=[((g.l:Nat):Int)]) rfl (k:=1) rfl (by simp only[List.length_append,bI,cn,List.length_cons,List.length_nil];omega)).mono ?_
 rintro _ _ ⟨rfl,p2,c2,S1⟩
 refine⟨rfl,?_⟩
 replace S:=S.back [0,1] S1
 try dsimp only[bO,List.set,List.cons_append,List.nil_append] at S
 replace S:=S.pw [0,1,2]
 dsimp only[Sh.pick,List.getElem?_cons_zero,List.getElem?_cons_succ] at S
 (repeat (first|((with_reducible refine bZ ?_);refine am (S.cell 2 rfl rfl) ?_)))
 generalize hhd:(dg [g.width]++words [g.low,g.high]++dg [((g.l:Nat):Int)]:List UInt8)=hd at S
 have hhl:hd.length=10:=by rw[←hhd];simp only[List.length_append,bI,cn,List.length_cons,List.length_nil]
 generalize hbd:(false|| !decide (bo 0 255 [g.width])|| !decide (bo fz fD [g.low,g.high])|| !decide (bo 0 255 [((g.l:Nat):Int)]))=bd at S
 have hbd2:bd=false↔(bo 0 255 [g.width]∧bo fz fD [g.low,g.high]∧bo 0 255 [((g.l:Nat):Int)]):=by
  rw[←hbd];simp only[Bool.false_or,Bool.or_eq_false_iff,Bool.not_eq_false',decide_eq_true_eq,and_assoc]
 clear hbd
 refine aT (fun m s g'=> ∃(i:Nat) (p':Option Addr) (c':Nat) (bd:Bool),s=(⟨b1,0,none⟩,⟨b3,0,none⟩,(g.p,g.l,g.c),(g.l:Int),(i:Int),())∧i≤g.l∧m=g.l-i∧
  (bd=false↔((bo 0 255 [g.width]∧bo fz fD [g.low,g.high]∧bo 0 255 [((g.l:Nat):Int)])∧ ∀n∈g.gr.nodes.take i,n.fit))∧
  aK h no g' [wv b3 p' c' (hd++(g.gr.nodes.take i).flatMap Nd.enc) bd,wo p' c' (hd++(g.gr.nodes.take i).flatMap Nd.enc),
   blk b1 [.int .i64 g.width,.int .i64 g.low,.int .i64 g.high,.slice g.p g.l g.c,.int .i64 g.out]] [row g.p (aF g.ns),aZ g.ns]) g.l
  ⟨0,p2,c2,bd,rfl,by omega,rfl,by rw[hbd2];simp,by rw[List.take_zero,List.flatMap_nil,List.append_nil];exact S⟩ ?_
 clear hbd2 S bd
 rintro m s g' ⟨i,p',c',bd,rfl,hi',rfl,hbd,S⟩
 unfold qY
 dsimp only
 have henc:=nN (g.gr.nodes.take i) fun n hn=>hs.2 n (List.mem_of_mem_take hn)
 have hb8:(g.gr.nodes.take i).length*2 ^ 24≤1000*2 ^ 24:=Nat.mul_le_mul_right _ (by rw[List.length_take];omega)
 have hb9:(hd++(g.gr.nodes.take i).flatMap Nd.enc).length<2 ^ 36:=by rw[List.length_append];omega
 refine au (fun hlt=> ?_) (fun hge=> ?_)
 ·have hix:i<g.ns.length:=by omega
  have hx:=S.row 0 rfl
  obtain⟨aa,ea⟩:=hx.some_of (by rw[bY];omega)
  rw[ea] at hx
  refine aG ea rfl (by omega) ?_
  simp only[Int.toNat_natCast]
  refine kD hx (List.getElem?_eq_getElem hix) ?_
  have hmem:g.ns[i]∈g.ns:=List.getElem_mem hix
  have hnd:g.gr.nodes[i]? =some g.ns[i].nd:=by simp[Gv.gr,hix]
  generalize hnv:g.ns[i]=nv at hmem hnd
  refine aC S fun b22 h23 _ S=> ?_
  refine cG S 3 rfl rfl (bC rfl) fun h24 _ S=> ?_
  dsimp only[List.set,List.cons_append,List.nil_append] at S
  (repeat (first|((with_reducible refine oB ?_);refine aQ S 3 rfl rfl ?_)))
  have P1:=(S.into [0,1] [] [1]).oneOf 0 (f:=nv.rows) (List.mem_map.2 ⟨_,hmem,rfl⟩)
  refine(Ph P1 0 rfl (gok3 _ hmem) (hs.2 _ (List.mem_of_getElem? hnd)) hb9).mono ?_
  rintro _ _ ⟨rfl,p2,c2,S1⟩
  refine⟨rfl,?_⟩
  replace S:=S.back [0,1] S1
  try dsimp only[bO,List.set,List.cons_append,List.nil_append] at S
  rw[al (by omega)]
  have hin:i<g.gr.nodes.length:=by simp[Gv.gr];omega
  have hge:g.gr.nodes[i]=nv.nd:=by rw[List.getElem?_eq_getElem hin] at hnd;exact Option.some.inj hnd
  have e1:(g.gr.nodes.take (i+1)).flatMap Nd.enc=(g.gr.nodes.take i).flatMap Nd.enc++nv.nd.enc:=by
   rw[List.take_succ_eq_append_getElem hin,List.flatMap_append,hge];simp
  refine⟨g.l-(i+1),by omega,i+1,p2,c2,bd|| !decide nv.nd.fit,rfl,by omega,rfl,?_,?_⟩
  ·rw[Bool.or_eq_false_iff,hbd,Bool.not_eq_false',decide_eq_true_eq,List.take_succ_eq_append_getElem hin,hge,and_assoc]
   constructor
   ·rintro⟨h1,h2,h3⟩
    refine⟨h1,fun n hn=> ?_⟩
    rcases List.mem_append.1 hn with hn|hn
    ·exact h2 n hn
    ·simp only[List.mem_singleton] at hn;subst hn;exact h3
   ·rintro⟨h1,h2⟩;exact⟨h1,fun n hn=>h2 n (List.mem_append_left _ hn),h2 _ (List.mem_append_right _ (by simp))⟩
  ·rw[e1,←List.append_assoc]
   exact S.pw [0,1,2]
 ·have hie:i=g.l:=by omega
  subst hie
  have htk:g.gr.nodes.take g.l=g.gr.nodes:=List.take_of_length_le (by simp[Gv.gr];omega)
  rw[htk] at S hb9
  (repeat (first|((with_reducible refine aU ?_);refine af (S.cell 2 rfl rfl) ?_)))
  refine aC S (fun b28 _ _ S=> ?_)
  dsimp only[List.cons_append,List.nil_append] at S
  refine(oF ((S.into [0,1] [3] []).rowB 0) 0 (xs:=[g.out]) rfl (k:=1) rfl (by omega)).mono ?_
  rintro _ _ ⟨rfl,p2,c2,S1⟩
  refine⟨rfl,?_⟩
  replace S:=S.back [0,1] S1
  try dsimp only[bO,List.set,List.cons_append,List.nil_append] at S
  (repeat (first|((with_reducible refine zl ?_);refine tA (S.cell 0 rfl rfl) ?_)))
  have e1:(bd|| !decide (bo 0 255 [g.out]))= !decide g.gr.fit:=by
   have:((bd|| !decide (bo 0 255 [g.out]))=false)↔((!decide g.gr.fit)=false):=by
    rw[Bool.or_eq_false_iff,hbd,htk,Bool.not_eq_false',decide_eq_true_eq,Bool.not_eq_false',decide_eq_true_eq,←gok1]
    simp only[Gr.fit,Gv.gr,List.length_map,and_assoc]
   cases h1:(bd|| !decide (bo 0 255 [g.out]))<;>cases h2:(!decide g.gr.fit)<;>simp_all
  rw[e1] at S ⊢
  by_cases hf:g.gr.fit
  ·have eo:g.gr.out2=(fi++g.gr.enc,0):=by unfold Gr.out2;rw[if_pos hf]
   rw[eo]
   refine bQ (by simp[hf]) ?_
   refine(Om (S.pw [0,1])).mono ?_
   rintro _ _ ⟨rfl,rfl⟩
   refine⟨_,rfl,?_⟩
   have hlen:(hd++g.gr.nodes.flatMap Nd.enc++dg [g.out]).length<2 ^ 40:=by rw[List.length_append,bI,List.length_cons,List.length_nil];omega
   have em:(ByteArray.mk #[69,65,82,49])=str fi:=rfl
   rw[em]
   refine kK (by rw[cE,cE];unfold fi;simp only[List.length_cons,List.length_nil];omega) ?_
   refine⟨?_,S.fra⟩
   rw[jF]
   congr 5
   have:g.gr.enc=hd++g.gr.nodes.flatMap Nd.enc++dg [g.out]:=by
    rw[←hhd,←gok1]
    simp only[Gr.enc,Gv.gr,List.length_map]
   rw[this]
  ·have eo:g.gr.out2=([],22):=by unfold Gr.out2;rw[if_neg hf]
   rw[eo]
   exact cq (by simp[hf]) ⟨rfl,S.fra⟩
end
end Go.Proofs.YtdhpmegbmjoekaaGreatDoor.G
end
