/- CModelW CModelE, in one text. -/
import Derived.Test.YtdhpmegbmjoekaaGreatDoorCNode
set_option linter.unusedVariables false
set_option linter.unusedSimpArgs false
namespace Go.Proofs.YtdhpmegbmjoekaaGreatDoor.G
open Go Go.Sh
section
abbrev wv (b:Nat) (p:Option Addr) (c:Nat) (bs:List UInt8) (bad:Bool):aY:=wx b (bs.length:Int) p bs.length c [.bool bad]
abbrev wo (p:Option Addr) (c:Nat) (bs:List UInt8):aY:=own 1 p bs.length c (FM bs)
section
variable {h:af} {T:Nat→Prop} {R:List aY} {b c:Nat} {p:Option Addr} {bs:List UInt8} {bad:Bool}
theorem C5 {e:af} {new:List UInt8} (w:Gh T b (bs.length:Int) bs.length [.bool bad] bs new h e): ∃d a,aJ h T e [wv b d a (bs++new) bad,wo d a (bs++new)] []:=by
 obtain⟨d,a,S⟩:=w;have f:(bs.length:Int)+(new.length:Int)=((bs++new).length:Int):=by simp
 have g:bs.length+new.length=(bs++new).length:=by simp
 rw[f,g] at S;exact⟨d,a,S⟩
theorem Sv (x:Int) (S:aJ h T h [wv b p c bs bad,wo p c bs] []) (f:bs.length<2 ^ 40):au P gR #[.pointer (some ⟨b,0,none⟩),.int .i64 x] h fun v d=>v= .tuple #[]∧ ∃e a,aJ h T d [wv b e a (bs++Qq x) bad,wo e a (bs++Qq x)] []:=
 (RX x S f (by omega)).mono fun v d ⟨g,w⟩=>⟨g,C5 w⟩
theorem Ri (x:Int) (S:aJ h T h [wv b p c bs bad,wo p c bs] []) (f:bs.length<2 ^ 40):au P eM #[.pointer (some ⟨b,0,none⟩),.int .i64 x] h fun v d=>v= .tuple #[]∧ ∃e a,aJ h T d [wv b e a (bs++low (IntKind.wrap .u64 x) 2) bad,wo e a (bs++low (IntKind.wrap .u64 x) 2)] []:=
 (LX x S f (by omega)).mono fun v d ⟨g,w⟩=>⟨g,C5 w⟩
theorem Sw (x:Int) (S:aJ h T h [wv b p c bs bad,wo p c bs] []) (f:bs.length<2 ^ 40):au P fD #[.pointer (some ⟨b,0,none⟩),.int .i64 x] h fun v d=>v= .tuple #[]∧ ∃e a,aJ h T d [wv b e a (bs++low (IntKind.wrap .u64 x) 4) bad,wo e a (bs++low (IntKind.wrap .u64 x) 4)] []:=
 (Om x S f (by omega)).mono fun v d ⟨g,w⟩=>⟨g,C5 w⟩
theorem Te {q:Option Addr} {k d:Nat} {xs:List Int} (S:aJ h T h [wv b p c bs bad,wo p c bs] [row q (az xs)]) (a:xs.length=k) (i:bs.length<2 ^ 39) (l:k≤2 ^ 20):
 au P iG #[.pointer (some ⟨b,0,none⟩),.slice q k d] h fun v f=>v= .tuple #[]∧ ∃g e,aJ h T f [wv b g e (bs++rowB xs) bad,wo g e (bs++rowB xs)] []:=
 (SN S a i (by omega)).mono fun v f ⟨j,w⟩=>⟨j,C5 w⟩
theorem Fk {n:Int} {l:Nat} (S:aJ h T h [wx b n p l c [.bool bad]] R) (w:Nat) {q:Option Addr} {k d:Nat} {xs:List Int} (y:R[w]? =some (row q (az xs))) (H:xs.length=k) (E:k<2 ^ 62) (lo hi:Int):
 au P dg #[.pointer (some ⟨b,0,none⟩),.int .i64 lo,.int .i64 hi,.slice q k d] h fun v z=>v= .tuple #[]∧aJ h T z [wx b n p l c [.bool (bad|| !decide (bv lo hi xs))]] R:=by
 refine rO _ _ _ _ _ _ ?_;unfold oM;refine aP (fun m s g=> ∃i:Nat,s=(some ⟨b,0,none⟩,lo,hi,(q,k,d),(k:Int),(i:Int),())∧i≤k∧m=k-i∧aJ h T g [wx b n p l c [.bool (bad|| !decide (bv lo hi (xs.take i)))]] R) k
  ⟨0,rfl,by omega,rfl,by simpa[dO] using S⟩ ?_
 rintro m s g ⟨i,rfl,D,rfl,S⟩;unfold lI;dsimp only;refine am (fun F=> ?_) (fun C=> ?_)
 ·have a:i<xs.length:=by omega
  have u:=S.row w y;obtain⟨r,rfl⟩:=u.some_of (by rw[av];omega);refine aB rfl rfl (by omega) ?_;simp only[oe,US];refine ae (u.cell (aI (aO a))) ?_;rw[al (by omega)];have key: ∀j v,v=(bad|| !decide (bv lo hi (xs.take (i+1))))→aJ h T j [wx b n p l c [.bool v]] R→ ∃m,m<k-i∧ ∃f:Nat,((some (⟨b,0,none⟩:Addr),lo,hi,(some r,k,d),(k:Int),(i:Int)+1,()):Option Addr×Int×Int×(Option Addr×Nat×Nat)×Int×Int×Unit)=(some ⟨b,0,none⟩,lo,hi,(some r,k,d),(k:Int),(f:Int),())∧f≤k∧m=k-f∧aJ h T j [wx b n p l c [.bool (bad|| !decide (bv lo hi (xs.take f)))]] R:=
   fun j v G S=>⟨k-(i+1),by omega,i+1,rfl,by omega,rfl,by rw[←G];exact S⟩
  have o:=iJ (lo:=lo) (hi:=hi) a
  (repeat (first|with_reducible refine bz ?_|((with_reducible refine A7 ?_);refine jz (S.cell 0 rfl rfl) ?_)));refine oT (fun e=> ?_) (fun e=> ?_)
  ·(repeat (first|with_reducible refine bz ?_|((with_reducible refine nL ?_);refine aE S 0 rfl (jb rfl) (fun _ _ S=> ?_);try dsimp only[List.set,Xi,Xj] at S)));refine key _ true ?_ S;rcases W5 _ _▸e with e|e
   ·rw[e];rfl
   ·rw[Wh,decide_eq_false_iff_not] at e;rw[decide_eq_false (fun h=>e (o.1 h).1)];simp
  ·rw[Ws] at e;have x:bv lo hi (xs.take i):=by have:=e.2;simpa using this
   refine am (fun A=> ?_) (fun A=> ?_)
   ·(repeat (first|with_reducible refine bz ?_|((with_reducible refine nL ?_);refine aE S 0 rfl (jb rfl) (fun _ _ S=> ?_);try dsimp only[List.set,Xi,Xj] at S)));refine key _ true ?_ S;rw[decide_eq_false (fun h=>by have:=(o.1 h).2;omega)];simp
   ·(repeat (first|with_reducible refine bz ?_|((with_reducible refine nL ?_);refine aE S 0 rfl (jb rfl) (fun _ _ S=> ?_);try dsimp only[List.set,Xi,Xj] at S)));refine key _ _ ?_ S;rw[e.1,Bool.false_or,←decide_not,decide_eq_decide,o];constructor
    ·rintro t ⟨_,B⟩;omega
    ·intro t;apply Decidable.byContradiction;intro B;exact t ⟨x,by omega⟩
 ·have:i=k:=by omega
  subst this;rw[N6 (by omega)] at S;exact⟨by trivial,S⟩
theorem oY (S:aJ h T h [wv b p c bs bad,wo p c bs] R) (j:Nat) {q:Option Addr} {k d:Nat} {xs:List Int} (o:R[j]? =some (row q (az xs))) (z:xs.length=k) (D:bs.length+k<2 ^ 40):
 au P ck #[.pointer (some ⟨b,0,none⟩),.slice q k d] h fun v w=>v= .tuple #[]∧ ∃e a,aJ h T w [wv b e a (bs++dw xs) (bad|| !decide (bv 0 255 xs)),wo e a (bs++dw xs)] R:=by
 refine qq _ _ _ _ ?_;unfold nG;have n:=S.into [0] [] [j];have u:Sh.pick R [j]=[row q (az xs)]:=by simp only[Sh.pick,o]
 rw[u] at n;refine(Fk n 0 rfl z (by omega) 0 255).mono ?_;rintro _ _ ⟨rfl,l⟩;refine⟨rfl,?_⟩;replace S:=S.back [0] l
 try dsimp only[bE,List.set,Xi,Xj] at S
 generalize (bad|| !decide (bv 0 255 xs))=bd at S;refine aP (fun m s g=> ∃(i:Nat) (e:Option Addr) (a:Nat),s=(some ⟨b,0,none⟩,(q,k,d),(k:Int),(i:Int),())∧i≤k∧m=k-i∧aJ h T g [wv b e a (bs++dw (xs.take i)) bd,wo e a (bs++dw (xs.take i))] R) k
  ⟨0,p,c,rfl,by omega,rfl,by simpa[dw] using S⟩ ?_
 rintro m s g ⟨i,e,a,rfl,y,rfl,S⟩;unfold kF;dsimp only;refine am (fun A=> ?_) (fun x=> ?_)
 ·have f:i<xs.length:=by omega
  have r:=S.row j o;obtain⟨C,rfl⟩:=r.some_of (by rw[av];omega);refine aB rfl rfl (by omega) ?_;simp only[oe,US];refine ae (r.cell (aI (aO f))) (bz ?_);refine(Sv xs[i] (S.into [0,1] [] []) (by rw[Rb,bU,U0];omega)).mono ?_;rintro _ _ ⟨rfl,B,t,l⟩;refine⟨rfl,?_⟩;replace S:=S.back [0,1] l
  try dsimp only[bE,List.set,Xi,Xj] at S
  rw[U6,←Gj f] at S;rw[al (by omega)];exact⟨k-(i+1),by omega,i+1,B,t,rfl,by omega,rfl,S⟩
 ·have:i=k:=by omega
  subst this;rw[N6 (by omega)] at S;exact⟨by trivial,e,a,S⟩
theorem Mu (S:aJ h T h [wv b p c bs bad,wo p c bs] R) (j:Nat) {q:Option Addr} {k d:Nat} {xs:List Int} (o:R[j]? =some (row q (az xs))) (z:xs.length=k) (D:bs.length+4*k<2 ^ 40):
 au P gi #[.pointer (some ⟨b,0,none⟩),.slice q k d] h fun v w=>v= .tuple #[]∧ ∃e a,aJ h T w [wv b e a (bs++words xs) (bad|| !decide (bv gz gH xs)),wo e a (bs++words xs)] R:=by
 refine pN _ _ _ _ ?_;unfold mX;have n:=S.into [0] [] [j];have u:Sh.pick R [j]=[row q (az xs)]:=by simp only[Sh.pick,o]
 rw[u] at n;refine(Fk n 0 rfl z (by omega) gz gH).mono ?_;rintro _ _ ⟨rfl,l⟩;refine⟨rfl,?_⟩;replace S:=S.back [0] l
 try dsimp only[bE,List.set,Xi,Xj] at S
 generalize (bad|| !decide (bv gz gH xs))=bd at S;refine aP (fun m s g=> ∃(i:Nat) (e:Option Addr) (a:Nat),s=(some ⟨b,0,none⟩,(q,k,d),(k:Int),(i:Int),())∧i≤k∧m=k-i∧aJ h T g [wv b e a (bs++words (xs.take i)) bd,wo e a (bs++words (xs.take i))] R) k
  ⟨0,p,c,rfl,by omega,rfl,by simpa[words] using S⟩ ?_
 rintro m s g ⟨i,e,a,rfl,y,rfl,S⟩;unfold kx;dsimp only;refine am (fun A=> ?_) (fun x=> ?_)
 ·have f:i<xs.length:=by omega
  have r:=S.row j o;obtain⟨C,rfl⟩:=r.some_of (by rw[av];omega);refine aB rfl rfl (by omega) ?_;simp only[oe,US];refine ae (r.cell (aI (aO f))) (bz ?_);refine(Sw xs[i] (S.into [0,1] [] []) (by rw[Rb,cM,U0];omega)).mono ?_;rintro _ _ ⟨rfl,B,t,l⟩;refine⟨rfl,?_⟩;replace S:=S.back [0,1] l
  try dsimp only[bE,List.set,Xi,Xj] at S
  rw[U6,←xF f] at S;rw[al (by omega)];exact⟨k-(i+1),by omega,i+1,B,t,rfl,by omega,rfl,S⟩
 ·have:i=k:=by omega
  subst this;rw[N6 (by omega)] at S;exact⟨by trivial,e,a,S⟩
def nT (ss:List Sl):List UInt8:=ss.flatMap fun s=>rowB s.xs
def tr (ss:List Sl):Prop:= ∀s∈ss,s.xs.length≤65535∧bv gz gH s.xs
instance (ss:List Sl):Decidable (tr ss):=by unfold tr;infer_instance
end
end
section
theorem Tf (b:Bool) (p q:Prop) [Decidable p] [Decidable q]:((b|| !decide p)|| !decide q)=(b|| !decide (p∧q)):=by
 cases b<;>by_cases a:p<;>by_cases d:q<;>simp[a,d]
theorem Lj {ss:List Sl} {i:Nat} (hi:i<ss.length):nT (ss.take (i+1))=nT (ss.take i)++rowB ss[i].xs:=by
 rw[py hi];unfold nT;rw[WB];simp only[VA,Wz,Vh]
theorem Lk {ss:List Sl} {i:Nat} (hi:i<ss.length):tr (ss.take (i+1))↔tr (ss.take i)∧(ss[i].xs.length≤65535∧bv gz gH ss[i].xs):=by
 rw[py hi];unfold tr;constructor
 ·intro h;exact⟨fun x a=>h x (Vu _ a),h _ (VV _ (by simp))⟩
 ·rintro⟨d,e⟩ x a;rcases UX.1 a with a|a
  ·exact d x a
  ·simp only[SH] at a;subst a;exact e
theorem sf: ∀(ss:List Sl),(∀s∈ss,s.xs.length≤2 ^ 20)→(nT ss).length≤ss.length*2 ^ 23
 |[],_=>by simp[nT]
 |s::r,h=>by
  have a:=sf r fun x d=>h x (by simp[d]);have e:=tP s.xs;have f:=h s (by simp);unfold nT at a ⊢;simp only[VA,Rb,UY,Vt];omega
section
variable {h:af} {T:Nat→Prop} {R:List aY} {b c:Nat} {p:Option Addr} {bs:List UInt8} {bad:Bool}
theorem Sx (S:aJ h T h [wv b p c bs bad,wo p c bs] R) (D w:Nat) {q:Option Addr} {k d:Nat} {ss:List Sl} (x:R[D]? =some (row q (ss.map Sl.v))) (G:R[w]? =some (bP (ss.map Sl.row))) (V:ss.length=k) (L:k≤8)
 (B: ∀s∈ss,s.ok∧s.xs.length≤2 ^ 20) (W:bs.length<2 ^ 38):
 au P jh #[.pointer (some ⟨b,0,none⟩),.slice q k d] h fun v H=>v= .tuple #[]∧ ∃n j,aJ h T H [wv b n j (bs++nT ss) (bad|| !decide (tr ss)),wo n j (bs++nT ss)] R:=by
 refine qS _ _ _ _ ?_;unfold oo;refine aP (fun m s g=> ∃(i:Nat) (n:Option Addr) (j:Nat),s=(some ⟨b,0,none⟩,(q,k,d),(k:Int),(i:Int),())∧i≤k∧m=k-i∧aJ h T g [wv b n j (bs++nT (ss.take i)) (bad|| !decide (tr (ss.take i))),wo n j (bs++nT (ss.take i))] R) k
  ⟨0,p,c,rfl,by omega,rfl,by simpa[nT,tr] using S⟩ ?_
 rintro m s g ⟨i,n,j,rfl,K,rfl,S⟩;unfold ln;dsimp only;refine am (fun M=> ?_) (fun J=> ?_)
 ·have f:i<ss.length:=by omega
  have C:=S.row D x;obtain⟨Q,rfl⟩:=C.some_of (by simp;omega);have a:ss[i]∈ss:=UU f;obtain⟨⟨e,A⟩,N⟩:=B _ a;have u:=sf (ss.take i) fun s h=>(B s (VX h)).2;rw[U0] at u;have I:min i ss.length*2 ^ 23≤8*2 ^ 23:=Vn _ (by omega);have y:(bs++nT (ss.take i)).length<2 ^ 39:=by rw[Rb];omega
  refine aB rfl rfl (by omega) ?_;simp only[oe,US];refine ak (C.cell (by rw[UW,aO f];rfl)) ?_;refine aA S (fun U _ _ S=> ?_);dsimp only[Xi,Xj] at S;refine(Fk ((S.into [0] [2] []).rowB 0) 0 (xs:=[((ss[i].l:Nat):Int)]) rfl (k:=1) rfl (by decide) 0 65535).mono ?_;rintro _ _ ⟨rfl,t⟩;refine⟨rfl,?_⟩;replace S:=S.back [0] t
  try dsimp only[bE,List.set,Xi,Xj] at S
  have o:=S.into [0] [] [w];have z:Sh.pick R [w]=[bP (ss.map Sl.row)]:=by simp only[Sh.pick,G]
  rw[z] at o;have r:=o.oneOf 0 (U5.2 ⟨_,a,rfl⟩);dsimp only[Sh.pick,List.getElem?_cons_zero,Xj,List.set] at r;refine(Fk r 0 rfl e (by omega) gz gH).mono ?_;rintro _ _ ⟨rfl,t⟩;refine⟨rfl,?_⟩;replace S:=S.back [0] t
  try dsimp only[bE,List.set,Xi,Xj] at S
  refine bz ?_;have o:=S.into [0,1] [] [w];rw[z] at o;have r:=o.oneOf 0 (U5.2 ⟨_,a,rfl⟩);dsimp only[Sh.pick,List.getElem?_cons_zero,List.getElem?_cons_succ,Xj,List.set] at r;refine(Te r e y (by omega)).mono ?_;rintro _ _ ⟨rfl,O,E,t⟩;refine⟨rfl,?_⟩;replace S:=S.back [0,1] t
  try dsimp only[bE,List.set,Xi,Xj] at S
  rw[al (by omega)];refine⟨k-(i+1),by omega,i+1,O,E,rfl,by omega,rfl,?_⟩;rw[U6,←Lj f,Tf,Tf] at S;have F:decide (tr (ss.take i)∧bv 0 65535 [((ss[i].l:Nat):Int)]∧bv gz gH ss[i].xs)=decide (tr (ss.take (i+1))):=by
   rw[decide_eq_decide,Lk f,←e];have:bv 0 65535 [((ss[i].xs.length:Nat):Int)]↔ss[i].xs.length≤65535:=by unfold bv;simp;omega
   rw[this]
  rw[F] at S;exact S.pw [0,1]
 ·have:i=k:=by omega
  subst this;rw[N6 (by omega)] at S;exact⟨by trivial,n,j,S⟩
theorem Rj (S:aJ h T h [wv b p c bs bad,wo p c bs] R) (r:Nat) {nv:Nv} (M:R[r]? =some nv.rows) (s:nv.ok) (t:nv.nd.short) (X:bs.length<2 ^ 36):
 au P ji #[.pointer (some ⟨b,0,none⟩),nv.v] h fun v N=>v= .tuple #[]∧ ∃C y,aJ h T N [wv b C y (bs++nv.nd.enc) (bad|| !decide nv.nd.fit),wo C y (bs++nv.nd.enc)] R:=by
 refine qT _ _ ?_;unfold ou;obtain⟨q,u,w⟩:=s;have B:nv.inn.xs.length≤2 ^ 20:=t.1;have i:nv.weights.xs.length≤2 ^ 20:=t.2.1;have e:nv.bias.xs.length≤2 ^ 20:=t.2.2;have A:=q.1;refine aA (cs:=nv.cells) S fun U W _ S=> ?_;have z:Sh.pick R [r]=[nv.rows]:=by simp only[Sh.pick,M]
 dsimp only[Xi,Xj] at S
 (repeat (first|((with_reducible refine aV ?_);refine ae (S.cell 2 rfl rfl) ?_)|((with_reducible refine cg ?_);refine ak (S.cell 2 rfl rfl) ?_)));refine aA S (fun V _ _ S=> ?_);dsimp only[Xi,Xj] at S;refine(oY ((S.into [0,1] [3] []).rowB 0) 0 (xs:=[nv.kind,((nv.inn.l:Nat):Int)]) rfl (k:=2) rfl (by omega)).mono ?_;rintro _ _ ⟨rfl,j,d,a⟩;refine⟨rfl,?_⟩;replace S:=S.back [0,1] a
 try dsimp only[bE,List.set,Xi,Xj] at S
 replace S:=S.pw [0,1,2];dsimp only[Sh.pick,List.getElem?_cons_zero,List.getElem?_cons_succ] at S
 (repeat (first|((with_reducible refine cg ?_);refine ak (S.cell 2 rfl rfl) ?_)));have m:=S.into [0,1] [] [r];rw[z] at m;have n:=m.oneOf 0 (l:=[nv.inn.row,nv.weights.row,nv.bias.row]) (f:=nv.inn.row) (by simp);dsimp only[Sh.pick,List.getElem?_cons_zero,List.getElem?_cons_succ,Xj,List.set] at n;refine(oY n 0 rfl q.1 (by rw[Rb,bU,UY,UY,Vf];omega)).mono ?_;rintro _ _ ⟨rfl,j,d,a⟩;refine⟨rfl,?_⟩;replace S:=S.back [0,1] a
 try dsimp only[bE,List.set,Xi,Xj] at S
 (repeat (first|((with_reducible refine aV ?_);refine ae (S.cell 2 rfl rfl) ?_)));refine aA S (fun D _ _ S=> ?_);dsimp only[Xi,Xj] at S;refine(oY ((S.into [0,1] [3] []).rowB 0) 0 (xs:=[nv.width,nv.size,nv.step,nv.gap,nv.left,nv.right]) rfl (k:=6) rfl (by simp only[Rb,bU,UY,Vf];omega)).mono ?_;rintro _ _ ⟨rfl,j,d,a⟩;refine⟨rfl,?_⟩;replace S:=S.back [0,1] a
 try dsimp only[bE,List.set,Xi,Xj] at S
 replace S:=S.pw [0,1,2];dsimp only[Sh.pick,List.getElem?_cons_zero,List.getElem?_cons_succ] at S
 (repeat (first|((with_reducible refine cg ?_);refine ak (S.cell 2 rfl rfl) ?_)));refine aA S (fun E _ _ S=> ?_);dsimp only[Xi,Xj] at S;have m:=S.into [0,1] [3] [r];rw[z] at m;have n:=(m.rowB 0).view 1 (g:=nv.rows) rfl (bP ([nv.weights,nv.bias].map Sl.row)) (fun H f o=>H f (by simp at o ⊢;rcases o with rfl|rfl<;>simp)) (fun x ⟨f,o,Q⟩=>⟨f,by simp at o ⊢;rcases o with rfl|rfl<;>simp,Q⟩);dsimp only[Sh.pick,List.getElem?_cons_zero,List.getElem?_cons_succ,Xj,Xi,List.set] at n;refine(Sx n 0 1 (ss:=[nv.weights,nv.bias]) rfl rfl (k:=2) rfl (by decide) (by simp;exact⟨⟨u,i⟩,⟨w,e⟩⟩) (by simp only[Rb,bU,UY,Vf];omega)).mono ?_;rintro _ _ ⟨rfl,j,d,a⟩;refine⟨rfl,?_⟩;replace S:=S.back [0,1] a
 try dsimp only[bE,List.set,Xi,Xj] at S
 replace S:=S.pw [0,1,2];dsimp only[Sh.pick,List.getElem?_cons_zero,List.getElem?_cons_succ] at S;have O:(nT [nv.weights,nv.bias]).length≤2 ^ 24:=by
  have:=sf [nv.weights,nv.bias] (by simp;exact⟨i,e⟩);simpa using this
 (repeat (first|((with_reducible refine aV ?_);refine ae (S.cell 2 rfl rfl) ?_)));refine aA S (fun F _ _ S=> ?_);dsimp only[Xi,Xj] at S;refine(Fk ((S.into [0] [3] []).rowB 0) 0 (xs:=[nv.mult]) rfl (k:=1) rfl (by decide) 0 65535).mono ?_;rintro _ _ ⟨rfl,a⟩;refine⟨rfl,?_⟩;replace S:=S.back [0] a
 try dsimp only[bE,List.set,Xi,Xj] at S
 refine bz ?_
 (repeat (first|((with_reducible refine aV ?_);refine ae (S.cell 2 rfl rfl) ?_)));refine(Ri nv.mult (S.into [0,1] [] []) (by simp only[Rb,bU,UY,Vf];omega)).mono ?_;rintro _ _ ⟨rfl,j,d,a⟩;refine⟨rfl,?_⟩;replace S:=S.back [0,1] a
 try dsimp only[bE,List.set,Xi,Xj] at S
 replace S:=S.pw [0,1,2];dsimp only[Sh.pick,List.getElem?_cons_zero,List.getElem?_cons_succ] at S
 (repeat (first|((with_reducible refine aV ?_);refine ae (S.cell 2 rfl rfl) ?_)));refine aA S (fun G _ _ S=> ?_);dsimp only[Xi,Xj] at S;refine(oY ((S.into [0,1] [3] []).rowB 0) 0 (xs:=[nv.shift]) rfl (k:=1) rfl (by simp only[Rb,bU,ce,UY,Vf];omega)).mono ?_;rintro _ _ ⟨rfl,j,d,a⟩;refine⟨rfl,?_⟩;replace S:=S.back [0,1] a
 try dsimp only[bE,List.set,Xi,Xj] at S
 replace S:=S.pw [0,1,2];dsimp only[Sh.pick,List.getElem?_cons_zero,List.getElem?_cons_succ] at S
 (repeat (first|((with_reducible refine aV ?_);refine ae (S.cell 2 rfl rfl) ?_)));refine aA S (fun I _ _ S=> ?_);dsimp only[Xi,Xj] at S;refine(Mu ((S.into [0,1] [3] []).rowB 0) 0 (xs:=[nv.low,nv.high]) rfl (k:=2) rfl (by simp only[Rb,bU,ce,UY,Vf];omega)).mono ?_;rintro _ _ ⟨rfl,j,d,a⟩;refine⟨rfl,?_⟩;replace S:=S.back [0,1] a
 try dsimp only[bE,List.set,Xi,Xj] at S
 replace S:=S.pw [0,1,2];dsimp only[Sh.pick,List.getElem?_cons_zero,List.getElem?_cons_succ] at S
 (repeat (first|((with_reducible refine aV ?_);refine ae (S.cell 2 rfl rfl) ?_)));refine aA S (fun J _ _ S=> ?_);dsimp only[Xi,Xj] at S;refine(oY ((S.into [0,1] [3] []).rowB 0) 0 (xs:=[nv.post]) rfl (k:=1) rfl (by simp only[Rb,bU,ce,cM,UY,Vf];omega)).mono ?_;rintro _ _ ⟨rfl,j,d,a⟩;refine⟨rfl,?_⟩;replace S:=S.back [0,1] a
 try dsimp only[bE,List.set,Xi,Xj] at S
 replace S:=S.pw [0,1];dsimp only[Sh.pick,List.getElem?_cons_zero,List.getElem?_cons_succ] at S;refine⟨rfl,j,d,?_⟩;simp only[Tf] at S;have K:bs++nv.nd.enc=bs++dw [nv.kind,((nv.inn.l:Nat):Int)]++dw nv.inn.xs++dw [nv.width,nv.size,nv.step,nv.gap,nv.left,nv.right]++nT [nv.weights,nv.bias]++low (IntKind.wrap .u64 nv.mult) 2++dw [nv.shift]++words [nv.low,nv.high]++dw [nv.post]:=by
  rw[←A];simp only[Nd.enc,Nv.nd,nT,VA,Wz,Vh,U6]
 rw[K];have L:decide nv.nd.fit=decide (((((((bv 0 255 [nv.kind,((nv.inn.l:Nat):Int)]∧bv 0 255 nv.inn.xs)∧bv 0 255 [nv.width,nv.size,nv.step,nv.gap,nv.left,nv.right])∧tr [nv.weights,nv.bias])∧bv 0 65535 [nv.mult])∧bv 0 255 [nv.shift])∧bv gz gH [nv.low,nv.high])∧bv 0 255 [nv.post]):=by
  rw[decide_eq_decide,←A];simp only[Nd.fit,Nv.nd,tr,List.forall_mem_cons,VU,false_implies,implies_true,and_true,and_assoc]
 rw[L];exact S
theorem Pz {g:Gv} (hp:bI h g.p (aF g.ns)) (hr:(aU g.ns).P h) (O:g.ok) (Q:g.gr.short):
 au P nh #[g.v] h fun v h'=>v= .tuple #[.string (str g.gr.out2.1),.int .i64 g.gr.out2.2]∧cp no h h':=by
 refine yI _ ?_;unfold yH;have S:=((aJ.start h no).read (row g.p (aF g.ns)) hp).read (aU g.ns) hr;dsimp only[Xi,Xj] at S;obtain⟨r,Y,A⟩:=O;have H:g.l≤1000:=by have:=Q.1;simp[Gv.gr] at this;omega
 refine aA S (fun I _ _ S=> ?_);refine aA S (fun J _ _ S=> ?_);replace S:=S.nil 1;dsimp only[Xi,Xj] at S
 (repeat (first|((with_reducible refine aV ?_);refine ae (S.cell 0 rfl rfl) ?_)));have W:aJ h no _ [wv J none 0 [] false,wo none 0 [],blk I [.int .i64 g.width,.int .i64 g.low,.int .i64 g.high,.slice g.p g.l g.c,.int .i64 g.out]] _:=S.pw [1,2,0];clear S;have S:=W;clear W;refine aA S (fun b6 _ _ S=> ?_);dsimp only[Xi,Xj] at S;refine(oY ((S.into [0,1] [3] []).rowB 0) 0 (xs:=[g.width]) rfl (k:=1) rfl (by decide)).mono ?_;rintro _ _ ⟨rfl,z,y,o⟩;refine⟨rfl,?_⟩;replace S:=S.back [0,1] o
 try dsimp only[bE,List.set,Xi,Xj] at S
 replace S:=S.pw [0,1,2];dsimp only[Sh.pick,List.getElem?_cons_zero,List.getElem?_cons_succ] at S
 (repeat (first|((with_reducible refine aV ?_);refine ae (S.cell 2 rfl rfl) ?_)));refine aA S (fun ad _ _ S=> ?_);dsimp only[Xi,Xj] at S;refine(Mu ((S.into [0,1] [3] []).rowB 0) 0 (xs:=[g.low,g.high]) rfl (k:=2) rfl (by simp only[Rb,bU,UY,Vf];omega)).mono ?_;rintro _ _ ⟨rfl,z,y,o⟩;refine⟨rfl,?_⟩;replace S:=S.back [0,1] o
 try dsimp only[bE,List.set,Xi,Xj] at S
 replace S:=S.pw [0,1,2];dsimp only[Sh.pick,List.getElem?_cons_zero,List.getElem?_cons_succ] at S
 (repeat (first|((with_reducible refine cg ?_);refine ak (S.cell 2 rfl rfl) ?_)));refine aA S (fun ag _ _ S=> ?_);dsimp only[Xi,Xj] at S;refine(oY ((S.into [0,1] [3] []).rowB 0) 0 (xs:=[((g.l:Nat):Int)]) rfl (k:=1) rfl (by simp only[Rb,bU,cM,UY,Vf];omega)).mono ?_;rintro _ _ ⟨rfl,z,y,o⟩;refine⟨rfl,?_⟩;replace S:=S.back [0,1] o
 try dsimp only[bE,List.set,Xi,Xj] at S
 replace S:=S.pw [0,1,2];dsimp only[Sh.pick,List.getElem?_cons_zero,List.getElem?_cons_succ] at S
 (repeat (first|((with_reducible refine cg ?_);refine ak (S.cell 2 rfl rfl) ?_)));generalize D:(dw [g.width]++words [g.low,g.high]++dw [((g.l:Nat):Int)]:List UInt8)=hd at S;have ar:hd.length=10:=by rw[←D];simp only[Rb,bU,cM,UY,Vf]
 generalize d:(false|| !decide (bv 0 255 [g.width])|| !decide (bv gz gH [g.low,g.high])|| !decide (bv 0 255 [((g.l:Nat):Int)]))=a at S;have t:a=false↔(bv 0 255 [g.width]∧bv gz gH [g.low,g.high]∧bv 0 255 [((g.l:Nat):Int)]):=by
  rw[←d];simp only[Bool.false_or,Ws,Wn,decide_eq_true_eq,and_assoc]
 clear d
 refine aP (fun m s X=> ∃(i:Nat) (V:Option Addr) (K:Nat) (a:Bool),s=(⟨I,0,none⟩,⟨J,0,none⟩,(g.p,g.l,g.c),(g.l:Int),(i:Int),())∧i≤g.l∧m=g.l-i∧
  (a=false↔((bv 0 255 [g.width]∧bv gz gH [g.low,g.high]∧bv 0 255 [((g.l:Nat):Int)])∧ ∀n∈g.gr.nodes.take i,n.fit))∧
  aJ h no X [wv J V K (hd++(g.gr.nodes.take i).flatMap Nd.enc) a,wo V K (hd++(g.gr.nodes.take i).flatMap Nd.enc),
   blk I [.int .i64 g.width,.int .i64 g.low,.int .i64 g.high,.slice g.p g.l g.c,.int .i64 g.out]] [row g.p (aF g.ns),aU g.ns]) g.l
  ⟨0,z,y,a,rfl,by omega,rfl,by rw[t];simp,by rw[Wf,Wz,Vh];exact S⟩ ?_
 clear t S a;rintro m s X ⟨i,V,K,a,rfl,aw,rfl,d,S⟩;unfold sw;dsimp only;have Z:=tR (g.gr.nodes.take i) fun n j=>Q.2 n (VX j);have ap:(g.gr.nodes.take i).length*2 ^ 24≤1000*2 ^ 24:=Vn _ (by rw[U0];omega);have C:(hd++(g.gr.nodes.take i).flatMap Nd.enc).length<2 ^ 36:=by rw[Rb];omega
 refine am (fun ax=> ?_) (fun u=> ?_)
 ·have x:i<g.ns.length:=by omega
  have U:=S.row 0 rfl;obtain⟨aa,ea⟩:=U.some_of (by rw[bW];omega);rw[ea] at U;refine aB ea rfl (by omega) ?_;simp only[oe];refine jd U (aO x) ?_;have e:g.ns[i]∈g.ns:=UU x;have q:g.gr.nodes[i]? =some g.ns[i].nd:=by simp[Gv.gr,x]
  generalize ay:g.ns[i]=nv at e q;refine aA S fun ai an _ S=> ?_;refine cA S 3 rfl rfl (bu rfl) fun ao _ S=> ?_;dsimp only[List.set,Xi,Xj] at S
  (repeat (first|((with_reducible refine oS ?_);refine aN S 3 rfl rfl ?_)));have P1:=(S.into [0,1] [] [1]).oneOf 0 (f:=nv.rows) (U5.2 ⟨_,e,rfl⟩);refine(Rj P1 0 rfl (A _ e) (Q.2 _ (UR q)) C).mono ?_;rintro _ _ ⟨rfl,z,y,o⟩;refine⟨rfl,?_⟩;replace S:=S.back [0,1] o
  try dsimp only[bE,List.set,Xi,Xj] at S
  rw[al (by omega)];have w:i<g.gr.nodes.length:=by simp[Gv.gr];omega
  have u:g.gr.nodes[i]=nv.nd:=by rw[aO w] at q;exact Option.some.inj q
  have L:(g.gr.nodes.take (i+1)).flatMap Nd.enc=(g.gr.nodes.take i).flatMap Nd.enc++nv.nd.enc:=by
   rw[py w,WB,u];simp
  refine⟨g.l-(i+1),by omega,i+1,z,y,a|| !decide nv.nd.fit,rfl,by omega,rfl,?_,?_⟩
  ·rw[Ws,d,Wn,decide_eq_true_eq,py w,u,and_assoc];constructor
   ·rintro⟨F,B,h3⟩;refine⟨F,fun n j=> ?_⟩;rcases UX.1 j with j|j
    ·exact B n j
    ·simp only[SH] at j;subst j;exact h3
   ·rintro⟨F,B⟩;exact⟨F,fun n j=>B n (Vu _ j),B _ (VV _ (by simp))⟩
  ·rw[L,←U6];exact S.pw [0,1,2]
 ·have N:i=g.l:=by omega
  subst N;have E:g.gr.nodes.take g.l=g.gr.nodes:=N6 (by simp[Gv.gr];omega);rw[E] at S C
  (repeat (first|((with_reducible refine aV ?_);refine ae (S.cell 2 rfl rfl) ?_)));refine aA S (fun aj _ _ S=> ?_);dsimp only[Xi,Xj] at S;refine(oY ((S.into [0,1] [3] []).rowB 0) 0 (xs:=[g.out]) rfl (k:=1) rfl (by omega)).mono ?_;rintro _ _ ⟨rfl,z,y,o⟩;refine⟨rfl,?_⟩;replace S:=S.back [0,1] o
  try dsimp only[bE,List.set,Xi,Xj] at S
  (repeat (first|((with_reducible refine A7 ?_);refine jz (S.cell 0 rfl rfl) ?_)));have L:(a|| !decide (bv 0 255 [g.out]))= !decide g.gr.fit:=by
   have:((a|| !decide (bv 0 255 [g.out]))=false)↔((!decide g.gr.fit)=false):=by
    rw[Ws,d,E,Wn,decide_eq_true_eq,Wn,decide_eq_true_eq,←r];simp only[Gr.fit,Gv.gr,UT,and_assoc]
   cases F:(a|| !decide (bv 0 255 [g.out]))<;>cases B:(!decide g.gr.fit)<;>simp_all
  rw[L] at S ⊢;by_cases G:g.gr.fit
  ·have M:g.gr.out2=(fO++g.gr.enc,0):=by unfold Gr.out2;rw[if_pos G]
   rw[M];refine bQ (by simp[G]) ?_;refine(Qp (S.pw [0,1])).mono ?_;rintro _ _ ⟨rfl,rfl⟩;refine⟨_,rfl,?_⟩;have ab:(hd++g.gr.nodes.flatMap Nd.enc++dw [g.out]).length<2 ^ 40:=by rw[Rb,bU,UY,Vf];omega
   have em:(ByteArray.mk #[69,65,82,49])=str fO:=rfl;rw[em];refine vJ (by rw[da,da];unfold fO;simp only[UY,Vf];omega) ?_;refine⟨?_,S.fra⟩;rw[rV];congr 5;have:g.gr.enc=hd++g.gr.nodes.flatMap Nd.enc++dw [g.out]:=by
    rw[←D,←r];simp only[Gr.enc,Gv.gr,UT]
   rw[this]
  ·have M:g.gr.out2=([],22):=by unfold Gr.out2;rw[if_neg G]
   rw[M];exact cI (by simp[G]) ⟨rfl,S.fra⟩
end
end
end Go.Proofs.YtdhpmegbmjoekaaGreatDoor.G

