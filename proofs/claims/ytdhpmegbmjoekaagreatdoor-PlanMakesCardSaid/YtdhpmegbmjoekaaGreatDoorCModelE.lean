/- CModelW CModelE, in one text. -/
import Derived.Test.YtdhpmegbmjoekaaGreatDoorCNode
set_option linter.unusedVariables false
set_option linter.unusedSimpArgs false
namespace Go.Proofs.YtdhpmegbmjoekaaGreatDoor.G
open Go Go.Sh
open Go.IntKind renaming wrap→kn
section
abbrev wv(b:Nat)(p:Option Addr)(c:Nat)(bs:List UInt8)(bad:Bool):bc:=wx b (bs.length:Int) p bs.length c [.bool bad]
abbrev wo(p:Option Addr)(c:Nat)(bs:List UInt8):bc:=own 1 p bs.length c (Ez bs)
section
variable {h:ah} {T:Nat→Prop} {R:List bc} {b c:Nat} {p:Option Addr} {bs:List UInt8} {bad:Bool}
theorem B7{e:ah}{new:List UInt8}(w:Fo T b (bs.length:Int) bs.length [.bool bad] bs new h e): ∃d a,aG h T e [wv b d a (bs++new) bad,wo d a (bs++new)] []:=by
 obtain⟨d,a,S⟩:=w;have f:(bs.length:Int)+(new.length:Int)=((bs++new).length:Int):=by simp
 have g:bs.length+new.length=(bs++new).length:=by simp
 rw[f,g]at S;exact⟨d,a,S⟩
theorem ST(x:Int)(S:aG h T h [wv b p c bs bad,wo p c bs] [])(f:bs.length<2 ^ 40):au P gP #[.pointer (some ⟨b,0,none⟩),.int .i64 x] h fun v d=>v= .tuple #[]∧ ∃e a,aG h T d [wv b e a (bs++O3 x) bad,wo e a (bs++O3 x)] []:=
 (SW x S f (by omega)).mono fun v d ⟨g,w⟩=>⟨g,B7 w⟩
theorem Q8(x:Int)(S:aG h T h [wv b p c bs bad,wo p c bs] [])(f:bs.length<2 ^ 40):au P eD #[.pointer (some ⟨b,0,none⟩),.int .i64 x] h fun v d=>v= .tuple #[]∧ ∃e a,aG h T d [wv b e a (bs++low (kn .u64 x) 2) bad,wo e a (bs++low (kn .u64 x) 2)] []:=
 (L5 x S f (by omega)).mono fun v d ⟨g,w⟩=>⟨g,B7 w⟩
theorem SU(x:Int)(S:aG h T h [wv b p c bs bad,wo p c bs] [])(f:bs.length<2 ^ 40):au P fi #[.pointer (some ⟨b,0,none⟩),.int .i64 x] h fun v d=>v= .tuple #[]∧ ∃e a,aG h T d [wv b e a (bs++low (kn .u64 x) 4) bad,wo e a (bs++low (kn .u64 x) 4)] []:=
 (O2 x S f (by omega)).mono fun v d ⟨g,w⟩=>⟨g,B7 w⟩
theorem TU{q:Option Addr}{k d:Nat}{xs:List Int}(S:aG h T h [wv b p c bs bad,wo p c bs] [row q (az xs)])(a:xs.length=k)(i:bs.length<2 ^ 39)(l:k≤2 ^ 20):
 au P im #[.pointer (some ⟨b,0,none⟩),.slice q k d] h fun v f=>v= .tuple #[]∧ ∃g e,aG h T f [wv b g e (bs++rowB xs) bad,wo g e (bs++rowB xs)] []:=
 (TX S a i (by omega)).mono fun v f ⟨j,w⟩=>⟨j,B7 w⟩
theorem Cg{n:Int}{l:Nat}(S:aG h T h [wx b n p l c [.bool bad]] R)(w:Nat){q:Option Addr}{k d:Nat}{xs:List Int}(y:R[w]? =some (row q (az xs)))(H:xs.length=k)(E:k<2 ^ 62)(lo hi:Int):
 au P de #[.pointer (some ⟨b,0,none⟩),.int .i64 lo,.int .i64 hi,.slice q k d] h fun v z=>v= .tuple #[]∧aG h T z [wx b n p l c [.bool (bad|| !decide (bv lo hi xs))]] R:=by
 refine qW _ _ _ _ _ _ ?_;unfold oe;refine aO (fun m s g=> ∃i:Nat,s=(some ⟨b,0,none⟩,lo,hi,(q,k,d),(k:Int),(i:Int),())∧i≤k∧m=k-i∧aG h T g [wx b n p l c [.bool (bad|| !decide (bv lo hi (xs.take i)))]] R) k
  ⟨0,rfl,by omega,rfl,by simpa[cK] using S⟩ ?_
 rintro m s g ⟨i,rfl,D,rfl,S⟩;unfold kV;dsimp only;refine aq (fun F=> ?_) (fun C=> ?_)
 ·have a:i<xs.length:=by omega
  have u:=S.row w y;obtain⟨r,rfl⟩:=u.some_of (by rw[av];omega);refine aC rfl rfl (by omega) ?_;simp only[hC,VO];refine ae (u.cell (aF (bo a))) ?_;rw[al (by omega)];have key: ∀j v,v=(bad|| !decide (bv lo hi (xs.take (i+1))))→aG h T j [wx b n p l c [.bool v]] R→ ∃m,m<k-i∧ ∃f:Nat,((some (⟨b,0,none⟩:Addr),lo,hi,(some r,k,d),(k:Int),(i:Int)+1,()):Option Addr×Int×Int×(Option Addr×Nat×Nat)×Int×Int×Unit)=(some ⟨b,0,none⟩,lo,hi,(some r,k,d),(k:Int),(f:Int),())∧f≤k∧m=k-f∧aG h T j [wx b n p l c [.bool (bad|| !decide (bv lo hi (xs.take f)))]] R:=
   fun j v G S=>⟨k-(i+1),by omega,i+1,rfl,by omega,rfl,by rw[←G];exact S⟩
  have o:=iv (lo:=lo) (hi:=hi) a
  (repeat (first|with_reducible refine bx ?_|((with_reducible refine zP ?_);refine fY (S.c 0) ?_)));refine oz (fun e=> ?_) (fun e=> ?_)
  ·(repeat (first|with_reducible refine bx ?_|((with_reducible refine m7 ?_);refine be S 0 rfl (OU rfl) (fun _ _ S=> ?_);try dsimp only[List.set,Yg,Yh]at S)));refine key _ true ?_ S;rcases X6 _ _▸e with e|e
   ·rw[e];rfl
   ·rw[Xg,decide_eq_false_iff_not]at e;rw[decide_eq_false (fun h=>e (o.1 h).1)];simp
  ·rw[Xn]at e;have x:bv lo hi (xs.take i):=by have:=e.2;simpa using this
   refine aq (fun A=> ?_) (fun A=> ?_)
   ·(repeat (first|with_reducible refine bx ?_|((with_reducible refine m7 ?_);refine be S 0 rfl (OU rfl) (fun _ _ S=> ?_);try dsimp only[List.set,Yg,Yh]at S)));refine key _ true ?_ S;rw[decide_eq_false (fun h=>by have:=(o.1 h).2;omega)];simp
   ·(repeat (first|with_reducible refine bx ?_|((with_reducible refine m7 ?_);refine be S 0 rfl (OU rfl) (fun _ _ S=> ?_);try dsimp only[List.set,Yg,Yh]at S)));refine key _ _ ?_ S;rw[e.1,Bool.false_or,←decide_not,decide_eq_decide,o];constructor
    ·rintro t ⟨_,B⟩;omega
    ·intro t;apply Decidable.byContradiction;intro B;exact t ⟨x,by omega⟩
 ·have:i=k:=by omega
  subst this;rw[py (by omega)]at S;exact⟨by trivial,S⟩
theorem nP(S:aG h T h [wv b p c bs bad,wo p c bs] R)(j:Nat){q:Option Addr}{k d:Nat}{xs:List Int}(o:R[j]? =some (row q (az xs)))(z:xs.length=k)(D:bs.length+k<2 ^ 40):
 au P cq #[.pointer (some ⟨b,0,none⟩),.slice q k d] h fun v w=>v= .tuple #[]∧ ∃e a,aG h T w [wv b e a (bs++dj xs) (bad|| !decide (bv 0 255 xs)),wo e a (bs++dj xs)] R:=by
 refine pM _ _ _ _ ?_;unfold mV;have n:=S.into [0] [] [j];have u:Sh.pick R [j]=[row q (az xs)]:=by simp only[Sh.pick,o]
 rw[u]at n;refine(Cg n 0 rfl z (by omega) 0 255).mono ?_;rintro _ _ ⟨rfl,l⟩;refine⟨rfl,?_⟩;replace S:=S.back [0] l
 try dsimp only[bY,List.set,Yg,Yh]at S
 generalize (bad|| !decide (bv 0 255 xs))=bd at S;refine aO (fun m s g=> ∃(i:Nat)(e:Option Addr)(a:Nat),s=(some ⟨b,0,none⟩,(q,k,d),(k:Int),(i:Int),())∧i≤k∧m=k-i∧aG h T g [wv b e a (bs++dj (xs.take i)) bd,wo e a (bs++dj (xs.take i))] R) k
  ⟨0,p,c,rfl,by omega,rfl,by simpa[dj] using S⟩ ?_
 rintro m s g ⟨i,e,a,rfl,y,rfl,S⟩;unfold kj;dsimp only;refine aq (fun A=> ?_) (fun x=> ?_)
 ·have f:i<xs.length:=by omega
  have r:=S.row j o;obtain⟨C,rfl⟩:=r.some_of (by rw[av];omega);refine aC rfl rfl (by omega) ?_;simp only[hC,VO];refine ae (r.cell (aF (bo f))) (bx ?_);refine(ST xs[i] (S.into [0,1] [] []) (by rw[Tz,bO,VV];omega)).mono ?_;rintro _ _ ⟨rfl,B,t,l⟩;refine⟨rfl,?_⟩;replace S:=S.back [0,1] l
  try dsimp only[bY,List.set,Yg,Yh]at S
  rw[VY,←Fq f]at S;rw[al (by omega)];exact⟨k-(i+1),by omega,i+1,B,t,rfl,by omega,rfl,S⟩
 ·have:i=k:=by omega
  subst this;rw[py (by omega)]at S;exact⟨by trivial,e,a,S⟩
theorem L2(S:aG h T h [wv b p c bs bad,wo p c bs] R)(j:Nat){q:Option Addr}{k d:Nat}{xs:List Int}(o:R[j]? =some (row q (az xs)))(z:xs.length=k)(D:bs.length+4*k<2 ^ 40):
 au P fS #[.pointer (some ⟨b,0,none⟩),.slice q k d] h fun v w=>v= .tuple #[]∧ ∃e a,aG h T w [wv b e a (bs++words xs) (bad|| !decide (bv fz fL xs)),wo e a (bs++words xs)] R:=by
 refine pO _ _ _ _ ?_;unfold mW;have n:=S.into [0] [] [j];have u:Sh.pick R [j]=[row q (az xs)]:=by simp only[Sh.pick,o]
 rw[u]at n;refine(Cg n 0 rfl z (by omega) fz fL).mono ?_;rintro _ _ ⟨rfl,l⟩;refine⟨rfl,?_⟩;replace S:=S.back [0] l
 try dsimp only[bY,List.set,Yg,Yh]at S
 generalize (bad|| !decide (bv fz fL xs))=bd at S;refine aO (fun m s g=> ∃(i:Nat)(e:Option Addr)(a:Nat),s=(some ⟨b,0,none⟩,(q,k,d),(k:Int),(i:Int),())∧i≤k∧m=k-i∧aG h T g [wv b e a (bs++words (xs.take i)) bd,wo e a (bs++words (xs.take i))] R) k
  ⟨0,p,c,rfl,by omega,rfl,by simpa[words] using S⟩ ?_
 rintro m s g ⟨i,e,a,rfl,y,rfl,S⟩;unfold kl;dsimp only;refine aq (fun A=> ?_) (fun x=> ?_)
 ·have f:i<xs.length:=by omega
  have r:=S.row j o;obtain⟨C,rfl⟩:=r.some_of (by rw[av];omega);refine aC rfl rfl (by omega) ?_;simp only[hC,VO];refine ae (r.cell (aF (bo f))) (bx ?_);refine(SU xs[i] (S.into [0,1] [] []) (by rw[Tz,cG,VV];omega)).mono ?_;rintro _ _ ⟨rfl,B,t,l⟩;refine⟨rfl,?_⟩;replace S:=S.back [0,1] l
  try dsimp only[bY,List.set,Yg,Yh]at S
  rw[VY,←wy f]at S;rw[al (by omega)];exact⟨k-(i+1),by omega,i+1,B,t,rfl,by omega,rfl,S⟩
 ·have:i=k:=by omega
  subst this;rw[py (by omega)]at S;exact⟨by trivial,e,a,S⟩
def mH(ss:List Sl):List UInt8:=ss.flatMap fun s=>rowB s.xs
def rM(ss:List Sl):Prop:= ∀s∈ss,s.xs.length≤65535∧bv fz fL s.xs
instance (ss:List Sl):Decidable (rM ss):=by unfold rM;infer_instance
end
end
section
theorem TV(b:Bool)(p q:Prop) [Decidable p] [Decidable q]:((b|| !decide p)|| !decide q)=(b|| !decide (p∧q)):=by
 cases b<;>by_cases a:p<;>by_cases d:q<;>simp[a,d]
theorem Ke{ss:List Sl}{i:Nat}(hi:i<ss.length):mH (ss.take (i+1))=mH (ss.take i)++rowB ss[i].xs:=by
 rw[gD hi];unfold mH;rw[XB];simp only[Ww,Xz,Wd]
theorem Kf{ss:List Sl}{i:Nat}(hi:i<ss.length):rM (ss.take (i+1))↔rM (ss.take i)∧(ss[i].xs.length≤65535∧bv fz fL ss[i].xs):=by
 rw[gD hi];unfold rM;constructor
 ·intro h;exact⟨fun x a=>h x (Wt _ a),h _ (WP _ (by simp))⟩
 ·rintro⟨d,e⟩ x a;rcases VW.1 a with a|a
  ·exact d x a
  ·simp only[VK]at a;subst a;exact e
theorem qm: ∀(a:List Sl),(∀s∈a,s.xs.length≤2 ^ 20)→(mH a).length≤a.length*2 ^ 23
 |[],_=>by simp[mH]
 |s::r,h=>by
  have d:=qm r fun x e=>h x (by simp[e]);have f:=sX s.xs;have g:=h s (by simp);unfold mH at d ⊢;simp only[Ww,Tz,VS,Wr];omega
section
variable {h:ah} {T:Nat→Prop} {R:List bc} {b c:Nat} {p:Option Addr} {bs:List UInt8} {bad:Bool}
theorem SV(S:aG h T h [wv b p c bs bad,wo p c bs] R)(D w:Nat){q:Option Addr}{k d:Nat}{ss:List Sl}(x:R[D]? =some (row q (ss.map Sl.v)))(G:R[w]? =some (cM (ss.map Sl.row)))(V:ss.length=k)(L:k≤8)
 (B: ∀s∈ss,s.ok∧s.xs.length≤2 ^ 20) (W:bs.length<2 ^ 38):
 au P i9 #[.pointer (some ⟨b,0,none⟩),.slice q k d] h fun v H=>v= .tuple #[]∧ ∃n j,aG h T H [wv b n j (bs++mH ss) (bad|| !decide (rM ss)),wo n j (bs++mH ss)] R:=by
 refine qY _ _ _ _ ?_;unfold oh;refine aO (fun m s g=> ∃(i:Nat)(n:Option Addr)(j:Nat),s=(some ⟨b,0,none⟩,(q,k,d),(k:Int),(i:Int),())∧i≤k∧m=k-i∧aG h T g [wv b n j (bs++mH (ss.take i)) (bad|| !decide (rM (ss.take i))),wo n j (bs++mH (ss.take i))] R) k
  ⟨0,p,c,rfl,by omega,rfl,by simpa[mH,rM] using S⟩ ?_
 rintro m s g ⟨i,n,j,rfl,K,rfl,S⟩;unfold kW;dsimp only;refine aq (fun M=> ?_) (fun J=> ?_)
 ·have f:i<ss.length:=by omega
  have C:=S.row D x;obtain⟨Q,rfl⟩:=C.some_of (by simp;omega);have a:ss[i]∈ss:=VN f;obtain⟨⟨e,A⟩,N⟩:=B _ a;have u:=qm (ss.take i) fun s h=>(B s (W9 h)).2;rw[VV]at u;have I:min i ss.length*2 ^ 23≤8*2 ^ 23:=Wu _ (by omega);have y:(bs++mH (ss.take i)).length<2 ^ 39:=by rw[Tz];omega
  refine aC rfl rfl (by omega) ?_;simp only[hC,VO];refine ak (C.cell (by rw[VP,bo f];rfl)) ?_;refine aA S (fun U _ _ S=> ?_);dsimp only[Yg,Yh]at S;refine(Cg ((S.into [0] [2] []).rowB 0) 0 (xs:=[((ss[i].l:Nat):Int)]) rfl (k:=1) rfl (by decide) 0 65535).mono ?_;rintro _ _ ⟨rfl,t⟩;refine⟨rfl,?_⟩;replace S:=S.back [0] t
  try dsimp only[bY,List.set,Yg,Yh]at S
  have o:=S.into [0] [] [w];have z:Sh.pick R [w]=[cM (ss.map Sl.row)]:=by simp only[Sh.pick,G]
  rw[z]at o;have r:=o.oneOf 0 (VZ.2 ⟨_,a,rfl⟩);dsimp only[Sh.pick,List.getElem?_cons_zero,Yh,List.set]at r;refine(Cg r 0 rfl e (by omega) fz fL).mono ?_;rintro _ _ ⟨rfl,t⟩;refine⟨rfl,?_⟩;replace S:=S.back [0] t
  try dsimp only[bY,List.set,Yg,Yh]at S
  refine bx ?_;have o:=S.into [0,1] [] [w];rw[z]at o;have r:=o.oneOf 0 (VZ.2 ⟨_,a,rfl⟩);dsimp only[Sh.pick,List.getElem?_cons_zero,List.getElem?_cons_succ,Yh,List.set]at r;refine(TU r e y (by omega)).mono ?_;rintro _ _ ⟨rfl,O,E,t⟩;refine⟨rfl,?_⟩;replace S:=S.back [0,1] t
  try dsimp only[bY,List.set,Yg,Yh]at S
  rw[al (by omega)];refine⟨k-(i+1),by omega,i+1,O,E,rfl,by omega,rfl,?_⟩;rw[VY,←Ke f,TV,TV]at S;have F:decide (rM (ss.take i)∧bv 0 65535 [((ss[i].l:Nat):Int)]∧bv fz fL ss[i].xs)=decide (rM (ss.take (i+1))):=by
   rw[decide_eq_decide,Kf f,←e];have:bv 0 65535 [((ss[i].xs.length:Nat):Int)]↔ss[i].xs.length≤65535:=by unfold bv;simp;omega
   rw[this]
  rw[F]at S;exact S.pw [0,1]
 ·have:i=k:=by omega
  subst this;rw[py (by omega)]at S;exact⟨by trivial,n,j,S⟩
theorem Q9(S:aG h T h [wv b p c bs bad,wo p c bs] R)(r:Nat){nv:Nv}(M:R[r]? =some nv.rows)(s:nv.ok)(t:nv.nd.short)(X:bs.length<2 ^ 36):
 au P ja #[.pointer (some ⟨b,0,none⟩),nv.v] h fun v N=>v= .tuple #[]∧ ∃C y,aG h T N [wv b C y (bs++nv.nd.enc) (bad|| !decide nv.nd.fit),wo C y (bs++nv.nd.enc)] R:=by
 refine qZ _ _ ?_;unfold om;obtain⟨q,u,w⟩:=s;have B:nv.inn.xs.length≤2 ^ 20:=t.1;have i:nv.weights.xs.length≤2 ^ 20:=t.2.1;have e:nv.bias.xs.length≤2 ^ 20:=t.2.2;have A:=q.1;refine aA (cs:=nv.cells) S fun U W _ S=> ?_;have z:Sh.pick R [r]=[nv.rows]:=by simp only[Sh.pick,M]
 dsimp only[Yg,Yh]at S
 (repeat (first|((with_reducible refine aV ?_);refine ae (S.c 2) ?_)|((with_reducible refine cp ?_);refine ak (S.c 2) ?_)));refine aA S (fun V _ _ S=> ?_);dsimp only[Yg,Yh]at S;refine(nP ((S.into [0,1] [3] []).rowB 0) 0 (xs:=[nv.kind,((nv.inn.l:Nat):Int)]) rfl (k:=2) rfl (by omega)).mono ?_;rintro _ _ ⟨rfl,j,d,a⟩;refine⟨rfl,?_⟩;replace S:=S.back [0,1] a
 try dsimp only[bY,List.set,Yg,Yh]at S
 replace S:=S.pw [0,1,2];dsimp only[Sh.pick,List.getElem?_cons_zero,List.getElem?_cons_succ]at S
 (repeat (first|((with_reducible refine cp ?_);refine ak (S.c 2) ?_)));have m:=S.into [0,1] [] [r];rw[z]at m;have n:=m.oneOf 0 (l:=[nv.inn.row,nv.weights.row,nv.bias.row]) (f:=nv.inn.row) (by simp);dsimp only[Sh.pick,List.getElem?_cons_zero,List.getElem?_cons_succ,Yh,List.set]at n;refine(nP n 0 rfl q.1 (by rw[Tz,bO,VS,VS,V9];omega)).mono ?_;rintro _ _ ⟨rfl,j,d,a⟩;refine⟨rfl,?_⟩;replace S:=S.back [0,1] a
 try dsimp only[bY,List.set,Yg,Yh]at S
 (repeat (first|((with_reducible refine aV ?_);refine ae (S.c 2) ?_)));refine aA S (fun D _ _ S=> ?_);dsimp only[Yg,Yh]at S;refine(nP ((S.into [0,1] [3] []).rowB 0) 0 (xs:=[nv.width,nv.size,nv.step,nv.gap,nv.left,nv.right]) rfl (k:=6) rfl (by simp only[Tz,bO,VS,V9];omega)).mono ?_;rintro _ _ ⟨rfl,j,d,a⟩;refine⟨rfl,?_⟩;replace S:=S.back [0,1] a
 try dsimp only[bY,List.set,Yg,Yh]at S
 replace S:=S.pw [0,1,2];dsimp only[Sh.pick,List.getElem?_cons_zero,List.getElem?_cons_succ]at S
 (repeat (first|((with_reducible refine cp ?_);refine ak (S.c 2) ?_)));refine aA S (fun E _ _ S=> ?_);dsimp only[Yg,Yh]at S;have m:=S.into [0,1] [3] [r];rw[z]at m;have n:=(m.rowB 0).view 1 (g:=nv.rows) rfl (cM ([nv.weights,nv.bias].map Sl.row)) (fun H f o=>H f (by simp at o ⊢;rcases o with rfl|rfl<;>simp)) (fun x ⟨f,o,Q⟩=>⟨f,by simp at o ⊢;rcases o with rfl|rfl<;>simp,Q⟩);dsimp only[Sh.pick,List.getElem?_cons_zero,List.getElem?_cons_succ,Yh,Yg,List.set]at n;refine(SV n 0 1 (ss:=[nv.weights,nv.bias]) rfl rfl (k:=2) rfl (by decide) (by simp;exact⟨⟨u,i⟩,⟨w,e⟩⟩) (by simp only[Tz,bO,VS,V9];omega)).mono ?_;rintro _ _ ⟨rfl,j,d,a⟩;refine⟨rfl,?_⟩;replace S:=S.back [0,1] a
 try dsimp only[bY,List.set,Yg,Yh]at S
 replace S:=S.pw [0,1,2];dsimp only[Sh.pick,List.getElem?_cons_zero,List.getElem?_cons_succ]at S;have O:(mH [nv.weights,nv.bias]).length≤2 ^ 24:=by
  have:=qm [nv.weights,nv.bias] (by simp;exact⟨i,e⟩);simpa using this
 (repeat (first|((with_reducible refine aV ?_);refine ae (S.c 2) ?_)));refine aA S (fun F _ _ S=> ?_);dsimp only[Yg,Yh]at S;refine(Cg ((S.into [0] [3] []).rowB 0) 0 (xs:=[nv.mult]) rfl (k:=1) rfl (by decide) 0 65535).mono ?_;rintro _ _ ⟨rfl,a⟩;refine⟨rfl,?_⟩;replace S:=S.back [0] a
 try dsimp only[bY,List.set,Yg,Yh]at S
 refine bx ?_
 (repeat (first|((with_reducible refine aV ?_);refine ae (S.c 2) ?_)));refine(Q8 nv.mult (S.into [0,1] [] []) (by simp only[Tz,bO,VS,V9];omega)).mono ?_;rintro _ _ ⟨rfl,j,d,a⟩;refine⟨rfl,?_⟩;replace S:=S.back [0,1] a
 try dsimp only[bY,List.set,Yg,Yh]at S
 replace S:=S.pw [0,1,2];dsimp only[Sh.pick,List.getElem?_cons_zero,List.getElem?_cons_succ]at S
 (repeat (first|((with_reducible refine aV ?_);refine ae (S.c 2) ?_)));refine aA S (fun G _ _ S=> ?_);dsimp only[Yg,Yh]at S;refine(nP ((S.into [0,1] [3] []).rowB 0) 0 (xs:=[nv.shift]) rfl (k:=1) rfl (by simp only[Tz,bO,ce,VS,V9];omega)).mono ?_;rintro _ _ ⟨rfl,j,d,a⟩;refine⟨rfl,?_⟩;replace S:=S.back [0,1] a
 try dsimp only[bY,List.set,Yg,Yh]at S
 replace S:=S.pw [0,1,2];dsimp only[Sh.pick,List.getElem?_cons_zero,List.getElem?_cons_succ]at S
 (repeat (first|((with_reducible refine aV ?_);refine ae (S.c 2) ?_)));refine aA S (fun I _ _ S=> ?_);dsimp only[Yg,Yh]at S;refine(L2 ((S.into [0,1] [3] []).rowB 0) 0 (xs:=[nv.low,nv.high]) rfl (k:=2) rfl (by simp only[Tz,bO,ce,VS,V9];omega)).mono ?_;rintro _ _ ⟨rfl,j,d,a⟩;refine⟨rfl,?_⟩;replace S:=S.back [0,1] a
 try dsimp only[bY,List.set,Yg,Yh]at S
 replace S:=S.pw [0,1,2];dsimp only[Sh.pick,List.getElem?_cons_zero,List.getElem?_cons_succ]at S
 (repeat (first|((with_reducible refine aV ?_);refine ae (S.c 2) ?_)));refine aA S (fun J _ _ S=> ?_);dsimp only[Yg,Yh]at S;refine(nP ((S.into [0,1] [3] []).rowB 0) 0 (xs:=[nv.post]) rfl (k:=1) rfl (by simp only[Tz,bO,ce,cG,VS,V9];omega)).mono ?_;rintro _ _ ⟨rfl,j,d,a⟩;refine⟨rfl,?_⟩;replace S:=S.back [0,1] a
 try dsimp only[bY,List.set,Yg,Yh]at S
 replace S:=S.pw [0,1];dsimp only[Sh.pick,List.getElem?_cons_zero,List.getElem?_cons_succ]at S;refine⟨rfl,j,d,?_⟩;simp only[TV]at S;have K:bs++nv.nd.enc=bs++dj [nv.kind,((nv.inn.l:Nat):Int)]++dj nv.inn.xs++dj [nv.width,nv.size,nv.step,nv.gap,nv.left,nv.right]++mH [nv.weights,nv.bias]++low (kn .u64 nv.mult) 2++dj [nv.shift]++words [nv.low,nv.high]++dj [nv.post]:=by
  rw[←A];simp only[Nd.enc,Nv.nd,mH,Ww,Xz,Wd,VY]
 rw[K];have L:decide nv.nd.fit=decide (((((((bv 0 255 [nv.kind,((nv.inn.l:Nat):Int)]∧bv 0 255 nv.inn.xs)∧bv 0 255 [nv.width,nv.size,nv.step,nv.gap,nv.left,nv.right])∧rM [nv.weights,nv.bias])∧bv 0 65535 [nv.mult])∧bv 0 255 [nv.shift])∧bv fz fL [nv.low,nv.high])∧bv 0 255 [nv.post]):=by
  rw[decide_eq_decide,←A];simp only[Nd.fit,Nv.nd,rM,List.forall_mem_cons,WO,false_implies,implies_true,and_true,and_assoc]
 rw[L];exact S
theorem O0{g:Gv}(hp:bD h g.p (aD g.ns))(hr:(aM g.ns).P h)(O:g.ok)(Q:g.gr.short):
 au P mM #[g.v] h fun v h'=>v= .tuple #[.string (str g.gr.out2.1),.int .i64 g.gr.out2.2]∧cd no h h':=by
 refine xX _ ?_;unfold xW;have S:=((aG.start h no).read (row g.p (aD g.ns)) hp).read (aM g.ns) hr;dsimp only[Yg,Yh]at S;obtain⟨r,Y,A⟩:=O;have H:g.l≤1000:=by have:=Q.1;simp[Gv.gr]at this;omega
 refine aA S (fun I _ _ S=> ?_);refine aA S (fun J _ _ S=> ?_);replace S:=S.nil 1;dsimp only[Yg,Yh]at S
 (repeat (first|((with_reducible refine aV ?_);refine ae (S.c 0) ?_)));have W:aG h no _ [wv J none 0 [] false,wo none 0 [],aJ I [.int .i64 g.width,.int .i64 g.low,.int .i64 g.high,.slice g.p g.l g.c,.int .i64 g.out]] _:=S.pw [1,2,0];clear S;have S:=W;clear W;refine aA S (fun b6 _ _ S=> ?_);dsimp only[Yg,Yh]at S;refine(nP ((S.into [0,1] [3] []).rowB 0) 0 (xs:=[g.width]) rfl (k:=1) rfl (by decide)).mono ?_;rintro _ _ ⟨rfl,z,y,o⟩;refine⟨rfl,?_⟩;replace S:=S.back [0,1] o
 try dsimp only[bY,List.set,Yg,Yh]at S
 replace S:=S.pw [0,1,2];dsimp only[Sh.pick,List.getElem?_cons_zero,List.getElem?_cons_succ]at S
 (repeat (first|((with_reducible refine aV ?_);refine ae (S.c 2) ?_)));refine aA S (fun ad _ _ S=> ?_);dsimp only[Yg,Yh]at S;refine(L2 ((S.into [0,1] [3] []).rowB 0) 0 (xs:=[g.low,g.high]) rfl (k:=2) rfl (by simp only[Tz,bO,VS,V9];omega)).mono ?_;rintro _ _ ⟨rfl,z,y,o⟩;refine⟨rfl,?_⟩;replace S:=S.back [0,1] o
 try dsimp only[bY,List.set,Yg,Yh]at S
 replace S:=S.pw [0,1,2];dsimp only[Sh.pick,List.getElem?_cons_zero,List.getElem?_cons_succ]at S
 (repeat (first|((with_reducible refine cp ?_);refine ak (S.c 2) ?_)));refine aA S (fun ag _ _ S=> ?_);dsimp only[Yg,Yh]at S;refine(nP ((S.into [0,1] [3] []).rowB 0) 0 (xs:=[((g.l:Nat):Int)]) rfl (k:=1) rfl (by simp only[Tz,bO,cG,VS,V9];omega)).mono ?_;rintro _ _ ⟨rfl,z,y,o⟩;refine⟨rfl,?_⟩;replace S:=S.back [0,1] o
 try dsimp only[bY,List.set,Yg,Yh]at S
 replace S:=S.pw [0,1,2];dsimp only[Sh.pick,List.getElem?_cons_zero,List.getElem?_cons_succ]at S
 (repeat (first|((with_reducible refine cp ?_);refine ak (S.c 2) ?_)));generalize D:(dj [g.width]++words [g.low,g.high]++dj [((g.l:Nat):Int)]:List UInt8)=hd at S;have ar:hd.length=10:=by rw[←D];simp only[Tz,bO,cG,VS,V9]
 generalize d:(false|| !decide (bv 0 255 [g.width])|| !decide (bv fz fL [g.low,g.high])|| !decide (bv 0 255 [((g.l:Nat):Int)]))=a at S;have t:a=false↔(bv 0 255 [g.width]∧bv fz fL [g.low,g.high]∧bv 0 255 [((g.l:Nat):Int)]):=by
  rw[←d];simp only[Bool.false_or,Xn,Xj,decide_eq_true_eq,and_assoc]
 clear d
 refine aO (fun m s X=> ∃(i:Nat)(V:Option Addr)(K:Nat)(a:Bool),s=(⟨I,0,none⟩,⟨J,0,none⟩,(g.p,g.l,g.c),(g.l:Int),(i:Int),())∧i≤g.l∧m=g.l-i∧
  (a=false↔((bv 0 255 [g.width]∧bv fz fL [g.low,g.high]∧bv 0 255 [((g.l:Nat):Int)])∧ ∀n∈g.gr.nodes.take i,n.fit))∧
  aG h no X [wv J V K (hd++(g.gr.nodes.take i).flatMap Nd.enc) a,wo V K (hd++(g.gr.nodes.take i).flatMap Nd.enc),
   aJ I [.int .i64 g.width,.int .i64 g.low,.int .i64 g.high,.slice g.p g.l g.c,.int .i64 g.out]] [row g.p (aD g.ns),aM g.ns]) g.l
  ⟨0,z,y,a,rfl,by omega,rfl,by rw[t];simp,by rw[WK,Xz,Wd];exact S⟩ ?_
 clear t S a;rintro m s X ⟨i,V,K,a,rfl,aw,rfl,d,S⟩;unfold sq;dsimp only;have Z:=nQ (g.gr.nodes.take i) fun n j=>Q.2 n (W9 j);have ap:(g.gr.nodes.take i).length*2 ^ 24≤1000*2 ^ 24:=Wu _ (by rw[VV];omega);have C:(hd++(g.gr.nodes.take i).flatMap Nd.enc).length<2 ^ 36:=by rw[Tz];omega
 refine aq (fun ax=> ?_) (fun u=> ?_)
 ·have x:i<g.ns.length:=by omega
  have U:=S.ro 0;obtain⟨aa,ea⟩:=U.some_of (by rw[bE];omega);rw[ea]at U;refine aC ea rfl (by omega) ?_;simp only[hC];refine gi U (bo x) ?_;have e:g.ns[i]∈g.ns:=VN x;have q:g.gr.nodes[i]? =some g.ns[i].nd:=by simp[Gv.gr,x]
  generalize ay:g.ns[i]=nv at e q;refine aA S fun ai an _ S=> ?_;refine bP S 3 rfl rfl (aW rfl) fun ao _ S=> ?_;dsimp only[List.set,Yg,Yh]at S
  (repeat (first|((with_reducible refine oy ?_);refine aL S 3 rfl rfl ?_)));have P1:=(S.into [0,1] [] [1]).oneOf 0 (f:=nv.rows) (VZ.2 ⟨_,e,rfl⟩);refine(Q9 P1 0 rfl (A _ e) (Q.2 _ (VL q)) C).mono ?_;rintro _ _ ⟨rfl,z,y,o⟩;refine⟨rfl,?_⟩;replace S:=S.back [0,1] o
  try dsimp only[bY,List.set,Yg,Yh]at S
  rw[al (by omega)];have w:i<g.gr.nodes.length:=by simp[Gv.gr];omega
  have u:g.gr.nodes[i]=nv.nd:=by rw[bo w]at q;exact Option.some.inj q
  have L:(g.gr.nodes.take (i+1)).flatMap Nd.enc=(g.gr.nodes.take i).flatMap Nd.enc++nv.nd.enc:=by
   rw[gD w,XB,u];simp
  refine⟨g.l-(i+1),by omega,i+1,z,y,a|| !decide nv.nd.fit,rfl,by omega,rfl,?_,?_⟩
  ·rw[Xn,d,Xj,decide_eq_true_eq,gD w,u,and_assoc];constructor
   ·rintro⟨F,B,h3⟩;refine⟨F,fun n j=> ?_⟩;rcases VW.1 j with j|j
    ·exact B n j
    ·simp only[VK]at j;subst j;exact h3
   ·rintro⟨F,B⟩;exact⟨F,fun n j=>B n (Wt _ j),B _ (WP _ (by simp))⟩
  ·rw[L,←VY];exact S.pw [0,1,2]
 ·have N:i=g.l:=by omega
  subst N;have E:g.gr.nodes.take g.l=g.gr.nodes:=py (by simp[Gv.gr];omega);rw[E]at S C
  (repeat (first|((with_reducible refine aV ?_);refine ae (S.c 2) ?_)));refine aA S (fun aj _ _ S=> ?_);dsimp only[Yg,Yh]at S;refine(nP ((S.into [0,1] [3] []).rowB 0) 0 (xs:=[g.out]) rfl (k:=1) rfl (by omega)).mono ?_;rintro _ _ ⟨rfl,z,y,o⟩;refine⟨rfl,?_⟩;replace S:=S.back [0,1] o
  try dsimp only[bY,List.set,Yg,Yh]at S
  (repeat (first|((with_reducible refine zP ?_);refine fY (S.c 0) ?_)));have L:(a|| !decide (bv 0 255 [g.out]))= !decide g.gr.fit:=by
   have:((a|| !decide (bv 0 255 [g.out]))=false)↔((!decide g.gr.fit)=false):=by
    rw[Xn,d,E,Xj,decide_eq_true_eq,Xj,decide_eq_true_eq,←r];simp only[Gr.fit,Gv.gr,Ug,and_assoc]
   cases F:(a|| !decide (bv 0 255 [g.out]))<;>cases B:(!decide g.gr.fit)<;>simp_all
  rw[L]at S ⊢;by_cases G:g.gr.fit
  ·have M:g.gr.out2=(dV++g.gr.enc,0):=by unfold Gr.out2;rw[if_pos G]
   rw[M];refine bG (by simp[G]) ?_;refine(Ra (S.pw [0,1])).mono ?_;rintro _ _ ⟨rfl,rfl⟩;refine⟨_,rfl,?_⟩;have ab:(hd++g.gr.nodes.flatMap Nd.enc++dj [g.out]).length<2 ^ 40:=by rw[Tz,bO,VS,V9];omega
   have em:(ByteArray.mk #[69,65,82,49])=str dV:=rfl;rw[em];refine kv (by rw[cu,cu];unfold dV;simp only[VS,V9];omega) ?_;refine⟨?_,S.fra⟩;rw[jC];congr 5;have:g.gr.enc=hd++g.gr.nodes.flatMap Nd.enc++dj [g.out]:=by
    rw[←D,←r];simp only[Gr.enc,Gv.gr,Ug]
   rw[this]
  ·have M:g.gr.out2=([],22):=by unfold Gr.out2;rw[if_neg G]
   rw[M];exact cC (by simp[G]) ⟨rfl,S.fra⟩
