/- Contracts: nodes and graphs that are the same (earshotref14, earshotref15). -/
import Derived.Test.YtdhpmegbmjoekaaGreatDoorCKind14d
namespace Go.Proofs.YtdhpmegbmjoekaaGreatDoor.G
open Go Go.Sh
set_option linter.unusedVariables false
set_option linter.unusedSimpArgs false
section
variable {h:af}
def Nv.sls (n:Nv):List Sl:=[n.inn,n.weights,n.bias]
def Nd.sls (n:Nd):List (List Int):=[n.inn,n.weights,n.bias]
theorem Ip (n:Nv):n.sls.map Sl.xs=n.nd.sls:=rfl
def Nv.small (n:Nv):Prop:=n.inn.l<2 ^ 62∧n.weights.l<2 ^ 62∧n.bias.l<2 ^ 62
theorem NJ {a nb:Nv} (u:a.ok) (w:nb.ok) (ra:a.rows.P h) (rb:nb.rows.P h) (sa:a.small):
 au P rF #[a.v,nb.v] h fun v h'=> ∃b:Bool,v= .bool b∧(b=true↔a.nd=nb.nd)∧cp no h h':=by
 refine CA _ _ ?_;unfold D1;have S:=((aJ.start h no).read a.rows ra).read nb.rows rb;refine aA S fun R h1 _ S=> ?_;refine aA S fun T h3 _ S=> ?_;dsimp only[Xi,Xj] at S;refine ak (p:=a.inn.p) (l:=a.inn.l) (c:=a.inn.c) (S.cell 0 rfl rfl) ?_;refine ak (p:=nb.inn.p) (l:=nb.inn.l) (c:=nb.inn.c) (S.cell 1 rfl rfl) ?_;refine ak (p:=a.weights.p) (l:=a.weights.l) (c:=a.weights.c) (S.cell 0 rfl rfl) ?_;refine ak (p:=nb.weights.p) (l:=nb.weights.l) (c:=nb.weights.c) (S.cell 1 rfl rfl) ?_;refine ak (p:=a.bias.p) (l:=a.bias.l) (c:=a.bias.c) (S.cell 0 rfl rfl) ?_;refine ak (p:=nb.bias.p) (l:=nb.bias.l) (c:=nb.bias.c) (S.cell 1 rfl rfl) ?_;refine aA S (fun s _ _ S=> ?_);refine cA S 2 rfl rfl (by intro y Q;simp at Q;rcases Q with rfl|rfl|rfl|rfl|rfl|rfl<;>rfl) fun h4 _ S=> ?_;dsimp only[List.set,Xi,Xj] at S;have q: ∀{x y:Sl} {i:Nat},a.sls[i]? =some x→nb.sls[i]? =some y→a.nd=nb.nd→x.xs=y.xs:=by
  intro x y i hx Q e;have A:a.sls.map Sl.xs=nb.sls.map Sl.xs:=by rw[Ip,Ip,e]
  have B:=congrArg (fun l=>l[i]?) A;simp only[UW,hx,Q,Option.map_some] at B;exact Option.some.inj B
 refine aP (fun m O g=> ∃i:Nat,O=(⟨R,0,none⟩,⟨T,0,none⟩,⟨s,0,none⟩,(i:Int),())∧i≤3∧m=3-i∧(a.sls.map Sl.xs).take i=(nb.sls.map Sl.xs).take i∧
  aJ h no g [blk R a.cells,blk T nb.cells,blk s [a.inn.v,nb.inn.v,a.weights.v,nb.weights.v,a.bias.v,nb.bias.v]] [a.rows,nb.rows]) 3 ⟨0,rfl,by omega,rfl,rfl,S⟩ ?_
 clear S;rintro m O g ⟨i,rfl,hi,rfl,t,S⟩;unfold w6;dsimp only;have d: ∀{E:af},cp no h E→a.nd≠nb.nd→ ∃b:Bool,Value.bool false= .bool b∧(b=true↔a.nd=nb.nd)∧cp no h E:=fun F hn=>⟨false,rfl,⟨fun h=>Bool.noConfusion h,fun h=>absurd h hn⟩,F⟩;refine am (fun ao=> ?_) (fun ag=> ?_)
 ·have hc: ∃x y:Sl,x∈a.sls∧y∈nb.sls∧a.sls[i]? =some x∧nb.sls[i]? =some y∧x.ok∧y.ok∧x.l<2 ^ 62∧[a.inn.v,nb.inn.v,a.weights.v,nb.weights.v,a.bias.v,nb.bias.v][i*2]? =some x.v∧[a.inn.v,nb.inn.v,a.weights.v,nb.weights.v,a.bias.v,nb.bias.v][i*2+1]? =some y.v:=by
   have:i=0∨i=1∨i=2:=by omega
   rcases this with rfl|rfl|rfl
   ·exact⟨a.inn,nb.inn,by simp[Nv.sls],by simp[Nv.sls],rfl,rfl,u.1,w.1,sa.1,rfl,rfl⟩
   ·exact⟨a.weights,nb.weights,by simp[Nv.sls],by simp[Nv.sls],rfl,rfl,u.2.1,w.2.1,sa.2.1,rfl,rfl⟩
   ·exact⟨a.bias,nb.bias,by simp[Nv.sls],by simp[Nv.sls],rfl,rfl,u.2.2,w.2.2,sa.2.2,rfl,rfl⟩
  obtain⟨x,y,mx,my,X,Y,K,L,sx,cx,cy⟩:=hc;have rx:bI g x.p (az x.xs):=S.r 0 a.rows rfl x.row (U2 (f:=Sl.row) mx);have ry:bI g y.p (az y.xs):=S.r 1 nb.rows rfl y.row (U2 (f:=Sl.row) my);refine jN (by omega) (by omega) (jN (by decide) (by decide) ?_);simp only[oe,Vi,Int.toNat_one,Nat.zero_mul,WE,US,aQ,SI,Va];refine ak (p:=x.p) (l:=x.l) (c:=x.c) (S.cell 2 rfl cx) (jN (by omega) (by omega) (jN (by decide) (by decide) ?_));refine ak (p:=y.p) (l:=y.l) (c:=y.c) (S.cell 2 rfl cy) ?_;refine bh (fun J=>d S.fra fun e=> ?_) (fun an=> ?_)
  ·have:=congrArg List.length (q X Y e);have h1:=K.1;have h2:=L.1;omega
  have h1:=K.1;have h2:=L.1;refine aP (fun m O E=>E=g∧ ∃j:Nat,O=(⟨R,0,none⟩,⟨T,0,none⟩,⟨s,0,none⟩,(i:Int),(x.p,x.l,x.c),(y.p,y.l,y.c),(j:Int),())∧j≤x.l∧m=x.l-j∧x.xs.take j=y.xs.take j) x.l ⟨rfl,0,rfl,by omega,rfl,rfl⟩ ?_;rintro m O E ⟨rfl,j,rfl,hj,rfl,o⟩;unfold uv;dsimp only;refine am (fun aj=> ?_) (fun ai=> ?_)
  ·have H:j<x.xs.length:=by omega
   have I:j<y.xs.length:=by omega
   obtain⟨ax,C⟩:=rx.some_of (by rw[av];omega);obtain⟨ay,D⟩:=ry.some_of (by rw[av];omega);have M:=rx;have N:=ry;rw[C] at M;rw[D] at N;refine aB C rfl (by omega) (aB D rfl (by omega) ?_);simp only[oe,US];refine ae (M.cell (aI (aO H))) (ae (N.cell (aI (aO I))) ?_);refine bh (fun J=>d S.fra fun e=> ?_) (fun G=> ?_)
   ·have A:=q X Y e;exact J (by congr 1)
   ·rw[al (by omega)];refine⟨x.l-(j+1),by omega,by trivial,j+1,rfl,by omega,rfl,?_⟩;rw[py H,py I,o,G]
  ·rw[al (by omega)];refine⟨3-(i+1),by omega,i+1,rfl,by omega,rfl,?_,S⟩;have ab:i<(a.sls.map Sl.xs).length:=by show i<3;omega
   have ad:i<(nb.sls.map Sl.xs).length:=by show i<3;omega
   rw[py ab,py ad,t];have ej:x.xs=y.xs:=by
    rw[N6 (by omega),N6 (by omega)] at o;exact o
   have A:(a.sls.map Sl.xs)[i]=x.xs:=by
    have:(a.sls.map Sl.xs)[i]? =some x.xs:=by rw[UW,X];rfl
    exact(Pt.1 this).2
   have B:(nb.sls.map Sl.xs)[i]=y.xs:=by
    have:(nb.sls.map Sl.xs)[i]? =some y.xs:=by rw[UW,Y];rfl
    exact(Pt.1 this).2
   exact congrArg (fun z=>List.take i (nb.sls.map Sl.xs)++[z]) (A.trans (ej.trans B.symm))
 ·have aa:i=3:=by omega
  subst aa;have Z:a.nd.sls=nb.nd.sls:=by
   rw[N6 (by exact U3 3),N6 (by exact U3 3)] at t;rw[←Ip,←Ip];exact t
  unfold Nd.sls at Z;simp only[List.cons.injEq,and_true] at Z;obtain⟨ei,ew,eb⟩:=Z;refine ae (n:=a.kind) (S.cell 0 rfl rfl) (ae (n:=nb.kind) (S.cell 1 rfl rfl) (aH (fun A=> ?_) (fun k=>d S.fra (fun e=>k (congrArg Nd.kind e)))));refine ae (n:=a.width) (S.cell 0 rfl rfl) (ae (n:=nb.width) (S.cell 1 rfl rfl) (aH (fun B=> ?_) (fun k=>d S.fra (fun e=>k (congrArg Nd.width e)))));refine ae (n:=a.size) (S.cell 0 rfl rfl) (ae (n:=nb.size) (S.cell 1 rfl rfl) (aH (fun e3=> ?_) (fun k=>d S.fra (fun e=>k (congrArg Nd.size e)))));refine ae (n:=a.step) (S.cell 0 rfl rfl) (ae (n:=nb.step) (S.cell 1 rfl rfl) (aH (fun e4=> ?_) (fun k=>d S.fra (fun e=>k (congrArg Nd.step e)))));refine ae (n:=a.gap) (S.cell 0 rfl rfl) (ae (n:=nb.gap) (S.cell 1 rfl rfl) (aH (fun e5=> ?_) (fun k=>d S.fra (fun e=>k (congrArg Nd.gap e)))));refine ae (n:=a.left) (S.cell 0 rfl rfl) (ae (n:=nb.left) (S.cell 1 rfl rfl) (aH (fun e6=> ?_) (fun k=>d S.fra (fun e=>k (congrArg Nd.left e)))));refine ae (n:=a.right) (S.cell 0 rfl rfl) (ae (n:=nb.right) (S.cell 1 rfl rfl) (aH (fun e7=> ?_) (fun k=>d S.fra (fun e=>k (congrArg Nd.right e)))));refine ae (n:=a.mult) (S.cell 0 rfl rfl) (ae (n:=nb.mult) (S.cell 1 rfl rfl) (aH (fun e8=> ?_) (fun k=>d S.fra (fun e=>k (congrArg Nd.mult e)))));refine ae (n:=a.shift) (S.cell 0 rfl rfl) (ae (n:=nb.shift) (S.cell 1 rfl rfl) (aH (fun e9=> ?_) (fun k=>d S.fra (fun e=>k (congrArg Nd.shift e)))));refine ae (n:=a.low) (S.cell 0 rfl rfl) (ae (n:=nb.low) (S.cell 1 rfl rfl) (aH (fun U=> ?_) (fun k=>d S.fra (fun e=>k (congrArg Nd.low e)))));refine ae (n:=a.high) (S.cell 0 rfl rfl) (ae (n:=nb.high) (S.cell 1 rfl rfl) (aH (fun V=> ?_) (fun k=>d S.fra (fun e=>k (congrArg Nd.high e)))));refine ae (n:=a.post) (S.cell 0 rfl rfl) (ae (n:=nb.post) (S.cell 1 rfl rfl) ?_);refine⟨_,rfl,?_,S.fra⟩;rw[beq_iff_eq];exact⟨fun W=>Nd.ext' A ei B e3 e4 e5 e6 e7 ew eb e8 e9 U V W,fun e=>congrArg Nd.post e⟩
theorem NK {a d:Gv} (t:a.ok) (u:d.ok) (ra:bI h a.p (aF a.ns)) (na:(aU a.ns).P h) (rb:bI h d.p (aF d.ns)) (nb:(aU d.ns).P h) (hl:a.l<2 ^ 62) (sa: ∀n∈a.ns,n.small):
 au P rG #[a.v,d.v] h fun v U=> ∃b:Bool,v= .bool b∧(b=true↔a.gr=d.gr)∧cp no h U:=by
 refine CB _ _ ?_;unfold D2;have S:=((((aJ.start h no).read a.nrow ra).read (aU a.ns) na).read d.nrow rb).read (aU d.ns) nb;refine aA S fun A h1 _ S=> ?_;refine aA S fun B h3 _ S=> ?_;dsimp only[Xi,Xj] at S;have j: ∀{H:af},cp no h H→a.gr≠d.gr→ ∃b:Bool,Value.bool false= .bool b∧(b=true↔a.gr=d.gr)∧cp no h H:=fun F Z=>⟨false,rfl,⟨fun h=>Bool.noConfusion h,fun h=>absurd h Z⟩,F⟩;refine⟨fun z g=>z=(⟨A,0,none⟩,⟨B,0,none⟩,())∧(a.width=d.width∧a.low=d.low∧a.high=d.high∧a.out=d.out∧a.l=d.l)∧aJ h no g [blk A a.cells,blk B d.cells] [a.nrow,aU a.ns,d.nrow,aU d.ns],?_,?_⟩
 ·clear S;rintro z g ⟨rfl,⟨T,O,N,R,Q⟩,S⟩;unfold w8;dsimp only
  refine aP (fun m z g=> ∃i:Nat,z=(⟨A,0,none⟩,⟨B,0,none⟩,(i:Int),())∧i≤a.l∧m=a.l-i∧(a.ns.map Nv.nd).take i=(d.ns.map Nv.nd).take i∧
   aJ h no g [blk A a.cells,blk B d.cells] [a.nrow,aU a.ns,d.nrow,aU d.ns]) a.l ⟨0,rfl,by omega,rfl,rfl,S⟩ ?_
  clear S;rintro m z g ⟨i,rfl,hi,rfl,o,S⟩;unfold w7;dsimp only;have W:=t.1;have X:=u.1;refine ak (p:=a.p) (l:=a.l) (c:=a.c) (S.cell 0 rfl rfl) ?_;refine am (fun Y=> ?_) (fun V=> ?_)
  ·have q:i<a.ns.length:=by omega
   have s:i<d.ns.length:=by omega
   have E:bI g a.p (aF a.ns):=S.r 0 _ rfl;have G:bI g d.p (aF d.ns):=S.r 2 _ rfl;obtain⟨ax,x⟩:=E.some_of (by rw[bW];omega);obtain⟨ay,y⟩:=G.some_of (by rw[bW];omega);rw[x] at E;rw[y] at G;refine ak (p:=a.p) (l:=a.l) (c:=a.c) (S.cell 0 rfl rfl) (aB x rfl (by omega) ?_);simp only[oe];refine jd E (aO q) ?_;refine ak (p:=d.p) (l:=d.l) (c:=d.c) (S.cell 1 rfl rfl) (aB y rfl (by omega) (jd G (aO s) ?_));have D:=UU q;have J:=UU s;refine(NJ (t.2.2 _ D) (u.2.2 _ J) (S.r 1 _ rfl _ (U2 (f:=Nv.rows) D)) (S.r 3 _ rfl _ (U2 (f:=Nv.rows) J)) (sa _ D)).mono ?_;rintro _ g2 ⟨b,rfl,I,F⟩;refine⟨_,rfl,?_⟩;replace S:=S.fra0 F;refine aX (S.cell 0 rfl rfl) ?_;refine bG (oT (fun C=> ?_) (fun C=> ?_))
   ·rw[al (by omega)];refine⟨a.l-(i+1),by omega,i+1,rfl,by omega,rfl,?_,S⟩;rw[py (by rw[UT];omega),py (by rw[UT];omega),o,WY,WY,I.1 C]
   ·refine j S.fra fun e=> ?_;have w:=congrArg (fun g=>g.nodes[i]?) e;simp only[Gv.gr,UW,aO q,aO s,Option.map_some,Option.some.injEq] at w;rw[I.2 w] at C;cases C
  ·refine⟨true,rfl,⟨fun _=> ?_,fun _=>rfl⟩,S.fra⟩;rw[N6 (by rw[UT];omega),N6 (by rw[UT];omega)] at o;unfold Gv.gr;rw[T,O,N,R,o]
 ·refine ae (n:=a.width) (S.cell 0 rfl rfl) (ae (n:=d.width) (S.cell 1 rfl rfl) (bh (fun k=>j S.fra (fun e=>k (congrArg Gr.width e))) (fun w=> ?_)));refine ae (n:=a.low) (S.cell 0 rfl rfl) (ae (n:=d.low) (S.cell 1 rfl rfl) (bh (fun k=>j S.fra (fun e=>k (congrArg Gr.low e))) (fun K=> ?_)));refine ae (n:=a.high) (S.cell 0 rfl rfl) (ae (n:=d.high) (S.cell 1 rfl rfl) (bh (fun k=>j S.fra (fun e=>k (congrArg Gr.high e))) (fun L=> ?_)));refine ae (n:=a.out) (S.cell 0 rfl rfl) (ae (n:=d.out) (S.cell 1 rfl rfl) (bh (fun k=>j S.fra (fun e=>k (congrArg Gr.out e))) (fun M=> ?_)));refine ak (p:=a.p) (l:=a.l) (c:=a.c) (S.cell 0 rfl rfl) ?_;refine ak (p:=d.p) (l:=d.l) (c:=d.c) (S.cell 1 rfl rfl) ?_;refine bh (fun k=>j S.fra (fun e=>k ?_)) (fun e5=>⟨rfl,⟨w,K,L,M,by omega⟩,S⟩);have w:=congrArg (fun g=>g.nodes.length) e;simp only[Gv.gr,UT,t.1,u.1] at w;omega
end
end Go.Proofs.YtdhpmegbmjoekaaGreatDoor.G

