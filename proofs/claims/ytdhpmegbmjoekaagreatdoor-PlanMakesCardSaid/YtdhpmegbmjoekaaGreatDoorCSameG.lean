/- Contracts: nodes and graphs that are the same (earshotref14, earshotref15). -/
import Derived.Test.YtdhpmegbmjoekaaGreatDoorCKind14d
namespace Go.Proofs.YtdhpmegbmjoekaaGreatDoor.G
open Go Go.Sh
set_option linter.unusedVariables false
set_option linter.unusedSimpArgs false
section
variable {h:ah}
def Nv.sls(n:Nv):List Sl:=[n.inn,n.weights,n.bias]
def Nd.sls(n:Nd):List (List Int):=[n.inn,n.weights,n.bias]
theorem HN(n:Nv):n.sls.map Sl.xs=n.nd.sls:=rfl
def Nv.small(n:Nv):Prop:=n.inn.l<2 ^ 62∧n.weights.l<2 ^ 62∧n.bias.l<2 ^ 62
theorem OJ{a nb:Nv}(u:a.ok)(w:nb.ok)(ra:a.rows.P h)(rb:nb.rows.P h)(sa:a.small):
 au P qO #[a.v,nb.v] h fun v h'=> ∃b:Bool,v= .bool b∧(b=true↔a.nd=nb.nd)∧cd no h h':=by
 refine BC _ _ ?_;have S:=((aG.start h no).read a.rows ra).read nb.rows rb;refine aA S fun R h1 _ S=> ?_;refine aA S fun T h3 _ S=> ?_;refine ak (p:=a.inn.p) (l:=a.inn.l) (c:=a.inn.c) (S.c 0) ?_;refine ak (p:=nb.inn.p) (l:=nb.inn.l) (c:=nb.inn.c) (S.c 1) ?_;refine ak (p:=a.weights.p) (l:=a.weights.l) (c:=a.weights.c) (S.c 0) ?_;refine ak (p:=nb.weights.p) (l:=nb.weights.l) (c:=nb.weights.c) (S.c 1) ?_;refine ak (p:=a.bias.p) (l:=a.bias.l) (c:=a.bias.c) (S.c 0) ?_;refine ak (p:=nb.bias.p) (l:=nb.bias.l) (c:=nb.bias.c) (S.c 1) ?_;refine aA S (fun s _ _ S=> ?_);refine bP S 2 rfl rfl (by intro y Q;simp at Q;rcases Q with rfl|rfl|rfl|rfl|rfl|rfl<;>rfl) fun h4 _ S=> ?_;have q: ∀{x y:Sl}{i:Nat},a.sls[i]? =some x→nb.sls[i]? =some y→a.nd=nb.nd→x.xs=y.xs:=by
  intro x y i hx Q e;have A:a.sls.map Sl.xs=nb.sls.map Sl.xs:=by rw[HN,HN,e]
  have B:=congrArg (fun l=>l[i]?) A;simp only[VP,hx,Q,Option.map_some]at B;exact Option.some.inj B
 refine aO (fun m O g=> ∃i:Nat,O=(⟨R,0,none⟩,⟨T,0,none⟩,⟨s,0,none⟩,(i:Int),())∧i≤3∧m=3-i∧(a.sls.map Sl.xs).take i=(nb.sls.map Sl.xs).take i∧
  aG h no g [aJ R a.cells,aJ T nb.cells,aJ s [a.inn.v,nb.inn.v,a.weights.v,nb.weights.v,a.bias.v,nb.bias.v]] [a.rows,nb.rows]) 3 ⟨0,rfl,by omega,rfl,rfl,S⟩ ?_
 rintro m O g ⟨i,rfl,hi,rfl,t,S⟩;dsimp only;have d: ∀{E:ah},cd no h E→a.nd≠nb.nd→ ∃b:Bool,Value.bool false= .bool b∧(b=true↔a.nd=nb.nd)∧cd no h E:=fun F hn=>⟨false,rfl,⟨fun h=>Bool.noConfusion h,fun h=>absurd h hn⟩,F⟩;refine aq (fun ao=> ?_) (fun ag=> ?_)
 ·have hc: ∃x y:Sl,x∈a.sls∧y∈nb.sls∧a.sls[i]? =some x∧nb.sls[i]? =some y∧x.ok∧y.ok∧x.l<2 ^ 62∧[a.inn.v,nb.inn.v,a.weights.v,nb.weights.v,a.bias.v,nb.bias.v][i*2]? =some x.v∧[a.inn.v,nb.inn.v,a.weights.v,nb.weights.v,a.bias.v,nb.bias.v][i*2+1]? =some y.v:=by
   have:i=0∨i=1∨i=2:=by omega
   rcases this with rfl|rfl|rfl
   ·exact⟨a.inn,nb.inn,by simp[Nv.sls],by simp[Nv.sls],rfl,rfl,u.1,w.1,sa.1,rfl,rfl⟩
   ·exact⟨a.weights,nb.weights,by simp[Nv.sls],by simp[Nv.sls],rfl,rfl,u.2.1,w.2.1,sa.2.1,rfl,rfl⟩
   ·exact⟨a.bias,nb.bias,by simp[Nv.sls],by simp[Nv.sls],rfl,rfl,u.2.2,w.2.2,sa.2.2,rfl,rfl⟩
  obtain⟨x,y,mx,my,X,Y,K,L,sx,cx,cy⟩:=hc;have rx:bD g x.p (az x.xs):=S.r 0 a.rows rfl x.row (V1 (f:=Sl.row) mx);have ry:bD g y.p (az y.xs):=S.r 1 nb.rows rfl y.row (V1 (f:=Sl.row) my);refine fm (by omega) (by omega) (fm (by decide) (by decide) ?_);simp only[hC,WC,Int.toNat_one,WH,XK,VO,aR,SN,We];refine ak (p:=x.p) (l:=x.l) (c:=x.c) (S.cell 2 rfl cx) (fm (by omega) (by omega) (fm (by decide) (by decide) ?_));refine ak (p:=y.p) (l:=y.l) (c:=y.c) (S.cell 2 rfl cy) ?_;refine bh (fun J=>d S.fra fun e=> ?_) (fun an=> ?_)
  ·have:=congrArg List.length (q X Y e);have h1:=K.1;have h2:=L.1;omega
  have h1:=K.1;have h2:=L.1;refine aO (fun m O E=>E=g∧ ∃j:Nat,O=(⟨R,0,none⟩,⟨T,0,none⟩,⟨s,0,none⟩,(i:Int),(x.p,x.l,x.c),(y.p,y.l,y.c),(j:Int),())∧j≤x.l∧m=x.l-j∧x.xs.take j=y.xs.take j) x.l ⟨rfl,0,rfl,by omega,rfl,rfl⟩ ?_;rintro m O E ⟨rfl,j,rfl,hj,rfl,o⟩;dsimp only;refine aq (fun aj=> ?_) (fun ai=> ?_)
  ·have H:j<x.xs.length:=by omega
   have I:j<y.xs.length:=by omega
   obtain⟨ax,C⟩:=rx.some_of (by rw[av];omega);obtain⟨ay,D⟩:=ry.some_of (by rw[av];omega);have M:=rx;have N:=ry;rw[C]at M;rw[D]at N;refine aC C rfl (by omega) (aC D rfl (by omega) ?_);simp only[hC,VO];refine ae (M.cell (aF (bo H))) (ae (N.cell (aF (bo I))) ?_);refine bh (fun J=>d S.fra fun e=> ?_) (fun G=> ?_)
   ·have A:=q X Y e;exact J (by congr 1)
   ·rw[al (by omega)];refine⟨x.l-(j+1),by omega,by trivial,j+1,rfl,by omega,rfl,?_⟩;rw[gD H,gD I,o,G]
  ·rw[al (by omega)];refine⟨3-(i+1),by omega,i+1,rfl,by omega,rfl,?_,S⟩;have ab:i<(a.sls.map Sl.xs).length:=by show i<3;omega
   have ad:i<(nb.sls.map Sl.xs).length:=by show i<3;omega
   rw[gD ab,gD ad,t];have ej:x.xs=y.xs:=by
    rw[py (by omega),py (by omega)]at o;exact o
   have A:(a.sls.map Sl.xs)[i]=x.xs:=by
    have:(a.sls.map Sl.xs)[i]? =some x.xs:=by rw[VP,X];rfl
    exact(R8.1 this).2
   have B:(nb.sls.map Sl.xs)[i]=y.xs:=by
    have:(nb.sls.map Sl.xs)[i]? =some y.xs:=by rw[VP,Y];rfl
    exact(R8.1 this).2
   exact congrArg (fun z=>List.take i (nb.sls.map Sl.xs)++[z]) (A.trans (ej.trans B.symm))
 ·have aa:i=3:=by omega
  subst aa;have Z:a.nd.sls=nb.nd.sls:=by
   rw[py (by exact VX 3),py (by exact VX 3)]at t;rw[←HN,←HN];exact t
  unfold Nd.sls at Z;simp only[List.cons.injEq,and_true]at Z;obtain⟨ei,ew,eb⟩:=Z;refine ae (n:=a.kind) (S.c 0) (ae (n:=nb.kind) (S.c 1) (aH (fun A=> ?_) (fun k=>d S.fra (fun e=>k (congrArg Nd.kind e)))));refine ae (n:=a.width) (S.c 0) (ae (n:=nb.width) (S.c 1) (aH (fun B=> ?_) (fun k=>d S.fra (fun e=>k (congrArg Nd.width e)))));refine ae (n:=a.size) (S.c 0) (ae (n:=nb.size) (S.c 1) (aH (fun e3=> ?_) (fun k=>d S.fra (fun e=>k (congrArg Nd.size e)))));refine ae (n:=a.step) (S.c 0) (ae (n:=nb.step) (S.c 1) (aH (fun e4=> ?_) (fun k=>d S.fra (fun e=>k (congrArg Nd.step e)))));refine ae (n:=a.gap) (S.c 0) (ae (n:=nb.gap) (S.c 1) (aH (fun e5=> ?_) (fun k=>d S.fra (fun e=>k (congrArg Nd.gap e)))));refine ae (n:=a.left) (S.c 0) (ae (n:=nb.left) (S.c 1) (aH (fun e6=> ?_) (fun k=>d S.fra (fun e=>k (congrArg Nd.left e)))));refine ae (n:=a.right) (S.c 0) (ae (n:=nb.right) (S.c 1) (aH (fun e7=> ?_) (fun k=>d S.fra (fun e=>k (congrArg Nd.right e)))));refine ae (n:=a.mult) (S.c 0) (ae (n:=nb.mult) (S.c 1) (aH (fun e8=> ?_) (fun k=>d S.fra (fun e=>k (congrArg Nd.mult e)))));refine ae (n:=a.shift) (S.c 0) (ae (n:=nb.shift) (S.c 1) (aH (fun e9=> ?_) (fun k=>d S.fra (fun e=>k (congrArg Nd.shift e)))));refine ae (n:=a.low) (S.c 0) (ae (n:=nb.low) (S.c 1) (aH (fun U=> ?_) (fun k=>d S.fra (fun e=>k (congrArg Nd.low e)))));refine ae (n:=a.high) (S.c 0) (ae (n:=nb.high) (S.c 1) (aH (fun V=> ?_) (fun k=>d S.fra (fun e=>k (congrArg Nd.high e)))));refine ae (n:=a.post) (S.c 0) (ae (n:=nb.post) (S.c 1) ?_);refine⟨_,rfl,?_,S.fra⟩;rw[beq_iff_eq];exact⟨fun W=>Nd.ext' A ei B e3 e4 e5 e6 e7 ew eb e8 e9 U V W,fun e=>congrArg Nd.post e⟩
theorem Gu{a d:Gv}(t:a.ok)(u:d.ok)(ra:bD h a.p (aD a.ns))(na:(aM a.ns).P h)(rb:bD h d.p (aD d.ns))(nb:(aM d.ns).P h)(hl:a.l<2 ^ 62)(sa: ∀n∈a.ns,n.small):
 au P qP #[a.v,d.v] h fun v U=> ∃b:Bool,v= .bool b∧(b=true↔a.gr=d.gr)∧cd no h U:=by
 refine BD _ _ ?_;have S:=((((aG.start h no).read a.nrow ra).read (aM a.ns) na).read d.nrow rb).read (aM d.ns) nb;refine aA S fun A h1 _ S=> ?_;refine aA S fun B h3 _ S=> ?_;have j: ∀{H:ah},cd no h H→a.gr≠d.gr→ ∃b:Bool,Value.bool false= .bool b∧(b=true↔a.gr=d.gr)∧cd no h H:=fun F Z=>⟨false,rfl,⟨fun h=>Bool.noConfusion h,fun h=>absurd h Z⟩,F⟩;refine⟨fun z g=>z=(⟨A,0,none⟩,⟨B,0,none⟩,())∧(a.width=d.width∧a.low=d.low∧a.high=d.high∧a.out=d.out∧a.l=d.l)∧aG h no g [aJ A a.cells,aJ B d.cells] [a.nrow,aM a.ns,d.nrow,aM d.ns],?_,?_⟩
 ·clear S;rintro z g ⟨rfl,⟨T,O,N,R,Q⟩,S⟩
  refine aO (fun m z g=> ∃i:Nat,z=(⟨A,0,none⟩,⟨B,0,none⟩,(i:Int),())∧i≤a.l∧m=a.l-i∧(a.ns.map Nv.nd).take i=(d.ns.map Nv.nd).take i∧
   aG h no g [aJ A a.cells,aJ B d.cells] [a.nrow,aM a.ns,d.nrow,aM d.ns]) a.l ⟨0,rfl,by omega,rfl,rfl,S⟩ ?_
  rintro m z g ⟨i,rfl,hi,rfl,o,S⟩;dsimp only;have W:=t.1;have X:=u.1;refine ak (p:=a.p) (l:=a.l) (c:=a.c) (S.c 0) ?_;refine aq (fun Y=> ?_) (fun V=> ?_)
  ·have q:i<a.ns.length:=by omega
   have s:i<d.ns.length:=by omega
   have E:bD g a.p (aD a.ns):=S.r 0 _ rfl;have G:bD g d.p (aD d.ns):=S.r 2 _ rfl;obtain⟨ax,x⟩:=E.some_of (by rw[bE];omega);obtain⟨ay,y⟩:=G.some_of (by rw[bE];omega);rw[x]at E;rw[y]at G;refine ak (p:=a.p) (l:=a.l) (c:=a.c) (S.c 0) (aC x rfl (by omega) ?_);refine gi E (bo q) ?_;refine ak (p:=d.p) (l:=d.l) (c:=d.c) (S.c 1) (aC y rfl (by omega) (gi G (bo s) ?_));have D:=VN q;have J:=VN s;refine(OJ (t.2.2 _ D) (u.2.2 _ J) (S.r 1 _ rfl _ (V1 (f:=Nv.rows) D)) (S.r 3 _ rfl _ (V1 (f:=Nv.rows) J)) (sa _ D)).mono ?_;rintro _ g2 ⟨b,rfl,I,F⟩;refine⟨_,rfl,?_⟩;replace S:=S.fra0 F;refine aX (S.c 0) ?_;refine bJ (oz (fun C=> ?_) (fun C=> ?_))
   ·rw[al (by omega)];refine⟨a.l-(i+1),by omega,i+1,rfl,by omega,rfl,?_,S⟩;rw[gD (by rw[Ug];omega),gD (by rw[Ug];omega),o,XJ,XJ,I.1 C]
   ·refine j S.fra fun e=> ?_;have w:=congrArg (fun g=>g.nodes[i]?) e;simp only[Gv.gr,VP,bo q,bo s,Option.map_some,Option.some.injEq]at w;rw[I.2 w]at C;cases C
  ·refine⟨true,rfl,⟨fun _=> ?_,fun _=>rfl⟩,S.fra⟩;rw[py (by rw[Ug];omega),py (by rw[Ug];omega)]at o;unfold Gv.gr;rw[T,O,N,R,o]
 ·refine ae (n:=a.width) (S.c 0) (ae (n:=d.width) (S.c 1) (bh (fun k=>j S.fra (fun e=>k (congrArg Gr.width e))) (fun w=> ?_)));refine ae (n:=a.low) (S.c 0) (ae (n:=d.low) (S.c 1) (bh (fun k=>j S.fra (fun e=>k (congrArg Gr.low e))) (fun K=> ?_)));refine ae (n:=a.high) (S.c 0) (ae (n:=d.high) (S.c 1) (bh (fun k=>j S.fra (fun e=>k (congrArg Gr.high e))) (fun L=> ?_)));refine ae (n:=a.out) (S.c 0) (ae (n:=d.out) (S.c 1) (bh (fun k=>j S.fra (fun e=>k (congrArg Gr.out e))) (fun M=> ?_)));refine ak (p:=a.p) (l:=a.l) (c:=a.c) (S.c 0) ?_;refine ak (p:=d.p) (l:=d.l) (c:=d.c) (S.c 1) ?_;refine bh (fun k=>j S.fra (fun e=>k ?_)) (fun e5=>⟨rfl,⟨w,K,L,M,by omega⟩,S⟩);have w:=congrArg (fun g=>g.nodes.length) e;simp only[Gv.gr,Ug,t.1,u.1]at w;omega
