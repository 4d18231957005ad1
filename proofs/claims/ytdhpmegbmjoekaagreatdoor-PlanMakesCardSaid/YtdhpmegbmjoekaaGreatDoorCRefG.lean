/- CRefT CRefK CRefF CRefG, in one text. -/
import Derived.Test.YtdhpmegbmjoekaaGreatDoorCRefL
set_option linter.unusedVariables false
set_option linter.unusedSimpArgs false
namespace Go.Proofs.YtdhpmegbmjoekaaGreatDoor.G
open Go Go.Sh
open Go.IntKind renaming wrap→kn
section
section
variable {h:ah}
theorem Ok{gv:Gv}(F:gv.ok)(hn:bD h gv.p (aD gv.ns))(hr:(aM gv.ns).P h)(hl:gv.l<2 ^ 20)(hs: ∀n∈gv.ns,n.inn.l<2 ^ 40){M:LM}{lp:Option Addr}{ll V:Nat}(hL:bD h lp (xj (fo gv.l M)))(Q:ll=gv.l+1)(a:Int):
 au P qJ #[gv.v,.slice lp ll V,.int .i64 a] h fun v h'=>v= .int .i64 (i5 gv.gr.nodes M a)∧cd no h h':=by
 subst Q;refine Bu _ _ _ _ _ ?_;unfold CL;have O:=F.1;have C:gv.gr.nodes.length=gv.l:=by rw[←O];simp[Gv.gr]
 obtain⟨b,u⟩: ∃b,gv.gr.nodes=b:=⟨_,rfl⟩;have x:gv.ns.map Nv.nd=b:=u;rw[u]at C ⊢;have S:=(((aG.start h no).read (row gv.p (aD gv.ns)) hn).read (aM gv.ns) hr).read (row lp (xj (fo gv.l M))) hL;refine aA (cs:=gv.cells) S fun J h1 _ S=> ?_
 refine aO (fun I s g=> ∃t:Nat,s=((lp,gv.l+1,V),a,⟨J,0,none⟩,fq b M a t,((gF b M a t:Nat):Int),(t:Int)+1,())∧t≤gv.l∧I=gv.l-t∧
  aG h no g [aJ J gv.cells] [row gv.p (aD gv.ns),aM gv.ns,row lp (xj (fo gv.l M))]) gv.l ⟨0,rfl,by omega,rfl,S⟩ ?_
 rintro I s g ⟨t,rfl,ht,rfl,S⟩;unfold vT;simp only[aR,SN];refine ak (p:=gv.p) (l:=gv.l) (c:=gv.c) (S.c 0) ?_;have ai:=Gk b M a t;refine aq (fun ag=> ?_) (fun ad=> ?_)
 ·have U:t<gv.ns.length:=by omega
  obtain⟨d,L⟩: ∃n,gv.ns[t]? =some n:=⟨_,bo U⟩;have e:=VL L;have X:=F.2.2 d e;have ilen:d.inn.xs.length=d.inn.l:=X.1.1;have an:=hs d e;have w:b[t]? =some d.nd:=by rw[←x,VP,L];rfl
  refine ak (p:=gv.p) (l:=gv.l) (c:=gv.c) (S.c 0) ?_;have et:kn .i64 ((t:Int)+1-1)=(t:Int):=by rw[al (by omega)];omega
  have N:kn .i64 ((t:Int)+1+1)=((t+1:Nat):Int)+1:=by rw[al (by omega)];rfl
  rw[et];obtain⟨q,ea⟩:=(S.row 0 rfl).some_of (by rw[bE];omega);have G:bD g (some q) (aD gv.ns):=by rw[←ea];exact S.row 0 rfl
  have y:aB g ((q.add (t*15)).add 1)=some d.inn.v:=by
   have:=G.cell (i:=t*15+1) (v:=d.inn.v) (by rw[iu L (by decide)];rfl);rw[mh _ _ (by decide)];exact this
  refine aC ea rfl (by omega) ?_;refine ak (p:=d.inn.p) (l:=d.inn.l) (c:=d.inn.c) y ?_;have eu:fq b M a (t+1)=if(M ((t:Int)+1)).isSome∧a∈d.inn.xs then(t:Int)+1 else fq b M a t:=by
   conv=>lhs;unfold fq
   rw[w];rfl
  have K:gF b M a (t+1)=if(M ((t:Int)+1)).isSome∧a∈d.inn.xs then gF b M a t+1 else gF b M a t:=by
   conv=>lhs;unfold gF
   rw[w];rfl
  refine aO (fun I s g=> ∃j:Nat,s=((lp,gv.l+1,V),a,⟨J,0,none⟩,fq b M a t,((gF b M a t:Nat):Int),(t:Int)+1,(d.inn.p,d.inn.l,d.inn.c),decide (a∈d.inn.xs.take j),(j:Int),())∧j≤d.inn.l∧I=d.inn.l-j∧
   aG h no g [aJ J gv.cells] [row gv.p (aD gv.ns),aM gv.ns,row lp (xj (fo gv.l M))]) d.inn.l ⟨0,rfl,by omega,rfl,S⟩ ?_
  rintro I s g ⟨j,rfl,hj,rfl,S⟩;unfold vS;dsimp only;have ej:kn .i64 ((j:Int)+1)=((j+1:Nat):Int):=by rw[al (by omega)];rfl
  refine aq (fun ab=> ?_) (fun Z=> ?_)
  ·have D:j<d.inn.xs.length:=by omega
   have H:d.inn.xs.take (j+1)=d.inn.xs.take j++[d.inn.xs[j]]:=gD D;rw[ej];refine aq (fun o=> ?_) (fun o=> ?_)
   ·have:decide (a∈d.inn.xs.take (j+1))=true:=decide_eq_true (by rw[H];exact Wt _ o);exact⟨d.inn.l-(j+1),by omega,j+1,by rw[this],by omega,rfl,S⟩
   ·have f:bD g d.inn.p (az d.inn.xs):=S.r 1 _ rfl _ (V1 e) d.inn.row (by simp);obtain⟨aa,z⟩:=f.some_of (by rw[av];omega);rw[z]at f;refine aC z rfl (by omega) ?_;simp only[hC,VO];refine ae (f.cell (aF (bo D))) ?_;have:decide (a∈d.inn.xs.take (j+1))=(d.inn.xs[j]==a):=by
     rw[WF,decide_eq_true_iff,beq_iff_eq,H,VW,VK];constructor
     ·rintro(h|h)
      ·exact absurd h o
      ·exact h.symm
     ·intro h;exact .inr h.symm
    exact⟨d.inn.l-(j+1),by omega,j+1,by rw[this],by omega,rfl,S⟩
  ·have B:d.inn.xs.take j=d.inn.xs:=py (by omega);rw[B];have m:=S.row 2 rfl;obtain⟨la,A⟩:=m.some_of (by rw[rB,pf];omega);rw[A]at m;refine aC A (k:=t+1) (by omega) (by omega) ?_;rw[show((t:Int)+1).toNat=t+1 by omega,VO];refine fY (m.cell (yn (nk (by omega)))) ?_;rw[N];have ec:(((t+1:Nat):Int))=(t:Int)+1:=rfl;rw[ec];refine cX (fun o=> ?_) (fun o=> ?_)
   ·refine aq (fun E=> ?_) (fun E=> ?_)
    ·have ew:kn .i64 (((gF b M a t:Nat):Int)+1)=((gF b M a t+1:Nat):Int):=by rw[al (by omega)];rfl
     rw[ew];exact⟨gv.l-(t+1),by omega,t+1,by rw[eu,K,if_pos ⟨o,E⟩,if_pos ⟨o,E⟩];rfl,by omega,rfl,S⟩
    ·exact⟨gv.l-(t+1),by omega,t+1,by rw[eu,K,if_neg (fun h=>E h.2),if_neg (fun h=>E h.2)];rfl,by omega,rfl,S⟩
   ·exact⟨gv.l-(t+1),by omega,t+1,by rw[eu,K,if_neg (fun h=>by rw[o]at h;cases h.1),if_neg (fun h=>by rw[o]at h;cases h.1)];rfl,by omega,rfl,S⟩
 ·have:t=gv.l:=by omega
  subst this;have Y:i5 b M a=if gF b M a gv.l=1 then fq b M a gv.l else 0:=by unfold i5 eO;rw[C]
  refine bh (fun aj=>⟨?_,S.fra⟩) (fun he=>⟨?_,S.fra⟩)
  ·rw[Y,if_neg (by omega)]
  ·rw[Y,if_pos (by omega)]
theorem LK{gv:Gv}(L:gv.ok)(hn:bD h gv.p (aD gv.ns))(hr:(aM gv.ns).P h)(hl:gv.l<2 ^ 20)(hs: ∀n∈gv.ns,n.inn.l<2 ^ 40){M:LM}{lp:Option Addr}{ll lc:Nat}(hL:bD h lp (xj (fo gv.l M)))(ad:ll=gv.l+1){i:Nat}(hi:i<gv.l):
 au P oV #[gv.v,.slice lp ll lc,.int .i64 ((i:Int)+1)] h fun v h'=>v= .int .i64 (ph gv.gr.nodes gv.out M ((i:Int)+1))∧cd no h h':=by
 refine ze _ _ _ _ _ ?_;unfold Aw;have aa:=L.1;have ab:gv.gr.nodes.length=gv.l:=by rw[←aa];simp[Gv.gr]
 obtain⟨a,f⟩: ∃a,gv.gr.nodes=a:=⟨_,rfl⟩;have j:gv.ns.map Nv.nd=a:=f;rw[f]at ab ⊢;have S:=(((aG.start h no).read (row gv.p (aD gv.ns)) hn).read (aM gv.ns) hr).read (row lp (xj (fo gv.l M))) hL;refine aA (cs:=gv.cells) S fun E C _ S=> ?_;refine ak (p:=gv.p) (l:=gv.l) (c:=gv.c) (S.c 0) ?_;have et:kn .i64 ((i:Int)+1-1)=(i:Int):=by rw[al (by omega)];omega
 rw[et];obtain⟨q,ea⟩:=(S.ro 0).some_of (by rw[bE];omega);have z: ∀{g:ah}{W:List bc},aG h no g W [row gv.p (aD gv.ns),aM gv.ns,row lp (xj (fo gv.l M))]→bD g (some q) (aD gv.ns):=fun S=>by rw[←ea];exact S.ro 0
 obtain⟨b,en⟩: ∃n,gv.ns[i]? =some n:=⟨_,bo (by omega)⟩;have H:a[i]? =some b.nd:=by rw[←j,VP,en];rfl
 refine aC ea rfl (by omega) ?_;refine gi (z S) en ?_;refine aA S fun B g2 _ S=> ?_;refine bP S 1 rfl rfl (aW rfl) fun g3 _ S=> ?_
 have r:ph a gv.out M ((i:Int)+1)=if gq b.kind∧(M ((i:Int)+1)).isSome∧((i:Int)+1)≠gv.out∧i5 a M ((i:Int)+1)≠0 then
  match a[(i5 a M ((i:Int)+1)-1).toNat]? with
  |none=>0
  |some x=>if(nF b.nd x).isSome then i5 a M ((i:Int)+1) else 0
  else 0:=by
  unfold ph;rw[show((i:Int)+1-1).toNat=i by omega,H];rfl
 generalize hT:ph a gv.out M ((i:Int)+1)=T at r ⊢;refine⟨fun s g=>s=((lp,ll,lc),(i:Int)+1,⟨E,0,none⟩,⟨B,0,none⟩,decide (gq b.kind),())∧aG h no g [aJ E gv.cells,aJ B b.cells] [row gv.p (aD gv.ns),aM gv.ns,row lp (xj (fo gv.l M))],?_,?_⟩
 ·clear S;rintro s g ⟨rfl,S⟩;unfold tA;dsimp only;refine aL S 0 rfl (x:=gv.t) rfl ?_;refine(Ok L (S.ro 0) (S.rd 1) hl hs (S.ro 2) ad ((i:Int)+1)).mono ?_;rintro _ h4 ⟨rfl,F⟩;replace S:=S.fra0 F;rw[f];refine⟨_,rfl,?_⟩;have ag:0≤i5 a M ((i:Int)+1)∧i5 a M ((i:Int)+1)≤(a.length:Int):=by
   unfold i5;split
   ·exact HG
   ·omega
  obtain⟨u,eu⟩: ∃u,i5 a M ((i:Int)+1)=u:=⟨_,rfl⟩;rw[eu]at r ag ⊢;have e: ∀{g:ah},aG h no g [aJ E gv.cells,aJ B b.cells] [row gv.p (aD gv.ns),aM gv.ns,row lp (xj (fo gv.l M))]→ ¬(gq b.kind∧(M ((i:Int)+1)).isSome∧((i:Int)+1)≠gv.out∧u≠0)→Value.int .i64 0= .int .i64 T∧cd no h g:=fun S U=>⟨by rw[r,if_neg U],S.fra⟩;refine⟨fun s g=>s=(⟨E,0,none⟩,⟨B,0,none⟩,u,())∧(gq b.kind∧(M ((i:Int)+1)).isSome∧((i:Int)+1)≠gv.out∧u≠0)∧aG h no g [aJ E gv.cells,aJ B b.cells] [row gv.p (aD gv.ns),aM gv.ns,row lp (xj (fo gv.l M))],?_,?_⟩
  ·clear S;rintro s g ⟨rfl,U,S⟩;unfold tz;refine ak (p:=gv.p) (l:=gv.l) (c:=gv.c) (S.c 0) ?_;obtain⟨w,ew⟩: ∃w:Nat,u=(w:Int)+1:=⟨(u-1).toNat,by have:=U.2.2.2;omega⟩;have V:w<gv.l:=by omega
   obtain⟨o,J⟩: ∃n,gv.ns[w]? =some n:=⟨_,bo (by omega)⟩;have I:a[w]? =some o.nd:=by rw[←j,VP,J];rfl
   rw[if_pos U,ew,show((w:Int)+1-1).toNat=w by omega,I]at r;dsimp only at r;rw[ew];have X:kn .i64 ((w:Int)+1-1)=(w:Int):=by rw[al (by omega)];omega
   rw[X];refine aC ea rfl (by omega) ?_;have hk:aB g (q.add (w*15))=some (.int .i64 o.kind):=(z S).cell (i:=w*15) (by have:=iu J (show 0<15 by decide);rw[We]at this;rw[this];rfl);have K:o.nd.kind=o.kind:=rfl;have N:b.nd.post=b.post:=rfl;have O:aB g ⟨B,14,none⟩=some (.int .i64 b.post):=S.c 1;have Q:(o.kind=10∧b.post=0∨o.kind=9∧cF .i64 b.post 2=0)→Value.int .i64 ((w:Int)+1)= .int .i64 T∧cd no h g:=fun d=>by
    have:(nF b.nd o.nd).isSome=true:=by
     unfold nF;rw[K,N];split
     ·rfl
     ·rename_i C;rw[if_pos (by rcases d with d|d;exact absurd d C;exact d)];rfl
    rw[this]at r;exact⟨by rw[r];rfl,S.fra⟩
   have A: ¬(o.kind=10∧b.post=0∨o.kind=9∧cF .i64 b.post 2=0)→Value.int .i64 0= .int .i64 T∧cd no h g:=fun d=>by
    have:(nF b.nd o.nd).isSome=false:=by
     unfold nF;rw[K,N,if_neg (fun h=>d (.inl h)),if_neg (fun h=>d (.inr h))];rfl
    rw[this]at r;exact⟨by rw[r];rfl,S.fra⟩
   refine ae hk (aH (fun y=> ?_) (fun y=> ?_))
   ·refine ae O (aH (fun h0=>Q (.inl ⟨y,h0⟩)) (fun h0=>aH (fun D=>by omega) (fun D=>A ?_)));rintro(d|d)
    ·exact h0 d.2
    ·exact D d.1
   ·refine aH (fun D=>ae O (aH (fun h0=>Q (.inr ⟨D,h0⟩)) (fun h0=>A ?_))) (fun D=>A ?_)
    ·rintro(d|d)
     ·exact y d.1
     ·exact h0 d.2
    ·rintro(d|d)
     ·exact y d.1
     ·exact D d.1
  ·refine bJ (aq (fun V=> ?_) (fun V=>e S fun h=>V h.1));have m:=S.ro 2;obtain⟨la,G⟩:=m.some_of (by rw[rB,pf];omega);rw[G]at m;refine aC G (k:=i+1) (by omega) (by omega) ?_;rw[show((i:Int)+1).toNat=i+1 by omega,VO];refine fY (m.cell (yn (nk (by omega)))) ?_;have ec:(((i+1:Nat):Int))=(i:Int)+1:=rfl;rw[ec];refine bJ (cX (fun Z=> ?_) (fun Z=>e S fun h=>by rw[Z]at h;cases h.2.1));refine ae (n:=gv.out) (S.c 0) (aH (fun he=>e S fun h=>h.2.2.1 he) (fun he=> ?_));refine aH (fun h0=>e S fun h=>h.2.2.2 h0) (fun h0=> ?_);exact⟨rfl,⟨V,Z,he,h0⟩,S⟩
 ·refine ae (n:=b.kind) (S.c 1) (aH (fun C=>⟨by rw[decide_eq_true (.inl C)],S⟩) (fun C=> ?_));refine ae (n:=b.kind) (S.c 1) (aH (fun Y=>⟨by rw[decide_eq_true (.inr (.inl Y))],S⟩) (fun Y=> ?_));refine ae (n:=b.kind) (S.c 1) ⟨?_,S⟩;have:(b.kind==6)=decide (gq b.kind):=by
   rw[WF,decide_eq_true_iff,beq_iff_eq];constructor
   ·intro h;exact .inr (.inr h)
   ·rintro(h|h|h)
    ·exact absurd h C
    ·exact absurd h Y
    ·exact h
  rw[this]
end
end
section
def WB(a ns:List Nv):Prop:= ∀n∈ns,∃m∈a,n.weights=m.weights∧n.bias=m.bias
theorem MH{h:ah}{a ns:List Nv}(o:(dw (ns.map Nv.inn)).P h)(r:(aM a).P h)(w:WB a ns):(aM ns).P h:=by
 rintro f b;obtain⟨n,c,rfl⟩:=VZ.1 b;obtain⟨m,i,e,g⟩:=w n c;have d:=r _ (V1 i);rintro f b;simp only[V5,WO,or_false]at b;rcases b with rfl|rfl|rfl
 ·exact qf o (V1 c)
 ·rw[e];exact d m.weights.row (by simp)
 ·rw[g];exact d m.bias.row (by simp)
theorem WB.trans{a b c:List Nv}(i:WB a b)(j:WB b c):WB a c:=fun n p=>by
 obtain⟨m,o,d,e⟩:=j n p;obtain⟨k,l,f,g⟩:=i m o;exact⟨k,l,d.trans f,e.trans g⟩
theorem WB.refl(a:List Nv):WB a a:=fun n b=>⟨n,b,rfl,rfl⟩
def TE(g:Gr)(b:List Nv)(h:ah)(v:Value)(d:ah):Prop:=
 ∃a:Gv,v=a.v∧a.gr=g∧a.ok∧WB b a.ns∧aG h no d [own 15 a.p a.l a.c (aD a.ns),dw (a.ns.map Nv.inn)] []
def Qz(g:Gr)(i w:Nat)(a':Nd):Gr:={g with nodes:=vF ((w:Int)+1) ((i:Int)+1) (g.nodes.set i a'),out:=if g.out=(w:Int)+1 then(i:Int)+1 else g.out}
def sW(f:Int→Int)(xs:List Int)(m:Nat):List Int:=(xs.take m).map f++xs.drop m
theorem Af(f:Int→Int)(xs:List Int):sW f xs 0=xs:=by simp[sW]
theorem QA(f:Int→Int)(xs:List Int):sW f xs xs.length=xs.map f:=by simp[sW]
theorem oG(f:Int→Int)(xs:List Int)(m:Nat):(sW f xs m).length=xs.length:=by unfold sW;simp;omega
theorem JB(f:Int→Int){xs:List Int}{m:Nat}(a:m<xs.length):(sW f xs m)[m]? =some xs[m]:=by
 unfold sW;rw[Wl (by simp;omega),Wz];simp only[Ug,VV];rw[show m+(m-min m xs.length)=m by omega,bo a]
theorem JC(f:Int→Int){xs:List Int}{m:Nat}(a:m<xs.length):(sW f xs m).set m (f xs[m])=sW f xs (m+1):=by
 unfold sW;rw[Wy _ _ (by simp;omega),Ug,VV,Xd (by omega),WD,V6 a,WW,gD a,V2,VY];rfl
theorem Ol(f:Int→Int){xs:List Int}{m:Nat}(a:m<xs.length)(h:f xs[m]=xs[m]):sW f xs m=sW f xs (m+1):=by
 rw[←JC f a,h];have:=JB f a;rw[bo (by rw[oG];exact a)]at this;have:=Option.some.inj this;rw[←this,WJ]
section
variable {h:ah}
theorem LL{gv:Gv}(a3:gv.ok)(o:bD h gv.p (aD gv.ns))(hr:(aM gv.ns).P h)(hl:gv.l<2 ^ 20)(hs: ∀n∈gv.ns,n.inn.l<2 ^ 40){i w:Nat}{na d:Nv}(ei:gv.ns[i]? =some na)(ew:gv.ns[w]? =some d){a':Nd}(A:nF na.nd d.nd=some a'):
 au P oW #[gv.v,.int .i64 ((i:Int)+1),.int .i64 ((w:Int)+1)] h (TE (Qz gv.gr i w a') gv.ns h):=by
 refine zf _ _ _ ?_;unfold Ax;have br:=a3.1;have bs:gv.gr.nodes.length=gv.l:=by rw[←br];simp[Gv.gr]
 have b6:i<gv.l:=by have:=(R8.1 ei).1;omega
 have ch:w<gv.l:=by have:=(R8.1 ew).1;omega
 obtain⟨G,eG⟩: ∃G,Qz gv.gr i w a'=G:=⟨_,rfl⟩;have an:G.nodes=vF ((w:Int)+1) ((i:Int)+1) (gv.gr.nodes.set i a'):=by rw[←eG];rfl
 have a8:G.nodes.length=gv.l:=by rw[an,uM,VU];exact bs
 have a7: ∀{t:Nat}{a:Nv},gv.ns[t]? =some a→G.nodes[t]? =some (if t=w then(if t=i then a' else a.nd) else{(if t=i then a' else a.nd) with inn:=(if t=i then a' else a.nd).inn.map (nM ((w:Int)+1) ((i:Int)+1))}):=by
  intro t a en;have ba:gv.gr.nodes[t]? =some a.nd:=by show(gv.ns.map Nv.nd)[t]? =_;rw[VP,en];rfl
  have e1:(gv.gr.nodes.set i a')[t]? =some (if t=i then a' else a.nd):=by
   by_cases h:i=t
   ·subst h;rw[V4 (by omega),if_pos rfl]
   ·rw[Wv h,ba,if_neg (Ne.symm h)]
  rw[an,Jf,e1];simp only[Option.map_some];congr 1;by_cases h:t=w
  ·rw[if_pos (by omega),if_pos h]
  ·rw[if_neg (by omega),if_neg h]
 have ao:G={width:=gv.width,low:=gv.low,high:=gv.high,nodes:=G.nodes,out:=if gv.out=(w:Int)+1 then(i:Int)+1 else gv.out}:=by rw[←eG];rfl
 rw[eG];have S:=((aG.start h no).read (row gv.p (aD gv.ns)) o).read (aM gv.ns) hr;refine aA (cs:=gv.cells) S fun H h1 _ S=> ?_;refine aA (cs:=aK bz (zT bz)) S fun I h2 _ S=> ?_;refine ae (n:=gv.width) (S.c 0) (ae (n:=gv.low) (S.c 0) (ae (n:=gv.high) (S.c 0) (ae (n:=gv.out) (S.c 0) ?_)));refine aA (cs:=aK bz (zT bz)) S fun J z _ S=> ?_;refine bP S 2 rfl rfl (aW (l:=bz) (x:=(⟨gv.width,gv.low,gv.high,none,0,0,gv.out,[]⟩:Gv).t) rfl) fun b5 _ S=> ?_;obtain⟨K,M⟩: ∃K,(if gv.out=(w:Int)+1 then(i:Int)+1 else gv.out)=K:=⟨_,rfl⟩;rw[M]at ao;refine⟨fun s g=>s=((i:Int)+1,(w:Int)+1,⟨H,0,none⟩,⟨I,0,none⟩,⟨J,0,none⟩,())∧aG h no g [aJ H gv.cells,aJ I (aK bz (zT bz)),aJ J (⟨gv.width,gv.low,gv.high,none,0,0,K,[]⟩:Gv).cells] [row gv.p (aD gv.ns),aM gv.ns],?_,?_⟩
 ·clear S;rintro s g ⟨rfl,S⟩;unfold tC;replace S:=yw (S.nil 15)
  refine aO (fun mm s g=> ∃(t:Nat)(lp:Option Addr)(b B:Nat)(V:List Nv),s=((i:Int)+1,(w:Int)+1,⟨H,0,none⟩,⟨I,0,none⟩,⟨J,0,none⟩,(t:Int)+1,())∧t≤gv.l∧mm=gv.l-t∧b=t∧V.map Nv.nd=G.nodes.take t∧(∀n∈V,n.ok)∧WB gv.ns V∧
   aG h no g [aJ H gv.cells,aJ I (aK bz (zT bz)),aJ J (⟨gv.width,gv.low,gv.high,lp,b,B,K,[]⟩:Gv).cells,own 15 lp b B (aD V),dw (V.map Nv.inn)] [row gv.p (aD gv.ns),aM gv.ns]) gv.l
   ⟨0,none,0,0,[],rfl,by omega,rfl,rfl,rfl,by simp,(by intro n o;cases o),S⟩ ?_
  rintro mm s g ⟨t,lp,b,B,V,rfl,cb,rfl,rfl,hV,aw,ax,S⟩;unfold tB;simp only[aR,SN];refine ak (p:=gv.p) (l:=gv.l) (c:=gv.c) (S.c 0) ?_;refine aq (fun b8=> ?_) (fun bq=> ?_)
  ·obtain⟨a,en⟩: ∃n,gv.ns[b]? =some n:=⟨_,bo (by omega)⟩;have D:=VL en;have aj:=a3.2.2 a D;have ca:=hs a D;have bn:=a7 en;have et:kn .i64 ((b:Int)+1-1)=(b:Int):=by rw[al (by omega)];omega
   have bg:kn .i64 ((b:Int)+1+1)=((b+1:Nat):Int)+1:=by rw[al (by omega)];rfl
   have bk:kn .i64 ((w:Int)+1-1)=(w:Int):=by rw[al (by omega)];omega
   rw[et,bk];obtain⟨q,ea⟩:=(S.row 0 rfl).some_of (by rw[bE];omega);have Z: ∀{g:ah}{W:List bc},aG h no g W [row gv.p (aD gv.ns),aM gv.ns]→bD g (some q) (aD gv.ns):=fun S=>by rw[←ea];exact S.row 0 rfl
   refine ak (p:=gv.p) (l:=gv.l) (c:=gv.c) (S.c 0) (aC ea rfl (by omega) ?_);refine gi (Z S) en ?_;refine aA S fun y g2 _ S=> ?_;refine bP S 5 rfl rfl (aW rfl) fun g3 _ S=> ?_;refine ak (p:=gv.p) (l:=gv.l) (c:=gv.c) (S.c 0) (aC ea rfl (by omega) ?_);refine gi (Z S) ew ?_;refine aA S fun Q g4 _ S=> ?_;refine bP S 6 rfl rfl (aW rfl) fun g5 _ S=> ?_;obtain⟨W0,b2⟩: ∃W0:List bc,W0=[aJ H gv.cells,aJ I (aK bz (zT bz)),aJ J (⟨gv.width,gv.low,gv.high,lp,b,B,K,[]⟩:Gv).cells,own 15 lp b B (aD V),dw (V.map Nv.inn)]:=⟨_,rfl⟩;have ad:b=i→a=na:=fun e=>by subst e;rw[en]at ei;exact Option.some.inj ei
   have ab:d.nd.kind=d.kind:=rfl;have ag:na.nd.post=na.post:=rfl
   refine⟨fun s g=>s=((i:Int)+1,(w:Int)+1,⟨H,0,none⟩,⟨I,0,none⟩,⟨J,0,none⟩,(b:Int)+1,⟨y,0,none⟩,⟨Q,0,none⟩,())∧
    aG h no g [aJ H gv.cells,aJ I (aK bz (zT bz)),aJ J (⟨gv.width,gv.low,gv.high,lp,b,B,K,[]⟩:Gv).cells,own 15 lp b B (aD V),dw (V.map Nv.inn),aJ y (if b=i∧d.kind=10 then wm a d else a).cells,aJ Q d.cells] [row gv.p (aD gv.ns),aM gv.ns],?_,?_⟩
   ·clear S;rintro s g ⟨rfl,S⟩;unfold sb;simp only[aR,SN];obtain⟨f,m⟩: ∃f,(if b=i then wm a d else a)=f:=⟨_,rfl⟩;have F:f.inn=a.inn∧f.weights=a.weights∧f.bias=a.bias:=by
     rw[←m];split
     ·exact nB _ _
     ·exact⟨rfl,rfl,rfl⟩
    have bR:f.nd=if b=i then a' else a.nd:=by
     rw[←m];by_cases h:b=i
     ·rw[if_pos h,if_pos h,Qh,ad h,A];rfl
     ·rw[if_neg h,if_neg h]
    refine⟨fun s g=>s=((i:Int)+1,(w:Int)+1,⟨H,0,none⟩,⟨I,0,none⟩,⟨J,0,none⟩,(b:Int)+1,⟨y,0,none⟩,())∧
     aG h no g [aJ H gv.cells,aJ I (aK bz (zT bz)),aJ J (⟨gv.width,gv.low,gv.high,lp,b,B,K,[]⟩:Gv).cells,own 15 lp b B (aD V),dw (V.map Nv.inn),aJ y f.cells] [row gv.p (aD gv.ns),aM gv.ns],?_,?_⟩
    ·clear S;rintro s g ⟨rfl,S⟩;unfold r9;refine aA (cs:=[]) S fun b0 g6 _ S=> ?_;refine ak (p:=f.inn.p) (l:=f.inn.l) (c:=f.inn.c) (S.c 5) ?_;rw[F.1];replace S:=S.toOwn 6 1 0 0 rfl (VX _);have a5:bD g6 a.inn.p (az a.inn.xs):=S.r 1 _ rfl _ (V1 D) a.inn.row (by simp);have ilen:a.inn.xs.length=a.inn.l:=aj.1.1;refine cI S 6 (ys:=az a.inn.xs) rfl rfl (by decide) (by omega) a5 (by rw[av];omega) dc fun C ci c35 g7 Y S=> ?_;rw[SN]at Y;subst Y
     refine aO (fun mm s g=> ∃j:Nat,s=((i:Int)+1,(w:Int)+1,⟨H,0,none⟩,⟨I,0,none⟩,⟨J,0,none⟩,(b:Int)+1,⟨y,0,none⟩,(C,a.inn.l,c35),(j:Int),())∧j≤a.inn.l∧mm=a.inn.l-j∧(b=w→j=0)∧
      aG h no g [aJ H gv.cells,aJ I (aK bz (zT bz)),aJ J (⟨gv.width,gv.low,gv.high,lp,b,B,K,[]⟩:Gv).cells,own 15 lp b B (aD V),dw (V.map Nv.inn),aJ y f.cells,own 1 C a.inn.l c35 (az (sW (nM ((w:Int)+1) ((i:Int)+1)) a.inn.xs j))] [row gv.p (aD gv.ns),aM gv.ns]) a.inn.l
      ⟨0,rfl,by omega,rfl,fun _=>rfl,by rw[Af];exact S⟩ ?_
     rintro mm s g ⟨j,rfl,hj,rfl,a0,S⟩;unfold r8;simp only[aR,SN];have ej:kn .i64 ((j:Int)+1)=((j+1:Nat):Int):=by rw[al (by omega)];rfl
     rw[ej];obtain⟨X,eX⟩: ∃X:List Int,(if b=w then a.inn.xs else a.inn.xs.map (nM ((w:Int)+1) ((i:Int)+1)))=X:=⟨_,rfl⟩;refine aq (fun bT=>bh (fun N=> ?step) (fun he=> ?exit1)) (fun bq=> ?exit2)
     case step=>
      have U:j<a.inn.xs.length:=by omega
      have a2:b≠w:=by omega
      obtain⟨aa,a9⟩:=(S.own 6 rfl).row.some_of (by rw[av,oG];omega);subst a9;refine aC rfl rfl (by omega) ?_;simp only[hC,VO];refine ae ((S.own 6 rfl).row.cell (aF (JB _ U))) (aH (fun he=> ?_) (fun a1=> ?_))
      ·refine aC rfl rfl (by omega) ?_;refine AK S 6 rfl (by rw[av,oG];exact U) fun g8 _ S=> ?_;have e:(az (sW (nM ((w:Int)+1) ((i:Int)+1)) a.inn.xs j)).set j (.int .i64 ((i:Int)+1))=az (sW (nM ((w:Int)+1) ((i:Int)+1)) a.inn.xs (j+1)):=by
        rw[bB,←JC _ U,he,oF]
       rw[e]at S;exact⟨a.inn.l-(j+1),by omega,j+1,rfl,by omega,rfl,fun h=>absurd h a2,S⟩
      ·rw[Ol _ U (ml a1)]at S;exact⟨a.inn.l-(j+1),by omega,j+1,rfl,by omega,rfl,fun h=>absurd h a2,S⟩
     case' exit1=>
      have hx:sW (nM ((w:Int)+1) ((i:Int)+1)) a.inn.xs j=X:=by
       have O:b=w:=by omega
       rw[a0 O,Af,←eX,if_pos O]
     case' exit2=>
      have hx:sW (nM ((w:Int)+1) ((i:Int)+1)) a.inn.xs j=X:=by
       by_cases O:b=w
       ·rw[a0 O,Af,←eX,if_pos O]
       ·rw[←eX,if_neg O,show j=a.inn.xs.length by omega,QA]
     all_goals
      rw[hx]at S;have bp:X.length=a.inn.l:=by rw[←hx,oG,ilen]
      have ay:=(S.own 6 rfl).2.1;refine ck S 5 fun g8 _ S=> ?_;have e3:f.cells.set 1 (.slice C a.inn.l c35)=({f with inn:=⟨C,a.inn.l,c35,X⟩}:Nv).cells:=Hs f ⟨C,a.inn.l,c35,X⟩;rw[e3]at S;obtain⟨u,E⟩: ∃u:Nv,u={f with inn:=⟨C,a.inn.l,c35,X⟩}:=⟨_,rfl⟩;rw[←E]at S;refine ak (p:=lp) (l:=b) (c:=B) (S.c 2) ?_;refine aL S 5 rfl (x:=u.t) rfl ?_;refine aA S fun a6 g9 _ S=> ?_;refine cI S 3 (ys:=u.cells) rfl rfl (by decide) (by omega) (bD.of_at (S.at 7 rfl)) rfl (aW rfl) fun p' l' c' b4 bw S=> ?_;refine ck S 2 fun bm _ S=> ?_;subst bw;have ap:u.inn.own=own 1 C a.inn.l c35 (az X):=by rw[E];rfl
      have S1:aG h no bm [aJ H gv.cells,aJ I (aK bz (zT bz)),aJ J (⟨gv.width,gv.low,gv.high,p',b+1,c',K,[]⟩:Gv).cells,own 15 p' (b+1) c' (aD V++u.cells),dw (V.map Nv.inn),aJ y u.cells,u.inn.own,aJ a6 u.cells] [row gv.p (aD gv.ns),aM gv.ns]:=by
       rw[ap];exact S
      have S2:=Hr S1 [0,1,2,3] 4 6 rfl rfl;have bb:aD V++u.cells=aD (V++[u]):=by rw[fK,show aD [u]=u.cells by simp[aD]]
      have bS:G.nodes[b]? =some u.nd:=by
       rw[bn];congr 1;have e1:u.nd={f.nd with inn:=X}:=by rw[E];rfl
       have e2:f.nd.inn=a.inn.xs:=by show f.inn.xs=_;rw[F.1]
       rw[e1,←bR,←eX];by_cases O:b=w
       ·rw[if_pos O,if_pos O,←e2]
       ·rw[if_neg O,if_neg O,e2]
      have bL:G.nodes.take (b+1)=G.nodes.take b++[u.nd]:=by
       rw[List.take_add_one,bS];rfl
      rw[bg];refine⟨gv.l-(b+1),by omega,b+1,p',b+1,c',V++[u],rfl,by omega,rfl,rfl,by rw[V2,hV,bL];rfl,fun n o=> ?_,fun n o=> ?_,?_⟩
      ·rcases VW.1 o with o|o
       ·exact aw n o
       ·simp only[VK]at o;subst o;rw[E];exact⟨⟨bp,ay⟩,by show f.weights.ok;rw[F.2.1];exact aj.2.1,by show f.bias.ok;rw[F.2.2];exact aj.2.2⟩
      ·rcases VW.1 o with o|o
       ·exact ax n o
       ·simp only[VK]at o;subst o;exact⟨a,D,by rw[E];exact F.2.1,by rw[E];exact F.2.2⟩
      ·rw[←bb,V2];exact S2
    ·refine aH (fun he=> ?_) (fun N=> ?_)
     ·have k:b=i:=by omega
      have L:=ad k;rw[if_pos k]at m;have ai:aB g ⟨Q,0,none⟩=some (.int .i64 d.kind):=S.c 6;refine ae ai (aH (fun h9=> ?_) (fun h9=> ?_))
      ·rw[if_neg (fun h=>by omega)]at S;have bH:cF .i64 a.post 2=0:=by
        unfold nF at A;rw[ab,ag,if_neg (fun h=>by omega)]at A;split at A
        ·rename_i h;rw[L];exact h.2
        ·cases A
       have e2:wm a d={a with post:=B3 .i64 a.post 2,low:=d.low,high:=d.high}:=by unfold wm;rw[if_neg (fun h=>by omega),if_pos ⟨h9,bH⟩]
       refine ae (n:=a.post) (S.c 5) ?_;refine ck S 5 fun _ _ S=> ?_;rw[yx]at S;refine ae (n:=d.low) (S.c 6) ?_;refine ck S 5 fun _ _ S=> ?_;rw[MA]at S;refine ae (n:=d.high) (S.c 6) ?_;refine ck S 5 fun _ _ S=> ?_;rw[Jm]at S;rw[e2]at m;rw[←m];exact⟨rfl,S.pw [0,1,2,3,4,5]⟩
      ·have z:d.kind=10:=by
        unfold nF at A;rw[ab,ag]at A;split at A
        ·rename_i h;exact h.1
        ·split at A
         ·rename_i h;exact absurd h.1 h9
         ·cases A
       rw[if_pos ⟨k,z⟩,m]at S;exact⟨rfl,S.pw [0,1,2,3,4,5]⟩
     ·have k:b≠i:=by omega
      rw[if_neg k]at m;rw[if_neg (fun h=>k h.1),m]at S;exact⟨rfl,S.pw [0,1,2,3,4,5]⟩
   ·refine aH (fun he=> ?_) (fun N=> ?_)
    ·have k:b=i:=by omega
     have L:=ad k;have ai:aB g5 ⟨Q,0,none⟩=some (.int .i64 d.kind):=S.c 6;refine ae ai (aH (fun z=> ?_) (fun z=> ?_))
     ·have a4:a.post=0:=by
       unfold nF at A;rw[ab,ag]at A;split at A
       ·rename_i h;rw[L];exact h.2
       ·split at A
        ·rename_i h;omega
        ·cases A
      have e2:wm a d={a with post:=1,mult:=d.mult,shift:=d.shift}:=by unfold wm;rw[if_pos ⟨z,a4⟩]
      have bd:B3 .i64 a.post 1=1:=by rw[a4];decide
      refine ae (n:=a.post) (S.c 5) ?_;rw[bd];refine ck S 5 fun _ _ S=> ?_;rw[show aK cJ a.t=a.cells from rfl,yx]at S;refine ae (n:=d.mult) (S.c 6) ?_;refine ck S 5 fun _ _ S=> ?_;rw[Jl]at S;refine ae (n:=d.shift) (S.c 6) ?_;refine ck S 5 fun _ _ S=> ?_;rw[F7]at S;refine⟨rfl,?_⟩;rw[if_pos ⟨k,z⟩,e2];exact S
     ·refine⟨rfl,?_⟩;rw[if_neg (fun h=>z h.2)];exact S
    ·refine⟨rfl,?_⟩;rw[if_neg (fun h=>N (by omega))];exact S
  ·have b7:b=gv.l:=by omega
   refine aL S 2 rfl (x:=(⟨gv.width,gv.low,gv.high,lp,b,B,K,V⟩:Gv).t) rfl ?_;refine bP S 1 rfl rfl (aW rfl) fun g5 _ S=> ?_;refine aL S 1 rfl (x:=(⟨gv.width,gv.low,gv.high,lp,b,B,K,V⟩:Gv).t) rfl ?_;have ar:V.map Nv.nd=G.nodes:=by rw[hV,py (by omega)]
   refine⟨⟨gv.width,gv.low,gv.high,lp,b,B,K,V⟩,rfl,?_,⟨?_,(S.own 3 rfl).2.1,aw⟩,ax,yy (S.pw [3,4])⟩
   ·rw[ao];show Gr.mk _ _ _ (V.map Nv.nd) _=_;rw[ar]
   ·have:=congrArg List.length ar;rw[Ug,a8]at this;show V.length=b;omega
 ·refine ae (n:=gv.out) (S.c 0) (aH (fun he=> ?_) (fun N=> ?_))
  ·rw[if_pos he]at M;refine ck S 2 fun g5 _ S=> ?_;rw[←M];exact⟨rfl,S⟩
  ·rw[if_neg N]at M;rw[←M];exact⟨rfl,S⟩
end
end
section
def B6(n:Nat)(N:LM):List Int:=(List.range (n+1)).map fun x:Nat=>dL N (x:Int)
theorem lm(n:Nat)(N:LM):(B6 n N).length=n+1:=by simp[B6]
theorem uU{n:Nat}{N:LM}{x:Nat}(h:x≤n):(B6 n N)[x]? =some (dL N (x:Int)):=by
 unfold B6;rw[VP,Wa (by omega)];rfl
theorem QB{n:Nat}{N:LM}{x:Nat}(h:x≤n)(v:Int):(B6 n N).set x v=B6 n (qh N (x:Int) v):=by
 apply Wk;intro y;by_cases b:y≤n
 ·rw[uU b];by_cases a:x=y
  ·subst a;rw[V4 (by rw[lm];omega)];unfold dL qh;rw[if_pos rfl];rfl
  ·rw[Wv a,uU b];unfold dL qh;rw[if_neg (by omega)]
 ·rw[V3 (by rw[VU,lm];omega),V3 (by rw[lm];omega)]
theorem Om(n:Nat):B6 n (qh (fun _=>none) 0 0)=List.replicate (n+1) 0:=by
 apply Wk;intro y;by_cases a:y≤n
 ·rw[uU a,X2,if_pos (by omega)];unfold dL qh;split<;>rfl
 ·rw[V3 (by rw[lm];omega),V3 (by rw[VQ];omega)]
section
variable {h:ah}
theorem On{gv:Gv}(aj:gv.ok)(d:bD h gv.p (aD gv.ns))(hr:(aM gv.ns).P h)(hl:gv.l<2 ^ 20)(hs: ∀n∈gv.ns,n.inn.l<2 ^ 40){M:LM}{pos:Int→Nat}(I:gm gv.gr.nodes gv.gr.out M pos):
 au P qK #[gv.v] h (TE (dP gv.gr (gv.gr.nodes,gv.gr.out,M)) gv.ns h):=by
 refine Bv _ ?_;unfold CM;have a7:=aj.1;have G:gv.gr.nodes.length=gv.l:=by rw[←a7];simp[Gv.gr]
 have bL:1≤gv.out:=I.out1;have bb:gv.out≤(gv.l:Int):=by rw[←G];exact I.outn
 have A:=I.ranked.Inn;have a0:eC gv.gr.nodes gv.out gv.l=fo gv.l M:=by rw[←G];exact JG I
 have S:=((aG.start h no).read (row gv.p (aD gv.ns)) d).read (aM gv.ns) hr;refine aA (cs:=gv.cells) S fun O h1 _ S=> ?_;refine aA (cs:=aK bz (zT bz)) S fun Q h2 _ S=> ?_;refine aL S 0 rfl (x:=gv.t) rfl ?_;refine(Gl aj (S.row 0 rfl) (S.r 1 _ rfl) hl hs A ⟨by omega,bb⟩).mono ?_;rintro _ h4 ⟨X,rfl,S1⟩;rw[a0]at S1;replace S:=S.add S1 fun _ _ h=>h;refine⟨_,_,_,rfl,?_⟩;refine ak (p:=gv.p) (l:=gv.l) (c:=gv.c) (S.c 0) ?_;have ew:kn .i64 ((gv.l:Int)+1)=((gv.l+1:Nat):Int):=by rw[al (by omega)];omega
 rw[ew];refine dM S (gv.l+1) rfl rfl rfl (by decide) (by omega) (by omega) fun Y bq _ S=> ?_;have Z:(List.replicate (gv.l+1) [Value.int .i64 0]).flatten=az (B6 gv.l (qh (fun _=>none) 0 0)):=by rw[iG,Om];simp[az]
 rw[Z]at S;obtain⟨a,y⟩: ∃a,gv.gr.nodes=a:=⟨_,rfl⟩;have i:gv.ns.map Nv.nd=a:=y;rw[y]at G A;have eL:dP gv.gr (gv.gr.nodes,gv.gr.out,M)={width:=gv.width,low:=gv.low,high:=gv.high,nodes:=(cL a M gv.l).1.map (Nd.ren (cL a M gv.l).2),out:=dL (cL a M gv.l).2 gv.out}:=by
  unfold dP;rw[y,←G];rfl
 rw[eL];have L: ∀t,(cL a M t).1.length≤t:=fun t=>by
  rw[←i,←AN];exact My _ _ _
 refine aO (fun K s g=> ∃t:Nat,s=(⟨O,0,none⟩,⟨Q,0,none⟩,(some ⟨X,0,none⟩,gv.l+1,gv.l+1),(some ⟨Y,0,none⟩,gv.l+1,gv.l+1),(((cL a M t).1.length:Nat):Int),(t:Int)+1,())∧t≤gv.l∧K=gv.l-t∧
  aG h no g [aJ O gv.cells,aJ Q (aK bz (zT bz)),aJ X (xj (fo gv.l M)),aJ Y (az (B6 gv.l (cL a M t).2))] [row gv.p (aD gv.ns),aM gv.ns]) gv.l ⟨0,rfl,by omega,rfl,S⟩ ?_
 rintro K s g ⟨t,rfl,ht,rfl,S⟩;unfold vU;simp only[aR,SN];refine ak (p:=gv.p) (l:=gv.l) (c:=gv.c) (S.c 0) ?_;have bH:=L t;refine aq (fun ba=> ?_) (fun a6=> ?_)
 ·obtain⟨b,en⟩: ∃n,gv.ns[t]? =some n:=⟨_,bo (by omega)⟩;have m:a[t]? =some b.nd:=by rw[←i,VP,en];rfl
  have F:kn .i64 ((t:Int)+1+1)=((t+1:Nat):Int)+1:=by rw[al (by omega)];rfl
  have H:cL a M (t+1)=if(M ((t:Int)+1)).isSome then((cL a M t).1++[b.nd],qh (cL a M t).2 ((t:Int)+1) (((cL a M t).1.length+1:Nat):Int)) else cL a M t:=by
   conv=>lhs;unfold cL
   rw[m]
  rw[F];refine aC rfl (k:=t+1) (by omega) (by omega) ?_;rw[show((t:Int)+1).toNat=t+1 by omega];simp only[aR,SN,VO];refine fY (S.cell 2 rfl (yn (nk (show t+1≤gv.l by omega)))) ?_;have ec:(((t+1:Nat):Int))=(t:Int)+1:=rfl;refine cX (fun z=> ?_) (fun z=> ?_)
  ·rw[ec]at z;rw[if_pos z]at H;refine aC rfl (k:=t+1) (by omega) (by omega) ?_;simp only[aR,SN,VO];have a3:kn .i64 ((((cL a M t).1.length:Nat):Int)+1)=(((cL a M t).1.length+1:Nat):Int):=by rw[al (by omega)];rfl
   rw[a3];refine be S 3 rfl (by rw[av,lm];omega) fun g2 _ S=> ?_;rw[bB,QB (show t+1≤gv.l by omega)]at S;refine⟨gv.l-(t+1),by omega,t+1,?_,by omega,rfl,?_⟩
   ·rw[H];simp only[Tz,VS,V9,SN]
   ·rw[H];exact S
  ·rw[ec]at z;rw[if_neg (by rw[z];simp)]at H;exact⟨gv.l-(t+1),by omega,t+1,by rw[H],by omega,rfl,by rw[H];exact S⟩
 ·have ar:t=gv.l:=by omega
  subst ar;obtain⟨N,H⟩: ∃N,(cL a M gv.l).2=N:=⟨_,rfl⟩;rw[H]at S ⊢;refine ae (n:=gv.width) (S.c 0) (ae (n:=gv.low) (S.c 0) (ae (n:=gv.high) (S.c 0) (ae (n:=gv.out) (S.c 0) ?_)));obtain⟨D,a2⟩: ∃D:Nat,gv.out=(D:Int):=⟨gv.out.toNat,by omega⟩;rw[a2];refine aC rfl (k:=D) rfl (by omega) ?_;simp only[hC,aR,SN,VO];refine ae (n:=dL N (D:Int)) (S.cell 3 rfl (aF (uU (by omega)))) ?_;refine aA (cs:=aK bz (zT bz)) S fun w bs _ S=> ?_;refine bP S 4 rfl rfl (aW (l:=bz) (x:=(⟨gv.width,gv.low,gv.high,none,0,0,dL N (D:Int),[]⟩:Gv).t) rfl) fun br _ S=> ?_;replace S:=yw (S.nil 15)
  refine aO (fun K s g=> ∃(t:Nat)(lp:Option Addr)(C E:Nat)(V:List Nv),s=(⟨O,0,none⟩,⟨Q,0,none⟩,(some ⟨X,0,none⟩,gv.l+1,gv.l+1),(some ⟨Y,0,none⟩,gv.l+1,gv.l+1),⟨w,0,none⟩,(t:Int)+1,())∧t≤gv.l∧K=gv.l-t∧C=V.length∧V.map Nv.nd=(cL a M t).1.map (Nd.ren N)∧(∀n∈V,n.ok)∧WB gv.ns V∧
   aG h no g [aJ O gv.cells,aJ Q (aK bz (zT bz)),aJ X (xj (fo gv.l M)),aJ Y (az (B6 gv.l N)),aJ w (⟨gv.width,gv.low,gv.high,lp,C,E,dL N (D:Int),[]⟩:Gv).cells,own 15 lp C E (aD V),dw (V.map Nv.inn)] [row gv.p (aD gv.ns),aM gv.ns]) gv.l
   ⟨0,none,0,0,[],rfl,by omega,rfl,rfl,rfl,by simp,(by intro n d;cases d),S⟩ ?_
  rintro K s g ⟨t,lp,C,E,V,rfl,ar,rfl,ai,hV,ab,ad,S⟩;unfold tE;simp only[aR,SN];refine ak (p:=gv.p) (l:=gv.l) (c:=gv.c) (S.c 0) ?_;have bw:V.length≤t:=by have:=congrArg List.length hV;simp at this;have:=L t;omega
  refine aq (fun ba=> ?_) (fun a6=> ?_)
  ·obtain⟨b,en⟩: ∃n,gv.ns[t]? =some n:=⟨_,bo (by omega)⟩;have o:=VL en;have ax:=aj.2.2 b o;have bR:=hs b o;have ilen:b.inn.xs.length=b.inn.l:=ax.1.1;have m:a[t]? =some b.nd:=by rw[←i,VP,en];rfl
   have aw: ∀j∈b.inn.xs,0≤j∧j≤(gv.l:Int):=fun j hj=>by have:=A b.nd (VL m) j hj;omega
   have et:kn .i64 ((t:Int)+1-1)=(t:Int):=by rw[al (by omega)];omega
   have F:kn .i64 ((t:Int)+1+1)=((t+1:Nat):Int)+1:=by rw[al (by omega)];rfl
   have eT:cL a M (t+1)=if(M ((t:Int)+1)).isSome then((cL a M t).1++[b.nd],qh (cL a M t).2 ((t:Int)+1) (((cL a M t).1.length+1:Nat):Int)) else cL a M t:=by
    conv=>lhs;unfold cL
    rw[m]
   rw[et,F];obtain⟨q,ea⟩:=(S.row 0 rfl).some_of (by rw[bE];omega);have ap:bD g (some q) (aD gv.ns):=by rw[←ea];exact S.row 0 rfl
   refine ak (p:=gv.p) (l:=gv.l) (c:=gv.c) (S.c 0) (aC ea rfl (by omega) ?_);refine gi ap en ?_;refine aA S fun U g2 _ S=> ?_;refine bP S 7 rfl rfl (aW rfl) fun g3 _ S=> ?_;refine aC rfl (k:=t+1) (by omega) (by omega) ?_;rw[show((t:Int)+1).toNat=t+1 by omega];simp only[aR,SN,VO];refine fY (S.cell 2 rfl (yn (nk (show t+1≤gv.l by omega)))) ?_;have ec:(((t+1:Nat):Int))=(t:Int)+1:=rfl;refine bJ (cX (fun z=> ?_) (fun z=> ?_))
   ·rw[ec]at z;rw[if_pos z]at eT;replace S:=S.nil 1
    refine aO (fun K s g=> ∃(j:Nat)(J:Option Addr)(il ic:Nat),s=(⟨O,0,none⟩,⟨Q,0,none⟩,(some ⟨X,0,none⟩,gv.l+1,gv.l+1),(some ⟨Y,0,none⟩,gv.l+1,gv.l+1),⟨w,0,none⟩,(t:Int)+1,⟨U,0,none⟩,(J,il,ic),(j:Int),())∧j≤b.inn.l∧K=b.inn.l-j∧il=j∧
     aG h no g [aJ O gv.cells,aJ Q (aK bz (zT bz)),aJ X (xj (fo gv.l M)),aJ Y (az (B6 gv.l N)),aJ w (⟨gv.width,gv.low,gv.high,lp,C,E,dL N (D:Int),[]⟩:Gv).cells,own 15 lp C E (aD V),dw (V.map Nv.inn),aJ U b.cells,own 1 J il ic (az ((b.inn.xs.take j).map (dL N)))] [row gv.p (aD gv.ns),aM gv.ns]) b.inn.l
     ⟨0,none,0,0,rfl,by omega,rfl,rfl,S⟩ ?_
    rintro K s g ⟨j,J,il,ic,rfl,hj,rfl,rfl,S⟩;unfold tD;simp only[aR,SN];have ej:kn .i64 ((il:Int)+1)=((il+1:Nat):Int):=by rw[al (by omega)];rfl
    rw[ej];refine ak (p:=b.inn.p) (l:=b.inn.l) (c:=b.inn.c) (S.c 7) ?_;refine aq (fun bm=> ?_) (fun bk=> ?_)
    ·have ag:il<b.inn.xs.length:=by omega
     have hx:=aw _ (VN ag);have B:bD g b.inn.p (az b.inn.xs):=S.r 1 _ rfl _ (V1 o) b.inn.row (by simp);obtain⟨aa,an⟩:=B.some_of (by rw[av];omega);rw[an]at B;refine ak (p:=b.inn.p) (l:=b.inn.l) (c:=b.inn.c) (S.c 7) (aC an rfl (by omega) ?_);simp only[hC,VO];refine ae (B.cell (aF (bo ag))) ?_;obtain⟨x,ex⟩: ∃x:Nat,b.inn.xs[il]=(x:Int):=⟨b.inn.xs[il].toNat,by omega⟩;rw[ex]at hx ⊢;refine aC rfl (k:=x) rfl (by omega) ?_;simp only[hC,aR,SN,VO];refine ae (n:=dL N (x:Int)) (S.cell 3 rfl (aF (uU (by omega)))) ?_;refine aA (cs:=[.int .i64 (dL N (x:Int))]) S fun bn g4 _ S=> ?_;refine cI S 8 (ys:=az [dL N (x:Int)]) rfl rfl (by decide) (by omega) (bD.of_at (S.at 9 rfl)) rfl dc fun p2 l2 c2 g5 a9 S=> ?_;have e:az ((b.inn.xs.take il).map (dL N))++az [dL N (x:Int)]=az ((b.inn.xs.take (il+1)).map (dL N)):=by
      rw[gD ag,ex];simp only[az,V2,Wc,WZ]
     rw[e]at S;exact⟨b.inn.l-(il+1),by omega,il+1,p2,l2,c2,rfl,by omega,rfl,a9,S.pw [0,1,2,3,4,5,6,7,8]⟩
    ·rw[py (by omega)]at S;have a5:=(S.own 8 rfl).2.1;refine ck S 7 fun g8 _ S=> ?_;have e3:b.cells.set 1 (.slice J il ic)=({b with inn:=⟨J,il,ic,b.inn.xs.map (dL N)⟩}:Nv).cells:=Hs b ⟨J,il,ic,b.inn.xs.map (dL N)⟩;rw[e3]at S;obtain⟨f,u⟩: ∃f:Nv,f={b with inn:=⟨J,il,ic,b.inn.xs.map (dL N)⟩}:=⟨_,rfl⟩;rw[←u]at S;refine ak (p:=lp) (l:=C) (c:=E) (S.c 4) ?_;refine aL S 7 rfl (x:=f.t) rfl ?_;refine aA S fun ay g9 _ S=> ?_;refine cI S 5 (ys:=f.cells) rfl rfl (by decide) (by omega) (bD.of_at (S.at 9 rfl)) rfl (aW rfl) fun p' l' c' bp a8 S=> ?_;refine ck S 4 fun a4 _ S=> ?_;have ao:f.inn.own=own 1 J il ic (az (b.inn.xs.map (dL N))):=by rw[u];rfl
     have S1:aG h no a4 [aJ O gv.cells,aJ Q (aK bz (zT bz)),aJ X (xj (fo gv.l M)),aJ Y (az (B6 gv.l N)),aJ w (⟨gv.width,gv.low,gv.high,p',l',c',dL N (D:Int),[]⟩:Gv).cells,own 15 p' l' c' (aD V++f.cells),dw (V.map Nv.inn),aJ U f.cells,f.inn.own,aJ ay f.cells] [row gv.p (aD gv.ns),aM gv.ns]:=by
      rw[ao];exact S
     have S2:=Hr S1 [0,1,2,3,4,5] 6 8 rfl rfl;have a1:aD V++f.cells=aD (V++[f]):=by rw[fK,show aD [f]=f.cells by simp[aD]]
     have bg:f.nd=b.nd.ren N:=by rw[u];rfl
     rw[F];refine⟨gv.l-(t+1),by omega,t+1,p',l',c',V++[f],rfl,by omega,rfl,by rw[Tz];exact a8.trans (by rw[ai];rfl),?_,fun n d=> ?_,fun n d=> ?_,?_⟩
     ·rw[eT,V2,V2,hV];show _++[f.nd]=_++[b.nd.ren N];rw[bg]
     ·rcases VW.1 d with d|d
      ·exact ab n d
      ·simp only[VK]at d;subst d;rw[u];exact⟨⟨by show(b.inn.xs.map (dL N)).length=il;rw[Ug];omega,a5⟩,ax.2⟩
     ·rcases VW.1 d with d|d
      ·exact ad n d
      ·simp only[VK]at d;subst d;exact⟨b,o,by rw[u],by rw[u]⟩
     ·rw[←a1,V2];exact S2
   ·rw[ec]at z;rw[if_neg (by rw[z];simp)]at eT;exact⟨gv.l-(t+1),by omega,t+1,lp,C,E,V,rfl,by omega,rfl,ai,by rw[eT];exact hV,ab,ad,S.pw [0,1,2,3,4,5,6]⟩
  ·have bd:t=gv.l:=by omega
   rw[bd]at hV;refine aL S 4 rfl (x:=(⟨gv.width,gv.low,gv.high,lp,C,E,dL N (D:Int),V⟩:Gv).t) rfl ?_;refine bP S 1 rfl rfl (aW rfl) fun g5 _ S=> ?_;refine aL S 1 rfl (x:=(⟨gv.width,gv.low,gv.high,lp,C,E,dL N (D:Int),V⟩:Gv).t) rfl ?_;refine⟨⟨gv.width,gv.low,gv.high,lp,C,E,dL N (D:Int),V⟩,rfl,?_,⟨ai.symm,(S.own 5 rfl).2.1,ab⟩,ad,yy (S.pw [5,6])⟩;show Gr.mk _ _ _ (V.map Nv.nd) _=_;rw[hV]
end
end
section
def Ek(ns:List Nv):bc:=cM (ns.map fun n=>n.inn.row)
theorem Sj{h:ah}{a ns:List Nv}(o:(Ek ns).P h)(r:(aM a).P h)(w:WB a ns):(aM ns).P h:=by
 rintro f b;obtain⟨n,c,rfl⟩:=VZ.1 b;obtain⟨m,i,e,g⟩:=w n c;have d:=r _ (V1 i);rintro f b;simp only[V5,WO,or_false]at b;rcases b with rfl|rfl|rfl
 ·exact o _ (VZ.2 ⟨n,c,rfl⟩)
 ·rw[e];exact d m.weights.row (by simp)
 ·rw[g];exact d m.bias.row (by simp)
theorem QC{h:ah}{ns:List Nv}(r:(aM ns).P h):(Ek ns).P h:=by
 rintro f a;obtain⟨n,b,rfl⟩:=VZ.1 a;exact r _ (V1 b) n.inn.row (by simp)
section
variable {h0 h:ah} {T:Nat→Prop} {W R:List bc}
theorem Sk(S:aG h0 T h W R)(i:Nat){sz:Nat}{p:Option Addr}{l c:Nat}{xs:List Value}(e:W[i]? =some (own sz p l c xs)):aG h0 T h (W.set i (row p xs)) R:=
 S.turn i e _ (fun o=>m8.row o) fun b ⟨_,a,d,f⟩=>⟨a,d,f⟩
theorem Oo(S:aG h0 T h W R)(i:Nat){ns:List Nv}(e:W[i]? =some (dw (ns.map Nv.inn))):aG h0 T h (W.set i (Ek ns)) R:=
 S.turn i e _ (fun o f d=>by
  obtain⟨n,g,rfl⟩:=VZ.1 d;exact qf o (V1 g)) fun b ⟨f,d,c⟩=>by
  obtain⟨n,g,rfl⟩:=VZ.1 d;obtain⟨_,a,j,c⟩:=c;exact⟨n.inn,V1 g,a,j,c⟩
theorem Oq{gv:Gv}(K:gv.ok)(B:bD h gv.p (aD gv.ns))(hr:(aM gv.ns).P h)(hl:gv.l<2 ^ 20)(hs: ∀n∈gv.ns,n.inn.l<2 ^ 40∧n.weights.l<2 ^ 62∧n.bias.l<2 ^ 62):
 au P qL #[gv.v] h (TE (dC gv.gr) gv.ns h):=by
 refine Bw _ ?_;unfold CN;have a1:=K.1;have S:=((((aG.start h no).read (row gv.p (aD gv.ns)) B).read (aM gv.ns) hr).read (row gv.p (aD gv.ns)) B).read (Ek gv.ns) (QC hr);refine aA (cs:=gv.cells) S fun b1 U _ S=> ?_;refine aA (cs:=aK bz (zT bz)) S fun b3 h2 _ S=> ?_;refine aL S 0 rfl (x:=gv.t) rfl ?_;refine(qi K (S.ro 0) (S.rd 1) hl hs).mono ?_;rintro _ h3 ⟨o,w,r,rfl,_,_,_,_,_,_,D⟩;replace S:=(S.add D fun _ _ h=>h).pw [0,1];simp only[Yg,Yh,Sh.pick,List.getElem?_cons_zero,List.getElem?_cons_succ]at S;refine⟨_,_,_,_,_,_,_,_,_,_,rfl,bh (fun m=> ?_) (fun m=> ?_)⟩
 ·refine bP S 1 rfl rfl (by decide) fun h4 _ S=> ?_;refine aL S 1 rfl (x:=(⟨0,0,0,none,0,0,0,[]⟩:Gv).t) rfl ?_;refine⟨(⟨0,0,0,none,0,0,0,[]⟩:Gv),rfl,by unfold dC;rw[if_neg m];rfl,⟨rfl,VX _,by intro n B;cases B⟩,(by intro n B;cases B),?_⟩;exact yw ((yy (S.pw [])).nil 15)
 ·have e0:gv.gr.look.e=0:=m;have I0:=vl e0;have E:=yt (gv.gr.nodes.length+1) (gv.gr.nodes,gv.gr.out,ko gv.gr.nodes gv.gr.out) I0 (Nat.lt_succ_of_le (Cb _ _));have ab:dC gv.gr=dP gv.gr (eM (gv.gr.nodes.length+1) (gv.gr.nodes,gv.gr.out,ko gv.gr.nodes gv.gr.out)):=by
   unfold dC;rw[if_pos e0]
  rw[ab];generalize eM (gv.gr.nodes.length+1) (gv.gr.nodes,gv.gr.out,ko gv.gr.nodes gv.gr.out)=F at E;generalize posG gv.gr.nodes=pos at I0;have an:=Cb gv.l (ko gv.gr.nodes gv.gr.out);generalize ko gv.gr.nodes gv.gr.out=M0 at E I0 an
  refine aO (fun mm s g=> ∃(k:Nat)(a:Gv)(M:LM),s=(⟨b1,0,none⟩,⟨b3,0,none⟩,(k:Int),())∧k≤gv.l+1∧mm=gv.l+1-k∧a.ok∧a.l=gv.l∧WB gv.ns a.ns∧a.width=gv.width∧a.low=gv.low∧a.high=gv.high∧
   gm a.gr.nodes a.gr.out M pos∧yr (a.gr.nodes,a.gr.out,M) F∧(fd a.gr.nodes a.gr.out M=none∨keys gv.l M+k≤gv.l)∧
   aG h no g [aJ b1 a.cells,aJ b3 (aK bz (zT bz))] [row gv.p (aD gv.ns),aM gv.ns,row a.p (aD a.ns),Ek a.ns]) (gv.l+1)
   ⟨0,gv,M0,rfl,by omega,rfl,K,rfl,WB.refl _,rfl,rfl,rfl,I0,E,.inr (by omega),S⟩ ?_
  rintro mm s g ⟨k,a,M,rfl,hk,rfl,j,cl,y,cw,H,G,I,E,u,S⟩;unfold vW;simp only[aR,SN];have q:a.gr.nodes.length=gv.l:=by rw[←cl,←j.1];simp[Gv.gr]
  have A: ∀n∈a.ns,n.inn.l<2 ^ 40:=fun n B=>by
   have U:=(j.2.2 n B).1.1;obtain⟨i,en⟩:=Wx.1 B;have:=(I.ranked i n.nd (by show(a.ns.map Nv.nd)[i]? =_;rw[VP,en];rfl)).1;have e:n.nd.inn=n.inn.xs:=rfl;rw[e]at this;omega
  have z:a.l<2 ^ 20:=by omega
  have a3:1≤a.out:=I.out1;have ar:a.out≤(a.l:Int):=by have:=I.outn;rw[q,←cl]at this;exact this
  have rows: ∀{g:ah}{W:List bc},aG h no g W [row gv.p (aD gv.ns),aM gv.ns,row a.p (aD a.ns),Ek a.ns]→(aM a.ns).P g:=fun S=>Sj (S.rd 3) (S.rd 1) y;have ek:kn .i64 ((k:Int)+1)=((k+1:Nat):Int):=by rw[al (by omega)];rfl
  refine ak (p:=a.p) (l:=a.l) (c:=a.c) (S.c 0) ?_;refine aq (fun a2=> ?_) (fun a0=> ?_)
  ·refine aL S 0 rfl (x:=a.t) rfl ?_;refine(Gl j (S.ro 2) (rows S) z A I.ranked.Inn ⟨by omega,ar⟩).mono ?_;rintro _ h4 ⟨b5,rfl,D⟩;have ad:eC a.gr.nodes a.out a.l=fo a.l M:=by
    have:=JG I;rw[q,←cl]at this;exact this
   rw[ad]at D;replace S:=S.add D fun _ _ h=>h;refine⟨_,_,_,rfl,?_⟩
   refine aO (fun mm s g=> ∃t:Nat,s=(⟨b1,0,none⟩,⟨b3,0,none⟩,(k:Int),(some ⟨b5,0,none⟩,a.l+1,a.l+1),(t:Int)+1,())∧t≤a.l∧mm=a.l-t∧lJ a.gr.nodes a.gr.out M (a.l-t) t=fd a.gr.nodes a.gr.out M∧
    aG h no g [aJ b1 a.cells,aJ b3 (aK bz (zT bz)),aJ b5 (xj (fo a.l M))] [row gv.p (aD gv.ns),aM gv.ns,row a.p (aD a.ns),Ek a.ns]) a.l
    ⟨0,rfl,by omega,rfl,by unfold fd;rw[q,←cl];rfl,S⟩ ?_
   rintro mm s g ⟨t,rfl,ht,rfl,b,S⟩;unfold vV;simp only[aR,SN];refine ak (p:=a.p) (l:=a.l) (c:=a.c) (S.c 0) ?_;refine aq (fun ay=> ?_) (fun ax=> ?_)
   ·have L:t<a.l:=by omega
    have aw:lJ a.gr.nodes a.gr.out M (a.l-t) t=match eP a.gr.nodes a.gr.out M t with|some x=>some x|none=>lJ a.gr.nodes a.gr.out M (a.l-(t+1)) (t+1):=by
     rw[show a.l-t=(a.l-(t+1))+1 by omega];rfl
    rw[aw]at b;have aj:kn .i64 ((t:Int)+1+1)=((t+1:Nat):Int)+1:=by rw[al (by omega)];rfl
    refine aL S 0 rfl (x:=a.t) rfl ?_;have Z:bD g (some ⟨b5,0,none⟩) (xj (fo a.l M)):=bD.of_at (S.ap 2);refine(LK j (S.ro 2) (rows S) z A Z rfl L).mono ?_;rintro _ h5 ⟨rfl,Fr⟩;replace S:=S.fra0 Fr;refine⟨_,rfl,?_⟩;rcases LP I (show t<a.gr.nodes.length by omega) with ⟨U,h2⟩|⟨w,na,nu,a',st,U,s,h2⟩
    ·have J:ph a.gr.nodes a.out M ((t:Int)+1)=0:=U;rw[J];rw[h2]at b;refine bG (by decide) ?_;rw[aj];exact⟨a.l-(t+1),by omega,t+1,rfl,by omega,rfl,b,S⟩
    ·have J:ph a.gr.nodes a.out M ((t:Int)+1)=(w:Int)+1:=U;rw[J];rw[h2]at b;have b:some st=fd a.gr.nodes a.gr.out M:=b;refine cC (decide_eq_true (by omega)) ?_;obtain⟨a4,ag,O⟩: ∃nv,a.ns[t]? =some nv∧nv.nd=na:=by
      have h:=s.ea;have h:(a.ns.map Nv.nd)[t]? =some na:=h;rw[VP,WM]at h;exact h
     obtain⟨a5,ai,Q⟩: ∃nv,a.ns[w]? =some nv∧nv.nd=nu:=by
      have h:=s.eu;have h:(a.ns.map Nv.nd)[w]? =some nu:=h;rw[VP,WM]at h;exact h
     refine aL S 0 rfl (x:=a.t) rfl ?_;refine(LL j (S.ro 2) (rows S) z A ag ai (a':=a') (by rw[O,Q];exact s.tk)).mono ?_;rintro _ h6 ⟨d,rfl,f,C,N,D⟩;replace S:=S.add D fun _ _ h=>h;dsimp only[Yh,Yg]at S;refine fy d.t ⟨rfl,?_⟩;refine bP S 0 rfl rfl (aW rfl) fun h7 _ S=> ?_;rw[ek];have X:st=(d.gr.nodes,d.gr.out,st.2.2):=by
      have e1:st.1=d.gr.nodes:=by rw[f,s.st];rfl
      have e2:st.2.1=d.gr.out:=by rw[f,s.st];rfl
      rw[←e1,←e2]
     have ao:d.gr.nodes.length=gv.l:=by rw[f];show(vF _ _ _).length=_;rw[uM,VU];exact q
     have V:d.l=gv.l:=by rw[←ao,←C.1];simp[Gv.gr]
     have Y:=s.inv I;have key:=s.keys I;rw[q]at key;have ff:yr st F:=by
      cases E with
      |done hd=>
       have hd:fd a.gr.nodes a.gr.out M=none:=hd;rw[hd]at b;cases b
      | @more _ t' _ m hF=>
        have m:fd a.gr.nodes a.gr.out M=some t':=m;rw[m]at b;cases b;exact hF
     have aa:keys gv.l M+k≤gv.l:=by
      rcases u with h|h
      ·rw[h]at b;cases b
      ·exact h
     rw[X]at Y ff;have S2:=Sk S 3 rfl;have S3:=Oo S2 4 rfl;have S4:=(S3.settle [0,1] [3,4]).pick [0,1] [0,1,4,5];refine⟨gv.l+1-(k+1),by omega,k+1,d,st.2.2,rfl,by omega,rfl,C,V,y.trans N,?_,?_,?_,Y,ff,.inr (by omega),S4⟩
     ·have:=congrArg Gr.width f;exact this.trans cw
     ·have:=congrArg Gr.low f;exact this.trans H
     ·have:=congrArg Gr.high f;exact this.trans G
   ·have L:t=a.l:=by omega
    rw[ek];have hN:fd a.gr.nodes a.gr.out M=none:=by rw[←b,L,WD];rfl
    exact⟨gv.l+1-(k+1),by omega,k+1,a,M,rfl,by omega,rfl,j,cl,y,cw,H,G,I,E,.inl hN,S.pw [0,1]⟩
  ·have hN:fd a.gr.nodes a.gr.out M=none:=by
    rcases u with h|h
    ·exact h
    ·omega
   have eF:F=(a.gr.nodes,a.gr.out,M):=by
    cases E with
    |done hd=>rfl
    |more m hF=>
     have m:fd a.gr.nodes a.gr.out M=some _:=m;rw[hN]at m;cases m
   refine aL S 0 rfl (x:=a.t) rfl ?_;refine(On j (S.ro 2) (rows S) z A I).mono ?_;rintro _ h6 ⟨d,rfl,f,C,N,D⟩;replace S:=S.add D fun _ _ h=>h;refine fy d.t ⟨rfl,?_⟩;refine bP S 1 rfl rfl (aW rfl) fun h7 _ S=> ?_;refine aL S 1 rfl (x:=d.t) rfl ?_;refine⟨d,rfl,?_,C,y.trans N,yy (S.pw [2,3])⟩;rw[f,eF];unfold dP;have e1:a.gr.width=gv.gr.width:=cw;have e2:a.gr.low=gv.gr.low:=H;have e3:a.gr.high=gv.gr.high:=G;rw[e1,e2,e3]
