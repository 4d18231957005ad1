/- CStep CStep2 CStep3, in one text. -/
import Derived.Test.YtdhpmegbmjoekaaGreatDoorCLive
set_option linter.unusedVariables false
set_option linter.unusedSimpArgs false
namespace Go.Proofs.YtdhpmegbmjoekaaGreatDoor.G
open Go Go.Sh
open Go.IntKind renaming wrap→kn
section
def fq(ns:List Nd)(M:LM)(a:Int):Nat→Int
 |0=>0
 |j+1=>match ns[j]? with
  |some n=>if(M ((j:Int)+1)).isSome∧a∈n.inn then(j:Int)+1 else fq ns M a j
  |none=>fq ns M a j
def eO(ns:List Nd)(M:LM)(a:Int):Int:=fq ns M a ns.length
def nM(u a:Int)(k:Int):Int:=if k=u then a else k
def vF(u a:Int)(ns:List Nd):List Nd:=ns.mapIdx fun q n=>if(q:Int)+1=u then n else{n with inn:=n.inn.map (nM u a)}
abbrev Cd:=List Nd×Int×LM
def eP(ns:List Nd)(out:Int)(M:LM)(i:Nat):Option Cd:=
 match ns[i]? with
 |none=>none
 |some a=>
  if M ((i:Int)+1)=some 1∧(i:Int)+1≠out∧gq a.kind then
   match ns[(eO ns M ((i:Int)+1)-1).toNat]? with
   |none=>none
   |some c=>(nF a c).map fun b=>(vF (eO ns M ((i:Int)+1)) ((i:Int)+1) (ns.set i b),if out=eO ns M ((i:Int)+1) then(i:Int)+1 else out,
    R2 (qh M ((i:Int)+1) ((M (eO ns M ((i:Int)+1))).getD 0)) (eO ns M ((i:Int)+1)))
  else none
def lJ(ns:List Nd)(out:Int)(M:LM):Nat→Nat→Option Cd
 |0,_=>none
 |k+1,i=>match eP ns out M i with
  |some x=>some x
  |none=>lJ ns out M k (i+1)
def fd(ns:List Nd)(out:Int)(M:LM):Option Cd:=lJ ns out M ns.length 0
def Mz(ns:List Nd)(M:LM):Prop:= ∀i:Nat,i<ns.length→M ((i:Int)+1)=some 1→1≤eO ns M ((i:Int)+1)
theorem zY(ns:List Nd)(M:LM)(a:Int): ∀j,0≤fq ns M a j∧fq ns M a j≤(j:Int)
 |0=>by simp[fq]
 |j+1=>by
  have:=zY ns M a j;unfold fq;split
  ·split<;>omega
  ·omega
def Sl.rep(u a:Int)(s:Sl):Sl:={s with xs:=s.xs.map (nM u a)}
def kh(u a:Int)(j:Nat)(ns:List Nv):List Nv:=ns.mapIdx fun q n=>if(q:Int)+1=u∨j≤q then n else{n with inn:=n.inn.rep u a}
theorem NX(u a:Int)(ns:List Nv):kh u a 0 ns=ns:=by
 unfold kh;apply Wk;intro q;rw[XN];cases ns[q]? <;>simp
theorem lg(u a:Int)(j:Nat)(ns:List Nv):(kh u a j ns).length=ns.length:=by simp[kh]
theorem jq(u a:Int)(j q:Nat)(ns:List Nv):(kh u a j ns)[q]? =ns[q]?.map fun n=>if(q:Int)+1=u∨j≤q then n else{n with inn:=n.inn.rep u a}:=by
 unfold kh;rw[XN]
theorem Lu(u a:Int)(j:Nat)(ns:List Nv):aD (kh u a j ns)=aD ns:=by
 unfold aD;congr 1;apply Wk;intro q;rw[VP,VP,jq];cases ns[q]? with
 |none=>rfl
 |some n=>
  simp only[Option.map_some];split
  ·rfl
  ·rw[dq,dq];rfl
theorem RS(u a:Int)(ns:List Nv):(kh u a ns.length ns).map Nv.nd=vF u a (ns.map Nv.nd):=by
 apply Wk;intro q;rw[VP,jq];unfold vF;rw[XN,VP];cases hq:ns[q]? with
 |none=>rfl
 |some n=>
  have b:=(R8.1 hq).1;simp only[Option.map_some];by_cases h:(q:Int)+1=u
  ·rw[if_pos (.inl h),if_pos h]
  ·rw[if_neg (by omega),if_neg h];rfl
theorem NY{u a:Int}{j:Nat}{ns:List Nv}(d:j<ns.length):kh u a (j+1) ns=if(j:Int)+1=u then kh u a j ns else(kh u a j ns).set j {ns[j] with inn:=ns[j].inn.rep u a}:=by
 apply Wk;intro q;rw[jq];by_cases c:(j:Int)+1=u
 ·rw[if_pos c,jq];cases hq:ns[q]? with
  |none=>rfl
  |some n=>
   simp only[Option.map_some,Option.some.injEq];by_cases b:q=j
   ·subst b;rw[if_pos (.inl c),if_pos (.inl c)]
   ·by_cases h:(q:Int)+1=u∨j≤q
    ·rw[if_pos h,if_pos (by omega)]
    ·rw[if_neg h,if_neg (by omega)]
 ·rw[if_neg c];by_cases b:q=j
  ·subst b;rw[V4 (by rw[lg];exact d),bo d,Option.map_some,if_neg (by omega)]
  ·rw[Wv (Ne.symm b),jq];cases hq:ns[q]? with
   |none=>rfl
   |some n=>
    simp only[Option.map_some,Option.some.injEq];by_cases h:(q:Int)+1=u∨j≤q
    ·rw[if_pos h,if_pos (by omega)]
    ·rw[if_neg h,if_neg (by omega)]
theorem Qc(u a:Int)(j:Nat)(ns:List Nv):vG (kh u a j ns)=vG ns:=by
 have: ∀l m:List Nv,l.length=m.length→(∀q (b:q<l.length) (c:q<m.length),l[q].weights=m[q].weights∧l[q].bias=m[q].bias)→vG l=vG m:=by
  intro l
  induction l with
  |nil=>intro m d _;have:m=[]:=Wn.1 d.symm;subst this;rfl
  |cons x r f=>
   intro m d e;cases m with
   |nil=>simp at d
   |cons y s=>
    have h0:=e 0 (by simp) (by simp);simp only[List.getElem_cons_zero]at h0;have:=f s (by simpa using d) fun q b c=>by
     have:=e (q+1) (by simpa using b) (by simpa using c);simpa using this
    unfold vG at this ⊢;rw[Ww,Ww,this,h0.1,h0.2]
 refine this _ _ (lg _ _ _ _) fun q b c=> ?_;have:=jq u a j q ns;rw[bo b,bo c,Option.map_some,Option.some.injEq]at this;rw[this];split<;>exact⟨rfl,rfl⟩
end
section
def FZ(u a:Int)(b:Bool)(xs:List Int)(m:Nat):List Int:=if b then xs else(xs.take m).map (nM u a)++xs.drop m
theorem Qd(u a:Int)(b:Bool)(xs:List Int):FZ u a b xs 0=xs:=by unfold FZ;split<;>simp
theorem D0(u a:Int)(b:Bool)(xs:List Int)(m:Nat):(FZ u a b xs m).length=xs.length:=by unfold FZ;split<;>simp;omega
theorem RT(u a:Int)(b:Bool){xs:List Int}{m:Nat}(c:m<xs.length):(FZ u a b xs m)[m]? =some xs[m]:=by
 unfold FZ;split
 ·exact bo c
 ·rw[Wl (by simp;omega),Wz];simp only[Ug,VV];rw[show m+(m-min m xs.length)=m by omega,bo c]
theorem RU{u a:Int}{xs:List Int}{m:Nat}(b:m<xs.length)(c:xs[m]=u):(FZ u a false xs m).set m a=FZ u a false xs (m+1):=by
 unfold FZ;simp only[Ws,if_false];rw[Wy _ _ (by simp;omega),Ug,VV,Xd (by omega),WD,V6 b,WW,gD b,V2,VY];congr 1;simp[nM,c]
theorem Ji{u a:Int}{b:Bool}{xs:List Int}{m:Nat}(d:m<xs.length)(c:b=true∨xs[m]≠u):FZ u a b xs (m+1)=FZ u a b xs m:=by
 unfold FZ;split
 ·rfl
 ·rename_i e;have c:xs[m]≠u:=by rcases c with h|h;exact absurd h e;exact h
  rw[gD d,V2,VY,V6 d];congr 1;simp[nM,c]
theorem RV(u a:Int)(b:Bool)(xs:List Int):FZ u a b xs xs.length=if b then xs else xs.map (nM u a):=by unfold FZ;split<;>simp
theorem NZ{u a:Int}{j:Nat}{ns:List Nv}{n:Nv}(e:ns[j]? =some n):(kh u a (j+1) ns).map Nv.inn=((kh u a j ns).map Nv.inn).set j {n.inn with xs:=FZ u a (decide ((j:Int)+1=u)) n.inn.xs n.inn.xs.length}:=by
 have c:=(R8.1 e).1;have d:ns[j]=n:=by rw[bo c]at e;exact Option.some.inj e
 rw[NY c,RV,d];by_cases b:(j:Int)+1=u
 ·rw[if_pos b,if_pos (by simpa using b)];have:((kh u a j ns).map Nv.inn)[j]? =some n.inn:=by rw[VP,jq,e,Option.map_some,if_pos (.inl b)];rfl
  have f:j<((kh u a j ns).map Nv.inn).length:=by rw[Ug,lg];exact c
  rw[bo f]at this;show _=List.set _ j n.inn;rw[←Option.some.inj this,WJ]
 ·rw[if_neg b,if_neg (by simpa using b),XH];rfl
section
variable {h0 h:ah} {T:Nat→Prop} {R:List bc}
theorem N0{gv:Gv}(hl:gv.l<2 ^ 20){d:List Nv}(ad:d.length=gv.l)(hs: ∀n∈d,n.inn.xs.length=n.inn.l∧n.inn.l<2 ^ 40){b1 r:Nat}{M:LM}{Q:Value→ah→Prop}{P U}(i:Nat)(hi:i<gv.l)(u:Int)
 (S:aG h0 T h [aJ b1 gv.cells,own 15 gv.p gv.l gv.c (aD d),dw (d.map Nv.inn),xm r M] R)
 (H: ∀h',aG h0 T h' [aJ b1 ({gv with out:=if gv.out=u then(i:Int)+1 else gv.out}:Gv).cells,own 15 gv.p gv.l gv.c (aD d),dw ((kh u ((i:Int)+1) d.length d).map Nv.inn),xm r (R2 (qh M ((i:Int)+1) ((M u).getD 0)) u)] R→Q (.bool true) h'):
 bf (S:=(Option Addr×Option Nat×Int×Int×Int×Int×Unit)) (fun V s h=>o0 Q P U V s.1 s.2.1 s.2.2.1 s.2.2.2.1 s.2.2.2.2.1 s.2.2.2.2.2.1 h) (some ⟨b1,0,none⟩,some r,(i:Int),u,((gv.l:Nat):Int),(0:Int),()) h:=by
 have I:kn .i64 ((i:Int)+1)=(i:Int)+1:=by rw[al (by omega)]
 refine aO (fun A s g=> ∃j:Nat,s=(some ⟨b1,0,none⟩,some r,(i:Int),u,(gv.l:Int),(j:Int),())∧j≤gv.l∧A=gv.l-j∧
  aG h0 T g [aJ b1 gv.cells,own 15 gv.p gv.l gv.c (aD d),dw ((kh u ((i:Int)+1) j d).map Nv.inn),xm r M] R) gv.l ⟨0,rfl,by omega,rfl,by rw[NX];exact S⟩ ?_
 rintro A s g ⟨j,rfl,hj,rfl,S⟩;unfold o0;simp only[j8,aR,SN];refine aq (fun ab=> ?_) (fun aa=> ?_)
 ·have w:j<d.length:=by omega
  obtain⟨n,B⟩: ∃n,d[j]? =some n:=⟨_,bo w⟩;have x:=VL B;obtain⟨ag,ai⟩:=hs n x;refine ak (p:=gv.p) (l:=gv.l) (c:=gv.c) (S.c 0) ?_;obtain⟨b,C⟩: ∃b,gv.p=some ⟨b,0,none⟩:=by
   obtain⟨_,_,⟨_,h0,_⟩|⟨b,cs,e,_⟩⟩:=S.ow 1
   ·omega
   ·exact⟨b,e⟩
  refine aC C rfl (by omega) ?_;simp only[hC,aR,SN];have O: ∀{g:ah}{W:List bc},aG h0 T g W R→W[1]? =some (own 15 gv.p gv.l gv.c (aD d))→aB g ⟨b,j*15+1,none⟩=some n.inn.v:=fun S e=>by
   have N:=(S.own 1 e).row;rw[C]at N;have:=N.cell (i:=j*15+1) (by rw[iu B (by decide)];rfl);rw[aR,SN]at this;exact this
  refine ak (p:=n.inn.p) (l:=n.inn.l) (c:=n.inn.c) (O S rfl) ?_;have z:j<((kh u ((i:Int)+1) j d).map Nv.inn).length:=by rw[Ug,lg];exact w
  have y:((kh u ((i:Int)+1) j d).map Nv.inn)[j]? =some n.inn:=by rw[VP,jq,B,Option.map_some,if_pos (.inr (VX _))];rfl
  have G:((kh u ((i:Int)+1) j d).map Nv.inn).set j n.inn=(kh u ((i:Int)+1) j d).map Nv.inn:=by
   rw[bo z]at y;rw[←Option.some.inj y,WJ]
  refine aO (fun A s g=> ∃m:Nat,s=(some ⟨b1,0,none⟩,some r,(i:Int),u,(j:Int),(gv.l:Int),(j:Int),(n.inn.p,n.inn.l,n.inn.c),(n.inn.l:Int),(m:Int),())∧m≤n.inn.l∧A=n.inn.l-m∧
   aG h0 T g [aJ b1 gv.cells,own 15 gv.p gv.l gv.c (aD d),dw (((kh u ((i:Int)+1) j d).map Nv.inn).set j {n.inn with xs:=FZ u ((i:Int)+1) (decide ((j:Int)+1=u)) n.inn.xs m}),xm r M] R) n.inn.l
   ⟨0,rfl,by omega,rfl,by rw[Qd];show aG h0 T g [_,_,dw (List.set _ j n.inn),_] R;rw[G];exact S⟩ ?_
  rintro A s g ⟨m,rfl,hm,rfl,S⟩;unfold wh;simp only[j8,aR,SN];have J:kn .i64 ((j:Int)+1)=(j:Int)+1:=by rw[al (by omega)]
  have X:kn .i64 ((m:Int)+1)=((m+1:Nat):Int):=by rw[al (by omega)];rfl
  have t:(((kh u ((i:Int)+1) j d).map Nv.inn).set j {n.inn with xs:=FZ u ((i:Int)+1) (decide ((j:Int)+1=u)) n.inn.xs m})[j]? =some {n.inn with xs:=FZ u ((i:Int)+1) (decide ((j:Int)+1=u)) n.inn.xs m}:=by rw[V4 z]
  refine aq (fun L=> ?_) (fun K=> ?_)
  ·have f:m<n.inn.xs.length:=by omega
   have k:bD g n.inn.p (az (FZ u ((i:Int)+1) (decide ((j:Int)+1=u)) n.inn.xs m)):=qf (S.wd 2) (VL t);obtain⟨a,ea⟩:=k.some_of (by rw[av,D0];omega);have q:bD g (some a) (az (FZ u ((i:Int)+1) (decide ((j:Int)+1=u)) n.inn.xs m)):=by rw[←ea];exact k
   refine aC ea rfl (by omega) ?_;simp only[hC,VO];refine ae (n:=n.inn.xs[m]) (q.cell (aF (RT _ _ _ f))) ?_;rw[X];refine aH (fun E=> ?_) (fun E=> ?_)
   ·rw[J];refine bh (fun o=> ?_) (fun o=> ?_)
    ·refine ak (p:=gv.p) (l:=gv.l) (c:=gv.c) (S.c 0) ?_;refine aC C rfl (by omega) ?_;simp only[aR,SN];refine ak (p:=n.inn.p) (l:=n.inn.l) (c:=n.inn.c) (O S rfl) ?_;refine aC ea rfl (by omega) ?_;rw[I];refine Qf S 2 rfl t ea (by rw[D0];exact f) fun Y S=> ?_;rw[Xc]at S;have hd:decide ((j:Int)+1=u)=false:=by simpa using o
     refine⟨n.inn.l-(m+1),by omega,m+1,rfl,by omega,rfl,?_⟩;have e:=RU (a:=(i:Int)+1) f E;rw[hd]at S ⊢;rw[←e];exact S
    ·refine⟨n.inn.l-(m+1),by omega,m+1,rfl,by omega,rfl,?_⟩;rw[Ji f (.inl (by simpa using o))];exact S
   ·refine⟨n.inn.l-(m+1),by omega,m+1,rfl,by omega,rfl,?_⟩;rw[Ji f (.inr E)];exact S
  ·have:m=n.inn.xs.length:=by omega
   subst this;rw[J];refine⟨gv.l-(j+1),by omega,j+1,rfl,by omega,rfl,?_⟩;rw[NZ B];exact S
 ·have:j=d.length:=by omega
  subst this;refine ae (n:=gv.out) (S.c 0) ?_;rw[I];refine aH (fun F=> ?_) (fun F=> ?_)
  ·rw[if_pos F]at H;refine ck S 0 fun Y _ S=> ?_;refine iN (S.wd 3) ⟨_,rfl,uQ S 3 rfl fun Z S=> ?_⟩;rw[uP]at S;refine Ql S 3 rfl fun D S=> ?_;rw[MC]at S;exact H D S
  ·rw[if_neg F]at H;refine iN (S.wd 3) ⟨_,rfl,uQ S 3 rfl fun Z S=> ?_⟩;rw[uP]at S;refine Ql S 3 rfl fun D S=> ?_;rw[MC]at S;exact H D S
end
end
section
theorem RW{u a:Int}{j:Nat}{ns:List Nv}(h: ∀n∈ns,n.ok): ∀n∈kh u a j ns,n.ok:=by
 intro n e;obtain⟨q,c⟩:=Wx.1 e;rw[jq]at c;obtain⟨m,d,rfl⟩:=WM.1 c;have b:=h m (VL d);split
 ·exact b
 ·exact⟨⟨by show(m.inn.xs.map _).length=_;rw[Ug];exact b.1.1,b.1.2⟩,b.2⟩
theorem N1(u a:Int)(j:Nat)(ns:List Nv):(kh u a j ns).map (fun n=>n.inn.l)=ns.map fun n=>n.inn.l:=by
 apply Wk;intro q;rw[VP,VP,jq];cases ns[q]? with
 |none=>rfl
 |some n=>simp only[Option.map_some];split<;>rfl
theorem Ts{a u:Nv}(h:a.ok):(wm a u).ok:=by
 obtain⟨b,c,d⟩:=nB a u;unfold Nv.ok;rw[b,c,d];exact h
theorem rD{α β:Type}(f:α→β){l:List α}{i:Nat}{x y:α}(a:l[i]? =some x)(e:f y=f x):(l.set i y).map f=l.map f:=by
 have hi:=(R8.1 a).1;have b:i<(l.map f).length:=by rw[Ug];exact hi
 rw[XH,e];have:(l.map f)[i]? =some (f x):=by rw[VP,a];rfl
 rw[bo b]at this;rw[←Option.some.inj this,WJ]
theorem RX{ns:List Nv}{i:Nat}{x y:Nv}(c:ns[i]? =some x)(a:y.weights=x.weights)(b:y.bias=x.bias):vG (ns.set i y)=vG ns:=by
 unfold vG;have:=rD (fun n:Nv=>[n.weights.own,n.bias.own]) c (by rw[a,b]);rw[List.flatMap_def,List.flatMap_def,this]
theorem D1{a:List Nd}{out:Int}{M:LM}{k i:Nat}(h:eP a out M i=none):lJ a out M (k+1) i=lJ a out M k (i+1):=by
 conv=>lhs;unfold lJ
 rw[h]
theorem D2{a:List Nd}{out:Int}{M:LM}{k i:Nat}{x:Cd}(h:eP a out M i=some x):lJ a out M (k+1) i=some x:=by
 unfold lJ;rw[h]
section
variable {h0 h:ah} {T:Nat→Prop} {R:List bc}
theorem Tt{gv:Gv}(z:gv.ok)(hl:gv.l<2 ^ 20)(hs: ∀n∈gv.ns,n.inn.l<2 ^ 40){M:LM}(hu:Mz gv.gr.nodes M){b1 r:Nat}(S:aG h0 T h [aJ b1 gv.cells,own 15 gv.p gv.l gv.c (aD gv.ns),dw (gv.ns.map Nv.inn),xm r M] R):
 au P tQ #[.pointer (some ⟨b1,0,none⟩),.map (some r)] h fun v h'=> ∃(q:List Nv)(C:Int)(M':LM),v= .bool (fd gv.gr.nodes gv.out M).isSome∧(q.map Nv.nd,C,M')=(fd gv.gr.nodes gv.out M).getD (gv.gr.nodes,gv.out,M)∧
  ({gv with ns:=q,out:=C}:Gv).ok∧q.map (fun n=>n.inn.l)=gv.ns.map (fun n=>n.inn.l)∧vG q=vG gv.ns∧
  aG h0 T h' [aJ b1 ({gv with ns:=q,out:=C}:Gv).cells,own 15 gv.p gv.l gv.c (aD q),dw (q.map Nv.inn),xm r M'] R:=by
 refine Db _ _ ?_;unfold FA;have L:=z.1;obtain⟨a,F⟩: ∃a,gv.gr.nodes=a:=⟨_,rfl⟩;have f:gv.ns.map Nv.nd=a:=F;have ai:a.length=gv.l:=by rw[←f,Ug,L]
 rw[F]at hu ⊢;simp only[j8,aR,SN];refine ak (p:=gv.p) (l:=gv.l) (c:=gv.c) (S.c 0) ?_
 refine aO (fun mm s g=> ∃i:Nat,s=(some ⟨b1,0,none⟩,some r,(gv.l:Int),(i:Int),())∧i≤gv.l∧mm=gv.l-i∧lJ a gv.out M (gv.l-i) i=fd a gv.out M∧
  aG h0 T g [aJ b1 gv.cells,own 15 gv.p gv.l gv.c (aD gv.ns),dw (gv.ns.map Nv.inn),xm r M] R) gv.l ⟨0,rfl,by omega,rfl,by unfold fd;rw[ai];rfl,S⟩ ?_
 rintro mm s g ⟨i,rfl,hi,rfl,hF,S⟩;unfold xR;simp only[j8,aR,SN];refine aq (fun a5=> ?_) (fun a4=> ?_)
 rotate_left
 ·have:gv.l-i=0:=by omega
  rw[this]at hF;rw[←hF];exact⟨gv.ns,gv.out,M,rfl,by rw[f];rfl,z,rfl,rfl,S⟩
 have ad:i<gv.ns.length:=by omega
 obtain⟨d,m⟩: ∃n,gv.ns[i]? =some n:=⟨_,bo ad⟩;have E:a[i]? =some d.nd:=by rw[←f,VP,m];rfl
 have ag:d.nd.kind=d.kind:=rfl;have ei:kn .i64 ((i:Int)+1)=(i:Int)+1:=by rw[al (by omega)]
 have X:gv.l-i=(gv.l-(i+1))+1:=by omega
 have U:eP a gv.out M i=none→lJ a gv.out M (gv.l-(i+1)) (i+1)=fd a gv.out M:=fun t=>by
  rw[←hF,X,D1 t]
 refine ak (p:=gv.p) (l:=gv.l) (c:=gv.c) (S.c 0) ?_;obtain⟨b,I⟩: ∃b,gv.p=some ⟨b,0,none⟩:=by
  obtain⟨_,_,⟨_,h0,_⟩|⟨b,cs,e,_⟩⟩:=S.ow 1
  ·omega
  ·exact⟨b,e⟩
 refine aC I rfl (by omega) ?_;rw[ei];simp only[hC,aR,SN,j8];have skip: ¬(M ((i:Int)+1)=some 1∧(i:Int)+1≠gv.out∧gq d.kind)→eP a gv.out M i=none:=fun t=>by
  unfold eP;rw[E];show(if M ((i:Int)+1)=some 1∧(i:Int)+1≠gv.out∧gq d.nd.kind then _ else none)=none;rw[ag,if_neg t]
 have K:eP a gv.out M i=none→ ∀g,aG h0 T g [aJ b1 gv.cells,own 15 gv.p gv.l gv.c (aD gv.ns),dw (gv.ns.map Nv.inn),xm r M] R→ ∃m',m'<gv.l-i∧ ∃i':Nat,((some ⟨b1,0,none⟩,some r,(gv.l:Int),(i:Int)+1,()):Option Addr×Option Nat×Int×Int×Unit)=(some ⟨b1,0,none⟩,some r,(gv.l:Int),(i':Int),())∧i'≤gv.l∧m'=gv.l-i'∧lJ a gv.out M (gv.l-i') i'=fd a gv.out M∧
  aG h0 T g [aJ b1 gv.cells,own 15 gv.p gv.l gv.c (aD gv.ns),dw (gv.ns.map Nv.inn),xm r M] R:=fun t g S=>⟨gv.l-(i+1),by omega,i+1,rfl,by omega,rfl,U t,S⟩
 refine iN (S.wd 3) ⟨_,_,rfl,?_⟩;have Q:aB g ⟨b,i*15,none⟩=some (.int .i64 d.kind):=by
  have hr:=(S.ow 1).row;rw[I]at hr;have:=hr.cell (i:=i*15+0) (by rw[iu m (by decide)];rfl);rw[aR,SN]at this;exact this
 refine⟨fun s g'=>s=(some ⟨b1,0,none⟩,some r,(i:Int),⟨b,i*15,none⟩,(gv.l:Int),(i:Int),())∧M ((i:Int)+1)=some 1∧(i:Int)+1≠gv.out∧gq d.kind∧aG h0 T g' [aJ b1 gv.cells,own 15 gv.p gv.l gv.c (aD gv.ns),dw (gv.ns.map Nv.inn),xm r M] R,?_,?_⟩
 rotate_left
 ·refine bJ (cX (fun y=> ?_) (fun y=> ?_))
  ·obtain⟨x,hx⟩:=W8.1 y;rw[hx];refine bh (fun J=>K (skip fun A=>J ?_) g S) (fun J=> ?_)
   ·have:=A.1;rw[hx]at this;exact Option.some.inj this
   ·have J:x=1:=J;subst J;refine ae (n:=gv.out) (S.c 0) (aH (fun N=>K (skip fun A=>A.2.1 N) g S) (fun N=> ?_));refine ae (n:=d.kind) Q (bh (fun k1=> ?_) (fun k1=>⟨rfl,rfl,N,.inl k1,S⟩));refine ae (n:=d.kind) Q (bh (fun k2=> ?_) (fun k2=>⟨rfl,rfl,N,.inr (.inl k2),S⟩));refine ae (n:=d.kind) Q (bh (fun k3=>K (skip fun A=> ?_) g S) (fun k3=>⟨rfl,rfl,N,.inr (.inr k3),S⟩));rcases A.2.2 with h|h|h
    ·exact k1 h
    ·exact k2 h
    ·exact k3 h
  ·refine K (skip fun A=> ?_) g S;rw[A.1]at y;cases y
 rintro s g ⟨rfl,ab,N,hw,S⟩;unfold xQ;simp only[j8,aR,SN];refine ak (p:=gv.p) (l:=gv.l) (c:=gv.c) (S.c 0) ?_
 refine aO (fun mm s g=> ∃j:Nat,s=(some ⟨b1,0,none⟩,some r,(i:Int),⟨b,i*15,none⟩,fq a M ((i:Int)+1) j,(gv.l:Int),(i:Int),(gv.p,gv.l,gv.c),(gv.l:Int),(j:Int),())∧j≤gv.l∧mm=gv.l-j∧
  aG h0 T g [aJ b1 gv.cells,own 15 gv.p gv.l gv.c (aD gv.ns),dw (gv.ns.map Nv.inn),xm r M] R) gv.l ⟨0,rfl,by omega,rfl,S⟩ ?_
 rintro mm s g ⟨j,rfl,hj,rfl,S⟩;unfold xP;simp only[j8,aR,SN];refine aq (fun a2=> ?_) (fun a1=> ?_)
 ·have ar:j<gv.ns.length:=by omega
  obtain⟨n,en⟩: ∃n,gv.ns[j]? =some n:=⟨_,bo ar⟩;have B:=VL en;have Y:a[j]? =some n.nd:=by rw[←f,VP,en];rfl
  have a0:=z.2.2 n B;have aj:bD g (some ⟨b,0,none⟩) (aD gv.ns):=by rw[←I];exact(S.ow 1).row
  refine aC I rfl (by omega) ?_;refine gi aj en ?_;refine aA S fun a3 g2 _ S=> ?_;refine bP S 4 rfl rfl (aW rfl) fun g3 _ S=> ?_;have ej:kn .i64 ((j:Int)+1)=(j:Int)+1:=by rw[al (by omega)]
  rw[ej,ei];refine iN (S.wd 3) ⟨_,_,rfl,?_⟩;have S4:aG h0 T g3 [aJ b1 gv.cells,own 15 gv.p gv.l gv.c (aD gv.ns),dw (gv.ns.map Nv.inn),xm r M] R:=S.pw [0,1,2,3];have eu:fq a M ((i:Int)+1) (j+1)=if(M ((j:Int)+1)).isSome∧((i:Int)+1)∈n.nd.inn then(j:Int)+1 else fq a M ((i:Int)+1) j:=by
   conv=>lhs;unfold fq
   rw[Y]
  refine cX (fun y=> ?_) (fun y=> ?_)
  ·refine ak (p:=n.inn.p) (l:=n.inn.l) (c:=n.inn.c) (S.c 4) ?_;have an:bD g3 n.inn.p (az n.inn.xs):=qf (S.wd 2) (V1 B);refine(Hp an a0.1.1 (by have:=hs n B;omega) ((i:Int)+1)).mono ?_;rintro _ _ ⟨rfl,rfl⟩;refine⟨_,rfl,?_⟩;refine aq (fun hc=> ?_) (fun hc=> ?_)
   ·refine⟨gv.l-(j+1),by omega,j+1,?_,by omega,rfl,S4⟩;rw[eu,if_pos ⟨y,hc⟩];rfl
   ·refine⟨gv.l-(j+1),by omega,j+1,?_,by omega,rfl,S4⟩;rw[eu,if_neg (fun A=>hc A.2)];rfl
  ·refine⟨gv.l-(j+1),by omega,j+1,?_,by omega,rfl,S4⟩;rw[eu,if_neg (fun A=>by rw[y]at A;exact absurd A.1 (by simp))];rfl
 ·have:j=gv.l:=by omega
  subst this;have ao:fq a M ((i:Int)+1) gv.l=eO a M ((i:Int)+1):=by unfold eO;rw[ai]
  rw[ao];have ax:=hu i (by omega) ab;have O:=(zY a M ((i:Int)+1) a.length).2;have O:eO a M ((i:Int)+1)≤(a.length:Int):=O;generalize hU:eO a M ((i:Int)+1)=u at ax O ⊢;obtain⟨w,ew⟩: ∃w:Nat,u=(w:Int)+1:=⟨(u-1).toNat,by omega⟩;subst ew;have ay:w<gv.ns.length:=by omega
  obtain⟨o,aa⟩: ∃n,gv.ns[w]? =some n:=⟨_,bo ay⟩;have Z:a[w]? =some o.nd:=by rw[←f,VP,aa];rfl
  have ap:kn .i64 ((w:Int)+1-1)=(w:Int):=by rw[al (by omega)];omega
  rw[ap];refine ak (p:=gv.p) (l:=gv.l) (c:=gv.c) (S.c 0) ?_;refine aC I rfl (by omega) ?_;simp only[hC,aR,SN];rw[I]at S;refine(Tu S 1 rfl m aa).mono ?_;rintro _ g2 ⟨rfl,S⟩;rw[←I]at S;refine⟨_,rfl,?_⟩;have D:eP a gv.out M i=(nF d.nd o.nd).map fun a'=>(vF ((w:Int)+1) ((i:Int)+1) (a.set i a'),if gv.out=(w:Int)+1 then(i:Int)+1 else gv.out,
   R2 (qh M ((i:Int)+1) ((M ((w:Int)+1)).getD 0)) ((w:Int)+1)):=by
   unfold eP;rw[E];show(if M ((i:Int)+1)=some 1∧(i:Int)+1≠gv.out∧gq d.nd.kind then _ else none)=_;rw[ag,if_pos ⟨ab,N,hw⟩,hU,show((w:Int)+1-1).toNat=w by omega,Z]
  refine bJ (cX (fun y=> ?_) (fun y=> ?_))
  ·obtain⟨a',V⟩:=W8.1 y;rw[V,Option.map_some]at D;have hP:=D2 (k:=gv.l-(i+1)) D;rw[←X,hF]at hP;have W:(gv.ns.set i (wm d o)).map Nv.inn=gv.ns.map Nv.inn:=rD _ m (nB d o).1;rw[←W]at S;have H: ∀n∈gv.ns.set i (wm d o),n.ok:=fun n G=>by
    rcases Xe G with G|rfl
    ·exact z.2.2 n G
    ·exact Ts (z.2.2 d (VL m))
   have aw: ∀n∈gv.ns.set i (wm d o),n.inn.xs.length=n.inn.l∧n.inn.l<2 ^ 40:=fun n G=>by
    refine⟨(H n G).1.1,?_⟩;rcases Xe G with G|rfl
    ·exact hs n G
    ·rw[(nB d o).1];exact hs d (VL m)
   refine ak (p:=gv.p) (l:=gv.l) (c:=gv.c) (S.c 0) ?_;refine N0 hl (by rw[VU];exact L) aw i (by omega) ((w:Int)+1) S fun g3 S=> ?_;refine⟨kh ((w:Int)+1) ((i:Int)+1) (gv.ns.set i (wm d o)).length (gv.ns.set i (wm d o)),(if gv.out=(w:Int)+1 then(i:Int)+1 else gv.out),R2 (qh M ((i:Int)+1) ((M ((w:Int)+1)).getD 0)) ((w:Int)+1),by rw[hP];rfl,?_,⟨by show(kh _ _ _ _).length=gv.l;rw[lg,VU];exact L,z.2.1,RW H⟩,?_,?_,?_⟩
   ·rw[hP,RS,XH,f];have:(wm d o).nd=a':=by rw[Qh,V];rfl
    rw[this];rfl
   ·rw[N1];exact rD _ m (by rw[(nB d o).1])
   ·rw[Qc];exact RX m (nB d o).2.1 (nB d o).2.2
   ·rw[Lu];exact S
  ·have t:nF d.nd o.nd=none:=by
    cases h:nF d.nd o.nd with
    |none=>rfl
    |some x=>rw[h]at y;cases y
   rw[t]at D;have et:wm d o=d:=by
    unfold nF at t;rw[show o.nd.kind=o.kind from rfl,show d.nd.post=d.post from rfl]at t;unfold wm;split at t
    ·cases t
    ·rename_i J;split at t
     ·cases t
     ·rename_i h2;rw[if_neg J,if_neg h2]
   have es:gv.ns.set i d=gv.ns:=by
    rw[bo ad]at m;rw[←Option.some.inj m,WJ]
   rw[et,es]at S;rw[ei];exact K D g2 S
