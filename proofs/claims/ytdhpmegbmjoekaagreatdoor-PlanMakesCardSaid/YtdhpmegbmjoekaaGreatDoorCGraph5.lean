/- CGraph CGraph2 CGraph3 CGraph4 CGraph5, in one text. -/
import Derived.Test.YtdhpmegbmjoekaaGreatDoorCKindP3
import Derived.Test.YtdhpmegbmjoekaaGreatDoorShRg
set_option linter.unusedVariables false
set_option linter.unusedSimpArgs false
namespace Go.Proofs.YtdhpmegbmjoekaaGreatDoor.G
open Go Go.Sh
section
def lM(M:Int→Option Int):Int→Option Value:=fun n=>(M n).map (Value.int .i64)
def qh(M:Int→Option Int)(n m:Int):Int→Option Int:=fun k=>if k=n then some m else M k
def R2(M:Int→Option Int)(n:Int):Int→Option Int:=fun k=>if k=n then none else M k
theorem uP(M:Int→Option Int)(n m:Int):R6 (lM M) n (.int .i64 m)=lM (qh M n m):=by
 funext k;unfold R6 lM qh;split<;>simp
theorem MC(M:Int→Option Int)(n:Int):Hx (lM M) n=lM (R2 M n):=by
 funext k;unfold Hx lM R2;split<;>simp
theorem Ht:(fun _=>none:Int→Option Value)=lM fun _=>none:=rfl
abbrev xm(r:Nat)(M:Int→Option Int):bc:=mp .i64 r (lM M)
theorem iN{h:ah}{r:Nat}{M:Int→Option Int}{n z:Int}{K:Value→Bool→Prop}(a:(xm r M).P h)(H:K (.int .i64 ((M n).getD z)) (M n).isSome):m5 .i64 (.int .i64 z) (some r) n h K:=by
 refine Qk a ?_;unfold lM;cases h:M n with
 |none=>rw[h]at H;exact H
 |some m=>rw[h]at H;exact H
def Gr.first(g:Gr):Int:=
 if g.nodes.length<1∨12<g.nodes.length then 22
 else if g.width<1∨16<g.width∨g.low>g.high∨g.low< -32768∨g.high>32767∨g.out<1∨g.out>(g.nodes.length:Int) then 1
 else if ∀n∈g.nodes,bv 0 g.nodes.length n.inn then 0 else 1
def jr(a:List Int):List Nd→Nat→Option Int
 |[],_=>none
 |n::r,i=>if((i:Int)+1)∉a∧ ∀j∈n.inn,j∈a then some ((i:Int)+1) else jr a r (i+1)
def j9(ns:List Nd)(a:List Int):List Int:=
 match jr a ns 0 with
 |some i=>a++[i]
 |none=>a
def bM(ns:List Nd):Nat→List Int
 |0=>[0]
 |k+1=>j9 ns (bM ns k)
def bK(ns:List Nd):List Int:=(bM ns ns.length).tail
theorem F8(ns:List Nd): ∀k,∃r,bM ns k=0::r
 |0=>⟨[],rfl⟩
 |k+1=>by
  obtain⟨r,a⟩:=F8 ns k;simp only[bM,j9,a];split
  ·exact⟨_,rfl⟩
  ·exact⟨_,rfl⟩
theorem dr(ns:List Nd)(k:Nat):bM ns k=0::(bM ns k).tail:=by
 obtain⟨r,a⟩:=F8 ns k;rw[a];rfl
theorem lh(ns:List Nd): ∀k,(bM ns k).tail.length≤k
 |0=>by simp[bM]
 |k+1=>by
  have:=lh ns k;simp only[bM,j9];split
  ·rw[XA,Tz,WQ];rw[XA]at this;omega
  ·omega
theorem xn{a:List Int}: ∀{ns:List Nd}{i:Nat}{x:Int},jr a ns i=some x→ ∃(k:Nat)(n:Nd),x=((i+k:Nat):Int)+1∧ns[k]? =some n∧x∉a∧ ∀j∈n.inn,j∈a
 |[],i,x,h=>by simp[jr]at h
 |n::r,i,x,h=>by
  unfold jr at h;split at h
  ·rename_i b;simp only[Option.some.injEq]at h;subst h;exact⟨0,n,by simp,rfl,b.1,b.2⟩
  ·obtain⟨k,e,f,c,d⟩:=xn h;exact⟨k+1,e,by omega,by simpa using c,d⟩
section
variable {h:ah}
theorem Tx{gv:Gv}(C:gv.ok)(B:bD h gv.p (aD gv.ns))(hr:(aM gv.ns).P h)(hl:gv.l<2 ^ 56)(hs: ∀n∈gv.ns,n.inn.l<2 ^ 62):au P tK #[gv.v] h fun v W=>v= .int .i64 gv.gr.first∧cd no h W:=by
 refine CU _ ?_;have J:=C.1;have K:gv.gr.nodes.length=gv.l:=by rw[←J];simp[Gv.gr]
 have S:=((aG.start h no).read (row gv.p (aD gv.ns)) B).read (aM gv.ns) hr;refine aA (cs:=gv.cells) S fun q t _ S=> ?_;refine ak (p:=gv.p) (l:=gv.l) (c:=gv.c) (S.c 0) ?_;have F:(gv.gr.nodes.length<1∨12<gv.gr.nodes.length)→ ∀g,aG h no g [aJ q gv.cells] [row gv.p (aD gv.ns),aM gv.ns]→Value.int .i64 22= .int .i64 gv.gr.first∧cd no h g:=fun L g S=>⟨by unfold Gr.first;rw[if_pos L],S.fra⟩;refine⟨fun s g=>s=(⟨q,0,none⟩,(gv.l:Int),())∧ ¬(gv.gr.nodes.length<1∨12<gv.gr.nodes.length)∧aG h no g [aJ q gv.cells] [row gv.p (aD gv.ns),aM gv.ns],?_,aq (fun t=>F (by omega) _ S) fun t=>aq (fun y=>F (by omega) _ S) fun y=>⟨rfl,by omega,S⟩⟩;rintro s g ⟨rfl,E,S⟩
 have N:gv.gr.first=if gv.gr.nodes.length<1∨12<gv.gr.nodes.length then 22 else if gv.width<1∨16<gv.width∨gv.low>gv.high∨gv.low< -32768∨gv.high>32767∨gv.out<1∨gv.out>(gv.gr.nodes.length:Int) then 1
  else if ∀n∈gv.gr.nodes,bv 0 gv.gr.nodes.length n.inn then 0 else 1:=rfl
 have w:(gv.width<1∨16<gv.width∨gv.low>gv.high∨gv.low< -32768∨gv.high>32767∨gv.out<1∨gv.out>(gv.gr.nodes.length:Int))→ ∀g,aG h no g [aJ q gv.cells] [row gv.p (aD gv.ns),aM gv.ns]→Value.int .i64 1= .int .i64 gv.gr.first∧cd no h g:=
  fun L g S=>⟨by rw[N,if_neg E,if_pos L],S.fra⟩
 refine⟨fun s g=>s=(⟨q,0,none⟩,(gv.l:Int),())∧ ¬(gv.width<1∨16<gv.width∨gv.low>gv.high∨gv.low< -32768∨gv.high>32767∨gv.out<1∨gv.out>(gv.gr.nodes.length:Int))∧aG h no g [aJ q gv.cells] [row gv.p (aD gv.ns),aM gv.ns],?_,?_⟩
 ·rintro s g ⟨rfl,n1,S⟩;refine ak (p:=gv.p) (l:=gv.l) (c:=gv.c) (S.c 0) ?_;have e:gv.gr.first=if ∀n∈gv.gr.nodes,bv 0 gv.gr.nodes.length n.inn then 0 else 1:=by rw[N,if_neg E,if_neg n1]
  have z:(∃n∈gv.ns,∃j∈n.inn.xs,j<0∨j>(gv.l:Int))→gv.gr.first=1:=by
   rintro⟨n,B,j,Q,hb⟩;rw[e,if_neg];intro b;have:=b n.nd (V1 B) j Q;omega
  refine aO (fun m s g=> ∃i:Nat,s=((gv.l:Int),(gv.p,gv.l,gv.c),(gv.l:Int),(i:Int),())∧i≤gv.l∧m=gv.l-i∧(∀n∈gv.ns.take i,bv 0 (gv.l:Int) n.inn.xs)∧aG h no g [aJ q gv.cells] [row gv.p (aD gv.ns),aM gv.ns]) gv.l ⟨0,rfl,by omega,rfl,by simp,S⟩ ?_;rintro m s g ⟨i,rfl,hi,rfl,b,S⟩;dsimp only;refine aq (fun ad=> ?_) (fun ab=> ?_)
  ·have u:i<gv.ns.length:=by omega
   obtain⟨n,G⟩: ∃n,gv.ns[i]? =some n:=⟨_,bo u⟩;have d:=VL G;have M:=(C.2.2 n d).1;obtain⟨a,ea⟩:=(S.row 0 rfl).some_of (by rw[bE];omega);have D:bD g (some a) (aD gv.ns):=by rw[←ea];exact S.row 0 rfl
   refine aC ea rfl (by omega) ?_;refine gi D G ?_;refine aA S fun U g2 _ S=> ?_;refine bP S 1 rfl rfl (aW rfl) fun V _ S=> ?_;refine ak (p:=n.inn.p) (l:=n.inn.l) (c:=n.inn.c) (S.c 1) ?_;have ag:=hs n d;have T:n.inn.xs.length=n.inn.l:=M.1;refine aO (fun m s H=>H=V∧ ∃j:Nat,s=((gv.l:Int),(gv.p,gv.l,gv.c),(gv.l:Int),(i:Int),(n.inn.p,n.inn.l,n.inn.c),(n.inn.l:Int),(j:Int),())∧j≤n.inn.l∧m=n.inn.l-j∧bv 0 (gv.l:Int) (n.inn.xs.take j)) n.inn.l ⟨rfl,0,rfl,by omega,rfl,by rw[WK];exact cK _ _⟩ ?_;rintro m s H ⟨rfl,j,rfl,Q,rfl,I⟩;dsimp only;refine aq (fun R=> ?_) (fun O=> ?_)
   ·have k:j<n.inn.xs.length:=by omega
    have f:bD H n.inn.p (az n.inn.xs):=S.r 1 _ rfl _ (V1 d) n.inn.row (by simp);obtain⟨aa,A⟩:=f.some_of (by rw[av];omega);rw[A]at f;refine aC A rfl (by omega) ?_;simp only[hC,VO];refine ae (f.cell (aF (bo k))) ?_;refine aq (fun t=>⟨by rw[z ⟨n,d,_,VN k,.inl t⟩],S.fra⟩) fun t=>aq (fun y=>⟨by rw[z ⟨n,d,_,VN k,.inr y⟩],S.fra⟩) fun y=> ?_;rw[al (by omega)];exact⟨n.inn.l-(j+1),by omega,by trivial,j+1,rfl,by omega,rfl,(iv k).2 ⟨I,by omega,by omega⟩⟩
   ·rw[al (by omega)];refine⟨gv.l-(i+1),by omega,i+1,rfl,by omega,rfl,fun x o=> ?_,S.pw [0]⟩;rw[gD u]at o;rcases VW.1 o with o|o
    ·exact b x o
    ·simp only[VK]at o;rw[bo u]at G;cases G;subst o;rw[py (by omega)]at I;exact I
  ·rw[py (by omega)]at b;refine⟨?_,S.fra⟩;rw[e,if_pos];intro x o;obtain⟨n,B,rfl⟩:=VZ.1 o;rw[K];exact b n B
 ·simp only[aR,SN];refine ae (n:=gv.width) (S.c 0) (aq (fun t=>w (by omega) _ S) fun t=>ae (n:=gv.width) (S.c 0) (aq (fun y=>w (by omega) _ S) fun y=> ?_));refine ae (n:=gv.low) (S.c 0) (ae (n:=gv.high) (S.c 0) (aq (fun X=>w (by omega) _ S) fun X=> ?_));refine ae (n:=gv.low) (S.c 0) (aq (fun Y=>w (by omega) _ S) fun Y=>ae (n:=gv.high) (S.c 0) (aq (fun Z=>w (by omega) _ S) fun Z=> ?_));refine ae (n:=gv.out) (S.c 0) (aq (fun h6=>w (by omega) _ S) fun h6=>ae (n:=gv.out) (S.c 0) (aq (fun h7=>w (by omega) _ S) fun h7=> ?_));exact⟨by trivial,by omega,S⟩
theorem Hu{a:Addr}{r:Nat}{M:Int→Option Int}(c:aB h a=some (.map (some r)))(d:(xm r M).P h)(j:Int):au P cU #[.int .i64 j,.pointer (some a)] h fun v b=>v= .bool (!(M j).isSome)∧b=h:=by
 refine ue _ _ ?_;exact⟨_,c,iN d ⟨_,_,rfl,rfl,rfl⟩⟩
theorem Hv{a:Addr}{r:Nat}{M:Int→Option Int}(o:aB h a=some (.map (some r)))(w:(xm r M).P h){p:Option Addr}{l c:Nat}{xs:List Int}(n:bD h p (az xs))(z:xs.length=l)(t:l<2 ^ 62):
 au P cD #[.slice p l c,.func (.func cU) #[] #[.pointer (some a)]] h fun v k=>v= .bool (decide (∃j∈xs,M j=none))∧k=h:=by
 refine fe _ _ _ _ ?_;unfold di;have I:au P cN #[.slice p l c,.func (.func cU) #[] #[.pointer (some a)]] h fun v k=> ∃i:Int,v= .int .i64 i∧(0≤i↔ ∃j∈xs,M j=none)∧k=h:=by
  refine fB _ _ _ _ ?_;refine aO (fun m s g=>g=h∧ ∃i:Nat,s=((p,l,c),((),(a,())),(l:Int),(i:Int),())∧i≤l∧m=l-i∧ ∀j∈xs.take i,M j≠none) l ⟨rfl,0,rfl,by omega,rfl,by simp⟩ ?_;rintro m s g ⟨rfl,i,rfl,hi,rfl,b⟩;dsimp only;refine aq (fun u=> ?_) (fun q=> ?_)
  ·have f:i<xs.length:=by omega
   obtain⟨x,rfl⟩:=n.some_of (by rw[av];omega);refine aC rfl rfl (by omega) ?_;simp only[hC,VO];refine ae (n.cell (aF (bo f))) ?_;refine(Hu o w xs[i]).mono ?_;rintro _ _ ⟨rfl,rfl⟩;refine⟨_,rfl,?_⟩;cases hM:M xs[i] with
   |none=>exact cC rfl ⟨_,rfl,⟨fun _=>⟨_,VN f,hM⟩,fun _=>by omega⟩,rfl⟩
   |some y=>
    refine bG rfl ?_;rw[al (by omega)];refine⟨l-(i+1),by omega,by trivial,i+1,rfl,by omega,rfl,fun j d=> ?_⟩;rw[gD f]at d;rcases VW.1 d with d|d
    ·exact b j d
    ·simp only[VK]at d;subst d;rw[hM];simp
  ·rw[py (by omega)]at b;exact⟨_,rfl,⟨fun h=>by omega,fun⟨j,d,e⟩=>absurd e (b j d)⟩,rfl⟩
 refine I.mono ?_;rintro _ _ ⟨i,rfl,hi,rfl⟩;refine⟨_,rfl,?_,rfl⟩;congr 1;rw[decide_eq_decide];exact hi
end
end
section
theorem bB(xs:List Int)(i:Nat)(x:Int):(az xs).set i (.int .i64 x)=az (xs.set i x):=by simp[az,XH]
theorem N7(xs:List Int)(x:Int):az xs++[Value.int .i64 x]=az (xs++[x]):=by simp[az]
theorem D5{a:List Int}{ns:List Nd}{i:Nat}(hi:i<ns.length)(b: ¬(((i:Int)+1)∉a∧ ∀j∈ns[i].inn,j∈a)):jr a (ns.drop (i+1)) (i+1)=jr a (ns.drop i) i:=by
 rw[V6 hi]
 conv=>rhs;unfold jr
 rw[if_neg b]
theorem D6{a:List Int}{ns:List Nd}{i:Nat}(hi:i<ns.length)(b:((i:Int)+1)∉a∧ ∀j∈ns[i].inn,j∈a):jr a (ns.drop i) i=some ((i:Int)+1):=by
 rw[V6 hi];unfold jr;rw[if_pos b]
section
variable {h:ah}
theorem Lx{p:Option Addr}{l c:Nat}{ns:List Nv}(hn:bD h p (aD ns))(hr:(aM ns).P h)(hl:ns.length=l)(an:l≤2 ^ 20)(W: ∀n∈ns,n.inn.ok)(hs: ∀n∈ns,n.inn.l<2 ^ 62):
 au P ls #[.slice p l c] h fun v h'=> ∃(q:Option Addr)(m d:Nat),v= .tuple #[.slice q m d,.bool (decide ((bK (ns.map Nv.nd)).length=ns.length))]∧(bK (ns.map Nv.nd)).length=m∧aG h no h' [own 1 q m d (az (bK (ns.map Nv.nd)))] []:=by
 refine wO _ _ _ ?_;have S:=((aG.start h no).read (row p (aD ns)) hn).read (aM ns) hr;obtain⟨b,o⟩: ∃b,ns.map Nv.nd=b:=⟨_,rfl⟩;have ar:b.length=l:=by rw[←o,Ug,hl]
 rw[o];refine Ly .i64 S fun C h1 _ S=> ?_;refine uQ S 0 rfl fun h2 S=> ?_;rw[Ht,uP]at S;refine aA (cs:=[.map none]) S fun D h3 _ S=> ?_;refine ck S 1 fun h4 _ S=> ?_;replace S:=S.nil 1
 refine aO (fun N s g=> ∃(k:Nat)(q:Option Addr)(m d:Nat)(M:Int→Option Int),s=((p,l,c),⟨D,0,none⟩,(q,m,d),(l:Int),(k:Int),())∧k≤l∧N=l-k∧(bM b k).tail.length=m∧(∀n,(M n).isSome↔n∈bM b k)∧
  aG h no g [xm C M,aJ D [.map (some C)],own 1 q m d (az (bM b k).tail)] [row p (aD ns),aM ns]) l ⟨0,none,0,0,_,rfl,by omega,rfl,rfl,?_,S⟩ ?_
 ·intro n;unfold qh bM;by_cases h0:n=0
  ·simp[h0]
  ·simp[h0]
 rintro N s g ⟨k,q,m,d,M,rfl,hk,rfl,J,B,S⟩;have ap:m≤k:=by rw[←J];exact lh b k
 dsimp only;refine aq (fun ao=> ?_) (fun ai=> ?_)
 ·refine aO (fun N s g=> ∃i:Nat,s=((p,l,c),⟨D,0,none⟩,(q,m,d),(l:Int),(k:Int),(p,l,c),(l:Int),(i:Int),())∧i≤l∧N=l-i∧jr (bM b k) (b.drop i) i=jr (bM b k) b 0∧
   aG h no g [xm C M,aJ D [.map (some C)],own 1 q m d (az (bM b k).tail)] [row p (aD ns),aM ns]) l ⟨0,rfl,by omega,rfl,by rw[Xb],S⟩ ?_
  rintro N s g ⟨i,rfl,hi,rfl,u,S⟩;dsimp only;refine aq (fun ab=> ?_) (fun aa=> ?_)
  ·have I:i<ns.length:=by omega
   have G:i<b.length:=by omega
   obtain⟨n,E⟩: ∃n,ns[i]? =some n:=⟨_,bo I⟩;have t:=VL E;have Y:=W n t;have V:=hs n t;have F:b[i]=n.nd:=by
    subst o;rw[bo I]at E;simp only[Option.some.injEq]at E;simp[E]
   obtain⟨a,ea⟩:=(S.row 0 rfl).some_of (by rw[bE];omega);have K:bD g (some a) (aD ns):=by rw[←ea];exact S.row 0 rfl
   refine aC ea rfl (by omega) ?_;refine gi K E ?_;refine aA S fun ad g2 _ S=> ?_;refine bP S 3 rfl rfl (aW rfl) fun g3 _ S=> ?_;rw[al (n:=(i:Int)+1) (by omega)];refine⟨some C,S.c 1,iN (S.w 0 _ rfl) ⟨_,_,rfl,?_⟩⟩;have skip: ¬(((i:Int)+1)∉bM b k∧ ∀j∈b[i].inn,j∈bM b k)→jr (bM b k) (b.drop (i+1)) (i+1)=jr (bM b k) b 0:=fun z=>by rw[D5 G z];exact u
   refine cX (fun T=> ?_) (fun T=> ?_)
   ·exact⟨l-(i+1),by omega,i+1,rfl,by omega,rfl,skip fun z=>z.1 ((B _).1 T),S.pw [0,1,2]⟩
   ·refine ak (p:=n.inn.p) (l:=n.inn.l) (c:=n.inn.c) (S.c 3) ?_;have L:bD g3 n.inn.p (az n.inn.xs):=S.r 1 _ rfl _ (V1 t) n.inn.row (by simp);refine(Hv (a:=⟨D,0,none⟩) (S.c 1) (S.w 0 _ rfl) L Y.1 V).mono ?_;rintro _ _ ⟨rfl,rfl⟩;refine⟨_,rfl,?_⟩;have H:b[i].inn=n.inn.xs:=by rw[F];rfl
    refine aq (fun z=> ?_) (fun z=> ?_)
    ·refine⟨l-(i+1),by omega,i+1,rfl,by omega,rfl,skip fun O=> ?_,S.pw [0,1,2]⟩;obtain⟨j,Q,e⟩:=z;rw[H]at O;have:=(B j).2 (O.2 j Q);rw[e]at this;cases this
    ·have A:((i:Int)+1)∉bM b k∧ ∀j∈b[i].inn,j∈bM b k:=by
      refine⟨fun O=>(by have:=(B _).2 O;rw[T]at this;cases this),fun j Q=> ?_⟩;rw[H]at Q;refine(B j).1 ?_;cases hMj:M j with
      |none=>exact absurd ⟨j,Q,hMj⟩ z
      |some x=>rfl
     rw[D6 G A]at u;have f:bM b (k+1)=bM b k++[(i:Int)+1]:=by
      show j9 b (bM b k)=_;unfold j9;rw[←u]
     have y:(bM b (k+1)).tail=(bM b k).tail++[(i:Int)+1]:=by
      rw[f]
      conv=>lhs;rw[dr b k]
      rfl
     refine⟨some C,S.c 1,uQ S 0 rfl fun g4 S=> ?_⟩;rw[uP]at S;refine aA S (fun ag _ _ S=> ?_);refine cI S 2 rfl rfl (by decide) (by omega) (bD.of_at (S.at 4 rfl)) rfl (by simp[ib]) fun Z X R g5 el S=> ?_;rw[N7,←y]at S;rw[al (by omega)];refine⟨l-(k+1),by omega,k+1,Z,X,R,_,rfl,by omega,rfl,?_,fun x=> ?_,S.pw [0,1,2]⟩
     ·rw[y,Tz,WQ,J,el]
     ·rw[f,VW,VK,←B x];unfold qh;by_cases hx:x=(i:Int)+1
      ·simp[hx]
      ·simp[hx]
  ·have aj:i=l:=by omega
   rw[Wj (by omega)]at u;have f:bM b (k+1)=bM b k:=by
    show j9 b (bM b k)=_;unfold j9;rw[←u];rfl
   rw[al (by omega)];refine⟨l-(k+1),by omega,k+1,q,m,d,M,rfl,by omega,rfl,by rw[f];exact J,fun x=>by rw[f];exact B x,by rw[f];exact S⟩
 ·have U:k=b.length:=by omega
  subst U;refine⟨q,m,d,?_,J,S.pw [2]|>fun S=>⟨S.fra,S.w,by simp,S.ok,S.ww,by simp⟩⟩;have e:((m:Int)==(l:Int))=decide ((bK b).length=ns.length):=by
   rw[WF,beq_iff_eq,decide_eq_true_iff];have:(bK b).length=m:=J;omega
  rw[e]
def bQ(xs js:List Int):List Int:=js.map fun j=>xs.getD j.toNat 0
theorem R4{A:List Int}{m i:Nat}(a:A.length=i)(hi:i<m)(v:Int):(A++List.replicate (m-i) 0).set i v=(A++[v])++List.replicate (m-(i+1)) 0:=by
 have:m-i=(m-(i+1))+1:=by omega
 rw[this,Wp,Wy _ _ (by omega),a,WD,WW];simp
theorem MD{p q:Option Addr}{l c m d:Nat}{xs js:List Int}(J:bD h p (az xs))(D:bD h q (az js))(O:xs.length=l)(Q:js.length=m)(G:m≤2 ^ 40)(x: ∀j∈js,0≤j∧j<(xs.length:Int)):
 au P lL #[.slice p l c,.slice q m d] h fun v B=> ∃b,v= .slice (some ⟨b,0,none⟩) m m∧aG h no B [aJ b (az (bQ xs js))] []:=by
 refine BK _ _ _ _ _ _ ?_;have S:=((aG.start h no).read (row p (az xs)) J).read (row q (az js)) D;refine dM S m rfl rfl rfl (by decide) (by omega) (by omega) fun t N _ S=> ?_;dsimp only[Yh,Yg]at S;rw[iG,show List.replicate m (Value.int .i64 0)=az (List.replicate m 0) by simp[az]]at S
 refine aO (fun A s g=> ∃i:Nat,s=((p,l,c),(some ⟨t,0,none⟩,m,m),(q,m,d),(m:Int),(i:Int),())∧i≤m∧A=m-i∧
  aG h no g [aJ t (az (bQ xs (js.take i)++List.replicate (m-i) 0))] [row p (az xs),row q (az js)]) m ⟨0,rfl,by omega,rfl,S⟩ ?_
 rintro A s g ⟨i,rfl,hi,rfl,S⟩;dsimp only;refine aq (fun F=> ?_) (fun C=> ?_)
 ·have a:i<js.length:=by omega
  obtain⟨L,f⟩:=(S.ro 1).some_of (by rw[av];omega);have I:bD g (some L) (az js):=by rw[←f];exact S.ro 1
  have E:=x js[i] (VN a);obtain⟨k,z⟩: ∃k:Nat,js[i]=k:=⟨js[i].toNat,by omega⟩;have o:k<xs.length:=by omega
  obtain⟨K,e⟩:=(S.ro 0).some_of (by rw[av];omega);have H:bD g (some K) (az xs):=by rw[←e];exact S.ro 0
  refine aC f rfl (by omega) ?_;simp only[hC,VO];refine ae (n:=(k:Int)) (I.cell (aF (by rw[bo a,z]))) (aC e rfl (by omega) ?_);simp only[hC,VO];refine ae (n:=xs.getD k 0) (H.cell (aF (by rw[bo o,cA o]))) (aC rfl rfl (by omega) ?_);simp only[aR,SN];have r:(bQ xs (js.take i)).length=i:=by unfold bQ;rw[Ug,VV];omega
  refine be S 0 rfl (by rw[av,Tz,r,VQ];omega) fun M _ S=> ?_;rw[bB,R4 r (by omega)]at S;have y:bQ xs (js.take i)++[xs.getD k 0]=bQ xs (js.take (i+1)):=by
   rw[gD a];unfold bQ;rw[V2,z];rfl
  rw[y]at S;rw[al (by omega)];exact⟨m-(i+1),by omega,i+1,rfl,by omega,rfl,S⟩
 ·have u:i=m:=by omega
  subst u;rw[py (by omega),WD,Xp,Wd]at S;exact⟨t,rfl,⟨S.fra,S.w,by simp,S.ok,S.ww,by simp⟩⟩
end
end
section
theorem yy{h0 h:ah}{T:Nat→Prop}{W R:List bc}(S:aG h0 T h W R):aG h0 T h W []:=⟨S.fra,S.w,by simp,S.ok,S.ww,by simp⟩
section
variable {h:ah}
theorem N8{a:Addr}{r:Int}(c:aB h a=some (.int .i64 r))(x:Int):au P dy #[.int .i64 x,.pointer (some a)] h fun v b=>v= .bool (x !=r)∧b=h:=by
 refine xL _ _ ?_;exact ae c ⟨rfl,rfl⟩
theorem Hw{a:Addr}{r:Int}(q:aB h a=some (.int .i64 r)){p:Option Addr}{l c:Nat}{xs:List Int}(o:bD h p (az xs))(y:xs.length=l)(u:l<2 ^ 62):
 au P cD #[.slice p l c,.func (.func dy) #[] #[.pointer (some a)]] h fun v k=>v= .bool (decide (∃j∈xs,j≠r))∧k=h:=by
 refine fC _ _ _ _ ?_;unfold du;have I:au P cN #[.slice p l c,.func (.func dy) #[] #[.pointer (some a)]] h fun v k=> ∃i:Int,v= .int .i64 i∧(0≤i↔ ∃j∈xs,j≠r)∧k=h:=by
  refine gp _ _ _ _ ?_;refine aO (fun m s g=>g=h∧ ∃i:Nat,s=((p,l,c),((),(a,())),(l:Int),(i:Int),())∧i≤l∧m=l-i∧ ∀j∈xs.take i,j=r) l ⟨rfl,0,rfl,by omega,rfl,by simp⟩ ?_;rintro m s g ⟨rfl,i,rfl,hi,rfl,b⟩;dsimp only;refine aq (fun w=> ?_) (fun t=> ?_)
  ·have f:i<xs.length:=by omega
   obtain⟨x,rfl⟩:=o.some_of (by rw[av];omega);refine aC rfl rfl (by omega) ?_;simp only[hC,VO];refine ae (o.cell (aF (bo f))) ?_;refine(N8 q xs[i]).mono ?_;rintro _ _ ⟨rfl,rfl⟩;refine⟨_,rfl,?_⟩;refine bh (fun n=>⟨_,rfl,⟨fun _=>⟨_,VN f,n⟩,fun _=>by omega⟩,rfl⟩) (fun n=> ?_);rw[al (by omega)];refine⟨l-(i+1),by omega,by trivial,i+1,rfl,by omega,rfl,fun j d=> ?_⟩;rw[gD f]at d;rcases VW.1 d with d|d
   ·exact b j d
   ·simp only[VK]at d;subst d;exact n
  ·rw[py (by omega)]at b;exact⟨_,rfl,⟨fun h=>by omega,fun⟨j,d,e⟩=>absurd (b j d) e⟩,rfl⟩
 refine I.mono ?_;rintro _ _ ⟨i,rfl,hi,rfl⟩;refine⟨_,rfl,?_,rfl⟩;congr 1;rw[decide_eq_decide];exact hi
theorem Qj{n:Nd}(h:1<n.span):iK n.kind:=by
 apply Decidable.byContradiction;intro a;have e:n.span=if n.kind=12 then n.size else if dp n.kind then(n.size-1)*n.gap+1 else 1:=rfl
 unfold iK at a;rw[e,if_neg (fun h=>a (.inr h)),if_neg (fun h=>a (.inl h))]at h;omega
theorem R5{nv:Nv}(R:KT h){p:Option Addr}{l c:Nat}{rs:List Int}(hw:bD h p (az rs))(V:rs.length=l)(Q:1≤l)(W:l<2 ^ 56)(G:0≤rs.getD 0 0∧rs.getD 0 0≤2 ^ 30)(Z:dp nv.kind→0≤nv.step∧nv.step≤2 ^ 20)
 (hk:1≤nv.kind) (hz: -2 ^ 20≤nv.size∧nv.size≤2 ^ 20) (T: -2 ^ 20≤nv.gap∧nv.gap≤2 ^ 20):
 au P qs #[nv.v,.slice p l c] h fun v N=>v= .tuple #[.int .i64 (if cf nv.nd rs<0 then 0 else cf nv.nd rs),.bool (decide (0≤cf nv.nd rs))]∧cd no h N:=by
 refine BN _ _ _ _ ?_;have S:=((aG.start h no).read (aJ 0 (az bl)) R).read (row p (az rs)) hw;refine aA (cs:=nv.cells) S fun y O _ S=> ?_;have A:=S.ro 1;obtain⟨M,z⟩:=A.some_of (by rw[av];omega);have I:bD O (some M) (az rs):=by rw[←z];exact A
 refine aC z (k:=0) rfl (by omega) ?_;refine ae (n:=rs.getD 0 0) (I.cell (i:=0) (aF (by rw[bo (by omega),cA (by omega)]))) ?_;generalize H:rs.getD 0 0=r at G ⊢;refine aA (cs:=[.int .i64 0]) S fun u h2 _ S=> ?_;refine ck S 1 fun h3 _ S=> ?_;have f:cf nv.nd rs=if ¬ ∀x∈rs,x=r then-1 else if r=0∧(iK nv.kind∨nv.kind=5) then-1 else if nv.kind=5 then 0 else r*dv nv.kind nv.step:=by
  unfold cf;rw[H];rfl
 have q: ∀g,cf nv.nd rs= -1→aG h no g [aJ y nv.cells,aJ u [.int .i64 r]] [aJ 0 (az bl),row p (az rs)]→
  Value.tuple #[.int .i64 0,.bool false]= .tuple #[.int .i64 (if cf nv.nd rs<0 then 0 else cf nv.nd rs),.bool (decide (0≤cf nv.nd rs))]∧cd no h g:=fun g e S=>⟨by rw[e];rfl,S.fra⟩
 refine⟨fun s g=> ∃b:Bool,s=((p,l,c),⟨y,0,none⟩,⟨u,0,none⟩,b,())∧(b=true↔iK nv.kind)∧aG h no g [aJ y nv.cells,aJ u [.int .i64 r]] [aJ 0 (az bl),row p (az rs)],?_,?_⟩
 ·rintro s g ⟨b,rfl,L,S⟩;dsimp only;refine⟨fun s g=>s=(⟨y,0,none⟩,⟨u,0,none⟩,())∧(∀x∈rs,x=r)∧ ¬(r=0∧(iK nv.kind∨nv.kind=5))∧aG h no g [aJ y nv.cells,aJ u [.int .i64 r]] [aJ 0 (az bl),row p (az rs)],?_,?_⟩
  ·rintro s g ⟨rfl,d,Y,S⟩;have J: ¬ ¬ ∀x∈rs,x=r:=fun h=>h d;rw[if_neg J,if_neg Y]at f;refine ae (n:=nv.kind) (S.c 0) (aH (fun m=> ?_) (fun m=> ?_))
   ·rw[if_pos m]at f;rw[f];exact⟨rfl,S.fra⟩
   ·rw[if_neg m]at f;refine aL S 0 rfl (x:=nv.t) rfl (ae (n:=r) (S.c 1) ?_);refine(RD nv (S.rd 0)).mono ?_;rintro _ _ ⟨rfl,F⟩;refine⟨_,rfl,?_⟩;replace S:=S.fra0 F;have o:0≤dv nv.kind nv.step∧dv nv.kind nv.step≤2 ^ 20:=by
     unfold dv;split
     ·rename_i h;exact Z h
     ·decide
    have X:0≤r*dv nv.kind nv.step∧r*dv nv.kind nv.step≤2 ^ 50:=by
     refine⟨WA G.1 o.1,?_⟩;have:=Wo G.2 o.2 o.1 (by decide);omega
    dsimp only;rw[al (n:=r*dv nv.kind nv.step) (by omega)];refine aX (S.c 1) ⟨?_,S.fra⟩;rw[f,if_neg (by omega),decide_eq_true X.1]
  ·refine(Hw (a:=⟨u,0,none⟩) (S.c 1) (S.ro 1) V (by omega)).mono ?_;rintro _ _ ⟨rfl,rfl⟩;refine⟨_,rfl,?_⟩;refine aq (fun D=>q _ ?_ S) (fun D=> ?_)
   ·rw[f,if_pos];intro d;obtain⟨j,U,e⟩:=D;exact e (d j U)
   ·have d: ∀x∈rs,x=r:=fun x A=>Decidable.byContradiction fun e=>D ⟨x,A,e⟩;have J: ¬ ¬ ∀x∈rs,x=r:=fun h=>h d;rw[if_neg J]at f;refine ae (n:=r) (S.c 1) (aH (fun h0=>cX (fun C=>q _ ?_ S) (fun B=> ?_)) (fun h0=> ?_))
    ·rw[f,if_pos ⟨h0,.inl (L.1 C)⟩]
    ·have nw: ¬iK nv.kind:=fun w=>by have:=L.2 w;rw[B]at this;cases this
     refine ae (n:=nv.kind) (S.c 0) (aH (fun m=>q _ ?_ S) (fun m=> ?_))
     ·rw[f,if_pos ⟨h0,.inr m⟩]
     ·exact⟨rfl,d,fun E=>E.2.elim nw m,S⟩
    ·exact⟨rfl,d,fun E=>h0 E.1,S⟩
 ·refine aL S 0 rfl (x:=nv.t) rfl ?_;refine(yl nv (S.rd 0) hz T).mono ?_;rintro _ _ ⟨rfl,F⟩;refine⟨_,rfl,?_⟩;replace S:=S.fra0 F;refine aq (fun K=>⟨_,rfl,⟨fun _=>Qj K,fun _=>rfl⟩,S⟩) (fun K=>ae (n:=nv.kind) (S.c 0) (aq (fun m=>⟨_,rfl,⟨fun _=>by unfold iK dp;omega,fun _=>rfl⟩,S⟩) (fun m=>ae (n:=nv.kind) (S.c 0) ⟨_,rfl,?_,S⟩)));rw[beq_iff_eq];unfold iK dp;omega
end
def dk(ns:List Nd):List Int→List Int→List Int→Int×List Int×List Int
 |[],ws,rs=>(0,ws,rs)
 |i::r,ws,rs=>
  match ns[i.toNat-1]? with
  |none=>(0,ws,rs)
  |some n=>
   if n.chk (bQ ws n.inn)≠0 then(n.chk (bQ ws n.inn),ws,rs)
   else if cf n (bQ rs n.inn)<0 then(15,ws,rs)
   else dk ns r (ws.set i.toNat (n.wid (bQ ws n.inn))) (rs.set i.toNat (cf n (bQ rs n.inn)))
structure Jo where
 e:Int
 order:List Int
 widths:List Int
 rates:List Int
def Gr.look(g:Gr):Jo:=
 if g.first≠0 then⟨g.first,[],[],[]⟩
 else if(bK g.nodes).length≠g.nodes.length then⟨13,[],[],[]⟩
 else if(dk g.nodes (bK g.nodes) (g.width::List.replicate g.nodes.length 0) (1::List.replicate g.nodes.length 0)).1≠0 then⟨(dk g.nodes (bK g.nodes) (g.width::List.replicate g.nodes.length 0) (1::List.replicate g.nodes.length 0)).1,[],[],[]⟩
 else⟨0,bK g.nodes,(dk g.nodes (bK g.nodes) (g.width::List.replicate g.nodes.length 0) (1::List.replicate g.nodes.length 0)).2.1,(dk g.nodes (bK g.nodes) (g.width::List.replicate g.nodes.length 0) (1::List.replicate g.nodes.length 0)).2.2⟩
theorem ft(ns:List Nd): ∀(k:Nat)(x:Int),x∈(bM ns k).tail→1≤x∧x≤(ns.length:Int)
 |0,x,h=>by simp[bM]at h
 |k+1,x,h=>by
  have a:=ft ns k x;simp only[bM,j9]at h;split at h
  ·rename_i i hi;rw[dr]at h;simp only[Yg,List.tail_cons,VW,VK]at h;rcases h with h|h
   ·exact a h
   ·obtain⟨j,n,c,b,_⟩:=xn hi;have:=(R8.1 b).1;omega
  ·exact a h
theorem bX{g:Gr}(h:g.first=0):1≤g.nodes.length∧g.nodes.length≤12∧(1≤g.width∧g.width≤16)∧(g.low≤g.high∧ -32768≤g.low∧g.high≤32767)∧(1≤g.out∧g.out≤(g.nodes.length:Int))∧ ∀n∈g.nodes,bv 0 g.nodes.length n.inn:=by
 unfold Gr.first at h;split at h
 ·cases h
 split at h
 ·cases h
 split at h
 ·rename_i b c a;exact⟨by omega,by omega,by omega,by omega,by omega,a⟩
 ·cases h
end
section
def yz(k:Jo)(h:ah)(v:Value)(a:ah):Prop:=
 ∃o w r:Sl,v= .tuple #[.agg #[o.v,w.v,r.v],.int .i64 k.e]∧o.xs=k.order∧w.xs=k.widths∧r.xs=k.rates∧o.ok∧w.ok∧r.ok∧aG h no a [own 1 o.p o.l o.c (az o.xs),own 1 w.p w.l w.c (az w.xs),own 1 r.p r.l r.c (az r.xs)] []
theorem yz.err{k:Jo}{h a:ah}{W R:List bc}(S:aG h no a W R){e:Int}(b:k=⟨e,[],[],[]⟩):yz k h (.tuple #[.agg #[.slice none 0 0,.slice none 0 0,.slice none 0 0],.int .i64 e]) a:=by
 subst b;refine⟨Sl.nil,Sl.nil,Sl.nil,rfl,rfl,rfl,rfl,⟨rfl,VX _⟩,⟨rfl,VX _⟩,⟨rfl,VX _⟩,?_⟩;exact(((yy (S.pw [])).nil 1).nil 1).nil 1
theorem F9{xs js:List Int}{B:Int}(a: ∀x∈xs,0≤x∧x≤B)(h0:0≤B):0≤(bQ xs js).getD 0 0∧(bQ xs js).getD 0 0≤B:=by
 rw[VT];cases js with
 |nil=>exact⟨Xx _,h0⟩
 |cons j r=>
  simp only[bQ,Wc,List.getElem?_cons_zero,XI];rw[VT];cases hx:xs[j.toNat]? with
  |none=>exact⟨Xx _,h0⟩
  |some y=>exact a y (VL hx)
section
variable {h:ah}
theorem jM{b1 b3 H G E:Nat}{gv:Gv}{q:Option Addr}{m d:Nat}{g:ah}(ai:gv.ok)(z:gv.gr.first=0)(hs: ∀n∈gv.ns,n.inn.l<2 ^ 40∧n.weights.l<2 ^ 62∧n.bias.l<2 ^ 62)(ho:(bK gv.gr.nodes).length=gv.gr.nodes.length)(hm:(bK gv.gr.nodes).length=m)
 (S:aG h no g [aJ b1 gv.cells,aJ b3 [.slice none 0 0,.slice none 0 0,.slice none 0 0],aJ H [.slice q m d,.slice (some ⟨G,0,none⟩) (gv.l+1) (gv.l+1),.slice (some ⟨E,0,none⟩) (gv.l+1) (gv.l+1)],own 1 q m d (az (bK gv.gr.nodes)),
  aJ G (az (gv.width::List.replicate gv.gr.nodes.length 0)),aJ E (az (1::List.replicate gv.gr.nodes.length 0))] [aJ 0 (az bl),row gv.p (aD gv.ns),aM gv.ns]):
 bf (fun K1 s h'=>fk (yz gv.gr.look h) K1 s.1 s.2.1 s.2.2.1 s.2.2.2.1.1 s.2.2.2.1.2.1 s.2.2.2.1.2.2 s.2.2.2.2.1 s.2.2.2.2.2.1 h') (⟨b1,0,none⟩,⟨b3,0,none⟩,⟨H,0,none⟩,(q,m,d),(m:Int),(0:Int),()) g:=by
 have ay:=ai.1;have U:gv.gr.nodes.length=gv.l:=by rw[←ay];simp[Gv.gr]
 obtain⟨_,ax,_,_,_,N⟩:=bX z;obtain⟨u,A⟩: ∃u,gv.gr.nodes=u:=⟨_,rfl⟩;obtain⟨v,B⟩: ∃v,bK u=v:=⟨_,rfl⟩;have X: ∀x∈v,1≤x∧x≤(u.length:Int):=fun x J=>ft u u.length x (by rw[←B]at J;exact J);rw[A]at S N ax U ho hm;rw[B]at S ho hm;have y: ∀r,dk u v (gv.width::List.replicate u.length 0) (1::List.replicate u.length 0)=r→gv.gr.look=if r.1≠0 then⟨r.1,[],[],[]⟩ else⟨0,v,r.2.1,r.2.2⟩:=by
  intro r hr;unfold Gr.look;rw[if_neg (by rw[z];simp),A,B,if_neg (by rw[ho];simp)];have:gv.gr.width=gv.width:=rfl;rw[this,hr]
 refine aO (fun mm s g=> ∃(i:Nat)(ws rs:List Int),s=(⟨b1,0,none⟩,⟨b3,0,none⟩,⟨H,0,none⟩,(q,m,d),(m:Int),(i:Int),())∧i≤m∧mm=m-i∧ws.length=gv.l+1∧rs.length=gv.l+1∧(∀x∈rs,0≤x∧x≤((4 ^ i:Nat):Int))∧
  dk u (v.drop i) ws rs=dk u v (gv.width::List.replicate u.length 0) (1::List.replicate u.length 0)∧
  aG h no g [aJ b1 gv.cells,aJ b3 [.slice none 0 0,.slice none 0 0,.slice none 0 0],aJ H [.slice q m d,.slice (some ⟨G,0,none⟩) (gv.l+1) (gv.l+1),.slice (some ⟨E,0,none⟩) (gv.l+1) (gv.l+1)],own 1 q m d (az v),
   aJ G (az ws),aJ E (az rs)] [aJ 0 (az bl),row gv.p (aD gv.ns),aM gv.ns]) m
  ⟨0,_,_,rfl,by omega,rfl,by simp[U],by simp[U],?_,by rw[Xb],S⟩ ?_
 ·intro x J;simp only[V5,List.mem_replicate]at J;rcases J with rfl|⟨_,rfl⟩
  ·decide
  ·decide
 rintro mm s g ⟨i,ws,rs,rfl,hi,rfl,aa,Z,ao,w,S⟩;simp only[aR,SN];refine aq (fun ba=> ?_) (fun a8=> ?_)
 ·have V:i<v.length:=by omega
  obtain⟨qa,ad⟩:=(S.own 3 rfl).row.some_of (by rw[av];omega);have hq:bD g (some qa) (az v):=by rw[←ad];exact(S.own 3 rfl).row
  have bb:=X _ (VN V);obtain⟨k,ek⟩: ∃k:Nat,v[i]=((k+1:Nat):Int):=⟨(v[i]-1).toNat,by omega⟩;rw[V6 V,ek]at w;have a1:k<gv.ns.length:=by omega
  obtain⟨e,en⟩: ∃n,gv.ns[k]? =some n:=⟨_,bo a1⟩;have C:=VL en;have ab:=ai.2.2 e C;have I:=hs e C;have L:u[k]? =some e.nd:=by rw[←A];simp[Gv.gr,en]
  have ag:e.nd∈u:=VL L;have M:=N e.nd ag;refine aC ad rfl (by omega) ?_;simp only[hC,VO];refine ae (n:=((k+1:Nat):Int)) (hq.cell (aF (by rw[bo V,ek]))) ?_;refine ak (p:=gv.p) (l:=gv.l) (c:=gv.c) (S.c 0) ?_;have aw:IntKind.wrap .i64 (((k+1:Nat):Int)-1)=(k:Int):=by rw[al (by omega)];omega
  rw[aw];obtain⟨a,ea⟩:=(S.row 1 rfl).some_of (by rw[bE];omega);have an:bD g (some a) (aD gv.ns):=by rw[←ea];exact S.row 1 rfl
  refine aC ea rfl (by omega) ?_;refine gi an en ?_;refine aA S fun a5 g2 _ S=> ?_;refine bP S 6 rfl rfl (aW rfl) fun g3 _ S=> ?_;have D: ∀{g:ah}{W:List bc},aG h no g W [aJ 0 (az bl),row gv.p (aD gv.ns),aM gv.ns]→e.rows.P g:=fun S=>S.r 2 _ rfl _ (V1 C);have O: ∀{g:ah}{W:List bc},aG h no g W [aJ 0 (az bl),row gv.p (aD gv.ns),aM gv.ns]→bD g e.inn.p (az e.inn.xs):=fun S=>D S e.inn.row (by simp);refine ak (p:=some ⟨G,0,none⟩) (l:=gv.l+1) (c:=gv.l+1) (S.c 2) (ak (p:=e.inn.p) (l:=e.inn.l) (c:=e.inn.c) (S.c 6) ?_);have ilen:e.inn.xs.length=e.inn.l:=ab.1.1;refine(MD (bD.of_at (S.at 4 rfl)) (O S) aa ilen (by omega) (fun j hj=>by have:=M j hj;omega)).mono ?_;rintro _ g4 ⟨bp,rfl,S1⟩;replace S:=S.add S1 fun _ _ h=>h;refine⟨_,_,_,rfl,?_⟩;refine aL S 6 rfl (x:=e.t) rfl ?_;have Y:(bQ ws e.inn.xs).length=e.inn.l:=by unfold bQ;rw[Ug,ilen]
  refine(DL ab (D S) (by omega) I.2.1 I.2.2 (S.r 0 _ rfl) (bD.of_at (S.at 7 rfl)) Y (by omega)).mono ?_;rintro _ _ ⟨rfl,F⟩;refine⟨_,rfl,?_⟩;replace S:=S.fra0 F
  have T:dk u (((k+1:Nat):Int)::v.drop (i+1)) ws rs=if e.nd.chk (bQ ws e.inn.xs)≠0 then(e.nd.chk (bQ ws e.inn.xs),ws,rs) else if cf e.nd (bQ rs e.inn.xs)<0 then(15,ws,rs)
   else dk u (v.drop (i+1)) (ws.set (k+1) (e.nd.wid (bQ ws e.inn.xs))) (rs.set (k+1) (cf e.nd (bQ rs e.inn.xs))):=by
   conv=>lhs;unfold dk
   rw[show(((k+1:Nat):Int)).toNat=k+1 from rfl,Nat.add_sub_cancel,L];rfl
  rw[T]at w;refine bh (fun hc=> ?_) (fun hc=> ?_)
  ·rw[if_pos hc]at w;have R:=y _ w.symm;rw[if_pos hc]at R;refine ck S 1 fun _ _ S=> ?_;refine ck S 1 fun _ _ S=> ?_;refine ck S 1 fun _ _ S=> ?_;refine ak (p:=none) (l:=0) (c:=0) (S.c 1) (ak (p:=none) (l:=0) (c:=0) (S.c 1) (ak (p:=none) (l:=0) (c:=0) (S.c 1) ?_));exact yz.err S R
  ·rw[if_neg (fun h=>h hc)]at w;obtain⟨c1,c2,c3,c4,c5,c6,c7,c8,c9,ar,_⟩:=fD hc;have a0:1≤e.inn.l:=by have:(bQ ws e.nd.inn).length=e.inn.l:=Y;omega
   have Q:=(vg e _).1 ar;refine aL S 6 rfl (x:=e.t) rfl ?_;refine ak (p:=some ⟨E,0,none⟩) (l:=gv.l+1) (c:=gv.l+1) (S.c 2) (ak (p:=e.inn.p) (l:=e.inn.l) (c:=e.inn.c) (S.c 6) ?_);refine(MD (bD.of_at (S.at 5 rfl)) (O S) Z ilen (by omega) (fun j hj=>by have:=M j hj;omega)).mono ?_;rintro _ g5 ⟨a6,rfl,S1⟩;replace S:=S.add S1 fun _ _ h=>h;refine⟨_,_,_,rfl,?_⟩;refine da S 6 rfl rfl ?_;have aj:(bQ rs e.inn.xs).length=e.inn.l:=by unfold bQ;rw[Ug,ilen]
   have a7:(4 ^ i:Nat)≤4 ^ 12:=WG (by decide) (by omega);have a2:=F9 (js:=e.inn.xs) ao (Int.natCast_nonneg _);have K:(-2 ^ 20≤e.size∧e.size≤2 ^ 20)∧(-2 ^ 20≤e.gap∧e.gap≤2 ^ 20)∧(dp e.kind→1≤e.step∧e.step≤4):=by
    have e0:=(zU e).1 c9;refine⟨?_,?_,fun f=>(Q.2.1 f).1⟩
    ·by_cases hw:iK e.kind
     ·have:=Q.1 hw;omega
     ·have:=e0.2.1 ⟨fun f=>hw (.inl f),fun f=>hw (.inr f)⟩;omega
    ·by_cases hf:dp e.kind
     ·have:=(Q.2.1 hf).2.1;omega
     ·have:=(e0.1 hf).2.1;omega
   refine(R5 (S.r 0 _ rfl) (bD.of_at (S.at 8 rfl)) aj a0 (by omega) (by omega) (fun f=>by have:=K.2.2 f;omega) c4.1 K.1 K.2.1).mono ?_;rintro _ _ ⟨rfl,F⟩;refine⟨_,_,rfl,?_⟩;replace S:=S.fra0 F;refine aX (S.c 2) (bJ (aq (fun a3=> ?_) (fun a3=> ?_)))
   ·have a4: ¬cf e.nd (bQ rs e.inn.xs)<0:=by omega
    rw[if_neg a4]at w ⊢;refine aL S 6 rfl (x:=e.t) rfl ?_;refine ak (p:=some ⟨G,0,none⟩) (l:=gv.l+1) (c:=gv.l+1) (S.c 2) (ak (p:=some ⟨E,0,none⟩) (l:=gv.l+1) (c:=gv.l+1) (S.c 2) ?_);refine(PX ab (D S) (by omega) I.2.1 I.2.2 (S.r 0 _ rfl) (bD.of_at (S.at 7 rfl)) Y (by omega)).mono ?_;rintro _ _ ⟨rfl,F⟩;refine⟨_,rfl,?_⟩;replace S:=S.fra0 F;refine aX (S.c 2) (aX (S.c 2) (aC rfl (k:=k+1) rfl (by omega) ?_));simp only[hC,VO,aR,SN];refine be S 4 rfl (by rw[av];omega) fun g6 _ S=> ?_;rw[bB]at S;refine aX (S.c 2) (aC rfl (k:=k+1) rfl (by omega) ?_);simp only[hC,VO,aR,SN];refine be S 5 rfl (by rw[av];omega) fun g7 _ S=> ?_;rw[bB]at S;rw[al (by omega)];refine⟨m-(i+1),by omega,i+1,_,_,rfl,by omega,rfl,by rw[VU];exact aa,by rw[VU];exact Z,fun x J=> ?_,w,S.pw [0,1,2,3,4,5]⟩;rcases Xe J with J|rfl
    ·have:=ao x J;omega
    ·refine⟨by omega,?_⟩;unfold cf;split
     ·omega
     split
     ·omega
     split
     ·omega
     ·have ap:0≤dv e.nd.kind e.nd.step∧dv e.nd.kind e.nd.step≤4:=by
       unfold dv;split
       ·rename_i h;have:=K.2.2 h;exact⟨by show 0≤e.step;omega,by show e.step≤4;omega⟩
       ·decide
      have:=Wo a2.2 ap.2 ap.1 (by omega);omega
   ·have lt:cf e.nd (bQ rs e.inn.xs)<0:=by omega
    rw[if_pos lt]at w;have R:=y _ w.symm;rw[if_pos (by show(15:Int)≠0;decide)]at R;refine ck S 1 fun _ _ S=> ?_;refine ck S 1 fun _ _ S=> ?_;refine ck S 1 fun _ _ S=> ?_;refine ak (p:=none) (l:=0) (c:=0) (S.c 1) (ak (p:=none) (l:=0) (c:=0) (S.c 1) (ak (p:=none) (l:=0) (c:=0) (S.c 1) ?_));exact yz.err S R
 ·have a9:i=m:=by omega
  rw[Wj (by omega)]at w;have R:=y _ w.symm;refine ak (p:=q) (l:=m) (c:=d) (S.c 2) (ak (p:=some ⟨G,0,none⟩) (l:=gv.l+1) (c:=gv.l+1) (S.c 2) (ak (p:=some ⟨E,0,none⟩) (l:=gv.l+1) (c:=gv.l+1) (S.c 2) ?_));refine ck S 1 fun _ _ S=> ?_;refine ck S 1 fun _ _ S=> ?_;refine ck S 1 fun _ _ S=> ?_;refine ak (p:=q) (l:=m) (c:=d) (S.c 1) (ak (p:=some ⟨G,0,none⟩) (l:=gv.l+1) (c:=gv.l+1) (S.c 1) (ak (p:=some ⟨E,0,none⟩) (l:=gv.l+1) (c:=gv.l+1) (S.c 1) ?_));have o:=(S.own 3 rfl).2.1;rw[R];replace S:=S.toOwn 4 1 (gv.l+1) (gv.l+1) (b:=G) (cs:=az ws) (by rw[av];omega) (VX _);replace S:=S.toOwn 5 1 (gv.l+1) (gv.l+1) (b:=E) (cs:=az rs) (by rw[av];omega) (VX _);rw[py (by rw[av];omega),py (by rw[av];omega)]at S;exact⟨⟨q,m,d,v⟩,⟨some ⟨G,0,none⟩,gv.l+1,gv.l+1,ws⟩,⟨some ⟨E,0,none⟩,gv.l+1,gv.l+1,rs⟩,rfl,rfl,rfl,rfl,⟨hm,o⟩,⟨aa,VX _⟩,⟨Z,VX _⟩,yy (S.pw [3,4,5])⟩
end
end
section
section
variable {h:ah}
theorem ME{gv:Gv}(f:gv.ok)(C:bD h gv.p (aD gv.ns))(Y:(aM gv.ns).P h)(hl:gv.l<2 ^ 20)(y: ∀n∈gv.ns,n.inn.l<2 ^ 40∧n.weights.l<2 ^ 62∧n.bias.l<2 ^ 62)(X:KT h):
 au P gN #[gv.v] h (yz gv.gr.look h):=by
 refine BQ _ ?_;have A:=f.1;have D:gv.gr.nodes.length=gv.l:=by rw[←A];simp[Gv.gr]
 have S:=(((aG.start h no).read (aJ 0 (az bl)) X).read (row gv.p (aD gv.ns)) C).read (aM gv.ns) Y;refine aA (cs:=gv.cells) S fun R h1 _ S=> ?_;refine aA (cs:=[.slice none 0 0,.slice none 0 0,.slice none 0 0]) S fun z h2 _ S=> ?_;refine aL S 0 rfl (x:=gv.t) rfl ?_;refine(Tx f (S.ro 1) (S.rd 2) (by omega) (fun n C=>by have:=(y n C).1;omega)).mono ?_;rintro _ _ ⟨rfl,F⟩;refine⟨_,rfl,?_⟩;replace S:=S.fra0 F
 have i: ∀{e:Int}{g:ah},aG h no g [aJ R gv.cells,aJ z [.slice none 0 0,.slice none 0 0,.slice none 0 0]] [aJ 0 (az bl),row gv.p (aD gv.ns),aM gv.ns]→gv.gr.look=⟨e,[],[],[]⟩→
  aQ g ⟨z,0,none⟩ (.slice none 0 0) fun V=>aQ V ⟨z,1,none⟩ (.slice none 0 0) fun W=>aQ W ⟨z,2,none⟩ (.slice none 0 0) fun s=>am s ⟨z,0,none⟩ fun M K G=>am s ⟨z,1,none⟩ fun N l12 H=>am s ⟨z,2,none⟩ fun O L I=>
   yz gv.gr.look h (.tuple #[(.agg #[(.slice M K G),(.slice N l12 H),(.slice O L I)]),(.int .i64 e)]) s:=by
  intro e g S T;refine ck S 1 fun _ _ S=> ?_;refine ck S 1 fun _ _ S=> ?_;refine ck S 1 fun _ _ S=> ?_;refine ak (p:=none) (l:=0) (c:=0) (S.c 1) (ak (p:=none) (l:=0) (c:=0) (S.c 1) (ak (p:=none) (l:=0) (c:=0) (S.c 1) ?_));exact yz.err S T
 refine bh (fun u=>i S (by unfold Gr.look;rw[if_pos u])) (fun u=> ?_);have Z: ¬gv.gr.first≠0:=fun h=>h u;refine ak (p:=gv.p) (l:=gv.l) (c:=gv.c) (S.c 0) ?_;refine(Lx (S.ro 1) (S.rd 2) A (by omega) (fun n C=>(f.2.2 n C).1) (fun n C=>by have:=(y n C).1;omega)).mono ?_;rintro _ g3 ⟨q,m,d,rfl,B,Q⟩;replace S:=S.add Q fun _ _ h=>h;refine⟨_,_,_,_,rfl,?_⟩;have r:gv.ns.map Nv.nd=gv.gr.nodes:=rfl;rw[r]at B S ⊢;have J:gv.ns.length=gv.gr.nodes.length:=by rw[D,A]
 rw[J];refine bJ (aq (fun w=> ?_) (fun w=>i (S.pw [0,1]) (by unfold Gr.look;rw[if_neg Z,if_pos w])));refine ak (p:=gv.p) (l:=gv.l) (c:=gv.c) (S.c 0) (ak (p:=gv.p) (l:=gv.l) (c:=gv.c) (S.c 0) ?_);have U:IntKind.wrap .i64 ((gv.l:Int)+1)=((gv.l+1:Nat):Int):=by rw[al (by omega)];omega
 rw[U];have b: ∀x:Int,(List.replicate (gv.l+1) (0:Int)).set 0 x=x::List.replicate gv.gr.nodes.length 0:=fun x=>by rw[D,Wp];rfl
 have a:(List.replicate (gv.l+1) [Value.int .i64 0]).flatten=az (List.replicate (gv.l+1) 0):=by rw[iG];simp[az]
 refine⟨?_,?_,?_⟩
 ·refine dM S (gv.l+1) rfl rfl rfl (by decide) (by omega) (by omega) fun o _ _ S=> ?_;rw[a]at S;refine aX (S.c 0) (aX (S.c 0) ?_);refine⟨?_,?_⟩
  ·refine dM S (gv.l+1) rfl rfl rfl (by decide) (by omega) (by omega) fun j _ _ S=> ?_;rw[a]at S;refine aX (S.c 0) (aX (S.c 0) ?_);refine aA (cs:=[.slice none 0 0,.slice none 0 0,.slice none 0 0]) S fun E _ _ S=> ?_;dsimp only[Yg,Yh]at S;refine ck S 5 fun _ _ S=> ?_;refine ck S 5 fun _ _ S=> ?_;refine ck S 5 fun _ _ S=> ?_;refine ak (p:=some ⟨o,0,none⟩) (l:=gv.l+1) (c:=gv.l+1) (S.c 5) (ae (n:=gv.width) (S.c 0) (aC rfl (k:=0) rfl (by omega) ?_));refine ak (p:=some ⟨j,0,none⟩) (l:=gv.l+1) (c:=gv.l+1) (S.c 5) ?_;refine be S 3 rfl (by rw[av,VQ];omega) fun _ _ S=> ?_;rw[bB,b]at S;refine aX (S.c 5) (aC rfl (k:=0) rfl (by omega) ?_);refine be S 4 rfl (by rw[av,VQ];omega) fun _ _ S=> ?_;rw[bB,b]at S;exact jM f u y w B (S.pw [0,1,5,2,3,4])
  ·refine aA (cs:=[.slice none 0 0,.slice none 0 0,.slice none 0 0]) S fun E _ _ S=> ?_;refine dM S (gv.l+1) rfl rfl rfl (by decide) (by omega) (by omega) fun j _ _ S=> ?_;rw[a]at S;dsimp only[Yg,Yh]at S;refine aX (S.c 0) (aX (S.c 0) ?_);refine ck S 4 fun _ _ S=> ?_;refine ck S 4 fun _ _ S=> ?_;refine ck S 4 fun _ _ S=> ?_;refine ak (p:=some ⟨o,0,none⟩) (l:=gv.l+1) (c:=gv.l+1) (S.c 4) (ae (n:=gv.width) (S.c 0) (aC rfl (k:=0) rfl (by omega) ?_));refine ak (p:=some ⟨j,0,none⟩) (l:=gv.l+1) (c:=gv.l+1) (S.c 4) ?_;refine be S 3 rfl (by rw[av,VQ];omega) fun _ _ S=> ?_;rw[bB,b]at S;refine aX (S.c 4) (aC rfl (k:=0) rfl (by omega) ?_);refine be S 5 rfl (by rw[av,VQ];omega) fun _ _ S=> ?_;rw[bB,b]at S;exact jM f u y w B (S.pw [0,1,4,2,3,5])
 ·refine dM S (gv.l+1) rfl rfl rfl (by decide) (by omega) (by omega) fun j _ _ S=> ?_;rw[a]at S;refine aX (S.c 0) (aX (S.c 0) ?_);refine⟨?_,?_⟩
  ·refine dM S (gv.l+1) rfl rfl rfl (by decide) (by omega) (by omega) fun o _ _ S=> ?_;rw[a]at S;refine aX (S.c 0) (aX (S.c 0) ?_);refine aA (cs:=[.slice none 0 0,.slice none 0 0,.slice none 0 0]) S fun E _ _ S=> ?_;dsimp only[Yg,Yh]at S;refine ck S 5 fun _ _ S=> ?_;refine ck S 5 fun _ _ S=> ?_;refine ck S 5 fun _ _ S=> ?_;refine ak (p:=some ⟨o,0,none⟩) (l:=gv.l+1) (c:=gv.l+1) (S.c 5) (ae (n:=gv.width) (S.c 0) (aC rfl (k:=0) rfl (by omega) ?_));refine ak (p:=some ⟨j,0,none⟩) (l:=gv.l+1) (c:=gv.l+1) (S.c 5) ?_;refine be S 4 rfl (by rw[av,VQ];omega) fun _ _ S=> ?_;rw[bB,b]at S;refine aX (S.c 5) (aC rfl (k:=0) rfl (by omega) ?_);refine be S 3 rfl (by rw[av,VQ];omega) fun _ _ S=> ?_;rw[bB,b]at S;exact jM f u y w B (S.pw [0,1,5,2,4,3])
  ·refine aA (cs:=[.slice none 0 0,.slice none 0 0,.slice none 0 0]) S fun E _ _ S=> ?_;refine dM S (gv.l+1) rfl rfl rfl (by decide) (by omega) (by omega) fun o _ _ S=> ?_;rw[a]at S;refine aX (S.c 0) (aX (S.c 0) ?_);refine ck S 4 fun _ _ S=> ?_;refine ck S 4 fun _ _ S=> ?_;refine ck S 4 fun _ _ S=> ?_;refine ak (p:=some ⟨o,0,none⟩) (l:=gv.l+1) (c:=gv.l+1) (S.c 4) (ae (n:=gv.width) (S.c 0) (aC rfl (k:=0) rfl (by omega) ?_));refine ak (p:=some ⟨j,0,none⟩) (l:=gv.l+1) (c:=gv.l+1) (S.c 4) ?_;refine be S 5 rfl (by rw[av,VQ];omega) fun _ _ S=> ?_;rw[bB,b]at S;refine aX (S.c 4) (aC rfl (k:=0) rfl (by omega) ?_);refine be S 3 rfl (by rw[av,VQ];omega) fun _ _ S=> ?_;rw[bB,b]at S;exact jM f u y w B (S.pw [0,1,4,2,5,3])
 ·refine aA (cs:=[.slice none 0 0,.slice none 0 0,.slice none 0 0]) S fun E _ _ S=> ?_;refine⟨?_,?_⟩
  ·refine dM S (gv.l+1) rfl rfl rfl (by decide) (by omega) (by omega) fun o _ _ S=> ?_;rw[a]at S;refine aX (S.c 0) (aX (S.c 0) ?_);refine dM S (gv.l+1) rfl rfl rfl (by decide) (by omega) (by omega) fun j _ _ S=> ?_;rw[a]at S;refine aX (S.c 0) (aX (S.c 0) ?_);refine ck S 3 fun _ _ S=> ?_;refine ck S 3 fun _ _ S=> ?_;refine ck S 3 fun _ _ S=> ?_;refine ak (p:=some ⟨o,0,none⟩) (l:=gv.l+1) (c:=gv.l+1) (S.c 3) (ae (n:=gv.width) (S.c 0) (aC rfl (k:=0) rfl (by omega) ?_));refine ak (p:=some ⟨j,0,none⟩) (l:=gv.l+1) (c:=gv.l+1) (S.c 3) ?_;refine be S 4 rfl (by rw[av,VQ];omega) fun _ _ S=> ?_;rw[bB,b]at S;refine aX (S.c 3) (aC rfl (k:=0) rfl (by omega) ?_);refine be S 5 rfl (by rw[av,VQ];omega) fun _ _ S=> ?_;rw[bB,b]at S;exact jM f u y w B (S.pw [0,1,3,2,4,5])
  ·refine dM S (gv.l+1) rfl rfl rfl (by decide) (by omega) (by omega) fun j _ _ S=> ?_;rw[a]at S;refine aX (S.c 0) (aX (S.c 0) ?_);refine dM S (gv.l+1) rfl rfl rfl (by decide) (by omega) (by omega) fun o _ _ S=> ?_;rw[a]at S;refine aX (S.c 0) (aX (S.c 0) ?_);refine ck S 3 fun _ _ S=> ?_;refine ck S 3 fun _ _ S=> ?_;refine ck S 3 fun _ _ S=> ?_;refine ak (p:=some ⟨o,0,none⟩) (l:=gv.l+1) (c:=gv.l+1) (S.c 3) (ae (n:=gv.width) (S.c 0) (aC rfl (k:=0) rfl (by omega) ?_));refine ak (p:=some ⟨j,0,none⟩) (l:=gv.l+1) (c:=gv.l+1) (S.c 3) ?_;refine be S 5 rfl (by rw[av,VQ];omega) fun _ _ S=> ?_;rw[bB,b]at S;refine aX (S.c 3) (aC rfl (k:=0) rfl (by omega) ?_);refine be S 4 rfl (by rw[av,VQ];omega) fun _ _ S=> ?_;rw[bB,b]at S;exact jM f u y w B (S.pw [0,1,3,2,5,4])
theorem Aa{gv:Gv}(a:gv.ok)(i:bD h gv.p (aD gv.ns))(j:(aM gv.ns).P h)(g:gv.l<2 ^ 20)(k: ∀n∈gv.ns,n.inn.l<2 ^ 40∧n.weights.l<2 ^ 62∧n.bias.l<2 ^ 62)(f:KT h):
 au P kA #[gv.v] h fun v d=>v= .int .i64 gv.gr.look.e∧cd no h d:=by
 refine zn _ ?_;have S:=(((aG.start h no).read (aJ 0 (az bl)) f).read (row gv.p (aD gv.ns)) i).read (aM gv.ns) j;refine aA (cs:=gv.cells) S fun m s _ S=> ?_;refine aL S 0 rfl (x:=gv.t) rfl ?_;refine(ME a (S.ro 1) (S.rd 2) g k (S.rd 0)).mono ?_;rintro _ q ⟨o,w,r,rfl,_,_,_,_,_,_,b⟩;replace S:=S.add b fun _ _ h=>h;refine⟨_,_,_,_,_,_,_,_,_,_,rfl,?_⟩;refine aA (cs:=[.slice none 0 0,.slice none 0 0,.slice none 0 0]) S fun c _ _ S=> ?_;refine ck S 4 fun _ _ S=> ?_;refine ck S 4 fun _ _ S=> ?_;refine ck S 4 fun _ _ S=> ?_;exact⟨rfl,S.fra⟩
