/- CBnd CBnd2 CRng CRng2, in one text. -/
import Derived.Test.YtdhpmegbmjoekaaGreatDoorCSat
import Derived.Test.YtdhpmegbmjoekaaGreatDoorCMadeR
set_option linter.unusedVariables false
set_option linter.unusedSimpArgs false
namespace Go.Proofs.YtdhpmegbmjoekaaGreatDoor.G
open Go Go.Sh
open Go.IntKind renaming wrap→kn
section
structure Rg where
 lo:Int
 hi:Int
 alo:Int
 ahi:Int
def Rg.cells(r:Rg):List Value:=[.int .i64 r.lo,.int .i64 r.hi,.int .i64 r.alo,.int .i64 r.ahi]
abbrev Rg.v(r:Rg):Value:= .agg #[.int .i64 r.lo,.int .i64 r.hi,.int .i64 r.alo,.int .i64 r.ahi]
def dN(l u:Int):Rg:=⟨l,u,l,u⟩
def sA(ws:List Int)(b l u:Int):Int×Int:=ws.foldl (fun s w=>if w<0 then(cP (s.1+cP (w*u)),cP (s.2+cP (w*l))) else(cP (s.1+cP (w*l)),cP (s.2+cP (w*u)))) (b,b)
def Nd.each(n:Nd):Nat:=n.weights.length / n.bias.length
def Nd.ends(n:Nd)(l u:Int)(c:Nat):Int×Int:=sA ((n.weights.drop (c*n.each)).take n.each) (n.bias.getD c 0) l u
def ez(n:Nd)(l u:Int)(k:Nat):Int×Int:=(List.range k).foldl (fun s c=>(if(n.ends l u c).1<s.1 then(n.ends l u c).1 else s.1,if(n.ends l u c).2>s.2 then(n.ends l u c).2 else s.2)) (n.ends l u 0)
def dS(n:Nd)(l u:Int):Rg:=
 ⟨uD n (ez n l u n.bias.length).1,uD n (ez n l u n.bias.length).2,(ez n l u n.bias.length).1,(ez n l u n.bias.length).2⟩
section
variable {h:ah}
theorem iI{h0:ah}{T:Nat→Prop}{W R:List bc}{b:Nat}{r0 l m n:Value}(S:aG h0 T h (aJ b [r0,l,m,n]::W) R)(r:Rg){K:Value→ah→Prop}(H: ∀h',aG h0 T h' (aJ b r.cells::W) R→K r.v h'):
 aQ h ⟨b,0,none⟩ (.int .i64 r.lo) fun d=>aQ d ⟨b,1,none⟩ (.int .i64 r.hi) fun e=>aQ e ⟨b,2,none⟩ (.int .i64 r.alo) fun f=>aQ f ⟨b,3,none⟩ (.int .i64 r.ahi) fun a=>
  af .i64 a ⟨b,0,none⟩ fun g=>af .i64 a ⟨b,1,none⟩ fun i=>af .i64 a ⟨b,2,none⟩ fun j=>af .i64 a ⟨b,3,none⟩ fun k=>K (.agg #[.int .i64 g,.int .i64 i,.int .i64 j,.int .i64 k]) a:=by
 refine ck S 0 fun _ _ S=> ?_;refine ck S 0 fun _ _ S=> ?_;refine ck S 0 fun _ _ S=> ?_;refine ck S 0 fun _ _ S=> ?_;exact ae (S.c 0) (ae (S.c 0) (ae (S.c 0) (ae (S.c 0) (H _ S))))
theorem yi(l u:Int):au P fQ #[.int .i64 l,.int .i64 u] h fun v a=>v=(dN l u).v∧cd no h a:=by
 refine BR _ _ ?_;have S:=aG.start h no;refine aA S (fun b1 _ _ S=> ?_);exact iI S (dN l u) (K:=fun v g=>v=(dN l u).v∧cd no h g) fun a S=>⟨rfl,S.fra⟩
theorem Hg{n:Nd}{c:Nat}(a:c<n.bias.length):(c+1)*n.each≤n.weights.length:=by
 exact W3 (Wu _ a) (Nat.mul_div_le _ _)
theorem IV{nv:Nv}(f:nv.ok)(F:nv.rows.P h){b1 z b3 j:Nat}{l u:Int}(O:aB h ⟨b1,8,none⟩=some nv.weights.v)(B:aB h ⟨b1,9,none⟩=some nv.bias.v)
 (D:aB h ⟨z,0,none⟩=some (.int .i64 (nv.nd.each:Int))) (G:aB h ⟨b3,0,none⟩=some (.int .i64 u)) (E:aB h ⟨j,0,none⟩=some (.int .i64 l)) {c:Nat} (C:c<nv.bias.l) (Y:nv.weights.l<2 ^ 40) (X:nv.bias.l<2 ^ 40):
 au P ik #[.int .i64 (c:Int),.pointer (some ⟨b1,0,none⟩),.pointer (some ⟨z,0,none⟩),.pointer (some ⟨b3,0,none⟩),.pointer (some ⟨j,0,none⟩)] h
  fun v N=>v= .tuple #[.int .i64 (nv.nd.ends l u c).1,.int .i64 (nv.nd.ends l u c).2]∧N=h:=by
 refine uf _ _ _ _ _ ?_;unfold sk;have d:bD h nv.bias.p (az nv.bias.xs):=F nv.bias.row (by simp);have y:bD h nv.weights.p (az nv.weights.xs):=F nv.weights.row (by simp);have Z:nv.bias.xs.length=nv.bias.l:=f.2.2.1;have U:nv.weights.xs.length=nv.weights.l:=f.2.1.1;have lc:nv.weights.l≤nv.weights.c:=f.2.1.2;have V:(c+1)*nv.nd.each≤nv.weights.l:=by have:=Hg (n:=nv.nd) (c:=c) (by show c<nv.bias.xs.length;omega);rw[←U];exact this
 have S:(c+1)*nv.nd.each=c*nv.nd.each+nv.nd.each:=by rw[Wr,XK]
 obtain⟨H,r⟩:=d.some_of (by rw[av];omega);have A:aB h (H.add c)=some (.int .i64 (nv.nd.bias.getD c 0)):=by
  rw[r]at d;refine d.cell (aF ?_);show nv.bias.xs[c]? =some (nv.bias.xs.getD c 0);rw[VT,bo (by omega)];rfl
 simp only[aR,SN,hC,VO];refine ak B (aC r (k:=c) rfl C (ae A (ak B (aC r (k:=c) rfl C (ae A (ak O (ae D (ae D ?_))))))));have I:((c:Int)+1)*(nv.nd.each:Int)=(((c+1)*nv.nd.each:Nat):Int):=by push_cast;rfl
 have J:(c:Int)*(nv.nd.each:Int)=((c*nv.nd.each:Nat):Int):=by push_cast;rfl
 rw[al (n:=(c:Int)+1) (by omega),I,J,al (by omega),al (by omega)];refine iH rfl (by omega) (iH rfl (by omega) ?_);have L:(c+1)*nv.nd.each-c*nv.nd.each=nv.nd.each:=by omega
 rw[L];obtain⟨q,t⟩: ∃q,(if nv.weights.c=c*nv.nd.each then nv.weights.p else Option.map (fun a=>a.add (c*nv.nd.each)) nv.weights.p)=q:=⟨_,rfl⟩;rw[t];have wc: ∀i,i<nv.nd.each→ ∃a,q=some a∧aB h (a.add i)=some (.int .i64 ((nv.nd.weights.drop (c*nv.nd.each)).getD i 0)):=by
  intro i hi;rw[if_neg (by omega)]at t;have rd:=y.drop' (c*nv.nd.each) (by rw[av];omega);rw[t]at rd;obtain⟨a,ea⟩:=rd.some_of (by rw[Wh,av];omega);refine⟨a,ea,?_⟩;rw[ea]at rd;refine rd.cell ?_;have:(az nv.weights.xs).drop (c*nv.nd.each)=az (nv.weights.xs.drop (c*nv.nd.each)):=by unfold az;rw[List.map_drop]
  rw[this];refine aF ?_;show(nv.weights.xs.drop (c*nv.nd.each))[i]? =some ((nv.weights.xs.drop (c*nv.nd.each)).getD i 0);rw[VT,bo (by rw[Wh];omega)];rfl
 refine aO (fun m s g=>g=h∧ ∃i:Nat,s=(⟨b3,0,none⟩,⟨j,0,none⟩,(sA ((nv.nd.weights.drop (c*nv.nd.each)).take i) (nv.nd.bias.getD c 0) l u).1,(sA ((nv.nd.weights.drop (c*nv.nd.each)).take i) (nv.nd.bias.getD c 0) l u).2,(q,nv.nd.each,nv.weights.c-c*nv.nd.each),(nv.nd.each:Int),(i:Int),())∧i≤nv.nd.each∧m=nv.nd.each-i) nv.nd.each ⟨rfl,0,rfl,by omega,rfl⟩ ?_;rintro m s g ⟨rfl,i,rfl,hi,rfl⟩;dsimp only;refine aq (fun e=> ?_) (fun T=> ?_)
 ·have e:i<nv.nd.each:=by omega
  obtain⟨a,ea,K⟩:=wc i e;refine aC ea (k:=i) rfl e ?_;simp only[hC,VO];refine ae K ?_;have b:i<(nv.nd.weights.drop (c*nv.nd.each)).length:=by rw[Wh];show i<nv.weights.xs.length-_;omega
  have step:sA ((nv.nd.weights.drop (c*nv.nd.each)).take (i+1)) (nv.nd.bias.getD c 0) l u=(fun(s:Int×Int)(w:Int)=>if w<0 then(cP (s.1+cP (w*u)),cP (s.2+cP (w*l))) else(cP (s.1+cP (w*l)),cP (s.2+cP (w*u)))) (sA ((nv.nd.weights.drop (c*nv.nd.each)).take i) (nv.nd.bias.getD c 0) l u) ((nv.nd.weights.drop (c*nv.nd.each)).getD i 0):=by
   have M:(nv.nd.weights.drop (c*nv.nd.each)).getD i 0=(nv.nd.weights.drop (c*nv.nd.each))[i]:=by rw[VT,bo b];rfl
   unfold sA;rw[gD b,V7,M];rfl
  rw[al (n:=(i:Int)+1) (by omega)];refine aq (fun x=> ?_) (fun x=> ?_)
  ·refine ae G (ae E ⟨nv.nd.each-(i+1),by omega,by trivial,i+1,?_,by omega,rfl⟩);rw[step];dsimp only;rw[if_pos x];rfl
  ·refine ae E (ae G ⟨nv.nd.each-(i+1),by omega,by trivial,i+1,?_,by omega,rfl⟩);rw[step];dsimp only;rw[if_neg x];rfl
 ·have:i=nv.nd.each:=by omega
  subst this;exact⟨rfl,by trivial⟩
theorem Lf{nv:Nv}(a:nv.ok)(I:nv.rows.P h)(z:nv.weights.l<2 ^ 40)(y:nv.bias.l<2 ^ 40)(F:1≤nv.bias.l)(l u:Int):
 au P fF #[nv.v,.int .i64 l,.int .i64 u] h fun v r=>v=(dS nv.nd l u).v∧cd no h r:=by
 refine wQ _ _ _ ?_;have J:nv.bias.xs.length=nv.bias.l:=a.2.2.1;have A:nv.weights.xs.length=nv.weights.l:=a.2.1.1;have S:=(aG.start h no).read nv.rows I;refine aA (cs:=nv.cells) S (fun b1 _ _ S=> ?_);refine aA S (fun f _ _ S=> ?_);refine aA S (fun j _ _ S=> ?_);refine aA S (fun k _ _ S=> ?_);refine ak (p:=nv.weights.p) (l:=nv.weights.l) (c:=nv.weights.c) (S.c 0) (ak (p:=nv.bias.p) (l:=nv.bias.l) (c:=nv.bias.c) (S.c 0) ⟨by omega,?_⟩);have D:Int.tdiv ((nv.weights.l:Nat):Int) ((nv.bias.l:Nat):Int)=(nv.nd.each:Int):=by
  have:nv.nd.each=nv.weights.l / nv.bias.l:=by show nv.weights.xs.length / nv.bias.xs.length=_;rw[A,J]
  rw[this];rfl
 have L:nv.nd.each≤nv.weights.l:=by
  have:=Hg (n:=nv.nd) (c:=0) (by show 0<nv.bias.xs.length;omega);rw[SN,XK]at this;exact W3 this (by rw[←A];exact VX _)
 rw[D,al (n:=(nv.nd.each:Int)) (by omega)];refine aA S (fun b _ _ S=> ?_);refine ck S 4 fun _ _ S=> ?_;refine aA S (fun d M _ S=> ?_);refine(IV (c:=0) a (S.rd 0) (S.c 0) (S.c 0) (S.c 4) (S.c 2) (S.c 1) (by omega) z y).mono ?_;rintro _ q ⟨rfl,rfl⟩;refine⟨_,_,rfl,?_⟩;refine ck S 5 fun _ _ S=> ?_;refine ck S 5 fun _ _ S=> ?_;refine ak (p:=nv.bias.p) (l:=nv.bias.l) (c:=nv.bias.c) (S.c 0) ?_
 refine aO (fun m s g=> ∃i:Nat,s=(⟨b1,0,none⟩,⟨k,0,none⟩,((),(⟨b1,0,none⟩,⟨b,0,none⟩,⟨j,0,none⟩,⟨f,0,none⟩,())),⟨d,0,none⟩,(nv.bias.l:Int),(i:Int),())∧i≤nv.bias.l∧m=nv.bias.l-i∧
  aG h no g [aJ b1 nv.cells,aJ f [.int .i64 l],aJ j [.int .i64 u],aJ k [.int .i64 0,.int .i64 0,.int .i64 0,.int .i64 0],aJ b [.int .i64 (nv.nd.each:Int)],aJ d [.int .i64 0,.int .i64 0,.int .i64 (ez nv.nd l u i).1,.int .i64 (ez nv.nd l u i).2]] [nv.rows]) nv.bias.l ⟨0,rfl,by omega,rfl,S⟩ ?_
 rintro m s g ⟨i,rfl,hi,rfl,S⟩;simp only[aR,SN];refine aq (fun H=> ?_) (fun G=> ?_)
 ·refine(IV (c:=i) a (S.rd 0) (S.c 0) (S.c 0) (S.c 4) (S.c 2) (S.c 1) (by omega) z y).mono ?_;rintro _ q ⟨rfl,rfl⟩;refine⟨_,_,rfl,?_⟩;refine ae (S.c 5) (ae (S.c 5) ?_);refine ck S 5 fun _ _ S=> ?_;refine ck S 5 fun _ _ S=> ?_;rw[al (n:=(i:Int)+1) (by omega)];refine⟨nv.bias.l-(i+1),by omega,i+1,rfl,by omega,rfl,?_⟩;have e:ez nv.nd l u (i+1)=(if(nv.nd.ends l u i).1<(ez nv.nd l u i).1 then(nv.nd.ends l u i).1 else(ez nv.nd l u i).1,if(nv.nd.ends l u i).2>(ez nv.nd l u i).2 then(nv.nd.ends l u i).2 else(ez nv.nd l u i).2):=by
   unfold ez;rw[XE,V7];rfl
  rw[e];exact S
 ·have E:i=nv.nd.bias.length:=by show i=nv.bias.xs.length;omega
  subst E;refine aL S 0 rfl (x:=nv.t) rfl (ae (S.c 5) (aL S 0 rfl (x:=nv.t) rfl (ae (S.c 5) ?_)));refine(Mo nv _).mono ?_;rintro _ q ⟨rfl,B⟩;replace S:=S.fra0 B;refine⟨_,rfl,aX (S.c 5) (da S 0 rfl rfl ?_)⟩;refine(Mo nv _).mono ?_;rintro _ N ⟨rfl,C⟩;replace S:=S.fra0 C;refine⟨_,rfl,aX (S.c 5) (da S 0 rfl rfl ?_)⟩;refine ck S 5 fun _ _ S=> ?_;refine da S 0 rfl rfl ?_;refine ck S 5 fun _ _ S=> ?_;refine ae (S.c 5) (ae (S.c 5) (ae (S.c 5) (ae (S.c 5) ?_)));exact iI (S.pw [3]) (dS nv.nd l u) (K:=fun v g=>v=(dS nv.nd l u).v∧cd no h g) fun r S=>⟨rfl,S.fra⟩
end
end
section
def dE(rs:List Rg):List Value:=(rs.map Rg.cells).flatten
theorem fZ(rs:List Rg):(dE rs).length=rs.length*4:=pT Rg.cells 4 (fun _=>rfl) rs
theorem IW{rs:List Rg}{i j:Nat}{x:Rg}(h:rs[i]? =some x)(a:j<4):(dE rs)[i*4+j]? =x.cells[j]? :=ve Rg.cells 4 (fun _=>rfl) rs i j x h a
def gc(n:Nd):Int×Int:=if dp n.kind then(n.left,n.right) else if n.kind=12 then(cP (n.size-1),0) else(0,0)
def Rg.zero:Rg:=⟨0,0,0,0⟩
def j6(b:Int)(rs:List Rg):Int:=rs.foldl (fun l r=>if r.lo<l then r.lo else l) b
def gd(b:Int)(rs:List Rg):Int:=rs.foldl (fun u r=>if r.hi>u then r.hi else u) b
def kg(f:Rg→Int)(rs:List Rg):Int:=rs.foldl (fun s r=>cP (s+f r)) 0
def i3(n:Nd)(w:Int)(rs:List Rg):Rg:=
 let l0:=j6 (rs.getD 0 .zero).lo rs
 let a:=gd (rs.getD 0 .zero).hi rs
 let l:=if cP ((gc n).1+(gc n).2)>0 then(if 0<l0 then 0 else l0) else l0
 let u:=if cP ((gc n).1+(gc n).2)>0 then(if 0>a then 0 else a) else a
 if gq n.kind then dS n l u else if n.kind=4∨n.kind=12 then⟨l,u,cP (n.size*l),cP (n.size*u)⟩
 else if n.kind=7 then⟨nj (rs.map Rg.lo),nj (rs.map Rg.hi),kg Rg.lo rs,kg Rg.hi rs⟩
 else if n.kind=9 then dN (dT l n.low n.high) (dT u n.low n.high)
 else if n.kind=10 then dN (dK l n.mult n.shift) (dK u n.mult n.shift)
 else if n.kind=11 then dN 0 (cP (w-1)) else dN l u
section
variable {h:ah}
theorem Ml(nv:Nv)(f:KT h):au P nV #[nv.v] h fun v d=>v= .tuple #[.int .i64 (gc nv.nd).1,.int .i64 (gc nv.nd).2]∧cd no h d:=by
 refine C1 _ ?_;have S:=(aG.start h no).read (aJ 0 (az bl)) f;refine aA (cs:=nv.cells) S fun b1 g _ S=> ?_;have e:gc nv.nd=if dp nv.kind then(nv.left,nv.right) else if nv.kind=12 then(cP (nv.size-1),0) else(0,0):=rfl
 rw[e];refine aL S 0 rfl (x:=nv.t) rfl ?_;refine(jE nv 1 (S.rd 0)).mono ?_;rintro _ _ ⟨rfl,F⟩;refine⟨_,rfl,?_⟩;replace S:=S.fra0 F;refine aq (fun a=> ?_) (fun a=> ?_)
 ·rw[Hk]at a;rw[if_pos a];exact ae (n:=nv.left) (S.c 0) (ae (n:=nv.right) (S.c 0) ⟨rfl,S.fra⟩)
 ·rw[Hk]at a;rw[if_neg a];refine aL S 0 rfl (x:=nv.t) rfl ?_;refine(jE nv 16 (S.rd 0)).mono ?_;rintro _ _ ⟨rfl,F⟩;refine⟨_,rfl,?_⟩;replace S:=S.fra0 F;refine aq (fun b=> ?_) (fun b=> ?_)
  ·rw[Mq]at b;rw[if_pos b];exact ae (n:=nv.size) (S.c 0) ⟨rfl,S.fra⟩
  ·rw[Mq]at b;rw[if_neg b];exact⟨rfl,S.fra⟩
theorem vf{a:Addr}{rs:List Rg}{i:Nat}{x:Rg}(r:bD h (some a) (dE rs))(e:rs[i]? =some x):aB h (a.add (i*4))=some (.int .i64 x.lo)∧aB h ((a.add (i*4)).add 1)=some (.int .i64 x.hi)∧aB h ((a.add (i*4)).add 2)=some (.int .i64 x.alo)∧aB h ((a.add (i*4)).add 3)=some (.int .i64 x.ahi):=by
 refine⟨r.cell (i:=i*4) (by have:=IW e (j:=0) (by omega);rw[We]at this;rw[this];rfl),?_,?_,?_⟩
 all_goals
  rw[mh _ _ (by decide)];refine r.cell ?_;rw[IW e (by omega)];rfl
abbrev PP:=Option Addr×Nat×Nat
def Mm(h:ah)(nv:Nv)(w:Int)(b1 b3 b9:Nat)(p:Option Addr)(l c:Nat)(rs:List Rg)(f:Nat)(s:Int×Addr×Addr×Int×Int×PP×PP×Addr×PP×Int×Int×Unit)(g:ah):Prop:=
 ∃(i:Nat)(d e:Option Addr)(a b:Nat),s=(w,⟨b1,0,none⟩,⟨b3,0,none⟩,j6 (rs.getD 0 .zero).lo (rs.take i),gd (rs.getD 0 .zero).hi (rs.take i),(d,i,a),(e,i,b),⟨b9,0,none⟩,(p,l,c),(l:Int),(i:Int),())∧i≤l∧f=l-i∧
  aG h no g [aJ b3 Rg.zero.cells,aJ b1 nv.cells,aJ b9 [.int .i64 0,.int .i64 0,.int .i64 (kg Rg.lo (rs.take i)),.int .i64 (kg Rg.hi (rs.take i))],own 1 d i a (az ((rs.take i).map Rg.lo)),own 1 e i b (az ((rs.take i).map Rg.hi))] [aJ 0 (az bl),nv.rows,row p (dE rs)]
theorem kJ{rs:List Rg}{i:Nat}(hi:i<rs.length)(f:Rg→Int):az ((rs.take i).map f)++az [f rs[i]]=az ((rs.take (i+1)).map f):=by
 rw[gD hi,V2];unfold az;rw[V2];rfl
theorem Lg{nv:Nv}(ao:nv.ok)(hw:nv.weights.l<2 ^ 40)(hb:nv.bias.l<2 ^ 40)(ar:gq nv.kind→1≤nv.bias.l){p:Option Addr}{l c:Nat}{rs:List Rg}(hl:rs.length=l)(a8:1≤l)(a9:l<2 ^ 40)(w:Int){b1 b3 b9 mm:Nat}{s}{g:ah}(I:Mm h nv w b1 b3 b9 p l c rs mm s g):
 vZ (fun v d=>v=(i3 nv.nd w rs).v∧cd no h d) (fun s' d=> ∃m,m<mm∧Mm h nv w b1 b3 b9 p l c rs m s' d) s.1 s.2.1 s.2.2.1 s.2.2.2.1 s.2.2.2.2.1 s.2.2.2.2.2.1.1 s.2.2.2.2.2.1.2.1 s.2.2.2.2.2.1.2.2 s.2.2.2.2.2.2.1.1 s.2.2.2.2.2.2.1.2.1 s.2.2.2.2.2.2.1.2.2 s.2.2.2.2.2.2.2.1 s.2.2.2.2.2.2.2.2.1.1 s.2.2.2.2.2.2.2.2.1.2.1 s.2.2.2.2.2.2.2.2.1.2.2 s.2.2.2.2.2.2.2.2.2.1 s.2.2.2.2.2.2.2.2.2.2.1 g:=by
 obtain⟨i,p1,p2,c1,c2,rfl,hi,rfl,S⟩:=I;simp only[aR,SN];refine aq (fun ab=> ?_) (fun a7=> ?_)
 ·have ab:i<l:=by omega
  have b:i<rs.length:=by omega
  obtain⟨a,ea⟩:=(S.ro 2).some_of (by rw[fZ];omega);have D:=S.ro 2;rw[ea]at D;obtain⟨k0,k1,k2,k3⟩:=vf D (bo b);refine aC ea (k:=i) rfl ab ?_;refine ae k0 (ae k1 (ae k2 (ae k3 ?_)));refine aA S (fun B Z _ S=> ?_);refine ck S 5 fun _ _ S=> ?_;refine ck S 5 fun _ _ S=> ?_;refine ck S 5 fun _ _ S=> ?_;refine ck S 5 fun g3 _ S=> ?_;refine ae (S.c 5) (ae (S.c 5) (ae (S.c 5) (ae (S.c 5) ?_)));obtain⟨x,ex⟩: ∃x,rs[i]=x:=⟨_,rfl⟩;rw[ex]at S ⊢;have C:=kJ b Rg.lo;have eH:=kJ b Rg.hi;rw[ex]at C eH
  have M: ∀{e:ah}{V X:Option Addr}{m1 T E G:Nat},m1=i+1→T=i+1→aG h no e [aJ b3 Rg.zero.cells,aJ b1 nv.cells,aJ b9 [.int .i64 0,.int .i64 0,.int .i64 (kg Rg.lo (rs.take i)),.int .i64 (kg Rg.hi (rs.take i))],own 1 V m1 E (az ((rs.take i).map Rg.lo)++az [x.lo]),own 1 X T G (az ((rs.take i).map Rg.hi)++az [x.hi]),aJ B [.int .i64 x.lo,.int .i64 x.hi,.int .i64 x.alo,.int .i64 x.ahi]] [aJ 0 (az bl),nv.rows,row p (dE rs)]→
   af .i64 e ⟨b9,2,none⟩ fun aw=>af .i64 e ⟨B,0,none⟩ fun ax=>af .i64 e ⟨b9,3,none⟩ fun ay=>af .i64 e ⟨B,1,none⟩ fun ag=>aQ e ⟨b9,2,none⟩ (.int .i64 (kn .i64 (aw+ax))) fun aa=>aB aa ⟨B,1,none⟩=some (.int .i64 ag)∧aQ aa ⟨b9,3,none⟩ (.int .i64 (kn .i64 (ay+ag))) fun aj=>
    ∃m,m<l-i∧Mm h nv w b1 b3 b9 p l c rs m (w,⟨b1,0,none⟩,⟨b3,0,none⟩,(if x.lo<j6 (rs.getD 0 .zero).lo (rs.take i) then x.lo else j6 (rs.getD 0 .zero).lo (rs.take i)),(if x.hi>gd (rs.getD 0 .zero).hi (rs.take i) then x.hi else gd (rs.getD 0 .zero).hi (rs.take i)),(V,m1,E),(X,T,G),⟨b9,0,none⟩,(p,l,c),(l:Int),kn .i64 ((i:Int)+1),()) aj:=by
   intro e V X m1 T E G H J S;subst H J;refine ae (S.c 2) (ae (S.c 5) (ae (S.c 2) (ae (S.c 5) ?_)));refine ck S 2 fun _ _ S=> ?_;refine aX (S.c 5) ?_;refine ck S 2 fun _ _ S=> ?_;rw[al (n:=(i:Int)+1) (by omega)];refine⟨l-(i+1),by omega,i+1,V,X,E,G,?_,by omega,rfl,?_⟩
   ·unfold j6 gd;rw[gD b,V7,V7,ex];rfl
   ·have s1:kg Rg.lo (rs.take (i+1))=kn .i64 (kg Rg.lo (rs.take i)+x.lo):=by unfold kg;rw[gD b,V7,ex];rfl
    have s2:kg Rg.hi (rs.take (i+1))=kn .i64 (kg Rg.hi (rs.take i)+x.hi):=by unfold kg;rw[gD b,V7,ex];rfl
    rw[s1,s2,←C,←eH];exact S.pw [0,1,2,3,4]
  have one: ∀{y:Int},∀z∈az [y],ib z=true:=fun z hz=>by simp only[az,Wc,WZ,VK]at hz;subst hz;rfl
  refine⟨?_,?_⟩
  ·refine aA (cs:=az [x.lo]) S (fun a2 e _ S=> ?_);refine⟨?_,?_⟩
   ·refine cI S 3 (ys:=az [x.lo]) rfl rfl (by decide) (by omega) (bD.of_at (S.ap 6)) rfl one fun V m1 E g5 H S=> ?_;refine aX (S.c 5) (aX (S.c 5) ?_);refine aA (cs:=az [x.hi]) S (fun a3 g6 _ S=> ?_);refine cI S 4 (ys:=az [x.hi]) rfl rfl (by decide) (by omega) (bD.of_at (S.ap 7)) rfl one fun X T G g7 J S=> ?_;exact aX (S.c 5) (aX (S.c 5) (M H J (S.pw [0,1,2,3,4,5])))
   ·refine aA (cs:=az [x.hi]) S (fun a4 g6 _ S=> ?_);refine cI S 3 (ys:=az [x.lo]) rfl rfl (by decide) (by omega) (bD.of_at (S.ap 6)) rfl one fun V m1 E g5 H S=> ?_;refine aX (S.c 5) (aX (S.c 5) ?_);refine cI S 4 (ys:=az [x.hi]) rfl rfl (by decide) (by omega) (bD.of_at (S.ap 7)) rfl one fun X T G g7 J S=> ?_;exact aX (S.c 5) (aX (S.c 5) (M H J (S.pw [0,1,2,3,4,5])))
  ·refine aA (cs:=az [x.hi]) S (fun a5 e _ S=> ?_);refine aA (cs:=az [x.lo]) S (fun a6 g6 _ S=> ?_);refine cI S 3 (ys:=az [x.lo]) rfl rfl (by decide) (by omega) (bD.of_at (S.ap 7)) rfl one fun V m1 E g5 H S=> ?_;refine aX (S.c 5) (aX (S.c 5) ?_);refine cI S 4 (ys:=az [x.hi]) rfl rfl (by decide) (by omega) (bD.of_at (S.ap 6)) rfl one fun X T G g7 J S=> ?_;exact aX (S.c 5) (aX (S.c 5) (M H J (S.pw [0,1,2,3,4,5])))
 ·have ei:i=l:=by omega
  subst ei;rw[py (by omega)]at S ⊢;refine aL S 1 rfl (x:=nv.t) rfl ?_;refine(Ml nv (S.rd 0)).mono ?_;rintro _ Z ⟨rfl,F⟩;replace S:=S.fra0 F;refine⟨_,_,rfl,?_⟩;obtain⟨L,C⟩: ∃L,(if cP ((gc nv.nd).1+(gc nv.nd).2)>0 then(if 0<j6 (rs.getD 0 .zero).lo rs then 0 else j6 (rs.getD 0 .zero).lo rs) else j6 (rs.getD 0 .zero).lo rs)=L:=⟨_,rfl⟩;obtain⟨U,eU⟩: ∃U,(if cP ((gc nv.nd).1+(gc nv.nd).2)>0 then(if 0>gd (rs.getD 0 .zero).hi rs then 0 else gd (rs.getD 0 .zero).hi rs) else gd (rs.getD 0 .zero).hi rs)=U:=⟨_,rfl⟩
  have eN:i3 nv.nd w rs=if gq nv.kind then dS nv.nd L U else if nv.kind=4∨nv.kind=12 then⟨L,U,cP (nv.size*L),cP (nv.size*U)⟩ else if nv.kind=7 then⟨nj (rs.map Rg.lo),nj (rs.map Rg.hi),kg Rg.lo rs,kg Rg.hi rs⟩
   else if nv.kind=9 then dN (dT L nv.low nv.high) (dT U nv.low nv.high) else if nv.kind=10 then dN (dK L nv.mult nv.shift) (dK U nv.mult nv.shift) else if nv.kind=11 then dN 0 (cP (w-1)) else dN L U:=by
   rw[←C,←eU];rfl
  refine⟨fun s g=>s=(w,⟨b1,0,none⟩,⟨b3,0,none⟩,L,U,(p1,i,c1),(p2,i,c2),⟨b9,0,none⟩,())∧aG h no g [aJ b3 Rg.zero.cells,aJ b1 nv.cells,aJ b9 [.int .i64 0,.int .i64 0,.int .i64 (kg Rg.lo rs),.int .i64 (kg Rg.hi rs)],own 1 p1 i c1 (az (rs.map Rg.lo)),own 1 p2 i c2 (az (rs.map Rg.hi))] [aJ 0 (az bl),nv.rows,row p (dE rs)],?_,?_⟩
  ·rw[eN];rintro s g ⟨rfl,S⟩;simp only[aR,SN];have kd:aB g ⟨b1,0,none⟩=some (.int .i64 nv.kind):=S.c 1
   have Y:gq nv.kind→aT A1 g ⟨b1,0,none⟩ fun a1=>au P fF #[(bA A1 a1),(.int .i64 L),(.int .i64 U)] g fun a0 an=> ∃j q r A:Int,a0=(.agg #[(.int .i64 j),(.int .i64 q),(.int .i64 r),(.int .i64 A)])∧
    aQ an ⟨b3,0,none⟩ (.int .i64 j) fun h1=>aQ h1 ⟨b3,1,none⟩ (.int .i64 q) fun h2=>aQ h2 ⟨b3,2,none⟩ (.int .i64 r) fun h3=>aQ h3 ⟨b3,3,none⟩ (.int .i64 A) fun f=>
    af .i64 f ⟨b3,0,none⟩ fun n0=>af .i64 f ⟨b3,1,none⟩ fun n1=>af .i64 f ⟨b3,2,none⟩ fun n2=>af .i64 f ⟨b3,3,none⟩ fun n3=>Value.agg #[.int .i64 n0,.int .i64 n1,.int .i64 n2,.int .i64 n3]=(dS nv.nd L U).v∧cd no h f:=by
    intro hk;refine aL S 1 rfl (x:=nv.t) rfl ?_;refine(Lf ao (S.rd 1) hw hb (ar hk) L U).mono ?_;rintro _ Z ⟨rfl,F⟩;replace S:=S.fra0 F;exact⟨_,_,_,_,rfl,iI S (dS nv.nd L U) (K:=fun v g=>v=(dS nv.nd L U).v∧cd no h g) fun d S=>⟨rfl,S.fra⟩⟩
   have ai: ∀{l u:Int}{g:ah},aG h no g [aJ b3 Rg.zero.cells,aJ b1 nv.cells,aJ b9 [.int .i64 0,.int .i64 0,.int .i64 (kg Rg.lo rs),.int .i64 (kg Rg.hi rs)],own 1 p1 i c1 (az (rs.map Rg.lo)),own 1 p2 i c2 (az (rs.map Rg.hi))] [aJ 0 (az bl),nv.rows,row p (dE rs)]→
    au P fQ #[.int .i64 l,.int .i64 u] g fun v d=> ∃j q r A:Int,v=(.agg #[(.int .i64 j),(.int .i64 q),(.int .i64 r),(.int .i64 A)])∧
    aQ d ⟨b3,0,none⟩ (.int .i64 j) fun h1=>aQ h1 ⟨b3,1,none⟩ (.int .i64 q) fun h2=>aQ h2 ⟨b3,2,none⟩ (.int .i64 r) fun h3=>aQ h3 ⟨b3,3,none⟩ (.int .i64 A) fun f=>
    af .i64 f ⟨b3,0,none⟩ fun n0=>af .i64 f ⟨b3,1,none⟩ fun n1=>af .i64 f ⟨b3,2,none⟩ fun n2=>af .i64 f ⟨b3,3,none⟩ fun n3=>Value.agg #[.int .i64 n0,.int .i64 n1,.int .i64 n2,.int .i64 n3]=(dN l u).v∧cd no h f:=by
    intro l u g S;refine(yi l u).mono ?_;rintro _ Z ⟨rfl,F⟩;replace S:=S.fra0 F;exact⟨_,_,_,_,rfl,iI S (dN l u) (K:=fun v g=>v=(dN l u).v∧cd no h g) fun d S=>⟨rfl,S.fra⟩⟩
   refine ae kd (aH (fun k1=> ?_) (fun k1=>aH (fun k2=> ?_) (fun k2=>aH (fun k6=> ?_) (fun k6=> ?_))))
   ·rw[if_pos (.inl k1)];exact Y (.inl k1)
   ·rw[if_pos (.inr (.inl k2))];exact Y (.inr (.inl k2))
   ·rw[if_pos (.inr (.inr k6))];exact Y (.inr (.inr k6))
   rw[if_neg (by rintro(h|h|h)<;>omega)];refine aH (fun k4=> ?_) (fun k4=>aH (fun ad=> ?_) (fun ad=> ?_))
   ·rw[if_pos (.inl k4)];refine ae (n:=nv.size) (S.c 1) (ae (n:=nv.size) (S.c 1) ?_);exact iI S ⟨L,U,cP (nv.size*L),cP (nv.size*U)⟩ (K:=fun v g=>v=(⟨L,U,cP (nv.size*L),cP (nv.size*U)⟩:Rg).v∧cd no h g) fun d S=>⟨rfl,S.fra⟩
   ·rw[if_pos (.inr ad)];refine ae (n:=nv.size) (S.c 1) (ae (n:=nv.size) (S.c 1) ?_);exact iI S ⟨L,U,cP (nv.size*L),cP (nv.size*U)⟩ (K:=fun v g=>v=(⟨L,U,cP (nv.size*L),cP (nv.size*U)⟩:Rg).v∧cd no h g) fun d S=>⟨rfl,S.fra⟩
   rw[if_neg (by rintro(h|h)<;>omega)];refine aH (fun k7=> ?_) (fun k7=> ?_)
   ·rw[if_pos k7];refine(PS (S.ow 3).row (by rw[Ug];exact hl) (by omega)).mono ?_;rintro _ Z ⟨rfl,F⟩;replace S:=S.fra0 F;refine⟨_,rfl,?_⟩;refine(PS (S.ow 4).row (by rw[Ug];exact hl) (by omega)).mono ?_;rintro _ g3 ⟨rfl,F⟩;replace S:=S.fra0 F;refine⟨_,rfl,?_⟩;refine ck S 2 fun _ _ S=> ?_;refine ck S 2 fun _ _ S=> ?_;refine ae (S.c 2) (ae (S.c 2) (ae (S.c 2) (ae (S.c 2) ?_)));exact iI S ⟨nj (rs.map Rg.lo),nj (rs.map Rg.hi),kg Rg.lo rs,kg Rg.hi rs⟩ (K:=fun v g=>v=(⟨nj (rs.map Rg.lo),nj (rs.map Rg.hi),kg Rg.lo rs,kg Rg.hi rs⟩:Rg).v∧cd no h g) fun d S=>⟨rfl,S.fra⟩
   rw[if_neg k7];refine aH (fun k9=> ?_) (fun k9=> ?_)
   ·rw[if_pos k9];refine ae (n:=nv.low) (S.c 1) (ae (n:=nv.high) (S.c 1) (ae (n:=nv.low) (S.c 1) (ae (n:=nv.high) (S.c 1) ?_)));refine(uE _ _ _).mono ?_;rintro _ Z ⟨rfl,rfl⟩;refine⟨_,rfl,aX (S.c 1) (aX (S.c 1) ?_)⟩;refine(uE _ _ _).mono ?_;rintro _ g3 ⟨rfl,rfl⟩;refine⟨_,rfl,aX (S.c 1) (aX (S.c 1) ?_)⟩;refine(yi _ _).mono ?_;rintro _ e ⟨rfl,F⟩;replace S:=S.fra0 F;refine⟨_,_,_,_,rfl,aX (S.c 1) (aX (S.c 1) (aX (S.c 1) (aX (S.c 1) ?_)))⟩;exact iI S (dN (dT L nv.low nv.high) (dT U nv.low nv.high)) (K:=fun v g=>v=(dN (dT L nv.low nv.high) (dT U nv.low nv.high)).v∧cd no h g) fun d S=>⟨rfl,S.fra⟩
   rw[if_neg k9];refine aH (fun N=> ?_) (fun N=> ?_)
   ·rw[if_pos N];refine ae (n:=nv.mult) (S.c 1) (ae (n:=nv.shift) (S.c 1) (ae (n:=nv.mult) (S.c 1) (ae (n:=nv.shift) (S.c 1) ?_)));refine(DE _ _ _).mono ?_;rintro _ Z ⟨rfl,F⟩;replace S:=S.fra0 F;refine⟨_,rfl,aX (S.c 1) (aX (S.c 1) ?_)⟩;refine(DE _ _ _).mono ?_;rintro _ g3 ⟨rfl,F⟩;replace S:=S.fra0 F;refine⟨_,rfl,aX (S.c 1) (aX (S.c 1) ?_)⟩;refine(yi _ _).mono ?_;rintro _ e ⟨rfl,F⟩;replace S:=S.fra0 F;refine⟨_,_,_,_,rfl,aX (S.c 1) (aX (S.c 1) (aX (S.c 1) (aX (S.c 1) ?_)))⟩;exact iI S (dN (dK L nv.mult nv.shift) (dK U nv.mult nv.shift)) (K:=fun v g=>v=(dN (dK L nv.mult nv.shift) (dK U nv.mult nv.shift)).v∧cd no h g) fun d S=>⟨rfl,S.fra⟩
   rw[if_neg N];refine aH (fun O=> ?_) (fun O=> ?_)
   ·rw[if_pos O];exact ai S
   ·rw[if_neg O];exact ai S
  ·refine aq (fun hp=> ?_) (fun hp=> ?_)
   ·rw[if_pos hp]at C eU;rw[C,eU];exact⟨rfl,S⟩
   ·rw[if_neg hp]at C eU;rw[C,eU];exact⟨rfl,S⟩
theorem Rx{nv:Nv}(f:nv.ok)(y:nv.rows.P h)(t:KT h)(z:nv.weights.l<2 ^ 40)(u:nv.bias.l<2 ^ 40)(j:gq nv.kind→1≤nv.bias.l){p:Option Addr}{l c:Nat}{rs:List Rg}(A:bD h p (dE rs))(x:rs.length=l)(d:1≤l)(e:l<2 ^ 40)(w:Int):
 au P qu #[nv.v,.int .i64 w,.slice p l c] h fun v r=>v=(i3 nv.nd w rs).v∧cd no h r:=by
 refine BU _ _ _ _ _ ?_;have S:=(((aG.start h no).read (aJ 0 (az bl)) t).read nv.rows y).read (row p (dE rs)) A;refine aA (cs:=nv.cells) S (fun b1 _ _ S=> ?_);refine aA (cs:=Rg.zero.cells) S (fun n D _ S=> ?_);obtain⟨a,ea⟩:=(S.ro 2).some_of (by rw[fZ];omega);have b:=S.ro 2;rw[ea]at b;obtain⟨B,C,F,G⟩:=vf (i:=0) b (bo (by omega));refine aC ea (k:=0) rfl (by omega) (aC ea (k:=0) rfl (by omega) ?_);refine ae B (ae C ?_);refine aA S (fun b9 E _ S=> ?_);refine ck S 2 fun _ _ S=> ?_;refine ck S 2 fun _ _ S=> ?_;refine ck S 2 fun _ _ S=> ?_;refine ck S 2 fun _ _ S=> ?_;have m:=((S.pw [1,0,2]).nil 1).nil 1;have q:rs.getD 0 .zero=rs[0]:=by rw[VT,bo (by omega)];rfl
 refine aO (Mm h nv w b1 n b9 p l c rs) l ⟨0,none,none,0,0,by rw[q];rfl,by omega,rfl,m⟩ ?_;intro H s g I;exact Lg f z u j x d e w I
end
end
section
def Mn:List Value→Nat→List Value→List Value
 |xs,_,[]=>xs
 |xs,k,v::r=>Mn (xs.set k v) (k+1) r
theorem FR: ∀(a xs:List Value)(k j:Nat),(Mn xs k a)[j]? =if k≤j∧j<k+a.length∧j<xs.length then a[j-k]? else xs[j]?
 |[],xs,k,j=>by rw[if_neg (by simp only[V9];omega)];rfl
 |v::r,xs,k,j=>by
  have e:=FR r (xs.set k v) (k+1) j;show(Mn (xs.set k v) (k+1) r)[j]? =_;rw[e,VU];by_cases b:k+1≤j∧j<k+1+r.length∧j<xs.length
  ·rw[if_pos b,if_pos (by simp only[VS];omega)];have:j-k=(j-(k+1))+1:=by omega
   rw[this,List.getElem?_cons_succ]
  ·rw[if_neg b];by_cases c:j=k
   ·subst c;by_cases d:j<xs.length
    ·rw[if_pos (by simp only[VS];omega),V4 d,WD];rfl
    ·rw[if_neg (fun h=>d h.2.2),V3 (by rw[VU];omega),V3 (by omega)]
   ·rw[if_neg (by simp only[VS];omega),Wv (fun h=>c h.symm)]
theorem DB{α:Type}(f:α→List Value)(c:Nat)(b: ∀x,(f x).length=c)(h0:0<c){l:List α}{i:Nat}(x:α)(hi:i<l.length):Mn (l.map f).flatten (i*c) (f x)=((l.set i x).map f).flatten:=by
 apply Wk;intro j;rw[FR,b];have u:=pT f c b l;have g:=pT f c b (l.set i x);rw[VU]at g;have e:j=(j / c)*c+j % c:=by rw[Nat.mul_comm];exact(Nat.div_add_mod j c).symm
 have m:j % c<c:=Nat.mod_lt _ h0;have r:i*c+c≤l.length*c:=by have:=Wu c (show i+1≤l.length from hi);rw[Wr,XK]at this;exact this
 by_cases k:j / c<l.length
 ·obtain⟨y,a⟩: ∃y,(l.set i x)[j / c]? =some y:=⟨_,bo (by rw[VU];exact k)⟩;have p:=ve f c b (l.set i x) (j / c) (j % c) y a m;rw[←e]at p;rw[p];by_cases d:j / c=i
  ·have:y=x:=by rw[←d,V4 k]at a;exact(Option.some.inj a).symm
   subst this;have s:j=i*c+j % c:=by rw[←d];exact e
   rw[if_pos ⟨by omega,by omega,by omega⟩];congr 1;omega
  ·rw[Wv (fun h=>d h.symm)]at a;have n:=ve f c b l (j / c) (j % c) y a m;rw[←e]at n;rw[if_neg,n];rintro⟨q,t,_⟩;have:j / c=i:=Nat.div_eq_of_lt_le q (by rw[Wr,XK];omega);exact d this
 ·have s:l.length*c≤j:=by
   have:=Wu c (show l.length≤j / c by omega);omega
  rw[if_neg (by omega),V3 (by omega),V3 (by omega)]
theorem pV{rs:List Rg}{i:Nat}(hi:i<rs.length)(x:Rg):(((((dE rs).set (i*4) (.int .i64 x.lo)).set (i*4+1) (.int .i64 x.hi)).set (i*4+2) (.int .i64 x.alo)).set (i*4+3) (.int .i64 x.ahi))=dE (rs.set i x):=
 DB Rg.cells 4 (fun _=>rfl) (by decide) x hi
theorem zR: ∀n,(List.replicate n Rg.zero.cells).flatten=dE (List.replicate n .zero)
 |n=>by unfold dE;rw[List.map_replicate]
def gx(ns:List Nd)(W:Int→Int):List Int→List Rg→Option (List Rg)
 |[],o=>some o
 |i::r,o=>
  match ns[i.toNat-1]? with
  |none=>some o
  |some n=>
   if(i3 n (W (n.inn.getD 0 0)) (n.inn.map fun k=>o.getD k.toNat .zero)).alo< -68719476736∨(i3 n (W (n.inn.getD 0 0)) (n.inn.map fun k=>o.getD k.toNat .zero)).ahi>68719476736 then none
   else gx ns W r (o.set i.toNat (i3 n (W (n.inn.getD 0 0)) (n.inn.map fun k=>o.getD k.toNat .zero)))
theorem yj{ns:List Nd}{W:Int→Int}{i:Int}{r:List Int}{o:List Rg}{n:Nd}(e:ns[i.toNat-1]? =some n):gx ns W (i::r) o=
 if(i3 n (W (n.inn.getD 0 0)) (n.inn.map fun k=>o.getD k.toNat Rg.zero)).alo< -68719476736∨(i3 n (W (n.inn.getD 0 0)) (n.inn.map fun k=>o.getD k.toNat Rg.zero)).ahi>68719476736 then none
 else gx ns W r (o.set i.toNat (i3 n (W (n.inn.getD 0 0)) (n.inn.map fun k=>o.getD k.toNat Rg.zero))):=by rw[gx,e]
def Gr.ranges(g:Gr)(W:Int→Int):Option (List Rg):=gx g.nodes W (bK g.nodes) (dN g.low g.high::List.replicate g.nodes.length .zero)
def Gv.sizes(gv:Gv):Prop:=gv.l<2 ^ 20∧ ∀n∈gv.ns,n.inn.l<2 ^ 20∧n.weights.l<2 ^ 40∧n.bias.l<2 ^ 40
section
variable {h:ah} {gv:Gv} {W R:Int→Int} {pos:Int→Nat}
theorem DC(a:gv.ok)(e:bD h gv.p (aD gv.ns))(f:(aM gv.ns).P h)(b:gv.sizes)(c:KT h):au P gN #[gv.v] h (yz gv.gr.look h):=
 ME a e f b.1 (fun n d=>by have:=b.2 n d;omega) c
def Tl(xs:List Int)(h:ah)(v:Value)(a:ah):Prop:= ∃q:Sl,v=q.v∧q.ok∧q.xs=xs∧aG h no a [own 1 q.p q.l q.c (az q.xs)] []
theorem zS(a:gv.ok)(i:bD h gv.p (aD gv.ns))(j:(aM gv.ns).P h)(k:gv.sizes)(g:KT h):au P gy #[gv.v] h (Tl gv.gr.look.widths h):=by
 refine xM _ ?_;have S:=(((aG.start h no).read (aJ 0 (az bl)) g).read (row gv.p (aD gv.ns)) i).read (aM gv.ns) j;refine aA (cs:=gv.cells) S fun b1 m _ S=> ?_;refine aL S 0 rfl (x:=gv.t) rfl ?_;refine(DC a (S.ro 1) (S.rd 2) k (S.rd 0)).mono ?_;rintro _ l ⟨o,w,r,rfl,_,f,_,_,b,_,d⟩;replace S:=S.add d fun _ _ h=>h;refine⟨_,_,_,_,_,_,_,_,_,_,rfl,?_⟩;refine aA (cs:=[.slice none 0 0,.slice none 0 0,.slice none 0 0]) S fun e _ _ S=> ?_;refine ck S 4 fun _ _ S=> ?_;refine ck S 4 fun _ _ S=> ?_;refine ck S 4 fun _ _ S=> ?_;exact ak (S.c 4) ⟨w,rfl,b,f,yy (S.pw [2])⟩
theorem DD(a:gv.ok)(i:bD h gv.p (aD gv.ns))(j:(aM gv.ns).P h)(k:gv.sizes)(g:KT h):au P jf #[gv.v] h (Tl gv.gr.look.order h):=by
 refine zo _ ?_;have S:=(((aG.start h no).read (aJ 0 (az bl)) g).read (row gv.p (aD gv.ns)) i).read (aM gv.ns) j;refine aA (cs:=gv.cells) S fun b1 m _ S=> ?_;refine aL S 0 rfl (x:=gv.t) rfl ?_;refine(DC a (S.ro 1) (S.rd 2) k (S.rd 0)).mono ?_;rintro _ l ⟨o,w,r,rfl,f,_,_,b,_,_,d⟩;replace S:=S.add d fun _ _ h=>h;refine⟨_,_,_,_,_,_,_,_,_,_,rfl,?_⟩;refine aA (cs:=[.slice none 0 0,.slice none 0 0,.slice none 0 0]) S fun e _ _ S=> ?_;refine ck S 4 fun _ _ S=> ?_;refine ck S 4 fun _ _ S=> ?_;refine ck S 4 fun _ _ S=> ?_;exact ak (S.c 4) ⟨o,rfl,b,f,yy (S.pw [1])⟩
theorem IX(a:gv.ok)(i:bD h gv.p (aD gv.ns))(j:(aM gv.ns).P h)(k:gv.sizes)(g:KT h):au P kB #[gv.v] h (Tl gv.gr.look.rates h):=by
 refine zv _ ?_;have S:=(((aG.start h no).read (aJ 0 (az bl)) g).read (row gv.p (aD gv.ns)) i).read (aM gv.ns) j;refine aA (cs:=gv.cells) S fun b1 m _ S=> ?_;refine aL S 0 rfl (x:=gv.t) rfl ?_;refine(DC a (S.ro 1) (S.rd 2) k (S.rd 0)).mono ?_;rintro _ l ⟨o,w,r,rfl,_,_,f,_,_,b,d⟩;replace S:=S.add d fun _ _ h=>h;refine⟨_,_,_,_,_,_,_,_,_,_,rfl,?_⟩;refine aA (cs:=[.slice none 0 0,.slice none 0 0,.slice none 0 0]) S fun e _ _ S=> ?_;refine ck S 4 fun _ _ S=> ?_;refine ck S 4 fun _ _ S=> ?_;refine ck S 4 fun _ _ S=> ?_;exact ak (S.c 4) ⟨r,rfl,b,f,yy (S.pw [3])⟩
end
end
section
theorem uC{α:Type}{A:List α}{z x:α}{n j:Nat}(a:A.length=j)(b:j<n):(A++List.replicate (n-j) z).set j x=(A++[x])++List.replicate (n-(j+1)) z:=by
 rw[show n-j=(n-(j+1))+1 by omega,Wp,List.set_append,if_neg (by omega),a,WD,WW,VY];rfl
theorem pd{α β:Type}(f:α→β){l:List α}{j:Nat}(a:j<l.length):(l.take (j+1)).map f=(l.take j).map f++[f l[j]]:=by
 rw[gD a,V2];rfl
theorem bW.node{g:Gr}{W R:Int→Int}{pos:Int→Nat}(r:bW g W R pos){i:Nat}{n:Nd}(e:g.nodes[i]? =some n):1≤n.inn.length∧n.inn.length≤4∧(gq n.kind→1≤n.bias.length)∧dB n.kind 1 12∧ ∀j∈n.inn,0≤j∧j≤(g.nodes.length:Int):=by
 have c:=fD (r.chk i n e);simp only[Ug]at c;obtain⟨l,m,_,p,_,q,t,_,_,a,_⟩:=c;refine⟨m,?_,?_,p,fun j u=>(bX r.first).2.2.2.2.2 n (VL e) j u⟩
 ·by_cases b:dm n.kind
  ·exact(q b).2
  ·rw[t b];decide
 ·intro f;have s:=a.2.2.2.1 f;have v:1≤(n.inn.map W).getD 0 0:=by
   have b:(n.inn.map W).getD 0 0∈n.inn.map W:=by
    rw[VT,bo (by rw[Ug];omega)];exact VN _
   exact(l _ b).1
  have k:=s.2.1;by_cases d:n.kind=2
  ·rw[if_pos d]at k;omega
  ·rw[if_neg d]at k;have:=a.2.2.1 (by rcases f with h|h|h;exact .inl h;exact absurd h d;exact .inr h);omega
section
variable {h:ah} {gv:Gv} {W R:Int→Int} {pos:Int→Nat} {b1 b9:Nat} {o w:Sl} {Q:Value→ah→Prop} {K1:(Addr×PP×PP×PP×Int×Int×Unit)→ah→Prop}
theorem Hh(aa:gv.ok)(hs:gv.sizes)(rt:bW gv.gr W R pos)(eo:o.xs=bK gv.gr.nodes)(a3:o.ok)(ew:w.xs=(List.range (gv.gr.nodes.length+1)).map fun x:Nat=>W x)(aj:w.ok)
 {k:Nat} (hk:k<gv.l) {os:List Rg} (ab:os.length=gv.l+1) {g:ah}
 (S:aG h no g [aJ b1 gv.cells,own 1 w.p w.l w.c (az w.xs),aJ b9 (dE os),own 1 o.p o.l o.c (az o.xs)] [aJ 0 (az bl),row gv.p (aD gv.ns),aM gv.ns])
 (H: ∀g' os',os'.length=gv.l+1→gx gv.gr.nodes W (o.xs.drop k) os=gx gv.gr.nodes W (o.xs.drop (k+1)) os'→
  aG h no g' [aJ b1 gv.cells,own 1 w.p w.l w.c (az w.xs),aJ b9 (dE os'),own 1 o.p o.l o.c (az o.xs)] [aJ 0 (az bl),row gv.p (aD gv.ns),aM gv.ns]→
  K1 (⟨b1,0,none⟩,(w.p,w.l,w.c),(some ⟨b9,0,none⟩,gv.l+1,gv.l+1),(o.p,o.l,o.c),(o.l:Int),((k+1:Nat):Int),()) g')
 (HE: ∀g',cd no h g'→gx gv.gr.nodes W (o.xs.drop k) os=none→Q (.tuple #[.slice none 0 0,.int .i64 16]) g'):
 lB Q K1 ⟨b1,0,none⟩ w.p w.l w.c (some ⟨b9,0,none⟩) (gv.l+1) (gv.l+1) o.p o.l o.c (o.l:Int) (k:Int) g:=by
 have ax:=aa.1;have m:gv.gr.nodes.length=gv.l:=by rw[←ax];simp[Gv.gr]
 have f:=bX rt.first;have G:=rt.ordered;have B:k<o.xs.length:=by rw[eo,G,m];exact hk
 have a5:o.l=gv.l:=by rw[←a3.1,eo,G,m]
 have a6:w.l=gv.l+1:=by rw[←aj.1,ew,Ug,WT,m]
 have ag:=ft gv.gr.nodes gv.gr.nodes.length o.xs[k] (by rw[eo]at B;simp only[eo];exact VN B);obtain⟨i,ex⟩: ∃i:Nat,o.xs[k]=(i:Int)+1:=⟨(o.xs[k]-1).toNat,by have:=ag.1;omega⟩;rw[ex,m]at ag;have ay:i<gv.l:=by omega
 obtain⟨b,en⟩: ∃n,gv.ns[i]? =some n:=⟨_,bo (by omega)⟩;have z:=VL en;have O:=aa.2.2 b z;have ad:=hs.2 b z;have ilen:b.inn.xs.length=b.inn.l:=O.1.1;have E:gv.gr.nodes[i]? =some b.nd:=by show(gv.ns.map Nv.nd)[i]? =_;rw[VP,en];rfl
 obtain⟨n1,n4,a2,a7,I⟩:=rt.node E;have a1:1≤b.inn.l:=by rw[←ilen];exact n1
 have J: ∀{g:ah}{W2:List bc},aG h no g W2 [aJ 0 (az bl),row gv.p (aD gv.ns),aM gv.ns]→b.rows.P g:=fun S=>S.r 2 _ rfl b.rows (V1 z);have e: ∀{g:ah}{W2:List bc},aG h no g W2 [aJ 0 (az bl),row gv.p (aD gv.ns),aM gv.ns]→bD g b.inn.p (az b.inn.xs):=fun S=>J S b.inn.row (by simp)
 have d:gx gv.gr.nodes W (o.xs.drop k) os=if(i3 b.nd (W (b.inn.xs.getD 0 0)) (b.inn.xs.map fun k=>os.getD k.toNat Rg.zero)).alo< -68719476736∨(i3 b.nd (W (b.inn.xs.getD 0 0)) (b.inn.xs.map fun k=>os.getD k.toNat Rg.zero)).ahi>68719476736 then none
  else gx gv.gr.nodes W (o.xs.drop (k+1)) (os.set (i+1) (i3 b.nd (W (b.inn.xs.getD 0 0)) (b.inn.xs.map fun k=>os.getD k.toNat Rg.zero))):=by
  rw[V6 B,ex,yj (n:=b.nd) (by rw[show((i:Int)+1).toNat-1=i by omega];exact E),show((i:Int)+1).toNat=i+1 by omega];rfl
 refine cC (decide_eq_true (by omega)) ?_;obtain⟨ao,X⟩:=(S.own 3 rfl).row.some_of (by rw[av];omega);have co:aB g (ao.add k)=some (.int .i64 ((i:Int)+1)):=by
  have:=(S.own 3 rfl).row;rw[X]at this;rw[←ex];exact this.cell (aF (bo B))
 obtain⟨an,V⟩:=(S.row 1 rfl).some_of (by rw[bE];omega);simp only[aR,SN,hC,VO];refine aC X (k:=k) rfl (by omega) (ae co ?_);refine ak (p:=gv.p) (l:=gv.l) (c:=gv.c) (S.c 0) ?_;rw[al (n:=(i:Int)+1-1) (by omega),show(i:Int)+1-1=(i:Int) by omega];refine aC V (k:=i) rfl ay ?_;refine gi (by have:=S.row 1 rfl;rw[V]at this;exact this) en ?_;refine aA (cs:=aK cJ (zT cJ)) S fun T g2 _ S=> ?_;refine bP S 4 rfl rfl (aW rfl) fun g3 _ S=> ?_;refine ak (p:=b.inn.p) (l:=b.inn.l) (c:=b.inn.c) (S.c 4) ?_;refine dM S b.inn.l rfl (zs:=Rg.zero.cells) rfl rfl (by decide) (by omega) (by omega) fun U g4 _ S=> ?_;rw[zR]at S;refine ak (p:=b.inn.p) (l:=b.inn.l) (c:=b.inn.c) (S.c 4) ?_
 refine aO (fun mm s g=> ∃j:Nat,s=(⟨b1,0,none⟩,(w.p,w.l,w.c),(some ⟨b9,0,none⟩,gv.l+1,gv.l+1),(i:Int)+1,⟨T,0,none⟩,(some ⟨U,0,none⟩,b.inn.l,b.inn.l),(o.p,o.l,o.c),(o.l:Int),(k:Int),(b.inn.p,b.inn.l,b.inn.c),(b.inn.l:Int),(j:Int),())∧j≤b.inn.l∧mm=b.inn.l-j∧
  aG h no g [aJ b1 gv.cells,own 1 w.p w.l w.c (az w.xs),aJ b9 (dE os),own 1 o.p o.l o.c (az o.xs),aJ T b.cells,aJ U (dE ((b.inn.xs.take j).map (fun k=>os.getD k.toNat Rg.zero)++List.replicate (b.inn.l-j) Rg.zero))] [aJ 0 (az bl),row gv.p (aD gv.ns),aM gv.ns]) b.inn.l ⟨0,rfl,by omega,rfl,S⟩ ?_
 rintro mm s g ⟨j,rfl,hj,rfl,S⟩;unfold pE;simp only[aR,SN,hC,VO];have ap: ∀{x:Int},0≤x→x≤(gv.l:Int)→ ∃a,w.p=some a∧aB g (a.add x.toNat)=some (.int .i64 (W x)):=by
  intro x D x1;obtain⟨aw,A⟩:=(S.own 1 rfl).row.some_of (by rw[av,aj.1];omega);refine⟨aw,A,?_⟩;have:=(S.own 1 rfl).row;rw[A]at this;refine this.cell (aF ?_);rw[ew,VP,Wa (by omega)];show some (W (x.toNat:Int))=_;rw[show(x.toNat:Int)=x by omega]
 refine aq (fun C=> ?_) (fun a4=> ?_)
 ·have C:j<b.inn.l:=by omega
  have v:j<b.inn.xs.length:=by omega
  obtain⟨ai,q⟩:=(e S).some_of (by rw[av];omega);have ci:aB g (ai.add j)=some (.int .i64 b.inn.xs[j]):=by
   have:=e S;rw[q]at this;exact this.cell (aF (bo v))
  have Z:=I b.inn.xs[j] (VN v);rw[m]at Z;obtain⟨x,Y⟩: ∃x:Nat,b.inn.xs[j]=x:=⟨b.inn.xs[j].toNat,by omega⟩;rw[Y]at ci Z;refine aC q (k:=j) rfl C (ae ci ?_);have hx:os[x]? =some (os.getD x Rg.zero):=by rw[VT,bo (by omega)];rfl
  have rc:=vf (a:=⟨b9,0,none⟩) (bD.of_at (S.at 2 rfl)) hx;simp only[aR,SN]at rc;obtain⟨r0,r1,r2,r3⟩:=rc;refine aC rfl (k:=x) rfl (by omega) ?_;simp only[aR,SN,hC];refine ae r0 (ae r1 (ae r2 (ae r3 ?_)));refine aC rfl (k:=j) rfl C ?_;simp only[aR,SN,hC];have u:((b.inn.xs.take j).map (fun k=>os.getD k.toNat Rg.zero)).length=j:=by rw[Ug,VV];omega
  have ar:(dE ((b.inn.xs.take j).map (fun k=>os.getD k.toNat Rg.zero)++List.replicate (b.inn.l-j) Rg.zero)).length=b.inn.l*4:=by rw[fZ,Tz,u,VQ];congr 1;omega
  refine be S 5 rfl (by omega) fun _ _ S=> ?_;refine be S 5 rfl (by rw[VU];omega) fun _ _ S=> ?_;refine be S 5 rfl (by rw[VU,VU];omega) fun _ _ S=> ?_;refine be S 5 rfl (by rw[VU,VU,VU];omega) fun _ _ S=> ?_;rw[pV (by rw[Tz,u,VQ];omega) (os.getD x Rg.zero),uC u C]at S;have e2:=pd (fun k:Int=>os.getD k.toNat Rg.zero) v;rw[Y,hC]at e2;rw[←e2]at S;rw[al (n:=(j:Int)+1) (by omega)];exact⟨b.inn.l-(j+1),by omega,j+1,rfl,by omega,rfl,S⟩
 ·have ej:j=b.inn.l:=by omega
  subst ej;rw[py (by omega),WD,Xp,Wd]at S;refine aL S 4 rfl (x:=b.t) rfl ?_;refine ak (p:=b.inn.p) (l:=b.inn.l) (c:=b.inn.c) (S.c 4) ?_;obtain⟨ai,q⟩:=(e S).some_of (by rw[av];omega);obtain⟨D,K⟩: ∃D,b.inn.xs[0]? =some D:=⟨_,bo (by omega)⟩;have a0:b.inn.xs.getD 0 0=D:=by rw[VT,K];rfl
  have N:=I D (VL K);rw[m]at N;have ci:aB g (ai.add 0)=some (.int .i64 D):=by
   have:=e S;rw[q]at this;exact this.cell (aF K)
  refine aC q (k:=0) rfl (by omega) (ae ci ?_);obtain⟨aw,A,cw⟩:=ap N.1 N.2;refine aC A (k:=D.toNat) (by omega) (by omega) (ae cw ?_);refine(Rx O (J S) (S.r 0 _ rfl) ad.2.1 ad.2.2 (fun hk=>by have:=a2 hk;rw[←O.2.2.1];exact this) (bD.of_at (S.at 5 rfl)) (by rw[Ug];exact ilen) a1 (by omega) (W D)).mono ?_;rintro _ g2 ⟨rfl,F⟩;replace S:=S.fra0 F;refine⟨_,_,_,_,rfl,?_⟩;obtain⟨y,ey⟩: ∃y,i3 b.nd (W D) (b.inn.xs.map fun k=>os.getD k.toNat Rg.zero)=y:=⟨_,rfl⟩;rw[a0,ey]at d;rw[ey];refine aC rfl (k:=i+1) rfl (by omega) ?_;rw[show((i:Int)+1).toNat=i+1 by omega];simp only[aR,SN];have ar:(dE os).length=(gv.l+1)*4:=by rw[fZ,ab]
  refine be S 2 rfl (by omega) fun _ _ S=> ?_;refine be S 2 rfl (by rw[VU];omega) fun _ _ S=> ?_;refine be S 2 rfl (by rw[VU,VU];omega) fun _ _ S=> ?_;refine be S 2 rfl (by rw[VU,VU,VU];omega) fun _ _ S=> ?_;rw[pV (by omega) y]at S;have hy:(os.set (i+1) y)[i+1]? =some y:=V4 (by omega);have rc:=vf (a:=⟨b9,0,none⟩) (bD.of_at (S.at 2 rfl)) hy;simp only[aR,SN]at rc;obtain⟨_,_,r2,r3⟩:=rc;refine aC rfl (k:=i+1) rfl (by omega) ?_;simp only[aR,SN];refine ae r2 (aq (fun M=> ?_) (fun M=> ?_))
  ·exact HE _ S.fra (by rw[d,if_pos (.inl M)])
  ·refine aC rfl (k:=i+1) rfl (by omega) ?_;simp only[aR,SN];refine ae r3 (aq (fun L=> ?_) (fun L=> ?_))
   ·exact HE _ S.fra (by rw[d,if_pos (.inr L)])
   ·rw[al (n:=(k:Int)+1) (by omega)];refine H _ (os.set (i+1) y) (by rw[VU];exact ab) ?_ (S.pw [0,1,2,3]);rw[d,if_neg (by rintro(h|h);exact M h;exact L h)]
theorem NK(a:gv.ok)(Z:bD h gv.p (aD gv.ns))(hr:(aM gv.ns).P h)(r:gv.sizes)(U:KT h)(rt:bW gv.gr W R pos):
 au P jR #[gv.v] h fun v T=>(∃(q:Option Addr)(m d:Nat),v= .tuple #[.slice q m d,.int .i64 (if(gv.gr.ranges W).isSome then 0 else 16)])∧cd no h T:=by
 refine oc _ ?_;have D:=a.1;have b:gv.gr.nodes.length=gv.l:=by rw[←D];simp[Gv.gr]
 have J:gv.l≤12:=by have:=(bX rt.first).2.1;omega
 have S:=(((aG.start h no).read (aJ 0 (az bl)) U).read (row gv.p (aD gv.ns)) Z).read (aM gv.ns) hr;refine aA (cs:=gv.cells) S fun b1 h1 _ S=> ?_;refine aL S 0 rfl (x:=gv.t) rfl ?_;refine(Aa a (S.ro 1) (S.rd 2) r.1 (fun n Y=>by have:=r.2 n Y;omega) (S.rd 0)).mono ?_;rintro _ g2 ⟨rfl,F⟩;replace S:=S.fra0 F;have C:=rt.look;refine⟨_,rfl,bh (fun V=>absurd (by rw[C]) V) (fun _=> ?_)⟩;refine aL S 0 rfl (x:=gv.t) rfl ?_;refine(zS a (S.ro 1) (S.rd 2) r (S.rd 0)).mono ?_;rintro _ g3 ⟨⟨wp,wl,wc,wx⟩,rfl,u,I,A⟩;have f:wx=(List.range (gv.gr.nodes.length+1)).map fun x:Nat=>W x:=by rw[C]at I;exact I
 obtain rfl:wl=gv.l+1:=by have:=u.1;dsimp only at this;rw[←this,f,Ug,WT,b]
 replace S:=S.add A fun _ _ h=>h;refine⟨_,_,_,rfl,?_⟩;refine dM S (gv.l+1) rfl (zs:=Rg.zero.cells) rfl rfl (by decide) (by omega) (by omega) fun b9 g4 _ S=> ?_;rw[zR]at S;refine ae (n:=gv.low) (S.c 0) (ae (n:=gv.high) (S.c 0) ?_);refine(yi _ _).mono ?_;rintro _ g5 ⟨rfl,F⟩;replace S:=S.fra0 F;refine⟨_,_,_,_,rfl,?_⟩;simp only[hC];refine aC rfl (k:=0) rfl (by omega) ?_;simp only[aR,SN,WC,WH];have X:(dE (List.replicate (gv.l+1) .zero)).length=(gv.l+1)*4:=by rw[fZ,VQ]
 refine be S 2 rfl (by omega) fun _ _ S=> ?_;refine be S 2 rfl (by rw[VU];omega) fun _ _ S=> ?_;refine be S 2 rfl (by rw[VU,VU];omega) fun _ _ S=> ?_;refine be S 2 rfl (by rw[VU,VU,VU];omega) fun _ _ S=> ?_;have N:=pV (rs:=List.replicate (gv.l+1) .zero) (i:=0) (by rw[VQ];omega) (dN gv.low gv.high);rw[N]at S;refine aL S 0 rfl (x:=gv.t) rfl ?_;refine(DD a (S.ro 1) (S.rd 2) r (S.rd 0)).mono ?_;rintro _ g6 ⟨o,rfl,e,y,A⟩;rw[C]at y;replace S:=S.add A fun _ _ h=>h;have aa:o.l=gv.l:=by rw[←e.1,y,rt.ordered,b]
 refine⟨_,_,_,rfl,?_⟩
 refine aO (fun K s g=> ∃(k:Nat)(os:List Rg),s=(⟨b1,0,none⟩,(wp,gv.l+1,wc),(some ⟨b9,0,none⟩,gv.l+1,gv.l+1),(o.p,o.l,o.c),(o.l:Int),(k:Int),())∧k≤gv.l∧K=gv.l-k∧os.length=gv.l+1∧gv.gr.ranges W=gx gv.gr.nodes W (o.xs.drop k) os∧
  aG h no g [aJ b1 gv.cells,own 1 wp (gv.l+1) wc (az wx),aJ b9 (dE os),own 1 o.p o.l o.c (az o.xs)] [aJ 0 (az bl),row gv.p (aD gv.ns),aM gv.ns]) gv.l ⟨0,_,rfl,by omega,rfl,by rw[VU,VQ],?_,S⟩ ?_
 ·rw[Xb,y,Wp,WW];unfold Gr.ranges;rw[b];rfl
 rintro K s g ⟨k,os,rfl,hk,rfl,G,z,S⟩;dsimp only;by_cases E:k<gv.l
 ·refine Hh (w:=⟨wp,gv.l+1,wc,wx⟩) a r rt y e f u E G S (fun O H j B M=> ?_) (fun O L B=> ?_)
  ·exact⟨gv.l-(k+1),by omega,k+1,H,rfl,by omega,rfl,j,by rw[z,B],M⟩
  ·rw[z,B];exact⟨⟨_,_,_,rfl⟩,L⟩
 ·unfold lB;refine bG (decide_eq_false (by omega)) ?_;rw[Wj (by rw[e.1];omega)]at z;rw[z];exact⟨⟨_,_,_,rfl⟩,S.fra⟩
