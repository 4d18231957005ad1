/- CBnd CBnd2 CRng CRng2, in one text. -/
import Derived.Test.YtdhpmegbmjoekaaGreatDoorCSat
import Derived.Test.YtdhpmegbmjoekaaGreatDoorCKindP3
import Derived.Test.YtdhpmegbmjoekaaGreatDoorCMadeR
set_option linter.unusedVariables false
set_option linter.unusedSimpArgs false
namespace Go.Proofs.YtdhpmegbmjoekaaGreatDoor.G
open Go Go.Sh
section
structure Rg where
 lo:Int
 hi:Int
 alo:Int
 ahi:Int
def Rg.cells (r:Rg):List Value:=[.int .i64 r.lo,.int .i64 r.hi,.int .i64 r.alo,.int .i64 r.ahi]
abbrev Rg.v (r:Rg):Value:= .agg #[.int .i64 r.lo,.int .i64 r.hi,.int .i64 r.alo,.int .i64 r.ahi]
def fV (l u:Int):Rg:=⟨l,u,l,u⟩
def Gd (ws:List Int) (b l u:Int):Int×Int:=ws.foldl (fun s w=>if w<0 then(dV (s.1+dV (w*u)),dV (s.2+dV (w*l))) else(dV (s.1+dV (w*l)),dV (s.2+dV (w*u)))) (b,b)
def Nd.each (n:Nd):Nat:=n.weights.length / n.bias.length
def Nd.ends (n:Nd) (l u:Int) (c:Nat):Int×Int:=Gd ((n.weights.drop (c*n.each)).take n.each) (n.bias.getD c 0) l u
def mV (n:Nd) (l u:Int) (k:Nat):Int×Int:=(List.range k).foldl (fun s c=>(if(n.ends l u c).1<s.1 then(n.ends l u c).1 else s.1,if(n.ends l u c).2>s.2 then(n.ends l u c).2 else s.2)) (n.ends l u 0)
def cW (n:Nd) (l u:Int):Rg:=
 ⟨mW n (mV n l u n.bias.length).1,mW n (mV n l u n.bias.length).2,(mV n l u n.bias.length).1,(mV n l u n.bias.length).2⟩
section
variable {h:af}
theorem qP {h0:af} {T:Nat→Prop} {W R:List aY} {b:Nat} {r0 k l m:Value} (S:aJ h0 T h (blk b [r0,k,l,m]::W) R) (r:Rg) {K:Value→af→Prop} (H: ∀h',aJ h0 T h' (blk b r.cells::W) R→K r.v h'):
 aW h ⟨b,0,none⟩ (.int .i64 r.lo) fun c=>aW c ⟨b,1,none⟩ (.int .i64 r.hi) fun d=>aW d ⟨b,2,none⟩ (.int .i64 r.alo) fun e=>aW e ⟨b,3,none⟩ (.int .i64 r.ahi) fun a=>
  ah .i64 a ⟨b,0,none⟩ fun f=>ah .i64 a ⟨b,1,none⟩ fun g=>ah .i64 a ⟨b,2,none⟩ fun i=>ah .i64 a ⟨b,3,none⟩ fun j=>K (.agg #[.int .i64 f,.int .i64 g,.int .i64 i,.int .i64 j]) a:=by
 refine aE S 0 rfl (jb rfl) fun _ _ S=> ?_;dsimp only[List.set] at S;refine aE S 0 rfl (jb rfl) fun _ _ S=> ?_;dsimp only[List.set] at S;refine aE S 0 rfl (jb rfl) fun _ _ S=> ?_;dsimp only[List.set] at S;refine aE S 0 rfl (jb rfl) fun _ _ S=> ?_;dsimp only[List.set] at S;exact ae (S.cell 0 rfl rfl) (ae (S.cell 0 rfl rfl) (ae (S.cell 0 rfl rfl) (ae (S.cell 0 rfl rfl) (H _ S))))
theorem yE (l u:Int):au P gc #[.int .i64 l,.int .i64 u] h fun v a=>v=(fV l u).v∧cp no h a:=by
 refine CK _ _ ?_;unfold Eh;have S:=aJ.start h no;refine aA S (fun b1 _ _ S=> ?_);dsimp only[Xj] at S;exact qP S (fV l u) (K:=fun v g=>v=(fV l u).v∧cp no h g) fun a S=>⟨rfl,S.fra⟩
theorem LN {n:Nd} {c:Nat} (a:c<n.bias.length):(c+1)*n.each≤n.weights.length:=by
 unfold Nd.each;exact VZ (Vn _ a) (Nat.mul_div_le _ _)
theorem IG {nv:Nv} (f:nv.ok) (G:nv.rows.P h) {b1 A j r:Nat} {l u:Int} (S:aD h ⟨b1,8,none⟩=some nv.weights.v) (C:aD h ⟨b1,9,none⟩=some nv.bias.v)
 (E:aD h ⟨A,0,none⟩=some (.int .i64 (nv.nd.each:Int))) (H:aD h ⟨j,0,none⟩=some (.int .i64 u)) (F:aD h ⟨r,0,none⟩=some (.int .i64 l)) {c:Nat} (D:c<nv.bias.l) (Z:nv.weights.l<2 ^ 40) (Y:nv.bias.l<2 ^ 40):
 au P iF #[.int .i64 (c:Int),.pointer (some ⟨b1,0,none⟩),.pointer (some ⟨A,0,none⟩),.pointer (some ⟨j,0,none⟩),.pointer (some ⟨r,0,none⟩)] h
  fun v O=>v= .tuple #[.int .i64 (nv.nd.ends l u c).1,.int .i64 (nv.nd.ends l u c).2]∧O=h:=by
 refine uW _ _ _ _ _ ?_;unfold te;have d:bI h nv.bias.p (az nv.bias.xs):=G nv.bias.row (by simp);have z:bI h nv.weights.p (az nv.weights.xs):=G nv.weights.row (by simp);have lb:nv.bias.xs.length=nv.bias.l:=f.2.2.1;have V:nv.weights.xs.length=nv.weights.l:=f.2.1.1;have lc:nv.weights.l≤nv.weights.c:=f.2.1.2;have X:(c+1)*nv.nd.each≤nv.weights.l:=by have:=LN (n:=nv.nd) (c:=c) (by show c<nv.bias.xs.length;omega);rw[←V];exact this
 have T:(c+1)*nv.nd.each=c*nv.nd.each+nv.nd.each:=by rw[Vt,WE]
 obtain⟨I,t⟩:=d.some_of (by rw[av];omega);have B:aD h (I.add c)=some (.int .i64 (nv.nd.bias.getD c 0)):=by
  rw[t] at d;refine d.cell (aI ?_);show nv.bias.xs[c]? =some (nv.bias.xs.getD c 0);rw[UV,aO (by omega)];rfl
 simp only[aQ,SI,oe,US];refine ak C (aB t (k:=c) rfl D (ae B (ak C (aB t (k:=c) rfl D (ae B (ak S (ae E (ae E ?_))))))));have J:((c:Int)+1)*(nv.nd.each:Int)=(((c+1)*nv.nd.each:Nat):Int):=by push_cast;rfl
 have K:(c:Int)*(nv.nd.each:Int)=((c*nv.nd.each:Nat):Int):=by push_cast;rfl
 rw[al (n:=(c:Int)+1) (by omega),J,K,al (by omega),al (by omega)];refine ko rfl (by omega) (ko rfl (by omega) ?_);have M:(c+1)*nv.nd.each-c*nv.nd.each=nv.nd.each:=by omega
 rw[M];obtain⟨q,x⟩: ∃q,(if nv.weights.c=c*nv.nd.each then nv.weights.p else Option.map (fun a=>a.add (c*nv.nd.each)) nv.weights.p)=q:=⟨_,rfl⟩;rw[x];have wc: ∀i,i<nv.nd.each→ ∃a,q=some a∧aD h (a.add i)=some (.int .i64 ((nv.nd.weights.drop (c*nv.nd.each)).getD i 0)):=by
  intro i hi;rw[if_neg (by omega)] at x;have rd:=z.drop' (c*nv.nd.each) (by rw[av];omega);rw[x] at rd;obtain⟨a,ea⟩:=rd.some_of (by rw[VF,av];omega);refine⟨a,ea,?_⟩;rw[ea] at rd;refine rd.cell ?_;have:(az nv.weights.xs).drop (c*nv.nd.each)=az (nv.weights.xs.drop (c*nv.nd.each)):=by unfold az;rw[List.map_drop]
  rw[this];refine aI ?_;show(nv.weights.xs.drop (c*nv.nd.each))[i]? =some ((nv.weights.xs.drop (c*nv.nd.each)).getD i 0);rw[UV,aO (by rw[VF];omega)];rfl
 refine aP (fun m s g=>g=h∧ ∃i:Nat,s=(⟨j,0,none⟩,⟨r,0,none⟩,(Gd ((nv.nd.weights.drop (c*nv.nd.each)).take i) (nv.nd.bias.getD c 0) l u).1,(Gd ((nv.nd.weights.drop (c*nv.nd.each)).take i) (nv.nd.bias.getD c 0) l u).2,(q,nv.nd.each,nv.weights.c-c*nv.nd.each),(nv.nd.each:Int),(i:Int),())∧i≤nv.nd.each∧m=nv.nd.each-i) nv.nd.each ⟨rfl,0,rfl,by omega,rfl⟩ ?_;rintro m s g ⟨rfl,i,rfl,hi,rfl⟩;unfold nz;dsimp only;refine am (fun e=> ?_) (fun U=> ?_)
 ·have e:i<nv.nd.each:=by omega
  obtain⟨a,ea,L⟩:=wc i e;refine aB ea (k:=i) rfl e ?_;simp only[oe,US];refine ae L ?_;have b:i<(nv.nd.weights.drop (c*nv.nd.each)).length:=by rw[VF];show i<nv.weights.xs.length-_;omega
  have step:Gd ((nv.nd.weights.drop (c*nv.nd.each)).take (i+1)) (nv.nd.bias.getD c 0) l u=(fun(s:Int×Int) (w:Int)=>if w<0 then(dV (s.1+dV (w*u)),dV (s.2+dV (w*l))) else(dV (s.1+dV (w*l)),dV (s.2+dV (w*u)))) (Gd ((nv.nd.weights.drop (c*nv.nd.each)).take i) (nv.nd.bias.getD c 0) l u) ((nv.nd.weights.drop (c*nv.nd.each)).getD i 0):=by
   have N:(nv.nd.weights.drop (c*nv.nd.each)).getD i 0=(nv.nd.weights.drop (c*nv.nd.each))[i]:=by rw[UV,aO b];rfl
   unfold Gd;rw[py b,Vk,N];rfl
  rw[al (n:=(i:Int)+1) (by omega)];refine am (fun y=> ?_) (fun y=> ?_)
  ·refine ae H (ae F ⟨nv.nd.each-(i+1),by omega,by trivial,i+1,?_,by omega,rfl⟩);rw[step];dsimp only;rw[if_pos y];rfl
  ·refine ae F (ae H ⟨nv.nd.each-(i+1),by omega,by trivial,i+1,?_,by omega,rfl⟩);rw[step];dsimp only;rw[if_neg y];rfl
 ·have:i=nv.nd.each:=by omega
  subst this;exact⟨rfl,by trivial⟩
theorem Kp {nv:Nv} (a:nv.ok) (J:nv.rows.P h) (A:nv.weights.l<2 ^ 40) (z:nv.bias.l<2 ^ 40) (G:1≤nv.bias.l) (l u:Int):
 au P fS #[nv.v,.int .i64 l,.int .i64 u] h fun v y=>v=(cW nv.nd l u).v∧cp no h y:=by
 refine xV _ _ _ ?_;unfold xq;have L:nv.bias.xs.length=nv.bias.l:=a.2.2.1;have B:nv.weights.xs.length=nv.weights.l:=a.2.1.1;have S:=(aJ.start h no).read nv.rows J;refine aA (cs:=nv.cells) S (fun b1 _ _ S=> ?_);dsimp only[Xj,Xi] at S;refine aA S (fun f _ _ S=> ?_);dsimp only[Xj,Xi] at S;refine aA S (fun j _ _ S=> ?_);dsimp only[Xj,Xi] at S;refine aA S (fun k _ _ S=> ?_);dsimp only[Xj,Xi] at S;refine ak (p:=nv.weights.p) (l:=nv.weights.l) (c:=nv.weights.c) (S.cell 0 rfl rfl) (ak (p:=nv.bias.p) (l:=nv.bias.l) (c:=nv.bias.c) (S.cell 0 rfl rfl) ⟨by omega,?_⟩);have E:Int.tdiv ((nv.weights.l:Nat):Int) ((nv.bias.l:Nat):Int)=(nv.nd.each:Int):=by
  have:nv.nd.each=nv.weights.l / nv.bias.l:=by show nv.weights.xs.length / nv.bias.xs.length=_;rw[B,L]
  rw[this];rfl
 have M:nv.nd.each≤nv.weights.l:=by
  have:=LN (n:=nv.nd) (c:=0) (by show 0<nv.bias.xs.length;omega);rw[SI,WE] at this;exact VZ this (by rw[←B];exact U3 _)
 rw[E,al (n:=(nv.nd.each:Int)) (by omega)];refine aA S (fun b _ _ S=> ?_);dsimp only[Xj,Xi] at S;refine aE S 4 rfl (jb rfl) fun _ _ S=> ?_;dsimp only[List.set] at S;refine aA S (fun d N _ S=> ?_);dsimp only[Xj,Xi] at S;refine(IG (c:=0) a (S.r 0 _ rfl) (S.cell 0 rfl rfl) (S.cell 0 rfl rfl) (S.cell 4 rfl rfl) (S.cell 2 rfl rfl) (S.cell 1 rfl rfl) (by omega) A z).mono ?_;rintro _ q ⟨rfl,rfl⟩;refine⟨_,_,rfl,?_⟩;refine aE S 5 rfl (jb rfl) fun _ _ S=> ?_;dsimp only[List.set] at S;refine aE S 5 rfl (jb rfl) fun _ _ S=> ?_;dsimp only[List.set] at S;refine ak (p:=nv.bias.p) (l:=nv.bias.l) (c:=nv.bias.c) (S.cell 0 rfl rfl) ?_
 refine aP (fun m s g=> ∃i:Nat,s=(⟨b1,0,none⟩,⟨k,0,none⟩,((),(⟨b1,0,none⟩,⟨b,0,none⟩,⟨j,0,none⟩,⟨f,0,none⟩,())),⟨d,0,none⟩,(nv.bias.l:Int),(i:Int),())∧i≤nv.bias.l∧m=nv.bias.l-i∧
  aJ h no g [blk b1 nv.cells,blk f [.int .i64 l],blk j [.int .i64 u],blk k [.int .i64 0,.int .i64 0,.int .i64 0,.int .i64 0],blk b [.int .i64 (nv.nd.each:Int)],blk d [.int .i64 0,.int .i64 0,.int .i64 (mV nv.nd l u i).1,.int .i64 (mV nv.nd l u i).2]] [nv.rows]) nv.bias.l ⟨0,rfl,by omega,rfl,S⟩ ?_
 clear S;rintro m s g ⟨i,rfl,hi,rfl,S⟩;unfold qh;dsimp only;simp only[aQ,SI];refine am (fun I=> ?_) (fun H=> ?_)
 ·refine(IG (c:=i) a (S.r 0 _ rfl) (S.cell 0 rfl rfl) (S.cell 0 rfl rfl) (S.cell 4 rfl rfl) (S.cell 2 rfl rfl) (S.cell 1 rfl rfl) (by omega) A z).mono ?_;rintro _ q ⟨rfl,rfl⟩;refine⟨_,_,rfl,?_⟩;refine ae (S.cell 5 rfl rfl) (ae (S.cell 5 rfl rfl) ?_);refine aE S 5 rfl (jb rfl) fun _ _ S=> ?_;dsimp only[List.set] at S;refine aE S 5 rfl (jb rfl) fun _ _ S=> ?_;dsimp only[List.set] at S;rw[al (n:=(i:Int)+1) (by omega)];refine⟨nv.bias.l-(i+1),by omega,i+1,rfl,by omega,rfl,?_⟩;have e:mV nv.nd l u (i+1)=(if(nv.nd.ends l u i).1<(mV nv.nd l u i).1 then(nv.nd.ends l u i).1 else(mV nv.nd l u i).1,if(nv.nd.ends l u i).2>(mV nv.nd l u i).2 then(nv.nd.ends l u i).2 else(mV nv.nd l u i).2):=by
   unfold mV;rw[Wy,Vk];rfl
  rw[e];exact S
 ·have F:i=nv.nd.bias.length:=by show i=nv.bias.xs.length;omega
  subst F;refine aN S 0 rfl (x:=nv.t) rfl (ae (S.cell 5 rfl rfl) (aN S 0 rfl (x:=nv.t) rfl (ae (S.cell 5 rfl rfl) ?_)));refine(LS nv _).mono ?_;rintro _ q ⟨rfl,C⟩;replace S:=S.fra0 C;refine⟨_,rfl,aX (S.cell 5 rfl rfl) (cR S 0 rfl rfl ?_)⟩;refine(LS nv _).mono ?_;rintro _ O ⟨rfl,D⟩;replace S:=S.fra0 D;refine⟨_,rfl,aX (S.cell 5 rfl rfl) (cR S 0 rfl rfl ?_)⟩;refine aE S 5 rfl (jb rfl) fun _ _ S=> ?_;dsimp only[List.set] at S;refine cR S 0 rfl rfl ?_;refine aE S 5 rfl (jb rfl) fun _ _ S=> ?_;dsimp only[List.set] at S;refine ae (S.cell 5 rfl rfl) (ae (S.cell 5 rfl rfl) (ae (S.cell 5 rfl rfl) (ae (S.cell 5 rfl rfl) ?_)));exact qP (S.pw [3]) (cW nv.nd l u) (K:=fun v g=>v=(cW nv.nd l u).v∧cp no h g) fun y S=>⟨rfl,S.fra⟩
end
end
section
def jm (rs:List Rg):List Value:=(rs.map Rg.cells).flatten
theorem j3 (rs:List Rg):(jm rs).length=rs.length*4:=qA Rg.cells 4 (fun _=>rfl) rs
theorem IH {rs:List Rg} {i j:Nat} {x:Rg} (h:rs[i]? =some x) (a:j<4):(jm rs)[i*4+j]? =x.cells[j]? :=vM Rg.cells 4 (fun _=>rfl) rs i j x h a
def hD (n:Nd):Int×Int:=if dA n.kind then(n.left,n.right) else if n.kind=12 then(dV (n.size-1),0) else(0,0)
def Rg.zero:Rg:=⟨0,0,0,0⟩
def yF (b:Int) (rs:List Rg):Int:=rs.foldl (fun l r=>if r.lo<l then r.lo else l) b
def oh (b:Int) (rs:List Rg):Int:=rs.foldl (fun u r=>if r.hi>u then r.hi else u) b
def lk (f:Rg→Int) (rs:List Rg):Int:=rs.foldl (fun s r=>dV (s+f r)) 0
def fN (n:Nd) (w:Int) (rs:List Rg):Rg:=
 let l0:=yF (rs.getD 0 .zero).lo rs
 let a:=oh (rs.getD 0 .zero).hi rs
 let l:=if dV ((hD n).1+(hD n).2)>0 then(if 0<l0 then 0 else l0) else l0
 let u:=if dV ((hD n).1+(hD n).2)>0 then(if 0>a then 0 else a) else a
 if gY n.kind then cW n l u else if n.kind=4∨n.kind=12 then⟨l,u,dV (n.size*l),dV (n.size*u)⟩
 else if n.kind=7 then⟨tx (rs.map Rg.lo),tx (rs.map Rg.hi),lk Rg.lo rs,lk Rg.hi rs⟩
 else if n.kind=9 then fV (fz l n.low n.high) (fz u n.low n.high)
 else if n.kind=10 then fV (gL l n.mult n.shift) (gL u n.mult n.shift)
 else if n.kind=11 then fV 0 (dV (w-1)) else fV l u
section
variable {h:af}
theorem LO (nv:Nv) (d:KT h):au P oE #[nv.v] h fun v c=>v= .tuple #[.int .i64 (hD nv.nd).1,.int .i64 (hD nv.nd).2]∧cp no h c:=by
 refine Ei _ ?_;unfold GG;have S:=(aJ.start h no).read (blk 0 (az bo)) d;refine aA (cs:=nv.cells) S fun b1 f _ S=> ?_;dsimp only[Xi,Xj] at S;have e:hD nv.nd=if dA nv.kind then(nv.left,nv.right) else if nv.kind=12 then(dV (nv.size-1),0) else(0,0):=rfl
 rw[e];refine aN S 0 rfl (x:=nv.t) rfl ?_;refine(jO nv 1 (S.r 0 _ rfl)).mono ?_;rintro _ _ ⟨rfl,F⟩;refine⟨_,rfl,?_⟩;replace S:=S.fra0 F;refine am (fun a=> ?_) (fun a=> ?_)
 ·rw[H4] at a;rw[if_pos a];exact ae (n:=nv.left) (S.cell 0 rfl rfl) (ae (n:=nv.right) (S.cell 0 rfl rfl) ⟨rfl,S.fra⟩)
 ·rw[H4] at a;rw[if_neg a];refine aN S 0 rfl (x:=nv.t) rfl ?_;refine(jO nv 16 (S.r 0 _ rfl)).mono ?_;rintro _ _ ⟨rfl,F⟩;refine⟨_,rfl,?_⟩;replace S:=S.fra0 F;refine am (fun b=> ?_) (fun b=> ?_)
  ·rw[Me] at b;rw[if_pos b];exact ae (n:=nv.size) (S.cell 0 rfl rfl) ⟨rfl,S.fra⟩
  ·rw[Me] at b;rw[if_neg b];exact⟨rfl,S.fra⟩
theorem CW {a:Addr} {rs:List Rg} {i:Nat} {x:Rg} (r:bI h (some a) (jm rs)) (e:rs[i]? =some x):aD h (a.add (i*4))=some (.int .i64 x.lo)∧aD h ((a.add (i*4)).add 1)=some (.int .i64 x.hi)∧aD h ((a.add (i*4)).add 2)=some (.int .i64 x.alo)∧aD h ((a.add (i*4)).add 3)=some (.int .i64 x.ahi):=by
 refine⟨r.cell (i:=i*4) (by have:=IH e (j:=0) (by omega);rw[Va] at this;rw[this];rfl),?_,?_,?_⟩
 all_goals
  rw[rW _ _ (by decide)];refine r.cell ?_;rw[IH e (by omega)];rfl
abbrev Qc:=Option Addr×Nat×Nat
def LP (h:af) (nv:Nv) (w:Int) (b1 a b9:Nat) (p:Option Addr) (l c:Nat) (rs:List Rg) (j:Nat) (s:Int×Addr×Addr×Int×Int×Qc×Qc×Addr×Qc×Int×Int×Unit) (g:af):Prop:=
 ∃(i:Nat) (e f:Option Addr) (b d:Nat),s=(w,⟨b1,0,none⟩,⟨a,0,none⟩,yF (rs.getD 0 .zero).lo (rs.take i),oh (rs.getD 0 .zero).hi (rs.take i),(e,i,b),(f,i,d),⟨b9,0,none⟩,(p,l,c),(l:Int),(i:Int),())∧i≤l∧j=l-i∧
  aJ h no g [blk a Rg.zero.cells,blk b1 nv.cells,blk b9 [.int .i64 0,.int .i64 0,.int .i64 (lk Rg.lo (rs.take i)),.int .i64 (lk Rg.hi (rs.take i))],own 1 e i b (az ((rs.take i).map Rg.lo)),own 1 f i d (az ((rs.take i).map Rg.hi))] [blk 0 (az bo),nv.rows,row p (jm rs)]
theorem wA {rs:List Rg} {i:Nat} (hi:i<rs.length) (f:Rg→Int):az ((rs.take i).map f)++az [f rs[i]]=az ((rs.take (i+1)).map f):=by
 rw[py hi,U4];unfold az;rw[U4];rfl
theorem Kq {nv:Nv} (ar:nv.ok) (hw:nv.weights.l<2 ^ 40) (hb:nv.bias.l<2 ^ 40) (aw:gY nv.kind→1≤nv.bias.l) {p:Option Addr} {l c:Nat} {rs:List Rg} (hl:rs.length=l) (a8:1≤l) (a9:l<2 ^ 40) (w:Int) {b1 b b9 mm:Nat} {s} {g:af} (I:LP h nv w b1 b b9 p l c rs mm s g):
 pz (fun v e=>v=(fN nv.nd w rs).v∧cp no h e) (fun s' e=> ∃m,m<mm∧LP h nv w b1 b b9 p l c rs m s' e) s.1 s.2.1 s.2.2.1 s.2.2.2.1 s.2.2.2.2.1 s.2.2.2.2.2.1.1 s.2.2.2.2.2.1.2.1 s.2.2.2.2.2.1.2.2 s.2.2.2.2.2.2.1.1 s.2.2.2.2.2.2.1.2.1 s.2.2.2.2.2.2.1.2.2 s.2.2.2.2.2.2.2.1 s.2.2.2.2.2.2.2.2.1.1 s.2.2.2.2.2.2.2.2.1.2.1 s.2.2.2.2.2.2.2.2.1.2.2 s.2.2.2.2.2.2.2.2.2.1 s.2.2.2.2.2.2.2.2.2.2.1 g:=by
 obtain⟨i,p1,p2,c1,c2,rfl,hi,rfl,S⟩:=I;unfold pz;dsimp only;simp only[aQ,SI];refine am (fun ad=> ?_) (fun ap=> ?_)
 ·have ad:i<l:=by omega
  have d:i<rs.length:=by omega
  obtain⟨a,ea⟩:=(S.row 2 rfl).some_of (by rw[j3];omega);have G:=S.row 2 rfl;rw[ea] at G;obtain⟨k0,k1,k2,k3⟩:=CW G (aO d);refine aB ea (k:=i) rfl ad ?_;simp only[oe];refine ae k0 (ae k1 (ae k2 (ae k3 ?_)));refine aA S (fun D g2 _ S=> ?_);dsimp only[Xj,Xi] at S;refine aE S 5 rfl (jb rfl) fun _ _ S=> ?_;dsimp only[List.set] at S;refine aE S 5 rfl (jb rfl) fun _ _ S=> ?_;dsimp only[List.set] at S;refine aE S 5 rfl (jb rfl) fun _ _ S=> ?_;dsimp only[List.set] at S;refine aE S 5 rfl (jb rfl) fun g3 _ S=> ?_;dsimp only[List.set] at S;refine ae (S.cell 5 rfl rfl) (ae (S.cell 5 rfl rfl) (ae (S.cell 5 rfl rfl) (ae (S.cell 5 rfl rfl) ?_)));obtain⟨x,ex⟩: ∃x,rs[i]=x:=⟨_,rfl⟩;rw[ex] at S ⊢;have E:=wA d Rg.lo;have eH:=wA d Rg.hi;rw[ex] at E eH
  have O: ∀{f:af} {Y Z:Option Addr} {m1 X H J:Nat},m1=i+1→X=i+1→aJ h no f [blk b Rg.zero.cells,blk b1 nv.cells,blk b9 [.int .i64 0,.int .i64 0,.int .i64 (lk Rg.lo (rs.take i)),.int .i64 (lk Rg.hi (rs.take i))],own 1 Y m1 H (az ((rs.take i).map Rg.lo)++az [x.lo]),own 1 Z X J (az ((rs.take i).map Rg.hi)++az [x.hi]),blk D [.int .i64 x.lo,.int .i64 x.hi,.int .i64 x.alo,.int .i64 x.ahi]] [blk 0 (az bo),nv.rows,row p (jm rs)]→
   ah .i64 f ⟨b9,2,none⟩ fun ax=>ah .i64 f ⟨D,0,none⟩ fun ay=>ah .i64 f ⟨b9,3,none⟩ fun a0=>ah .i64 f ⟨D,1,none⟩ fun ai=>aW f ⟨b9,2,none⟩ (.int .i64 (IntKind.wrap .i64 (ax+ay))) fun ab=>aD ab ⟨D,1,none⟩=some (.int .i64 ai)∧aW ab ⟨b9,3,none⟩ (.int .i64 (IntKind.wrap .i64 (a0+ai))) fun an=>
    ∃m,m<l-i∧LP h nv w b1 b b9 p l c rs m (w,⟨b1,0,none⟩,⟨b,0,none⟩,(if x.lo<yF (rs.getD 0 .zero).lo (rs.take i) then x.lo else yF (rs.getD 0 .zero).lo (rs.take i)),(if x.hi>oh (rs.getD 0 .zero).hi (rs.take i) then x.hi else oh (rs.getD 0 .zero).hi (rs.take i)),(Y,m1,H),(Z,X,J),⟨b9,0,none⟩,(p,l,c),(l:Int),IntKind.wrap .i64 ((i:Int)+1),()) an:=by
   intro f Y Z m1 X H J M N S;subst M N;refine ae (S.cell 2 rfl rfl) (ae (S.cell 5 rfl rfl) (ae (S.cell 2 rfl rfl) (ae (S.cell 5 rfl rfl) ?_)));refine aE S 2 rfl (jb rfl) fun _ _ S=> ?_;dsimp only[List.set] at S;refine aX (S.cell 5 rfl rfl) ?_;refine aE S 2 rfl (jb rfl) fun _ _ S=> ?_;dsimp only[List.set] at S;rw[al (n:=(i:Int)+1) (by omega)];refine⟨l-(i+1),by omega,i+1,Y,Z,H,J,?_,by omega,rfl,?_⟩
   ·unfold yF oh;rw[py d,Vk,Vk,ex];rfl
   ·have s1:lk Rg.lo (rs.take (i+1))=IntKind.wrap .i64 (lk Rg.lo (rs.take i)+x.lo):=by unfold lk;rw[py d,Vk,ex];rfl
    have s2:lk Rg.hi (rs.take (i+1))=IntKind.wrap .i64 (lk Rg.hi (rs.take i)+x.hi):=by unfold lk;rw[py d,Vk,ex];rfl
    rw[s1,s2,←E,←eH];exact S.pw [0,1,2,3,4]
  have one: ∀{y:Int},∀z∈az [y],lK z=true:=fun z hz=>by simp only[az,Vg,Vz,SH] at hz;subst hz;rfl
  refine⟨?_,?_⟩
  ·refine aA (cs:=az [x.lo]) S (fun a3 f _ S=> ?_);dsimp only[Xj,Xi] at S;refine⟨?_,?_⟩
   ·refine cK S 3 (ys:=az [x.lo]) rfl rfl (by decide) (by omega) (bI.of_at (S.at 6 rfl)) rfl one fun Y m1 H g5 M S=> ?_;dsimp only[List.set] at S;refine aX (S.cell 5 rfl rfl) (aX (S.cell 5 rfl rfl) ?_);refine aA (cs:=az [x.hi]) S (fun a4 g6 _ S=> ?_);dsimp only[Xj,Xi] at S;refine cK S 4 (ys:=az [x.hi]) rfl rfl (by decide) (by omega) (bI.of_at (S.at 7 rfl)) rfl one fun Z X J g7 N S=> ?_;dsimp only[List.set] at S;exact aX (S.cell 5 rfl rfl) (aX (S.cell 5 rfl rfl) (O M N (S.pw [0,1,2,3,4,5])))
   ·refine aA (cs:=az [x.hi]) S (fun a5 g6 _ S=> ?_);dsimp only[Xj,Xi] at S;refine cK S 3 (ys:=az [x.lo]) rfl rfl (by decide) (by omega) (bI.of_at (S.at 6 rfl)) rfl one fun Y m1 H g5 M S=> ?_;dsimp only[List.set] at S;refine aX (S.cell 5 rfl rfl) (aX (S.cell 5 rfl rfl) ?_);refine cK S 4 (ys:=az [x.hi]) rfl rfl (by decide) (by omega) (bI.of_at (S.at 7 rfl)) rfl one fun Z X J g7 N S=> ?_;dsimp only[List.set] at S;exact aX (S.cell 5 rfl rfl) (aX (S.cell 5 rfl rfl) (O M N (S.pw [0,1,2,3,4,5])))
  ·refine aA (cs:=az [x.hi]) S (fun a6 f _ S=> ?_);dsimp only[Xj,Xi] at S;refine aA (cs:=az [x.lo]) S (fun a7 g6 _ S=> ?_);dsimp only[Xj,Xi] at S;refine cK S 3 (ys:=az [x.lo]) rfl rfl (by decide) (by omega) (bI.of_at (S.at 7 rfl)) rfl one fun Y m1 H g5 M S=> ?_;dsimp only[List.set] at S;refine aX (S.cell 5 rfl rfl) (aX (S.cell 5 rfl rfl) ?_);refine cK S 4 (ys:=az [x.hi]) rfl rfl (by decide) (by omega) (bI.of_at (S.at 6 rfl)) rfl one fun Z X J g7 N S=> ?_;dsimp only[List.set] at S;exact aX (S.cell 5 rfl rfl) (aX (S.cell 5 rfl rfl) (O M N (S.pw [0,1,2,3,4,5])))
 ·have ei:i=l:=by omega
  subst ei;rw[N6 (by omega)] at S ⊢;refine aN S 1 rfl (x:=nv.t) rfl ?_;refine(LO nv (S.r 0 _ rfl)).mono ?_;rintro _ g2 ⟨rfl,F⟩;replace S:=S.fra0 F;refine⟨_,_,rfl,?_⟩;obtain⟨L,E⟩: ∃L,(if dV ((hD nv.nd).1+(hD nv.nd).2)>0 then(if 0<yF (rs.getD 0 .zero).lo rs then 0 else yF (rs.getD 0 .zero).lo rs) else yF (rs.getD 0 .zero).lo rs)=L:=⟨_,rfl⟩;obtain⟨U,eU⟩: ∃U,(if dV ((hD nv.nd).1+(hD nv.nd).2)>0 then(if 0>oh (rs.getD 0 .zero).hi rs then 0 else oh (rs.getD 0 .zero).hi rs) else oh (rs.getD 0 .zero).hi rs)=U:=⟨_,rfl⟩
  have eN:fN nv.nd w rs=if gY nv.kind then cW nv.nd L U else if nv.kind=4∨nv.kind=12 then⟨L,U,dV (nv.size*L),dV (nv.size*U)⟩ else if nv.kind=7 then⟨tx (rs.map Rg.lo),tx (rs.map Rg.hi),lk Rg.lo rs,lk Rg.hi rs⟩
   else if nv.kind=9 then fV (fz L nv.low nv.high) (fz U nv.low nv.high) else if nv.kind=10 then fV (gL L nv.mult nv.shift) (gL U nv.mult nv.shift) else if nv.kind=11 then fV 0 (dV (w-1)) else fV L U:=by
   rw[←E,←eU];rfl
  refine⟨fun s g=>s=(w,⟨b1,0,none⟩,⟨b,0,none⟩,L,U,(p1,i,c1),(p2,i,c2),⟨b9,0,none⟩,())∧aJ h no g [blk b Rg.zero.cells,blk b1 nv.cells,blk b9 [.int .i64 0,.int .i64 0,.int .i64 (lk Rg.lo rs),.int .i64 (lk Rg.hi rs)],own 1 p1 i c1 (az (rs.map Rg.lo)),own 1 p2 i c2 (az (rs.map Rg.hi))] [blk 0 (az bo),nv.rows,row p (jm rs)],?_,?_⟩
  ·rw[eN];clear S F ap;rintro s g ⟨rfl,S⟩;unfold uY;dsimp only;simp only[aQ,SI];have kd:aD g ⟨b1,0,none⟩=some (.int .i64 nv.kind):=S.cell 1 rfl rfl
   have aa:gY nv.kind→aT A1 g ⟨b1,0,none⟩ fun a2=>au P fS #[(bB A1 a2),(.int .i64 L),(.int .i64 U)] g fun a1 ao=> ∃q A B C:Int,a1=(.agg #[(.int .i64 q),(.int .i64 A),(.int .i64 B),(.int .i64 C)])∧
    aW ao ⟨b,0,none⟩ (.int .i64 q) fun h1=>aW h1 ⟨b,1,none⟩ (.int .i64 A) fun h2=>aW h2 ⟨b,2,none⟩ (.int .i64 B) fun h3=>aW h3 ⟨b,3,none⟩ (.int .i64 C) fun j=>
    ah .i64 j ⟨b,0,none⟩ fun n0=>ah .i64 j ⟨b,1,none⟩ fun n1=>ah .i64 j ⟨b,2,none⟩ fun n2=>ah .i64 j ⟨b,3,none⟩ fun n3=>Value.agg #[.int .i64 n0,.int .i64 n1,.int .i64 n2,.int .i64 n3]=(cW nv.nd L U).v∧cp no h j:=by
    intro hk;refine aN S 1 rfl (x:=nv.t) rfl ?_;refine(Kp ar (S.r 1 _ rfl) hw hb (aw hk) L U).mono ?_;rintro _ g2 ⟨rfl,F⟩;replace S:=S.fra0 F;exact⟨_,_,_,_,rfl,qP S (cW nv.nd L U) (K:=fun v g=>v=(cW nv.nd L U).v∧cp no h g) fun e S=>⟨rfl,S.fra⟩⟩
   have aj: ∀{l u:Int} {g:af},aJ h no g [blk b Rg.zero.cells,blk b1 nv.cells,blk b9 [.int .i64 0,.int .i64 0,.int .i64 (lk Rg.lo rs),.int .i64 (lk Rg.hi rs)],own 1 p1 i c1 (az (rs.map Rg.lo)),own 1 p2 i c2 (az (rs.map Rg.hi))] [blk 0 (az bo),nv.rows,row p (jm rs)]→
    au P gc #[.int .i64 l,.int .i64 u] g fun v e=> ∃q A B C:Int,v=(.agg #[(.int .i64 q),(.int .i64 A),(.int .i64 B),(.int .i64 C)])∧
    aW e ⟨b,0,none⟩ (.int .i64 q) fun h1=>aW h1 ⟨b,1,none⟩ (.int .i64 A) fun h2=>aW h2 ⟨b,2,none⟩ (.int .i64 B) fun h3=>aW h3 ⟨b,3,none⟩ (.int .i64 C) fun j=>
    ah .i64 j ⟨b,0,none⟩ fun n0=>ah .i64 j ⟨b,1,none⟩ fun n1=>ah .i64 j ⟨b,2,none⟩ fun n2=>ah .i64 j ⟨b,3,none⟩ fun n3=>Value.agg #[.int .i64 n0,.int .i64 n1,.int .i64 n2,.int .i64 n3]=(fV l u).v∧cp no h j:=by
    intro l u g S;refine(yE l u).mono ?_;rintro _ g2 ⟨rfl,F⟩;replace S:=S.fra0 F;exact⟨_,_,_,_,rfl,qP S (fV l u) (K:=fun v g=>v=(fV l u).v∧cp no h g) fun e S=>⟨rfl,S.fra⟩⟩
   refine ae kd (aH (fun k1=> ?_) (fun k1=>aH (fun k2=> ?_) (fun k2=>aH (fun k6=> ?_) (fun k6=> ?_))))
   ·rw[if_pos (.inl k1)];exact aa (.inl k1)
   ·rw[if_pos (.inr (.inl k2))];exact aa (.inr (.inl k2))
   ·rw[if_pos (.inr (.inr k6))];exact aa (.inr (.inr k6))
   rw[if_neg (by rintro(h|h|h)<;>omega)];refine aH (fun k4=> ?_) (fun k4=>aH (fun ag=> ?_) (fun ag=> ?_))
   ·rw[if_pos (.inl k4)];refine ae (n:=nv.size) (S.cell 1 rfl rfl) (ae (n:=nv.size) (S.cell 1 rfl rfl) ?_);exact qP S ⟨L,U,dV (nv.size*L),dV (nv.size*U)⟩ (K:=fun v g=>v=(⟨L,U,dV (nv.size*L),dV (nv.size*U)⟩:Rg).v∧cp no h g) fun e S=>⟨rfl,S.fra⟩
   ·rw[if_pos (.inr ag)];refine ae (n:=nv.size) (S.cell 1 rfl rfl) (ae (n:=nv.size) (S.cell 1 rfl rfl) ?_);exact qP S ⟨L,U,dV (nv.size*L),dV (nv.size*U)⟩ (K:=fun v g=>v=(⟨L,U,dV (nv.size*L),dV (nv.size*U)⟩:Rg).v∧cp no h g) fun e S=>⟨rfl,S.fra⟩
   rw[if_neg (by rintro(h|h)<;>omega)];refine aH (fun k7=> ?_) (fun k7=> ?_)
   ·rw[if_pos k7];refine(Oj (S.own 3 rfl).row (by rw[UT];exact hl) (by omega)).mono ?_;rintro _ g2 ⟨rfl,F⟩;replace S:=S.fra0 F;refine⟨_,rfl,?_⟩;refine(Oj (S.own 4 rfl).row (by rw[UT];exact hl) (by omega)).mono ?_;rintro _ g3 ⟨rfl,F⟩;replace S:=S.fra0 F;refine⟨_,rfl,?_⟩;refine aE S 2 rfl (jb rfl) fun _ _ S=> ?_;dsimp only[List.set] at S;refine aE S 2 rfl (jb rfl) fun _ _ S=> ?_;dsimp only[List.set] at S;refine ae (S.cell 2 rfl rfl) (ae (S.cell 2 rfl rfl) (ae (S.cell 2 rfl rfl) (ae (S.cell 2 rfl rfl) ?_)));exact qP S ⟨tx (rs.map Rg.lo),tx (rs.map Rg.hi),lk Rg.lo rs,lk Rg.hi rs⟩ (K:=fun v g=>v=(⟨tx (rs.map Rg.lo),tx (rs.map Rg.hi),lk Rg.lo rs,lk Rg.hi rs⟩:Rg).v∧cp no h g) fun e S=>⟨rfl,S.fra⟩
   rw[if_neg k7];refine aH (fun k9=> ?_) (fun k9=> ?_)
   ·rw[if_pos k9];refine ae (n:=nv.low) (S.cell 1 rfl rfl) (ae (n:=nv.high) (S.cell 1 rfl rfl) (ae (n:=nv.low) (S.cell 1 rfl rfl) (ae (n:=nv.high) (S.cell 1 rfl rfl) ?_)));refine(tM _ _ _).mono ?_;rintro _ g2 ⟨rfl,rfl⟩;refine⟨_,rfl,aX (S.cell 1 rfl rfl) (aX (S.cell 1 rfl rfl) ?_)⟩;refine(tM _ _ _).mono ?_;rintro _ g3 ⟨rfl,rfl⟩;refine⟨_,rfl,aX (S.cell 1 rfl rfl) (aX (S.cell 1 rfl rfl) ?_)⟩;refine(yE _ _).mono ?_;rintro _ f ⟨rfl,F⟩;replace S:=S.fra0 F;refine⟨_,_,_,_,rfl,aX (S.cell 1 rfl rfl) (aX (S.cell 1 rfl rfl) (aX (S.cell 1 rfl rfl) (aX (S.cell 1 rfl rfl) ?_)))⟩;exact qP S (fV (fz L nv.low nv.high) (fz U nv.low nv.high)) (K:=fun v g=>v=(fV (fz L nv.low nv.high) (fz U nv.low nv.high)).v∧cp no h g) fun e S=>⟨rfl,S.fra⟩
   rw[if_neg k9];refine aH (fun T=> ?_) (fun T=> ?_)
   ·rw[if_pos T];refine ae (n:=nv.mult) (S.cell 1 rfl rfl) (ae (n:=nv.shift) (S.cell 1 rfl rfl) (ae (n:=nv.mult) (S.cell 1 rfl rfl) (ae (n:=nv.shift) (S.cell 1 rfl rfl) ?_)));refine(Dh _ _ _).mono ?_;rintro _ g2 ⟨rfl,F⟩;replace S:=S.fra0 F;refine⟨_,rfl,aX (S.cell 1 rfl rfl) (aX (S.cell 1 rfl rfl) ?_)⟩;refine(Dh _ _ _).mono ?_;rintro _ g3 ⟨rfl,F⟩;replace S:=S.fra0 F;refine⟨_,rfl,aX (S.cell 1 rfl rfl) (aX (S.cell 1 rfl rfl) ?_)⟩;refine(yE _ _).mono ?_;rintro _ f ⟨rfl,F⟩;replace S:=S.fra0 F;refine⟨_,_,_,_,rfl,aX (S.cell 1 rfl rfl) (aX (S.cell 1 rfl rfl) (aX (S.cell 1 rfl rfl) (aX (S.cell 1 rfl rfl) ?_)))⟩;exact qP S (fV (gL L nv.mult nv.shift) (gL U nv.mult nv.shift)) (K:=fun v g=>v=(fV (gL L nv.mult nv.shift) (gL U nv.mult nv.shift)).v∧cp no h g) fun e S=>⟨rfl,S.fra⟩
   rw[if_neg T];refine aH (fun V=> ?_) (fun V=> ?_)
   ·rw[if_pos V];exact aj S
   ·rw[if_neg V];exact aj S
  ·refine am (fun hp=> ?_) (fun hp=> ?_)
   ·rw[if_pos hp] at E eU;rw[E,eU];exact⟨rfl,S⟩
   ·rw[if_neg hp] at E eU;rw[E,eU];exact⟨rfl,S⟩
theorem Qj {nv:Nv} (f:nv.ok) (y:nv.rows.P h) (t:KT h) (z:nv.weights.l<2 ^ 40) (u:nv.bias.l<2 ^ 40) (j:gY nv.kind→1≤nv.bias.l) {p:Option Addr} {l c:Nat} {rs:List Rg} (A:bI h p (jm rs)) (x:rs.length=l) (d:1≤l) (e:l<2 ^ 40) (w:Int):
 au P qZ #[nv.v,.int .i64 w,.slice p l c] h fun v r=>v=(fN nv.nd w rs).v∧cp no h r:=by
 refine CN _ _ _ _ _ ?_;unfold Ep;have S:=(((aJ.start h no).read (blk 0 (az bo)) t).read nv.rows y).read (row p (jm rs)) A;refine aA (cs:=nv.cells) S (fun b1 _ _ S=> ?_);dsimp only[Xj,Xi] at S;refine aA (cs:=Rg.zero.cells) S (fun n D _ S=> ?_);dsimp only[Xj,Xi] at S;obtain⟨a,ea⟩:=(S.row 2 rfl).some_of (by rw[j3];omega);have b:=S.row 2 rfl;rw[ea] at b;obtain⟨B,C,F,G⟩:=CW (i:=0) b (aO (by omega));refine aB ea (k:=0) rfl (by omega) (aB ea (k:=0) rfl (by omega) ?_);refine ae B (ae C ?_);refine aA S (fun b9 E _ S=> ?_);dsimp only[Xj,Xi] at S;refine aE S 2 rfl (jb rfl) fun _ _ S=> ?_;dsimp only[List.set] at S;refine aE S 2 rfl (jb rfl) fun _ _ S=> ?_;dsimp only[List.set] at S;refine aE S 2 rfl (jb rfl) fun _ _ S=> ?_;dsimp only[List.set] at S;refine aE S 2 rfl (jb rfl) fun _ _ S=> ?_;dsimp only[List.set] at S;have m:=((S.pw [1,0,2]).nil 1).nil 1;have q:rs.getD 0 .zero=rs[0]:=by rw[UV,aO (by omega)];rfl
 refine aP (LP h nv w b1 n b9 p l c rs) l ⟨0,none,none,0,0,by rw[q];rfl,by omega,rfl,m⟩ ?_;intro H s g I;exact Kq f z u j x d e w I
end
end
section
def LQ:List Value→Nat→List Value→List Value
 |xs,_,[]=>xs
 |xs,k,v::r=>LQ (xs.set k v) (k+1) r
theorem Ge: ∀(a xs:List Value) (k j:Nat),(LQ xs k a)[j]? =if k≤j∧j<k+a.length∧j<xs.length then a[j-k]? else xs[j]?
 |[],xs,k,j=>by rw[if_neg (by simp only[Vf];omega)];rfl
 |v::r,xs,k,j=>by
  have e:=Ge r (xs.set k v) (k+1) j;show(LQ (xs.set k v) (k+1) r)[j]? =_;rw[e,U1];by_cases b:k+1≤j∧j<k+1+r.length∧j<xs.length
  ·rw[if_pos b,if_pos (by simp only[UY];omega)];have:j-k=(j-(k+1))+1:=by omega
   rw[this,List.getElem?_cons_succ]
  ·rw[if_neg b];by_cases c:j=k
   ·subst c;by_cases d:j<xs.length
    ·rw[if_pos (by simp only[UY];omega),Ve d,VJ];rfl
    ·rw[if_neg (fun h=>d h.2.2),Vc (by rw[U1];omega),Vc (by omega)]
   ·rw[if_neg (by simp only[UY];omega),VS (fun h=>c h.symm)]
theorem De {α:Type} (f:α→List Value) (c:Nat) (b: ∀x,(f x).length=c) (h0:0<c) {l:List α} {i:Nat} (x:α) (hi:i<l.length):LQ (l.map f).flatten (i*c) (f x)=((l.set i x).map f).flatten:=by
 apply Vo;intro j;rw[Ge,b];have u:=qA f c b l;have g:=qA f c b (l.set i x);rw[U1] at g;have e:j=(j / c)*c+j % c:=by rw[Nat.mul_comm];exact(Nat.div_add_mod j c).symm
 have m:j % c<c:=Nat.mod_lt _ h0;have r:i*c+c≤l.length*c:=by have:=Vn c (show i+1≤l.length from hi);rw[Vt,WE] at this;exact this
 by_cases k:j / c<l.length
 ·obtain⟨y,a⟩: ∃y,(l.set i x)[j / c]? =some y:=⟨_,aO (by rw[U1];exact k)⟩;have p:=vM f c b (l.set i x) (j / c) (j % c) y a m;rw[←e] at p;rw[p];by_cases d:j / c=i
  ·have:y=x:=by rw[←d,Ve k] at a;exact(Option.some.inj a).symm
   subst this;have s:j=i*c+j % c:=by rw[←d];exact e
   rw[if_pos ⟨by omega,by omega,by omega⟩];congr 1;omega
  ·rw[VS (fun h=>d h.symm)] at a;have n:=vM f c b l (j / c) (j % c) y a m;rw[←e] at n;rw[if_neg,n];rintro⟨q,t,_⟩;have:j / c=i:=Nat.div_eq_of_lt_le q (by rw[Vt,WE];omega);exact d this
 ·have s:l.length*c≤j:=by
   have:=Vn c (show l.length≤j / c by omega);omega
  rw[if_neg (by omega),Vc (by omega),Vc (by omega)]
theorem Ah {rs:List Rg} {i:Nat} (hi:i<rs.length) (x:Rg):(((((jm rs).set (i*4) (.int .i64 x.lo)).set (i*4+1) (.int .i64 x.hi)).set (i*4+2) (.int .i64 x.alo)).set (i*4+3) (.int .i64 x.ahi))=jm (rs.set i x):=
 De Rg.cells 4 (fun _=>rfl) (by decide) x hi
theorem Gf: ∀n,(List.replicate n Rg.zero.cells).flatten=jm (List.replicate n .zero)
 |n=>by unfold jm;rw[List.map_replicate]
def jE (ns:List Nd) (W:Int→Int):List Int→List Rg→Option (List Rg)
 |[],o=>some o
 |i::r,o=>
  match ns[i.toNat-1]? with
  |none=>some o
  |some n=>
   if(fN n (W (n.inn.getD 0 0)) (n.inn.map fun k=>o.getD k.toNat .zero)).alo< -68719476736∨(fN n (W (n.inn.getD 0 0)) (n.inn.map fun k=>o.getD k.toNat .zero)).ahi>68719476736 then none
   else jE ns W r (o.set i.toNat (fN n (W (n.inn.getD 0 0)) (n.inn.map fun k=>o.getD k.toNat .zero)))
theorem yG {ns:List Nd} {W:Int→Int} {i:Int} {r:List Int} {o:List Rg} {n:Nd} (e:ns[i.toNat-1]? =some n):jE ns W (i::r) o=
 if(fN n (W (n.inn.getD 0 0)) (n.inn.map fun k=>o.getD k.toNat Rg.zero)).alo< -68719476736∨(fN n (W (n.inn.getD 0 0)) (n.inn.map fun k=>o.getD k.toNat Rg.zero)).ahi>68719476736 then none
 else jE ns W r (o.set i.toNat (fN n (W (n.inn.getD 0 0)) (n.inn.map fun k=>o.getD k.toNat Rg.zero))):=by rw[jE,e]
def Gr.ranges (g:Gr) (W:Int→Int):Option (List Rg):=jE g.nodes W (cC g.nodes) (fV g.low g.high::List.replicate g.nodes.length .zero)
def Gv.sizes (gv:Gv):Prop:=gv.l<2 ^ 20∧ ∀n∈gv.ns,n.inn.l<2 ^ 20∧n.weights.l<2 ^ 40∧n.bias.l<2 ^ 40
section
variable {h:af} {gv:Gv} {W R:Int→Int} {pos:Int→Nat}
theorem Df (a:gv.ok) (e:bI h gv.p (aF gv.ns)) (f:(aU gv.ns).P h) (b:gv.sizes) (c:KT h):au P gP #[gv.v] h (zZ gv.gr.look h):=
 Mr a e f b.1 (fun n d=>by have:=b.2 n d;omega) c
def RQ (xs:List Int) (h:af) (v:Value) (a:af):Prop:= ∃q:Sl,v=q.v∧q.ok∧q.xs=xs∧aJ h no a [own 1 q.p q.l q.c (az q.xs)] []
theorem Ai (a:gv.ok) (g:bI h gv.p (aF gv.ns)) (i:(aU gv.ns).P h) (j:gv.sizes) (f:KT h):au P gA #[gv.v] h (RQ gv.gr.look.widths h):=by
 refine zp _ ?_;unfold zo;have S:=(((aJ.start h no).read (blk 0 (az bo)) f).read (row gv.p (aF gv.ns)) g).read (aU gv.ns) i;refine aA (cs:=gv.cells) S fun b1 l _ S=> ?_;dsimp only[Xj,Xi] at S;refine aN S 0 rfl (x:=gv.t) rfl ?_;refine(Df a (S.row 1 rfl) (S.r 2 _ rfl) j (S.r 0 _ rfl)).mono ?_;rintro _ k ⟨o,w,r,rfl,_,e,_,_,b,_,c⟩;replace S:=S.add c fun _ _ h=>h;dsimp only[Xi,Xj] at S;refine⟨_,_,_,_,_,_,_,_,_,_,rfl,?_⟩;refine aA (cs:=[.slice none 0 0,.slice none 0 0,.slice none 0 0]) S fun d _ _ S=> ?_;dsimp only[Xi,Xj] at S;refine aE S 4 rfl (jb rfl) fun _ _ S=> ?_;dsimp only[List.set] at S;refine aE S 4 rfl (jb rfl) fun _ _ S=> ?_;dsimp only[List.set] at S;refine aE S 4 rfl (jb rfl) fun _ _ S=> ?_;dsimp only[List.set] at S;exact ak (S.cell 4 rfl rfl) ⟨w,rfl,b,e,yu (S.pw [2])⟩
theorem Dg (a:gv.ok) (g:bI h gv.p (aF gv.ns)) (i:(aU gv.ns).P h) (j:gv.sizes) (f:KT h):au P jo #[gv.v] h (RQ gv.gr.look.order h):=by
 refine AJ _ ?_;unfold BI;have S:=(((aJ.start h no).read (blk 0 (az bo)) f).read (row gv.p (aF gv.ns)) g).read (aU gv.ns) i;refine aA (cs:=gv.cells) S fun b1 l _ S=> ?_;dsimp only[Xj,Xi] at S;refine aN S 0 rfl (x:=gv.t) rfl ?_;refine(Df a (S.row 1 rfl) (S.r 2 _ rfl) j (S.r 0 _ rfl)).mono ?_;rintro _ k ⟨o,w,r,rfl,e,_,_,b,_,_,c⟩;replace S:=S.add c fun _ _ h=>h;dsimp only[Xi,Xj] at S;refine⟨_,_,_,_,_,_,_,_,_,_,rfl,?_⟩;refine aA (cs:=[.slice none 0 0,.slice none 0 0,.slice none 0 0]) S fun d _ _ S=> ?_;dsimp only[Xi,Xj] at S;refine aE S 4 rfl (jb rfl) fun _ _ S=> ?_;dsimp only[List.set] at S;refine aE S 4 rfl (jb rfl) fun _ _ S=> ?_;dsimp only[List.set] at S;refine aE S 4 rfl (jb rfl) fun _ _ S=> ?_;dsimp only[List.set] at S;exact ak (S.cell 4 rfl rfl) ⟨o,rfl,b,e,yu (S.pw [1])⟩
theorem II (a:gv.ok) (g:bI h gv.p (aF gv.ns)) (i:(aU gv.ns).P h) (j:gv.sizes) (f:KT h):au P kR #[gv.v] h (RQ gv.gr.look.rates h):=by
 refine AO _ ?_;unfold BP;have S:=(((aJ.start h no).read (blk 0 (az bo)) f).read (row gv.p (aF gv.ns)) g).read (aU gv.ns) i;refine aA (cs:=gv.cells) S fun b1 l _ S=> ?_;dsimp only[Xj,Xi] at S;refine aN S 0 rfl (x:=gv.t) rfl ?_;refine(Df a (S.row 1 rfl) (S.r 2 _ rfl) j (S.r 0 _ rfl)).mono ?_;rintro _ k ⟨o,w,r,rfl,_,_,e,_,_,b,c⟩;replace S:=S.add c fun _ _ h=>h;dsimp only[Xi,Xj] at S;refine⟨_,_,_,_,_,_,_,_,_,_,rfl,?_⟩;refine aA (cs:=[.slice none 0 0,.slice none 0 0,.slice none 0 0]) S fun d _ _ S=> ?_;dsimp only[Xi,Xj] at S;refine aE S 4 rfl (jb rfl) fun _ _ S=> ?_;dsimp only[List.set] at S;refine aE S 4 rfl (jb rfl) fun _ _ S=> ?_;dsimp only[List.set] at S;refine aE S 4 rfl (jb rfl) fun _ _ S=> ?_;dsimp only[List.set] at S;exact ak (S.cell 4 rfl rfl) ⟨r,rfl,b,e,yu (S.pw [3])⟩
end
end
section
theorem tL {α:Type} {A:List α} {z x:α} {n j:Nat} (a:A.length=j) (b:j<n):(A++List.replicate (n-j) z).set j x=(A++[x])++List.replicate (n-(j+1)) z:=by
 rw[show n-j=(n-(j+1))+1 by omega,VO,List.set_append,if_neg (by omega),a,VJ,Wk,U6];rfl
theorem wB {α β:Type} (f:α→β) {l:List α} {j:Nat} (a:j<l.length):(l.take (j+1)).map f=(l.take j).map f++[f l[j]]:=by
 rw[py a,U4];rfl
theorem bM.node {g:Gr} {W R:Int→Int} {pos:Int→Nat} (r:bM g W R pos) {i:Nat} {n:Nd} (e:g.nodes[i]? =some n):1≤n.inn.length∧n.inn.length≤4∧(gY n.kind→1≤n.bias.length)∧dF n.kind 1 12∧ ∀j∈n.inn,0≤j∧j≤(g.nodes.length:Int):=by
 have c:=dc (r.chk i n e);simp only[UT] at c;obtain⟨l,m,_,p,_,q,t,_,_,a,_⟩:=c;refine⟨m,?_,?_,p,fun j u=>(bR r.first).2.2.2.2.2 n (UR e) j u⟩
 ·by_cases b:cJ n.kind
  ·exact(q b).2
  ·rw[t b];decide
 ·intro f;have s:=a.2.2.2.1 f;have v:1≤(n.inn.map W).getD 0 0:=by
   have b:(n.inn.map W).getD 0 0∈n.inn.map W:=by
    rw[UV,aO (by rw[UT];omega)];exact UU _
   exact(l _ b).1
  have k:=s.2.1;by_cases d:n.kind=2
  ·rw[if_pos d] at k;omega
  ·rw[if_neg d] at k;have:=a.2.2.1 (by rcases f with h|h|h;exact .inl h;exact absurd h d;exact .inr h);omega
section
variable {h:af} {gv:Gv} {W R:Int→Int} {pos:Int→Nat} {b1 b9:Nat} {o w:Sl} {Q:Value→af→Prop} {K1:(Addr×Qc×Qc×Qc×Int×Int×Unit)→af→Prop}
theorem HF (aa:gv.ok) (hs:gv.sizes) (rt:bM gv.gr W R pos) (eo:o.xs=cC gv.gr.nodes) (a3:o.ok) (ew:w.xs=(List.range (gv.gr.nodes.length+1)).map fun x:Nat=>W x) (aj:w.ok)
 {k:Nat} (hk:k<gv.l) {os:List Rg} (ab:os.length=gv.l+1) {g:af}
 (S:aJ h no g [blk b1 gv.cells,own 1 w.p w.l w.c (az w.xs),blk b9 (jm os),own 1 o.p o.l o.c (az o.xs)] [blk 0 (az bo),row gv.p (aF gv.ns),aU gv.ns])
 (H: ∀g' os',os'.length=gv.l+1→jE gv.gr.nodes W (o.xs.drop k) os=jE gv.gr.nodes W (o.xs.drop (k+1)) os'→
  aJ h no g' [blk b1 gv.cells,own 1 w.p w.l w.c (az w.xs),blk b9 (jm os'),own 1 o.p o.l o.c (az o.xs)] [blk 0 (az bo),row gv.p (aF gv.ns),aU gv.ns]→
  K1 (⟨b1,0,none⟩,(w.p,w.l,w.c),(some ⟨b9,0,none⟩,gv.l+1,gv.l+1),(o.p,o.l,o.c),(o.l:Int),((k+1:Nat):Int),()) g')
 (HE: ∀g',cp no h g'→jE gv.gr.nodes W (o.xs.drop k) os=none→Q (.tuple #[.slice none 0 0,.int .i64 16]) g'):
 jH Q K1 ⟨b1,0,none⟩ w.p w.l w.c (some ⟨b9,0,none⟩) (gv.l+1) (gv.l+1) o.p o.l o.c (o.l:Int) (k:Int) g:=by
 have ax:=aa.1;have m:gv.gr.nodes.length=gv.l:=by rw[←ax];simp[Gv.gr]
 have f:=bR rt.first;have a4:gv.l≤12:=by have:=f.2.1;omega
 have G:=rt.ordered;have B:k<o.xs.length:=by rw[eo,G,m];exact hk
 have a6:o.l=gv.l:=by rw[←a3.1,eo,G,m]
 have a7:w.l=gv.l+1:=by rw[←aj.1,ew,UT,V2,m]
 have ag:=fJ gv.gr.nodes gv.gr.nodes.length o.xs[k] (by rw[eo] at B;simp only[eo];exact UU B);obtain⟨i,ex⟩: ∃i:Nat,o.xs[k]=(i:Int)+1:=⟨(o.xs[k]-1).toNat,by have:=ag.1;omega⟩;rw[ex,m] at ag;have ay:i<gv.l:=by omega
 obtain⟨b,en⟩: ∃n,gv.ns[i]? =some n:=⟨_,aO (by omega)⟩;have z:=UR en;have O:=aa.2.2 b z;have ad:=hs.2 b z;have ilen:b.inn.xs.length=b.inn.l:=O.1.1;have E:gv.gr.nodes[i]? =some b.nd:=by show(gv.ns.map Nv.nd)[i]? =_;rw[UW,en];rfl
 obtain⟨n1,n4,a2,a9,I⟩:=rt.node E;have a1:1≤b.inn.l:=by rw[←ilen];exact n1
 have a8:b.inn.l≤4:=by rw[←ilen];exact n4
 have J: ∀{g:af} {W2:List aY},aJ h no g W2 [blk 0 (az bo),row gv.p (aF gv.ns),aU gv.ns]→b.rows.P g:=fun S=>S.r 2 _ rfl b.rows (U2 z);have e: ∀{g:af} {W2:List aY},aJ h no g W2 [blk 0 (az bo),row gv.p (aF gv.ns),aU gv.ns]→bI g b.inn.p (az b.inn.xs):=fun S=>J S b.inn.row (by simp)
 have d:jE gv.gr.nodes W (o.xs.drop k) os=if(fN b.nd (W (b.inn.xs.getD 0 0)) (b.inn.xs.map fun k=>os.getD k.toNat Rg.zero)).alo< -68719476736∨(fN b.nd (W (b.inn.xs.getD 0 0)) (b.inn.xs.map fun k=>os.getD k.toNat Rg.zero)).ahi>68719476736 then none
  else jE gv.gr.nodes W (o.xs.drop (k+1)) (os.set (i+1) (fN b.nd (W (b.inn.xs.getD 0 0)) (b.inn.xs.map fun k=>os.getD k.toNat Rg.zero))):=by
  rw[Vb B,ex,yG (n:=b.nd) (by rw[show((i:Int)+1).toNat-1=i by omega];exact E),show((i:Int)+1).toNat=i+1 by omega];rfl
 unfold jH;refine cI (decide_eq_true (by omega)) ?_;obtain⟨ao,X⟩:=(S.own 3 rfl).row.some_of (by rw[av];omega);have co:aD g (ao.add k)=some (.int .i64 ((i:Int)+1)):=by
  have:=(S.own 3 rfl).row;rw[X] at this;rw[←ex];exact this.cell (aI (aO B))
 obtain⟨an,V⟩:=(S.row 1 rfl).some_of (by rw[bW];omega);simp only[aQ,SI,oe,US];refine aB X (k:=k) rfl (by omega) (ae co ?_);refine ak (p:=gv.p) (l:=gv.l) (c:=gv.c) (S.cell 0 rfl rfl) ?_;rw[al (n:=(i:Int)+1-1) (by omega),show(i:Int)+1-1=(i:Int) by omega];refine aB V (k:=i) rfl ay ?_;simp only[oe];refine jd (by have:=S.row 1 rfl;rw[V] at this;exact this) en ?_;refine aA (cs:=aL cS (zT cS)) S fun T g2 _ S=> ?_;dsimp only[Xi,Xj] at S;refine cA S 4 rfl rfl (bu rfl) fun g3 _ S=> ?_;dsimp only[List.set] at S;refine ak (p:=b.inn.p) (l:=b.inn.l) (c:=b.inn.c) (S.cell 4 rfl rfl) ?_;refine dQ S b.inn.l rfl (zs:=Rg.zero.cells) rfl rfl (by decide) (by omega) (by omega) fun U g4 _ S=> ?_;dsimp only[Xi,Xj] at S;rw[Gf] at S;refine ak (p:=b.inn.p) (l:=b.inn.l) (c:=b.inn.c) (S.cell 4 rfl rfl) ?_
 refine aP (fun mm s g=> ∃j:Nat,s=(⟨b1,0,none⟩,(w.p,w.l,w.c),(some ⟨b9,0,none⟩,gv.l+1,gv.l+1),(i:Int)+1,⟨T,0,none⟩,(some ⟨U,0,none⟩,b.inn.l,b.inn.l),(o.p,o.l,o.c),(o.l:Int),(k:Int),(b.inn.p,b.inn.l,b.inn.c),(b.inn.l:Int),(j:Int),())∧j≤b.inn.l∧mm=b.inn.l-j∧
  aJ h no g [blk b1 gv.cells,own 1 w.p w.l w.c (az w.xs),blk b9 (jm os),own 1 o.p o.l o.c (az o.xs),blk T b.cells,blk U (jm ((b.inn.xs.take j).map (fun k=>os.getD k.toNat Rg.zero)++List.replicate (b.inn.l-j) Rg.zero))] [blk 0 (az bo),row gv.p (aF gv.ns),aU gv.ns]) b.inn.l ⟨0,rfl,by omega,rfl,S⟩ ?_
 clear S;rintro mm s g ⟨j,rfl,hj,rfl,S⟩;unfold qi;dsimp only;simp only[aQ,SI,oe,US];have ap: ∀{x:Int},0≤x→x≤(gv.l:Int)→ ∃a,w.p=some a∧aD g (a.add x.toNat)=some (.int .i64 (W x)):=by
  intro x D x1;obtain⟨aw,A⟩:=(S.own 1 rfl).row.some_of (by rw[av,aj.1];omega);refine⟨aw,A,?_⟩;have:=(S.own 1 rfl).row;rw[A] at this;refine this.cell (aI ?_);rw[ew,UW,Vj (by omega)];show some (W (x.toNat:Int))=_;rw[show(x.toNat:Int)=x by omega]
 refine am (fun C=> ?_) (fun a5=> ?_)
 ·have C:j<b.inn.l:=by omega
  have v:j<b.inn.xs.length:=by omega
  obtain⟨ai,q⟩:=(e S).some_of (by rw[av];omega);have ci:aD g (ai.add j)=some (.int .i64 b.inn.xs[j]):=by
   have:=e S;rw[q] at this;exact this.cell (aI (aO v))
  have Z:=I b.inn.xs[j] (UU v);rw[m] at Z;obtain⟨x,Y⟩: ∃x:Nat,b.inn.xs[j]=x:=⟨b.inn.xs[j].toNat,by omega⟩;rw[Y] at ci Z;refine aB q (k:=j) rfl C (ae ci ?_);have hx:os[x]? =some (os.getD x Rg.zero):=by rw[UV,aO (by omega)];rfl
  have rc:=CW (a:=⟨b9,0,none⟩) (bI.of_at (S.at 2 rfl)) hx;simp only[aQ,SI] at rc;obtain⟨r0,r1,r2,r3⟩:=rc;refine aB rfl (k:=x) rfl (by omega) ?_;simp only[aQ,SI,oe];refine ae r0 (ae r1 (ae r2 (ae r3 ?_)));refine aB rfl (k:=j) rfl C ?_;simp only[aQ,SI,oe];have u:((b.inn.xs.take j).map (fun k=>os.getD k.toNat Rg.zero)).length=j:=by rw[UT,U0];omega
  have ar:(jm ((b.inn.xs.take j).map (fun k=>os.getD k.toNat Rg.zero)++List.replicate (b.inn.l-j) Rg.zero)).length=b.inn.l*4:=by rw[j3,Rb,u,UZ];congr 1;omega
  refine aE S 5 rfl (by omega) fun _ _ S=> ?_;dsimp only[List.set] at S;refine aE S 5 rfl (by rw[U1];omega) fun _ _ S=> ?_;dsimp only[List.set] at S;refine aE S 5 rfl (by rw[U1,U1];omega) fun _ _ S=> ?_;dsimp only[List.set] at S;refine aE S 5 rfl (by rw[U1,U1,U1];omega) fun _ _ S=> ?_;dsimp only[List.set] at S;rw[Ah (by rw[Rb,u,UZ];omega) (os.getD x Rg.zero),tL u C] at S;have e2:=wB (fun k:Int=>os.getD k.toNat Rg.zero) v;rw[Y,oe] at e2;rw[←e2] at S;rw[al (n:=(j:Int)+1) (by omega)];exact⟨b.inn.l-(j+1),by omega,j+1,rfl,by omega,rfl,S⟩
 ·have ej:j=b.inn.l:=by omega
  subst ej;rw[N6 (by omega),VJ,Wt,Vh] at S;refine aN S 4 rfl (x:=b.t) rfl ?_;refine ak (p:=b.inn.p) (l:=b.inn.l) (c:=b.inn.c) (S.cell 4 rfl rfl) ?_;obtain⟨ai,q⟩:=(e S).some_of (by rw[av];omega);obtain⟨D,K⟩: ∃D,b.inn.xs[0]? =some D:=⟨_,aO (by omega)⟩;have a0:b.inn.xs.getD 0 0=D:=by rw[UV,K];rfl
  have N:=I D (UR K);rw[m] at N;have ci:aD g (ai.add 0)=some (.int .i64 D):=by
   have:=e S;rw[q] at this;exact this.cell (aI K)
  refine aB q (k:=0) rfl (by omega) (ae ci ?_);obtain⟨aw,A,cw⟩:=ap N.1 N.2;refine aB A (k:=D.toNat) (by omega) (by omega) (ae cw ?_);refine(Qj O (J S) (S.r 0 _ rfl) ad.2.1 ad.2.2 (fun hk=>by have:=a2 hk;rw[←O.2.2.1];exact this) (bI.of_at (S.at 5 rfl)) (by rw[UT];exact ilen) a1 (by omega) (W D)).mono ?_;rintro _ g2 ⟨rfl,F⟩;replace S:=S.fra0 F;refine⟨_,_,_,_,rfl,?_⟩;obtain⟨y,ey⟩: ∃y,fN b.nd (W D) (b.inn.xs.map fun k=>os.getD k.toNat Rg.zero)=y:=⟨_,rfl⟩;rw[a0,ey] at d;rw[ey];refine aB rfl (k:=i+1) rfl (by omega) ?_;rw[show((i:Int)+1).toNat=i+1 by omega];simp only[aQ,SI];have ar:(jm os).length=(gv.l+1)*4:=by rw[j3,ab]
  refine aE S 2 rfl (by omega) fun _ _ S=> ?_;dsimp only[List.set] at S;refine aE S 2 rfl (by rw[U1];omega) fun _ _ S=> ?_;dsimp only[List.set] at S;refine aE S 2 rfl (by rw[U1,U1];omega) fun _ _ S=> ?_;dsimp only[List.set] at S;refine aE S 2 rfl (by rw[U1,U1,U1];omega) fun _ _ S=> ?_;dsimp only[List.set] at S;rw[Ah (by omega) y] at S;have hy:(os.set (i+1) y)[i+1]? =some y:=Ve (by omega);have rc:=CW (a:=⟨b9,0,none⟩) (bI.of_at (S.at 2 rfl)) hy;simp only[aQ,SI] at rc;obtain⟨_,_,r2,r3⟩:=rc;refine aB rfl (k:=i+1) rfl (by omega) ?_;simp only[aQ,SI];refine ae r2 (am (fun M=> ?_) (fun M=> ?_))
  ·exact HE _ S.fra (by rw[d,if_pos (.inl M)])
  ·refine aB rfl (k:=i+1) rfl (by omega) ?_;simp only[aQ,SI];refine ae r3 (am (fun L=> ?_) (fun L=> ?_))
   ·exact HE _ S.fra (by rw[d,if_pos (.inr L)])
   ·rw[al (n:=(k:Int)+1) (by omega)];refine H _ (os.set (i+1) y) (by rw[U1];exact ab) ?_ (S.pw [0,1,2,3]);rw[d,if_neg (by rintro(h|h);exact M h;exact L h)]
theorem MM (a:gv.ok) (hn:bI h gv.p (aF gv.ns)) (hr:(aU gv.ns).P h) (u:gv.sizes) (X:KT h) (rt:bM gv.gr W R pos):
 au P m9 #[gv.v] h fun v V=>(∃(q:Option Addr) (m d:Nat),v= .tuple #[.slice q m d,.int .i64 (if(gv.gr.ranges W).isSome then 0 else 16)])∧cp no h V:=by
 refine zt _ ?_;unfold zq;have H:=a.1;have b:gv.gr.nodes.length=gv.l:=by rw[←H];simp[Gv.gr]
 have M:gv.l≤12:=by have:=(bR rt.first).2.1;omega
 have S:=(((aJ.start h no).read (blk 0 (az bo)) X).read (row gv.p (aF gv.ns)) hn).read (aU gv.ns) hr;refine aA (cs:=gv.cells) S fun b1 h1 _ S=> ?_;dsimp only[Xj,Xi] at S;refine aN S 0 rfl (x:=gv.t) rfl ?_;refine(Hd a (S.row 1 rfl) (S.r 2 _ rfl) u.1 (fun n Z=>by have:=u.2 n Z;omega) (S.r 0 _ rfl)).mono ?_;rintro _ g2 ⟨rfl,F⟩;replace S:=S.fra0 F;have E:=rt.look;refine⟨_,rfl,bh (fun Y=>absurd (by rw[E]) Y) (fun _=> ?_)⟩;refine aN S 0 rfl (x:=gv.t) rfl ?_;refine(Ai a (S.row 1 rfl) (S.r 2 _ rfl) u (S.r 0 _ rfl)).mono ?_;rintro _ g3 ⟨⟨wp,wl,wc,wx⟩,rfl,y,L,z⟩;have f:wx=(List.range (gv.gr.nodes.length+1)).map fun x:Nat=>W x:=by rw[E] at L;exact L
 obtain rfl:wl=gv.l+1:=by have:=y.1;dsimp only at this;rw[←this,f,UT,V2,b]
 dsimp only at z;replace S:=S.add z fun _ _ h=>h;dsimp only[Xi,Xj] at S;refine⟨_,_,_,rfl,?_⟩;refine dQ S (gv.l+1) rfl (zs:=Rg.zero.cells) rfl rfl (by decide) (by omega) (by omega) fun b9 g4 _ S=> ?_;dsimp only[Xi,Xj] at S;rw[Gf] at S;refine ae (n:=gv.low) (S.cell 0 rfl rfl) (ae (n:=gv.high) (S.cell 0 rfl rfl) ?_);refine(yE _ _).mono ?_;rintro _ g5 ⟨rfl,F⟩;replace S:=S.fra0 F;refine⟨_,_,_,_,rfl,?_⟩;simp only[oe];refine aB rfl (k:=0) rfl (by omega) ?_;simp only[aQ,SI,Vi,Nat.zero_mul];have G:(jm (List.replicate (gv.l+1) .zero)).length=(gv.l+1)*4:=by rw[j3,UZ]
 refine aE S 2 rfl (by omega) fun _ _ S=> ?_;dsimp only[List.set] at S;refine aE S 2 rfl (by rw[U1];omega) fun _ _ S=> ?_;dsimp only[List.set] at S;refine aE S 2 rfl (by rw[U1,U1];omega) fun _ _ S=> ?_;dsimp only[List.set] at S;refine aE S 2 rfl (by rw[U1,U1,U1];omega) fun _ _ S=> ?_;dsimp only[List.set] at S;have D:=Ah (rs:=List.replicate (gv.l+1) .zero) (i:=0) (by rw[UZ];omega) (fV gv.low gv.high);simp only[Nat.zero_mul,SI] at D;rw[D] at S;refine aN S 0 rfl (x:=gv.t) rfl ?_;refine(Dg a (S.row 1 rfl) (S.r 2 _ rfl) u (S.r 0 _ rfl)).mono ?_;rintro _ g6 ⟨o,rfl,e,A,z⟩;rw[E] at A;replace S:=S.add z fun _ _ h=>h;dsimp only[Xi,Xj] at S;have aa:o.l=gv.l:=by rw[←e.1,A,rt.ordered,b]
 refine⟨_,_,_,rfl,?_⟩
 refine aP (fun N s g=> ∃(k:Nat) (os:List Rg),s=(⟨b1,0,none⟩,(wp,gv.l+1,wc),(some ⟨b9,0,none⟩,gv.l+1,gv.l+1),(o.p,o.l,o.c),(o.l:Int),(k:Int),())∧k≤gv.l∧N=gv.l-k∧os.length=gv.l+1∧gv.gr.ranges W=jE gv.gr.nodes W (o.xs.drop k) os∧
  aJ h no g [blk b1 gv.cells,own 1 wp (gv.l+1) wc (az wx),blk b9 (jm os),own 1 o.p o.l o.c (az o.xs)] [blk 0 (az bo),row gv.p (aF gv.ns),aU gv.ns]) gv.l ⟨0,_,rfl,by omega,rfl,by rw[U1,UZ],?_,S⟩ ?_
 ·rw[Wg,A,VO,Wk];unfold Gr.ranges;rw[b];rfl
 clear S D G;rintro N s g ⟨k,os,rfl,hk,rfl,J,B,S⟩;dsimp only;by_cases I:k<gv.l
 ·refine HF (w:=⟨wp,gv.l+1,wc,wx⟩) a u rt A e f y I J S (fun U K j C T=> ?_) (fun U O C=> ?_)
  ·exact⟨gv.l-(k+1),by omega,k+1,K,rfl,by omega,rfl,j,by rw[B,C],T⟩
  ·rw[B,C];exact⟨⟨_,_,_,rfl⟩,O⟩
 ·unfold jH;refine bQ (decide_eq_false (by omega)) ?_;rw[Vq (by rw[e.1];omega)] at B;rw[B];exact⟨⟨_,_,_,rfl⟩,S.fra⟩
end
end
end Go.Proofs.YtdhpmegbmjoekaaGreatDoor.G

