/- CMade CMade2 CMade3 CMade4, in one text. -/
import Derived.Test.YtdhpmegbmjoekaaGreatDoorCKind14d
set_option linter.unusedVariables false
set_option linter.unusedSimpArgs false
namespace Go.Proofs.YtdhpmegbmjoekaaGreatDoor.G
open Go Go.Sh
section
abbrev sB(r:Nat)(p:Option Addr)(l c a:Nat):bc:=aJ r [.slice p l c,.int .i64 a]
abbrev Mw(size step gap left right:Int):Prop:=dB size 1 4∧dB step 1 3∧dB gap 1 3∧dB left 0 ((size-1)*gap)∧dB right 0 ((size-1)*gap)
inductive GoodN (ins ws:List Int):Bool→Nd→Prop
 |add (st:Bool):2≤ins.length→(∀x∈ws,x=ws.getD 0 0)→GoodN ins ws st ⟨7,ins,0,0,0,0,0,0,[],[],0,0,0,0,0⟩
 |join (st:Bool):2≤ins.length→gW ws≤16→GoodN ins ws st ⟨8,ins,0,0,0,0,0,0,[],[],0,0,0,0,0⟩
 |conv (width size step gap left right:Int) (ww bb:List Int):Mw size step gap left right→dB width 1 3→(ww.length:Int)=width*size*ws.getD 0 0→(bb.length:Int)=width→bv (-9) 9 ww→bv (-50) 50 bb→
  GoodN ins ws false ⟨1,ins.take 1,width,size,step,gap,left,right,ww,bb,0,0,0,0,0⟩
 |depth (size step gap left right:Int) (ww bb:List Int):Mw size step gap left right→(ww.length:Int)=size*ws.getD 0 0→(bb.length:Int)=ws.getD 0 0→bv (-9) 9 ww→bv (-50) 50 bb→
  GoodN ins ws false ⟨2,ins.take 1,0,size,step,gap,left,right,ww,bb,0,0,0,0,0⟩
 |pool (k size step gap left right:Int):k=3∨k=4→Mw size step gap left right→GoodN ins ws false ⟨k,ins.take 1,0,size,step,gap,left,right,[],[],0,0,0,0,0⟩
 |smooth (size:Int):dB size 1 5→GoodN ins ws false ⟨12,ins.take 1,0,size,0,0,0,0,[],[],0,0,0,0,0⟩
 |whole:GoodN ins ws false ⟨5,ins.take 1,0,0,0,0,0,0,[],[],0,0,0,0,0⟩
 |dense (st:Bool) (width:Int) (ww bb:List Int):dB width 1 3→(ww.length:Int)=width*ws.getD 0 0→(bb.length:Int)=width→bv (-12) 12 ww→bv (-5000) 5000 bb→
  GoodN ins ws st ⟨6,ins.take 1,width,0,0,0,0,0,ww,bb,0,0,0,0,0⟩
 |clamp (st:Bool) (low high:Int):dB low (-150) 49→dB high low (low+299)→GoodN ins ws st ⟨9,ins.take 1,0,0,0,0,0,0,[],[],0,0,low,high,0⟩
 |scale (st:Bool) (mult shift:Int):dB mult 0 32767→dB shift 0 19→GoodN ins ws st ⟨10,ins.take 1,0,0,0,0,0,0,[],[],mult,shift,0,0,0⟩
 |best (st:Bool):GoodN ins ws st ⟨11,ins.take 1,0,0,0,0,0,0,[],[],0,0,0,0,0⟩
section
variable {h0 h:ah} {T:Nat→Prop} {W R:List bc} {r l c a:Nat} {p:Option Addr} {L:List Int}
theorem DV(x:Int){n:Nat}(h0:0<n)(e:n<2 ^ 60): ∃k:Nat,Int.tmod (IntKind.wrap .i64 (Int.tmod x n+n)) n=k∧k<n:=by
 have i:=K6 x (m:=n) (by omega);rw[al (by omega)];have d:0≤Int.tmod x n+n:=by omega
 rw[Int.tmod_eq_emod_of_nonneg d];have f:=XC (Int.tmod x n+n) (b:=n) (by omega);have g:=XS (Int.tmod x n+n) (b:=n) (by omega);exact⟨((Int.tmod x n+n) % n).toNat,by omega,by omega⟩
theorem cO(S:aG h0 T h W R)(b o:Nat)(d:W[b]? =some (sB r p l c a))(q:R[o]? =some (row p (az L)))(A:L.length=l)(x:a≤l)(B:l<2 ^ 62)(n:Nat)(t:1≤n)(u:n<2 ^ 60):
 au P bi #[.pointer (some ⟨r,0,none⟩),.int .i64 n] h fun v i=> ∃(k j:Nat),v= .int .i64 k∧k<n∧j≤l∧aG h0 T i (W.set b (sB r p l c j)) R:=by
 refine vA _ _ ?_;unfold ta;refine bx (bx (ae (S.cell b d rfl) (ak (S.cell b d rfl) (aq (fun w=>⟨0,a,rfl,by omega,x,S.turn b d _ (fun h=>h) fun _ h=>h⟩) fun w=>bx (ae (S.cell b d rfl) (bx ?_))))));rw[al (n:=(a:Int)+1) (by omega)];have ea:(a:Int)+1=((a+1:Nat):Int):=by omega
 rw[ea];refine be S b d (k:=1) (OU rfl) fun i _ S=> ?_;have hi:b<W.length:=(R8.1 d).1;have e:(W.set b (sB r p l c (a+1)))[b]? =some (sB r p l c (a+1)):=by rw[V4 hi]
 have f:aG h0 T i (W.set b (sB r p l c (a+1))) R:=S;refine bx (bx (ak (f.cell b e rfl) (ae (f.cell b e rfl) ?_)));have g:IntKind.wrap .i64 (((a+1:Nat):Int)-1)=(a:Int):=by rw[al (by omega)];omega
 rw[g];have m:=f.row o q;obtain⟨z,rfl⟩:=m.some_of (by rw[av];omega);refine aC rfl rfl (by omega) ?_;simp only[hC,VO];refine ae (m.cell (aF (bo (by omega)))) ⟨by omega,by omega,?_⟩;obtain⟨k,s,y⟩:=DV (L[a]'(by omega)) t u;rw[s];exact⟨k,a+1,rfl,y,by omega,f⟩
theorem vh(S:aG h T h [sB r p l c a] R)(z:Nat)(D:R[z]? =some (row p (az L)))(G:L.length=l)(H:a≤l)(K:l<2 ^ 62)(m:Nat)(Y:m≤2 ^ 20)(lo:Int)(M: -2 ^ 20≤lo∧lo≤2 ^ 20)(n:Nat)(F:1≤n)(X:n<2 ^ 30):
 au P dD #[.pointer (some ⟨r,0,none⟩),.int .i64 m,.int .i64 lo,.int .i64 n] h fun v u=> ∃(q:Option Addr)(k d b:Nat)(xs:List Int),v= .slice q k d∧xs.length=m∧k=m∧bv lo (lo+n-1) xs∧b≤l∧aG h T u [sB r p l c b,own 1 q k d (az xs)] R:=by
 refine wD _ _ _ _ ?_;unfold vL;replace S:=S.nil 1;refine aO (fun A s g=> ∃(i b:Nat)(q:Option Addr)(k d:Nat)(xs:List Int),s=(some ⟨r,0,none⟩,(m:Int),lo,(n:Int),(q,k,d),(i:Int),())∧i≤m∧A=m-i∧xs.length=i∧k=i∧bv lo (lo+n-1) xs∧b≤l∧aG h T g [sB r p l c b,own 1 q k d (az xs)] R) m
  ⟨0,a,none,0,0,[],rfl,by omega,rfl,rfl,rfl,cK _ _,H,S⟩ ?_
 rintro A s g ⟨i,b,q,k,d,xs,rfl,J,rfl,t,rfl,w,f,S⟩;unfold pq;dsimp only;refine aq (fun N=> ?_) (fun I=> ?_)
 ·refine(cO S 0 z rfl D G f K n F (by omega)).mono ?_;rintro _ V ⟨x,B,rfl,Z,j,S⟩;refine⟨_,rfl,?_⟩;dsimp only[List.set]at S ⊢;rw[al (n:=lo+(x:Int)) (by omega)];refine aA S (fun U _ _ S=> ?_);refine cI S 1 (ys:=az [lo+(x:Int)]) rfl rfl (by decide) (by omega) (bD.of_at (S.ap 2)) rfl dc fun Q O C u o S=> ?_;rw[al (by omega)];have E:az xs++az [lo+(x:Int)]=az (xs++[lo+(x:Int)]):=by simp[az]
  rw[E]at S;refine⟨m-(k+1),by omega,k+1,B,Q,O,C,xs++[lo+(x:Int)],rfl,by omega,rfl,by simp;omega,o,?_,j,S.pw [0,1]⟩;intro y e;rcases VW.1 e with e|e
  ·exact w y e
  ·simp only[VK]at e;subst e;omega
 ·have:k=m:=by omega
  subst this;exact⟨q,k,d,b,xs,rfl,t,rfl,w,f,S⟩
theorem rC(S:aG h T h [sB r p l c a] R)(i:Nat)(o:R[i]? =some (row p (az L)))(q:L.length=l)(Y:a≤l)(u:l<2 ^ 62){nv:Nv}(Z:dp nv.kind):
 au P dJ #[.pointer (some ⟨r,0,none⟩),nv.v] h fun v b=> ∃(Q:Nat)(size step gap left right:Int),v=({nv with size:=size,step:=step,gap:=gap,left:=left,right:=right}:Nv).v∧Mw size step gap left right∧Q≤l∧aG h T b [sB r p l c Q] R:=by
 refine sE _ _ ?_;unfold pm;refine aA (cs:=nv.cells) S fun E h1 _ S=> ?_;refine aA S fun G h2 _ S=> ?_;refine(cO S 0 i rfl o q Y u 4 (by decide) (by decide)).mono ?_;rintro _ g ⟨A,a1,rfl,aa,I,S⟩;refine⟨_,rfl,?_⟩;dsimp only[List.set]at S ⊢;rw[al (n:=1+(A:Int)) (by omega)];refine be S 1 rfl (k:=3) (OU rfl) fun b _ S=> ?_;refine(cO S 0 i rfl o q I u 3 (by decide) (by decide)).mono ?_;rintro _ g ⟨C,a2,rfl,ab,J,S⟩;refine⟨_,rfl,?_⟩;dsimp only[List.set]at S ⊢;rw[al (n:=1+(C:Int)) (by omega)];refine be S 1 rfl (k:=4) (OU rfl) fun b _ S=> ?_;refine(cO S 0 i rfl o q J u 3 (by decide) (by decide)).mono ?_;rintro _ g ⟨B,V,rfl,ad,K,S⟩;refine⟨_,rfl,?_⟩;dsimp only[List.set]at S ⊢;rw[al (n:=1+(B:Int)) (by omega)];refine be S 1 rfl (k:=5) (OU rfl) fun b _ S=> ?_;have j:aG h T b [sB r p l c V,aJ E ({nv with size:=1+(A:Int),step:=1+(C:Int),gap:=1+(B:Int)}:Nv).cells,aJ G (aK cJ (zT cJ))] R:=S;have S:=j;generalize d:({nv with size:=1+(A:Int),step:=1+(C:Int),gap:=1+(B:Int)}:Nv)=n2 at S;have z:n2.size=1+(A:Int):=by rw[←d]
 have s:n2.gap=1+(B:Int):=by rw[←d]
 have O:n2.kind=nv.kind:=by rw[←d]
 have f:n2.nd.span=(n2.size-1)*n2.gap+1:=by
  show wk n2.kind n2.size n2.gap=_;unfold wk;rw[O,if_neg (by omega),if_pos Z]
 have hm:0≤(n2.size-1)*n2.gap∧(n2.size-1)*n2.gap≤9:=j7 (x:=3) (y:=3) (by omega) (by omega);obtain⟨m,H⟩: ∃m:Nat,(n2.size-1)*n2.gap+1=m:=⟨((n2.size-1)*n2.gap+1).toNat,by omega⟩;rw[H]at f;refine aL S 1 rfl (x:=n2.t) rfl ?_;refine(mu n2 (by omega) (by omega)).mono ?_;rintro _ _ ⟨rfl,F⟩;refine⟨_,rfl,?_⟩;replace S:=S.fra0 F;rw[f];refine(cO S 0 i rfl o q K u m (by omega) (by omega)).mono ?_;rintro _ g ⟨e,X,rfl,ag,M,S⟩;refine⟨_,rfl,?_⟩;refine be S 1 rfl (k:=6) (OU rfl) fun b _ S=> ?_;have j:aG h T b [sB r p l c X,aJ E ({n2 with left:=(e:Int)}:Nv).cells,aJ G (aK cJ (zT cJ))] R:=S;have S:=j;refine aL S 1 rfl (x:=({n2 with left:=(e:Int)}:Nv).t) rfl ?_;have w:({n2 with left:=(e:Int)}:Nv).nd.span=m:=f;refine(mu ({n2 with left:=(e:Int)}:Nv) (by show-2 ^ 20≤n2.size∧n2.size≤2 ^ 20;omega) (by show-2 ^ 20≤n2.gap∧n2.gap≤2 ^ 20;omega)).mono ?_;rintro _ _ ⟨rfl,F⟩;refine⟨_,rfl,?_⟩;replace S:=S.fra0 F;rw[w];refine(cO S 0 i rfl o q M u m (by omega) (by omega)).mono ?_;rintro _ g ⟨D,U,rfl,ai,N,S⟩;refine⟨_,rfl,?_⟩;refine be S 1 rfl (k:=7) (OU rfl) fun b _ S=> ?_;have j:aG h T b [sB r p l c U,aJ E ({n2 with left:=(e:Int),right:=(D:Int)}:Nv).cells,aJ G (aK cJ (zT cJ))] R:=S;have S:=j;refine aL S 1 rfl (x:=({n2 with left:=(e:Int),right:=(D:Int)}:Nv).t) rfl ?_;refine bP S 2 rfl rfl (aW rfl) fun h4 _ S=> ?_;refine aL S 2 rfl (x:=({n2 with left:=(e:Int),right:=(D:Int)}:Nv).t) rfl ?_;refine⟨U,1+(A:Int),1+(C:Int),1+(B:Int),(e:Int),(D:Int),by rw[←d],⟨by omega,by omega,by omega,?_,?_⟩,N,S.pw [0]⟩
 ·rw[z,s]at H;omega
 ·rw[z,s]at H;omega
end
end
section
def Nv.zero:Nv:=⟨0,Sl.nil,0,0,0,0,0,0,Sl.nil,Sl.nil,0,0,0,0,0⟩
theorem Sl.nil_ok:Sl.nil.ok:=⟨rfl,VX _⟩
def zV:List Int:=[1,2,3,4,12,1,5,6,9,10,11,6]
theorem NP: ∀k:Nat,k<12→(∃K,zV[k]? =some K∧(K=1∨K=2∨K=6∨K=3∨K=4∨K=12∨K=9∨K=10∨K=5∨K=11)∧(7≤k→K=6∨K=9∨K=10∨K=11)):=by
 intro k b;have:k=0∨k=1∨k=2∨k=3∨k=4∨k=5∨k=6∨k=7∨k=8∨k=9∨k=10∨k=11:=by omega
 rcases this with rfl|rfl|rfl|rfl|rfl|rfl|rfl|rfl|rfl|rfl|rfl|rfl<;>exact⟨_,rfl,by omega,by omega⟩
section
variable {h0 h:ah} {T:Nat→Prop} {W R:List bc} {r l c a:Nat} {p:Option Addr} {L ins ws:List Int} {still:Bool}
def Ja(T:Nat→Prop)(h:ah)(R:List bc)(r:Nat)(p:Option Addr)(l c:Nat)(ins ws:List Int)(still:Bool)(v:Value)(e:ah):Prop:=
 ∃(b:Nv)(d:Nat),v=b.v∧b.ok∧b.inn.l≤2 ^ 20∧b.weights.l≤2 ^ 20∧b.bias.l≤2 ^ 20∧GoodN ins ws still b.nd∧d≤l∧aG h T e [sB r p l c d,b.rows] R
theorem jp{g:ah}{nv:Nv}{f i:Nat}{xs:List Value}(S:aG h T g [sB r p l c a,aJ f xs,aJ i nv.cells,nv.inn.row,nv.weights.row,nv.bias.row] R)(m:xs.length=15)(j:a≤l)(d:nv.ok)
 (e:nv.inn.l≤2 ^ 20∧nv.weights.l≤2 ^ 20∧nv.bias.l≤2 ^ 20) (k:GoodN ins ws still nv.nd):
 aT cJ g ⟨i,0,none⟩ fun x=>aZ (aK cJ x) g ⟨f,0,none⟩ 0 fun b=>aT cJ b ⟨f,0,none⟩ fun y=>Ja T h R r p l c ins ws still (bA cJ y) b:=by
 refine aL S 2 rfl (x:=nv.t) rfl ?_;refine bP S 1 rfl (by rw[m];rfl) (aW rfl) fun b _ S=> ?_;refine aL S 1 rfl (x:=nv.t) rfl ?_;exact⟨nv,a,rfl,d,e.1,e.2.1,e.2.2,k,j,S.join [0] [3,4,5]⟩
theorem io(S:aG h0 T h W R):aG h0 T h (W++[Sl.nil.row]) R:=by
 have d:=S.nil 1;have e:(W++[own 1 none 0 0 []])[W.length]? =some (own 1 none 0 0 []):=by rw[WS]
 have S3:=d.turn W.length e Sl.nil.row (fun o=>m8.row o) (fun b g=>by obtain⟨_,a,f,_⟩:=g;cases f);rw[Wy _ _ (VX _),WD]at S3;exact S3
theorem own_row{q:Option Addr}{k d i:Nat}{xs:List Int}(S:aG h0 T h W R)(e:W[i]? =some (own 1 q k d (az xs))):aG h0 T h (W.set i (Sl.row ⟨q,k,d,xs⟩)) R:=
 S.turn i e _ (fun o=>m8.row o) fun b f=>f.2
theorem jd{q:Option Addr}{k d i:Nat}{xs:List Int}(S:aG h0 T h W R)(e:W[i]? =some (own 1 q k d (az xs))):(Sl.mk q k d xs).ok:=by
 have o:=S.own i e;have:=o.1;rw[av]at this;exact⟨by simpa using this,o.2.1⟩
set_option maxHeartbeats 2000000 in
theorem Ln{g:ah}{nv:Nv}{t8 n9 bk k:Nat}{w:Int}{xs:List Value}{K0:Int}{inn:Sl}(ap:nv={Nv.zero with kind:=K0,inn:=inn})(o:inn.xs=ins.take 1)(e:inn.ok)
 (S:aG h T g [sB r p l c a,aJ t8 xs,aJ n9 nv.cells,inn.row,aJ bk (az zV)] R) (N:xs.length=15) (j:Nat) (z:R[j]? =some (row p (az L))) (A:L.length=l) (M:a≤l) (B:l<2 ^ 62)
 (hk:k<12) (ao:still=true→7≤k) (hw:w=ws.getD 0 0) (ax:1≤w∧w≤16):
 mI (Ja T h R r p l c ins ws still) (some ⟨r,0,none⟩) ⟨t8,0,none⟩ ⟨n9,0,none⟩ w ⟨bk,0,none⟩ (k:Int) g:=by
 unfold mI;obtain⟨K,eK,hK,aj⟩:=NP k hk;have inl:inn.l≤1:=by have:=e.1;rw[o,VV]at this;omega
 have D:K=1∨K=2∨K=3∨K=4∨K=12∨K=5→still=false:=fun h=>by
  cases hst:still
  ·rfl
  ·have:=aj (ao hst);omega
 obtain⟨wn,ai⟩: ∃wn:Nat,w=wn:=⟨w.toNat,by omega⟩;refine fm (by omega) (by omega) ?_;simp only[hC,VO];have an:aB g (Addr.add ⟨bk,0,none⟩ k)=some (.int .i64 K):=by rw[aR,SN];exact S.cell 4 rfl (aF eK)
 refine ae an ?_;refine be S 2 rfl (k:=0) (OU rfl) fun g2 _ S=> ?_;have S2:aG h T g2 [sB r p l c a,aJ t8 xs,aJ n9 ({Nv.zero with kind:=K,inn:=inn}:Nv).cells,inn.row,aJ bk (az zV)] R:=by rw[ap]at S;exact S
 have S:=S2.pw [0,1,2,3];refine ae (n:=K) (S.c 2) ?_;refine aH (fun k1=> ?_) (fun k1=>aH (fun k2=> ?_) (fun k2=>aH (fun k3=> ?_) (fun k3=>aH (fun k4=> ?_) (fun k4=>aH (fun k5=> ?_) (fun k5=>aH (fun k6=> ?_) (fun k6=>aH (fun k7=> ?_) (fun k7=>aH (fun k8=> ?_) (fun k8=> ?_))))))))
 ·subst k1;obtain rfl:=D (by omega);refine aL S 2 rfl (x:=({Nv.zero with kind:=1,inn:=inn}:Nv).t) rfl ?_;have f:=S.into [0] [] [j];rw[show Sh.pick R [j]=[row p (az L)] by simp only[Sh.pick,z]]at f;refine(rC f 0 rfl A M B (.inl rfl)).mono ?_;rintro _ g3 ⟨a1,size,step,gap,left,right,rfl,q,C,s⟩;replace S:=S.back [0] s;refine fy (Nv.t _) ⟨rfl,?_⟩;refine bP S 2 rfl rfl (aW rfl) fun g4 _ S=> ?_;refine(cO S 0 j rfl z A C B 3 (by decide) (by decide)).mono ?_;rintro _ g5 ⟨d,a2,rfl,O,u,S⟩;refine⟨_,rfl,?_⟩;dsimp only[List.set]at S ⊢;rw[al (n:=1+(d:Int)) (by omega)];refine be S 2 rfl (k:=2) (OU rfl) fun g6 _ S=> ?_;refine ae (n:=1+(d:Int)) (S.c 2) (ae (n:=size) (S.c 2) ?_);obtain⟨h1,h2,h3,h4,h5⟩:=q;obtain⟨sn,aw⟩: ∃sn:Nat,size=sn:=⟨size.toNat,by omega⟩;have b1:=j7 (a:=1+(d:Int)) (b:=size) (x:=3) (y:=4) (by omega) (by omega);have b2:=j7 (a:=(1+(d:Int))*size) (b:=w) (x:=12) (y:=16) (by omega) (by omega);rw[al (n:=(1+(d:Int))*size) (by omega),al (n:=(1+(d:Int))*size*w) (by omega)];obtain⟨m,Y⟩: ∃m:Nat,(1+(d:Int))*size*w=m:=⟨((1+(d:Int))*size*w).toNat,by omega⟩;rw[Y];have f:=S.into [0] [] [j];rw[show Sh.pick R [j]=[row p (az L)] by simp only[Sh.pick,z]]at f;refine(vh f 0 rfl A u B m (by omega) (-9) (by omega) 19 (by decide) (by decide)).mono ?_;rintro _ g7 ⟨q1,P,V,a3,ww,rfl,ag,ab,H,v,s⟩;replace S:=S.back [0] s;refine⟨_,_,_,rfl,?_⟩;refine be S 2 rfl (k:=8) (OU rfl) fun g8 _ S=> ?_;refine ae (n:=1+(d:Int)) (S.c 2) ?_;have f:=S.into [0] [] [j];rw[show Sh.pick R [j]=[row p (az L)] by simp only[Sh.pick,z]]at f;have E:1+(d:Int)=((1+d:Nat):Int):=by omega
  rw[E]at S f ⊢;refine(vh f 0 rfl A v B (1+d) (by omega) (-50) (by omega) 101 (by decide) (by decide)).mono ?_;rintro _ g9 ⟨q2,Q,X,a4,bb,rfl,aa,ad,G,F,s⟩;replace S:=S.back [0] s;refine⟨_,_,_,rfl,?_⟩;refine be S 2 rfl (k:=9) (OU rfl) fun Z _ S=> ?_;have I:=jd (i:=4) S rfl;have J:=jd (i:=5) S rfl;replace S:=own_row (i:=4) S rfl;replace S:=own_row (i:=5) S rfl;refine jp (nv:=⟨1,inn,((1+d:Nat):Int),size,step,gap,left,right,⟨q1,P,V,ww⟩,⟨q2,Q,X,bb⟩,0,0,0,0,0⟩) S N F ⟨e,I,J⟩ ⟨by show inn.l≤_;omega,by show P≤_;omega,by show Q≤_;omega⟩ ?_;have:=GoodN.conv (ins:=ins) (ws:=ws) ((1+d:Nat):Int) size step gap left right ww bb ⟨h1,h2,h3,h4,h5⟩ (by omega) (by rw[←hw,←E];omega) (by omega) H G;rw[←o]at this;exact this
 ·subst k2;obtain rfl:=D (by omega);refine aL S 2 rfl (x:=({Nv.zero with kind:=2,inn:=inn}:Nv).t) rfl ?_;have f:=S.into [0] [] [j];rw[show Sh.pick R [j]=[row p (az L)] by simp only[Sh.pick,z]]at f;refine(rC f 0 rfl A M B (.inr (.inl rfl))).mono ?_;rintro _ g3 ⟨a1,size,step,gap,left,right,rfl,q,C,s⟩;replace S:=S.back [0] s;refine fy (Nv.t _) ⟨rfl,?_⟩;refine bP S 2 rfl rfl (aW rfl) fun g4 _ S=> ?_;refine ae (n:=size) (S.c 2) ?_;obtain⟨h1,h2,h3,h4,h5⟩:=q;have b1:=j7 (a:=size) (b:=w) (x:=4) (y:=16) (by omega) (by omega);rw[al (n:=size*w) (by omega)];obtain⟨m,Y⟩: ∃m:Nat,size*w=m:=⟨(size*w).toNat,by omega⟩;rw[Y];have f:=S.into [0] [] [j];rw[show Sh.pick R [j]=[row p (az L)] by simp only[Sh.pick,z]]at f;refine(vh f 0 rfl A C B m (by omega) (-9) (by omega) 19 (by decide) (by decide)).mono ?_;rintro _ g7 ⟨q1,P,V,a3,ww,rfl,ag,ab,H,v,s⟩;replace S:=S.back [0] s;refine⟨_,_,_,rfl,?_⟩;refine be S 2 rfl (k:=8) (OU rfl) fun g8 _ S=> ?_;have f:=S.into [0] [] [j];rw[show Sh.pick R [j]=[row p (az L)] by simp only[Sh.pick,z]]at f;rw[ai];refine(vh f 0 rfl A v B wn (by omega) (-50) (by omega) 101 (by decide) (by decide)).mono ?_;rintro _ g9 ⟨q2,Q,X,a4,bb,rfl,aa,ad,G,F,s⟩;replace S:=S.back [0] s;refine⟨_,_,_,rfl,?_⟩;refine be S 2 rfl (k:=9) (OU rfl) fun Z _ S=> ?_;have I:=jd (i:=4) S rfl;have J:=jd (i:=5) S rfl;replace S:=own_row (i:=4) S rfl;replace S:=own_row (i:=5) S rfl;refine jp (nv:=⟨2,inn,0,size,step,gap,left,right,⟨q1,P,V,ww⟩,⟨q2,Q,X,bb⟩,0,0,0,0,0⟩) S N F ⟨e,I,J⟩ ⟨by show inn.l≤_;omega,by show P≤_;omega,by show Q≤_;omega⟩ ?_;have:=GoodN.depth (ins:=ins) (ws:=ws) size step gap left right ww bb ⟨h1,h2,h3,h4,h5⟩ (by rw[←hw];omega) (by omega) H G;rw[←o]at this;exact this
 ·subst k3;refine(cO S 0 j rfl z A M B 3 (by decide) (by decide)).mono ?_;rintro _ g5 ⟨d,a2,rfl,O,u,S⟩;refine⟨_,rfl,?_⟩;dsimp only[List.set]at S ⊢;rw[al (n:=1+(d:Int)) (by omega)];refine be S 2 rfl (k:=2) (OU rfl) fun g6 _ S=> ?_;refine ae (n:=1+(d:Int)) (S.c 2) ?_;have b1:=j7 (a:=1+(d:Int)) (b:=w) (x:=3) (y:=16) (by omega) (by omega);rw[al (n:=(1+(d:Int))*w) (by omega)];obtain⟨m,Y⟩: ∃m:Nat,(1+(d:Int))*w=m:=⟨((1+(d:Int))*w).toNat,by omega⟩;rw[Y];have f:=S.into [0] [] [j];rw[show Sh.pick R [j]=[row p (az L)] by simp only[Sh.pick,z]]at f;refine(vh f 0 rfl A u B m (by omega) (-12) (by omega) 25 (by decide) (by decide)).mono ?_;rintro _ g7 ⟨q1,P,V,a3,ww,rfl,ag,ab,H,v,s⟩;replace S:=S.back [0] s;refine⟨_,_,_,rfl,?_⟩;refine be S 2 rfl (k:=8) (OU rfl) fun g8 _ S=> ?_;refine ae (n:=1+(d:Int)) (S.c 2) ?_;have f:=S.into [0] [] [j];rw[show Sh.pick R [j]=[row p (az L)] by simp only[Sh.pick,z]]at f;have E:1+(d:Int)=((1+d:Nat):Int):=by omega
  rw[E]at S f ⊢;refine(vh f 0 rfl A v B (1+d) (by omega) (-5000) (by omega) 10001 (by decide) (by decide)).mono ?_;rintro _ g9 ⟨q2,Q,X,a4,bb,rfl,aa,ad,G,F,s⟩;replace S:=S.back [0] s;refine⟨_,_,_,rfl,?_⟩;refine be S 2 rfl (k:=9) (OU rfl) fun Z _ S=> ?_;have I:=jd (i:=4) S rfl;have J:=jd (i:=5) S rfl;replace S:=own_row (i:=4) S rfl;replace S:=own_row (i:=5) S rfl;refine jp (nv:=⟨6,inn,((1+d:Nat):Int),0,0,0,0,0,⟨q1,P,V,ww⟩,⟨q2,Q,X,bb⟩,0,0,0,0,0⟩) S N F ⟨e,I,J⟩ ⟨by show inn.l≤_;omega,by show P≤_;omega,by show Q≤_;omega⟩ ?_;have:=GoodN.dense (ins:=ins) (ws:=ws) still ((1+d:Nat):Int) ww bb (by omega) (by rw[←hw,←E];omega) (by omega) H G;rw[←o]at this;exact this
 ·subst k4;obtain rfl:=D (by omega);refine aL S 2 rfl (x:=({Nv.zero with kind:=3,inn:=inn}:Nv).t) rfl ?_;have f:=S.into [0] [] [j];rw[show Sh.pick R [j]=[row p (az L)] by simp only[Sh.pick,z]]at f;refine(rC f 0 rfl A M B (.inr (.inr (.inl rfl)))).mono ?_;rintro _ g3 ⟨a1,size,step,gap,left,right,rfl,q,C,s⟩;replace S:=S.back [0] s;refine fy (Nv.t _) ⟨rfl,?_⟩;refine bP S 2 rfl rfl (aW rfl) fun g4 _ S=> ?_;replace S:=io (io S);refine jp (nv:=⟨3,inn,0,size,step,gap,left,right,Sl.nil,Sl.nil,0,0,0,0,0⟩) S N C ⟨e,Sl.nil_ok,Sl.nil_ok⟩ ⟨by show inn.l≤_;omega,by show 0≤_;omega,by show 0≤_;omega⟩ ?_;have:=GoodN.pool (ins:=ins) (ws:=ws) 3 size step gap left right (.inl rfl) q;rw[←o]at this;exact this
 ·subst k5;obtain rfl:=D (by omega);refine aL S 2 rfl (x:=({Nv.zero with kind:=4,inn:=inn}:Nv).t) rfl ?_;have f:=S.into [0] [] [j];rw[show Sh.pick R [j]=[row p (az L)] by simp only[Sh.pick,z]]at f;refine(rC f 0 rfl A M B (.inr (.inr (.inr rfl)))).mono ?_;rintro _ g3 ⟨a1,size,step,gap,left,right,rfl,q,C,s⟩;replace S:=S.back [0] s;refine fy (Nv.t _) ⟨rfl,?_⟩;refine bP S 2 rfl rfl (aW rfl) fun g4 _ S=> ?_;replace S:=io (io S);refine jp (nv:=⟨4,inn,0,size,step,gap,left,right,Sl.nil,Sl.nil,0,0,0,0,0⟩) S N C ⟨e,Sl.nil_ok,Sl.nil_ok⟩ ⟨by show inn.l≤_;omega,by show 0≤_;omega,by show 0≤_;omega⟩ ?_;have:=GoodN.pool (ins:=ins) (ws:=ws) 4 size step gap left right (.inr rfl) q;rw[←o]at this;exact this
 ·subst k6;obtain rfl:=D (by omega);refine(cO S 0 j rfl z A M B 5 (by decide) (by decide)).mono ?_;rintro _ g5 ⟨d,a2,rfl,O,u,S⟩;refine⟨_,rfl,?_⟩;dsimp only[List.set]at S ⊢;rw[al (n:=1+(d:Int)) (by omega)];refine be S 2 rfl (k:=3) (OU rfl) fun g6 _ S=> ?_;replace S:=io (io S);refine jp (nv:=⟨12,inn,0,1+(d:Int),0,0,0,0,Sl.nil,Sl.nil,0,0,0,0,0⟩) S N u ⟨e,Sl.nil_ok,Sl.nil_ok⟩ ⟨by show inn.l≤_;omega,by show 0≤_;omega,by show 0≤_;omega⟩ ?_;have:=GoodN.smooth (ins:=ins) (ws:=ws) (1+(d:Int)) (by omega);rw[←o]at this;exact this
 ·subst k7;refine(cO S 0 j rfl z A M B 200 (by decide) (by decide)).mono ?_;rintro _ g5 ⟨d,a2,rfl,O,u,S⟩;refine⟨_,rfl,?_⟩;dsimp only[List.set]at S ⊢;rw[al (n:=(d:Int)-150) (by omega)];refine be S 2 rfl (k:=12) (OU rfl) fun g6 _ S=> ?_;refine ae (n:=(d:Int)-150) (S.c 2) ?_;refine(cO S 0 j rfl z A u B 300 (by decide) (by decide)).mono ?_;rintro _ g7 ⟨U,a3,rfl,ar,v,S⟩;refine⟨_,rfl,?_⟩;refine aX (S.c 2) ?_;rw[al (n:=(d:Int)-150+(U:Int)) (by omega)];refine be S 2 rfl (k:=13) (OU rfl) fun g8 _ S=> ?_;replace S:=io (io S);refine jp (nv:=⟨9,inn,0,0,0,0,0,0,Sl.nil,Sl.nil,0,0,(d:Int)-150,(d:Int)-150+(U:Int),0⟩) S N v ⟨e,Sl.nil_ok,Sl.nil_ok⟩ ⟨by show inn.l≤_;omega,by show 0≤_;omega,by show 0≤_;omega⟩ ?_;have:=GoodN.clamp (ins:=ins) (ws:=ws) still ((d:Int)-150) ((d:Int)-150+(U:Int)) (by omega) (by omega);rw[←o]at this;exact this
 ·subst k8;refine(cO S 0 j rfl z A M B 32768 (by decide) (by decide)).mono ?_;rintro _ g5 ⟨d,a2,rfl,O,u,S⟩;refine⟨_,rfl,?_⟩;refine be S 2 rfl (k:=10) (OU rfl) fun g6 _ S=> ?_;refine(cO S 0 j rfl z A u B 20 (by decide) (by decide)).mono ?_;rintro _ g7 ⟨U,a3,rfl,ar,v,S⟩;refine⟨_,rfl,?_⟩;refine be S 2 rfl (k:=11) (OU rfl) fun g8 _ S=> ?_;replace S:=io (io S);refine jp (nv:=⟨10,inn,0,0,0,0,0,0,Sl.nil,Sl.nil,(d:Int),(U:Int),0,0,0⟩) S N v ⟨e,Sl.nil_ok,Sl.nil_ok⟩ ⟨by show inn.l≤_;omega,by show 0≤_;omega,by show 0≤_;omega⟩ ?_;have:=GoodN.scale (ins:=ins) (ws:=ws) still (d:Int) (U:Int) (by omega) (by omega);rw[←o]at this;exact this
 ·replace S:=io (io S);refine jp (nv:=⟨K,inn,0,0,0,0,0,0,Sl.nil,Sl.nil,0,0,0,0,0⟩) S N M ⟨e,Sl.nil_ok,Sl.nil_ok⟩ ⟨by show inn.l≤_;omega,by show 0≤_;omega,by show 0≤_;omega⟩ ?_;rcases(show K=5∨K=11 by omega) with rfl|rfl
  ·obtain rfl:=D (by omega);have:=GoodN.whole (ins:=ins) (ws:=ws);rw[←o]at this;exact this
  ·have:=GoodN.best (ins:=ins) (ws:=ws) still;rw[←o]at this;exact this
end
end
section
section
variable {h0 h:ah} {T:Nat→Prop} {W R:List bc} {r l c a:Nat} {p:Option Addr} {L ins ws:List Int} {still:Bool}
theorem Lp{g:ah}{m:Int}{inn:Sl}{i f:Nat}{w:Int}{xs:List Value}(x:inn.xs=ins.take 1)(d:inn.ok)
 (S:aG h T g [sB r p l c a,aJ i xs,aJ f ({Nv.zero with kind:=m,inn:=inn}:Nv).cells,inn.row] R) (J:xs.length=15) (j:Nat) (q:R[j]? =some (row p (az L))) (t:L.length=l) (G:a≤l) (z:l<2 ^ 62)
 (I:w=ws.getD 0 0) (A:1≤w∧w≤16):
 mJ (Ja T h R r p l c ins ws still) (some ⟨r,0,none⟩) still ⟨i,0,none⟩ ⟨f,0,none⟩ w g:=by
 unfold mJ;refine aA (cs:=[.int .i64 0,.int .i64 0,.int .i64 0,.int .i64 0,.int .i64 0,.int .i64 0,.int .i64 0,.int .i64 0,.int .i64 0,.int .i64 0,.int .i64 0,.int .i64 0]) S fun o Q _ S=> ?_;refine bP S 4 rfl rfl (dc (l:=zV)) fun F _ S=> ?_;have C:aG h T F [sB r p l c a,aJ i xs,aJ f ({Nv.zero with kind:=m,inn:=inn}:Nv).cells,inn.row,aJ o (az zV)] R:=S;refine(cO C 0 j rfl q t G z 12 (by decide) (by decide)).mono ?_;rintro _ O ⟨M,D,rfl,B,b,S⟩;refine⟨_,rfl,?_⟩;refine⟨fun s g=> ∃k n:Nat,s=(some ⟨r,0,none⟩,⟨i,0,none⟩,⟨f,0,none⟩,w,⟨o,0,none⟩,(k:Int),())∧k<12∧(still=true→7≤k)∧n≤l∧aG h T g [sB r p l c n,aJ i xs,aJ f ({Nv.zero with kind:=m,inn:=inn}:Nv).cells,inn.row,aJ o (az zV)] R,?_,?_⟩
 ·rintro s g ⟨k,n,rfl,H,y,u,S⟩;exact Ln rfl x d S J j q t u z H y I A
 ·refine oz (fun e=> ?_) (fun e=>⟨M,D,rfl,B,by simp[e],b,S⟩);refine(cO S 0 j rfl q t b z 5 (by decide) (by decide)).mono ?_;rintro _ P ⟨N,E,rfl,K,v,S⟩;refine⟨_,rfl,?_⟩;dsimp only[List.set]at S ⊢;rw[al (by omega)];exact⟨7+N,E,rfl,by omega,fun _=>by omega,v,S⟩
set_option maxHeartbeats 1000000 in
theorem P6{d wp:Option Addr}{il ic wl wc:Nat}(S:aG h T h [sB r p l c a,own 1 d il ic (az ins)] R)(iL iw:Nat)(eL:R[iL]? =some (row p (az L)))(hL:L.length=l)(V:a≤l)(hl:l<2 ^ 62)
 (ew:R[iw]? =some (row wp (az ws))) (ax:ws.length=wl) (ap:il=wl) (aj:wl=1∨wl=2) (A:bv 1 16 ws):
 au P qy #[.pointer (some ⟨r,0,none⟩),.slice d il ic,.slice wp wl wc,.bool still] h (Ja T h R r p l c ins ws still):=by
 refine A6 _ _ _ _ _ _ _ _ ?_;unfold Cj;have D:=jd (i:=1) S rfl;have ag:ins.length=il:=D.1;have ai:il≤ic:=D.2;refine aA S fun o h1 _ S=> ?_;refine aA S fun q h2 _ S=> ?_;refine bP S 3 rfl rfl (aW (l:=cJ) (x:=({Nv.zero with inn:=⟨d,il,ic,ins⟩}:Nv).t) rfl) fun h3 _ S=> ?_;have M:aG h T h3 [sB r p l c a,own 1 d il ic (az ins),aJ o (aK cJ (zT cJ)),aJ q ({Nv.zero with inn:=⟨d,il,ic,ins⟩}:Nv).cells] R:=S;have S:=M;have Z:=S.row iw ew;obtain⟨aw,rfl⟩:=Z.some_of (by rw[av];omega);have J:=A ws[0] (VN (by omega));have e0:ws.getD 0 0=ws[0]:=cA (by omega);refine aC rfl (k:=0) rfl (by omega) ?_;refine ae (n:=ws.getD 0 0) (Z.cell (i:=0) (aF (by rw[bo (by omega),e0]))) ?_;rw[←e0]at J;generalize Y:ws.getD 0 0=w at J ⊢;refine⟨fun s g=>s=(some ⟨r,0,none⟩,still,⟨o,0,none⟩,⟨q,0,none⟩,w,())∧ ∃(K0:Int)(inn:Sl)(j:Nat),inn.xs=ins.take 1∧inn.ok∧j≤l∧aG h T g [sB r p l c j,aJ o (aK cJ (zT cJ)),aJ q ({Nv.zero with kind:=K0,inn:=inn}:Nv).cells,inn.row] R,?_,?_⟩
 ·rintro s g ⟨rfl,K0,inn,j,u,X,v,S⟩;exact Lp u X S rfl iL eL hL v hl Y.symm J
 ·refine aq (fun h1=> ?_) (fun h1=> ?_)
  ·refine be S 3 rfl (k:=0) (OU rfl) fun h4 _ S=> ?_;have B:=own_row (i:=1) S rfl;have M:aG h T h4 [sB r p l c a,(Sl.mk d il ic ins).row,aJ o (aK cJ (zT cJ)),aJ q ({Nv.zero with kind:=8,inn:=⟨d,il,ic,ins⟩}:Nv).cells] R:=B;have S:=M.pw [0,2,3,1]
   refine aO (fun m s g=> ∃(i:Nat)(same:Bool),s=(some ⟨r,0,none⟩,(d,il,ic),(some aw,wl,wc),still,⟨o,0,none⟩,⟨q,0,none⟩,w,gW (ws.take i),same,(i:Int),())∧i≤wl∧m=wl-i∧(same=true↔ ∀x∈ws.take i,x=w)∧
    aG h T g [sB r p l c a,aJ o (aK cJ (zT cJ)),aJ q ({Nv.zero with kind:=8,inn:=⟨d,il,ic,ins⟩}:Nv).cells,(Sl.mk d il ic ins).row] R) wl ⟨0,true,rfl,by omega,rfl,by simp,S⟩ ?_
   rintro m s g ⟨i,same,rfl,ao,rfl,f,S⟩;unfold vM;dsimp only;refine aq (fun ar=> ?_) (fun an=> ?_)
   ·have u:i<ws.length:=by omega
    have hc:=(S.row iw ew).cell (aF (bo u));have ad:=jD (pY i A);rw[VV]at ad;have a0:=A ws[i] (VN u);have O:=gD u;refine aC rfl rfl (by omega) ?_;simp only[hC,VO];refine ae hc ?_;rw[al (n:=gW (ws.take i)+ws[i]) (by omega),al (n:=(i:Int)+1) (by omega),←pX u];refine oz (fun e=>aC rfl rfl (by omega) (ae hc ⟨wl-(i+1),by omega,i+1,_,rfl,by omega,rfl,?_,S⟩)) (fun e=>⟨wl-(i+1),by omega,i+1,false,rfl,by omega,rfl,?_,S⟩)
    ·rw[beq_iff_eq,O];constructor
     ·intro G x F;rcases VW.1 F with F|F
      ·exact f.1 e x F
      ·simp only[VK]at F;subst F;exact G
     ·intro G;exact G _ (WP _ (by simp))
    ·constructor
     ·intro G;cases G
     ·intro G;rw[f.2 (fun x F=>G x (by rw[O];exact Wt _ F))]at e;cases e
   ·have ab:i=wl:=by omega
    subst ab;rw[py (by omega)]at f ⊢;have i2:2≤ins.length:=by omega
    have C: ∀(K:Int)(g:ah)(j:Nat),j≤l→GoodN ins ws still (⟨K,ins,0,0,0,0,0,0,[],[],0,0,0,0,0⟩:Nd)→aG h T g [sB r p l c j,aJ o (aK cJ (zT cJ)),aJ q ({Nv.zero with kind:=K,inn:=⟨d,il,ic,ins⟩}:Nv).cells,(Sl.mk d il ic ins).row] R→
     aT cJ g ⟨q,0,none⟩ fun x=>aZ (aK cJ x) g ⟨o,0,none⟩ 0 fun g2=>aT cJ g2 ⟨o,0,none⟩ fun y=>Ja T h R r p l c ins ws still (bA cJ y) g2:=by
     intro K g j v I S;replace S:=io (io S);exact jp (nv:=⟨K,⟨d,il,ic,ins⟩,0,0,0,0,0,0,Sl.nil,Sl.nil,0,0,0,0,0⟩) S rfl v ⟨D,Sl.nil_ok,Sl.nil_ok⟩ ⟨by show il≤_;omega,by show 0≤_;omega,by show 0≤_;omega⟩ I
    have N: ∀(g:ah)(j:Nat),j≤l→aG h T g [sB r p l c j,aJ o (aK cJ (zT cJ)),aJ q ({Nv.zero with kind:=8,inn:=⟨d,il,ic,ins⟩}:Nv).cells,(Sl.mk d il ic ins).row] R→
     pP 1 ic fun aa=>aQ g (Addr.add ⟨q,0,none⟩ 1) (.slice (if ic=0 then d else Option.map (fun a=>a.add (0*1)) d) (aa-0) (ic-0)) fun E=>
      (some (⟨r,0,none⟩:Addr),still,(⟨o,0,none⟩:Addr),(⟨q,0,none⟩:Addr),w,())=(some ⟨r,0,none⟩,still,⟨o,0,none⟩,⟨q,0,none⟩,w,())∧ ∃(K0:Int)(inn:Sl)(j:Nat),inn.xs=ins.take 1∧inn.ok∧j≤l∧aG h T E [sB r p l c j,aJ o (aK cJ (zT cJ)),aJ q ({Nv.zero with kind:=K0,inn:=inn}:Nv).cells,inn.row] R:=by
     intro g j v S;refine iH (n:=1) rfl (by omega) ?_;rw[UM];refine be S 2 rfl (k:=1) (OU rfl) fun E _ S=> ?_;refine⟨rfl,8,⟨d,1,ic,ins.take 1⟩,j,rfl,⟨by simp;omega,by show 1≤ic;omega⟩,v,?_⟩;exact S.turn 3 rfl (Sl.mk d 1 ic (ins.take 1)).row (fun hh=>by
      have:=bD.take hh 1;rw[vd]at this;exact this) (fun b hb=>⟨fun hh=>hb.1 (by
       have:ins=[]:=by simpa[az] using hh
       rw[this];rfl),hb.2⟩)
    refine oz (fun e=> ?_) (fun e=> ?_)
    ·have z:=f.1 e;rw[←Y]at z;refine aq (fun Q=> ?_) (fun Q=> ?_)
     ·refine be S 2 rfl (k:=0) (OU rfl) fun Q _ S=> ?_;exact C 7 Q a V (.add _ i2 z) S
     ·refine(cO S 0 iL rfl eL hL V hl 2 (by decide) (by decide)).mono ?_;rintro _ g6 ⟨x2,a3,rfl,ay,H,S⟩;refine⟨_,rfl,?_⟩;refine aH (fun h6=> ?_) (fun h6=>aq (fun U=>C 8 _ a3 H (.join _ i2 U) S) (fun U=>N _ a3 H S));refine be S 2 rfl (k:=0) (OU rfl) fun Q _ S=> ?_;exact C 7 Q a3 H (.add _ i2 z) S
    ·exact aq (fun U=>C 8 _ a V (.join _ i2 U) S) (fun U=>N _ a V S)
  ·have B:=own_row (i:=1) S rfl;have M:aG h T h3 [sB r p l c a,(Sl.mk d il ic ins).row,aJ o (aK cJ (zT cJ)),aJ q ({Nv.zero with inn:=⟨d,il,ic,ins⟩}:Nv).cells] R:=B;refine⟨rfl,0,⟨d,il,ic,ins⟩,a,?_,D,V,M.pw [0,2,3,1]⟩;rw[py (by omega)]
end
end
section
def gK(n:Nat)(x:Int):Int:=if x>0 then(n:Int)+1-x else x
def Mx(n:Nat)(nd:Nd):Nd:={nd with inn:=nd.inn.map (gK n)}
def Gr.turned(g:Gr):Gr:=⟨g.width,g.low,g.high,(g.nodes.map (Mx g.nodes.length)).reverse,(g.nodes.length:Int)+1-g.out⟩
theorem mC{l:List bc}{h:ah}(H:(cM l).P h){f:bc}(b:f∈l):f.P h:=H f b
theorem P7{ns:List Nv}{h:ah}(hi: ∀n∈ns,n.inn.row.P h)(e: ∀n∈ns,n.weights.row.P h∧n.bias.row.P h):(aM ns).P h:=by
 intro f i;obtain⟨n,b,rfl⟩:=VZ.1 i;intro g d;simp only[V5,WO,or_false]at d;rcases d with rfl|rfl|rfl
 ·exact hi n b
 ·exact(e n b).1
 ·exact(e n b).2
section
variable {h:ah} {T:Nat→Prop} {R:List bc}
set_option maxHeartbeats 1000000 in
theorem P8{g:Gv}(S:aG h T h [own 15 g.p g.l g.c (aD g.ns),aM g.ns] R)(a2: ∀n∈g.ns,n.ok)(hl:g.l≤100)(bg:g.ns.length=g.l)(hs: ∀n∈g.ns,n.inn.l≤2 ^ 20∧n.weights.l≤2 ^ 20∧n.bias.l≤2 ^ 20)
 (ay: ∀n∈g.ns,∀x∈n.inn.xs,0≤x∧x≤2 ^ 20) (a9:0≤g.out∧g.out≤2 ^ 20):
 au P iE #[g.v] h fun v h'=> ∃D:Gv,v=D.v∧D.ok∧D.gr=g.gr.turned∧(∀n∈D.ns,n.inn.l≤2 ^ 20∧n.weights.l≤2 ^ 20∧n.bias.l≤2 ^ 20)∧aG h T h' [own 15 D.p D.l D.c (aD D.ns),aM D.ns] R:=by
 refine xz _ ?_;unfold xy;refine aA (cs:=g.cells) S fun O h1 _ S=> ?_;refine aA S fun Q h2 _ S=> ?_
 (repeat (first|((with_reducible refine aV ?_);refine ae (S.c 2) ?_)|((with_reducible refine cp ?_);refine ak (S.c 2) ?_)))
 try dsimp only[Gv.t]
 refine aA S fun A h3 _ S=> ?_;rw[al (n:=((g.l:Nat):Int)+1) (by omega),al (n:=((g.l:Nat):Int)+1-g.out) (by omega)];refine bP S 4 rfl rfl (aW (l:=bz) (x:=(⟨g.width,g.low,g.high,none,0,0,((g.l:Nat):Int)+1-g.out,[]⟩:Gv).t) rfl) fun h8 _ S=> ?_;have S2:aG h T h8 [own 15 g.p g.l g.c (aD g.ns),aM g.ns,aJ O g.cells,aJ Q (aK bz (zT bz)),aJ A (⟨g.width,g.low,g.high,none,0,0,((g.l:Nat):Int)+1-g.out,[]⟩:Gv).cells] R:=S;have S:=(S2.nil 15).reads0
 refine aO (fun m s g2=> ∃(i:Nat)(q:Option Addr)(k d:Nat)(u:List Nv),s=(⟨O,0,none⟩,⟨Q,0,none⟩,(g.l:Int),⟨A,0,none⟩,(i:Int),())∧i≤g.l∧i=m∧u.length=g.l-i∧k=g.l-i∧
  u.map Nv.nd=((g.ns.drop i).map fun n=>Mx g.l n.nd).reverse∧(∀n∈u,n.ok∧n.inn.l≤2 ^ 20∧n.weights.l≤2 ^ 20∧n.bias.l≤2 ^ 20∧ ∃o∈g.ns,n.weights=o.weights∧n.bias=o.bias)∧
  aG h T g2 [own 15 g.p g.l g.c (aD g.ns),aM g.ns,aJ O g.cells,aJ Q (aK bz (zT bz)),aJ A (⟨g.width,g.low,g.high,q,k,d,((g.l:Nat):Int)+1-g.out,[]⟩:Gv).cells,own 15 q k d (aD u),cM (u.map fun n=>n.inn.row)] R) g.l
  ⟨g.l,none,0,0,[],rfl,by omega,rfl,by simp,by omega,by rw[Wj (by omega)];rfl,(by intro n B;cases B),S⟩ ?_
 rintro m s g2 ⟨i,q,k,d,u,rfl,hi,rfl,bn,hk,V,z,S⟩;unfold rZ;dsimp only;refine aq (fun bd=> ?_) (fun a1=> ?_)
 ·obtain⟨j,rfl⟩: ∃j,i=j+1:=⟨i-1,by omega⟩;have hj:j<g.ns.length:=by omega
  have ej:IntKind.wrap .i64 (((j+1:Nat):Int)-1)=(j:Int):=by rw[al (by omega)];omega
  rw[ej]
  (repeat (first|((with_reducible refine cp ?_);refine ak (S.c 2) ?_)))
  try dsimp only[Gv.t]
  have N:=(S.own 0 rfl).row;obtain⟨aa,ea⟩:=N.some_of (by rw[bE];omega);rw[ea]at N;refine aC ea rfl (by omega) ?_;refine gi N (bo hj) ?_;have C:g.ns[j]∈g.ns:=VN hj;have J:g.ns.drop j=g.ns[j]::g.ns.drop (j+1):=V6 hj;generalize g.ns[j]=nv at C J;obtain⟨Y,an,ao⟩:=a2 nv C;obtain⟨bq,a4,a5⟩:=hs nv C;refine aA S fun F h1 _ S=> ?_;refine bP S 7 rfl rfl (aW rfl) fun h2 _ S=> ?_;refine aA (cs:=[]) S fun ba h3 _ S=> ?_;refine ak (p:=nv.inn.p) (l:=nv.inn.l) (c:=nv.inn.c) (S.c 7) ?_;replace S:=S.toOwn 8 1 0 0 rfl (VX _);have a0:bD h3 nv.inn.p (az nv.inn.xs):=(S.w 1 _ rfl) nv.rows (VZ.2 ⟨nv,C,rfl⟩) nv.inn.row (by simp);refine cI S 8 (ys:=az nv.inn.xs) rfl rfl (by decide) (by omega) a0 (by rw[av,VO];exact Y.1) dc fun p' E Z h' bk S=> ?_;have a7:E=nv.inn.xs.length:=by rw[Y.1];omega
  refine aO (fun m s U=> ∃(x:Nat),s=(⟨O,0,none⟩,⟨Q,0,none⟩,(g.l:Int),⟨A,0,none⟩,((j+1:Nat):Int),⟨F,0,none⟩,(p',E,Z),(x:Int),())∧x≤E∧m=E-x∧
   aG h T U [own 15 g.p g.l g.c (aD g.ns),aM g.ns,aJ O g.cells,aJ Q (aK bz (zT bz)),aJ A (⟨g.width,g.low,g.high,q,k,d,((g.l:Nat):Int)+1-g.out,[]⟩:Gv).cells,own 15 q k d (aD u),cM (u.map fun n=>n.inn.row),
    aJ F nv.cells,own 1 p' E Z (az ((nv.inn.xs.take x).map (gK g.l)++nv.inn.xs.drop x))] R) E ⟨0,rfl,by omega,rfl,S⟩ ?_
  rintro m s U ⟨x,rfl,hx,rfl,S⟩;unfold rY;dsimp only;refine aq (fun a1=> ?_) (fun a6=> ?_)
  ·have I:x<nv.inn.xs.length:=by omega
   have a8:((nv.inn.xs.take x).map (gK g.l)++nv.inn.xs.drop x).length=E:=by simp;omega
   have ad:((nv.inn.xs.take x).map (gK g.l)++nv.inn.xs.drop x)[x]? =some nv.inn.xs[x]:=by
    rw[Wl (by simp;omega)];simp only[Ug,VV,Xd (Nat.le_of_lt I),WD,Wz,We];exact bo I
   obtain⟨ap,rfl⟩:=(S.own 8 rfl).row.some_of (by rw[av];omega);have bp:=ay nv C _ (VN I);have M:=(S.own 8 rfl).row.cell (aF ad)
   have X: ∀g4 ys,ys=(nv.inn.xs.take (x+1)).map (gK g.l)++nv.inn.xs.drop (x+1)→aG h T g4 [own 15 g.p g.l g.c (aD g.ns),aM g.ns,aJ O g.cells,aJ Q (aK bz (zT bz)),aJ A (⟨g.width,g.low,g.high,q,k,d,((g.l:Nat):Int)+1-g.out,[]⟩:Gv).cells,own 15 q k d (aD u),cM (u.map fun n=>n.inn.row),aJ F nv.cells,own 1 (some ap) E Z (az ys)] R→
    ∃m,m<E-x∧ ∃x':Nat,(((⟨O,0,none⟩:Addr),(⟨Q,0,none⟩:Addr),(g.l:Int),(⟨A,0,none⟩:Addr),((j+1:Nat):Int),(⟨F,0,none⟩:Addr),(some ap,E,Z),(x:Int)+1,()):Addr×Addr×Int×Addr×Int×Addr×(Option Addr×Nat×Nat)×Int×Unit)=(⟨O,0,none⟩,⟨Q,0,none⟩,(g.l:Int),⟨A,0,none⟩,((j+1:Nat):Int),⟨F,0,none⟩,(some ap,E,Z),(x':Int),())∧x'≤E∧m=E-x'∧
     aG h T g4 [own 15 g.p g.l g.c (aD g.ns),aM g.ns,aJ O g.cells,aJ Q (aK bz (zT bz)),aJ A (⟨g.width,g.low,g.high,q,k,d,((g.l:Nat):Int)+1-g.out,[]⟩:Gv).cells,own 15 q k d (aD u),cM (u.map fun n=>n.inn.row),aJ F nv.cells,own 1 (some ap) E Z (az ((nv.inn.xs.take x').map (gK g.l)++nv.inn.xs.drop x'))] R:=
    fun g4 ys hy S=>⟨E-(x+1),by omega,x+1,rfl,by omega,rfl,by rw[←hy];exact S⟩
   have K: ∀v,v=gK g.l nv.inn.xs[x]→((nv.inn.xs.take x).map (gK g.l)++nv.inn.xs.drop x).set x v=(nv.inn.xs.take (x+1)).map (gK g.l)++nv.inn.xs.drop (x+1):=by
    rintro v rfl;rw[Wy _ _ (by simp;omega)];simp only[Ug,VV,Xd (Nat.le_of_lt I),WD];rw[V6 I,WW,gD I,V2,VY];rfl
   refine aC rfl rfl (by omega) ?_;simp only[hC,VO];refine ae M ?_;rw[al (n:=(x:Int)+1) (by omega)];refine aq (fun ai=> ?_) (fun ag=>X _ _ ?_ S)
   ·refine aC rfl rfl (by omega) ?_;refine ae M (aC rfl rfl (by omega) ?_);rw[al (n:=((g.l:Nat):Int)+1) (by omega),al (n:=((g.l:Nat):Int)+1-nv.inn.xs[x]) (by omega)];refine AK S 8 rfl (by rw[av];omega) fun h2 _ S=> ?_;have e: ∀zs:List Int,(az zs).set x (.int .i64 (((g.l:Nat):Int)+1-nv.inn.xs[x]))=az (zs.set x (((g.l:Nat):Int)+1-nv.inn.xs[x])):=fun zs=>by simp[az,XH]
    rw[e]at S;exact X _ _ (K _ (by unfold gK;rw[if_pos ai])) S
   ·rw[←K nv.inn.xs[x] (by unfold gK;rw[if_neg ag])];apply Wk;intro y;by_cases hy:y=x
    ·subst hy;rw[V4 (by omega),ad]
    ·rw[Wv (Ne.symm hy)]
  ·have a3:x=E:=by omega
   rw[a3,py (by omega),Wj (by omega),Wd]at S;refine be S 7 rfl (k:=1) (OU rfl) fun h2 _ S=> ?_;have aj:=jd (i:=8) S rfl;replace S:=own_row (i:=8) S rfl;generalize G:(Sl.mk p' E Z (nv.inn.xs.map (gK g.l)))=inn at S aj;have S2:aG h T h2 [own 15 g.p g.l g.c (aD g.ns),aM g.ns,aJ O g.cells,aJ Q (aK bz (zT bz)),aJ A (⟨g.width,g.low,g.high,q,k,d,((g.l:Nat):Int)+1-g.out,[]⟩:Gv).cells,own 15 q k d (aD u),cM (u.map fun n=>n.inn.row),
    aJ F ({nv with inn:=inn}:Nv).cells,inn.row] R:=by rw[←G];rw[←G]at S;exact S
   have S:=S2;refine ak (p:=q) (l:=k) (c:=d) (S.c 4) ?_;refine aL S 7 rfl (x:=({nv with inn:=inn}:Nv).t) rfl ?_;refine aA S fun bb h3 _ S=> ?_;refine cI S 5 (ys:=({nv with inn:=inn}:Nv).cells) rfl rfl (by decide) (by omega) (bD.of_at (S.at 9 rfl)) rfl (aW rfl) fun p2 l2 c2 h4 bm S=> ?_;refine be S 4 rfl (k:=3) (OU rfl) fun h5 _ S=> ?_;rw[al (by omega)];have ar:((j+1:Nat):Int)-1=(j:Int):=by omega
   rw[ar];have S3:=S.joinR [0,1,2,3,4,5] 6 8 rfl rfl;refine⟨j,by omega,j,p2,l2,c2,u++[{nv with inn:=inn}],rfl,by omega,rfl,by simp;omega,by omega,?_,?_,?_⟩
   ·rw[J,V2,V];simp only[Wc,WZ,List.reverse_cons];congr 2;rw[←G];rfl
   ·intro n B;rcases VW.1 B with B|B
    ·exact z n B
    ·simp only[VK]at B;subst B;exact⟨⟨aj,an,ao⟩,by rw[←G];show E≤_;omega,a4,a5,nv,C,rfl,rfl⟩
   ·rw[fK,V2];have en:aD [({nv with inn:=inn}:Nv)]=({nv with inn:=inn}:Nv).cells:=by simp[aD]
    rw[en];exact S3
 ·have ax:i=0:=by omega
  subst ax;have S4:=S.join [5] [1,6];dsimp only[Sh.pick,List.getElem?_cons_zero,List.getElem?_cons_succ,Yg,Yh]at S4;have done: ∀U,aG h T U [own 15 q k d (aD u),cM [aM g.ns,cM (u.map fun n=>n.inn.row)]] R→ ∃D:Gv,(⟨g.width,g.low,g.high,q,k,d,((g.l:Nat):Int)+1-g.out,u⟩:Gv).v=D.v∧D.ok∧D.gr=g.gr.turned∧(∀n∈D.ns,n.inn.l≤2 ^ 20∧n.weights.l≤2 ^ 20∧n.bias.l≤2 ^ 20)∧aG h T U [own 15 D.p D.l D.c (aD D.ns),aM D.ns] R:=by
   intro U S;refine⟨⟨g.width,g.low,g.high,q,k,d,((g.l:Nat):Int)+1-g.out,u⟩,rfl,⟨by show u.length=k;omega,(S.own 0 rfl).2.1,fun n B=>(z n B).1⟩,?_,fun n B=>⟨(z n B).2.1,(z n B).2.2.1,(z n B).2.2.2.1⟩,?_⟩
   ·have aw:g.gr.nodes.length=g.l:=by simp[Gv.gr];omega
    show(⟨g.width,g.low,g.high,u.map Nv.nd,((g.l:Nat):Int)+1-g.out⟩:Gr)=_;rw[V,Xb];unfold Gr.turned;rw[aw];simp only[Gv.gr,Xa];rfl
   ·refine S.turn 1 rfl (aM u) (fun H=>P7 (fun n B=>mC (mC H (f:=cM (u.map fun n=>n.inn.row)) (by simp)) (VZ.2 ⟨n,B,rfl⟩)) (fun n B=> ?_)) (fun b ⟨f,hf,hb⟩=> ?_)
    ·obtain⟨_,_,_,_,o,ho,e1,e2⟩:=z n B;have:=mC (mC H (f:=aM g.ns) (by simp)) (f:=o.rows) (VZ.2 ⟨o,ho,rfl⟩);rw[e1,e2];exact⟨mC this (by simp),mC this (by simp)⟩
    ·obtain⟨n,B,rfl⟩:=VZ.1 hf;obtain⟨_,_,_,_,o,ho,e1,e2⟩:=z n B;obtain⟨f2,ab,hb⟩:=hb;simp only[V5,WO,or_false]at ab;rcases ab with rfl|rfl|rfl
     ·exact⟨_,V0 _ (VK.2 rfl),_,VZ.2 ⟨n,B,rfl⟩,hb⟩
     ·rw[e1]at hb;exact⟨_,Wb,o.rows,VZ.2 ⟨o,ho,rfl⟩,_,by simp,hb⟩
     ·rw[e2]at hb;exact⟨_,Wb,o.rows,VZ.2 ⟨o,ho,rfl⟩,_,by simp,hb⟩
  refine aL S 4 rfl (x:=(⟨g.width,g.low,g.high,q,k,d,((g.l:Nat):Int)+1-g.out,[]⟩:Gv).t) rfl ?_;refine bP S 3 rfl rfl (aW rfl) fun U _ S=> ?_;refine aL S 3 rfl (x:=(⟨g.width,g.low,g.high,q,k,d,((g.l:Nat):Int)+1-g.out,[]⟩:Gv).t) rfl ?_;have S5:=S.join [5] [1,6];exact done U S5
