/- CModelR CModelR2, in one text. -/
import Derived.Test.YtdhpmegbmjoekaaGreatDoorCModelE
set_option linter.unusedVariables false
set_option linter.unusedSimpArgs false
namespace Go.Proofs.YtdhpmegbmjoekaaGreatDoor.G
open Go Go.Sh
open Go.IntKind renaming wrap→kn
section
abbrev ot(b:Nat)(s:List UInt8)(bad:Bool):bc:=aJ b [.string (str s),.bool bad]
def Fm(xs:List Int):List UInt8:=low (kn .u64 xs.length) 2++words xs
theorem iS(xs:List Int):(Fm xs).length=2+4*xs.length:=by simp[Fm,ce,cG]
def HP(xs:List Int):Prop:=xs.length≤65535∧bv fz fL xs
instance (xs:List Int):Decidable (HP xs):=by unfold HP;infer_instance
theorem MO{xs:List Int}(h:HP xs):Fm xs=rowB xs:=by unfold Fm rowB;rw[if_neg (by have:=h.1;omega)]
def Nd.encR(n:Nd):List UInt8:=
 dj [n.kind,n.inn.length]++dj n.inn++dj [n.width,n.size,n.step,n.gap,n.left,n.right]++Fm n.weights++Fm n.bias++Sh.low (kn .u64 n.mult) 2++dj [n.shift]++words [n.low,n.high]++dj [n.post]
theorem Nd.encR_length(n:Nd):n.encR.length≤26+n.inn.length+4*n.weights.length+4*n.bias.length:=by
 simp only[Nd.encR,Tz,bO,ce,cG,iS,VS,V9];omega
theorem Nd.encR_eq{n:Nd}(h:n.fit):n.encR=n.enc:=by
 unfold Nd.encR Nd.enc;rw[MO h.2.2.2.1,MO h.2.2.2.2.1]
theorem yL: ∀(l:List Nd),(∀n∈l,n.short)→(l.flatMap Nd.encR).length≤l.length*2 ^ 24
 |[],_=>by simp
 |n::r,h=>by
  have d:=yL r fun x c=>h x (by simp[c]);have e:=n.encR_length;have a:=h n (by simp);unfold Nd.short at a;simp only[Ww,Tz,VS,Wr];omega
theorem JU: ∀(l:List Nd),(∀n∈l,n.fit)→l.flatMap Nd.encR=l.flatMap Nd.enc
 |[],_=>rfl
 |n::r,h=>by rw[Ww,Ww,Nd.encR_eq (h n (by simp)),JU r fun x a=>h x (by simp[a])]
theorem nb(b:Bool)(p:Prop) [Decidable p]:(b|| !decide p)=false↔b=false∧p:=by cases b<;>simp
theorem JV{a b:Bool}(h:a=false↔b=false):a=b:=by cases a<;>cases b<;>simp_all
section
variable {h:ah} {T:Nat→Prop} {R:List bc} {b:Nat} {s:List UInt8} {bad:Bool}
theorem Sv(x lo hi:Int):au P wI #[.int .i64 x,.int .i64 lo,.int .i64 hi] h fun v a=>v= .bool (decide (lo≤x∧x≤hi))∧a=h:=by
 refine EA _ _ _ ?_;unfold HY;refine aq (fun c=>⟨?_,rfl⟩) (fun c=>⟨?_,rfl⟩)
 ·congr 1;rw[decide_eq_decide];omega
 ·rw[decide_eq_false (by omega)]
theorem HR(S:aG h T h [ot b s bad] R)(x:Int)(n:Nat)(a:n<2 ^ 30)(lo hi:Int)(g:s.length<2 ^ 60):
 au P fG #[.pointer (some ⟨b,0,none⟩),.int .i64 x,.int .i64 n,.int .i64 lo,.int .i64 hi] h fun v f=>v= .tuple #[]∧aG h T f [ot b (s++low (kn .u64 x) n) (bad|| !decide (bv lo hi [x]))] R:=by
 refine wz _ _ _ _ _ ?_;unfold vH;have d:decide (bv lo hi [x])=decide (lo≤x∧x≤hi):=by rw[decide_eq_decide];unfold bv;simp
 rw[d];refine(Sv x lo hi).mono ?_;rintro _ _ ⟨rfl,rfl⟩;refine⟨_,rfl,?_⟩;refine oz (fun e=> ?_) (fun e=> ?_)
 ·(repeat (first|with_reducible refine bx ?_|((with_reducible refine uy ?_);refine oB (S.c 0) ?_)|((with_reducible refine m7 ?_);refine be S 0 rfl (OU rfl) (fun _ _ S=> ?_);try dsimp only[List.set,Yg,Yh]at S)));refine(Fp (n:=n) (sY x) a).mono ?_;rintro _ _ ⟨rfl,F⟩;refine⟨_,rfl,?_⟩;replace S:=S.fra0 F
  (repeat (first|((with_reducible refine uz ?_);refine aX (S.c 0) ?_)));refine kv (by rw[cu,cu,ce];omega) ?_;rw[jC]
  (repeat (first|with_reducible refine bx ?_|((with_reducible refine m7 ?_);refine be S 0 rfl (OU rfl) (fun _ _ S=> ?_);try dsimp only[List.set,Yg,Yh]at S)));rw[e,Bool.or_true];exact⟨rfl,S⟩
 ·(repeat (first|with_reducible refine bx ?_|((with_reducible refine uy ?_);refine oB (S.c 0) ?_)));refine(Fp (n:=n) (sY x) a).mono ?_;rintro _ _ ⟨rfl,F⟩;refine⟨_,rfl,?_⟩;replace S:=S.fra0 F
  (repeat (first|((with_reducible refine uz ?_);refine aX (S.c 0) ?_)));refine kv (by rw[cu,cu,ce];omega) ?_;rw[jC]
  (repeat (first|with_reducible refine bx ?_|((with_reducible refine m7 ?_);refine be S 0 rfl (OU rfl) (fun _ _ S=> ?_);try dsimp only[List.set,Yg,Yh]at S)));rw[e,Bool.or_false];exact⟨rfl,S⟩
theorem rK(S:aG h T h [ot b s bad] R)(x:Int)(c:s.length<2 ^ 60):
 au P cS #[.pointer (some ⟨b,0,none⟩),.int .i64 x] h fun v a=>v= .tuple #[]∧aG h T a [ot b (s++dj [x]) (bad|| !decide (bv 0 255 [x]))] R:=by
 refine wA _ _ ?_;unfold vI;refine(HR S x 1 (by decide) 0 255 c).mono ?_;rintro _ _ ⟨rfl,S⟩;exact⟨rfl,rfl,by simpa[dj,O3] using S⟩
theorem yM(S:aG h T h [ot b s bad] R)(x:Int)(c:s.length<2 ^ 60):
 au P dI #[.pointer (some ⟨b,0,none⟩),.int .i64 x] h fun v a=>v= .tuple #[]∧aG h T a [ot b (s++words [x]) (bad|| !decide (bv fz fL [x]))] R:=by
 refine vy _ _ ?_;unfold sZ;refine(HR S x 4 (by decide) fz fL c).mono ?_;rintro _ _ ⟨rfl,S⟩;exact⟨rfl,rfl,by simpa[words] using S⟩
theorem xq{lo hi:Int}{xs:List Int}{i:Nat}(a:i<xs.length)(c:Bool):((c|| !decide (bv lo hi (xs.take i)))|| !decide (bv lo hi [xs[i]]))=(c|| !decide (bv lo hi (xs.take (i+1)))):=by
 rw[TV];congr 2;rw[decide_eq_decide,iv a];unfold bv;simp
theorem QR(S:aG h T h [ot b s bad] R)(j:Nat){q:Option Addr}{k d:Nat}{xs:List Int}(t:R[j]? =some (row q (az xs)))(y:xs.length=k)(z:k≤2 ^ 20)(C:s.length<2 ^ 50):
 au P ju #[.pointer (some ⟨b,0,none⟩),.slice q k d] h fun v u=>v= .tuple #[]∧aG h T u [ot b (s++Fm xs) (bad|| !decide (HP xs))] R:=by
 refine wB _ _ _ _ ?_;unfold vJ;refine(HR S (k:Int) 2 (by decide) 0 65535 (by omega)).mono ?_;rintro _ _ ⟨rfl,e⟩;refine⟨rfl,?_⟩;generalize c:(bad|| !decide (bv 0 65535 [(k:Int)]))=bd at e;refine aO (fun m l g=> ∃(i:Nat),l=(some ⟨b,0,none⟩,(q,k,d),(i:Int),())∧i≤k∧m=k-i∧aG h T g [ot b (s++(low (kn .u64 k) 2++words (xs.take i))) (bd|| !decide (bv fz fL (xs.take i)))] R) k
  ⟨0,rfl,by omega,rfl,by simpa[words,cK] using e⟩ ?_
 rintro m l g ⟨i,rfl,x,rfl,S⟩;unfold pl;dsimp only;refine aq (fun A=> ?_) (fun w=> ?_)
 ·have a:i<xs.length:=by omega
  have f:=S.row j t;obtain⟨B,rfl⟩:=f.some_of (by rw[av];omega);refine aC rfl rfl (by omega) ?_;simp only[hC,VO];refine ae (f.cell (aF (bo a))) ?_;have n:=S.into [0] [] [];refine(yM n xs[i] (by simp only[Tz,ce,cG,VV];omega)).mono ?_;rintro _ _ ⟨rfl,o⟩;refine⟨rfl,?_⟩;replace S:=S.back [0] o
  try dsimp only[bY,List.set,Yg,Yh]at S
  rw[al (by omega)];refine⟨k-(i+1),by omega,i+1,rfl,by omega,rfl,?_⟩;have r:s++(low (kn .u64 k) 2++words (xs.take i))++words [xs[i]]=s++(low (kn .u64 k) 2++words (xs.take (i+1))):=by
   rw[wy a];simp[words,VY]
  rw[r,xq a]at S;exact S
 ·have:i=k:=by omega
  subst this;rw[py (by omega)]at S;refine⟨by trivial,?_⟩;have p:(bd|| !decide (bv fz fL xs))=(bad|| !decide (HP xs)):=by
   rw[←c,TV];congr 2;rw[decide_eq_decide];unfold HP;have:bv 0 65535 [(i:Int)]↔xs.length≤65535:=by unfold bv;simp;omega
   rw[this]
  rw[p]at S;unfold Fm;rw[y];exact S
theorem Ev{xs:List Int}{i:Nat}(hi:i<xs.length):dj (xs.take (i+1))=dj (xs.take i)++dj [xs[i]]:=by
 rw[Fq hi];simp[dj]
theorem Sw(S:aG h T h [ot b s bad] R)(y:Nat){nv:Nv}(U:R[y]? =some nv.rows)(K:nv.ok)(L:nv.nd.short)(hl:s.length<2 ^ 40):
 au P kp #[.pointer (some ⟨b,0,none⟩),nv.v] h fun v h'=>v= .tuple #[]∧aG h T h' [ot b (s++nv.nd.encR) (bad|| !decide nv.nd.fit)] R:=by
 refine vz _ _ ?_;unfold s0;obtain⟨N,z,A⟩:=K;have W:nv.inn.xs.length≤2 ^ 20:=L.1;have X:nv.weights.xs.length≤2 ^ 20:=L.2.1;have V:nv.bias.xs.length≤2 ^ 20:=L.2.2;have Q:=N.1;have O:Sh.pick R [y]=[nv.rows]:=by simp only[Sh.pick,U]
 refine aA (cs:=nv.cells) S fun C h1 _ S=> ?_
 (repeat (first|((with_reducible refine aV ?_);refine ae (S.c 1) ?_)));refine(rK (S.into [0] [] []) nv.kind (by omega)).mono ?_;rintro _ _ ⟨rfl,a⟩;refine⟨rfl,?_⟩;replace S:=S.back [0] a
 try dsimp only[bY,List.set,Yg,Yh]at S
 (repeat (first|((with_reducible refine cp ?_);refine ak (S.c 1) ?_)));refine(rK (S.into [0] [] []) ((nv.inn.l:Nat):Int) (by rw[Tz,bO,VS,V9];omega)).mono ?_;rintro _ _ ⟨rfl,a⟩;refine⟨rfl,?_⟩;replace S:=S.back [0] a
 try dsimp only[bY,List.set,Yg,Yh]at S
 generalize G:(bad|| !decide (bv 0 255 [nv.kind])|| !decide (bv 0 255 [((nv.inn.l:Nat):Int)]))=bd at S;have E:bd=false↔bad=false∧bv 0 255 [nv.kind,((nv.inn.l:Nat):Int)]:=by
  rw[←G,nb,nb];simp only[cn,cK,and_true,and_assoc]
 have D:s++dj [nv.kind]++dj [((nv.inn.l:Nat):Int)]=s++dj [nv.kind,((nv.inn.l:Nat):Int)]:=by simp[dj,VY]
 rw[D]at S;generalize x:s++dj [nv.kind,((nv.inn.l:Nat):Int)]=hd at S;have ab:hd.length=s.length+2:=by rw[←x,Tz,bO];rfl
 refine aO (fun m B g=> ∃(i:Nat),B=(some ⟨b,0,none⟩,⟨C,0,none⟩,(i:Int),())∧i≤nv.inn.l∧m=nv.inn.l-i∧aG h T g [ot b (hd++dj (nv.inn.xs.take i)) (bd|| !decide (bv 0 255 (nv.inn.xs.take i))),aJ C nv.cells] R) nv.inn.l
  ⟨0,rfl,by omega,rfl,by simpa[dj,cK] using S⟩ ?_
 rintro m B g ⟨i,rfl,I,rfl,S⟩;unfold nS
 (repeat (first|((with_reducible refine cp ?_);refine ak (S.c 1) ?_)));dsimp only[Nv.t];refine aq (fun J=> ?_) (fun H=> ?_)
 ·have d:i<nv.inn.xs.length:=by omega
  have j:bD g nv.inn.p (az nv.inn.xs):=S.readF y (l:=[nv.inn.row,nv.weights.row,nv.bias.row]) (f:=nv.inn.row) (by simp) U;obtain⟨aa,ea⟩:=j.some_of (by rw[av];omega)
  (repeat (first|((with_reducible refine cp ?_);refine ak (S.c 1) ?_)));dsimp only[Nv.t];refine aC ea rfl (by omega) ?_;simp only[hC,VO];rw[ea]at j;refine ae (j.cell (aF (bo d))) ?_;refine(rK (S.into [0] [] []) nv.inn.xs[i] (by rw[Tz,bO,VV];omega)).mono ?_;rintro _ _ ⟨rfl,a⟩;refine⟨rfl,?_⟩;replace S:=S.back [0] a
  try dsimp only[bY,List.set,Yg,Yh]at S
  rw[al (by omega)];refine⟨nv.inn.l-(i+1),by omega,i+1,rfl,by omega,rfl,?_⟩;rw[xq d,VY,←Ev d]at S;exact S
 ·have e:i=nv.inn.l:=by omega
  rw[e,py (by omega)]at S;generalize r:(bd|| !decide (bv 0 255 nv.inn.xs))=bd2 at S;have F:bd2=false↔(bad=false∧bv 0 255 [nv.kind,((nv.inn.l:Nat):Int)])∧bv 0 255 nv.inn.xs:=by rw[←r,nb,E]
  (repeat (first|((with_reducible refine aV ?_);refine ae (S.c 1) ?_)));refine aA S (fun o _ _ S=> ?_);refine bP S 2 rfl rfl (dc (l:=[nv.width,nv.size,nv.step,nv.gap,nv.left,nv.right])) fun h2 _ S=> ?_;refine aO (fun m B g=> ∃(i:Nat),B=(some ⟨b,0,none⟩,⟨C,0,none⟩,⟨o,0,none⟩,(i:Int),())∧i≤6∧m=6-i∧aG h T g [ot b (hd++dj nv.inn.xs++dj ([nv.width,nv.size,nv.step,nv.gap,nv.left,nv.right].take i)) (bd2|| !decide (bv 0 255 ([nv.width,nv.size,nv.step,nv.gap,nv.left,nv.right].take i))),aJ C nv.cells,
   aJ o (az [nv.width,nv.size,nv.step,nv.gap,nv.left,nv.right])] R) 6
   ⟨0,rfl,by omega,rfl,by rw[WK,show dj []=[] from rfl,Wd,decide_eq_true (cK 0 255),Bool.not_true,Bool.or_false];exact S⟩ ?_
  rintro m B g ⟨i,rfl,I,rfl,S⟩;unfold nR;dsimp only;refine aq (fun J=> ?_) (fun H=> ?_)
  ·have d:i<[nv.width,nv.size,nv.step,nv.gap,nv.left,nv.right].length:=by simp only[VS,V9];omega
   refine fm (by omega) (by omega) ?_;simp only[hC,VO];have j:=bD.of_at (S.ap 2);generalize ag:[nv.width,nv.size,nv.step,nv.gap,nv.left,nv.right]=l6 at S j d;refine ae (j.cell (aF (bo d))) ?_;refine(rK (S.into [0] [] []) l6[i] (by simp only[Tz,bO,VV];omega)).mono ?_;rintro _ _ ⟨rfl,a⟩;refine⟨rfl,?_⟩;replace S:=S.back [0] a
   try dsimp only[bY,List.set,Yg,Yh]at S
   rw[al (by omega)];refine⟨6-(i+1),by omega,i+1,rfl,by omega,rfl,?_⟩;rw[xq d,VY (hd++_),←Ev d]at S;exact S
  ·have e:i=6:=by omega
   have M:[nv.width,nv.size,nv.step,nv.gap,nv.left,nv.right].take 6=[nv.width,nv.size,nv.step,nv.gap,nv.left,nv.right]:=rfl;rw[e,M]at S;replace S:=S.pw [0,1];generalize u:(bd2|| !decide (bv 0 255 [nv.width,nv.size,nv.step,nv.gap,nv.left,nv.right]))=bd3 at S;have q:bd3=false↔bd2=false∧bv 0 255 [nv.width,nv.size,nv.step,nv.gap,nv.left,nv.right]:=by rw[←u,nb]
   rw[F]at q;generalize w:hd++dj nv.inn.xs++dj [nv.width,nv.size,nv.step,nv.gap,nv.left,nv.right]=hd3 at S;have ad:hd3.length≤2 ^ 40+2 ^ 21:=by rw[←w];simp only[Tz,bO,VS,V9];omega
   (repeat (first|((with_reducible refine cp ?_);refine ak (S.c 1) ?_)));have k:=S.into [0] [] [y];rw[O]at k;have n:=k.oneOf 0 (l:=[nv.inn.row,nv.weights.row,nv.bias.row]) (f:=nv.weights.row) (by simp);dsimp only[Sh.pick,List.getElem?_cons_zero,List.getElem?_cons_succ,Yh,List.set]at n;refine(QR n 0 rfl z.1 (by have:=z.1;omega) (by omega)).mono ?_;rintro _ _ ⟨rfl,a⟩;refine⟨rfl,?_⟩;replace S:=S.back [0] a
   try dsimp only[bY,List.set,Yg,Yh]at S
   (repeat (first|((with_reducible refine cp ?_);refine ak (S.c 1) ?_)));have k:=S.into [0] [] [y];rw[O]at k;have n:=k.oneOf 0 (l:=[nv.inn.row,nv.weights.row,nv.bias.row]) (f:=nv.bias.row) (by simp);dsimp only[Sh.pick,List.getElem?_cons_zero,List.getElem?_cons_succ,Yh,List.set]at n;refine(QR n 0 rfl A.1 (by have:=A.1;omega) (by simp only[Tz,iS];omega)).mono ?_;rintro _ _ ⟨rfl,a⟩;refine⟨rfl,?_⟩;replace S:=S.back [0] a
   try dsimp only[bY,List.set,Yg,Yh]at S
   (repeat (first|((with_reducible refine aV ?_);refine ae (S.c 1) ?_)));refine(HR (S.into [0] [] []) nv.mult 2 (by decide) 0 65535 (by simp only[Tz,iS];omega)).mono ?_;rintro _ _ ⟨rfl,a⟩;refine⟨rfl,?_⟩;replace S:=S.back [0] a
   try dsimp only[bY,List.set,Yg,Yh]at S
   (repeat (first|((with_reducible refine aV ?_);refine ae (S.c 1) ?_)));refine(rK (S.into [0] [] []) nv.shift (by simp only[Tz,iS,ce];omega)).mono ?_;rintro _ _ ⟨rfl,a⟩;refine⟨rfl,?_⟩;replace S:=S.back [0] a
   try dsimp only[bY,List.set,Yg,Yh]at S
   (repeat (first|((with_reducible refine aV ?_);refine ae (S.c 1) ?_)));refine(yM (S.into [0] [] []) nv.low (by simp only[Tz,iS,ce,bO,VS,V9];omega)).mono ?_;rintro _ _ ⟨rfl,a⟩;refine⟨rfl,?_⟩;replace S:=S.back [0] a
   try dsimp only[bY,List.set,Yg,Yh]at S
   (repeat (first|((with_reducible refine aV ?_);refine ae (S.c 1) ?_)));refine(yM (S.into [0] [] []) nv.high (by simp only[Tz,iS,ce,bO,cG,VS,V9];omega)).mono ?_;rintro _ _ ⟨rfl,a⟩;refine⟨rfl,?_⟩;replace S:=S.back [0] a
   try dsimp only[bY,List.set,Yg,Yh]at S
   (repeat (first|((with_reducible refine aV ?_);refine ae (S.c 1) ?_)));refine(rK (S.into [0] [] []) nv.post (by simp only[Tz,iS,ce,bO,cG,VS,V9];omega)).mono ?_;rintro _ _ ⟨rfl,a⟩;refine⟨rfl,?_⟩;replace S:=S.back [0] a
   try dsimp only[bY,List.set,Yg,Yh]at S
   refine⟨by trivial,?_⟩;have Y:hd3++Fm nv.weights.xs++Fm nv.bias.xs++low (kn .u64 nv.mult) 2++dj [nv.shift]++words [nv.low]++words [nv.high]++dj [nv.post]=s++nv.nd.encR:=by
    rw[←w,←x,←Q];simp only[Nd.encR,Nv.nd,VY];simp[words,VY]
   have Z:(bd3|| !decide (HP nv.weights.xs)|| !decide (HP nv.bias.xs)|| !decide (bv 0 65535 [nv.mult])|| !decide (bv 0 255 [nv.shift])|| !decide (bv fz fL [nv.low])|| !decide (bv fz fL [nv.high])|| !decide (bv 0 255 [nv.post]))=(bad|| !decide nv.nd.fit):=by
    apply JV;rw[nb,nb,nb,nb,nb,nb,nb,nb,q,←Q];simp only[Nd.fit,Nv.nd,HP,cn,cK,and_true,and_assoc]
   rw[Y,Z]at S;exact S.pw [0]
end
end
section
theorem Ak{h:ah}{g:Gv}(hp:bD h g.p (aD g.ns))(hr:(aM g.ns).P h)(J:g.ok)(K:g.gr.short):
 au P iC #[g.v] h fun v X=>v= .tuple #[.string (str g.gr.out2.1),.int .i64 g.gr.out2.2]∧cd no h X:=by
 refine xu _ ?_;unfold xt;have S:=((aG.start h no).read (row g.p (aD g.ns)) hp).read (aM g.ns) hr;obtain⟨q,Q,w⟩:=J;have C:g.l≤1000:=by have:=K.1;simp[Gv.gr]at this;omega
 refine aA S (fun M _ _ S=> ?_);have W:(ByteArray.mk #[69,65,82,49])=str dV:=rfl;rw[W];refine aA S (fun N _ _ S=> ?_);replace S:=S.pw [1,0];have I:dV.length=4:=rfl
 (repeat (first|((with_reducible refine aV ?_);refine ae (S.c 1) ?_)));refine(rK (S.into [0] [] []) g.width (by omega)).mono ?_;rintro _ _ ⟨rfl,a⟩;refine⟨rfl,?_⟩;replace S:=S.back [0] a
 try dsimp only[bY,List.set,Yg,Yh]at S
 (repeat (first|((with_reducible refine aV ?_);refine ae (S.c 1) ?_)));refine(yM (S.into [0] [] []) g.low (by simp only[Tz,bO,VS,V9];omega)).mono ?_;rintro _ _ ⟨rfl,a⟩;refine⟨rfl,?_⟩;replace S:=S.back [0] a
 try dsimp only[bY,List.set,Yg,Yh]at S
 (repeat (first|((with_reducible refine aV ?_);refine ae (S.c 1) ?_)));refine(yM (S.into [0] [] []) g.high (by simp only[Tz,bO,cG,VS,V9];omega)).mono ?_;rintro _ _ ⟨rfl,a⟩;refine⟨rfl,?_⟩;replace S:=S.back [0] a
 try dsimp only[bY,List.set,Yg,Yh]at S
 (repeat (first|((with_reducible refine cp ?_);refine ak (S.c 1) ?_)));refine(rK (S.into [0] [] []) ((g.l:Nat):Int) (by simp only[Tz,bO,cG,VS,V9];omega)).mono ?_;rintro _ _ ⟨rfl,a⟩;refine⟨rfl,?_⟩;replace S:=S.back [0] a
 try dsimp only[bY,List.set,Yg,Yh]at S
 generalize z:(dV++dj [g.width]++words [g.low]++words [g.high]++dj [((g.l:Nat):Int)]:List UInt8)=hd at S;have ab:hd.length=14:=by rw[←z];simp only[Tz,bO,cG,VS,V9,I]
 generalize j:(false|| !decide (bv 0 255 [g.width])|| !decide (bv fz fL [g.low])|| !decide (bv fz fL [g.high])|| !decide (bv 0 255 [((g.l:Nat):Int)]))=o at S;have x:o=false↔(bv 0 255 [g.width]∧bv fz fL [g.low,g.high]∧bv 0 255 [((g.l:Nat):Int)]):=by
  rw[←j,nb,nb,nb,nb];simp only[true_and,cn,cK,and_true,and_assoc]
 refine aO (fun m s O=> ∃(i:Nat)(o:Bool),s=(⟨M,0,none⟩,⟨N,0,none⟩,(i:Int),())∧i≤g.l∧m=g.l-i∧
  (o=false↔((bv 0 255 [g.width]∧bv fz fL [g.low,g.high]∧bv 0 255 [((g.l:Nat):Int)])∧ ∀n∈g.gr.nodes.take i,n.fit))∧
  aG h no O [ot N (hd++(g.gr.nodes.take i).flatMap Nd.encR) o,
   aJ M [.int .i64 g.width,.int .i64 g.low,.int .i64 g.high,.slice g.p g.l g.c,.int .i64 g.out]] [row g.p (aD g.ns),aM g.ns]) g.l
  ⟨0,o,rfl,by omega,rfl,by rw[x];simp,by rw[WK,Xz,Wd];exact S⟩ ?_
 rintro m s O ⟨i,o,rfl,ad,rfl,j,S⟩;unfold rN;dsimp only;have U:=yL (g.gr.nodes.take i) fun n e=>K.2 n (W9 e);have Z:(g.gr.nodes.take i).length*2 ^ 24≤1000*2 ^ 24:=Wu _ (by rw[VV];omega);have G:(hd++(g.gr.nodes.take i).flatMap Nd.encR).length<2 ^ 36:=by rw[Tz];omega
 (repeat (first|((with_reducible refine cp ?_);refine ak (S.c 1) ?_)));refine aq (fun ag=> ?_) (fun r=> ?_)
 ·have u:i<g.ns.length:=by omega
  (repeat (first|((with_reducible refine cp ?_);refine ak (S.c 1) ?_)));have L:=S.ro 0;obtain⟨aa,ea⟩:=L.some_of (by rw[bE];omega);rw[ea]at L;refine aC ea rfl (by omega) ?_;refine gi L (bo u) ?_;have d:g.ns[i]∈g.ns:=VN u;have k:g.gr.nodes[i]? =some g.ns[i].nd:=by simp[Gv.gr,u]
  generalize ai:g.ns[i]=nv at d k;have V:=(S.into [0] [] [1]).oneOf 0 (f:=nv.rows) (VZ.2 ⟨_,d,rfl⟩);refine(Sw V 0 rfl (w _ d) (K.2 _ (VL k)) (by omega)).mono ?_;rintro _ _ ⟨rfl,a⟩;refine⟨rfl,?_⟩;replace S:=S.back [0] a
  try dsimp only[bY,List.set,Yg,Yh]at S
  rw[al (by omega)];have t:i<g.gr.nodes.length:=by simp[Gv.gr];omega
  have r:g.gr.nodes[i]=nv.nd:=by rw[bo t]at k;exact Option.some.inj k
  have D:(g.gr.nodes.take (i+1)).flatMap Nd.encR=(g.gr.nodes.take i).flatMap Nd.encR++nv.nd.encR:=by
   rw[gD t,XB,r];simp
  refine⟨g.l-(i+1),by omega,i+1,o|| !decide nv.nd.fit,rfl,by omega,rfl,?_,?_⟩
  ·rw[Xn,j,Xj,decide_eq_true_eq,gD t,r,and_assoc];constructor
   ·rintro⟨F,B,Y⟩;refine⟨F,fun n e=> ?_⟩;rcases VW.1 e with e|e
    ·exact B n e
    ·simp only[VK]at e;subst e;exact Y
   ·rintro⟨F,B⟩;exact⟨F,fun n e=>B n (Wt _ e),B _ (WP _ (by simp))⟩
  ·rw[D,←VY];exact S
 ·have H:i=g.l:=by omega
  subst H;have A:g.gr.nodes.take g.l=g.gr.nodes:=py (by simp[Gv.gr];omega);rw[A]at S G
  (repeat (first|((with_reducible refine aV ?_);refine ae (S.c 1) ?_)));refine(rK (S.into [0] [] []) g.out (by omega)).mono ?_;rintro _ _ ⟨rfl,a⟩;refine⟨rfl,?_⟩;replace S:=S.back [0] a
  try dsimp only[bY,List.set,Yg,Yh]at S
  (repeat (first|with_reducible refine bx ?_|((with_reducible refine zP ?_);refine fY (S.c 0) ?_)));have D:(o|| !decide (bv 0 255 [g.out]))= !decide g.gr.fit:=by
   apply JV;rw[Xn,j,A,Xj,decide_eq_true_eq,Xj,decide_eq_true_eq,←q];simp only[Gr.fit,Gv.gr,Ug,and_assoc]
  rw[D]at S ⊢;by_cases y:g.gr.fit
  ·have E:g.gr.out2=(dV++g.gr.enc,0):=by unfold Gr.out2;rw[if_pos y]
   rw[E];refine bG (by simp[y]) ?_
   (repeat (first|with_reducible refine bx ?_|((with_reducible refine uy ?_);refine oB (S.c 0) ?_)));refine⟨?_,S.fra⟩;have:dV++g.gr.enc=hd++g.gr.nodes.flatMap Nd.encR++dj [g.out]:=by
    rw[←z,←q,JU _ y.2.2.2.1];simp only[Gr.enc,Gv.gr,Ug,VY];simp[words,VY]
   rw[this]
  ·have E:g.gr.out2=([],22):=by unfold Gr.out2;rw[if_neg y]
   rw[E];exact cC (by simp[y]) ⟨rfl,S.fra⟩
