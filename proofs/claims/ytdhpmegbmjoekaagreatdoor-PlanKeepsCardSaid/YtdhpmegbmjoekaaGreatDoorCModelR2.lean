/- CModelR CModelR2, in one text. -/
import Derived.Test.YtdhpmegbmjoekaaGreatDoorCModelE
set_option linter.unusedVariables false
set_option linter.unusedSimpArgs false
namespace Go.Proofs.YtdhpmegbmjoekaaGreatDoor.G
open Go Go.Sh
section
abbrev ot (b:Nat) (s:List UInt8) (bad:Bool):aY:=blk b [.string (str s),.bool bad]
def F8 (xs:List Int):List UInt8:=low (IntKind.wrap .u64 xs.length) 2++words xs
theorem iY (xs:List Int):(F8 xs).length=2+4*xs.length:=by simp[F8,ce,cM]
def Ir (xs:List Int):Prop:=xs.length≤65535∧bv gz gH xs
instance (xs:List Int):Decidable (Ir xs):=by unfold Ir;infer_instance
theorem Mx {xs:List Int} (h:Ir xs):F8 xs=rowB xs:=by unfold F8 rowB;rw[if_neg (by have:=h.1;omega)]
def Nd.encR (n:Nd):List UInt8:=
 dw [n.kind,n.inn.length]++dw n.inn++dw [n.width,n.size,n.step,n.gap,n.left,n.right]++F8 n.weights++F8 n.bias++Sh.low (IntKind.wrap .u64 n.mult) 2++dw [n.shift]++words [n.low,n.high]++dw [n.post]
theorem Nd.encR_length (n:Nd):n.encR.length≤26+n.inn.length+4*n.weights.length+4*n.bias.length:=by
 simp only[Nd.encR,Rb,bU,ce,cM,iY,UY,Vf];omega
theorem Nd.encR_eq {n:Nd} (h:n.fit):n.encR=n.enc:=by
 unfold Nd.encR Nd.enc;rw[Mx h.2.2.2.1,Mx h.2.2.2.2.1]
theorem Ab: ∀(l:List Nd),(∀n∈l,n.short)→(l.flatMap Nd.encR).length≤l.length*2 ^ 24
 |[],_=>by simp
 |n::r,h=>by
  have d:=Ab r fun x c=>h x (by simp[c]);have e:=n.encR_length;have a:=h n (by simp);unfold Nd.short at a;simp only[VA,Rb,UY,Vt];omega
theorem J2: ∀(l:List Nd),(∀n∈l,n.fit)→l.flatMap Nd.encR=l.flatMap Nd.enc
 |[],_=>rfl
 |n::r,h=>by rw[VA,VA,Nd.encR_eq (h n (by simp)),J2 r fun x a=>h x (by simp[a])]
theorem nb (b:Bool) (p:Prop) [Decidable p]:(b|| !decide p)=false↔b=false∧p:=by cases b<;>simp
theorem Ka {a b:Bool} (h:a=false↔b=false):a=b:=by cases a<;>cases b<;>simp_all
section
variable {h:af} {T:Nat→Prop} {R:List aY} {b:Nat} {s:List UInt8} {bad:Bool}
theorem Rt (x lo hi:Int):au P xS #[.int .i64 x,.int .i64 lo,.int .i64 hi] h fun v a=>v= .bool (decide (lo≤x∧x≤hi))∧a=h:=by
 refine FN _ _ _ ?_;unfold IL;refine am (fun c=>⟨?_,rfl⟩) (fun c=>⟨?_,rfl⟩)
 ·congr 1;rw[decide_eq_decide];omega
 ·rw[decide_eq_false (by omega)]
theorem Is (S:aJ h T h [ot b s bad] R) (x:Int) (n:Nat) (a:n<2 ^ 30) (lo hi:Int) (f:s.length<2 ^ 60):
 au P fT #[.pointer (some ⟨b,0,none⟩),.int .i64 x,.int .i64 n,.int .i64 lo,.int .i64 hi] h fun v d=>v= .tuple #[]∧aJ h T d [ot b (s++low (IntKind.wrap .u64 x) n) (bad|| !decide (bv lo hi [x]))] R:=by
 refine xH _ _ _ _ _ ?_;unfold wD;have c:decide (bv lo hi [x])=decide (lo≤x∧x≤hi):=by rw[decide_eq_decide];unfold bv;simp
 rw[c];refine(Rt x lo hi).mono ?_;rintro _ _ ⟨rfl,rfl⟩;refine⟨_,rfl,?_⟩;refine oT (fun e=> ?_) (fun e=> ?_)
 ·(repeat (first|with_reducible refine bz ?_|((with_reducible refine vf ?_);refine oU (S.cell 0 rfl rfl) ?_)|((with_reducible refine nL ?_);refine aE S 0 rfl (jb rfl) (fun _ _ S=> ?_);try dsimp only[List.set,Xi,Xj] at S)));refine(Gi (n:=n) (tQ x) a).mono ?_;rintro _ _ ⟨rfl,F⟩;refine⟨_,rfl,?_⟩;replace S:=S.fra0 F
  (repeat (first|((with_reducible refine vg ?_);refine aX (S.cell 0 rfl rfl) ?_)));refine vJ (by rw[da,da,ce];omega) ?_;rw[rV]
  (repeat (first|with_reducible refine bz ?_|((with_reducible refine nL ?_);refine aE S 0 rfl (jb rfl) (fun _ _ S=> ?_);try dsimp only[List.set,Xi,Xj] at S)));rw[e,Bool.or_true];exact⟨rfl,S⟩
 ·(repeat (first|with_reducible refine bz ?_|((with_reducible refine vf ?_);refine oU (S.cell 0 rfl rfl) ?_)));refine(Gi (n:=n) (tQ x) a).mono ?_;rintro _ _ ⟨rfl,F⟩;refine⟨_,rfl,?_⟩;replace S:=S.fra0 F
  (repeat (first|((with_reducible refine vg ?_);refine aX (S.cell 0 rfl rfl) ?_)));refine vJ (by rw[da,da,ce];omega) ?_;rw[rV]
  (repeat (first|with_reducible refine bz ?_|((with_reducible refine nL ?_);refine aE S 0 rfl (jb rfl) (fun _ _ S=> ?_);try dsimp only[List.set,Xi,Xj] at S)));rw[e,Bool.or_false];exact⟨rfl,S⟩
theorem si (S:aJ h T h [ot b s bad] R) (x:Int) (c:s.length<2 ^ 60):
 au P cV #[.pointer (some ⟨b,0,none⟩),.int .i64 x] h fun v a=>v= .tuple #[]∧aJ h T a [ot b (s++dw [x]) (bad|| !decide (bv 0 255 [x]))] R:=by
 refine xI _ _ ?_;unfold wE;refine(Is S x 1 (by decide) 0 255 c).mono ?_;rintro _ _ ⟨rfl,S⟩;exact⟨rfl,rfl,by simpa[dw,Qq] using S⟩
theorem Ac (S:aJ h T h [ot b s bad] R) (x:Int) (c:s.length<2 ^ 60):
 au P dR #[.pointer (some ⟨b,0,none⟩),.int .i64 x] h fun v a=>v= .tuple #[]∧aJ h T a [ot b (s++words [x]) (bad|| !decide (bv gz gH [x]))] R:=by
 refine wi _ _ ?_;unfold tV;refine(Is S x 4 (by decide) gz gH c).mono ?_;rintro _ _ ⟨rfl,S⟩;exact⟨rfl,rfl,by simpa[words] using S⟩
theorem yz {lo hi:Int} {xs:List Int} {i:Nat} (a:i<xs.length) (c:Bool):((c|| !decide (bv lo hi (xs.take i)))|| !decide (bv lo hi [xs[i]]))=(c|| !decide (bv lo hi (xs.take (i+1)))):=by
 rw[Tf];congr 2;rw[decide_eq_decide,iJ a];unfold bv;simp
theorem PJ (S:aJ h T h [ot b s bad] R) (j:Nat) {q:Option Addr} {k d:Nat} {xs:List Int} (t:R[j]? =some (row q (az xs))) (y:xs.length=k) (z:k≤2 ^ 20) (C:s.length<2 ^ 50):
 au P jG #[.pointer (some ⟨b,0,none⟩),.slice q k d] h fun v u=>v= .tuple #[]∧aJ h T u [ot b (s++F8 xs) (bad|| !decide (Ir xs))] R:=by
 refine xJ _ _ _ _ ?_;unfold wF;refine(Is S (k:Int) 2 (by decide) 0 65535 (by omega)).mono ?_;rintro _ _ ⟨rfl,c⟩;refine⟨rfl,?_⟩;generalize e:(bad|| !decide (bv 0 65535 [(k:Int)]))=bd at c;refine aP (fun m l g=> ∃(i:Nat),l=(some ⟨b,0,none⟩,(q,k,d),(i:Int),())∧i≤k∧m=k-i∧aJ h T g [ot b (s++(low (IntKind.wrap .u64 k) 2++words (xs.take i))) (bd|| !decide (bv gz gH (xs.take i)))] R) k
  ⟨0,rfl,by omega,rfl,by simpa[words,dO] using c⟩ ?_
 clear c;rintro m l g ⟨i,rfl,x,rfl,S⟩;unfold pP;dsimp only;refine am (fun A=> ?_) (fun w=> ?_)
 ·have a:i<xs.length:=by omega
  have f:=S.row j t;obtain⟨B,rfl⟩:=f.some_of (by rw[av];omega);refine aB rfl rfl (by omega) ?_;simp only[oe,US];refine ae (f.cell (aI (aO a))) ?_;have n:=S.into [0] [] [];refine(Ac n xs[i] (by simp only[Rb,ce,cM,U0];omega)).mono ?_;rintro _ _ ⟨rfl,o⟩;refine⟨rfl,?_⟩;replace S:=S.back [0] o
  try dsimp only[bE,List.set,Xi,Xj] at S
  rw[al (by omega)];refine⟨k-(i+1),by omega,i+1,rfl,by omega,rfl,?_⟩;have r:s++(low (IntKind.wrap .u64 k) 2++words (xs.take i))++words [xs[i]]=s++(low (IntKind.wrap .u64 k) 2++words (xs.take (i+1))):=by
   rw[xF a];simp[words,U6]
  rw[r,yz a] at S;exact S
 ·have:i=k:=by omega
  subst this;rw[N6 (by omega)] at S;refine⟨by trivial,?_⟩;have p:(bd|| !decide (bv gz gH xs))=(bad|| !decide (Ir xs)):=by
   rw[←e,Tf];congr 2;rw[decide_eq_decide];unfold Ir;have:bv 0 65535 [(i:Int)]↔xs.length≤65535:=by unfold bv;simp;omega
   rw[this]
  rw[p] at S;unfold F8;rw[y];exact S
theorem Fu {xs:List Int} {i:Nat} (hi:i<xs.length):dw (xs.take (i+1))=dw (xs.take i)++dw [xs[i]]:=by
 rw[Gj hi];simp[dw]
theorem Ru (S:aJ h T h [ot b s bad] R) (A:Nat) {nv:Nv} (Q:R[A]? =some nv.rows) (J:nv.ok) (K:nv.nd.short) (hl:s.length<2 ^ 40):
 au P kI #[.pointer (some ⟨b,0,none⟩),nv.v] h fun v Z=>v= .tuple #[]∧aJ h T Z [ot b (s++nv.nd.encR) (bad|| !decide nv.nd.fit)] R:=by
 refine wm _ _ ?_;unfold tW;obtain⟨M,B,C⟩:=J;have V:nv.inn.xs.length≤2 ^ 20:=K.1;have W:nv.weights.xs.length≤2 ^ 20:=K.2.1;have U:nv.bias.xs.length≤2 ^ 20:=K.2.2;have O:=M.1;have N:Sh.pick R [A]=[nv.rows]:=by simp only[Sh.pick,Q]
 refine aA (cs:=nv.cells) S fun E h1 _ S=> ?_;dsimp only[Xi,Xj] at S
 (repeat (first|((with_reducible refine aV ?_);refine ae (S.cell 1 rfl rfl) ?_)));refine(si (S.into [0] [] []) nv.kind (by omega)).mono ?_;rintro _ _ ⟨rfl,a⟩;refine⟨rfl,?_⟩;replace S:=S.back [0] a
 try dsimp only[bE,List.set,Xi,Xj] at S
 (repeat (first|((with_reducible refine cg ?_);refine ak (S.cell 1 rfl rfl) ?_)));refine(si (S.into [0] [] []) ((nv.inn.l:Nat):Int) (by rw[Rb,bU,UY,Vf];omega)).mono ?_;rintro _ _ ⟨rfl,a⟩;refine⟨rfl,?_⟩;replace S:=S.back [0] a
 try dsimp only[bE,List.set,Xi,Xj] at S
 generalize x:(bad|| !decide (bv 0 255 [nv.kind])|| !decide (bv 0 255 [((nv.inn.l:Nat):Int)]))=bd at S;have r:bd=false↔bad=false∧bv 0 255 [nv.kind,((nv.inn.l:Nat):Int)]:=by
  rw[←x,nb,nb];simp only[dj,dO,and_true,and_assoc]
 clear x;have F:s++dw [nv.kind]++dw [((nv.inn.l:Nat):Int)]=s++dw [nv.kind,((nv.inn.l:Nat):Int)]:=by simp[dw,U6]
 rw[F] at S;generalize z:s++dw [nv.kind,((nv.inn.l:Nat):Int)]=hd at S;have ab:hd.length=s.length+2:=by rw[←z,Rb,bU];rfl
 refine aP (fun m D g=> ∃(i:Nat),D=(some ⟨b,0,none⟩,⟨E,0,none⟩,(i:Int),())∧i≤nv.inn.l∧m=nv.inn.l-i∧aJ h T g [ot b (hd++dw (nv.inn.xs.take i)) (bd|| !decide (bv 0 255 (nv.inn.xs.take i))),blk E nv.cells] R) nv.inn.l
  ⟨0,rfl,by omega,rfl,by simpa[dw,dO] using S⟩ ?_
 clear S;rintro m D g ⟨i,rfl,H,rfl,S⟩;unfold ox;dsimp only
 (repeat (first|((with_reducible refine cg ?_);refine ak (S.cell 1 rfl rfl) ?_)));dsimp only[Nv.t];refine am (fun I=> ?_) (fun G=> ?_)
 ·have c:i<nv.inn.xs.length:=by omega
  have k:bI g nv.inn.p (az nv.inn.xs):=S.readF A (l:=[nv.inn.row,nv.weights.row,nv.bias.row]) (f:=nv.inn.row) (by simp) Q;obtain⟨aa,ea⟩:=k.some_of (by rw[av];omega)
  (repeat (first|((with_reducible refine cg ?_);refine ak (S.cell 1 rfl rfl) ?_)));dsimp only[Nv.t];refine aB ea rfl (by omega) ?_;simp only[oe,US];rw[ea] at k;refine ae (k.cell (aI (aO c))) ?_;refine(si (S.into [0] [] []) nv.inn.xs[i] (by rw[Rb,bU,U0];omega)).mono ?_;rintro _ _ ⟨rfl,a⟩;refine⟨rfl,?_⟩;replace S:=S.back [0] a
  try dsimp only[bE,List.set,Xi,Xj] at S
  rw[al (by omega)];refine⟨nv.inn.l-(i+1),by omega,i+1,rfl,by omega,rfl,?_⟩;rw[yz c,U6,←Fu c] at S;exact S
 ·have j:i=nv.inn.l:=by omega
  rw[j,N6 (by omega)] at S;generalize d:(bd|| !decide (bv 0 255 nv.inn.xs))=bd2 at S;have u:bd2=false↔(bad=false∧bv 0 255 [nv.kind,((nv.inn.l:Nat):Int)])∧bv 0 255 nv.inn.xs:=by rw[←d,nb,r]
  clear d r
  (repeat (first|((with_reducible refine aV ?_);refine ae (S.cell 1 rfl rfl) ?_)));refine aA S (fun q _ _ S=> ?_);dsimp only[Xi,Xj] at S;refine cA S 2 rfl rfl (cX (l:=[nv.width,nv.size,nv.step,nv.gap,nv.left,nv.right])) fun h2 _ S=> ?_;dsimp only[List.set] at S;refine aP (fun m D g=> ∃(i:Nat),D=(some ⟨b,0,none⟩,⟨E,0,none⟩,⟨q,0,none⟩,(i:Int),())∧i≤6∧m=6-i∧aJ h T g [ot b (hd++dw nv.inn.xs++dw ([nv.width,nv.size,nv.step,nv.gap,nv.left,nv.right].take i)) (bd2|| !decide (bv 0 255 ([nv.width,nv.size,nv.step,nv.gap,nv.left,nv.right].take i))),blk E nv.cells,
   blk q (az [nv.width,nv.size,nv.step,nv.gap,nv.left,nv.right])] R) 6
   ⟨0,rfl,by omega,rfl,by rw[Wf,show dw []=[] from rfl,Vh,decide_eq_true (dO 0 255),Bool.not_true,Bool.or_false];exact S⟩ ?_
  clear S;rintro m D g ⟨i,rfl,H,rfl,S⟩;unfold ow;dsimp only;refine am (fun I=> ?_) (fun G=> ?_)
  ·have c:i<[nv.width,nv.size,nv.step,nv.gap,nv.left,nv.right].length:=by simp only[UY,Vf];omega
   refine jN (by omega) (by omega) ?_;simp only[oe,US];have k:=bI.of_at (S.at 2 rfl);generalize ag:[nv.width,nv.size,nv.step,nv.gap,nv.left,nv.right]=l6 at S k c;refine ae (k.cell (aI (aO c))) ?_;refine(si (S.into [0] [] []) l6[i] (by simp only[Rb,bU,U0];omega)).mono ?_;rintro _ _ ⟨rfl,a⟩;refine⟨rfl,?_⟩;replace S:=S.back [0] a
   try dsimp only[bE,List.set,Xi,Xj] at S
   rw[al (by omega)];refine⟨6-(i+1),by omega,i+1,rfl,by omega,rfl,?_⟩;rw[yz c,U6 (hd++_),←Fu c] at S;exact S
  ·have j:i=6:=by omega
   have L:[nv.width,nv.size,nv.step,nv.gap,nv.left,nv.right].take 6=[nv.width,nv.size,nv.step,nv.gap,nv.left,nv.right]:=rfl;rw[j,L] at S;replace S:=S.pw [0,1];dsimp only[Sh.pick,List.getElem?_cons_zero,List.getElem?_cons_succ] at S;generalize e:(bd2|| !decide (bv 0 255 [nv.width,nv.size,nv.step,nv.gap,nv.left,nv.right]))=bd3 at S;have w:bd3=false↔bd2=false∧bv 0 255 [nv.width,nv.size,nv.step,nv.gap,nv.left,nv.right]:=by rw[←e,nb]
   rw[u] at w;clear e u;generalize y:hd++dw nv.inn.xs++dw [nv.width,nv.size,nv.step,nv.gap,nv.left,nv.right]=hd3 at S;have ad:hd3.length≤2 ^ 40+2 ^ 21:=by rw[←y];simp only[Rb,bU,UY,Vf];omega
   (repeat (first|((with_reducible refine cg ?_);refine ak (S.cell 1 rfl rfl) ?_)));have n:=S.into [0] [] [A];rw[N] at n;have o:=n.oneOf 0 (l:=[nv.inn.row,nv.weights.row,nv.bias.row]) (f:=nv.weights.row) (by simp);dsimp only[Sh.pick,List.getElem?_cons_zero,List.getElem?_cons_succ,Xj,List.set] at o;refine(PJ o 0 rfl B.1 (by have:=B.1;omega) (by omega)).mono ?_;rintro _ _ ⟨rfl,a⟩;refine⟨rfl,?_⟩;replace S:=S.back [0] a
   try dsimp only[bE,List.set,Xi,Xj] at S
   (repeat (first|((with_reducible refine cg ?_);refine ak (S.cell 1 rfl rfl) ?_)));have n:=S.into [0] [] [A];rw[N] at n;have o:=n.oneOf 0 (l:=[nv.inn.row,nv.weights.row,nv.bias.row]) (f:=nv.bias.row) (by simp);dsimp only[Sh.pick,List.getElem?_cons_zero,List.getElem?_cons_succ,Xj,List.set] at o;refine(PJ o 0 rfl C.1 (by have:=C.1;omega) (by simp only[Rb,iY];omega)).mono ?_;rintro _ _ ⟨rfl,a⟩;refine⟨rfl,?_⟩;replace S:=S.back [0] a
   try dsimp only[bE,List.set,Xi,Xj] at S
   (repeat (first|((with_reducible refine aV ?_);refine ae (S.cell 1 rfl rfl) ?_)));refine(Is (S.into [0] [] []) nv.mult 2 (by decide) 0 65535 (by simp only[Rb,iY];omega)).mono ?_;rintro _ _ ⟨rfl,a⟩;refine⟨rfl,?_⟩;replace S:=S.back [0] a
   try dsimp only[bE,List.set,Xi,Xj] at S
   (repeat (first|((with_reducible refine aV ?_);refine ae (S.cell 1 rfl rfl) ?_)));refine(si (S.into [0] [] []) nv.shift (by simp only[Rb,iY,ce];omega)).mono ?_;rintro _ _ ⟨rfl,a⟩;refine⟨rfl,?_⟩;replace S:=S.back [0] a
   try dsimp only[bE,List.set,Xi,Xj] at S
   (repeat (first|((with_reducible refine aV ?_);refine ae (S.cell 1 rfl rfl) ?_)));refine(Ac (S.into [0] [] []) nv.low (by simp only[Rb,iY,ce,bU,UY,Vf];omega)).mono ?_;rintro _ _ ⟨rfl,a⟩;refine⟨rfl,?_⟩;replace S:=S.back [0] a
   try dsimp only[bE,List.set,Xi,Xj] at S
   (repeat (first|((with_reducible refine aV ?_);refine ae (S.cell 1 rfl rfl) ?_)));refine(Ac (S.into [0] [] []) nv.high (by simp only[Rb,iY,ce,bU,cM,UY,Vf];omega)).mono ?_;rintro _ _ ⟨rfl,a⟩;refine⟨rfl,?_⟩;replace S:=S.back [0] a
   try dsimp only[bE,List.set,Xi,Xj] at S
   (repeat (first|((with_reducible refine aV ?_);refine ae (S.cell 1 rfl rfl) ?_)));refine(si (S.into [0] [] []) nv.post (by simp only[Rb,iY,ce,bU,cM,UY,Vf];omega)).mono ?_;rintro _ _ ⟨rfl,a⟩;refine⟨rfl,?_⟩;replace S:=S.back [0] a
   try dsimp only[bE,List.set,Xi,Xj] at S
   refine⟨by trivial,?_⟩;have X:hd3++F8 nv.weights.xs++F8 nv.bias.xs++low (IntKind.wrap .u64 nv.mult) 2++dw [nv.shift]++words [nv.low]++words [nv.high]++dw [nv.post]=s++nv.nd.encR:=by
    rw[←y,←z,←O];simp only[Nd.encR,Nv.nd,U6];simp[words,U6]
   have Y:(bd3|| !decide (Ir nv.weights.xs)|| !decide (Ir nv.bias.xs)|| !decide (bv 0 65535 [nv.mult])|| !decide (bv 0 255 [nv.shift])|| !decide (bv gz gH [nv.low])|| !decide (bv gz gH [nv.high])|| !decide (bv 0 255 [nv.post]))=(bad|| !decide nv.nd.fit):=by
    apply Ka;rw[nb,nb,nb,nb,nb,nb,nb,nb,w,←O];simp only[Nd.fit,Nv.nd,Ir,dj,dO,and_true,and_assoc]
   rw[X,Y] at S;exact S.pw [0]
end
end
section
theorem Bg {h:af} {g:Gv} (hp:bI h g.p (aF g.ns)) (hr:(aU g.ns).P h) (J:g.ok) (K:g.gr.short):
 au P iQ #[g.v] h fun v X=>v= .tuple #[.string (str g.gr.out2.1),.int .i64 g.gr.out2.2]∧cp no h X:=by
 refine yL _ ?_;unfold yK;have S:=((aJ.start h no).read (row g.p (aF g.ns)) hp).read (aU g.ns) hr;dsimp only[Xi,Xj] at S;obtain⟨q,Q,x⟩:=J;have C:g.l≤1000:=by have:=K.1;simp[Gv.gr] at this;omega
 refine aA S (fun M _ _ S=> ?_);have W:(ByteArray.mk #[69,65,82,49])=str fO:=rfl;rw[W];refine aA S (fun N _ _ S=> ?_);replace S:=S.pw [1,0];dsimp only[Sh.pick,List.getElem?_cons_zero,List.getElem?_cons_succ,Xi,Xj] at S;have I:fO.length=4:=rfl
 (repeat (first|((with_reducible refine aV ?_);refine ae (S.cell 1 rfl rfl) ?_)));refine(si (S.into [0] [] []) g.width (by omega)).mono ?_;rintro _ _ ⟨rfl,a⟩;refine⟨rfl,?_⟩;replace S:=S.back [0] a
 try dsimp only[bE,List.set,Xi,Xj] at S
 (repeat (first|((with_reducible refine aV ?_);refine ae (S.cell 1 rfl rfl) ?_)));refine(Ac (S.into [0] [] []) g.low (by simp only[Rb,bU,UY,Vf];omega)).mono ?_;rintro _ _ ⟨rfl,a⟩;refine⟨rfl,?_⟩;replace S:=S.back [0] a
 try dsimp only[bE,List.set,Xi,Xj] at S
 (repeat (first|((with_reducible refine aV ?_);refine ae (S.cell 1 rfl rfl) ?_)));refine(Ac (S.into [0] [] []) g.high (by simp only[Rb,bU,cM,UY,Vf];omega)).mono ?_;rintro _ _ ⟨rfl,a⟩;refine⟨rfl,?_⟩;replace S:=S.back [0] a
 try dsimp only[bE,List.set,Xi,Xj] at S
 (repeat (first|((with_reducible refine cg ?_);refine ak (S.cell 1 rfl rfl) ?_)));refine(si (S.into [0] [] []) ((g.l:Nat):Int) (by simp only[Rb,bU,cM,UY,Vf];omega)).mono ?_;rintro _ _ ⟨rfl,a⟩;refine⟨rfl,?_⟩;replace S:=S.back [0] a
 try dsimp only[bE,List.set,Xi,Xj] at S
 generalize z:(fO++dw [g.width]++words [g.low]++words [g.high]++dw [((g.l:Nat):Int)]:List UInt8)=hd at S;have ab:hd.length=14:=by rw[←z];simp only[Rb,bU,cM,UY,Vf,I]
 generalize d:(false|| !decide (bv 0 255 [g.width])|| !decide (bv gz gH [g.low])|| !decide (bv gz gH [g.high])|| !decide (bv 0 255 [((g.l:Nat):Int)]))=k at S;have r:k=false↔(bv 0 255 [g.width]∧bv gz gH [g.low,g.high]∧bv 0 255 [((g.l:Nat):Int)]):=by
  rw[←d,nb,nb,nb,nb];simp only[true_and,dj,dO,and_true,and_assoc]
 clear d
 refine aP (fun m s O=> ∃(i:Nat) (k:Bool),s=(⟨M,0,none⟩,⟨N,0,none⟩,(i:Int),())∧i≤g.l∧m=g.l-i∧
  (k=false↔((bv 0 255 [g.width]∧bv gz gH [g.low,g.high]∧bv 0 255 [((g.l:Nat):Int)])∧ ∀n∈g.gr.nodes.take i,n.fit))∧
  aJ h no O [ot N (hd++(g.gr.nodes.take i).flatMap Nd.encR) k,
   blk M [.int .i64 g.width,.int .i64 g.low,.int .i64 g.high,.slice g.p g.l g.c,.int .i64 g.out]] [row g.p (aF g.ns),aU g.ns]) g.l
  ⟨0,k,rfl,by omega,rfl,by rw[r];simp,by rw[Wf,Wz,Vh];exact S⟩ ?_
 clear r S k;rintro m s O ⟨i,k,rfl,ad,rfl,d,S⟩;unfold sy;dsimp only;have U:=Ab (g.gr.nodes.take i) fun n j=>K.2 n (VX j);have Z:(g.gr.nodes.take i).length*2 ^ 24≤1000*2 ^ 24:=Vn _ (by rw[U0];omega);have G:(hd++(g.gr.nodes.take i).flatMap Nd.encR).length<2 ^ 36:=by rw[Rb];omega
 (repeat (first|((with_reducible refine cg ?_);refine ak (S.cell 1 rfl rfl) ?_)));refine am (fun ag=> ?_) (fun t=> ?_)
 ·have w:i<g.ns.length:=by omega
  (repeat (first|((with_reducible refine cg ?_);refine ak (S.cell 1 rfl rfl) ?_)));have L:=S.row 0 rfl;obtain⟨aa,ea⟩:=L.some_of (by rw[bW];omega);rw[ea] at L;refine aB ea rfl (by omega) ?_;simp only[oe];refine jd L (aO w) ?_;have e:g.ns[i]∈g.ns:=UU w;have o:g.gr.nodes[i]? =some g.ns[i].nd:=by simp[Gv.gr,w]
  generalize ai:g.ns[i]=nv at e o;have V:=(S.into [0] [] [1]).oneOf 0 (f:=nv.rows) (U5.2 ⟨_,e,rfl⟩);refine(Ru V 0 rfl (x _ e) (K.2 _ (UR o)) (by omega)).mono ?_;rintro _ _ ⟨rfl,a⟩;refine⟨rfl,?_⟩;replace S:=S.back [0] a
  try dsimp only[bE,List.set,Xi,Xj] at S
  rw[al (by omega)];have u:i<g.gr.nodes.length:=by simp[Gv.gr];omega
  have t:g.gr.nodes[i]=nv.nd:=by rw[aO u] at o;exact Option.some.inj o
  have D:(g.gr.nodes.take (i+1)).flatMap Nd.encR=(g.gr.nodes.take i).flatMap Nd.encR++nv.nd.encR:=by
   rw[py u,WB,t];simp
  refine⟨g.l-(i+1),by omega,i+1,k|| !decide nv.nd.fit,rfl,by omega,rfl,?_,?_⟩
  ·rw[Ws,d,Wn,decide_eq_true_eq,py u,t,and_assoc];constructor
   ·rintro⟨F,B,Y⟩;refine⟨F,fun n j=> ?_⟩;rcases UX.1 j with j|j
    ·exact B n j
    ·simp only[SH] at j;subst j;exact Y
   ·rintro⟨F,B⟩;exact⟨F,fun n j=>B n (Vu _ j),B _ (VV _ (by simp))⟩
  ·rw[D,←U6];exact S
 ·have H:i=g.l:=by omega
  subst H;have A:g.gr.nodes.take g.l=g.gr.nodes:=N6 (by simp[Gv.gr];omega);rw[A] at S G
  (repeat (first|((with_reducible refine aV ?_);refine ae (S.cell 1 rfl rfl) ?_)));refine(si (S.into [0] [] []) g.out (by omega)).mono ?_;rintro _ _ ⟨rfl,a⟩;refine⟨rfl,?_⟩;replace S:=S.back [0] a
  try dsimp only[bE,List.set,Xi,Xj] at S
  (repeat (first|with_reducible refine bz ?_|((with_reducible refine A7 ?_);refine jz (S.cell 0 rfl rfl) ?_)));have D:(k|| !decide (bv 0 255 [g.out]))= !decide g.gr.fit:=by
   apply Ka;rw[Ws,d,A,Wn,decide_eq_true_eq,Wn,decide_eq_true_eq,←q];simp only[Gr.fit,Gv.gr,UT,and_assoc]
  rw[D] at S ⊢;by_cases y:g.gr.fit
  ·have E:g.gr.out2=(fO++g.gr.enc,0):=by unfold Gr.out2;rw[if_pos y]
   rw[E];refine bQ (by simp[y]) ?_
   (repeat (first|with_reducible refine bz ?_|((with_reducible refine vf ?_);refine oU (S.cell 0 rfl rfl) ?_)));refine⟨?_,S.fra⟩;have:fO++g.gr.enc=hd++g.gr.nodes.flatMap Nd.encR++dw [g.out]:=by
    rw[←z,←q,J2 _ y.2.2.2.1];simp only[Gr.enc,Gv.gr,UT,U6];simp[words,U6]
   rw[this]
  ·have E:g.gr.out2=([],22):=by unfold Gr.out2;rw[if_neg y]
   rw[E];exact cI (by simp[y]) ⟨rfl,S.fra⟩
end
end Go.Proofs.YtdhpmegbmjoekaaGreatDoor.G

