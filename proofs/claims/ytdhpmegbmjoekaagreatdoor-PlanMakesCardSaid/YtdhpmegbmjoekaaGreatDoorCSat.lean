/- Contracts: packages sat and round. -/
import Derived.Test.YtdhpmegbmjoekaaGreatDoorCNum
namespace Go.Proofs.YtdhpmegbmjoekaaGreatDoor.G
open Go Go.Sh
open Go.IntKind renaming wrap→kn
set_option linter.unusedVariables false
set_option linter.unusedSimpArgs false
def ni(x n:Int):Int×Int:=if Int.tmod x n<0 then(cP (cP (Int.tdiv x n)-1),cP (Int.tmod x n+n)) else(cP (Int.tdiv x n),Int.tmod x n)
def PQ(x n:Int):Int:=if n<1 then 0 else if(ni x n).2≥cP (n-(ni x n).2) then cP ((ni x n).1+1) else(ni x n).1
def IY(x s:Int):Int:=if s<0 then 0 else if s>62 then 0 else PQ x (zC .i64 1 (min s.toNat 64))
def dK(x m s:Int):Int:=
 if 0≤m∧m≤32767∧0≤s∧s≤30 then(if(pW x m).2=true then dO (IY (pW x m).1 s) else if x<0 then-2147483648 else 2147483647) else 0
def uD(n:Nd)(x:Int):Int:=
 let z:=if cF .i64 n.post 1≠0 then dK (dO x) n.mult n.shift else dO x
 if cF .i64 n.post 2≠0 then dT z n.low n.high else z
section
variable {h:ah}
theorem Tn:fV (-9223372036854775808:Int) (min (kn .i64 ((64:Int)-32)).toNat 64)= -2147483648:=by decide+kernel
theorem Ry:pb .i64 (-1) (fV (-9223372036854775808:Int) (min (kn .i64 ((64:Int)-32)).toNat 64))=2147483647:=by decide+kernel
theorem Rz:au P wG #[.int .i64 32] h fun v a=>v= .tuple #[.int .i64 (-2147483648),.int .i64 2147483647,.bool true]∧a=h:=by
 refine E0 _ ?_;refine bG (by decide) (bG (by decide) ⟨by decide+kernel,?_⟩);rw[Ry,Tn];exact⟨rfl,rfl⟩
theorem uE(x lo hi:Int):au P iz #[.int .i64 x,.int .i64 lo,.int .i64 hi] h fun v c=>v= .int .i64 (dT x lo hi)∧c=h:=by
 refine C2 _ _ _ ?_;unfold Fw dT;refine aq (fun a=>⟨by rw[if_pos a],rfl⟩) (fun a=>aq (fun b=>⟨by rw[if_neg a,if_pos b],rfl⟩) (fun b=>⟨by rw[if_neg a,if_neg b],rfl⟩))
theorem Lh(x:Int):au P dh #[.int .i64 x,.int .i64 32] h fun v a=>v= .int .i64 (dO x)∧a=h:=by
 refine GS _ _ ?_;refine Rz.mono ?_;rintro _ _ ⟨rfl,rfl⟩;refine⟨_,_,_,rfl,bG rfl ?_⟩;refine(uE _ _ _).mono ?_;rintro _ _ ⟨rfl,rfl⟩;exact⟨_,rfl,rfl,rfl⟩
theorem To(a b:Int):au P zh #[.int .i64 a,.int .i64 b] h fun v k=>v= .tuple #[.int .i64 (pW a b).1,.bool (pW a b).2]∧k=h:=by
 refine GT _ _ ?_;unfold L6 pW;refine aH (fun g=>⟨by rw[if_pos g],rfl⟩) (fun g=> ?_);rw[if_neg g];refine aH (fun d=>⟨by rw[if_pos d],rfl⟩) (fun d=> ?_);rw[if_neg d];refine⟨d,bh (fun i=> ?_) (fun i=> ?_)⟩
 ·refine⟨?_,rfl⟩;by_cases j:(a= -1∧b= -9223372036854775808)∨(b= -1∧a= -9223372036854775808)
  ·rw[if_pos j]
  ·rw[if_neg j,if_pos i]
 ·have n: ¬kn .i64 (Int.tdiv (kn .i64 (a*b)) b)≠a:=fun h=>h i;have c:((a= -1∧b= -9223372036854775808)∨(b= -1∧a= -9223372036854775808))→ ∀{q:ah},(Value.tuple #[.int .i64 0,.bool false]= .tuple #[.int .i64 (if(a= -1∧b= -9223372036854775808)∨(b= -1∧a= -9223372036854775808) then((0:Int),false) else if cP (Int.tdiv (cP (a*b)) b)≠a then(0,false) else(cP (a*b),true)).1,.bool (if(a= -1∧b= -9223372036854775808)∨(b= -1∧a= -9223372036854775808) then((0:Int),false) else if cP (Int.tdiv (cP (a*b)) b)≠a then(0,false) else(cP (a*b),true)).2])∧q=q:=fun h=>⟨by rw[if_pos h],rfl⟩;have no:(¬((a= -1∧b= -9223372036854775808)∨(b= -1∧a= -9223372036854775808)))→ ∀{q:ah},(Value.tuple #[.int .i64 (cP (a*b)),.bool true]= .tuple #[.int .i64 (if(a= -1∧b= -9223372036854775808)∨(b= -1∧a= -9223372036854775808) then((0:Int),false) else if cP (Int.tdiv (cP (a*b)) b)≠a then(0,false) else(cP (a*b),true)).1,.bool (if(a= -1∧b= -9223372036854775808)∨(b= -1∧a= -9223372036854775808) then((0:Int),false) else if cP (Int.tdiv (cP (a*b)) b)≠a then(0,false) else(cP (a*b),true)).2])∧q=q:=fun h=>⟨by rw[if_neg h,if_neg n],rfl⟩;refine aH (fun l=>aH (fun m=>c (by omega)) (fun m=>aH (fun e=>aH (fun f=>c (by omega)) (fun f=>no (by omega))) (fun e=>no (by omega)))) (fun l=>aH (fun e=>aH (fun f=>c (by omega)) (fun f=>no (by omega))) (fun e=>no (by omega)))
theorem PR(x:Int){n:Int}(c:1≤n):au P oL #[.int .i64 x,.int .i64 n] h fun v b=>v= .tuple #[.int .i64 (ni x n).1,.int .i64 (ni x n).2]∧b=h:=by
 refine zp _ _ ?_;unfold AB ni;refine bG (decide_eq_false (by omega)) ⟨by omega,by omega,aq (fun a=>⟨by rw[if_pos a],rfl⟩) (fun a=>⟨by rw[if_neg a],rfl⟩)⟩
theorem Tp(x:Int){n:Int}(d:1≤n):au P tM #[.int .i64 x,.int .i64 n] h fun v b=>v= .int .i64 (PQ x n)∧cd no h b:=by
 refine C3 _ _ ?_;unfold Fx PQ;have S:=aG.start h no;rw[if_neg (by omega)];refine aA S (fun f _ _ S=> ?_);refine ae (S.c 0) ?_;refine(PR x d).mono ?_;rintro _ _ ⟨rfl,rfl⟩;refine⟨_,_,rfl,?_⟩;refine aA S (fun g _ _ S=> ?_);refine be S 1 rfl (OU rfl) (fun e _ S=> ?_);refine au.mono (K:=fun v b=>v= .bool (decide ((ni x n).2≥cP (n-(ni x n).2)))∧b=e) (zq _ _ ?_) ?_
 ·unfold AC;refine ae (S.c 0) (aq (fun a=> ?_) (fun a=>absurd d (by omega)));refine ae (S.c 1) (ae (S.c 0) (ae (S.c 1) ⟨rfl,rfl⟩))
 ·rintro _ _ ⟨rfl,rfl⟩;refine⟨_,rfl,aq (fun a=>⟨by rw[if_pos a],S.fra⟩) (fun a=>⟨by rw[if_neg a],S.fra⟩)⟩
theorem RA: ∀n:Nat,n≤62→1≤zC .i64 1 (min n 64):=by
 have: ∀n∈List.range 63,1≤zC .i64 1 (min n 64):=by decide+kernel
 intro n a;exact this n (Wq.2 (by omega))
theorem RB(x s:Int):au P jQ #[.int .i64 x,.int .i64 s] h fun v c=>v= .int .i64 (IY x s)∧cd no h c:=by
 refine BS _ _ ?_;unfold C4 IY;refine aq (fun a=>⟨by rw[if_pos a],cd.refl _ _⟩) (fun a=>aq (fun b=>⟨by rw[if_neg a,if_pos b],cd.refl _ _⟩) (fun b=> ?_));rw[if_neg a,if_neg b];refine⟨by omega,?_⟩;refine(Tp x (RA _ (by omega))).mono ?_;rintro _ _ ⟨rfl,F⟩;exact⟨_,rfl,rfl,F⟩
theorem DE(x m s:Int):au P jg #[.int .i64 x,.int .i64 m,.int .i64 s] h fun v k=>v= .int .i64 (dK x m s)∧cd no h k:=by
 refine zr _ _ _ ?_;refine⟨fun t g=>t=(x,m,s,())∧cd no h g∧0≤m∧m≤32767∧0≤s∧s≤30,?_,?_⟩
 ·rintro t g ⟨rfl,F,e⟩;unfold ug dK;rw[if_pos e];refine(To x m).mono ?_;rintro _ j ⟨rfl,rfl⟩;refine⟨_,_,rfl,?_⟩;have b:(pW x m).2=true→ ∀{Q:Int→ah→Prop},(∀c,cd no h c→Q (dO (IY (pW x m).1 s)) c)→aE P .i64 jQ #[.int .i64 (pW x m).1,.int .i64 s] j fun n a=>aE P .i64 dh #[.int .i64 n,.int .i64 32] a fun p d=>Q p d:=by
   intro _ Q H;refine(RB _ s).mono ?_;rintro _ _ ⟨rfl,i⟩;refine⟨_,rfl,?_⟩;refine(Lh _).mono ?_;rintro _ _ ⟨rfl,rfl⟩;exact⟨_,rfl,H _ (F.trans i)⟩
  cases hb:(pW x m).2 with
  |true=>
   rw[if_pos rfl];exact bG rfl (bG rfl (b hb fun c f=>⟨rfl,f⟩))
  |false=>
   rw[if_neg (by decide)];exact cC rfl (aq (fun a=>⟨by rw[if_pos a],F⟩) (fun a=>cC rfl ⟨by rw[if_neg a],F⟩))
 ·have zero: ¬(0≤m∧m≤32767∧0≤s∧s≤30)→Value.int .i64 0= .int .i64 (dK x m s)∧cd no h h:=fun e=>⟨by unfold dK;rw[if_neg e],cd.refl _ _⟩;refine aq (fun a=>aq (fun d=>aq (fun l=>bJ (aq (fun o=> ?_) (fun o=>zero (by omega)))) (fun l=>cC rfl (zero (by omega)))) (fun d=>cC rfl (zero (by omega)))) (fun a=>cC rfl (zero (by omega)));exact⟨rfl,cd.refl _ _,by omega,by omega,by omega,by omega⟩
theorem Mo(nv:Nv)(x:Int):au P lN #[nv.v,.int .i64 x] h fun v d=>v= .int .i64 (uD nv.nd x)∧cd no h d:=by
 refine BT _ _ ?_;unfold C5 uD;have S:=aG.start h no;refine aA (cs:=nv.cells) S (fun e _ _ S=> ?_);refine(Lh x).mono ?_;rintro _ _ ⟨rfl,rfl⟩;refine⟨_,rfl,ae (n:=nv.post) (S.c 0) (bh (fun b=> ?_) (fun b=> ?_))⟩
 ·refine ae (n:=nv.mult) (S.c 0) (ae (n:=nv.shift) (S.c 0) ?_);refine(DE _ _ _).mono ?_;rintro _ _ ⟨rfl,F⟩;replace S:=S.fra0 F;refine⟨_,rfl,ae (n:=nv.post) (S.c 0) (bh (fun a=> ?_) (fun a=> ?_))⟩
  ·refine ae (n:=nv.low) (S.c 0) (ae (n:=nv.high) (S.c 0) ?_);refine(uE _ _ _).mono ?_;rintro _ _ ⟨rfl,rfl⟩;refine⟨_,rfl,?_,S.fra⟩;rw[if_pos (show cF .i64 nv.nd.post 1≠0 from b),if_pos (show cF .i64 nv.nd.post 2≠0 from a)];rfl
  ·refine⟨?_,S.fra⟩;rw[if_pos (show cF .i64 nv.nd.post 1≠0 from b),if_neg (show ¬cF .i64 nv.nd.post 2≠0 from fun h=>h a)];rfl
 ·refine ae (n:=nv.post) (S.c 0) (bh (fun a=> ?_) (fun a=> ?_))
  ·refine ae (n:=nv.low) (S.c 0) (ae (n:=nv.high) (S.c 0) ?_);refine(uE _ _ _).mono ?_;rintro _ _ ⟨rfl,rfl⟩;refine⟨_,rfl,?_,S.fra⟩;rw[if_neg (show ¬cF .i64 nv.nd.post 1≠0 from fun h=>h b),if_pos (show cF .i64 nv.nd.post 2≠0 from a)];rfl
  ·refine⟨?_,S.fra⟩;rw[if_neg (show ¬cF .i64 nv.nd.post 1≠0 from fun h=>h b),if_neg (show ¬cF .i64 nv.nd.post 2≠0 from fun h=>h a)]
theorem Tq{T:Nat→Prop}{R:List bc}{a bb:Nat}{n:Int}(S:aG h T h [aJ a [.int .i64 n],aJ bb [.int .i64 32]] R)(x:Int):
 au P tN #[.int .i64 x,.pointer (some ⟨a,0,none⟩),.pointer (some ⟨bb,0,none⟩)] h fun v s=>v= .tuple #[]∧aG h T s [aJ a [.int .i64 (dO (jJ n x))],aJ bb [.int .i64 32]] R:=by
 refine C6 _ _ _ ?_;have o: ∀{y:Int}{g:ah},aG h T g [aJ a [.int .i64 y],aJ bb [.int .i64 32]] R→y=jJ n x→af .i64 g ⟨a,0,none⟩ fun i=>af .i64 g ⟨bb,0,none⟩ fun j=>aE P .i64 dh #[.int .i64 i,.int .i64 j] g fun k d=>aQ d ⟨a,0,none⟩ (.int .i64 k) fun f=>Value.tuple #[]= .tuple #[]∧aG h T f [aJ a [.int .i64 (dO (jJ n x))],aJ bb [.int .i64 32]] R:=by
  intro y g S e;refine ae (S.c 0) (ae (S.c 1) ?_);refine(Lh _).mono ?_;rintro _ _ ⟨rfl,rfl⟩;refine⟨_,rfl,?_⟩;refine be S 0 rfl (OU rfl) (fun _ _ S=> ?_);rw[e]at S;exact⟨rfl,S⟩
 have put: ∀{y:Int},y=jJ n x→aQ h ⟨a,0,none⟩ (.int .i64 y) fun b=>af .i64 b ⟨a,0,none⟩ fun i=>af .i64 b ⟨bb,0,none⟩ fun j=>aE P .i64 dh #[.int .i64 i,.int .i64 j] b fun k d=>aQ d ⟨a,0,none⟩ (.int .i64 k) fun f=>Value.tuple #[]= .tuple #[]∧aG h T f [aJ a [.int .i64 (dO (jJ n x))],aJ bb [.int .i64 32]] R:=by
  intro y e;refine be S 0 rfl (OU rfl) (fun _ _ S=> ?_);exact o S e
 have q:aB h ⟨a,0,none⟩=some (.int .i64 n):=S.c 0
 have p: ¬(x>0∧n>cP (9223372036854775807-x))→aI (decide (x<0)) (af .i64 h ⟨a,0,none⟩ fun t=>aI (decide (t<kn .i64 (-9223372036854775808-x))) (aQ h ⟨a,0,none⟩ (.int .i64 (-9223372036854775808)) fun b=>af .i64 b ⟨a,0,none⟩ fun i=>af .i64 b ⟨bb,0,none⟩ fun j=>aE P .i64 dh #[.int .i64 i,.int .i64 j] b fun k d=>aQ d ⟨a,0,none⟩ (.int .i64 k) fun f=>Value.tuple #[]= .tuple #[]∧aG h T f [aJ a [.int .i64 (dO (jJ n x))],aJ bb [.int .i64 32]] R)
  (af .i64 h ⟨a,0,none⟩ fun m=>aQ h ⟨a,0,none⟩ (.int .i64 (kn .i64 (m+x))) fun b=>af .i64 b ⟨a,0,none⟩ fun i=>af .i64 b ⟨bb,0,none⟩ fun j=>aE P .i64 dh #[.int .i64 i,.int .i64 j] b fun k d=>aQ d ⟨a,0,none⟩ (.int .i64 k) fun f=>Value.tuple #[]= .tuple #[]∧aG h T f [aJ a [.int .i64 (dO (jJ n x))],aJ bb [.int .i64 32]] R))
  (af .i64 h ⟨a,0,none⟩ fun m=>aQ h ⟨a,0,none⟩ (.int .i64 (kn .i64 (m+x))) fun b=>af .i64 b ⟨a,0,none⟩ fun i=>af .i64 b ⟨bb,0,none⟩ fun j=>aE P .i64 dh #[.int .i64 i,.int .i64 j] b fun k d=>aQ d ⟨a,0,none⟩ (.int .i64 k) fun f=>Value.tuple #[]= .tuple #[]∧aG h T f [aJ a [.int .i64 (dO (jJ n x))],aJ bb [.int .i64 32]] R):=by
  intro l;refine aq (fun b=>ae q (aq (fun r=>put ?_) (fun r=>ae q (put ?_)))) (fun b=>ae q (put ?_))
  ·unfold jJ;rw[if_neg l,if_pos ⟨b,r⟩]
  ·unfold jJ;rw[if_neg l,if_neg (fun h=>r h.2)]
  ·unfold jJ;rw[if_neg l,if_neg (fun h=>b h.1)]
 refine aq (fun l=>ae q (aq (fun b=>put ?_) (fun b=>p (fun h=>b h.2)))) (fun l=>p (fun h=>l h.1));unfold jJ;rw[if_pos ⟨l,b⟩]
theorem PS{p:Option Addr}{l c:Nat}{xs:List Int}(r:bD h p (az xs))(x:xs.length=l)(w:l<2 ^ 62):
 au P uX #[.int .i64 32,.slice p l c] h fun v o=>v= .int .i64 (nj xs)∧cd no h o:=by
 refine GU _ _ _ _ ?_;have S:=(aG.start h no).read (row p (az xs)) r;refine aA S (fun f _ _ S=> ?_);refine aA S (fun d _ _ S=> ?_);refine be S 1 rfl (OU rfl) (fun _ _ S=> ?_);refine aO (fun m s g=> ∃i:Nat,s=(⟨d,0,none⟩,((),(⟨d,0,none⟩,⟨f,0,none⟩,())),(p,l,c),(l:Int),(i:Int),())∧i≤l∧m=l-i∧aG h no g [aJ f [.int .i64 32],aJ d [.int .i64 (nj (xs.take i))]] [row p (az xs)]) l ⟨0,rfl,by omega,by omega,S⟩ ?_;rintro m s g ⟨i,rfl,hi,rfl,S⟩;dsimp only;refine aq (fun t=> ?_) (fun q=> ?_)
 ·have b:i<xs.length:=by omega
  obtain⟨a,ea⟩:=(S.ro 0).some_of (by rw[av];omega);refine aC ea (k:=i) rfl (by omega) ?_;simp only[hC,VO];refine ae (n:=xs[i]) (by have:=S.ro 0;rw[ea]at this;exact this.cell (aF (bo b))) ?_;refine(Tq (S.into [1,0] [] []) _).mono ?_;rintro _ u ⟨rfl,j⟩;refine⟨rfl,?_⟩;replace S:=S.back [1,0] j;rw[al (by omega)];refine⟨l-(i+1),by omega,i+1,rfl,by omega,rfl,?_⟩;have e:nj (xs.take (i+1))=dO (jJ (nj (xs.take i)) xs[i]):=by
   unfold nj;rw[gD b,V7];rfl
  rw[e];exact S
 ·have e:xs.take i=xs:=py (by omega);rw[e]at S;exact ae (S.c 1) ⟨rfl,S.fra⟩
