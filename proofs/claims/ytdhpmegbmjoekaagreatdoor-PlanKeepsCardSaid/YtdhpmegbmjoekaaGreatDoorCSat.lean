/- Contracts: packages sat and round. -/
import Derived.Test.YtdhpmegbmjoekaaGreatDoorCNum
namespace Go.Proofs.YtdhpmegbmjoekaaGreatDoor.G
open Go Go.Sh
set_option linter.unusedVariables false
set_option linter.unusedSimpArgs false
def qQ (x n:Int):Int×Int:=if Int.tmod x n<0 then(dV (dV (Int.tdiv x n)-1),dV (Int.tmod x n+n)) else(dV (Int.tdiv x n),Int.tmod x n)
def RS (x n:Int):Int:=if n<1 then 0 else if(qQ x n).2≥dV (n-(qQ x n).2) then dV ((qQ x n).1+1) else(qQ x n).1
def LR (x s:Int):Int:=if s<0 then 0 else if s>62 then 0 else RS x (HP .i64 1 (min s.toNat 64))
def gL (x m s:Int):Int:=
 if 0≤m∧m≤32767∧0≤s∧s≤30 then(if(tw x m).2=true then dZ (LR (tw x m).1 s) else if x<0 then-2147483648 else 2147483647) else 0
def mW (n:Nd) (x:Int):Int:=
 let z:=if cn .i64 n.post 1≠0 then gL (dZ x) n.mult n.shift else dZ x
 if cn .i64 n.post 2≠0 then fz z n.low n.high else z
section
variable {h:af}
theorem RT:fu (-9223372036854775808:Int) (min (IntKind.wrap .i64 ((64:Int)-32)).toNat 64)= -2147483648:=by decide+kernel
theorem Qk:HO .i64 (-1) (fu (-9223372036854775808:Int) (min (IntKind.wrap .i64 ((64:Int)-32)).toNat 64))=2147483647:=by decide+kernel
theorem Ql:au P xQ #[.int .i64 32] h fun v a=>v= .tuple #[.int .i64 (-2147483648),.int .i64 2147483647,.bool true]∧a=h:=by
 refine FR _ ?_;unfold IR;refine bQ (by decide) (bQ (by decide) ⟨by decide+kernel,?_⟩);rw[Qk,RT];exact⟨rfl,rfl⟩
theorem tM (x lo hi:Int):au P iM #[.int .i64 x,.int .i64 lo,.int .i64 hi] h fun v c=>v= .int .i64 (fz x lo hi)∧c=h:=by
 refine Ej _ _ _ ?_;unfold GH fz;refine am (fun a=>⟨by rw[if_pos a],rfl⟩) (fun a=>am (fun b=>⟨by rw[if_neg a,if_pos b],rfl⟩) (fun b=>⟨by rw[if_neg a,if_neg b],rfl⟩))
theorem Kr (x:Int):au P dm #[.int .i64 x,.int .i64 32] h fun v a=>v= .int .i64 (dZ x)∧a=h:=by
 refine HL _ _ ?_;unfold L0;refine Ql.mono ?_;rintro _ _ ⟨rfl,rfl⟩;refine⟨_,_,_,rfl,bQ rfl ?_⟩;refine(tM _ _ _).mono ?_;rintro _ _ ⟨rfl,rfl⟩;exact⟨_,rfl,rfl,rfl⟩
theorem RU (a b:Int):au P AF #[.int .i64 a,.int .i64 b] h fun v k=>v= .tuple #[.int .i64 (tw a b).1,.bool (tw a b).2]∧k=h:=by
 refine HM _ _ ?_;unfold L1 tw;refine aH (fun g=>⟨by rw[if_pos g],rfl⟩) (fun g=> ?_);rw[if_neg g];refine aH (fun d=>⟨by rw[if_pos d],rfl⟩) (fun d=> ?_);rw[if_neg d];refine⟨d,bh (fun i=> ?_) (fun i=> ?_)⟩
 ·refine⟨?_,rfl⟩;by_cases j:(a= -1∧b= -9223372036854775808)∨(b= -1∧a= -9223372036854775808)
  ·rw[if_pos j]
  ·rw[if_neg j,if_pos i]
 ·have n: ¬IntKind.wrap .i64 (Int.tdiv (IntKind.wrap .i64 (a*b)) b)≠a:=fun h=>h i;have c:((a= -1∧b= -9223372036854775808)∨(b= -1∧a= -9223372036854775808))→ ∀{q:af},(Value.tuple #[.int .i64 0,.bool false]= .tuple #[.int .i64 (if(a= -1∧b= -9223372036854775808)∨(b= -1∧a= -9223372036854775808) then((0:Int),false) else if dV (Int.tdiv (dV (a*b)) b)≠a then(0,false) else(dV (a*b),true)).1,.bool (if(a= -1∧b= -9223372036854775808)∨(b= -1∧a= -9223372036854775808) then((0:Int),false) else if dV (Int.tdiv (dV (a*b)) b)≠a then(0,false) else(dV (a*b),true)).2])∧q=q:=fun h=>⟨by rw[if_pos h],rfl⟩;have no:(¬((a= -1∧b= -9223372036854775808)∨(b= -1∧a= -9223372036854775808)))→ ∀{q:af},(Value.tuple #[.int .i64 (dV (a*b)),.bool true]= .tuple #[.int .i64 (if(a= -1∧b= -9223372036854775808)∨(b= -1∧a= -9223372036854775808) then((0:Int),false) else if dV (Int.tdiv (dV (a*b)) b)≠a then(0,false) else(dV (a*b),true)).1,.bool (if(a= -1∧b= -9223372036854775808)∨(b= -1∧a= -9223372036854775808) then((0:Int),false) else if dV (Int.tdiv (dV (a*b)) b)≠a then(0,false) else(dV (a*b),true)).2])∧q=q:=fun h=>⟨by rw[if_neg h,if_neg n],rfl⟩;refine aH (fun l=>aH (fun m=>c (by omega)) (fun m=>aH (fun e=>aH (fun f=>c (by omega)) (fun f=>no (by omega))) (fun e=>no (by omega)))) (fun l=>aH (fun e=>aH (fun f=>c (by omega)) (fun f=>no (by omega))) (fun e=>no (by omega)))
theorem Oi (x:Int) {n:Int} (c:1≤n):au P o9 #[.int .i64 x,.int .i64 n] h fun v b=>v= .tuple #[.int .i64 (qQ x n).1,.int .i64 (qQ x n).2]∧b=h:=by
 refine AK _ _ ?_;unfold BJ qQ;refine bQ (decide_eq_false (by omega)) ⟨by omega,by omega,am (fun a=>⟨by rw[if_pos a],rfl⟩) (fun a=>⟨by rw[if_neg a],rfl⟩)⟩
theorem RV (x:Int) {n:Int} (c:1≤n):au P uA #[.int .i64 x,.int .i64 n] h fun v b=>v= .int .i64 (RS x n)∧cp no h b:=by
 refine Ek _ _ ?_;unfold GI RS;have S:=aJ.start h no;rw[if_neg (by omega)];refine aA S (fun e _ _ S=> ?_);dsimp only[Xj,Xi] at S;refine ae (S.cell 0 rfl rfl) ?_;refine(Oi x c).mono ?_;rintro _ _ ⟨rfl,rfl⟩;refine⟨_,_,rfl,?_⟩;refine aA S (fun f _ _ S=> ?_);dsimp only[Xj,Xi] at S;refine aE S 1 rfl (jb rfl) (fun d _ S=> ?_);dsimp only[List.set] at S;refine au.mono (K:=fun v b=>v= .bool (decide ((qQ x n).2≥dV (n-(qQ x n).2)))∧b=d) (AL _ _ ?_) ?_
 ·unfold BK;refine ae (S.cell 0 rfl rfl) (am (fun a=> ?_) (fun a=>absurd c (by omega)));refine ae (S.cell 1 rfl rfl) (ae (S.cell 0 rfl rfl) (ae (S.cell 1 rfl rfl) ⟨rfl,rfl⟩))
 ·rintro _ _ ⟨rfl,rfl⟩;refine⟨_,rfl,am (fun a=>⟨by rw[if_pos a],S.fra⟩) (fun a=>⟨by rw[if_neg a],S.fra⟩)⟩
theorem Qm: ∀n:Nat,n≤62→1≤HP .i64 1 (min n 64):=by
 have: ∀n∈List.range 63,1≤HP .i64 1 (min n 64):=by decide+kernel
 intro n a;exact this n (VD.2 (by omega))
theorem Qn (x s:Int):au P j6 #[.int .i64 x,.int .i64 s] h fun v c=>v= .int .i64 (LR x s)∧cp no h c:=by
 refine CL _ _ ?_;unfold El LR;refine am (fun a=>⟨by rw[if_pos a],cp.refl _ _⟩) (fun a=>am (fun b=>⟨by rw[if_neg a,if_pos b],cp.refl _ _⟩) (fun b=> ?_));rw[if_neg a,if_neg b];refine⟨by omega,?_⟩;refine(RV x (Qm _ (by omega))).mono ?_;rintro _ _ ⟨rfl,F⟩;exact⟨_,rfl,rfl,F⟩
theorem Dh (x m s:Int):au P jp #[.int .i64 x,.int .i64 m,.int .i64 s] h fun v k=>v= .int .i64 (gL x m s)∧cp no h k:=by
 refine AM _ _ _ ?_;unfold BL;refine⟨fun t g=>t=(x,m,s,())∧cp no h g∧0≤m∧m≤32767∧0≤s∧s≤30,?_,?_⟩
 ·rintro t g ⟨rfl,F,e⟩;unfold uX gL;rw[if_pos e];refine(RU x m).mono ?_;rintro _ j ⟨rfl,rfl⟩;refine⟨_,_,rfl,?_⟩;have b:(tw x m).2=true→ ∀{Q:Int→af→Prop},(∀c,cp no h c→Q (dZ (LR (tw x m).1 s)) c)→aC P .i64 j6 #[.int .i64 (tw x m).1,.int .i64 s] j fun n a=>aC P .i64 dm #[.int .i64 n,.int .i64 32] a fun p d=>Q p d:=by
   intro _ Q H;refine(Qn _ s).mono ?_;rintro _ _ ⟨rfl,i⟩;refine⟨_,rfl,?_⟩;refine(Kr _).mono ?_;rintro _ _ ⟨rfl,rfl⟩;exact⟨_,rfl,H _ (F.trans i)⟩
  cases hb:(tw x m).2 with
  |true=>
   rw[if_pos rfl];exact bQ rfl (bQ rfl (b hb fun c f=>⟨rfl,f⟩))
  |false=>
   rw[if_neg (by decide)];exact cI rfl (am (fun a=>⟨by rw[if_pos a],F⟩) (fun a=>cI rfl ⟨by rw[if_neg a],F⟩))
 ·have zero: ¬(0≤m∧m≤32767∧0≤s∧s≤30)→Value.int .i64 0= .int .i64 (gL x m s)∧cp no h h:=fun e=>⟨by unfold gL;rw[if_neg e],cp.refl _ _⟩;refine am (fun a=>am (fun d=>am (fun l=>bG (am (fun o=> ?_) (fun o=>zero (by omega)))) (fun l=>cI rfl (zero (by omega)))) (fun d=>cI rfl (zero (by omega)))) (fun a=>cI rfl (zero (by omega)));exact⟨rfl,cp.refl _ _,by omega,by omega,by omega,by omega⟩
theorem LS (nv:Nv) (x:Int):au P mu #[nv.v,.int .i64 x] h fun v c=>v= .int .i64 (mW nv.nd x)∧cp no h c:=by
 refine CM _ _ ?_;unfold Em mW;have S:=aJ.start h no;refine aA (cs:=nv.cells) S (fun d _ _ S=> ?_);dsimp only[Xj,Xi] at S;refine(Kr x).mono ?_;rintro _ _ ⟨rfl,rfl⟩;refine⟨_,rfl,ae (n:=nv.post) (S.cell 0 rfl rfl) (bh (fun b=> ?_) (fun b=> ?_))⟩
 ·refine ae (n:=nv.mult) (S.cell 0 rfl rfl) (ae (n:=nv.shift) (S.cell 0 rfl rfl) ?_);refine(Dh _ _ _).mono ?_;rintro _ _ ⟨rfl,F⟩;replace S:=S.fra0 F;refine⟨_,rfl,ae (n:=nv.post) (S.cell 0 rfl rfl) (bh (fun a=> ?_) (fun a=> ?_))⟩
  ·refine ae (n:=nv.low) (S.cell 0 rfl rfl) (ae (n:=nv.high) (S.cell 0 rfl rfl) ?_);refine(tM _ _ _).mono ?_;rintro _ _ ⟨rfl,rfl⟩;refine⟨_,rfl,?_,S.fra⟩;rw[if_pos (show cn .i64 nv.nd.post 1≠0 from b),if_pos (show cn .i64 nv.nd.post 2≠0 from a)];rfl
  ·refine⟨?_,S.fra⟩;rw[if_pos (show cn .i64 nv.nd.post 1≠0 from b),if_neg (show ¬cn .i64 nv.nd.post 2≠0 from fun h=>h a)];rfl
 ·refine ae (n:=nv.post) (S.cell 0 rfl rfl) (bh (fun a=> ?_) (fun a=> ?_))
  ·refine ae (n:=nv.low) (S.cell 0 rfl rfl) (ae (n:=nv.high) (S.cell 0 rfl rfl) ?_);refine(tM _ _ _).mono ?_;rintro _ _ ⟨rfl,rfl⟩;refine⟨_,rfl,?_,S.fra⟩;rw[if_neg (show ¬cn .i64 nv.nd.post 1≠0 from fun h=>h b),if_pos (show cn .i64 nv.nd.post 2≠0 from a)];rfl
  ·refine⟨?_,S.fra⟩;rw[if_neg (show ¬cn .i64 nv.nd.post 1≠0 from fun h=>h b),if_neg (show ¬cn .i64 nv.nd.post 2≠0 from fun h=>h a)]
theorem RW {T:Nat→Prop} {R:List aY} {a bb:Nat} {n:Int} (S:aJ h T h [blk a [.int .i64 n],blk bb [.int .i64 32]] R) (x:Int):
 au P uB #[.int .i64 x,.pointer (some ⟨a,0,none⟩),.pointer (some ⟨bb,0,none⟩)] h fun v r=>v= .tuple #[]∧aJ h T r [blk a [.int .i64 (dZ (mf n x))],blk bb [.int .i64 32]] R:=by
 refine En _ _ _ ?_;unfold GJ;have m: ∀{y:Int} {g:af},aJ h T g [blk a [.int .i64 y],blk bb [.int .i64 32]] R→y=mf n x→ah .i64 g ⟨a,0,none⟩ fun f=>ah .i64 g ⟨bb,0,none⟩ fun i=>aC P .i64 dm #[.int .i64 f,.int .i64 i] g fun j c=>aW c ⟨a,0,none⟩ (.int .i64 j) fun d=>Value.tuple #[]= .tuple #[]∧aJ h T d [blk a [.int .i64 (dZ (mf n x))],blk bb [.int .i64 32]] R:=by
  intro y g S e;refine ae (S.cell 0 rfl rfl) (ae (S.cell 1 rfl rfl) ?_);refine(Kr _).mono ?_;rintro _ _ ⟨rfl,rfl⟩;refine⟨_,rfl,?_⟩;refine aE S 0 rfl (jb rfl) (fun _ _ S=> ?_);dsimp only[List.set] at S;rw[e] at S;exact⟨rfl,S⟩
 have put: ∀{y:Int},y=mf n x→aW h ⟨a,0,none⟩ (.int .i64 y) fun b=>ah .i64 b ⟨a,0,none⟩ fun f=>ah .i64 b ⟨bb,0,none⟩ fun i=>aC P .i64 dm #[.int .i64 f,.int .i64 i] b fun j c=>aW c ⟨a,0,none⟩ (.int .i64 j) fun d=>Value.tuple #[]= .tuple #[]∧aJ h T d [blk a [.int .i64 (dZ (mf n x))],blk bb [.int .i64 32]] R:=by
  intro y e;refine aE S 0 rfl (jb rfl) (fun _ _ S=> ?_);dsimp only[List.set] at S;exact m S e
 have p:aD h ⟨a,0,none⟩=some (.int .i64 n):=S.cell 0 rfl rfl
 have o: ¬(x>0∧n>dV (9223372036854775807-x))→aG (decide (x<0)) (ah .i64 h ⟨a,0,none⟩ fun s=>aG (decide (s<IntKind.wrap .i64 (-9223372036854775808-x))) (aW h ⟨a,0,none⟩ (.int .i64 (-9223372036854775808)) fun b=>ah .i64 b ⟨a,0,none⟩ fun f=>ah .i64 b ⟨bb,0,none⟩ fun i=>aC P .i64 dm #[.int .i64 f,.int .i64 i] b fun j c=>aW c ⟨a,0,none⟩ (.int .i64 j) fun d=>Value.tuple #[]= .tuple #[]∧aJ h T d [blk a [.int .i64 (dZ (mf n x))],blk bb [.int .i64 32]] R)
  (ah .i64 h ⟨a,0,none⟩ fun l=>aW h ⟨a,0,none⟩ (.int .i64 (IntKind.wrap .i64 (l+x))) fun b=>ah .i64 b ⟨a,0,none⟩ fun f=>ah .i64 b ⟨bb,0,none⟩ fun i=>aC P .i64 dm #[.int .i64 f,.int .i64 i] b fun j c=>aW c ⟨a,0,none⟩ (.int .i64 j) fun d=>Value.tuple #[]= .tuple #[]∧aJ h T d [blk a [.int .i64 (dZ (mf n x))],blk bb [.int .i64 32]] R))
  (ah .i64 h ⟨a,0,none⟩ fun l=>aW h ⟨a,0,none⟩ (.int .i64 (IntKind.wrap .i64 (l+x))) fun b=>ah .i64 b ⟨a,0,none⟩ fun f=>ah .i64 b ⟨bb,0,none⟩ fun i=>aC P .i64 dm #[.int .i64 f,.int .i64 i] b fun j c=>aW c ⟨a,0,none⟩ (.int .i64 j) fun d=>Value.tuple #[]= .tuple #[]∧aJ h T d [blk a [.int .i64 (dZ (mf n x))],blk bb [.int .i64 32]] R):=by
  intro k;refine am (fun b=>ae p (am (fun q=>put ?_) (fun q=>ae p (put ?_)))) (fun b=>ae p (put ?_))
  ·unfold mf;rw[if_neg k,if_pos ⟨b,q⟩]
  ·unfold mf;rw[if_neg k,if_neg (fun h=>q h.2)]
  ·unfold mf;rw[if_neg k,if_neg (fun h=>b h.1)]
 refine am (fun k=>ae p (am (fun b=>put ?_) (fun b=>o (fun h=>b h.2)))) (fun k=>o (fun h=>k h.1));unfold mf;rw[if_pos ⟨k,b⟩]
theorem Oj {p:Option Addr} {l c:Nat} {xs:List Int} (r:bI h p (az xs)) (x:xs.length=l) (w:l<2 ^ 62):
 au P vC #[.int .i64 32,.slice p l c] h fun v o=>v= .int .i64 (tx xs)∧cp no h o:=by
 refine HN _ _ _ _ ?_;unfold L2;have S:=(aJ.start h no).read (row p (az xs)) r;refine aA S (fun f _ _ S=> ?_);dsimp only[Xj,Xi] at S;refine aA S (fun d _ _ S=> ?_);dsimp only[Xj,Xi] at S;refine aE S 1 rfl (jb rfl) (fun _ _ S=> ?_);dsimp only[List.set] at S;refine aP (fun m s g=> ∃i:Nat,s=(⟨d,0,none⟩,((),(⟨d,0,none⟩,⟨f,0,none⟩,())),(p,l,c),(l:Int),(i:Int),())∧i≤l∧m=l-i∧aJ h no g [blk f [.int .i64 32],blk d [.int .i64 (tx (xs.take i))]] [row p (az xs)]) l ⟨0,rfl,by omega,by omega,S⟩ ?_;clear S;rintro m s g ⟨i,rfl,hi,rfl,S⟩;unfold Eo;dsimp only;refine am (fun t=> ?_) (fun q=> ?_)
 ·have b:i<xs.length:=by omega
  obtain⟨a,ea⟩:=(S.row 0 rfl).some_of (by rw[av];omega);refine aB ea (k:=i) rfl (by omega) ?_;simp only[oe,US];refine ae (n:=xs[i]) (by have:=S.row 0 rfl;rw[ea] at this;exact this.cell (aI (aO b))) ?_;refine(RW (S.into [1,0] [] []) _).mono ?_;rintro _ u ⟨rfl,j⟩;refine⟨rfl,?_⟩;replace S:=S.back [1,0] j;dsimp only[bE,List.set,Xi,Xj] at S;rw[al (by omega)];refine⟨l-(i+1),by omega,i+1,rfl,by omega,rfl,?_⟩;have e:tx (xs.take (i+1))=dZ (mf (tx (xs.take i)) xs[i]):=by
   unfold tx;rw[py b,Vk];rfl
  rw[e];exact S
 ·have e:xs.take i=xs:=N6 (by omega);rw[e] at S;exact ae (S.cell 1 rfl rfl) ⟨rfl,S.fra⟩
end
end Go.Proofs.YtdhpmegbmjoekaaGreatDoor.G

