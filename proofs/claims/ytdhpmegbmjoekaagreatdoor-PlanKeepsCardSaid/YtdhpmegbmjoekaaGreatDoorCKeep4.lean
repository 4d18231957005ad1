/- CKeep CKeep2 CKeep3 CKeep4, in one text. -/
import Derived.Test.YtdhpmegbmjoekaaGreatDoorCNum
import Derived.Test.YtdhpmegbmjoekaaGreatDoorCGraph5
import Derived.Test.YtdhpmegbmjoekaaGreatDoorCKindP3
set_option linter.unusedVariables false
set_option linter.unusedSimpArgs false
namespace Go.Proofs.YtdhpmegbmjoekaaGreatDoor.G
open Go Go.Sh
section
section
variable {h:af}
theorem Rx (x:Int):au P rA #[.int .i64 x] h fun v a=>v= .bool (decide (-2147483648≤x∧x<2147483648))∧a=h:=by
 refine Cp _ ?_;unfold DI;refine am (fun b=>⟨?_,rfl⟩) (fun b=>⟨?_,rfl⟩)
 ·congr 1;rw[decide_eq_decide];exact⟨fun h=>⟨by omega,h⟩,fun h=>h.2⟩
 ·congr 1;rw[decide_eq_false (by omega)]
theorem PP (x:Int):au P uK #[.int .i64 x] h fun v a=>v= .bool (decide (1≤x∧x≤64))∧a=h:=by
 refine DK _ ?_;unfold Gs;refine am (fun b=>⟨?_,rfl⟩) (fun b=>⟨?_,rfl⟩)
 ·congr 1;rw[decide_eq_decide];exact⟨fun h=>⟨by omega,h⟩,fun h=>h.2⟩
 ·congr 1;rw[decide_eq_false (by omega)]
theorem sq (x lo hi:Int):au P ik #[.int .i64 x,.int .i64 lo,.int .i64 hi] h fun v c=>v= .int .i64 (fz x lo hi)∧c=h:=by
 refine Az _ _ _ ?_;unfold BB fz;refine am (fun a=>⟨by rw[if_pos a],rfl⟩) (fun a=>am (fun b=>⟨by rw[if_neg a,if_pos b],rfl⟩) (fun b=>⟨by rw[if_neg a,if_neg b],rfl⟩))
theorem PQ:au P uL #[.int .i64 32] h fun v b=>v= .int .i64 (-2147483648)∧b=h:=by
 refine DL _ ?_;unfold Gt;refine aP (fun a s g=>g=h∧ ∃i:Nat,s=((32:Int),-(2:Int) ^ i,(i:Int)+1,())∧i≤31∧a=31-i) 31 ⟨rfl,0,rfl,by omega,rfl⟩ ?_;rintro a s g ⟨rfl,i,rfl,hi,rfl⟩;unfold yV;dsimp only;have j:(1:Int)≤2 ^ i∧(2:Int) ^ i≤2 ^ 31:=by
  have c:=VT (show 0<2 by decide) hi;have d:=VT (show 0<2 by decide) (V1 i);constructor
  ·exact_mod_cast d
  ·exact_mod_cast c
 refine am (fun f=> ?_) (fun e=> ?_)
 ·rw[al (n:= -(2:Int) ^ i*2) (by omega),al (by omega)];refine⟨31-(i+1),by omega,by trivial,i+1,?_,by omega,rfl⟩;have: -(2:Int) ^ i*2= -(2:Int) ^ (i+1):=by rw[Ww];omega
  rw[this];rfl
 ·have:i=31:=by omega
  subst this;exact⟨rfl,rfl⟩
theorem FI (x:Int):au P jS #[.int .i64 x,.int .i64 32] h fun v a=>v= .int .i64 (dZ x)∧a=h:=by
 refine DM _ _ ?_;unfold Gu;refine(PP 32).mono ?_;rintro _ _ ⟨rfl,rfl⟩;refine⟨_,rfl,bQ (by decide) ?_⟩;refine PQ.mono ?_;rintro _ _ ⟨rfl,rfl⟩;refine⟨_,rfl,?_⟩;have e:IntKind.wrap .i64 ((-1:Int)-(-2147483648))=2147483647:=by rw[al (by omega)];rfl
 dsimp only;rw[e];refine(sq _ _ _).mono ?_;rintro _ _ ⟨rfl,rfl⟩;exact⟨_,rfl,rfl,rfl⟩
theorem MB (x:Int) {n:Int} (b:n≠0):au P mE #[.int .i64 x,.int .i64 n] h fun v c=>v= .int .i64 (IJ x n)∧c=h:=by
 refine Cq _ _ ?_;unfold DO IJ;refine⟨b,b,am (fun a=>⟨by rw[if_pos a],rfl⟩) (fun a=>⟨by rw[if_neg a],rfl⟩)⟩
theorem Ry (x:Int) {n:Int} (b:n≠0):au P rB #[.int .i64 x,.int .i64 n] h fun v a=>v= .int .i64 (LT x n)∧a=h:=by
 refine Cr _ _ ?_;unfold DP LT;refine(MB x b).mono ?_;rintro _ _ ⟨rfl,rfl⟩;exact⟨_,rfl,rfl,rfl⟩
theorem Kd (x n:Int):au P oG #[.int .i64 x,.int .i64 n] h fun v c=>v= .int .i64 (Ok x n)∧c=h:=by
 refine DQ _ _ ?_;unfold Gx Ok;refine am (fun a=>⟨by rw[if_pos a],rfl⟩) (fun a=> ?_);rw[if_neg a];refine(MB x (by omega)).mono ?_;rintro _ _ ⟨rfl,rfl⟩;refine⟨_,rfl,?_⟩;refine(Ry x (by omega)).mono ?_;rintro _ _ ⟨rfl,rfl⟩;refine⟨_,rfl,am (fun b=>⟨by rw[if_pos b],rfl⟩) (fun b=>⟨by rw[if_neg b],rfl⟩)⟩
theorem PR {n:Nat} (e:n≤62):au P pu #[.int .i64 (n:Int)] h fun v b=>v= .int .i64 (Qo n)∧b=h:=by
 refine AA _ ?_;unfold BC;refine aP (fun a s g=>g=h∧ ∃i:Nat,s=((n:Int),Qo i,(i:Int),())∧i≤n∧a=n-i) n ⟨rfl,0,rfl,by omega,rfl⟩ ?_;rintro a s g ⟨rfl,i,rfl,hi,rfl⟩;unfold uq;dsimp only;refine am (fun d=> ?_) (fun c=> ?_)
 ·rw[al (n:=(i:Int)+1) (by omega)];exact⟨n-(i+1),by omega,by trivial,i+1,rfl,by omega,rfl⟩
 ·have:i=n:=by omega
  subst this;exact⟨rfl,rfl⟩
theorem NT (x s:Int):au P mF #[.int .i64 x,.int .i64 s] h fun v c=>v= .int .i64 (LU x s)∧c=h:=by
 refine Cs _ _ ?_;unfold DR LU;refine am (fun a=>⟨by rw[if_pos a],rfl⟩) (fun a=>am (fun b=>⟨by rw[if_neg a,if_pos b],rfl⟩) (fun b=> ?_));rw[if_neg a,if_neg b];obtain⟨n,rfl⟩: ∃n:Nat,s=(n:Int):=⟨s.toNat,by omega⟩;refine(PR (by omega)).mono ?_;rintro _ _ ⟨rfl,rfl⟩;refine⟨_,rfl,?_⟩;refine(Kd _ _).mono ?_;rintro _ _ ⟨rfl,rfl⟩;exact⟨_,rfl,rfl,rfl⟩
theorem PS (a b:Int):au P uM #[.int .i64 a,.int .i64 b] h fun v r=>v= .agg #[.int .i64 (tw a b).1,.bool (tw a b).2]∧cp no h r:=by
 refine DN _ _ ?_;unfold Gw;have S:=aJ.start h no;refine aA (cs:=[.int .i64 0,.bool false]) S fun d f _ S=> ?_;dsimp only[Xj] at S;have put: ∀{g:af} {cs:List Value} {m:Int} {ok:Bool} {k:Int×Bool},cs.length=2→k=(m,ok)→aJ h no g [blk d cs] []→aW g ⟨d,0,none⟩ (.int .i64 m) fun i=>aW i ⟨d,1,none⟩ (.bool ok) fun c=>ah .i64 c ⟨d,0,none⟩ fun w=>eT c ⟨d,1,none⟩ fun q=>
  Value.agg #[.int .i64 w,.bool q]= .agg #[.int .i64 k.1,.bool k.2]∧cp no h c:=by
  intro g cs m ok k u t S;obtain⟨x,y,rfl⟩: ∃x y,cs=[x,y]:=by
   match cs,u with
   |[x,y],_=>exact⟨x,y,rfl⟩
  refine aE S 0 rfl (jb rfl) fun _ _ S=> ?_;dsimp only[List.set] at S;refine aE S 0 rfl (jb rfl) fun _ _ S=> ?_;dsimp only[List.set] at S;refine ae (n:=m) (S.cell 0 rfl rfl) (jz (n:=ok) (S.cell 0 rfl rfl) ⟨by rw[t],S.fra⟩)
 refine aH (fun j=>put rfl (by unfold tw;rw[if_pos j]) S) (fun j=> ?_);refine aH (fun l=>put rfl (by unfold tw;rw[if_neg j,if_pos l]) S) (fun l=> ?_);have e:tw a b=if(a= -1∧b= -9223372036854775808)∨(b= -1∧a= -9223372036854775808) then(0,false) else if dV (Int.tdiv (dV (a*b)) b)≠a then(0,false) else(dV (a*b),true):=by
  unfold tw;rw[if_neg j,if_neg l]
 refine⟨fun s g=>s=(a,b,⟨d,0,none⟩,())∧ ¬((a= -1∧b= -9223372036854775808)∨(b= -1∧a= -9223372036854775808))∧aJ h no g [blk d [.int .i64 0,.bool false]] [],?_,?_⟩
 ·clear S;rintro s g ⟨rfl,p,S⟩;unfold yW;simp only[aQ,SI];refine⟨l,bh (fun f=>put rfl (by rw[e,if_neg p,if_pos f]) S) (fun f=>put rfl (by rw[e,if_neg p,if_neg (fun h=>h f)]) S)⟩
 ·refine aH (fun f=>aH (fun o=>put rfl (by rw[e,if_pos (.inl ⟨f,o⟩)]) S) (fun o=>aH (fun i=>aH (fun c=>put rfl (by rw[e,if_pos (.inr ⟨i,c⟩)]) S) (fun c=>⟨rfl,by omega,S⟩)) (fun i=>⟨rfl,by omega,S⟩)))
   (fun f=>aH (fun i=>aH (fun c=>put rfl (by rw[e,if_pos (.inr ⟨i,c⟩)]) S) (fun c=>⟨rfl,by omega,S⟩)) (fun i=>⟨rfl,by omega,S⟩))
theorem FJ (x m s:Int):au P kY #[.int .i64 x,.int .i64 m,.int .i64 s] h fun v j=>v= .int .i64 (jc x m s)∧cp no h j:=by
 refine AB _ _ _ ?_;unfold BD;have zero:(m<0∨m>32767∨s<0∨s>30)→Value.int .i64 0= .int .i64 (jc x m s)∧cp no h h:=fun c=>⟨by unfold jc;rw[if_pos c],cp.refl _ _⟩;refine⟨fun t g=>t=(x,m,s,())∧ ¬(m<0∨m>32767∨s<0∨s>30)∧g=h,?_,?_⟩
 ·rintro t g ⟨rfl,c,rfl⟩;unfold ur;dsimp only;have S:=aJ.start g no;refine(PS x m).mono ?_;rintro _ o ⟨rfl,F⟩;replace S:=S.fra0 F;refine⟨_,_,rfl,?_⟩;obtain⟨k,d⟩: ∃k,tw x m=k:=⟨_,rfl⟩;have es:jc x m s=if k.2=true then dZ (LU k.1 s) else if x<0 then-2147483648 else 2147483647:=by unfold jc;rw[if_neg c,d]
  rw[d,es];refine aA (cs:=[.int .i64 0,.bool false]) S fun l _ _ S=> ?_;dsimp only[Xj] at S;refine aE S 0 rfl (jb rfl) fun _ _ S=> ?_;dsimp only[List.set] at S;refine aE S 0 rfl (jb rfl) fun p _ S=> ?_;dsimp only[List.set] at S;refine jz (n:=k.2) (S.cell 0 rfl rfl) (bG (eD (fun b=> ?_) (fun b=> ?_)))
  ·refine jz (n:=k.2) (S.cell 0 rfl rfl) (bG (cI b ?_));refine ae (n:=k.1) (S.cell 0 rfl rfl) ?_;refine(NT _ _).mono ?_;rintro _ _ ⟨rfl,rfl⟩;refine⟨_,rfl,?_⟩;refine(FI _).mono ?_;rintro _ _ ⟨rfl,rfl⟩;exact⟨_,rfl,by rw[if_pos b],S.fra⟩
  ·refine am (fun a=>⟨by rw[if_neg (by rw[b];simp),if_pos a],S.fra⟩) (fun a=> ?_);refine jz (n:=k.2) (S.cell 0 rfl rfl) (bG (bQ b ?_));exact⟨by rw[if_neg (by rw[b];simp),if_neg a],S.fra⟩
 ·refine am (fun a=>zero (.inl a)) (fun a=>am (fun e=>zero (.inr (.inl e))) (fun e=>am (fun f=>zero (.inr (.inr (.inl f)))) (fun f=>am (fun i=>zero (.inr (.inr (.inr i)))) (fun i=>⟨rfl,by omega,rfl⟩))))
theorem NU (nv:Nv) (x:Int):au P rC #[nv.v,.int .i64 x] h fun v c=>v= .int .i64 (fA nv.nd x)∧cp no h c:=by
 refine Ct _ _ ?_;unfold DS;have S:=aJ.start h no;refine aA (cs:=nv.cells) S fun d b _ S=> ?_;dsimp only[Xj] at S;refine(FI x).mono ?_;rintro _ _ ⟨rfl,rfl⟩;refine⟨_,rfl,?_⟩;have e:fA nv.nd x=if cn .i64 nv.post 2=2 then fz (if cn .i64 nv.post 1=1 then jc (dZ x) nv.mult nv.shift else dZ x) nv.low nv.high else(if cn .i64 nv.post 1=1 then jc (dZ x) nv.mult nv.shift else dZ x):=rfl
 refine ae (n:=nv.post) (S.cell 0 rfl rfl) (aH (fun b=> ?_) (fun b=> ?_))
 ·rw[if_pos b] at e;refine ae (n:=nv.mult) (S.cell 0 rfl rfl) (ae (n:=nv.shift) (S.cell 0 rfl rfl) ?_);refine(FJ _ _ _).mono ?_;rintro _ f ⟨rfl,F⟩;replace S:=S.fra0 F;refine⟨_,rfl,?_⟩;refine ae (n:=nv.post) (S.cell 0 rfl rfl) (aH (fun a=> ?_) (fun a=>⟨by rw[e,if_neg a],S.fra⟩));refine ae (n:=nv.low) (S.cell 0 rfl rfl) (ae (n:=nv.high) (S.cell 0 rfl rfl) ?_);refine(sq _ _ _).mono ?_;rintro _ _ ⟨rfl,rfl⟩;exact⟨_,rfl,by rw[e,if_pos a],S.fra⟩
 ·rw[if_neg b] at e;refine ae (n:=nv.post) (S.cell 0 rfl rfl) (aH (fun a=> ?_) (fun a=>⟨by rw[e,if_neg a],S.fra⟩));refine ae (n:=nv.low) (S.cell 0 rfl rfl) (ae (n:=nv.high) (S.cell 0 rfl rfl) ?_);refine(sq _ _ _).mono ?_;rintro _ _ ⟨rfl,rfl⟩;exact⟨_,rfl,by rw[e,if_pos a],S.fra⟩
theorem NV (a b:Int):au P rD #[.int .i64 a,.int .i64 b] h fun v i=>v= .int .i64 (mf a b)∧i=h:=by
 refine Cw _ _ ?_;unfold DW mf;have e: ∀x:Int,dV x=IntKind.wrap .i64 x:=fun _=>rfl;refine am (fun d=>am (fun f=>⟨by rw[if_pos ⟨d,f⟩],rfl⟩) (fun f=> ?_)) (fun d=> ?_)
 ·rw[if_neg (fun h=>f h.2),if_neg (fun h=>by have:=h.1;omega)];exact am (fun c=>by omega) (fun _=>⟨rfl,rfl⟩)
 ·rw[if_neg (fun h=>d h.1)];refine am (fun c=>am (fun g=>⟨by rw[if_pos ⟨c,g⟩],rfl⟩) (fun g=>⟨by rw[if_neg (fun h=>g h.2)],rfl⟩)) (fun c=>⟨by rw[if_neg (fun h=>c h.1)],rfl⟩)
theorem PT {p:Option Addr} {l c:Nat} {xs:List Int} (d:bI h p (az xs)) (m:xs.length=l) (k:l<2 ^ 40):au P uO #[.int .i64 32,.slice p l c] h fun v f=>v= .int .i64 (tx xs)∧f=h:=by
 refine DX _ _ _ _ ?_;unfold Gz;refine aP (fun e s g=>g=h∧ ∃t:Nat,s=((32:Int),(p,l,c),tx (xs.take t),(t:Int),())∧t≤l∧e=l-t) l ⟨rfl,0,rfl,by omega,rfl⟩ ?_;rintro e s g ⟨rfl,t,rfl,o,rfl⟩;unfold za;dsimp only;refine am (fun j=> ?_) (fun i=> ?_)
 ·have b:t<xs.length:=by omega
  obtain⟨a,ea⟩:=d.some_of (by rw[av];omega);subst ea;refine aB rfl rfl (by omega) ?_;simp only[oe,US];refine ae (d.cell (aI (aO b))) ?_;refine(NV _ _).mono ?_;rintro _ _ ⟨rfl,rfl⟩;refine⟨_,rfl,?_⟩;refine(FI _).mono ?_;rintro _ _ ⟨rfl,rfl⟩;refine⟨_,rfl,?_⟩;rw[al (n:=(t:Int)+1) (by omega)];refine⟨l-(t+1),by omega,by trivial,t+1,?_,by omega,rfl⟩;rw[py b];unfold tx;rw[Vk];rfl
 ·rw[N6 (by omega)];exact⟨rfl,rfl⟩
theorem PU {p:Option Addr} {l c:Nat} {xs:List Int} (A:bI h p (az xs)) (D:xs.length=l) (C:l<2 ^ 40):au P uN #[.slice p l c] h fun v u=>v= .agg #[.int .i64 (Bm xs).1,.bool (Bm xs).2]∧cp no h u:=by
 refine DU _ _ _ ?_;unfold Gy;have S:=(aJ.start h no).read (row p (az xs)) A;refine aA (cs:=[.int .i64 0,.bool false]) S fun b f _ S=> ?_;dsimp only[Xj] at S;refine aP (fun q s g=> ∃t:Nat,s=((p,l,c),⟨b,0,none⟩,(Aj (xs.take t)).1,(Aj (xs.take t)).2,(t:Int),())∧t≤l∧q=l-t∧aJ h no g [blk b [.int .i64 0,.bool false]] [row p (az xs)]) l ⟨0,rfl,by omega,rfl,S⟩ ?_;clear S;rintro q s g ⟨t,rfl,E,rfl,S⟩;unfold yZ;simp only[aQ,SI];refine am (fun z=> ?_) (fun x=> ?_)
 ·have d:t<xs.length:=by omega
  have i:=S.row 0 rfl;obtain⟨a,ea⟩:=i.some_of (by rw[av];omega);rw[ea] at i;refine aB ea rfl (by omega) ?_;simp only[oe,US];refine ae (i.cell (aI (aO d))) (aB ea rfl (by omega) (ae (i.cell (aI (aO d))) ?_));rw[al (n:=(t:Int)+1) (by omega)];have e:Aj (xs.take (t+1))=(dV ((Aj (xs.take t)).1+fu xs[t] 32),dV ((Aj (xs.take t)).2+cn .i64 xs[t] 4294967295)):=by
   rw[py d];unfold Aj;rw[Vk];rfl
  exact⟨l-(t+1),by omega,t+1,by rw[e];rfl,by omega,rfl,S⟩
 ·rw[N6 (by omega)];have put: ∀{g:af} {m:Int} {ok:Bool} {k:Int×Bool},k=(m,ok)→aJ h no g [blk b [.int .i64 0,.bool false]] [row p (az xs)]→aW g ⟨b,0,none⟩ (.int .i64 m) fun w=>aW w ⟨b,1,none⟩ (.bool ok) fun o=>ah .i64 o ⟨b,0,none⟩ fun B=>eT o ⟨b,1,none⟩ fun r=>
   Value.agg #[.int .i64 B,.bool r]= .agg #[.int .i64 k.1,.bool k.2]∧cp no h o:=by
   intro g m ok k y S;refine aE S 0 rfl (jb rfl) fun _ _ S=> ?_;dsimp only[List.set] at S;refine aE S 0 rfl (jb rfl) fun _ _ S=> ?_;dsimp only[List.set] at S;refine ae (n:=m) (S.cell 0 rfl rfl) (jz (n:=ok) (S.cell 0 rfl rfl) ⟨by rw[y],S.fra⟩)
  refine am (fun f=>put (by unfold Bm;rw[if_pos f]) S) (fun f=>am (fun j=>put (by unfold Bm;rw[if_neg f,if_pos j]) S) (fun j=>put (by unfold Bm;rw[if_neg f,if_neg j]) S))
theorem Hw {p:Option Addr} {l c:Nat} {xs:List Int} (i:bI h p (az xs)) (d:xs.length=l) (g:l<2 ^ 40):au P mG #[.slice p l c] h fun v f=>v= .int .i64 (Di xs)∧cp no h f:=by
 refine Cv _ _ _ ?_;unfold DV;have S:=(aJ.start h no).read (row p (az xs)) i;refine(PU (S.row 0 rfl) d g).mono ?_;rintro _ m ⟨rfl,F⟩;replace S:=S.fra0 F;refine⟨_,_,rfl,?_⟩;obtain⟨k,b⟩: ∃k,Bm xs=k:=⟨_,rfl⟩;have e:Di xs=if k.2=true then if xs.length=0 then 0 else Ok k.1 (xs.length:Int) else 0:=by unfold Di;rw[b]
 rw[b,e];refine aA (cs:=[.int .i64 0,.bool false]) S fun j _ _ S=> ?_;dsimp only[Xj] at S;refine aE S 0 rfl (jb rfl) fun _ _ S=> ?_;dsimp only[List.set] at S;refine aE S 0 rfl (jb rfl) fun o _ S=> ?_;dsimp only[List.set] at S;refine jz (n:=k.2) (S.cell 0 rfl rfl) (bG (eD (fun a=> ?_) (fun a=>⟨by rw[if_neg (by rw[a];simp)],S.fra⟩)));rw[if_pos a];refine aH (fun h0=>⟨by rw[if_pos (by omega)],S.fra⟩) (fun h0=> ?_);rw[if_neg (by omega)];refine ae (n:=k.1) (S.cell 0 rfl rfl) ?_;refine(Kd _ _).mono ?_;rintro _ _ ⟨rfl,rfl⟩;exact⟨_,rfl,by rw[d],S.fra⟩
theorem Bk {p:Option Addr} {l c:Nat} {xs:List Int} (k:bI h p (az xs)) (w:xs.length=l) (y:l<2 ^ 40):au P ke #[.slice p l c] h fun v q=>v= .int .i64 ((pH xs:Nat):Int)∧q=h∧(1≤l→pH xs<l):=by
 refine Cu _ _ _ ?_;unfold DT;refine aP (fun o s g=>g=h∧ ∃t a:Nat,s=((p,l,c),(a:Int),(t:Int),())∧t≤l∧o=l-t∧a=(List.range t).foldl (fun a i=>if xs.getD i 0>xs.getD a 0 then i else a) 0∧(a=0∨a<t)) l ⟨rfl,0,0,rfl,by omega,rfl,rfl,.inl rfl⟩ ?_;rintro o s g ⟨rfl,t,b,rfl,z,rfl,m,r⟩;unfold wU;dsimp only;refine am (fun x=> ?_) (fun u=> ?_)
 ·have f:t<xs.length:=by omega
  have d:b<xs.length:=by omega
  obtain⟨a,ea⟩:=k.some_of (by rw[av];omega);subst ea;refine aB rfl rfl (by omega) (aB rfl rfl (by omega) ?_);simp only[oe,US];refine ae (n:=xs[t]) (k.cell (aI (aO f))) (ae (n:=xs[b]) (k.cell (aI (aO d))) ?_);rw[al (n:=(t:Int)+1) (by omega)];have e:(List.range (t+1)).foldl (fun a i=>if xs.getD i 0>xs.getD a 0 then i else a) 0=if xs[t]>xs[b] then t else b:=by
   rw[Wy,Vk,←m];show(if xs.getD t 0>xs.getD b 0 then t else b)=_;rw[cH f,cH d]
  refine am (fun j=> ?_) (fun j=> ?_)
  ·exact⟨l-(t+1),by omega,by trivial,t+1,t,rfl,by omega,rfl,by rw[e,if_pos j],.inr (by omega)⟩
  ·exact⟨l-(t+1),by omega,by trivial,t+1,b,rfl,by omega,rfl,by rw[e,if_neg j],by omega⟩
 ·have:t=l:=by omega
  subst this;have e:pH xs=b:=by unfold pH;rw[w];exact m.symm
  rw[e];exact⟨rfl,rfl,fun j=>by omega⟩
end
end
section
def ks (ss:List Sl):List Value:=ss.map Sl.v
theorem dL (ss:List Sl):(ks ss).length=ss.length:=by simp[ks]
theorem jJ {ss:List Sl} {i:Nat} {s:Sl} (h:ss[i]? =some s):(ks ss)[i]? =some s.v:=by simp[ks,h]
def gm (ss:List Sl):aY:=bP (ss.map Sl.row)
structure PV (h:af) (p:Option Addr) (l:Nat) (ss:List Sl):Prop where
 row:bI h p (ks ss)
 rows:(gm ss).P h
 len:ss.length=l
 ok: ∀s∈ss,s.ok∧s.l<2 ^ 40
def bV (ss:List Sl):List (List Int):=ss.map Sl.xs
theorem fq (ss:List Sl):(bV ss).length=ss.length:=by simp[bV]
theorem gn {ss:List Sl} {i:Nat} {s:Sl} (h:ss[i]? =some s):(bV ss)[i]? =some s.xs:=by simp[bV,h]
def B4 (x:Int):Prop:= -2147483648≤x∧x<2147483648
instance (x:Int):Decidable (B4 x):=by unfold B4;infer_instance
def wz (n:Nd) (m:Nat):Prop:=(dW n.kind→(m:Int)=n.size)∧(n.kind=5→1≤m)∧(cJ n.kind→m=n.inn.length)∧(¬dW n.kind→ ¬cJ n.kind→n.kind≠5→m=1)
instance (n:Nd) (m:Nat):Decidable (wz n m):=by unfold wz;infer_instance
def cO (n:Nd) (a:List (List Int)):List Int:=if cJ n.kind then a.map fun f=>(f.length:Int) else(a.take 1).map fun f=>(f.length:Int)
def og (n:Nd) (a:List (List Int)):Prop:=
 wz n a.length∧(∀f∈a,∀x∈f,B4 x)∧(¬cJ n.kind→ ∀f∈a,f.length=(a.getD 0 []).length)∧0<a.length∧n.chk (cO n a)=0
instance (n:Nd) (fs:List (List Int)):Decidable (og n fs):=by unfold og;infer_instance
section
variable {h:af}
theorem Ke {p:Option Addr} {l c:Nat} {ss:List Sl} (F:PV h p l ss) (R:l<2 ^ 40) {k:Nat} (I: ∀s∈ss,k<s.l):
 au P nj #[.slice p l c,.int .i64 (k:Int)] h fun v E=> ∃(q:Option Addr) (d:Nat),v= .slice q l d∧aJ h no E [own 1 q l d (az ((bV ss).map fun f=>f.getD k 0))] []:=by
 refine yY _ _ _ _ ?_;unfold yX;have S:=(((aJ.start h no).read (row p (ks ss)) F.row).read (gm ss) F.rows).nil 1;dsimp only[Xj,Xi] at S;have A:=F.len;refine aP (fun B s g=> ∃(t:Nat) (q:Option Addr) (m d:Nat),s=((p,l,c),(k:Int),(q,m,d),(t:Int),())∧t≤l∧B=l-t∧m=t∧aJ h no g [own 1 q m d (az (((bV ss).take t).map fun f=>f.getD k 0))] [row p (ks ss),gm ss]) l ⟨0,none,0,0,rfl,by omega,rfl,rfl,S⟩ ?_;clear S;rintro B s g ⟨t,q,m,d,rfl,T,rfl,rfl,S⟩;unfold sQ;dsimp only;refine am (fun K=> ?_) (fun H=> ?_)
 ·obtain⟨s,es⟩: ∃s,ss[m]? =some s:=⟨_,aO (by omega)⟩;have i:=UR es;have x:=F.ok s i;have C:s.xs.length=s.l:=x.1.1;have J:=I s i;have w:=S.row 0 rfl;obtain⟨a,ea⟩:=w.some_of (by rw[dL];omega);rw[ea] at w;refine aB ea rfl (by omega) ?_;simp only[oe,US];refine ak (p:=s.p) (l:=s.l) (c:=s.c) (w.cell (jJ es)) ?_;have y:bI g s.p (az s.xs):=S.r 1 _ rfl _ (U2 i);obtain⟨b,z⟩:=y.some_of (by rw[av];omega);rw[z] at y;refine aB z (k:=k) rfl (by omega) ?_;have j:k<s.xs.length:=by omega
  refine ae (n:=s.xs[k]) (y.cell (aI (aO j))) ?_;refine aA (cs:=[.int .i64 s.xs[k]]) S fun N O _ S=> ?_;dsimp only[Xi,Xj] at S;refine cK S 0 (ys:=az [s.xs[k]]) rfl rfl (by decide) (by omega) (bI.of_at (S.at 1 rfl)) rfl cX fun M L D Q u S=> ?_;dsimp only[List.set] at S;have o:m<(bV ss).length:=by rw[fq];omega
  have e:az (((bV ss).take m).map fun f=>f.getD k 0)++az [s.xs[k]]=az (((bV ss).take (m+1)).map fun f=>f.getD k 0):=by
   have G:(bV ss)[m]=s.xs:=by
    have:=gn es;rw[aO o] at this;exact Option.some.inj this
   rw[py o,G];simp only[az,U4,Vg,Vz];rw[cH j]
  rw[e] at S;rw[al (by omega)];exact⟨l-(m+1),by omega,m+1,M,L,D,rfl,by omega,rfl,u,S.pw [0]⟩
 ·have:m=l:=by omega
  subst this;rw[N6 (by rw[fq];omega)] at S;exact⟨q,d,rfl,yu S⟩
theorem Kf {nv:Nv} (ax:nv.ok) (ar:nv.inn.l<2 ^ 62) (aw:nv.weights.l<2 ^ 62) (ap:nv.bias.l<2 ^ 62) {L:Nat} {p:Option Addr} {l c:Nat} {ss:List Sl} (aa:ss.length=l) (J: ∀s∈ss,s.ok∧s.l<2 ^ 40) (hl:l<2 ^ 40) (X:wz nv.nd l) {g:af}
 (S:aJ h no g [blk L nv.cells] [row p (ks ss),gm ss,nv.rows]):
 qW (fun v h'=>v= .bool (decide (og nv.nd (bV ss)))∧cp no h h') p l c ⟨L,0,none⟩ (decide (cJ nv.kind)) g:=by
 unfold qW;have an:(bV ss).length=l:=by rw[fq];exact aa
 have U: ∀{g:af} {W:List aY},aJ h no g W [row p (ks ss),gm ss,nv.rows]→ ¬og nv.nd (bV ss)→Value.bool false= .bool (decide (og nv.nd (bV ss)))∧cp no h g:=fun S P=>⟨by rw[decide_eq_false P],S.fra⟩;replace S:=S.nil 1;dsimp only[Xj,Xi] at S;have hk:nv.nd.kind=nv.kind:=rfl;have wT: ∀t,t≤l→cO nv.nd ((bV ss).take t)=if cJ nv.kind then((bV ss).take t).map fun f=>(f.length:Int) else(((bV ss).take t).take 1).map fun f=>(f.length:Int):=fun t _=>rfl
 refine aP (fun mm s g=> ∃(t:Nat) (q:Option Addr) (m d:Nat),s=((p,l,c),⟨L,0,none⟩,decide (cJ nv.kind),(q,m,d),(t:Int),())∧t≤l∧mm=l-t∧(cO nv.nd ((bV ss).take t)).length=m∧m≤t∧
  (∀f∈(bV ss).take t,∀x∈f,B4 x)∧(¬cJ nv.kind→ ∀f∈(bV ss).take t,f.length=((bV ss).getD 0 []).length)∧
  aJ h no g [blk L nv.cells,own 1 q m d (az (cO nv.nd ((bV ss).take t)))] [row p (ks ss),gm ss,nv.rows]) l
  ⟨0,none,0,0,rfl,by omega,rfl,by unfold cO;split<;>rfl,by omega,by simp,by simp,by
    have:cO nv.nd ((bV ss).take 0)=[]:=by unfold cO;split<;>rfl
    rw[this];exact S⟩ ?_
 clear S;rintro mm s g ⟨t,q,m,d,rfl,ht,rfl,P,a8,y,M,S⟩;unfold yU;dsimp only;refine am (fun a7=> ?_) (fun a5=> ?_)
 ·obtain⟨s,es⟩: ∃s,ss[t]? =some s:=⟨_,aO (by omega)⟩;have I:=UR es;have a2:=J s I;have K:s.xs.length=s.l:=a2.1.1;have ai:t<(bV ss).length:=by omega
  have ao:(bV ss)[t]=s.xs:=by
   have:=gn es;rw[aO ai] at this;exact Option.some.inj this
  have Q:(bV ss).take (t+1)=(bV ss).take t++[s.xs]:=by rw[py ai,ao]
  have ag:s.xs∈bV ss:=UR (gn es);obtain⟨H,A⟩: ∃s,ss[0]? =some s:=⟨_,aO (by omega)⟩;have V:H.xs.length=H.l:=(J H (UR A)).1.1;have Z:(bV ss).getD 0 []=H.xs:=by rw[UV,gn A];rfl
  have et:IntKind.wrap .i64 ((t:Int)+1)=((t+1:Nat):Int):=by rw[al (by omega)];rfl
  obtain⟨a,ea⟩:=(S.row 0 rfl).some_of (by rw[dL];omega);have D: ∀{g:af} {W:List aY},aJ h no g W [row p (ks ss),gm ss,nv.rows]→aD g (a.add t)=some s.v:=fun S=>by
   have:=S.row 0 rfl;rw[ea] at this;exact this.cell (jJ es)
  have a1: ∀{g:af} {W:List aY},aJ h no g W [row p (ks ss),gm ss,nv.rows]→aD g (a.add 0)=some H.v:=fun S=>by
   have:=S.row 0 rfl;rw[ea] at this;exact this.cell (jJ A)
  refine aP (fun mm z g=> ∃k:Nat,z=((p,l,c),⟨L,0,none⟩,decide (cJ nv.kind),(q,m,d),(t:Int),(k:Int),())∧k≤s.l∧mm=s.l-k∧(∀x∈s.xs.take k,B4 x)∧
   aJ h no g [blk L nv.cells,own 1 q m d (az (cO nv.nd ((bV ss).take t)))] [row p (ks ss),gm ss,nv.rows]) s.l ⟨0,rfl,by omega,rfl,by simp,S⟩ ?_
  clear S;rintro mm z g ⟨k,rfl,a6,rfl,R,S⟩;unfold wR;dsimp only;refine aB ea rfl (by omega) ?_;simp only[oe,US];refine ak (p:=s.p) (l:=s.l) (c:=s.c) (D S) ?_;refine am (fun a4=> ?_) (fun a3=> ?_)
  ·have N:k<s.xs.length:=by omega
   refine aB ea rfl (by omega) (ak (p:=s.p) (l:=s.l) (c:=s.c) (D S) ?_);have sr:bI g s.p (az s.xs):=S.r 1 _ rfl _ (U2 I);obtain⟨b,eb⟩:=sr.some_of (by rw[av];omega);rw[eb] at sr;refine aB eb rfl (by omega) ?_;refine ae (n:=s.xs[k]) (sr.cell (aI (aO N))) ?_;refine(Rx _).mono ?_;rintro _ _ ⟨rfl,rfl⟩;refine⟨_,rfl,bG (am (fun hw=> ?_) (fun hw=>U S fun u=>hw (u.2.1 s.xs ag _ (UU N))))⟩;rw[al (n:=(k:Int)+1) (by omega)];refine⟨s.l-(k+1),by omega,k+1,rfl,by omega,rfl,fun x G=> ?_,S⟩;rw[py N] at G;rcases UX.1 G with G|G
   ·exact R x G
   ·simp only[SH] at G;subst G;exact hw
  ·rw[N6 (by omega)] at R;have j: ∀f∈(bV ss).take (t+1),∀x∈f,B4 x:=fun f w x G=>by
    rw[Q] at w;rcases UX.1 w with w|w
    ·exact y f w x G
    ·simp only[SH] at w;subst w;exact R x G
   have add:(t=0∨cJ nv.kind)→ ∀{P2:Prop},(∀(p2:Option Addr) (T Y:Nat) (g3:af),T=m+1→(cO nv.nd ((bV ss).take (t+1))).length=T→aJ h no g3 [blk L nv.cells,own 1 p2 T Y (az (cO nv.nd ((bV ss).take (t+1))))] [row p (ks ss),gm ss,nv.rows]→True)→True:=fun _ _ _=>trivial;have o:(t=0∨cJ nv.kind)→cO nv.nd ((bV ss).take (t+1))=cO nv.nd ((bV ss).take t)++[(s.l:Int)]:=fun X=>by
    rw[Q,←K];unfold cO;rw[hk];by_cases i:cJ nv.kind
    ·rw[if_pos i,if_pos i,U4];rfl
    ·rw[if_neg i,if_neg i];rcases X with h0|h0
     ·subst h0;rfl
     ·exact absurd h0 i
   have E: ¬(t=0∨cJ nv.kind)→cO nv.nd ((bV ss).take (t+1))=cO nv.nd ((bV ss).take t):=fun X=>by
    have i: ¬cJ nv.kind:=fun h=>X (.inr h);have C:1≤t:=by
     have: ¬t=0:=fun h=>X (.inl h);omega
    unfold cO;rw[hk,if_neg i,if_neg i,WO,WO,VY (by omega),VY C]
   have B:(¬cJ nv.kind→s.l=H.l)→ ¬cJ nv.kind→ ∀f∈(bV ss).take (t+1),f.length=((bV ss).getD 0 []).length:=fun he i f w=>by
    rw[Q] at w;rcases UX.1 w with w|w
    ·exact M i f w
    ·simp only[SH] at w;subst w;rw[Z,K,V];exact he i
   rw[et];refine aH (fun h0=> ?_) (fun h0=> ?_)
   ·have C:t=0:=by omega
    have ay:s=H:=by subst C;rw[es] at A;exact Option.some.inj A
    refine aB ea rfl (by omega) (ak (p:=s.p) (l:=s.l) (c:=s.c) (D S) ?_);refine aA (cs:=[.int .i64 ((s.l:Nat):Int)]) S fun aj g2 _ S=> ?_;dsimp only[Xi,Xj] at S;refine cK S 1 (ys:=az [(s.l:Int)]) rfl rfl (by decide) (by omega) (bI.of_at (S.at 2 rfl)) rfl cX fun p2 T Y g3 O S=> ?_;dsimp only[List.set] at S;have e:az (cO nv.nd ((bV ss).take t))++az [(s.l:Int)]=az (cO nv.nd ((bV ss).take (t+1))):=by rw[o (.inl C)];simp only[az,U4]
    rw[e] at S;exact⟨l-(t+1),by omega,t+1,p2,T,Y,rfl,by omega,rfl,by rw[o (.inl C),Rb,P];exact O.symm,by omega,j,B (fun _=>by rw[ay]),S.pw [0,1]⟩
   ·refine am (fun i=> ?_) (fun i=> ?_)
    ·refine aB ea rfl (by omega) (ak (p:=s.p) (l:=s.l) (c:=s.c) (D S) ?_);refine aA (cs:=[.int .i64 ((s.l:Nat):Int)]) S fun aj g2 _ S=> ?_;dsimp only[Xi,Xj] at S;refine cK S 1 (ys:=az [(s.l:Int)]) rfl rfl (by decide) (by omega) (bI.of_at (S.at 2 rfl)) rfl cX fun p2 T Y g3 O S=> ?_;dsimp only[List.set] at S;have e:az (cO nv.nd ((bV ss).take t))++az [(s.l:Int)]=az (cO nv.nd ((bV ss).take (t+1))):=by rw[o (.inr i)];simp only[az,U4]
     rw[e] at S;exact⟨l-(t+1),by omega,t+1,p2,T,Y,rfl,by omega,rfl,by rw[o (.inr i),Rb,P];exact O.symm,by omega,j,B (fun h=>absurd i h),S.pw [0,1]⟩
    ·refine aB ea rfl (by omega) (aB ea (k:=0) rfl (by omega) (ak (p:=s.p) (l:=s.l) (c:=s.c) (D S) ?_));refine ak (p:=H.p) (l:=H.l) (c:=H.c) (a1 S) ?_;refine bh (fun a9=>U S fun u=> ?_) (fun he=> ?_)
     ·have:=u.2.2.1 i s.xs ag;rw[Z] at this;omega
     ·have ab: ¬(t=0∨cJ nv.kind):=by
       rintro(h|h)
       ·exact h0 (by omega)
       ·exact i h
      exact⟨l-(t+1),by omega,t+1,q,m,d,rfl,by omega,rfl,by rw[E ab];exact P,by omega,j,B (fun _=>by omega),by rw[E ab];exact S⟩
 ·have a0:t=l:=by omega
  subst a0;rw[N6 (by omega)] at y M P S;refine am (fun ad=> ?_) (fun ad=>U S fun u=>by have:=u.2.2.2.1;omega);refine aN S 0 rfl (x:=nv.t) rfl ?_;refine(xE ax (S.r 2 _ rfl) ar aw ap (S.own 1 rfl).row P (by omega)).mono ?_;rintro _ g2 ⟨rfl,F⟩;refine⟨_,rfl,?_,(S.fra0 F).fra⟩;congr 1;rw[VQ,beq_iff_eq,decide_eq_true_iff];exact⟨fun h=>⟨by rw[an];exact X,y,M,by omega,h⟩,fun h=>h.2.2.2.2⟩
theorem PW {nv:Nv} (i:nv.ok) (B:nv.rows.P h) (x:nv.inn.l<2 ^ 62) (y:nv.weights.l<2 ^ 62) (w:nv.bias.l<2 ^ 62) {p:Option Addr} {l c:Nat} {ss:List Sl} (F:PV h p l ss) (J:l<2 ^ 40):
 au P uJ #[nv.v,.slice p l c] h fun v D=>v= .bool (decide (og nv.nd (bV ss)))∧cp no h D:=by
 refine DJ _ _ _ _ ?_;unfold Gq;have S:=(((aJ.start h no).read (row p (ks ss)) F.row).read (gm ss) F.rows).read nv.rows B;have d:=F.len;have q:(bV ss).length=l:=by rw[fq];exact d
 have I:nv.nd.kind=nv.kind:=rfl;have u:nv.nd.inn.length=nv.inn.l:=i.1.1;have z:nv.nd.size=nv.size:=rfl;refine aA (cs:=nv.cells) S fun b A _ S=> ?_;dsimp only[Xj,Xi] at S;refine ae (n:=nv.kind) (S.cell 0 rfl rfl) ?_;refine(gM nv.kind).mono ?_;rintro _ L ⟨rfl,r⟩;subst r;refine⟨_,rfl,ae (n:=nv.kind) (S.cell 0 rfl rfl) ?_⟩;refine(Gg nv.kind).mono ?_;rintro _ j ⟨rfl,t⟩;subst t;refine⟨_,rfl,?_⟩;have e: ¬wz nv.nd l→Value.bool false= .bool (decide (og nv.nd (bV ss)))∧cp no h j:=fun f=>⟨by rw[decide_eq_false (fun K=>f (by have:=K.1;rw[q] at this;exact this))],S.fra⟩;refine⟨fun s g=>s=((p,l,c),⟨b,0,none⟩,decide (cJ nv.kind),())∧wz nv.nd l∧aJ h no g [blk b nv.cells] [row p (ks ss),gm ss,nv.rows],?_,?_⟩
 ·rintro s g ⟨rfl,f,S⟩;exact Kf i x y w d F.ok J f S
 ·have m:aD j ⟨b,0,none⟩=some (.int .i64 nv.kind):=S.cell 0 rfl rfl;have o:aD j ⟨b,3,none⟩=some (.int .i64 nv.size):=S.cell 0 rfl rfl;have k:aD j ⟨b,1,none⟩=some (.slice nv.inn.p nv.inn.l nv.inn.c):=S.cell 0 rfl rfl;have a:wz nv.nd l→(((p,l,c),⟨b,0,none⟩,decide (cJ nv.kind),()):(Option Addr×Nat×Nat)×Addr×Bool×Unit)=((p,l,c),⟨b,0,none⟩,decide (cJ nv.kind),())∧wz nv.nd l∧aJ h no j [blk b nv.cells] [row p (ks ss),gm ss,nv.rows]:=fun f=>⟨rfl,f,S⟩;have C:wz nv.nd l↔(dW nv.kind→(l:Int)=nv.size)∧(nv.kind=5→1≤l)∧(cJ nv.kind→l=nv.inn.l)∧(¬dW nv.kind→ ¬cJ nv.kind→nv.kind≠5→l=1):=by
   unfold wz;rw[I,u,z]
  rw[C] at e;replace a:=fun f=>a (C.2 f)
  repeat' (first
   |refine ae m ?_
   |refine ae o ?_
   |refine ak k ?_
   |refine bG ?_
   |refine am (fun _=> ?_) (fun _=> ?_)
   |refine aH (fun _=> ?_) (fun _=> ?_)
   |refine bh (fun _=> ?_) (fun _=> ?_)
   |(refine e ?_;clear e a;rintro⟨A,E,G,H⟩;clear S F B i m o k
     first
      |(have:=A (by assumption);omega)
      |(have:=E (by assumption);omega)
      |(have:=G (by assumption);omega)
      |(have:=H (by assumption) (by assumption) (by assumption);omega))
   |(refine a ⟨fun _=> ?_,fun _=> ?_,fun _=> ?_,fun _ _ _=> ?_⟩<;>first|contradiction|omega))
end
end
section
def wk (n:Nd) (a:List (List Int)) (m w c j:Nat) (x:Int):Nat→Int
 |0=>x
 |k+1=>if n.kind≠2 then dV (wk n a m w c j x k+dV (n.weights.getD ((c*m+j)*w+k) 0*(a.getD j []).getD k 0))
  else if(k:Int)=(c:Int) then dV (wk n a m w c j x k+dV (n.weights.getD (c*m+j) 0*(a.getD j []).getD k 0)) else wk n a m w c j x k
def wj (n:Nd) (a:List (List Int)) (m w c:Nat):Nat→Int
 |0=>n.bias.getD c 0
 |j+1=>wk n a m w c j (wj n a m w c j) w
def cU (n:Nd) (a:List (List Int)):List Int:=(List.range n.bias.length).map fun c=>fA n (wj n a a.length (a.getD 0 []).length c a.length)
def kH (n:Nd) (l:List Int):Int:=
 if n.kind=3 then l.getD (pH l) 0 else if n.kind=5 then l.getD (pH l) 0 else if n.kind=4 then Di l else if n.kind=12 then Di l else if n.kind=7 then tx l
 else if n.kind=9 then fz (l.getD 0 0) n.low n.high else if n.kind=10 then jc (l.getD 0 0) n.mult n.shift else l.getD 0 0
def Hx (n:Nd) (a:List (List Int)):List Int:=(List.range (a.getD 0 []).length).map fun k=>kH n (a.map fun f=>f.getD k 0)
def dv (n:Nd) (a:List (List Int)):List Int:=
 if og n a then if gY n.kind then cU n a else if n.kind=8 then a.flatten else if n.kind=11 then[(pH (a.getD 0 []):Int)] else Hx n a else[]
theorem PX {n:Nd} {b:List (List Int)} (h:og n b) (j:n.kind≠8): ∀f∈b,f.length=(b.getD 0 []).length:=by
 by_cases e:cJ n.kind
 ·have i:n.kind=7:=by rcases e with h|h;exact h;exact absurd h j
  obtain⟨_,_,_,d,g⟩:=h;have m:cO n b=b.map fun f=>(f.length:Int):=by unfold cO;rw[if_pos e]
  rw[m] at g;have c:=(dc g).2.2.2.2.2.2.2.2.2.2.1 i;have k:(b.map fun f=>(f.length:Int)).getD 0 0=((b.getD 0 []).length:Int):=by
   cases b with
   |nil=>simp at d
   |cons a r=>rfl
  intro f l;have:=c (f.length:Int) (U5.2 ⟨f,l,rfl⟩);rw[k] at this;omega
 ·exact h.2.2.1 e
theorem PY {n:Nd} {b:List (List Int)} (h:og n b):(1≤(b.getD 0 []).length∧(b.getD 0 []).length≤16)∧b.length≤2 ^ 40∨(1≤(b.getD 0 []).length∧(b.getD 0 []).length≤16):=by
 obtain⟨_,_,_,c,d⟩:=h;have e:=(dc d).1;right;have f:((b.getD 0 []).length:Int)∈cO n b:=by
  cases b with
  |nil=>simp at c
  |cons a r=>
   unfold cO;split
   ·simp
   ·simp
 have:=e _ f;omega
theorem Bl {n:Nd} {a:List (List Int)} (h:og n a):1≤(a.getD 0 []).length∧(a.getD 0 []).length≤16:=by
 rcases PY h with h|h
 ·exact h.1
 ·exact h
theorem Kg {n:Nd} {c:List (List Int)} (h:og n c) (j:gY n.kind):(n.kind≠2→n.weights.length=n.bias.length*c.length*(c.getD 0 []).length)∧(n.kind=2→n.weights.length=n.bias.length*c.length∧n.bias.length=(c.getD 0 []).length):=by
 have l:=Bl h;obtain⟨e,_,_,g,i⟩:=h;have p: ¬cJ n.kind:=by rintro(h|h)<;>rcases j with o|o|o<;>omega
 have m:cO n c=[((c.getD 0 []).length:Int)]:=by
  unfold cO;rw[if_neg p];cases c with
  |nil=>simp at g
  |cons a r=>rfl
 rw[m] at i;have t:=(dc i).2.2.2.2.2.2.2.2.2.1.2.2.2.1 j;have u:=(dc i).2.2.2.2.2.2.2.2.2.1.2.2.1;obtain⟨b,d,_⟩:=t;obtain⟨w,s⟩: ∃w,(c.getD 0 []).length=w:=⟨_,rfl⟩;rw[s] at b d l ⊢;have q:([(w:Int)]:List Int).getD 0 0=(w:Int):=rfl;rw[q] at b d;unfold Nd.wcount at b;rcases j with k|k|k
 ·have f:=e.1 (.inl (.inl k));rw[if_pos k] at b;rw[if_neg (by omega)] at d;refine⟨fun _=> ?_,fun h=>by omega⟩;rw[←d,←f] at b;exact_mod_cast b
 ·have f:=e.1 (.inl (.inr (.inl k)));rw[if_neg (by omega),if_pos k] at b;rw[if_pos k] at d;refine⟨fun h=>absurd k h,fun _=> ?_⟩;rw[←d,←f] at b;exact⟨by exact_mod_cast b,by omega⟩
 ·have f:=e.2.2.2 (by rintro(h|h);rcases h with h|h|h|h<;>omega;omega) p (by omega);rw[if_neg (by omega),if_neg (by omega)] at b;rw[if_neg (by omega)] at d;refine⟨fun _=> ?_,fun h=>by omega⟩;rw[f,US];rw[←d] at b;exact_mod_cast b
theorem SE {c B j m k w:Nat} (b:c<B) (d:j<m) (e:k<w):c*m+j<B*m∧(c*m+j)*w+k<B*m*w:=by
 have a:c*m+j<B*m:=by
  have:(c+1)*m≤B*m:=Vn m b;rw[Vt,WE] at this;omega
 refine⟨a,?_⟩;have:(c*m+j+1)*w≤B*m*w:=Vn w a;rw[Vt (c*m+j) 1 w,WE] at this;omega
section
variable {h:af}
theorem Ix {nv:Nv} (A:nv.ok) (hr:nv.rows.P h) (a7:nv.weights.l<2 ^ 40) (a5:nv.bias.l<2 ^ 40) {p:Option Addr} {l c:Nat} {ss:List Sl} (F:PV h p l ss) (hl:l<2 ^ 40) (hm:og nv.nd (bV ss)) (hw:gY nv.kind):
 au P fU #[nv.v,.slice p l c] h fun v h'=> ∃(q:Option Addr) (m d:Nat),v= .slice q m d∧m=(cU nv.nd (bV ss)).length∧aJ h no h' [own 1 q m d (az (cU nv.nd (bV ss)))] []:=by
 refine xN _ _ _ _ ?_;unfold wS;have S:=(((aJ.start h no).read (row p (ks ss)) F.row).read (gm ss) F.rows).read nv.rows hr;have U:=F.len;have R:(bV ss).length=l:=by rw[fq];exact U
 have ay:=hm.2.2.2.1;have Q:=PX hm (by rcases hw with h|h|h<;>(have:nv.nd.kind=nv.kind:=rfl)<;>omega);have w:=Kg hm hw;have ao:=Bl hm;obtain⟨b,E⟩: ∃s,ss[0]? =some s:=⟨_,aO (by omega)⟩;have Z:=F.ok b (UR E);have i:b.xs.length=b.l:=Z.1.1;have H:(bV ss).getD 0 []=b.xs:=by rw[UV,gn E];rfl
 rw[H,i] at Q ao;rw[H,i,R] at w;have wl:nv.nd.weights.length=nv.weights.l:=A.2.1.1;have bl:nv.nd.bias.length=nv.bias.l:=A.2.2.1;have a1:nv.bias.xs.length=nv.bias.l:=A.2.2.1;have ab:nv.weights.xs.length=nv.weights.l:=A.2.1.1;rw[wl,bl] at w;have hk:nv.nd.kind=nv.kind:=rfl;rw[hk] at w;have eW:cU nv.nd (bV ss)=(List.range nv.bias.l).map fun c=>fA nv.nd (wj nv.nd (bV ss) l b.l c l):=by unfold cU;rw[H,i,R,bl]
 rw[eW];refine aA (cs:=nv.cells) S fun K h1 _ S=> ?_;dsimp only[Xj,Xi] at S;obtain⟨a,ea⟩:=(S.row 0 rfl).some_of (by rw[dL];omega);have Y: ∀{g:af} {W:List aY} {t:Nat} {s:Sl},aJ h no g W [row p (ks ss),gm ss,nv.rows]→ss[t]? =some s→aD g (a.add t)=some s.v:=fun S e=>by
  have:=S.row 0 rfl;rw[ea] at this;exact this.cell (jJ e)
 refine aB ea (k:=0) rfl (by omega) ?_;refine ak (p:=b.p) (l:=b.l) (c:=b.c) (Y S E) ?_;replace S:=S.nil 1;dsimp only[Xj,Xi] at S
 refine aP (fun D s g=> ∃(t:Nat) (q:Option Addr) (m d:Nat),s=((p,l,c),⟨K,0,none⟩,(b.l:Int),(q,m,d),(t:Int),())∧t≤nv.bias.l∧D=nv.bias.l-t∧m=t∧
  aJ h no g [blk K nv.cells,own 1 q m d (az ((List.range t).map fun c=>fA nv.nd (wj nv.nd (bV ss) l b.l c l)))] [row p (ks ss),gm ss,nv.rows]) nv.bias.l ⟨0,none,0,0,rfl,by omega,rfl,rfl,S⟩ ?_
 clear S;rintro D s g ⟨t,q,m,d,rfl,ht,rfl,rfl,S⟩;unfold pV;simp only[aQ,SI];refine ak (p:=nv.bias.p) (l:=nv.bias.l) (c:=nv.bias.c) (S.cell 0 rfl rfl) ?_;refine am (fun a6=> ?_) (fun a3=> ?_)
 ·have V:m<nv.bias.xs.length:=by omega
  refine ak (p:=nv.bias.p) (l:=nv.bias.l) (c:=nv.bias.c) (S.cell 0 rfl rfl) ?_;have br:bI g nv.bias.p (az nv.bias.xs):=S.r 2 _ rfl nv.bias.row (by simp);obtain⟨ba,N⟩:=br.some_of (by rw[av];omega);rw[N] at br;refine aB N rfl (by omega) ?_;simp only[oe,US];refine ae (n:=wj nv.nd (bV ss) l b.l m 0) (br.cell (aI (by
   rw[aO V];congr 1;exact(cH V).symm))) ?_
  refine aP (fun D s g=> ∃j:Nat,s=((p,l,c),⟨K,0,none⟩,(b.l:Int),(q,m,d),(m:Int),wj nv.nd (bV ss) l b.l m j,(j:Int),())∧j≤l∧D=l-j∧
   aJ h no g [blk K nv.cells,own 1 q m d (az ((List.range m).map fun c=>fA nv.nd (wj nv.nd (bV ss) l b.l c l)))] [row p (ks ss),gm ss,nv.rows]) l ⟨0,rfl,by omega,rfl,S⟩ ?_
  clear S br;rintro D s g ⟨j,rfl,hj,rfl,S⟩;unfold pU;dsimp only;refine am (fun aw=> ?_) (fun ap=> ?_)
  ·obtain⟨s,es⟩: ∃s,ss[j]? =some s:=⟨_,aO (by omega)⟩;have u:=UR es;have aa:s.xs.length=s.l:=(F.ok s u).1.1;have a8:s.l=b.l:=by rw[←aa];exact Q s.xs (U2 u)
   have ag:(bV ss).getD j []=s.xs:=by rw[UV,gn es];rfl
   obtain⟨y,O⟩: ∃y,wj nv.nd (bV ss) l b.l m j=y:=⟨_,rfl⟩;have ad:wj nv.nd (bV ss) l b.l m (j+1)=wk nv.nd (bV ss) l b.l m j y b.l:=by rw[←O];rfl
   rw[O]
   refine aP (fun D z g=> ∃k:Nat,z=((p,l,c),⟨K,0,none⟩,(b.l:Int),(q,m,d),(m:Int),wk nv.nd (bV ss) l b.l m j y k,(j:Int),(k:Int),())∧k≤b.l∧D=b.l-k∧
    aJ h no g [blk K nv.cells,own 1 q m d (az ((List.range m).map fun c=>fA nv.nd (wj nv.nd (bV ss) l b.l c l)))] [row p (ks ss),gm ss,nv.rows]) b.l ⟨0,rfl,by omega,rfl,S⟩ ?_
   clear S;rintro D z g ⟨k,rfl,a4,rfl,S⟩;unfold oB;simp only[aQ,SI];refine am (fun ax=> ?_) (fun ar=> ?_)
   ·have J:k<s.xs.length:=by omega
    have C:=SE (show m<nv.bias.l by omega) (show j<l by omega) (show k<b.l by omega);have ek:IntKind.wrap .i64 ((k:Int)+1)=((k+1:Nat):Int):=by rw[al (by omega)];rfl
    have X:aD g (a.add j)=some s.v:=Y S es;have sr:bI g s.p (az s.xs):=S.r 1 _ rfl _ (U2 u);obtain⟨sa,G⟩:=sr.some_of (by rw[av];omega);rw[G] at sr;have wr:bI g nv.weights.p (az nv.weights.xs):=S.r 2 _ rfl nv.weights.row (by simp);have T:(((bV ss).getD j []).getD k 0)=s.xs[k]:=by rw[ag];exact cH J
    refine ae (n:=nv.kind) (S.cell 0 rfl rfl) (bh (fun L=> ?_) (fun L=> ?_))
    ·have B:=w.1 L;have f:(m*l+j)*b.l+k<nv.weights.xs.length:=by rw[ab,B];exact C.2
     have a2:nv.bias.l*l≤nv.weights.l:=by rw[B];exact Nat.le_mul_of_pos_right _ (by omega)
     have e1:IntKind.wrap .i64 ((m:Int)*(l:Int))=((m*l:Nat):Int):=by
      have:(m:Int)*(l:Int)=((m*l:Nat):Int):=by push_cast;rfl
      rw[this,al (by omega)]
     have e2:IntKind.wrap .i64 (((m*l:Nat):Int)+(j:Int))=((m*l+j:Nat):Int):=by rw[al (by omega)];rfl
     have e3:IntKind.wrap .i64 (((m*l+j:Nat):Int)*(b.l:Int))=(((m*l+j)*b.l:Nat):Int):=by
      have:((m*l+j:Nat):Int)*(b.l:Int)=(((m*l+j)*b.l:Nat):Int):=by push_cast;rfl
      rw[this,al (by omega)]
     have e4:IntKind.wrap .i64 ((((m*l+j)*b.l:Nat):Int)+(k:Int))=(((m*l+j)*b.l+k:Nat):Int):=by rw[al (by omega)];rfl
     rw[e1,e2,e3,e4];refine aB ea rfl (by omega) (ak (p:=nv.weights.p) (l:=nv.weights.l) (c:=nv.weights.c) (S.cell 0 rfl rfl) ?_);obtain⟨wa,o⟩:=wr.some_of (by rw[av];omega);rw[o] at wr;refine aB o rfl (by omega) ?_;simp only[oe,US];refine ae (n:=nv.weights.xs[(m*l+j)*b.l+k]) (wr.cell (aI (aO f))) ?_;refine ak (p:=s.p) (l:=s.l) (c:=s.c) X (aB G rfl (by omega) ?_);refine ae (n:=s.xs[k]) (sr.cell (aI (aO J))) ?_;rw[ek];refine⟨b.l-(k+1),by omega,k+1,?_,by omega,rfl,S⟩;have M:wk nv.nd (bV ss) l b.l m j y (k+1)=IntKind.wrap .i64 (wk nv.nd (bV ss) l b.l m j y k+IntKind.wrap .i64 (nv.weights.xs[(m*l+j)*b.l+k]*s.xs[k])):=by
      conv=>lhs;unfold wk
      rw[if_pos (show nv.nd.kind≠2 from L),T];have:nv.nd.weights.getD ((m*l+j)*b.l+k) 0=nv.weights.xs[(m*l+j)*b.l+k]:=cH f;rw[this]
     rw[M]
    ·have B:=w.2 L;have f:m*l+j<nv.weights.xs.length:=by rw[ab,B.1];exact C.1
     refine aH (fun I=> ?_) (fun I=> ?_)
     ·have e1:IntKind.wrap .i64 ((m:Int)*(l:Int))=((m*l:Nat):Int):=by
       have:(m:Int)*(l:Int)=((m*l:Nat):Int):=by push_cast;rfl
       rw[this,al (by omega)]
      have e2:IntKind.wrap .i64 (((m*l:Nat):Int)+(j:Int))=((m*l+j:Nat):Int):=by rw[al (by omega)];rfl
      rw[e1,e2];refine aB ea rfl (by omega) (ak (p:=nv.weights.p) (l:=nv.weights.l) (c:=nv.weights.c) (S.cell 0 rfl rfl) ?_);obtain⟨wa,o⟩:=wr.some_of (by rw[av];omega);rw[o] at wr;refine aB o rfl (by omega) ?_;simp only[oe,US];refine ae (n:=nv.weights.xs[m*l+j]) (wr.cell (aI (aO f))) ?_;refine ak (p:=s.p) (l:=s.l) (c:=s.c) X (aB G rfl (by omega) ?_);refine ae (n:=s.xs[k]) (sr.cell (aI (aO J))) ?_;rw[ek];refine⟨b.l-(k+1),by omega,k+1,?_,by omega,rfl,S⟩;have M:wk nv.nd (bV ss) l b.l m j y (k+1)=IntKind.wrap .i64 (wk nv.nd (bV ss) l b.l m j y k+IntKind.wrap .i64 (nv.weights.xs[m*l+j]*s.xs[k])):=by
       conv=>lhs;unfold wk
       rw[if_neg (show ¬nv.nd.kind≠2 from fun h=>h L),if_pos I,T];have:nv.nd.weights.getD (m*l+j) 0=nv.weights.xs[m*l+j]:=cH f;rw[this]
      rw[M]
     ·rw[ek];refine⟨b.l-(k+1),by omega,k+1,?_,by omega,rfl,S⟩;have M:wk nv.nd (bV ss) l b.l m j y (k+1)=wk nv.nd (bV ss) l b.l m j y k:=by
       conv=>lhs;unfold wk
       rw[if_neg (show ¬nv.nd.kind≠2 from fun h=>h L),if_neg I]
      rw[M]
   ·have aj:k=b.l:=by omega
    subst aj;rw[al (n:=(j:Int)+1) (by omega),←ad];exact⟨l-(j+1),by omega,j+1,rfl,by omega,rfl,S⟩
  ·have ai:j=l:=by omega
   subst ai;refine aN S 0 rfl (x:=nv.t) rfl ?_;refine(NU nv _).mono ?_;rintro _ g2 ⟨rfl,Fr⟩;replace S:=S.fra0 Fr;refine⟨_,rfl,?_⟩;refine aA (cs:=[.int .i64 (fA nv.nd (wj nv.nd (bV ss) j b.l m j))]) S fun a0 g3 _ S=> ?_;dsimp only[Xi,Xj] at S;refine cK S 1 (ys:=az [fA nv.nd (wj nv.nd (bV ss) j b.l m j)]) rfl rfl (by decide) (by omega) (bI.of_at (S.at 2 rfl)) rfl cX fun p2 l2 c2 g4 an S=> ?_;dsimp only[List.set] at S;have e:az ((List.range m).map fun c=>fA nv.nd (wj nv.nd (bV ss) j b.l c j))++az [fA nv.nd (wj nv.nd (bV ss) j b.l m j)]=az ((List.range (m+1)).map fun c=>fA nv.nd (wj nv.nd (bV ss) j b.l c j)):=by
    rw[Wy,U4];simp only[az,U4,Vg,Vz]
   rw[e] at S;rw[al (n:=(m:Int)+1) (by omega)];exact⟨nv.bias.l-(m+1),by omega,m+1,p2,l2,c2,rfl,by omega,rfl,an,S.pw [0,1]⟩
 ·have:m=nv.bias.l:=by omega
  subst this;exact⟨q,nv.bias.l,d,rfl,by simp,yu (S.pw [1])⟩
end
end
section
def N8 (xs:List Int) (h:af) (v:Value) (a:af):Prop:= ∃s:Sl,v=s.v∧s.ok∧s.l<2 ^ 40∧s.xs=xs∧aJ h no a [s.row] []
theorem N8.of_own {h e:af} {q:Option Addr} {m d:Nat} {xs:List Int} (S:aJ h no e [own 1 q m d (az xs)] []) (i:xs.length=m) (c:m<2 ^ 40):N8 xs h (.slice q m d) e:=by
 have g:=(S.own 0 rfl).2.1;exact⟨⟨q,m,d,xs⟩,rfl,⟨i,g⟩,c,rfl,S.turn 0 rfl _ (fun o=>qB.row o) fun b ⟨_,a,f,c⟩=>⟨a,f,c⟩⟩
theorem N8.nil {h a:af} {W R:List aY} (S:aJ h no a W R):N8 [] h (.slice none 0 0) a:=by
 refine N8.of_own (m:=0) ?_ rfl (by decide);have:=(yu (S.pw [])).nil 1;exact this
section
variable {h:af}
theorem yC {nv:Nv} (L:nv.ok) (hr:nv.rows.P h) (a7:nv.inn.l<2 ^ 62) (a9:nv.weights.l<2 ^ 40) (a6:nv.bias.l<2 ^ 40) {p:Option Addr} {l c:Nat} {ss:List Sl} (F:PV h p l ss) (Q:l<2 ^ 40):
 au P jt #[nv.v,.slice p l c] h (N8 (dv nv.nd (bV ss)) h):=by
 refine AC _ _ _ _ ?_;unfold BE;have S:=(((aJ.start h no).read (row p (ks ss)) F.row).read (gm ss) F.rows).read nv.rows hr;have R:=F.len;have an:(bV ss).length=l:=by rw[fq];exact R
 have X: ∀{g:af} {W:List aY},aJ h no g W [row p (ks ss),gm ss,nv.rows]→PV g p l ss:=fun S=>⟨S.row 0 rfl,S.r 1 _ rfl,R,F.ok⟩;have U: ∀{g:af} {W:List aY},aJ h no g W [row p (ks ss),gm ss,nv.rows]→nv.rows.P g:=fun S=>S.r 2 _ rfl;refine aA (cs:=nv.cells) S fun w h1 _ S=> ?_;dsimp only[Xj,Xi] at S;refine aN S 0 rfl (x:=nv.t) rfl ?_;refine(PW L (U S) a7 (by omega) (by omega) (X S) Q).mono ?_;rintro _ h4 ⟨rfl,Fr⟩;replace S:=S.fra0 Fr;refine⟨_,rfl,bG (am (fun C=> ?_) (fun C=>by
  have e:dv nv.nd (bV ss)=[]:=by unfold dv;rw[if_neg C]
  rw[e];exact N8.nil S))⟩
 have hk:nv.nd.kind=nv.kind:=rfl;have bw:=C.2.2.2.1;have bg:=Bl C;obtain⟨i,J⟩: ∃s,ss[0]? =some s:=⟨_,aO (by omega)⟩;have E:=UR J;have aw:=F.ok i E;have o:i.xs.length=i.l:=aw.1.1;have K:(bV ss).getD 0 []=i.xs:=by rw[UV,gn J];rfl
 rw[K,o] at bg;have H:dv nv.nd (bV ss)=if gY nv.kind then cU nv.nd (bV ss) else if nv.kind=8 then(bV ss).flatten else if nv.kind=11 then[(pH i.xs:Int)] else Hx nv.nd (bV ss):=by
  unfold dv;rw[if_pos C,K,hk]
 have G:gY nv.kind→ ∀{g:af},aJ h no g [blk w nv.cells] [row p (ks ss),gm ss,nv.rows]→aT cS g ⟨w,0,none⟩ fun br=>bt P fU #[(bB cS br),(.slice p l c)] g fun bq bm ay a1=>N8 (dv nv.nd (bV ss)) h (.slice bq bm ay) a1:=by
  intro hw g S;refine aN S 0 rfl (x:=nv.t) rfl ?_;refine(Ix L (U S) a9 a6 (X S) Q C hw).mono ?_;rintro _ g2 ⟨q,m,d,rfl,ba,S1⟩;refine⟨_,_,_,rfl,?_⟩;rw[H,if_pos hw];replace S:=S.add S1 fun _ _ h=>h;dsimp only[Xi,Xj] at S;have b0:(cU nv.nd (bV ss)).length=nv.bias.l:=by
   have:nv.nd.bias.length=nv.bias.l:=L.2.2.1;unfold cU;rw[UT,V2,this]
  exact N8.of_own (yu (S.pw [1])) ba.symm (by omega)
 refine⟨fun s g=>s=((p,l,c),⟨w,0,none⟩,(none,0,0),())∧ ¬gY nv.kind∧nv.kind≠8∧nv.kind≠11∧aJ h no g [blk w nv.cells] [row p (ks ss),gm ss,nv.rows],?_,?_⟩
 ·clear S;rintro s g ⟨rfl,nw,n8,bn,S⟩;rw[if_neg nw,if_neg n8,if_neg bn] at H;rw[H];have aj:=PX C n8;rw[K,o] at aj;have a5: ∀s∈ss,s.l=i.l:=fun s Y=>by
   have h1:=aj s.xs (U2 Y);have h2:=(F.ok s Y).1.1;omega
  unfold sS;have eE:Hx nv.nd (bV ss)=(List.range i.l).map fun k=>kH nv.nd ((bV ss).map fun f=>f.getD k 0):=by unfold Hx;rw[K,o]
  rw[eE];replace S:=S.nil 1;dsimp only[Xj,Xi] at S
  refine aP (fun mm s g=> ∃(t:Nat) (q:Option Addr) (m d:Nat),s=((p,l,c),⟨w,0,none⟩,(q,m,d),(t:Int),())∧t≤i.l∧mm=i.l-t∧m=t∧
   aJ h no g [blk w nv.cells,own 1 q m d (az ((List.range t).map fun k=>kH nv.nd ((bV ss).map fun f=>f.getD k 0)))] [row p (ks ss),gm ss,nv.rows]) i.l ⟨0,none,0,0,rfl,by omega,rfl,rfl,S⟩ ?_
  clear S;rintro mm s g ⟨t,q,m,d,rfl,ht,rfl,rfl,S⟩;unfold sR;simp only[aQ,SI];obtain⟨a,ea⟩:=(S.row 0 rfl).some_of (by rw[dL];omega);have ab:aD g (a.add 0)=some i.v:=by
   have:=S.row 0 rfl;rw[ea] at this;exact this.cell (jJ J)
  refine aB ea (k:=0) rfl (by omega) (ak (p:=i.p) (l:=i.l) (c:=i.c) ab ?_);refine am (fun a8=> ?_) (fun a4=> ?_)
  ·have bb:m<i.l:=by omega
   refine(Ke (X S) Q (k:=m) (fun s Y=>by rw[a5 s Y];exact bb)).mono ?_;rintro _ g2 ⟨q2,d2,rfl,S1⟩;replace S:=S.add S1 fun _ _ h=>h;dsimp only[Xi,Xj] at S;refine⟨_,_,_,rfl,?_⟩;obtain⟨b,z⟩: ∃b,((bV ss).map fun f=>f.getD m 0)=b:=⟨_,rfl⟩;rw[z] at S;have B:b.length=l:=by rw[←z,UT];exact an
   have a2:0<b.length:=by omega
   have V: ∀{g:af} {W:List aY} {RR:List aY},aJ h no g W RR→W[2]? =some (own 1 q2 l d2 (az b))→bI g q2 (az b):=fun S e=>(S.own 2 e).row;obtain⟨ca,I⟩:=(V S rfl).some_of (by rw[av];omega);refine aB I (k:=0) rfl (by omega) ?_;have ad: ∀{k:Nat},k<b.length→aD g2 (ca.add k)=some (.int .i64 (b.getD k 0)):=fun hk=>by
    have:=V S rfl;rw[I] at this;exact this.cell (aI (by rw[aO hk,cH hk]))
   have bO:(0:Int).toNat=0:=rfl;refine ae (n:=b.getD 0 0) (by have:=ad (k:=0) a2;simpa using this) ?_
   have put: ∀{A:af} {x:Int},x=kH nv.nd b→aJ h no A [blk w nv.cells,own 1 q m d (az ((List.range m).map fun k=>kH nv.nd ((bV ss).map fun f=>f.getD k 0))),own 1 q2 l d2 (az b)] [row p (ks ss),gm ss,nv.rows]→
    aR A (.cells #[(.int .i64 x)] 3 (0,0)) fun ag ai=>dx 3 1 8 (.int .i64 (0:Int)) q m d (some ⟨ag,0,none⟩) 1 ai fun bp bl ax a0=>
    ∃m',m'<i.l-m∧ ∃(t:Nat) (q:Option Addr) (m2 d:Nat),(((p,l,c),⟨w,0,none⟩,(bp,bl,ax),(IntKind.wrap .i64 ((m:Int)+(1:Int))),()):(Option Addr×Nat×Nat)×Addr×(Option Addr×Nat×Nat)×Int×Unit)=((p,l,c),⟨w,0,none⟩,(q,m2,d),(t:Int),())∧t≤i.l∧m'=i.l-t∧m2=t∧
     aJ h no a0 [blk w nv.cells,own 1 q m2 d (az ((List.range t).map fun k=>kH nv.nd ((bV ss).map fun f=>f.getD k 0)))] [row p (ks ss),gm ss,nv.rows]:=by
    intro A x hx S;subst hx;refine aA (cs:=[.int .i64 (kH nv.nd b)]) S fun ag ai _ S=> ?_;dsimp only[Xi,Xj] at S;refine cK S 1 (ys:=az [kH nv.nd b]) rfl rfl (by decide) (by omega) (bI.of_at (S.at 3 rfl)) rfl cX fun p2 l2 c2 g4 ao S=> ?_;dsimp only[List.set] at S;have e:az ((List.range m).map fun k=>kH nv.nd ((bV ss).map fun f=>f.getD k 0))++az [kH nv.nd b]=az ((List.range (m+1)).map fun k=>kH nv.nd ((bV ss).map fun f=>f.getD k 0)):=by
     rw[Wy,U4,←z];simp only[az,U4,Vg,Vz]
    rw[e] at S;rw[al (n:=(m:Int)+1) (by omega)];exact⟨i.l-(m+1),by omega,m+1,p2,l2,c2,rfl,by omega,rfl,ao,S.pw [0,1]⟩
   have N:aD g2 ⟨w,0,none⟩=some (.int .i64 nv.kind):=S.cell 0 rfl rfl
   have O:kH nv.nd b=if nv.kind=3 then b.getD (pH b) 0 else if nv.kind=5 then b.getD (pH b) 0 else if nv.kind=4 then Di b else if nv.kind=12 then Di b else if nv.kind=7 then tx b
    else if nv.kind=9 then fz (b.getD 0 0) nv.low nv.high else if nv.kind=10 then jc (b.getD 0 0) nv.mult nv.shift else b.getD 0 0:=rfl
   refine ae N (aH (fun M=> ?_) (fun M=> ?_))
   ·refine(Bk (V S rfl) B Q).mono ?_;rintro _ A ⟨rfl,j,u⟩;subst j;refine⟨_,rfl,?_⟩;have u:=u (by omega);refine aB I (k:=pH b) rfl u ?_;simp only[oe,US];refine ae (ad (by omega)) ?_;exact put (by rw[O,if_pos M]) S
   refine aH (fun T=> ?_) (fun T=> ?_)
   ·refine(Bk (V S rfl) B Q).mono ?_;rintro _ A ⟨rfl,j,u⟩;subst j;refine⟨_,rfl,?_⟩;have u:=u (by omega);refine aB I (k:=pH b) rfl u ?_;simp only[oe,US];refine ae (ad (by omega)) ?_;exact put (by rw[O,if_neg M,if_pos T]) S
   refine aH (fun k4=> ?_) (fun k4=> ?_)
   ·refine(Hw (V S rfl) B Q).mono ?_;rintro _ A ⟨rfl,F3⟩;exact⟨_,rfl,put (by rw[O,if_neg M,if_neg T,if_pos k4]) (S.fra0 F3)⟩
   refine aH (fun y=> ?_) (fun y=> ?_)
   ·refine(Hw (V S rfl) B Q).mono ?_;rintro _ A ⟨rfl,F3⟩;exact⟨_,rfl,put (by rw[O,if_neg M,if_neg T,if_neg k4,if_pos y]) (S.fra0 F3)⟩
   refine aH (fun k7=> ?_) (fun k7=> ?_)
   ·refine(PT (V S rfl) B Q).mono ?_;rintro _ A ⟨rfl,j⟩;subst j;exact⟨_,rfl,put (by rw[O,if_neg M,if_neg T,if_neg k4,if_neg y,if_pos k7]) S⟩
   refine aH (fun k9=> ?_) (fun k9=> ?_)
   ·refine ae (n:=nv.low) (S.cell 0 rfl rfl) (ae (n:=nv.high) (S.cell 0 rfl rfl) ?_);refine(sq _ _ _).mono ?_;rintro _ A ⟨rfl,j⟩;subst j;exact⟨_,rfl,put (by rw[O,if_neg M,if_neg T,if_neg k4,if_neg y,if_neg k7,if_pos k9]) S⟩
   refine aH (fun Z=> ?_) (fun Z=> ?_)
   ·refine ae (n:=nv.mult) (S.cell 0 rfl rfl) (ae (n:=nv.shift) (S.cell 0 rfl rfl) ?_);refine(FJ _ _ _).mono ?_;rintro _ A ⟨rfl,F3⟩;exact⟨_,rfl,put (by rw[O,if_neg M,if_neg T,if_neg k4,if_neg y,if_neg k7,if_neg k9,if_pos Z]) (S.fra0 F3)⟩
   ·exact put (by rw[O,if_neg M,if_neg T,if_neg k4,if_neg y,if_neg k7,if_neg k9,if_neg Z]) S
  ·have:m=i.l:=by omega
   subst this;exact N8.of_own (yu (S.pw [1])) (by simp) (by omega)
 ·have N:aD h4 ⟨w,0,none⟩=some (.int .i64 nv.kind):=S.cell 0 rfl rfl;refine ae N (aH (fun k1=>G (.inl k1) S) (fun k1=> ?_));refine aH (fun k2=>G (.inr (.inl k2)) S) (fun k2=> ?_);refine aH (fun k6=>G (.inr (.inr k6)) S) (fun k6=> ?_);have nw: ¬gY nv.kind:=by rintro(h|h|h);exact k1 h;exact k2 h;exact k6 h
  rw[if_neg nw] at H;refine aH (fun k8=> ?_) (fun k8=> ?_)
  ·rw[if_pos k8] at H;rw[H];replace S:=S.nil 1;dsimp only[Xj,Xi] at S;have hj:l=nv.inn.l∧l≤4:=by
    have h1:=C.1.2.2.1 (.inr k8);have h2:=(dc C.2.2.2.2).2.2.2.2.2.1 (.inr k8);have h3:=(dc C.2.2.2.2).2.2.1;have h4:nv.nd.inn.length=nv.inn.l:=L.1.1;rw[an] at h1;omega
   have bd: ∀s∈ss,s.l≤16:=fun s Y=>by
    have h1:=(dc C.2.2.2.2).1;have bk:cO nv.nd (bV ss)=(bV ss).map fun f=>(f.length:Int):=by unfold cO;rw[if_pos (.inr k8)]
    rw[bk] at h1;have h2:=h1 (s.xs.length:Int) (U5.2 ⟨s.xs,U2 Y,rfl⟩);have h3:=(F.ok s Y).1.1;omega
   refine aP (fun mm s g=> ∃(t:Nat) (q:Option Addr) (m d:Nat),s=((p,l,c),(q,m,d),(t:Int),())∧t≤l∧mm=l-t∧m=((bV ss).take t).flatten.length∧m≤t*16∧
    aJ h no g [blk w nv.cells,own 1 q m d (az ((bV ss).take t).flatten)] [row p (ks ss),gm ss,nv.rows]) l ⟨0,none,0,0,rfl,by omega,rfl,rfl,by omega,S⟩ ?_
   clear S N;rintro mm s g ⟨t,q,m,d,rfl,ht,rfl,ap,bs,S⟩;unfold sT;dsimp only;refine am (fun a8=> ?_) (fun a4=> ?_)
   ·obtain⟨s,es⟩: ∃s,ss[t]? =some s:=⟨_,aO (by omega)⟩;have D:=UR es;have bH:s.xs.length=s.l:=(F.ok s D).1.1;have bx:=bd s D;have ar:t<(bV ss).length:=by omega
    have a3:(bV ss)[t]=s.xs:=by
     have:=gn es;rw[aO ar] at this;exact Option.some.inj this
    have pr:=S.row 0 rfl;obtain⟨a,ea⟩:=pr.some_of (by rw[dL];omega);rw[ea] at pr;refine aB ea rfl (by omega) ?_;simp only[oe,US];refine ak (p:=s.p) (l:=s.l) (c:=s.c) (pr.cell (jJ es)) ?_;have sr:bI g s.p (az s.xs):=S.r 1 _ rfl _ (U2 D);refine cK S 1 (ys:=az s.xs) rfl rfl (by decide) (by omega) sr (by rw[av];omega) cX fun p2 l2 c2 g4 ao S=> ?_;dsimp only[List.set] at S;have e0:((bV ss).take (t+1)).flatten=((bV ss).take t).flatten++s.xs:=by rw[py ar,a3,List.flatten_append];simp
    have e:az ((bV ss).take t).flatten++az s.xs=az ((bV ss).take (t+1)).flatten:=by rw[e0];simp only[az,U4]
    rw[e] at S;rw[al (n:=(t:Int)+1) (by omega)];exact⟨l-(t+1),by omega,t+1,p2,l2,c2,rfl,by omega,rfl,by rw[e0,Rb];omega,by omega,S⟩
   ·have:t=l:=by omega
    subst this;rw[N6 (by omega)] at S ap;exact N8.of_own (yu (S.pw [1])) ap.symm (by omega)
  ·rw[if_neg k8] at H;refine aH (fun aa=> ?_) (fun aa=>⟨rfl,nw,k8,aa,S⟩);rw[if_pos aa] at H;rw[H];obtain⟨a,ea⟩:=(S.row 0 rfl).some_of (by rw[dL];omega);have ab:aD h4 (a.add 0)=some i.v:=by
    have:=S.row 0 rfl;rw[ea] at this;exact this.cell (jJ J)
   refine aB ea (k:=0) rfl (by omega) (ak (p:=i.p) (l:=i.l) (c:=i.c) ab ?_);have sr:bI h4 i.p (az i.xs):=S.r 1 _ rfl _ (U2 E);refine(Bk sr o (by omega)).mono ?_;rintro _ A ⟨rfl,j,_⟩;subst j;refine⟨_,rfl,?_⟩;refine aA (cs:=[.int .i64 ((pH i.xs:Nat):Int)]) S fun bL bS _ S=> ?_;dsimp only[Xi,Xj] at S;have S2:=S.toOwn 1 1 1 1 rfl (U3 _);dsimp only[List.set,List.take] at S2;exact N8.of_own (yu (S2.pw [1])) rfl (by decide)
end
end
end Go.Proofs.YtdhpmegbmjoekaaGreatDoor.G

