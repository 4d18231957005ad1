/- Contracts: packages sat and round. -/
import Derived.Test.YtdhpmegbmjoekaaGreatDoorCNum
namespace Go.Proofs.YtdhpmegbmjoekaaGreatDoor.G
open Go Go.Sh
set_option linter.unusedVariables false
set_option linter.unusedSimpArgs false
def qc (x n:Int):Int×Int:=if Int.tmod x n<0 then(fc (fc (Int.tdiv x n)-1),fc (Int.tmod x n+n)) else(fc (Int.tdiv x n),Int.tmod x n)
def PI (x n:Int):Int:=if n<1 then 0 else if(qc x n).2≥fc (n-(qc x n).2) then fc ((qc x n).1+1) else(qc x n).1
def JW (x s:Int):Int:=if s<0 then 0 else if s>62 then 0 else PI x (Hd .i64 1 (min s.toNat 64))
def gG (x m s:Int):Int:=
 if 0≤m∧m≤32767∧0≤s∧s≤30 then(if(Bw x m).2=true then iX (JW (Bw x m).1 s) else if x<0 then-2147483648 else 2147483647) else 0
def mM (n:Nd) (x:Int):Int:=
 let z:=if cS .i64 n.post 1≠0 then gG (iX x) n.mult n.shift else iX x
 if cS .i64 n.post 2≠0 then io z n.low n.high else z
section
variable {h:ae}
theorem PJ:gz (-9223372036854775808:Int) (min (IntKind.wrap .i64 ((64:Int)-32)).toNat 64)= -2147483648:=by decide+kernel
theorem Oi:F6 .i64 (-1) (gz (-9223372036854775808:Int) (min (IntKind.wrap .i64 ((64:Int)-32)).toNat 64))=2147483647:=by decide+kernel
theorem Oj:aq P qn #[.int .i64 32] h fun v h'=>v= .tuple #[.int .i64 (-2147483648),.int .i64 2147483647,.bool true]∧h'=h:=by
 refine Ek _ ?_
 unfold G8
 refine bQ (by decide) (bQ (by decide) ⟨by decide+kernel,?_⟩)
 rw[Oi,PJ]
 exact⟨rfl,rfl⟩
theorem so (x lo hi:Int):aq P gB #[.int .i64 x,.int .i64 lo,.int .i64 hi] h fun v h'=>v= .int .i64 (io x lo hi)∧h'=h:=by
 refine CI _ _ _ ?_
 unfold E0 io
 refine au (fun h1=>⟨by rw[if_pos h1],rfl⟩) (fun h1=>au (fun h2=>⟨by rw[if_neg h1,if_pos h2],rfl⟩) (fun h2=>⟨by rw[if_neg h1,if_neg h2],rfl⟩))
theorem IC (x:Int):aq P cW #[.int .i64 x,.int .i64 32] h fun v h'=>v= .int .i64 (iX x)∧h'=h:=by
 refine F0 _ _ ?_
 unfold Kc
 refine Oj.mono ?_
 rintro _ _ ⟨rfl,rfl⟩
 refine⟨_,_,_,rfl,bQ rfl ?_⟩
 refine(so _ _ _).mono ?_
 rintro _ _ ⟨rfl,rfl⟩
 exact⟨_,rfl,rfl,rfl⟩
theorem PK (a b:Int):aq P tU #[.int .i64 a,.int .i64 b] h fun v h'=>v= .tuple #[.int .i64 (Bw a b).1,.bool (Bw a b).2]∧h'=h:=by
 refine F3 _ _ ?_
 unfold Kd Bw
 refine aO (fun ha=>⟨by rw[if_pos ha],rfl⟩) (fun ha=> ?_)
 rw[if_neg ha]
 refine aO (fun hb=>⟨by rw[if_pos hb],rfl⟩) (fun hb=> ?_)
 rw[if_neg hb]
 refine⟨hb,bj (fun hq=> ?_) (fun hq=> ?_)⟩
 ·refine⟨?_,rfl⟩
  by_cases hm:(a= -1∧b= -9223372036854775808)∨(b= -1∧a= -9223372036854775808)
  ·rw[if_pos hm]
  ·rw[if_neg hm,if_pos hq]
 ·have nq: ¬IntKind.wrap .i64 (Int.tdiv (IntKind.wrap .i64 (a*b)) b)≠a:=fun h=>h hq
  have yes:((a= -1∧b= -9223372036854775808)∨(b= -1∧a= -9223372036854775808))→ ∀{q:ae},(Value.tuple #[.int .i64 0,.bool false]= .tuple #[.int .i64 (if(a= -1∧b= -9223372036854775808)∨(b= -1∧a= -9223372036854775808) then((0:Int),false) else if fc (Int.tdiv (fc (a*b)) b)≠a then(0,false) else(fc (a*b),true)).1,.bool (if(a= -1∧b= -9223372036854775808)∨(b= -1∧a= -9223372036854775808) then((0:Int),false) else if fc (Int.tdiv (fc (a*b)) b)≠a then(0,false) else(fc (a*b),true)).2])∧q=q:=fun h=>⟨by rw[if_pos h],rfl⟩
  have no:(¬((a= -1∧b= -9223372036854775808)∨(b= -1∧a= -9223372036854775808)))→ ∀{q:ae},(Value.tuple #[.int .i64 (fc (a*b)),.bool true]= .tuple #[.int .i64 (if(a= -1∧b= -9223372036854775808)∨(b= -1∧a= -9223372036854775808) then((0:Int),false) else if fc (Int.tdiv (fc (a*b)) b)≠a then(0,false) else(fc (a*b),true)).1,.bool (if(a= -1∧b= -9223372036854775808)∨(b= -1∧a= -9223372036854775808) then((0:Int),false) else if fc (Int.tdiv (fc (a*b)) b)≠a then(0,false) else(fc (a*b),true)).2])∧q=q:=fun h=>⟨by rw[if_neg h,if_neg nq],rfl⟩
  refine aO (fun h1=>aO (fun h2=>yes (by omega)) (fun h2=>aO (fun h3=>aO (fun h4=>yes (by omega)) (fun h4=>no (by omega))) (fun h3=>no (by omega)))) (fun h1=>aO (fun h3=>aO (fun h4=>yes (by omega)) (fun h4=>no (by omega))) (fun h3=>no (by omega)))
theorem Ml (x:Int) {n:Int} (hn:1≤n):aq P kN #[.int .i64 x,.int .i64 n] h fun v h'=>v= .tuple #[.int .i64 (qc x n).1,.int .i64 (qc x n).2]∧h'=h:=by
 refine yZ _ _ ?_
 unfold zR qc
 refine bQ (decide_eq_false (by omega)) ⟨by omega,by omega,au (fun h1=>⟨by rw[if_pos h1],rfl⟩) (fun h1=>⟨by rw[if_neg h1],rfl⟩)⟩
theorem PL (x:Int) {n:Int} (hn:1≤n):aq P nY #[.int .i64 x,.int .i64 n] h fun v h'=>v= .int .i64 (PI x n)∧cu no h h':=by
 refine CJ _ _ ?_
 unfold E1 PI
 have S:=aK.start h no
 rw[if_neg (by omega)]
 refine aC S (fun b1 _ _ S=> ?_)
 dsimp only[List.nil_append,List.cons_append] at S
 refine af (S.cell 0 rfl rfl) ?_
 refine(Ml x hn).mono ?_
 rintro _ _ ⟨rfl,rfl⟩
 refine⟨_,_,rfl,?_⟩
 refine aC S (fun b8 _ _ S=> ?_)
 dsimp only[List.nil_append,List.cons_append] at S
 refine aJ S 1 rfl (Nat.le_of_ble_eq_true rfl) (fun g3 _ S=> ?_)
 dsimp only[List.set] at S
 refine aq.mono (K:=fun v h'=>v= .bool (decide ((qc x n).2≥fc (n-(qc x n).2)))∧h'=g3) (za _ _ ?_) ?_
 ·unfold zS
  refine af (S.cell 0 rfl rfl) (au (fun h1=> ?_) (fun h1=>absurd hn (by omega)))
  refine af (S.cell 1 rfl rfl) (af (S.cell 0 rfl rfl) (af (S.cell 1 rfl rfl) ⟨rfl,rfl⟩))
 ·rintro _ _ ⟨rfl,rfl⟩
  refine⟨_,rfl,au (fun h1=>⟨by rw[if_pos h1],S.fra⟩) (fun h1=>⟨by rw[if_neg h1],S.fra⟩)⟩
theorem Ok: ∀n:Nat,n≤62→1≤Hd .i64 1 (min n 64):=by
 have: ∀n∈List.range 63,1≤Hd .i64 1 (min n 64):=by decide+kernel
 intro n hn
 exact this n (List.mem_range.2 (by omega))
theorem Ol (x s:Int):aq P iN #[.int .i64 x,.int .i64 s] h fun v h'=>v= .int .i64 (JW x s)∧cu no h h':=by
 refine A0 _ _ ?_
 unfold CK JW
 refine au (fun h1=>⟨by rw[if_pos h1],cu.refl _ _⟩) (fun h1=>au (fun h2=>⟨by rw[if_neg h1,if_pos h2],cu.refl _ _⟩) (fun h2=> ?_))
 rw[if_neg h1,if_neg h2]
 refine⟨by omega,?_⟩
 refine(PL x (Ok _ (by omega))).mono ?_
 rintro _ _ ⟨rfl,F⟩
 exact⟨_,rfl,rfl,F⟩
theorem Bv (x m s:Int):aq P hD #[.int .i64 x,.int .i64 m,.int .i64 s] h fun v h'=>v= .int .i64 (gG x m s)∧cu no h h':=by
 refine zb _ _ _ ?_
 unfold zU
 refine⟨fun t g=>t=(x,m,s,())∧cu no h g∧0≤m∧m≤32767∧0≤s∧s≤30,?_,?_⟩
 ·rintro t g ⟨rfl,F,hc⟩
  unfold tj gG
  rw[if_pos hc]
  refine(PK x m).mono ?_
  rintro _ g2 ⟨rfl,rfl⟩
  refine⟨_,_,rfl,?_⟩
  have good:(Bw x m).2=true→ ∀{Q:Int→ae→Prop},(∀g',cu no h g'→Q (iX (JW (Bw x m).1 s)) g')→aI P .i64 iN #[.int .i64 (Bw x m).1,.int .i64 s] g2 fun n h1=>aI P .i64 cW #[.int .i64 n,.int .i64 32] h1 fun n2 h2=>Q n2 h2:=by
   intro _ Q H
   refine(Ol _ s).mono ?_
   rintro _ _ ⟨rfl,F2⟩
   refine⟨_,rfl,?_⟩
   refine(IC _).mono ?_
   rintro _ _ ⟨rfl,rfl⟩
   exact⟨_,rfl,H _ (F.trans F2)⟩
  cases hb:(Bw x m).2 with
  |true=>
   rw[if_pos rfl]
   exact bQ rfl (bQ rfl (good hb fun g' F'=>⟨rfl,F'⟩))
  |false=>
   rw[if_neg (by decide)]
   exact cq rfl (au (fun h1=>⟨by rw[if_pos h1],F⟩) (fun h1=>cq rfl ⟨by rw[if_neg h1],F⟩))
 ·have zero: ¬(0≤m∧m≤32767∧0≤s∧s≤30)→Value.int .i64 0= .int .i64 (gG x m s)∧cu no h h:=fun hc=>⟨by unfold gG;rw[if_neg hc],cu.refl _ _⟩
  refine au (fun h1=>au (fun h2=>au (fun h3=>bN (au (fun h4=> ?_) (fun h4=>zero (by omega)))) (fun h3=>cq rfl (zero (by omega)))) (fun h2=>cq rfl (zero (by omega)))) (fun h1=>cq rfl (zero (by omega)))
  exact⟨rfl,cu.refl _ _,by omega,by omega,by omega,by omega⟩
theorem JX (nv:Nv) (x:Int):aq P j4 #[nv.v,.int .i64 x] h fun v h'=>v= .int .i64 (mM nv.nd x)∧cu no h h':=by
 refine A8 _ _ ?_
 unfold CM mM
 have S:=aK.start h no
 refine aC (cs:=nv.cells) S (fun b1 _ _ S=> ?_)
 dsimp only[List.nil_append,List.cons_append] at S
 refine(IC x).mono ?_
 rintro _ _ ⟨rfl,rfl⟩
 refine⟨_,rfl,af (n:=nv.post) (S.cell 0 rfl rfl) (bj (fun h1=> ?_) (fun h1=> ?_))⟩
 ·refine af (n:=nv.mult) (S.cell 0 rfl rfl) (af (n:=nv.shift) (S.cell 0 rfl rfl) ?_)
  refine(Bv _ _ _).mono ?_
  rintro _ _ ⟨rfl,F⟩
  replace S:=S.fra0 F
  refine⟨_,rfl,af (n:=nv.post) (S.cell 0 rfl rfl) (bj (fun h2=> ?_) (fun h2=> ?_))⟩
  ·refine af (n:=nv.low) (S.cell 0 rfl rfl) (af (n:=nv.high) (S.cell 0 rfl rfl) ?_)
   refine(so _ _ _).mono ?_
   rintro _ _ ⟨rfl,rfl⟩
   refine⟨_,rfl,?_,S.fra⟩
   rw[if_pos (show cS .i64 nv.nd.post 1≠0 from h1),if_pos (show cS .i64 nv.nd.post 2≠0 from h2)];rfl
  ·refine⟨?_,S.fra⟩
   rw[if_pos (show cS .i64 nv.nd.post 1≠0 from h1),if_neg (show ¬cS .i64 nv.nd.post 2≠0 from fun h=>h h2)];rfl
 ·refine af (n:=nv.post) (S.cell 0 rfl rfl) (bj (fun h2=> ?_) (fun h2=> ?_))
  ·refine af (n:=nv.low) (S.cell 0 rfl rfl) (af (n:=nv.high) (S.cell 0 rfl rfl) ?_)
   refine(so _ _ _).mono ?_
   rintro _ _ ⟨rfl,rfl⟩
   refine⟨_,rfl,?_,S.fra⟩
   rw[if_neg (show ¬cS .i64 nv.nd.post 1≠0 from fun h=>h h1),if_pos (show cS .i64 nv.nd.post 2≠0 from h2)];rfl
  ·refine⟨?_,S.fra⟩
   rw[if_neg (show ¬cS .i64 nv.nd.post 1≠0 from fun h=>h h1),if_neg (show ¬cS .i64 nv.nd.post 2≠0 from fun h=>h h2)]
theorem PM {T:Nat→Prop} {R:List bi} {bn bb:Nat} {n:Int} (S:aK h T h [blk bn [.int .i64 n],blk bb [.int .i64 32]] R) (x:Int):
 aq P nZ #[.int .i64 x,.pointer (some ⟨bn,0,none⟩),.pointer (some ⟨bb,0,none⟩)] h fun v h'=>v= .tuple #[]∧aK h T h' [blk bn [.int .i64 (iX (nM n x))],blk bb [.int .i64 32]] R:=by
 refine CO _ _ _ ?_
 unfold E2
 have last: ∀{y:Int} {g:ae},aK h T g [blk bn [.int .i64 y],blk bb [.int .i64 32]] R→y=nM n x→ah .i64 g ⟨bn,0,none⟩ fun n3=>ah .i64 g ⟨bb,0,none⟩ fun n4=>aI P .i64 cW #[.int .i64 n3,.int .i64 n4] g fun n6 h5=>bu h5 ⟨bn,0,none⟩ (.int .i64 n6) fun h7=>Value.tuple #[]= .tuple #[]∧aK h T h7 [blk bn [.int .i64 (iX (nM n x))],blk bb [.int .i64 32]] R:=by
  intro y g S e
  refine af (S.cell 0 rfl rfl) (af (S.cell 1 rfl rfl) ?_)
  refine(IC _).mono ?_
  rintro _ _ ⟨rfl,rfl⟩
  refine⟨_,rfl,?_⟩
  refine aJ S 0 rfl (Nat.le_of_ble_eq_true rfl) (fun _ _ S=> ?_)
  dsimp only[List.set] at S
  rw[e] at S
  exact⟨rfl,S⟩
 have put: ∀{y:Int},y=nM n x→bu h ⟨bn,0,none⟩ (.int .i64 y) fun h2=>ah .i64 h2 ⟨bn,0,none⟩ fun n3=>ah .i64 h2 ⟨bb,0,none⟩ fun n4=>aI P .i64 cW #[.int .i64 n3,.int .i64 n4] h2 fun n6 h5=>bu h5 ⟨bn,0,none⟩ (.int .i64 n6) fun h7=>Value.tuple #[]= .tuple #[]∧aK h T h7 [blk bn [.int .i64 (iX (nM n x))],blk bb [.int .i64 32]] R:=by
  intro y e
  refine aJ S 0 rfl (Nat.le_of_ble_eq_true rfl) (fun _ _ S=> ?_)
  dsimp only[List.set] at S
  exact last S e
 have ld:aD h ⟨bn,0,none⟩=some (.int .i64 n):=S.cell 0 rfl rfl
 have neg: ¬(x>0∧n>fc (9223372036854775807-x))→aL (decide (x<0)) (ah .i64 h ⟨bn,0,none⟩ fun n8=>aL (decide (n8<IntKind.wrap .i64 (-9223372036854775808-x))) (bu h ⟨bn,0,none⟩ (.int .i64 (-9223372036854775808)) fun h2=>ah .i64 h2 ⟨bn,0,none⟩ fun n3=>ah .i64 h2 ⟨bb,0,none⟩ fun n4=>aI P .i64 cW #[.int .i64 n3,.int .i64 n4] h2 fun n6 h5=>bu h5 ⟨bn,0,none⟩ (.int .i64 n6) fun h7=>Value.tuple #[]= .tuple #[]∧aK h T h7 [blk bn [.int .i64 (iX (nM n x))],blk bb [.int .i64 32]] R)
  (ah .i64 h ⟨bn,0,none⟩ fun n15=>bu h ⟨bn,0,none⟩ (.int .i64 (IntKind.wrap .i64 (n15+x))) fun h2=>ah .i64 h2 ⟨bn,0,none⟩ fun n3=>ah .i64 h2 ⟨bb,0,none⟩ fun n4=>aI P .i64 cW #[.int .i64 n3,.int .i64 n4] h2 fun n6 h5=>bu h5 ⟨bn,0,none⟩ (.int .i64 n6) fun h7=>Value.tuple #[]= .tuple #[]∧aK h T h7 [blk bn [.int .i64 (iX (nM n x))],blk bb [.int .i64 32]] R))
  (ah .i64 h ⟨bn,0,none⟩ fun n15=>bu h ⟨bn,0,none⟩ (.int .i64 (IntKind.wrap .i64 (n15+x))) fun h2=>ah .i64 h2 ⟨bn,0,none⟩ fun n3=>ah .i64 h2 ⟨bb,0,none⟩ fun n4=>aI P .i64 cW #[.int .i64 n3,.int .i64 n4] h2 fun n6 h5=>bu h5 ⟨bn,0,none⟩ (.int .i64 n6) fun h7=>Value.tuple #[]= .tuple #[]∧aK h T h7 [blk bn [.int .i64 (iX (nM n x))],blk bb [.int .i64 32]] R):=by
  intro h1
  refine au (fun h2=>af ld (au (fun h3=>put ?_) (fun h3=>af ld (put ?_)))) (fun h2=>af ld (put ?_))
  ·unfold nM;rw[if_neg h1,if_pos ⟨h2,h3⟩]
  ·unfold nM;rw[if_neg h1,if_neg (fun h=>h3 h.2)]
  ·unfold nM;rw[if_neg h1,if_neg (fun h=>h2 h.1)]
 refine au (fun h1=>af ld (au (fun h2=>put ?_) (fun h2=>neg (fun h=>h2 h.2)))) (fun h1=>neg (fun h=>h1 h.1))
 unfold nM;rw[if_pos ⟨h1,h2⟩]
theorem Mm {p:Option Addr} {l c:Nat} {xs:List Int} (r:bT h p (az xs)) (hl:xs.length=l) (hb:l<2 ^ 62):
 aq P pp #[.int .i64 32,.slice p l c] h fun v h'=>v= .int .i64 (yp xs)∧cu no h h':=by
 refine F4 _ _ _ _ ?_
 unfold Ke
 have S:=(aK.start h no).read (row p (az xs)) r
 refine aC S (fun b1 _ _ S=> ?_)
 dsimp only[List.nil_append,List.cons_append] at S
 refine aC S (fun b3 _ _ S=> ?_)
 dsimp only[List.nil_append,List.cons_append] at S
 refine aJ S 1 rfl (Nat.le_of_ble_eq_true rfl) (fun _ _ S=> ?_)
 dsimp only[List.set] at S
 refine aT (fun m s g=> ∃i:Nat,s=(⟨b3,0,none⟩,((),(⟨b3,0,none⟩,⟨b1,0,none⟩,())),(p,l,c),(l:Int),(i:Int),())∧i≤l∧m=l-i∧aK h no g [blk b1 [.int .i64 32],blk b3 [.int .i64 (yp (xs.take i))]] [row p (az xs)]) l ⟨0,rfl,by omega,by omega,S⟩ ?_
 clear S
 rintro m s g ⟨i,rfl,hi,rfl,S⟩
 unfold CP
 dsimp only
 refine au (fun hlt=> ?_) (fun hge=> ?_)
 ·have hlt':i<xs.length:=by omega
  obtain⟨a,ea⟩:=(S.row 0 rfl).some_of (by rw[aB];omega)
  refine aG ea (k:=i) rfl (by omega) ?_
  simp only[Int.toNat_natCast,Nat.mul_one]
  refine af (n:=xs[i]) (by have:=S.row 0 rfl;rw[ea] at this;exact this.cell (aN (List.getElem?_eq_getElem hlt'))) ?_
  refine(PM (S.into [1,0] [] []) _).mono ?_
  rintro _ g2 ⟨rfl,S1⟩
  refine⟨rfl,?_⟩
  replace S:=S.back [1,0] S1
  dsimp only[bO,List.set,List.cons_append,List.nil_append] at S
  rw[al (by omega)]
  refine⟨l-(i+1),by omega,i+1,rfl,by omega,rfl,?_⟩
  have e:yp (xs.take (i+1))=iX (nM (yp (xs.take i)) xs[i]):=by
   unfold yp
   rw[List.take_succ_eq_append_getElem hlt',List.foldl_append];rfl
  rw[e]
  exact S
 ·have e:xs.take i=xs:=List.take_of_length_le (by omega)
  rw[e] at S
  exact af (S.cell 1 rfl rfl) ⟨rfl,S.fra⟩
end
end Go.Proofs.YtdhpmegbmjoekaaGreatDoor.G
