/- Contracts: the document's whole numbers (earshotref01, 02, 07), and the small helpers of earshotref17. -/
import Derived.Test.YtbgplllcjhgdhaaGreatDoorCKind14d
namespace Go.Proofs.YtbgplllcjhgdhaaGreatDoor.G
open Go Go.Sh
set_option linter.unusedVariables false
set_option linter.unusedSimpArgs false
abbrev w64 (x:Int):Int:=IntKind.wrap .i64 x
def clampI (x lo hi:Int):Int:=if x<lo then lo else if x>hi then hi else x
def sat32 (x:Int):Int:=clampI x (-2147483648) 2147483647
theorem sat32_range (x:Int): -2147483648≤sat32 x∧sat32 x≤2147483647:=by
 unfold sat32 clampI
 split
 ·decide
 ·split
  ·decide
  ·omega
theorem sat32_same {x:Int} (h: -2147483648≤x∧x≤2147483647):sat32 x=x:=by
 unfold sat32 clampI
 rw[if_neg (by omega),if_neg (by omega)]
def quotI (x n:Int):Int:=if Int.tmod x n<0 then w64 (w64 (Int.tdiv x n)-1) else w64 (Int.tdiv x n)
def restI (x n:Int):Int:=w64 (x-w64 (quotI x n*n))
def divI (x n:Int):Int:=if n<1 then 0 else if restI x n≥w64 (n-restI x n) then w64 (quotI x n+1) else quotI x n
def powI:Nat→Int
 |0=>1
 |n+1=>w64 (powI n*2)
def halfI (x s:Int):Int:=if s<0 then 0 else if s>62 then 0 else divI x (powI s.toNat)
def mulI (a b:Int):Int×Bool:=
 if a=0 then(0,true) else if b=0 then(0,true) else if(a= -1∧b= -9223372036854775808)∨(b= -1∧a= -9223372036854775808) then(0,false)
 else if w64 (Int.tdiv (w64 (a*b)) b)≠a then(0,false) else(w64 (a*b),true)
def scaleI (x m s:Int):Int:=
 if m<0∨m>32767∨s<0∨s>30 then 0 else if(mulI x m).2=true then sat32 (halfI (mulI x m).1 s) else if x<0 then-2147483648 else 2147483647
theorem scaleI_range (x m s:Int): -2147483648≤scaleI x m s∧scaleI x m s≤2147483647:=by
 unfold scaleI
 split
 ·decide
 ·split
  ·exact sat32_range _
  ·split<;>decide
def plusI (a b:Int):Int:=
 if b>0∧a>w64 (9223372036854775807-b) then 9223372036854775807 else if b<0∧a<w64 (-9223372036854775808-b) then-9223372036854775808 else w64 (a+b)
def addI (xs:List Int):Int:=xs.foldl (fun n x=>sat32 (plusI n x)) 0
def sumS (xs:List Int):Int×Int:=xs.foldl (fun s x=>(w64 (s.1+shrI x 32),w64 (s.2+andI .i64 x 4294967295))) (0,0)
def sumI2 (xs:List Int):Int×Bool:=
 if w64 ((sumS xs).1+shrI (sumS xs).2 32)< -2147483648 then(0,false) else if w64 ((sumS xs).1+shrI (sumS xs).2 32)>2147483647 then(0,false)
 else(w64 (shlI .i64 (w64 ((sumS xs).1+shrI (sumS xs).2 32)) 32+andI .i64 (sumS xs).2 4294967295),true)
def meanI (xs:List Int):Int:=if(sumI2 xs).2=true then if xs.length=0 then 0 else divI (sumI2 xs).1 (xs.length:Int) else 0
def mostI (xs:List Int):Nat:=(List.range xs.length).foldl (fun a i=>if xs.getD i 0>xs.getD a 0 then i else a) 0
def postI (n:Nd) (x:Int):Int:=
 let z:=if andI .i64 n.post 1=1 then scaleI (sat32 x) n.mult n.shift else sat32 x
 if andI .i64 n.post 2=2 then clampI z n.low n.high else z
section
variable {h:Heap}
theorem Word_ok (x:Int):callP P n_ref07_Word #[.int .i64 x] h fun v h'=>v= .bool (decide (-2147483648≤x∧x<2147483648))∧h'=h:=by
 refine call_ref07_Word _ ?_
 unfold ref07_Word
 refine ifB_dec (fun h1=>⟨?_,rfl⟩) (fun h1=>⟨?_,rfl⟩)
 ·congr 1
  rw[decide_eq_decide]
  exact⟨fun h=>⟨by omega,h⟩,fun h=>h.2⟩
 ·congr 1
  rw[decide_eq_false (by omega)]
theorem May01_ok (x:Int):callP P n_ref01_May #[.int .i64 x] h fun v h'=>v= .bool (decide (1≤x∧x≤64))∧h'=h:=by
 refine call_ref01_May _ ?_
 unfold ref01_May
 refine ifB_dec (fun h1=>⟨?_,rfl⟩) (fun h1=>⟨?_,rfl⟩)
 ·congr 1
  rw[decide_eq_decide]
  exact⟨fun h=>⟨by omega,h⟩,fun h=>h.2⟩
 ·congr 1
  rw[decide_eq_false (by omega)]
theorem Clamp01_ok (x lo hi:Int):callP P n_ref01_Clamp #[.int .i64 x,.int .i64 lo,.int .i64 hi] h fun v h'=>v= .int .i64 (clampI x lo hi)∧h'=h:=by
 refine call_ref01_Clamp _ _ _ ?_
 unfold ref01_Clamp clampI
 refine ifB_dec (fun h1=>⟨by rw[if_pos h1],rfl⟩) (fun h1=>ifB_dec (fun h2=>⟨by rw[if_neg h1,if_pos h2],rfl⟩) (fun h2=>⟨by rw[if_neg h1,if_neg h2],rfl⟩))
theorem Low01_ok:callP P n_ref01_Low #[.int .i64 32] h fun v h'=>v= .int .i64 (-2147483648)∧h'=h:=by
 refine call_ref01_Low _ ?_
 unfold ref01_Low
 refine LoopS_i (fun mm s g=>g=h∧ ∃i:Nat,s=((32:Int),-(2:Int) ^ i,(i:Int)+1,())∧i≤31∧mm=31-i) 31 ⟨rfl,0,rfl,by omega,rfl⟩ ?_
 rintro mm s g ⟨rfl,i,rfl,hi,rfl⟩
 unfold ref01_Low_l3
 dsimp only
 have hp:(1:Int)≤2 ^ i∧(2:Int) ^ i≤2 ^ 31:=by
  have h1:=Nat.pow_le_pow_right (show 0<2 by decide) hi
  have h2:=Nat.pow_le_pow_right (show 0<2 by decide) (Nat.zero_le i)
  constructor
  ·exact_mod_cast h2
  ·exact_mod_cast h1
 refine ifB_dec (fun hlt=> ?_) (fun hge=> ?_)
 ·rw[wrap64_in (n:= -(2:Int) ^ i*2) (by omega),wrap64_in (by omega)]
  refine⟨31-(i+1),by omega,by trivial,i+1,?_,by omega,rfl⟩
  have: -(2:Int) ^ i*2= -(2:Int) ^ (i+1):=by rw[Int.pow_succ];omega
  rw[this];rfl
 ·have:i=31:=by omega
  subst this
  exact⟨rfl,rfl⟩
theorem Sat01_ok (x:Int):callP P n_ref01_Sat #[.int .i64 x,.int .i64 32] h fun v h'=>v= .int .i64 (sat32 x)∧h'=h:=by
 refine call_ref01_Sat _ _ ?_
 unfold ref01_Sat
 refine(May01_ok 32).mono ?_
 rintro _ _ ⟨rfl,rfl⟩
 refine⟨_,rfl,ifB_false (by decide) ?_⟩
 refine Low01_ok.mono ?_
 rintro _ _ ⟨rfl,rfl⟩
 refine⟨_,rfl,?_⟩
 have e:IntKind.wrap .i64 ((-1:Int)-(-2147483648))=2147483647:=by rw[wrap64_in (by omega)];rfl
 dsimp only
 rw[e]
 refine(Clamp01_ok _ _ _).mono ?_
 rintro _ _ ⟨rfl,rfl⟩
 exact⟨_,rfl,rfl,rfl⟩
theorem Quot_ok (x:Int) {n:Int} (hn:n≠0):callP P n_ref02_Quot #[.int .i64 x,.int .i64 n] h fun v h'=>v= .int .i64 (quotI x n)∧h'=h:=by
 refine call_ref02_Quot _ _ ?_
 unfold ref02_Quot quotI
 refine⟨hn,hn,ifB_dec (fun h1=>⟨by rw[if_pos h1],rfl⟩) (fun h1=>⟨by rw[if_neg h1],rfl⟩)⟩
theorem Rest_ok (x:Int) {n:Int} (hn:n≠0):callP P n_ref02_Rest #[.int .i64 x,.int .i64 n] h fun v h'=>v= .int .i64 (restI x n)∧h'=h:=by
 refine call_ref02_Rest _ _ ?_
 unfold ref02_Rest restI
 refine(Quot_ok x hn).mono ?_
 rintro _ _ ⟨rfl,rfl⟩
 exact⟨_,rfl,rfl,rfl⟩
theorem Div02_ok (x n:Int):callP P n_ref02_Div #[.int .i64 x,.int .i64 n] h fun v h'=>v= .int .i64 (divI x n)∧h'=h:=by
 refine call_ref02_Div _ _ ?_
 unfold ref02_Div divI
 refine ifB_dec (fun h1=>⟨by rw[if_pos h1],rfl⟩) (fun h1=> ?_)
 rw[if_neg h1]
 refine(Quot_ok x (by omega)).mono ?_
 rintro _ _ ⟨rfl,rfl⟩
 refine⟨_,rfl,?_⟩
 refine(Rest_ok x (by omega)).mono ?_
 rintro _ _ ⟨rfl,rfl⟩
 refine⟨_,rfl,ifB_dec (fun h2=>⟨by rw[if_pos h2],rfl⟩) (fun h2=>⟨by rw[if_neg h2],rfl⟩)⟩
theorem power_ok {n:Nat} (hn:n≤62):callP P n_ref02_power #[.int .i64 (n:Int)] h fun v h'=>v= .int .i64 (powI n)∧h'=h:=by
 refine call_ref02_power _ ?_
 unfold ref02_power
 refine LoopS_i (fun mm s g=>g=h∧ ∃i:Nat,s=((n:Int),powI i,(i:Int),())∧i≤n∧mm=n-i) n ⟨rfl,0,rfl,by omega,rfl⟩ ?_
 rintro mm s g ⟨rfl,i,rfl,hi,rfl⟩
 unfold ref02_power_l3
 dsimp only
 refine ifB_dec (fun hlt=> ?_) (fun hge=> ?_)
 ·rw[wrap64_in (n:=(i:Int)+1) (by omega)]
  exact⟨n-(i+1),by omega,by trivial,i+1,rfl,by omega,rfl⟩
 ·have:i=n:=by omega
  subst this
  exact⟨rfl,rfl⟩
theorem Half_ok (x s:Int):callP P n_ref02_Half #[.int .i64 x,.int .i64 s] h fun v h'=>v= .int .i64 (halfI x s)∧h'=h:=by
 refine call_ref02_Half _ _ ?_
 unfold ref02_Half halfI
 refine ifB_dec (fun h1=>⟨by rw[if_pos h1],rfl⟩) (fun h1=>ifB_dec (fun h2=>⟨by rw[if_neg h1,if_pos h2],rfl⟩) (fun h2=> ?_))
 rw[if_neg h1,if_neg h2]
 obtain⟨n,rfl⟩: ∃n:Nat,s=(n:Int):=⟨s.toNat,by omega⟩
 refine(power_ok (by omega)).mono ?_
 rintro _ _ ⟨rfl,rfl⟩
 refine⟨_,rfl,?_⟩
 refine(Div02_ok _ _).mono ?_
 rintro _ _ ⟨rfl,rfl⟩
 exact⟨_,rfl,rfl,rfl⟩
theorem Mul01_ok (a b:Int):callP P n_ref01_Mul #[.int .i64 a,.int .i64 b] h fun v h'=>v= .agg #[.int .i64 (mulI a b).1,.bool (mulI a b).2]∧Fra no h h':=by
 refine call_ref01_Mul _ _ ?_
 unfold ref01_Mul
 have S:=Sep.start h no
 refine newI_S (cs:=[.int .i64 0,.bool false]) S fun b1 h1 _ S=> ?_
 dsimp only[List.nil_append] at S
 have put: ∀{g:Heap} {cs:List Value} {m:Int} {ok:Bool} {k:Int×Bool},cs.length=2→k=(m,ok)→Sep h no g [blk b1 cs] []→stI g ⟨b1,0,none⟩ (.int .i64 m) fun h3=>stI h3 ⟨b1,1,none⟩ (.bool ok) fun h4=>ldInt .i64 h4 ⟨b1,0,none⟩ fun n5=>ldBool h4 ⟨b1,1,none⟩ fun b6=>
  Value.agg #[.int .i64 n5,.bool b6]= .agg #[.int .i64 k.1,.bool k.2]∧Fra no h h4:=by
  intro g cs m ok k hl hk S
  obtain⟨x,y,rfl⟩: ∃x y,cs=[x,y]:=by
   match cs,hl with
   |[x,y],_=>exact⟨x,y,rfl⟩
  refine stI_S S 0 rfl (Nat.le_of_ble_eq_true rfl) fun _ _ S=> ?_
  dsimp only[List.set] at S
  refine stI_S S 0 rfl (Nat.le_of_ble_eq_true rfl) fun _ _ S=> ?_
  dsimp only[List.set] at S
  refine ldInt_i (n:=m) (S.cell 0 rfl rfl) (ldBool_i (n:=ok) (S.cell 0 rfl rfl) ⟨by rw[hk],S.fra⟩)
 refine ifB_beq (fun ha=>put rfl (by unfold mulI;rw[if_pos ha]) S) (fun ha=> ?_)
 refine ifB_beq (fun hb=>put rfl (by unfold mulI;rw[if_neg ha,if_pos hb]) S) (fun hb=> ?_)
 have e:mulI a b=if(a= -1∧b= -9223372036854775808)∨(b= -1∧a= -9223372036854775808) then(0,false) else if w64 (Int.tdiv (w64 (a*b)) b)≠a then(0,false) else(w64 (a*b),true):=by
  unfold mulI;rw[if_neg ha,if_neg hb]
 refine⟨fun s g=>s=(a,b,⟨b1,0,none⟩,())∧ ¬((a= -1∧b= -9223372036854775808)∨(b= -1∧a= -9223372036854775808))∧Sep h no g [blk b1 [.int .i64 0,.bool false]] [],?_,?_⟩
 ·clear S
  rintro s g ⟨rfl,hc,S⟩
  unfold ref01_Mul_j5
  simp only[add_mk,Nat.zero_add]
  refine⟨hb,ifB_bne (fun h1=>put rfl (by rw[e,if_neg hc,if_pos h1]) S) (fun h1=>put rfl (by rw[e,if_neg hc,if_neg (fun h=>h h1)]) S)⟩
 ·refine ifB_beq (fun h1=>ifB_beq (fun h2=>put rfl (by rw[e,if_pos (.inl ⟨h1,h2⟩)]) S) (fun h2=>ifB_beq (fun h3=>ifB_beq (fun h4=>put rfl (by rw[e,if_pos (.inr ⟨h3,h4⟩)]) S) (fun h4=>⟨rfl,by omega,S⟩)) (fun h3=>⟨rfl,by omega,S⟩)))
   (fun h1=>ifB_beq (fun h3=>ifB_beq (fun h4=>put rfl (by rw[e,if_pos (.inr ⟨h3,h4⟩)]) S) (fun h4=>⟨rfl,by omega,S⟩)) (fun h3=>⟨rfl,by omega,S⟩))
theorem Scale02_ok (x m s:Int):callP P n_ref02_Scale #[.int .i64 x,.int .i64 m,.int .i64 s] h fun v h'=>v= .int .i64 (scaleI x m s)∧Fra no h h':=by
 refine call_ref02_Scale _ _ _ ?_
 unfold ref02_Scale
 have zero:(m<0∨m>32767∨s<0∨s>30)→Value.int .i64 0= .int .i64 (scaleI x m s)∧Fra no h h:=fun hc=>⟨by unfold scaleI;rw[if_pos hc],Fra.refl _ _⟩
 refine⟨fun t g=>t=(x,m,s,())∧ ¬(m<0∨m>32767∨s<0∨s>30)∧g=h,?_,?_⟩
 ·rintro t g ⟨rfl,hc,rfl⟩
  unfold ref02_Scale_j3
  dsimp only
  have S:=Sep.start g no
  refine(Mul01_ok x m).mono ?_
  rintro _ g1 ⟨rfl,F⟩
  replace S:=S.fra0 F
  refine⟨_,_,rfl,?_⟩
  obtain⟨k,ek⟩: ∃k,mulI x m=k:=⟨_,rfl⟩
  have es:scaleI x m s=if k.2=true then sat32 (halfI k.1 s) else if x<0 then-2147483648 else 2147483647:=by unfold scaleI;rw[if_neg hc,ek]
  rw[ek,es]
  refine newI_S (cs:=[.int .i64 0,.bool false]) S fun b7 _ _ S=> ?_
  dsimp only[List.nil_append] at S
  refine stI_S S 0 rfl (Nat.le_of_ble_eq_true rfl) fun _ _ S=> ?_
  dsimp only[List.set] at S
  refine stI_S S 0 rfl (Nat.le_of_ble_eq_true rfl) fun g2 _ S=> ?_
  dsimp only[List.set] at S
  refine ldBool_i (n:=k.2) (S.cell 0 rfl rfl) (ifB_not (ifB_known (fun hk=> ?_) (fun hk=> ?_)))
  ·refine ldBool_i (n:=k.2) (S.cell 0 rfl rfl) (ifB_not (ifB_true hk ?_))
   refine ldInt_i (n:=k.1) (S.cell 0 rfl rfl) ?_
   refine(Half_ok _ _).mono ?_
   rintro _ _ ⟨rfl,rfl⟩
   refine⟨_,rfl,?_⟩
   refine(Sat01_ok _).mono ?_
   rintro _ _ ⟨rfl,rfl⟩
   exact⟨_,rfl,by rw[if_pos hk],S.fra⟩
  ·refine ifB_dec (fun h1=>⟨by rw[if_neg (by rw[hk];simp),if_pos h1],S.fra⟩) (fun h1=> ?_)
   refine ldBool_i (n:=k.2) (S.cell 0 rfl rfl) (ifB_not (ifB_false hk ?_))
   exact⟨by rw[if_neg (by rw[hk];simp),if_neg h1],S.fra⟩
 ·refine ifB_dec (fun h1=>zero (.inl h1)) (fun h1=>ifB_dec (fun h2=>zero (.inr (.inl h2))) (fun h2=>ifB_dec (fun h3=>zero (.inr (.inr (.inl h3)))) (fun h3=>ifB_dec (fun h4=>zero (.inr (.inr (.inr h4)))) (fun h4=>⟨rfl,by omega,rfl⟩))))
theorem post17_ok (nv:Nv) (x:Int):callP P n_ref17_post #[nv.v,.int .i64 x] h fun v h'=>v= .int .i64 (postI nv.nd x)∧Fra no h h':=by
 refine call_ref17_post _ _ ?_
 unfold ref17_post
 have S:=Sep.start h no
 refine newI_S (cs:=nv.cells) S fun b1 h1 _ S=> ?_
 dsimp only[List.nil_append] at S
 refine(Sat01_ok x).mono ?_
 rintro _ _ ⟨rfl,rfl⟩
 refine⟨_,rfl,?_⟩
 have e:postI nv.nd x=if andI .i64 nv.post 2=2 then clampI (if andI .i64 nv.post 1=1 then scaleI (sat32 x) nv.mult nv.shift else sat32 x) nv.low nv.high else(if andI .i64 nv.post 1=1 then scaleI (sat32 x) nv.mult nv.shift else sat32 x):=rfl
 refine ldInt_i (n:=nv.post) (S.cell 0 rfl rfl) (ifB_beq (fun h1=> ?_) (fun h1=> ?_))
 ·rw[if_pos h1] at e
  refine ldInt_i (n:=nv.mult) (S.cell 0 rfl rfl) (ldInt_i (n:=nv.shift) (S.cell 0 rfl rfl) ?_)
  refine(Scale02_ok _ _ _).mono ?_
  rintro _ g2 ⟨rfl,F⟩
  replace S:=S.fra0 F
  refine⟨_,rfl,?_⟩
  refine ldInt_i (n:=nv.post) (S.cell 0 rfl rfl) (ifB_beq (fun h2=> ?_) (fun h2=>⟨by rw[e,if_neg h2],S.fra⟩))
  refine ldInt_i (n:=nv.low) (S.cell 0 rfl rfl) (ldInt_i (n:=nv.high) (S.cell 0 rfl rfl) ?_)
  refine(Clamp01_ok _ _ _).mono ?_
  rintro _ _ ⟨rfl,rfl⟩
  exact⟨_,rfl,by rw[e,if_pos h2],S.fra⟩
 ·rw[if_neg h1] at e
  refine ldInt_i (n:=nv.post) (S.cell 0 rfl rfl) (ifB_beq (fun h2=> ?_) (fun h2=>⟨by rw[e,if_neg h2],S.fra⟩))
  refine ldInt_i (n:=nv.low) (S.cell 0 rfl rfl) (ldInt_i (n:=nv.high) (S.cell 0 rfl rfl) ?_)
  refine(Clamp01_ok _ _ _).mono ?_
  rintro _ _ ⟨rfl,rfl⟩
  exact⟨_,rfl,by rw[e,if_pos h2],S.fra⟩
theorem plus01_ok (a b:Int):callP P n_ref01_plus #[.int .i64 a,.int .i64 b] h fun v h'=>v= .int .i64 (plusI a b)∧h'=h:=by
 refine call_ref01_plus _ _ ?_
 unfold ref01_plus plusI
 have e: ∀x:Int,w64 x=IntKind.wrap .i64 x:=fun _=>rfl
 refine ifB_dec (fun h1=>ifB_dec (fun h2=>⟨by rw[if_pos ⟨h1,h2⟩],rfl⟩) (fun h2=> ?_)) (fun h1=> ?_)
 ·rw[if_neg (fun h=>h2 h.2),if_neg (fun h=>by have:=h.1;omega)]
  exact ifB_dec (fun h3=>by omega) (fun _=>⟨rfl,rfl⟩)
 ·rw[if_neg (fun h=>h1 h.1)]
  refine ifB_dec (fun h3=>ifB_dec (fun h4=>⟨by rw[if_pos ⟨h3,h4⟩],rfl⟩) (fun h4=>⟨by rw[if_neg (fun h=>h4 h.2)],rfl⟩)) (fun h3=>⟨by rw[if_neg (fun h=>h3 h.1)],rfl⟩)
theorem Add01_ok {p:Option Addr} {l c:Nat} {xs:List Int} (hx:Row h p (ints xs)) (hl:xs.length=l) (hb:l<2 ^ 40):callP P n_ref01_Add #[.int .i64 32,.slice p l c] h fun v h'=>v= .int .i64 (addI xs)∧h'=h:=by
 refine call_ref01_Add _ _ _ _ ?_
 unfold ref01_Add
 refine LoopS_i (fun mm s g=>g=h∧ ∃t:Nat,s=((32:Int),(p,l,c),addI (xs.take t),(t:Int),())∧t≤l∧mm=l-t) l ⟨rfl,0,rfl,by omega,rfl⟩ ?_
 rintro mm s g ⟨rfl,t,rfl,ht,rfl⟩
 unfold ref01_Add_l3
 dsimp only
 refine ifB_dec (fun hlt=> ?_) (fun hge=> ?_)
 ·have htx:t<xs.length:=by omega
  obtain⟨a,ea⟩:=hx.some_of (by rw[ints_length];omega)
  subst ea
  refine idxI_i rfl rfl (by omega) ?_
  simp only[Int.toNat_natCast,Nat.mul_one]
  refine ldInt_i (hx.cell (ints_get (List.getElem?_eq_getElem htx))) ?_
  refine(plus01_ok _ _).mono ?_
  rintro _ _ ⟨rfl,rfl⟩
  refine⟨_,rfl,?_⟩
  refine(Sat01_ok _).mono ?_
  rintro _ _ ⟨rfl,rfl⟩
  refine⟨_,rfl,?_⟩
  rw[wrap64_in (n:=(t:Int)+1) (by omega)]
  refine⟨l-(t+1),by omega,by trivial,t+1,?_,by omega,rfl⟩
  rw[List.take_succ_eq_append_getElem htx]
  unfold addI
  rw[List.foldl_append];rfl
 ·rw[List.take_of_length_le (by omega)]
  exact⟨rfl,rfl⟩
theorem Sum01_ok {p:Option Addr} {l c:Nat} {xs:List Int} (hx:Row h p (ints xs)) (hl:xs.length=l) (hb:l<2 ^ 40):callP P n_ref01_Sum #[.slice p l c] h fun v h'=>v= .agg #[.int .i64 (sumI2 xs).1,.bool (sumI2 xs).2]∧Fra no h h':=by
 refine call_ref01_Sum _ _ _ ?_
 unfold ref01_Sum
 have S:=(Sep.start h no).read (row p (ints xs)) hx
 refine newI_S (cs:=[.int .i64 0,.bool false]) S fun b1 h1 _ S=> ?_
 dsimp only[List.nil_append] at S
 refine LoopS_i (fun mm s g=> ∃t:Nat,s=((p,l,c),⟨b1,0,none⟩,(sumS (xs.take t)).1,(sumS (xs.take t)).2,(t:Int),())∧t≤l∧mm=l-t∧Sep h no g [blk b1 [.int .i64 0,.bool false]] [row p (ints xs)]) l ⟨0,rfl,by omega,rfl,S⟩ ?_
 clear S
 rintro mm s g ⟨t,rfl,ht,rfl,S⟩
 unfold ref01_Sum_l4
 simp only[add_mk,Nat.zero_add]
 refine ifB_dec (fun hlt=> ?_) (fun hge=> ?_)
 ·have htx:t<xs.length:=by omega
  have xr:=S.row 0 rfl
  obtain⟨a,ea⟩:=xr.some_of (by rw[ints_length];omega)
  rw[ea] at xr
  refine idxI_i ea rfl (by omega) ?_
  simp only[Int.toNat_natCast,Nat.mul_one]
  refine ldInt_i (xr.cell (ints_get (List.getElem?_eq_getElem htx))) (idxI_i ea rfl (by omega) (ldInt_i (xr.cell (ints_get (List.getElem?_eq_getElem htx))) ?_))
  rw[wrap64_in (n:=(t:Int)+1) (by omega)]
  have e:sumS (xs.take (t+1))=(w64 ((sumS (xs.take t)).1+shrI xs[t] 32),w64 ((sumS (xs.take t)).2+andI .i64 xs[t] 4294967295)):=by
   rw[List.take_succ_eq_append_getElem htx]
   unfold sumS
   rw[List.foldl_append];rfl
  exact⟨l-(t+1),by omega,t+1,by rw[e];rfl,by omega,rfl,S⟩
 ·rw[List.take_of_length_le (by omega)]
  have put: ∀{g:Heap} {m:Int} {ok:Bool} {k:Int×Bool},k=(m,ok)→Sep h no g [blk b1 [.int .i64 0,.bool false]] [row p (ints xs)]→stI g ⟨b1,0,none⟩ (.int .i64 m) fun h3=>stI h3 ⟨b1,1,none⟩ (.bool ok) fun h4=>ldInt .i64 h4 ⟨b1,0,none⟩ fun n5=>ldBool h4 ⟨b1,1,none⟩ fun b6=>
   Value.agg #[.int .i64 n5,.bool b6]= .agg #[.int .i64 k.1,.bool k.2]∧Fra no h h4:=by
   intro g m ok k hk S
   refine stI_S S 0 rfl (Nat.le_of_ble_eq_true rfl) fun _ _ S=> ?_
   dsimp only[List.set] at S
   refine stI_S S 0 rfl (Nat.le_of_ble_eq_true rfl) fun _ _ S=> ?_
   dsimp only[List.set] at S
   refine ldInt_i (n:=m) (S.cell 0 rfl rfl) (ldBool_i (n:=ok) (S.cell 0 rfl rfl) ⟨by rw[hk],S.fra⟩)
  refine ifB_dec (fun h1=>put (by unfold sumI2;rw[if_pos h1]) S) (fun h1=>ifB_dec (fun h2=>put (by unfold sumI2;rw[if_neg h1,if_pos h2]) S) (fun h2=>put (by unfold sumI2;rw[if_neg h1,if_neg h2]) S))
theorem Mean02_ok {p:Option Addr} {l c:Nat} {xs:List Int} (hx:Row h p (ints xs)) (hl:xs.length=l) (hb:l<2 ^ 40):callP P n_ref02_Mean #[.slice p l c] h fun v h'=>v= .int .i64 (meanI xs)∧Fra no h h':=by
 refine call_ref02_Mean _ _ _ ?_
 unfold ref02_Mean
 have S:=(Sep.start h no).read (row p (ints xs)) hx
 refine(Sum01_ok (S.row 0 rfl) hl hb).mono ?_
 rintro _ g1 ⟨rfl,F⟩
 replace S:=S.fra0 F
 refine⟨_,_,rfl,?_⟩
 obtain⟨k,ek⟩: ∃k,sumI2 xs=k:=⟨_,rfl⟩
 have e:meanI xs=if k.2=true then if xs.length=0 then 0 else divI k.1 (xs.length:Int) else 0:=by unfold meanI;rw[ek]
 rw[ek,e]
 refine newI_S (cs:=[.int .i64 0,.bool false]) S fun b5 _ _ S=> ?_
 dsimp only[List.nil_append] at S
 refine stI_S S 0 rfl (Nat.le_of_ble_eq_true rfl) fun _ _ S=> ?_
 dsimp only[List.set] at S
 refine stI_S S 0 rfl (Nat.le_of_ble_eq_true rfl) fun g2 _ S=> ?_
 dsimp only[List.set] at S
 refine ldBool_i (n:=k.2) (S.cell 0 rfl rfl) (ifB_not (ifB_known (fun hk=> ?_) (fun hk=>⟨by rw[if_neg (by rw[hk];simp)],S.fra⟩)))
 rw[if_pos hk]
 refine ifB_beq (fun h0=>⟨by rw[if_pos (by omega)],S.fra⟩) (fun h0=> ?_)
 rw[if_neg (by omega)]
 refine ldInt_i (n:=k.1) (S.cell 0 rfl rfl) ?_
 refine(Div02_ok _ _).mono ?_
 rintro _ _ ⟨rfl,rfl⟩
 exact⟨_,rfl,by rw[hl],S.fra⟩
theorem most17_ok {p:Option Addr} {l c:Nat} {xs:List Int} (hx:Row h p (ints xs)) (hl:xs.length=l) (hb:l<2 ^ 40):callP P n_ref17_most #[.slice p l c] h fun v h'=>v= .int .i64 ((mostI xs:Nat):Int)∧h'=h∧(1≤l→mostI xs<l):=by
 refine call_ref17_most _ _ _ ?_
 unfold ref17_most
 refine LoopS_i (fun mm s g=>g=h∧ ∃t a:Nat,s=((p,l,c),(a:Int),(t:Int),())∧t≤l∧mm=l-t∧a=(List.range t).foldl (fun a i=>if xs.getD i 0>xs.getD a 0 then i else a) 0∧(a=0∨a<t)) l ⟨rfl,0,0,rfl,by omega,rfl,rfl,.inl rfl⟩ ?_
 rintro mm s g ⟨rfl,t,at0,rfl,ht,rfl,ha,hat⟩
 unfold ref17_most_l3
 dsimp only
 refine ifB_dec (fun hlt=> ?_) (fun hge=> ?_)
 ·have htx:t<xs.length:=by omega
  have hax:at0<xs.length:=by omega
  obtain⟨a,ea⟩:=hx.some_of (by rw[ints_length];omega)
  subst ea
  refine idxI_i rfl rfl (by omega) (idxI_i rfl rfl (by omega) ?_)
  simp only[Int.toNat_natCast,Nat.mul_one]
  refine ldInt_i (n:=xs[t]) (hx.cell (ints_get (List.getElem?_eq_getElem htx))) (ldInt_i (n:=xs[at0]) (hx.cell (ints_get (List.getElem?_eq_getElem hax))) ?_)
  rw[wrap64_in (n:=(t:Int)+1) (by omega)]
  have e:(List.range (t+1)).foldl (fun a i=>if xs.getD i 0>xs.getD a 0 then i else a) 0=if xs[t]>xs[at0] then t else at0:=by
   rw[List.range_succ,List.foldl_append,←ha]
   show(if xs.getD t 0>xs.getD at0 0 then t else at0)=_
   rw[getD_eq htx,getD_eq hax]
  refine ifB_dec (fun h1=> ?_) (fun h1=> ?_)
  ·exact⟨l-(t+1),by omega,by trivial,t+1,t,rfl,by omega,rfl,by rw[e,if_pos h1],.inr (by omega)⟩
  ·exact⟨l-(t+1),by omega,by trivial,t+1,at0,rfl,by omega,rfl,by rw[e,if_neg h1],by omega⟩
 ·have:t=l:=by omega
  subst this
  have e:mostI xs=at0:=by unfold mostI;rw[hl];exact ha.symm
  rw[e]
  exact⟨rfl,rfl,fun h1=>by omega⟩
end
end Go.Proofs.YtbgplllcjhgdhaaGreatDoor.G
