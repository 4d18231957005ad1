/- CKindP CKindP2 CKindP3, in one text. -/
import Derived.Test.YtdhpmegbmjoekaaGreatDoorCKind14d
section
namespace Go.Proofs.YtdhpmegbmjoekaaGreatDoor.G
open Go Go.Sh
set_option linter.unusedVariables false
set_option linter.unusedSimpArgs false
abbrev aS:List Int:=[0,7,5,1,1,0,6,8,8,32,64,0,16]
abbrev KT (h:ae):Prop:=At h 0 (az aS)
def Da (k:Nat) (b1 b2:Bool):Int:=
 let a:=aS.getD k 0
 let a:=if b1 then DW .i64 a 64 else a
 if b2 then DW .i64 a 32 else a
def pM (k post what:Int):Prop:=1≤k∧k≤12∧cS .i64 (Da k.toNat (cS .i64 post 1 !=0) (cS .i64 post 2 !=0)) what≠0
instance (k post what:Int):Decidable (pM k post what):=by unfold pM;infer_instance
theorem tB {k post what:Int} {p:Nat→Bool→Bool→Prop} (hp: ∀k,k<13→ ∀b1 b2:Bool,(cS .i64 (Da k b1 b2) what≠0↔p k b1 b2)):pM k post what↔1≤k∧k≤12∧p k.toNat (cS .i64 post 1 !=0) (cS .i64 post 2 !=0):=by
 unfold pM
 constructor
 ·rintro⟨h1,h2,h3⟩;exact⟨h1,h2,(hp _ (by omega) _ _).1 h3⟩
 ·rintro⟨h1,h2,h3⟩;exact⟨h1,h2,(hp _ (by omega) _ _).2 h3⟩
theorem Gl {k post:Int}:pM k post 1↔dD k:=by
 rw[tB (p:=fun k _ _=>k=1∨k=2∨k=3∨k=4) (by decide+kernel)];unfold dD;omega
theorem M2 {k post:Int}:pM k post 2↔wide k:=by
 rw[tB (p:=fun k _ _=>k=1∨k=6) (by decide+kernel)];unfold wide;omega
theorem M3 {k post:Int}:pM k post 4↔jb k:=by
 rw[tB (p:=fun k _ _=>k=1∨k=2∨k=6) (by decide+kernel)];unfold jb;omega
theorem OE {k post:Int}:pM k post 8↔dv k:=by
 rw[tB (p:=fun k _ _=>k=7∨k=8) (by decide+kernel)];unfold dv;omega
theorem Kn {k post:Int}:pM k post 16↔k=12:=by
 rw[tB (p:=fun k _ _=>k=12) (by decide+kernel)];omega
theorem M4 {k post:Int}:pM k post 17↔iM k:=by
 rw[tB (p:=fun k _ _=>k=1∨k=2∨k=3∨k=4∨k=12) (by decide+kernel)];unfold iM dD;omega
theorem Ry (x:Int):cS .i64 x 1=x % 2:=C2 x 1 1 rfl (by decide)
theorem Rz (x:Int):cS .i64 x 2=0∨cS .i64 x 2=2:=by
 have h3:=C2 x 3 2 rfl (by decide)
 have key: ∀b:Bool,∀c:Bool,True:=fun _ _=>trivial
 unfold cS
 have e:BitVec.ofInt 64 x&&& BitVec.ofInt 64 2=if(BitVec.ofInt 64 x).getLsbD 1 then 2#64 else 0#64:=by
  apply BitVec.eq_of_getLsbD_eq
  intro i hi
  rw[BitVec.getLsbD_and]
  by_cases h1:i=1
  ·subst h1
   cases hb:(BitVec.ofInt 64 x).getLsbD 1<;>simp[hb]
  ·have h2:(BitVec.ofInt 64 2).getLsbD i=false:=by
    have:(BitVec.ofInt 64 2)=2#64:=by decide
    rw[this]
    rw[BitVec.getLsbD_ofNat]
    have:Nat.testBit 2 i=false:=by
     rw[show(2:Nat)=2 ^ 1 from rfl,Nat.testBit_two_pow];simp;omega
    simp[this]
   rw[h2,Bool.and_false]
   split
   ·rw[BitVec.getLsbD_ofNat]
    have:Nat.testBit 2 i=false:=by
     rw[show(2:Nat)=2 ^ 1 from rfl,Nat.testBit_two_pow];simp;omega
    simp[this]
   ·simp
 show IntKind.wrap .i64 ((BitVec.ofInt 64 x&&& BitVec.ofInt 64 2).toNat:Int)=0∨IntKind.wrap .i64 ((BitVec.ofInt 64 x&&& BitVec.ofInt 64 2).toNat:Int)=2
 rw[e]
 cases (BitVec.ofInt 64 x).getLsbD 1
 ·left;decide
 ·right;decide
theorem QR {k post:Int} (h:1≤k∧k≤12):pM k post 32↔IE k post:=by
 rw[tB (p:=fun k _ b2=>k=9∨b2=true) (by decide+kernel)]
 have:=Rz post
 unfold IE
 rw[bne_iff_ne]
 omega
theorem QS {k post:Int} (h:1≤k∧k≤12):pM k post 64↔GP k post:=by
 rw[tB (p:=fun k b1 _=>k=10∨b1=true) (by decide+kernel)]
 have:=Ry post
 unfold GP
 rw[bne_iff_ne]
 omega
section
variable {h:ae}
theorem jG (nv:Nv) (what:Int) (hT:KT h):aq P cf #[nv.v,.int .i64 what] h fun v h'=>v= .bool (decide (pM nv.kind nv.post what))∧cu no h h':=by
 refine Ee _ _ ?_
 unfold G7
 have S:=(aK.start h no).read (blk 0 (az aS)) hT
 refine aC (cs:=nv.cells) S fun b1 h1 _ S=> ?_
 dsimp only[List.cons_append,List.nil_append] at S
 have no1: ¬(1≤nv.kind∧nv.kind≤12)→Value.bool false= .bool (decide (pM nv.kind nv.post what)):=fun hn=>by rw[decide_eq_false];rintro⟨h1,h2,_⟩;exact hn ⟨h1,h2⟩
 refine af (n:=nv.kind) (S.cell 0 rfl rfl) (au (fun h1=>⟨no1 (by omega),S.fra⟩) fun h1=> ?_)
 refine af (n:=nv.kind) (S.cell 0 rfl rfl) (au (fun h2=>⟨no1 (by omega),S.fra⟩) fun h2=> ?_)
 refine af (n:=nv.kind) (S.cell 0 rfl rfl) (ig (by omega) (by omega) ?_)
 obtain⟨k,ek⟩: ∃k:Nat,nv.kind=k:=⟨nv.kind.toNat,by omega⟩
 have hk:k<aS.length:=by show k<13;omega
 rw[ek]
 simp only[aY,Int.toNat_natCast,Nat.mul_one,Nat.zero_add]
 refine af (n:=aS.getD k 0) (S.cellR 0 rfl (by rw[List.getD_eq_getElem?_getD,List.getElem?_eq_getElem hk];exact aN (List.getElem?_eq_getElem hk))) ?_
 refine af (n:=nv.post) (S.cell 0 rfl rfl) ?_
 have fin: ∀x:Int,x=Da k (cS .i64 nv.post 1 !=0) (cS .i64 nv.post 2 !=0)→Value.bool (cS .i64 x what !=0)= .bool (decide (pM (k:Int) nv.post what)):=by
  rintro x rfl
  congr 1
  rw[Bool.eq_iff_iff,bne_iff_ne,decide_eq_true_iff]
  unfold pM
  rw[Int.toNat_natCast]
  exact⟨fun h=>⟨by omega,by omega,h⟩,fun h=>h.2.2⟩
 refine bj (fun e1=> ?_) (fun e1=> ?_)
 ·refine af (n:=nv.post) (S.cell 0 rfl rfl) (bj (fun e2=> ?_) (fun e2=> ?_))
  ·exact⟨fin _ (by unfold Da;rw[bne_iff_ne.2 e1,bne_iff_ne.2 e2];rfl),S.fra⟩
  ·exact⟨fin _ (by unfold Da;rw[bne_iff_ne.2 e1,e2];rfl),S.fra⟩
 ·refine af (n:=nv.post) (S.cell 0 rfl rfl) (bj (fun e2=> ?_) (fun e2=> ?_))
  ·exact⟨fin _ (by unfold Da;rw[e1,bne_iff_ne.2 e2];rfl),S.fra⟩
  ·exact⟨fin _ (by unfold Da;rw[e1,e2];rfl),S.fra⟩
theorem oC (x lo hi:Int):aq P cV #[.int .i64 x,.int .i64 lo,.int .i64 hi] h fun v h'=>v= .bool (decide (dw x lo hi))∧h'=h:=by
 refine FX _ _ _ ?_
 unfold Kb
 refine au (fun h1=>⟨?_,rfl⟩) (fun h1=>⟨?_,rfl⟩)
 ·congr 1;rw[decide_eq_decide];omega
 ·rw[decide_eq_false (by omega)]
theorem Db {p:Option Addr} {l c:Nat} {xs:List Int} (hx:bT h p (az xs)) (hl:xs.length=l) (hl2:l<2 ^ 62) (lo hi:Int):
 aq P dL #[.slice p l c,.int .i64 lo,.int .i64 hi] h fun v h'=>v= .bool (decide (bo lo hi xs))∧h'=h:=by
 refine AO _ _ _ _ _ ?_
 unfold Cr
 refine aT (fun m s g=>g=h∧ ∃i:Nat,s=(lo,hi,(p,l,c),(l:Int),(i:Int),())∧i≤l∧m=l-i∧bo lo hi (xs.take i)) l ⟨rfl,0,rfl,by omega,rfl,by rw[List.take_zero];exact cD _ _⟩ ?_
 rintro m s g ⟨rfl,i,rfl,hi',rfl,hf⟩
 unfold vn
 dsimp only
 refine au (fun hlt=> ?_) (fun hge=> ?_)
 ·have hix:i<xs.length:=by omega
  obtain⟨aa,rfl⟩:=hx.some_of (by rw[aB];omega)
  have hc:=hx.cell (aN (List.getElem?_eq_getElem hix))
  refine aG rfl rfl (by omega) ?_
  simp only[Int.toNat_natCast,Nat.mul_one]
  refine af hc ?_
  refine(oC xs[i] lo hi).mono ?_
  rintro _ _ ⟨rfl,rfl⟩
  refine⟨_,rfl,?_⟩
  refine bN (au (fun h1=> ?_) (fun h1=> ?_))
  ·rw[al (by omega)]
   exact⟨l-(i+1),by omega,by trivial,i+1,rfl,by omega,rfl,(iu hix).2 ⟨hf,h1⟩⟩
  ·exact⟨by rw[decide_eq_false (fun h=>h1 (h _ (List.getElem_mem hix)))],by trivial⟩
 ·rw[List.take_of_length_le (by omega)] at hf
  exact⟨by rw[decide_eq_true hf],by trivial⟩
theorem xT (nv:Nv) (hT:KT h) (hs: -2 ^ 20≤nv.size∧nv.size≤2 ^ 20) (hg: -2 ^ 20≤nv.gap∧nv.gap≤2 ^ 20):aq P gA #[nv.v] h fun v h'=>v= .int .i64 nv.nd.span∧cu no h h':=by
 refine Cu _ ?_
 unfold EW
 have S:=(aK.start h no).read (blk 0 (az aS)) hT
 refine aC (cs:=nv.cells) S fun b1 h1 _ S=> ?_
 dsimp only[List.cons_append,List.nil_append] at S
 refine aQ S 0 rfl (x:=nv.t) rfl ?_
 have e:nv.nd.span=if nv.kind=12 then nv.size else if dD nv.kind then(nv.size-1)*nv.gap+1 else 1:=rfl
 rw[e]
 refine(jG nv 1 (S.r 0 _ rfl)).mono ?_
 rintro _ _ ⟨rfl,F⟩
 refine⟨_,rfl,?_⟩
 replace S:=S.fra0 F
 refine au (fun h2=> ?_) (fun h2=> ?_)
 ·rw[Gl] at h2
  refine af (n:=nv.size) (S.cell 0 rfl rfl) (af (n:=nv.gap) (S.cell 0 rfl rfl) ?_)
  rw[if_neg (by unfold dD at h2;omega),if_pos h2]
  have h3: -2 ^ 42≤(nv.size-1)*nv.gap∧(nv.size-1)*nv.gap≤2 ^ 42:=by
   have a1:(nv.size-1).natAbs≤2 ^ 21:=by omega
   have a2:nv.gap.natAbs≤2 ^ 20:=by omega
   have a3:((nv.size-1)*nv.gap).natAbs≤2 ^ 21*2 ^ 20:=by rw[Int.natAbs_mul];exact Nat.mul_le_mul a1 a2
   omega
  rw[al (n:=nv.size-1) (by omega),al (n:=(nv.size-1)*nv.gap) (by omega),al (by omega)]
  exact⟨rfl,S.fra⟩
 ·rw[Gl] at h2
  refine aQ S 0 rfl (x:=nv.t) rfl ?_
  refine(jG nv 16 (S.r 0 _ rfl)).mono ?_
  rintro _ _ ⟨rfl,F⟩
  refine⟨_,rfl,?_⟩
  replace S:=S.fra0 F
  refine au (fun h3=> ?_) (fun h3=> ?_)
  ·rw[Kn] at h3
   refine af (n:=nv.size) (S.cell 0 rfl rfl) ?_
   rw[if_pos h3];exact⟨rfl,S.fra⟩
  ·rw[Kn] at h3
   rw[if_neg h3,if_neg h2];exact⟨rfl,S.fra⟩
theorem OG (nv:Nv) (hT:KT h):aq P nX #[nv.v] h fun v h'=>v= .int .i64 (fg nv.kind nv.step)∧cu no h h':=by
 refine Cy _ ?_
 unfold EY
 have S:=(aK.start h no).read (blk 0 (az aS)) hT
 refine aC (cs:=nv.cells) S fun b1 h1 _ S=> ?_
 dsimp only[List.cons_append,List.nil_append] at S
 refine aQ S 0 rfl (x:=nv.t) rfl ?_
 refine(jG nv 1 (S.r 0 _ rfl)).mono ?_
 rintro _ _ ⟨rfl,F⟩
 refine⟨_,rfl,?_⟩
 replace S:=S.fra0 F
 unfold fg
 refine au (fun h2=> ?_) (fun h2=> ?_)
 ·rw[Gl] at h2
  refine af (n:=nv.step) (S.cell 0 rfl rfl) ?_
  rw[if_pos h2];exact⟨rfl,S.fra⟩
 ·rw[Gl] at h2
  rw[if_neg h2];exact⟨rfl,S.fra⟩
end
end Go.Proofs.YtdhpmegbmjoekaaGreatDoor.G
end
section
namespace Go.Proofs.YtdhpmegbmjoekaaGreatDoor.G
open Go Go.Sh
set_option linter.unusedVariables false
set_option linter.unusedSimpArgs false
section
variable {h:ae}
theorem OH {nv:Nv} (hok:nv.ok) (hT:KT h) (hk:dw nv.kind 1 12):aq P dQ #[nv.v] h fun v h'=>v= .bool (decide nv.nd.else0)∧cu no h h':=by
 refine Ct _ ?_
 unfold EV
 have lw:=hok.2.1.1
 have lb:=hok.2.2.1
 have iff:=yr nv
 have S:=(aK.start h no).read (blk 0 (az aS)) hT
 refine aC (cs:=nv.cells) S fun b1 h1 _ S=> ?_
 dsimp only[List.cons_append,List.nil_append] at S
 refine⟨fun s g=> ∃t1 t2 t3 t4 t5 t6:Bool,s=(⟨b1,0,none⟩,((1:Int),t1,(17:Int),t2,(2:Int),t3,(4:Int),t4,(32:Int),t5,(64:Int),t6,()),(0:Int),())∧
  (t1=true↔ ¬(nv.step=0∧nv.gap=0∧nv.left=0∧nv.right=0))∧(t2=true↔nv.size≠0)∧(t3=true↔nv.width≠0)∧(t4=true↔ ¬(nv.weights.xs.length=0∧nv.bias.xs.length=0))∧
  (t5=true↔ ¬(nv.low=0∧nv.high=0))∧(t6=true↔ ¬(nv.mult=0∧nv.shift=0))∧aK h no g [blk b1 nv.cells] [blk 0 (az aS)],?_,?_⟩
 ·rintro s g ⟨t1,t2,t3,t4,t5,t6,rfl,e1,e2,e3,e4,e5,e6,S⟩
  unfold xw
  dsimp only
  have ew: ∃wl:List (Int×Bool),wl=[(1,t1),(17,t2),(2,t3),(4,t4),(32,t5),(64,t6)]:=⟨_,rfl⟩
  obtain⟨wl,ewl⟩:=ew
  have hlen:wl.length=6:=by rw[ewl];rfl
  have h0:nv.nd.else0↔ ∀x∈wl,x.2=true→pM nv.kind nv.post x.1:=by
   rw[iff,ewl]
   simp only[List.mem_cons,List.not_mem_nil,or_false,forall_eq_or_imp,forall_eq,Gl,M4,M2,M3,QR hk,QS hk,e1,e2,e3,e4,e5,e6]
   unfold iM
   constructor
   ·rintro⟨a1,a2,a3,a4,a5,a6⟩
    exact⟨fun x=>Classical.byContradiction fun y=>x (a1 y),fun x=>Classical.byContradiction fun y=>x (a2 ⟨fun z=>y (.inl z),fun z=>y (.inr z)⟩),fun x=>Classical.byContradiction fun y=>x (a3 y),fun x=>Classical.byContradiction fun y=>x (a4 y),fun x=>a6.resolve_right x,fun x=>a5.resolve_right x⟩
   ·rintro⟨a1,a2,a3,a4,a5,a6⟩
    exact⟨fun x=>Classical.byContradiction fun y=>x (a1 y),fun x=>Classical.byContradiction fun y=>(a2 y).elim x.1 x.2,fun x=>Classical.byContradiction fun y=>x (a3 y),fun x=>Classical.byContradiction fun y=>x (a4 y),Classical.or_iff_not_imp_right.2 a6,Classical.or_iff_not_imp_right.2 a5⟩
  refine aT (fun m s' g'=> ∃i:Nat,s'=(⟨b1,0,none⟩,((1:Int),t1,(17:Int),t2,(2:Int),t3,(4:Int),t4,(32:Int),t5,(64:Int),t6,()),(i:Int),())∧i≤6∧m=6-i∧(∀x∈wl.take i,x.2=true→pM nv.kind nv.post x.1)∧aK h no g' [blk b1 nv.cells] [blk 0 (az aS)]) 6 ⟨0,rfl,by omega,rfl,by simp,S⟩ ?_
  clear S
  rintro m s' g' ⟨i,rfl,hi,rfl,hall,S⟩
  unfold xv
  dsimp only
  refine au (fun hlt=> ?_) (fun hge=> ?_)
  ·have hix:i<wl.length:=by omega
   obtain⟨n,b,hw,hx⟩: ∃(n:Int) (b:Bool),wl[i]=(n,b)∧Array.extract (#[(.int .i64 1),(.bool t1),(.int .i64 17),(.bool t2),(.int .i64 2),(.bool t3),(.int .i64 4),(.bool t4),(.int .i64 32),(.bool t5),(.int .i64 64),(.bool t6)]:Array Value) (i*2) (i*2+2)=(#[(.int .i64 n),(.bool b)]:Array Value):=by
    subst ewl
    have:i=0∨i=1∨i=2∨i=3∨i=4∨i=5:=by omega
    rcases this with rfl|rfl|rfl|rfl|rfl|rfl<;>exact⟨_,_,rfl,rfl⟩
   refine ig (by omega) (by omega) ?_
   simp only[Int.toNat_natCast]
   refine⟨n,b,hx,?_⟩
   refine aC S (fun b8 _ _ S=> ?_)
   dsimp only[List.cons_append,List.nil_append] at S
   refine aJ S 1 rfl (Nat.le_of_ble_eq_true rfl) fun _ _ S=> ?_
   dsimp only[List.set] at S
   refine aJ S 1 rfl (Nat.le_of_ble_eq_true rfl) fun _ _ S=> ?_
   dsimp only[List.set] at S
   refine tA (n:=b) (S.cell 1 rfl rfl) ?_
   have next:(b=true→pM nv.kind nv.post n)→ ∀x∈wl.take (i+1),x.2=true→pM nv.kind nv.post x.1:=by
    intro hb x hx
    rw[List.take_succ_eq_append_getElem hix] at hx
    rcases List.mem_append.1 hx with hx|hx
    ·exact hall x hx
    ·simp only[List.mem_singleton] at hx;subst hx;rw[hw];exact hb
   refine hZ (fun hb=> ?_) (fun hb=> ?_)
   ·refine aQ S 0 rfl (x:=nv.t) rfl (af (n:=n) (S.cell 1 rfl rfl) ?_)
    refine(jG nv n (S.r 0 _ rfl)).mono ?_
    rintro _ _ ⟨rfl,F⟩
    refine⟨_,rfl,?_⟩
    replace S:=S.fra0 F
    refine bN (au (fun h2=> ?_) (fun h2=> ?_))
    ·rw[al (by omega)]
     exact⟨6-(i+1),by omega,i+1,rfl,by omega,rfl,next fun _=>h2,S.pw [0]⟩
    ·refine⟨?_,S.fra⟩
     rw[decide_eq_false]
     intro he
     have:=h0.1 he wl[i] (List.getElem_mem hix)
     rw[hw] at this
     exact h2 (this hb)
   ·rw[al (by omega)]
    exact⟨6-(i+1),by omega,i+1,rfl,by omega,rfl,next (fun h=>by rw[hb] at h;cases h),S.pw [0]⟩
  ·rw[List.take_of_length_le (by omega)] at hall
   exact⟨by rw[decide_eq_true (h0.2 hall)],S.fra⟩
 have leaf: ∀{t1 t2 t3 t4 t5 t6:Bool} {g:ae},aK h no g [blk b1 nv.cells] [blk 0 (az aS)]→(t1=true↔ ¬(nv.step=0∧nv.gap=0∧nv.left=0∧nv.right=0))→(t2=true↔nv.size≠0)→(t3=true↔nv.width≠0)→(t4=true↔ ¬(nv.weights.xs.length=0∧nv.bias.xs.length=0))→
  (t5=true↔ ¬(nv.low=0∧nv.high=0))→(t6=true↔ ¬(nv.mult=0∧nv.shift=0))→ ∃s1 s2 s3 s4 s5 s6:Bool,((⟨b1,0,none⟩:Addr),((1:Int),t1,(17:Int),t2,(2:Int),t3,(4:Int),t4,(32:Int),t5,(64:Int),t6,()),(0:Int),())=(⟨b1,0,none⟩,((1:Int),s1,(17:Int),s2,(2:Int),s3,(4:Int),s4,(32:Int),s5,(64:Int),s6,()),(0:Int),())∧
  (s1=true↔ ¬(nv.step=0∧nv.gap=0∧nv.left=0∧nv.right=0))∧(s2=true↔nv.size≠0)∧(s3=true↔nv.width≠0)∧(s4=true↔ ¬(nv.weights.xs.length=0∧nv.bias.xs.length=0))∧
  (s5=true↔ ¬(nv.low=0∧nv.high=0))∧(s6=true↔ ¬(nv.mult=0∧nv.shift=0))∧aK h no g [blk b1 nv.cells] [blk 0 (az aS)]:=fun S a1 a2 a3 a4 a5 a6=>⟨_,_,_,_,_,_,rfl,a1,a2,a3,a4,a5,a6,S⟩
 have st:=fun k (v:Value) (e:nv.cells[k]? =some v)=>S.cell 0 (k:=k) (v:=v) rfl e
 have rest1: ∀t1:Bool,(t1=true↔ ¬(nv.step=0∧nv.gap=0∧nv.left=0∧nv.right=0))→(t1=true↔ ¬(nv.step=0∧nv.gap=0∧nv.left=0∧nv.right=0)):=fun _ x=>x
 refine af (n:=nv.step) (S.cell 0 rfl rfl) (bj (fun c1=> ?kxa) (fun c1=> ?kxb))
 case' kxb=>refine af (n:=nv.gap) (S.cell 0 rfl rfl) (bj (fun c2=> ?kxc) (fun c2=> ?kxd))
 case' kxd=>refine af (n:=nv.left) (S.cell 0 rfl rfl) (bj (fun c3=> ?kxe) (fun c3=> ?kxf))
 case' kxf=>refine af (n:=nv.right) (S.cell 0 rfl rfl) ?_
 all_goals
  refine af (n:=nv.size) (S.cell 0 rfl rfl) (af (n:=nv.width) (S.cell 0 rfl rfl) (am (p:=nv.weights.p) (l:=nv.weights.l) (c:=nv.weights.c) (S.cell 0 rfl rfl) (au (fun d1=> ?_) (fun d1=>am (p:=nv.bias.p) (l:=nv.bias.l) (c:=nv.bias.c) (S.cell 0 rfl rfl) ?_))))
 all_goals
  refine af (n:=nv.low) (S.cell 0 rfl rfl) (bj (fun l1=> ?_) (fun l1=>af (n:=nv.high) (S.cell 0 rfl rfl) ?_))
 all_goals
  refine af (n:=nv.mult) (S.cell 0 rfl rfl) (bj (fun m1=> ?_) (fun m1=>af (n:=nv.shift) (S.cell 0 rfl rfl) ?_))
 all_goals
  refine leaf S ?_ ?_ ?_ ?_ ?_ ?_
 all_goals first
  |(simp only[true_iff];omega)
  |(simp only[bne_iff_ne,ne_eq,decide_eq_true_eq];done)
  |(simp only[bne_iff_ne,ne_eq,decide_eq_true_eq];omega)
theorem OI {nv:Nv} (hok:nv.ok) (hr:nv.rows.P h) (hlw:nv.weights.l<2 ^ 62) (hlb:nv.bias.l<2 ^ 62) (hT:KT h) {w:Int} (hw:1≤w∧w≤16):aq P dR #[nv.v,.int .i64 w] h fun v h'=>v= .bool (decide (nv.nd.sized w))∧cu no h h':=by
 refine Cv _ _ ?_
 unfold EX
 have lw:=hok.2.1.1
 have lb:=hok.2.2.1
 have iff:=yt nv w
 have S:=((aK.start h no).read (blk 0 (az aS)) hT).read nv.rows hr
 refine aC (cs:=nv.cells) S fun b1 h1 _ S=> ?_
 dsimp only[List.cons_append,List.nil_append] at S
 have bad: ∀g,aK h no g [blk b1 nv.cells] [blk 0 (az aS),nv.rows]→ ¬nv.nd.sized w→Value.bool false= .bool (decide (nv.nd.sized w))∧cu no h g:=fun g S hn=>⟨by rw[decide_eq_false hn],S.fra⟩
 refine⟨fun s g=>s=(w,⟨b1,0,none⟩,())∧aK h no g [blk b1 nv.cells] [blk 0 (az aS),nv.rows]∧(iM nv.kind→dw nv.size 1 8)∧(wide nv.kind→dw nv.width 1 16),?_,?_⟩
 ·rintro s g ⟨rfl,S,c1,c2⟩
  unfold xy
  dsimp only
  refine⟨fun s g=>s=(w,⟨b1,0,none⟩,())∧aK h no g [blk b1 nv.cells] [blk 0 (az aS),nv.rows]∧(dD nv.kind→dw nv.step 1 4∧dw nv.gap 1 4∧(0≤nv.left∧nv.left<nv.nd.span)∧(0≤nv.right∧nv.right<nv.nd.span)),?_,?_⟩
  ·rintro s g ⟨rfl,S,c3⟩
   unfold xx
   dsimp only
   refine⟨fun s g=>s=(⟨b1,0,none⟩,())∧aK h no g [blk b1 nv.cells] [blk 0 (az aS),nv.rows]∧
    (jb nv.kind→(nv.weights.xs.length:Int)=nv.nd.wcount w∧(nv.bias.xs.length:Int)=(if nv.kind=2 then w else nv.width)∧bo (-128) 127 nv.weights.xs∧bo (-16777216) 16777216 nv.bias.xs),?_,?_⟩
   ·rintro s g ⟨rfl,S,c4⟩
    unfold vo
    simp only[aY,Nat.zero_add]
    refine af (n:=nv.mult) (S.cell 0 rfl rfl) ?_
    refine(oC nv.mult 0 32767).mono ?_
    rintro _ _ ⟨rfl,rfl⟩
    refine⟨_,rfl,?_⟩
    refine au (fun f1=> ?_) (fun f1=>bad _ S fun hs=>f1 (iff.1 hs).2.2.2.2.1)
    refine af (n:=nv.shift) (S.cell 0 rfl rfl) ?_
    refine(oC nv.shift 0 30).mono ?_
    rintro _ _ ⟨rfl,rfl⟩
    refine⟨_,rfl,?_⟩
    refine au (fun f2=> ?_) (fun f2=>bad _ S fun hs=>f2 (iff.1 hs).2.2.2.2.2.1)
    refine af (n:=nv.low) (S.cell 0 rfl rfl) (af (n:=nv.high) (S.cell 0 rfl rfl) ?_)
    refine(oC nv.low (-2147483648) nv.high).mono ?_
    rintro _ _ ⟨rfl,rfl⟩
    refine⟨_,rfl,?_⟩
    refine au (fun f3=> ?_) (fun f3=>bad _ S fun hs=>f3 (by have:=(iff.1 hs).2.2.2.2;unfold fz at this;omega))
    refine af (n:=nv.high) (S.cell 0 rfl rfl) (af (n:=nv.low) (S.cell 0 rfl rfl) ?_)
    refine(oC nv.high nv.low 2147483647).mono ?_
    rintro _ _ ⟨rfl,rfl⟩
    refine⟨_,rfl,?_⟩
    refine⟨?_,S.fra⟩
    congr 1
    rw[decide_eq_decide,iff]
    constructor
    ·intro f4
     exact⟨c1,c3,c2,c4,f1,f2,by unfold fz fD;omega,by unfold fz fD;omega,by omega⟩
    ·rintro⟨_,_,_,_,_,_,_,f5,f6⟩
     unfold fz fD at f5;omega
   ·simp only[aY,Nat.zero_add]
    refine aQ S 0 rfl (x:=nv.t) rfl ?_
    refine(jG nv 4 (S.r 0 _ rfl)).mono ?_
    rintro _ _ ⟨rfl,F⟩
    refine⟨_,rfl,?_⟩
    replace S:=S.fra0 F
    refine au (fun h4=> ?_) (fun h4=>⟨by trivial,S,fun hn=>absurd (M3.2 hn) h4⟩)
    rw[M3] at h4
    have wrow: ∀{g:ae},aK h no g [blk b1 nv.cells] [blk 0 (az aS),nv.rows]→bT g nv.weights.p (az nv.weights.xs):=fun S=>S.r 1 _ rfl nv.weights.row (by simp)
    have brow: ∀{g:ae},aK h no g [blk b1 nv.cells] [blk 0 (az aS),nv.rows]→bT g nv.bias.p (az nv.bias.xs):=fun S=>S.r 1 _ rfl nv.bias.row (by simp)
    refine af (n:=nv.width) (S.cell 0 rfl rfl) (af (n:=nv.kind) (S.cell 0 rfl rfl) ?_)
    have no4: ¬((nv.weights.xs.length:Int)=nv.nd.wcount w∧(nv.bias.xs.length:Int)=(if nv.kind=2 then w else nv.width)∧bo (-128) 127 nv.weights.xs∧bo (-16777216) 16777216 nv.bias.xs)→ ¬nv.nd.sized w:=fun hn hs=>hn ((iff.1 hs).2.2.2.1 h4)
    have ewc:nv.nd.wcount w=if nv.kind=1 then nv.width*nv.size*w else if nv.kind=2 then w*nv.size else nv.width*w:=rfl
    rw[ewc] at no4
    refine aO (fun k2=> ?k2) (fun k2=>aO (fun k1=> ?k1) (fun k1=> ?k6))
    case' k2=>
     rw[if_neg (by omega),if_pos k2,if_pos k2] at no4
     have c:=c1 (by unfold iM dD;omega)
     have bm:=jW (a:=w) (b:=nv.size) (x:=16) (y:=8) (by omega) (by omega)
     refine af (n:=nv.size) (S.cell 0 rfl rfl) ?_
     rw[Int.one_mul,al (n:=nv.size) (by omega),al (n:=w*nv.size) (by omega)]
    case' k1=>
     rw[if_pos k1,if_neg k2] at no4
     have c:=c1 (by unfold iM dD;omega)
     have c':=c2 (by unfold wide;omega)
     have bm:=jW (a:=w) (b:=nv.size) (x:=16) (y:=8) (by omega) (by omega)
     have bm2:=jW (a:=nv.width) (b:=w*nv.size) (x:=16) (y:=128) (by omega) (by omega)
     have ee:nv.width*nv.size*w=nv.width*(w*nv.size):=by rw[Int.mul_assoc,Int.mul_comm nv.size w]
     rw[ee] at no4
     refine af (n:=nv.size) (S.cell 0 rfl rfl) ?_
     rw[al (n:=w*nv.size) (by omega),al (n:=nv.width*(w*nv.size)) (by omega)]
    case' k6=>
     rw[if_neg k1,if_neg k2,if_neg k2] at no4
     have c':=c2 (by unfold wide;unfold jb at h4;omega)
     have bm:=jW (a:=nv.width) (b:=w) (x:=16) (y:=16) (by omega) (by omega)
     rw[al (n:=nv.width*w) (by omega)]
    all_goals
     refine am (p:=nv.weights.p) (l:=nv.weights.l) (c:=nv.weights.c) (S.cell 0 rfl rfl) (bj (fun g1=>bad _ S (no4 fun hh=>g1 (by rw[←lw];exact hh.1))) fun g1=> ?_)
     refine am (p:=nv.bias.p) (l:=nv.bias.l) (c:=nv.bias.c) (S.cell 0 rfl rfl) (bj (fun g2=>bad _ S (no4 fun hh=>g2 (by rw[←lb];exact hh.2.1))) fun g2=> ?_)
     refine am (p:=nv.weights.p) (l:=nv.weights.l) (c:=nv.weights.c) (S.cell 0 rfl rfl) ?_
     refine(Db (wrow S) lw hlw (-128) 127).mono ?_
     rintro _ _ ⟨rfl,rfl⟩
     refine⟨_,rfl,?_⟩
     refine bN (au (fun g3=> ?_) (fun g3=>bad _ S (no4 fun hh=>g3 hh.2.2.1)))
     refine am (p:=nv.bias.p) (l:=nv.bias.l) (c:=nv.bias.c) (S.cell 0 rfl rfl) ?_
     refine(Db (brow S) lb hlb (-16777216) 16777216).mono ?_
     rintro _ _ ⟨rfl,rfl⟩
     refine⟨_,rfl,?_⟩
     refine bN (au (fun g4=> ?_) (fun g4=>bad _ S (no4 fun hh=>g4 hh.2.2.2)))
     refine⟨by trivial,S,fun _=> ?_⟩
     rw[ewc]
    all_goals first
     |(rw[if_pos k1,if_neg k2,ee];exact⟨by rw[lw];exact g1,by rw[lb];exact g2,g3,g4⟩)
     |(rw[if_neg k1,if_neg k2,if_neg k2];exact⟨by rw[lw];exact g1,by rw[lb];exact g2,g3,g4⟩)
     |(rw[if_neg (by omega),if_pos k2,if_pos k2];exact⟨by rw[lw];exact g1,by rw[lb];exact g2,g3,g4⟩)
  ·simp only[aY,Nat.zero_add]
   refine aQ S 0 rfl (x:=nv.t) rfl ?_
   refine(jG nv 1 (S.r 0 _ rfl)).mono ?_
   rintro _ _ ⟨rfl,F⟩
   refine⟨_,rfl,?_⟩
   replace S:=S.fra0 F
   refine au (fun h1=> ?_) (fun h1=>⟨by trivial,S,fun hn=>absurd (Gl.2 hn) h1⟩)
   rw[Gl] at h1
   have c:=c1 (.inl h1)
   refine af (n:=nv.step) (S.cell 0 rfl rfl) ?_
   refine(oC nv.step 1 4).mono ?_
   rintro _ _ ⟨rfl,rfl⟩
   refine⟨_,rfl,?_⟩
   refine au (fun f1=> ?_) (fun f1=>cq rfl (bad _ S fun hs=>f1 ((iff.1 hs).2.1 h1).1))
   refine af (n:=nv.gap) (S.cell 0 rfl rfl) ?_
   refine(oC nv.gap 1 4).mono ?_
   rintro _ _ ⟨rfl,rfl⟩
   refine⟨_,rfl,?_⟩
   refine au (fun f2=> ?_) (fun f2=>cq rfl (bad _ S fun hs=>f2 ((iff.1 hs).2.1 h1).2.1))
   have hspan:nv.nd.span=(nv.size-1)*nv.gap+1:=by
    have e:nv.nd.span=if nv.kind=12 then nv.size else if dD nv.kind then(nv.size-1)*nv.gap+1 else 1:=rfl
    rw[e,if_neg (by unfold dD at h1;omega),if_pos h1]
   have bm:=jW (a:=nv.size-1) (b:=nv.gap) (x:=7) (y:=4) (by omega) (by omega)
   refine af (n:=nv.left) (S.cell 0 rfl rfl) (aQ S 0 rfl (x:=nv.t) rfl ?_)
   refine(xT nv (S.r 0 _ rfl) (by omega) (by omega)).mono ?_
   rintro _ _ ⟨rfl,F⟩
   refine⟨_,rfl,?_⟩
   replace S:=S.fra0 F
   refine bf (S.cell 0 rfl rfl) ?_
   rw[al (n:=nv.nd.span-1) (by omega)]
   refine(oC nv.left 0 (nv.nd.span-1)).mono ?_
   rintro _ _ ⟨rfl,rfl⟩
   refine⟨_,rfl,?_⟩
   refine au (fun f3=> ?_) (fun f3=>bf (S.cell 0 rfl rfl) (bf (S.cell 0 rfl rfl) (cq rfl (bad _ S fun hs=>f3 (by have:=((iff.1 hs).2.1 h1).2.2.1;omega)))))
   refine af (n:=nv.right) (S.cell 0 rfl rfl) (aQ S 0 rfl (x:=nv.t) rfl ?_)
   refine(xT nv (S.r 0 _ rfl) (by omega) (by omega)).mono ?_
   rintro _ _ ⟨rfl,F⟩
   refine⟨_,rfl,?_⟩
   replace S:=S.fra0 F
   refine bf (S.cell 0 rfl rfl) (bf (S.cell 0 rfl rfl) ?_)
   rw[al (n:=nv.nd.span-1) (by omega)]
   refine(oC nv.right 0 (nv.nd.span-1)).mono ?_
   rintro _ _ ⟨rfl,rfl⟩
   refine⟨_,rfl,?_⟩
   refine bf (S.cell 0 rfl rfl) (bN (au (fun f4=> ?_) (fun f4=>bad _ S fun hs=>f4 (by have:=((iff.1 hs).2.1 h1).2.2.2;omega))))
   exact⟨by trivial,S,fun _=>⟨f1,f2,by omega,by omega⟩⟩
 ·have fin: ∀g,aK h no g [blk b1 nv.cells] [blk 0 (az aS),nv.rows]→(iM nv.kind→dw nv.size 1 8)→(wide nv.kind→dw nv.width 1 16)→((w,(⟨b1,0,none⟩:Addr),())=(w,⟨b1,0,none⟩,())∧aK h no g [blk b1 nv.cells] [blk 0 (az aS),nv.rows]∧(iM nv.kind→dw nv.size 1 8)∧(wide nv.kind→dw nv.width 1 16)):=fun g S a b=>⟨rfl,S,a,b⟩
  refine aQ S 0 rfl (x:=nv.t) rfl ?_
  refine(jG nv 17 (S.r 0 _ rfl)).mono ?_
  rintro _ _ ⟨rfl,F⟩
  refine⟨_,rfl,?_⟩
  replace S:=S.fra0 F
  refine au (fun f1=> ?ka) (fun f1=> ?kb)
  case' ka=>
   rw[M4] at f1
   refine af (n:=nv.size) (S.cell 0 rfl rfl) ?_
   refine(oC nv.size 1 8).mono ?_
   rintro _ _ ⟨rfl,rfl⟩
   refine⟨_,rfl,?_⟩
   refine bN (au (fun f2=> ?_) (fun f2=>bad _ S fun hs=>f2 ((iff.1 hs).1 f1)))
   have f3:iM nv.kind→dw nv.size 1 8:=fun _=>f2
   clear f1 f2
  case' kb=>
   rw[M4] at f1
   have f3:iM nv.kind→dw nv.size 1 8:=fun hn=>absurd hn f1
   clear f1
  all_goals
   refine aQ S 0 rfl (x:=nv.t) rfl ?_
   refine(jG nv 2 (S.r 0 _ rfl)).mono ?_
   rintro _ _ ⟨rfl,F⟩
   refine⟨_,rfl,?_⟩
   replace S:=S.fra0 F
   refine au (fun f4=> ?_) (fun f4=>fin _ S f3 fun hn=>absurd (M2.2 hn) f4)
   rw[M2] at f4
   refine af (n:=nv.width) (S.cell 0 rfl rfl) ?_
   refine(oC nv.width 1 16).mono ?_
   rintro _ _ ⟨rfl,rfl⟩
   refine⟨_,rfl,?_⟩
   exact bN (au (fun f5=>fin _ S f3 fun _=>f5) (fun f5=>bad _ S fun hs=>f5 ((iff.1 hs).2.2.1 f4)))
end
end Go.Proofs.YtdhpmegbmjoekaaGreatDoor.G
end
section
namespace Go.Proofs.YtdhpmegbmjoekaaGreatDoor.G
open Go Go.Sh
set_option linter.unusedVariables false
set_option linter.unusedSimpArgs false
section
variable {h:ae}
theorem Dc {nv:Nv} (hok:nv.ok) (hr:nv.rows.P h) (hli:nv.inn.l<2 ^ 62) (hlw:nv.weights.l<2 ^ 62) (hlb:nv.bias.l<2 ^ 62) (hT:KT h) {p:Option Addr} {l c:Nat} {ws:List Int} (hw:bT h p (az ws)) (hl:ws.length=l) (hl2:l<2 ^ 56):
 aq P eQ #[nv.v,.slice p l c] h fun v h'=>v= .int .i64 (nv.nd.chk ws)∧cu no h h':=by
 refine AP _ _ _ _ ?_
 unfold Cw
 have li:=hok.1.1
 have eli:nv.nd.inn.length=nv.inn.l:=li
 have ek:nv.nd.kind=nv.kind:=rfl
 have ep:nv.nd.post=nv.post:=rfl
 have S:=(((aK.start h no).read (blk 0 (az aS)) hT).read nv.rows hr).read (row p (az ws)) hw
 refine aC (cs:=nv.cells) S fun b1 h1 _ S=> ?_
 dsimp only[List.nil_append,List.cons_append] at S
 have ret1:(ws.length≠nv.nd.inn.length∨ ¬bo 1 16 ws)→ ∀g,aK h no g [blk b1 nv.cells] [blk 0 (az aS),nv.rows,row p (az ws)]→Value.int .i64 1= .int .i64 (nv.nd.chk ws)∧cu no h g:=fun hn g S=>⟨by unfold Nd.chk;rw[if_pos hn],S.fra⟩
 refine⟨fun s g=>s=((p,l,c),⟨b1,0,none⟩,())∧aK h no g [blk b1 nv.cells] [blk 0 (az aS),nv.rows,row p (az ws)]∧ ¬(ws.length≠nv.nd.inn.length∨ ¬bo 1 16 ws)∧
  ¬(¬dw nv.nd.kind 1 12∨(dv nv.nd.kind∧ ¬(2≤ws.length∧ws.length≤4))∨(¬dv nv.nd.kind∧ws.length≠1)∨ ¬dw nv.nd.post 0 3∨(nv.nd.post≠0∧ ¬jb nv.nd.kind)∨ ¬nv.nd.else0)∧ ¬ ¬nv.nd.sized (ws.getD 0 0)∧1≤ws.length,?_,?_⟩
 ·rintro s g ⟨rfl,S,n1,nk12,nk22,hl1⟩
  unfold vp
  dsimp only
  have hfit:bo 1 16 ws:=by
   apply Decidable.byContradiction
   intro h;exact n1 (.inr h)
  obtain⟨aa,rfl⟩:=(S.row 2 rfl).some_of (by rw[aB];omega)
  have e0:ws.getD 0 0=ws[0]:=dK hl1
  refine aT (fun m s g=> ∃i:Nat,s=((some aa,l,c),⟨b1,0,none⟩,gN (ws.take i),(some aa,l,c),(l:Int),(i:Int),())∧i≤l∧m=l-i∧(nv.kind=7→ ∀x∈ws.take i,x=ws.getD 0 0)∧aK h no g [blk b1 nv.cells] [blk 0 (az aS),nv.rows,row (some aa) (az ws)]) l ⟨0,rfl,by omega,rfl,by simp,S⟩ ?_
  rintro m s g ⟨i,rfl,hi',rfl,h7,S⟩
  unfold tf
  dsimp only
  refine au (fun hlt=> ?_) (fun hge=> ?_)
  ·have hix:i<ws.length:=by omega
   have hc:=(S.row 2 rfl).cell (aN (List.getElem?_eq_getElem hix))
   have hc0:aD g (Addr.add aa 0)=some (.int .i64 (ws.getD 0 0)):=(S.row 2 rfl).cell (i:=0) (aN (by rw[List.getElem?_eq_getElem (by omega),e0]))
   refine aG rfl rfl (by omega) ?_
   simp only[Int.toNat_natCast,Nat.mul_one]
   refine af hc (af (n:=nv.kind) (S.cell 0 rfl rfl) ?_)
   have hsr:=jz (oZ i hfit)
   rw[List.length_take] at hsr
   have hxi:=hfit ws[i] (List.getElem_mem hix)
   rw[al (n:=gN (ws.take i)+ws[i]) (by omega),al (n:=(i:Int)+1) (by omega),←oY hix]
   refine aO (fun h8=> ?_) (fun h8=> ?_)
   ·refine aG rfl (k:=0) rfl (by omega) ?_
    refine af hc0 (bj (fun h9=>⟨?_,S.fra⟩) (fun h9=> ?_))
    ·have h77:nv.nd.kind=7∧ ¬ ∀x∈ws,x=ws.getD 0 0:=⟨h8,fun h=>h9 (h _ (List.getElem_mem hix))⟩
     unfold Nd.chk;rw[if_neg n1,if_neg nk12,if_neg nk22,if_pos h77]
    ·refine⟨l-(i+1),by omega,i+1,by trivial,by omega,rfl,fun _ x hx=> ?_,S⟩
     rw[List.take_succ_eq_append_getElem hix] at hx
     rcases List.mem_append.1 hx with hx|hx
     ·exact h7 h8 x hx
     ·simp only[List.mem_singleton] at hx;subst hx;exact h9
   ·exact⟨l-(i+1),by omega,i+1,rfl,by omega,rfl,fun h=>absurd h h8,S⟩
  ·rw[List.take_of_length_le (by omega)] at h7 ⊢
   have n14: ¬(nv.nd.kind=7∧ ¬ ∀x∈ws,x=ws.getD 0 0):=fun h=>h.2 (h7 h.1)
   refine af (n:=nv.kind) (S.cell 0 rfl rfl) ?_
   refine aO (fun h8=>au (fun h9=>⟨?_,S.fra⟩) (fun h9=>⟨?_,S.fra⟩)) (fun h8=>⟨?_,S.fra⟩)
   ·have h88:nv.nd.kind=8∧gN ws>16:=⟨h8,h9⟩
    unfold Nd.chk;rw[if_neg n1,if_neg nk12,if_neg nk22,if_neg n14,if_pos h88]
   ·have h88: ¬(nv.nd.kind=8∧gN ws>16):=fun h=>h9 h.2
    unfold Nd.chk;rw[if_neg n1,if_neg nk12,if_neg nk22,if_neg n14,if_neg h88]
   ·have h88: ¬(nv.nd.kind=8∧gN ws>16):=fun h=>h8 h.1
    unfold Nd.chk;rw[if_neg n1,if_neg nk12,if_neg nk22,if_neg n14,if_neg h88]
 ·refine am (p:=nv.inn.p) (l:=nv.inn.l) (c:=nv.inn.c) (S.cell 0 rfl rfl) (bj (fun h3=>ret1 (.inl (by omega)) _ S) fun h3=> ?_)
  refine(Db (S.row 2 rfl) hl (by omega) 1 16).mono ?_
  rintro _ _ ⟨rfl,rfl⟩
  refine⟨_,rfl,?_⟩
  refine bN (au (fun h4=> ?_) (fun h4=>ret1 (.inr h4) _ S))
  have n1: ¬(ws.length≠nv.nd.inn.length∨ ¬bo 1 16 ws):=by
   rintro(h|h)
   ·omega
   ·exact h h4
  have ret12:(¬dw nv.kind 1 12∨(dv nv.kind∧ ¬(2≤ws.length∧ws.length≤4))∨(¬dv nv.kind∧ws.length≠1)∨ ¬dw nv.post 0 3∨(nv.post≠0∧ ¬jb nv.kind)∨ ¬nv.nd.else0)→ ∀g,aK h no g [blk b1 nv.cells] [blk 0 (az aS),nv.rows,row p (az ws)]→Value.int .i64 12= .int .i64 (nv.nd.chk ws)∧cu no h g:=
   fun hn g S=>⟨by rw[←ek,←ep] at hn;unfold Nd.chk;rw[if_neg n1,if_pos hn],S.fra⟩
  refine af (n:=nv.kind) (S.cell 0 rfl rfl) ?_
  refine(oC nv.kind 1 12).mono ?_
  rintro _ _ ⟨rfl,rfl⟩
  refine⟨_,rfl,?_⟩
  refine bN (au (fun k1=> ?_) (fun k1=>ret12 (.inl k1) _ S))
  refine af (n:=nv.post) (S.cell 0 rfl rfl) ?_
  refine(oC nv.post 0 3).mono ?_
  rintro _ _ ⟨rfl,rfl⟩
  refine⟨_,rfl,?_⟩
  refine bN (au (fun k4=> ?_) (fun k4=>ret12 (.inr (.inr (.inr (.inl k4)))) _ S))
  refine af (n:=nv.post) (S.cell 0 rfl rfl) ?_
  refine bj (fun p0=> ?ka) (fun p0=> ?kb)
  case' ka=>
   refine aQ S 0 rfl (x:=nv.t) rfl ?_
   refine(jG nv 4 (S.r 0 _ rfl)).mono ?_
   rintro _ _ ⟨rfl,F⟩
   refine⟨_,rfl,?_⟩
   replace S:=S.fra0 F
   refine bN (au (fun w1=> ?_) (fun w1=>ret12 (.inr (.inr (.inr (.inr (.inl ⟨p0,fun w=>w1 (M3.2 w)⟩))))) _ S))
   have k5:nv.post≠0→jb nv.kind:=fun _=>M3.1 w1
   clear p0 w1
  case' kb=>
   have k5:nv.post≠0→jb nv.kind:=fun n=>absurd p0 n
   clear p0
  all_goals
   refine aQ S 0 rfl (x:=nv.t) rfl ?_
   refine(jG nv 8 (S.r 0 _ rfl)).mono ?_
   rintro _ _ ⟨rfl,F⟩
   refine⟨_,rfl,?_⟩
   replace S:=S.fra0 F
   refine au (fun m1=> ?_) (fun m1=> ?_)
   rotate_left
   refine aQ S 0 rfl (x:=nv.t) rfl ?_
   refine(jG nv 8 (S.r 0 _ rfl)).mono ?_
   rintro _ _ ⟨rfl,F⟩
   refine⟨_,rfl,?_⟩
   replace S:=S.fra0 F
   refine bN (au (fun m2=>absurd m2 m1) (fun m2=> ?_))
   refine bj (fun l1=>ret12 (.inr (.inr (.inl ⟨fun m=>m1 (OE.2 m),by omega⟩))) _ S) (fun l1=> ?_)
   have k2:dv nv.kind→2≤ws.length∧ws.length≤4:=fun m=>absurd (OE.2 m) m1
   have k3: ¬dv nv.kind→ws.length=1:=fun _=>by omega
   clear m2 m1 l1
   rotate_left
   refine(oC (l:Int) 2 4).mono ?_
   rintro _ _ ⟨rfl,rfl⟩
   refine⟨_,rfl,?_⟩
   refine bN (au (fun l1=> ?_) (fun l1=>ret12 (.inr (.inl ⟨OE.1 m1,by omega⟩)) _ S))
   refine aQ S 0 rfl (x:=nv.t) rfl ?_
   refine(jG nv 8 (S.r 0 _ rfl)).mono ?_
   rintro _ _ ⟨rfl,F⟩
   refine⟨_,rfl,?_⟩
   replace S:=S.fra0 F
   refine bN (au (fun m2=> ?_) (fun m2=>absurd m1 m2))
   have k2:dv nv.kind→2≤ws.length∧ws.length≤4:=fun m=>by omega
   have k3: ¬dv nv.kind→ws.length=1:=fun n=>absurd (OE.1 m1) n
   clear m2 m1 l1
  all_goals
   refine aQ S 0 rfl (x:=nv.t) rfl ?_
   refine(OH hok (S.r 0 _ rfl) k1).mono ?_
   rintro _ _ ⟨rfl,F⟩
   refine⟨_,rfl,?_⟩
   replace S:=S.fra0 F
   refine bN (au (fun k6=> ?_) (fun k6=>ret12 (.inr (.inr (.inr (.inr (.inr k6))))) _ S))
   have hl1:1≤ws.length:=by
    by_cases m:dv nv.kind
    ·have:=k2 m;omega
    ·have:=k3 m;omega
   have nk12: ¬(¬dw nv.nd.kind 1 12∨(dv nv.nd.kind∧ ¬(2≤ws.length∧ws.length≤4))∨(¬dv nv.nd.kind∧ws.length≠1)∨ ¬dw nv.nd.post 0 3∨(nv.nd.post≠0∧ ¬jb nv.nd.kind)∨ ¬nv.nd.else0):=by
    rw[ek,ep]
    rintro(h|h|h|h|h|h)
    ·exact h k1
    ·exact h.2 (k2 h.1)
    ·exact h.2 (k3 h.1)
    ·exact h k4
    ·exact h.2 (k5 h.1)
    ·exact h k6
   have hx:=S.row 2 rfl
   obtain⟨aa,eaa⟩:=hx.some_of (by rw[aB];omega)
   rw[eaa] at hx
   refine aG eaa (k:=0) rfl (by omega) (aQ S 0 rfl (x:=nv.t) rfl ?_)
   have e0:ws.getD 0 0=ws[0]:=dK hl1
   refine af (n:=ws.getD 0 0) (hx.cell (i:=0) (aN (by rw[List.getElem?_eq_getElem (by omega),e0]))) ?_
   have hw0:=h4 ws[0] (List.getElem_mem _)
   rw[←e0] at hw0
   refine(OI hok (S.r 1 _ rfl) hlw hlb (S.r 0 _ rfl) hw0).mono ?_
   rintro _ _ ⟨rfl,F⟩
   refine⟨_,rfl,?_⟩
   replace S:=S.fra0 F
   exact bN (au (fun k7=>⟨rfl,S,n1,nk12,fun h=>h k7,hl1⟩) (fun k7=>⟨by unfold Nd.chk;rw[if_neg n1,if_neg nk12,if_pos k7],S.fra⟩))
theorem iH {n:Nd} {ws:List Int} (h:n.chk ws=0):bo 1 16 ws∧1≤ws.length∧ws.length=n.inn.length∧dw n.kind 1 12∧dw n.post 0 3∧(dv n.kind→2≤ws.length∧ws.length≤4)∧(¬dv n.kind→ws.length=1)∧(n.post≠0→jb n.kind)∧n.else0∧n.sized (ws.getD 0 0)∧(n.kind=7→ ∀x∈ws,x=ws.getD 0 0)∧(n.kind=8→gN ws≤16):=by
 unfold Nd.chk at h
 split at h
 ·cases h
 rename_i h1
 split at h
 ·cases h
 rename_i h2
 split at h
 ·cases h
 rename_i h3
 split at h
 ·cases h
 rename_i h4
 split at h
 ·cases h
 rename_i h5
 have a1:bo 1 16 ws:=Decidable.byContradiction fun h=>h1 (.inr h)
 have a2:ws.length=n.inn.length:=Decidable.byContradiction fun h=>h1 (.inl h)
 have a3:dw n.kind 1 12:=Decidable.byContradiction fun h=>h2 (.inl h)
 have a4:dw n.post 0 3:=Decidable.byContradiction fun h=>h2 (.inr (.inr (.inr (.inl h))))
 have a5:dv n.kind→2≤ws.length∧ws.length≤4:=fun m=>Decidable.byContradiction fun h=>h2 (.inr (.inl ⟨m,h⟩))
 have a6: ¬dv n.kind→ws.length=1:=fun m=>Decidable.byContradiction fun h=>h2 (.inr (.inr (.inl ⟨m,h⟩)))
 refine⟨a1,?_,a2,a3,a4,a5,a6,fun p=>Decidable.byContradiction fun h=>h2 (.inr (.inr (.inr (.inr (.inl ⟨p,h⟩))))),Decidable.byContradiction fun h=>h2 (.inr (.inr (.inr (.inr (.inr h))))),Decidable.byContradiction h3,
  fun k=>Decidable.byContradiction fun h=>h4 ⟨k,h⟩,fun k=>by omega⟩
 by_cases m:dv n.kind
 ·have:=a5 m;omega
 ·have:=a6 m;omega
theorem M5 {nv:Nv} (hok:nv.ok) (hr:nv.rows.P h) (hli:nv.inn.l<2 ^ 62) (hlw:nv.weights.l<2 ^ 62) (hlb:nv.bias.l<2 ^ 62) (hT:KT h) {p:Option Addr} {l c:Nat} {ws:List Int} (hw:bT h p (az ws)) (hl:ws.length=l) (hl2:l<2 ^ 56):
 aq P lX #[nv.v,.slice p l c] h fun v h'=>v= .int .i64 (nv.nd.wid ws)∧cu no h h':=by
 refine AR _ _ _ _ ?_
 unfold CB
 have S:=(((aK.start h no).read (blk 0 (az aS)) hT).read nv.rows hr).read (row p (az ws)) hw
 refine aC (cs:=nv.cells) S fun b1 h1 _ S=> ?_
 dsimp only[List.nil_append,List.cons_append] at S
 have ek:nv.nd.kind=nv.kind:=rfl
 refine aQ S 0 rfl (x:=nv.t) rfl ?_
 refine(Dc hok (S.r 1 _ rfl) hli hlw hlb (S.r 0 _ rfl) (S.row 2 rfl) hl hl2).mono ?_
 rintro _ _ ⟨rfl,F⟩
 refine⟨_,rfl,?_⟩
 replace S:=S.fra0 F
 refine bj (fun h3=>⟨by unfold Nd.wid;rw[if_pos h3],S.fra⟩) (fun h3=> ?_)
 have nc: ¬nv.nd.chk ws≠0:=fun h=>h h3
 obtain⟨hfit,hlen1,_⟩:=iH h3
 refine aQ S 0 rfl (x:=nv.t) rfl ?_
 refine(jG nv 2 (S.r 0 _ rfl)).mono ?_
 rintro _ _ ⟨rfl,F⟩
 refine⟨_,rfl,?_⟩
 replace S:=S.fra0 F
 refine au (fun h2=>af (n:=nv.width) (S.cell 0 rfl rfl) ⟨by unfold Nd.wid;rw[if_neg nc,if_pos (by rw[ek];exact M2.1 h2)];rfl,S.fra⟩) (fun h2=> ?_)
 have n1: ¬wide nv.nd.kind:=fun h=>h2 (M2.2 h)
 refine af (n:=nv.kind) (S.cell 0 rfl rfl) (aO (fun h4=>⟨by unfold Nd.wid;rw[if_neg nc,if_neg n1,if_pos (by rw[ek];exact h4)],S.fra⟩) (fun h4=> ?_))
 have n2: ¬nv.nd.kind=11:=h4
 have hx:=S.row 2 rfl
 refine af (n:=nv.kind) (S.cell 0 rfl rfl) (aO (fun h5=> ?_) (fun h5=> ?_))
 ·refine aT (fun m s g=> ∃i:Nat,s=(gN (ws.take i),(p,l,c),(l:Int),(i:Int),())∧i≤l∧m=l-i∧aK h no g [blk b1 nv.cells] [blk 0 (az aS),nv.rows,row p (az ws)]) l ⟨0,rfl,by omega,rfl,S⟩ ?_
  rintro m s g ⟨i,rfl,hi',rfl,S⟩
  unfold tg
  dsimp only
  refine au (fun hlt=> ?_) (fun hge=> ?_)
  ·have hix:i<ws.length:=by omega
   have hx:=S.row 2 rfl
   obtain⟨aa,rfl⟩:=hx.some_of (by rw[aB];omega)
   refine aG rfl rfl (by omega) ?_
   simp only[Int.toNat_natCast,Nat.mul_one]
   refine af (hx.cell (aN (List.getElem?_eq_getElem hix))) ?_
   have hsr:=jz (oZ i hfit)
   rw[List.length_take] at hsr
   have hxi:=hfit ws[i] (List.getElem_mem hix)
   rw[al (n:=gN (ws.take i)+ws[i]) (by omega),al (n:=(i:Int)+1) (by omega),←oY hix]
   exact⟨l-(i+1),by omega,i+1,rfl,by omega,rfl,S⟩
  ·rw[List.take_of_length_le (by omega)]
   have h5': ¬nv.nd.kind≠8:=fun h=>h h5
   exact⟨by unfold Nd.wid;rw[if_neg nc,if_neg n1,if_neg n2,if_neg h5'],S.fra⟩
 ·obtain⟨aa,rfl⟩:=hx.some_of (by rw[aB];omega)
  refine aG rfl (k:=0) rfl (by omega) ?_
  refine af (n:=ws.getD 0 0) (hx.cell (i:=0) (aN (by rw[List.getElem?_eq_getElem (by omega),dK hlen1]))) ⟨?_,S.fra⟩
  have h5':nv.nd.kind≠8:=h5
  unfold Nd.wid;rw[if_neg nc,if_neg n1,if_neg n2,if_pos h5']
end
end Go.Proofs.YtdhpmegbmjoekaaGreatDoor.G
end
