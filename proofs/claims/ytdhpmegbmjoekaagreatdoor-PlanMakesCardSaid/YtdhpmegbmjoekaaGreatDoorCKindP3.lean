/- CKindP CKindP2 CKindP3, in one text. -/
import Derived.Test.YtdhpmegbmjoekaaGreatDoorCKind14d
set_option linter.unusedVariables false
set_option linter.unusedSimpArgs false
namespace Go.Proofs.YtdhpmegbmjoekaaGreatDoor.G
open Go Go.Sh
section
abbrev bl:List Int:=[0,7,5,1,1,0,6,8,8,32,64,0,16]
abbrev KT(h:ah):Prop:=At h 0 (az bl)
def DJ(k:Nat)(b1 b:Bool):Int:=
 let a:=bl.getD k 0
 let a:=if b1 then B3 .i64 a 64 else a
 if b then B3 .i64 a 32 else a
def rz(k post a:Int):Prop:=1≤k∧k≤12∧cF .i64 (DJ k.toNat (cF .i64 post 1 !=0) (cF .i64 post 2 !=0)) a≠0
instance (k post what:Int):Decidable (rz k post what):=by unfold rz;infer_instance
theorem uG{k post a:Int}{p:Nat→Bool→Bool→Prop}(e: ∀k,k<13→ ∀b1 b2:Bool,(cF .i64 (DJ k b1 b2) a≠0↔p k b1 b2)):rz k post a↔1≤k∧k≤12∧p k.toNat (cF .i64 post 1 !=0) (cF .i64 post 2 !=0):=by
 constructor
 ·rintro⟨b,c,d⟩;exact⟨b,c,(e _ (by omega) _ _).1 d⟩
 ·rintro⟨b,c,d⟩;exact⟨b,c,(e _ (by omega) _ _).2 d⟩
theorem Hk{k post:Int}:rz k post 1↔dp k:=by
 rw[uG (p:=fun k _ _=>k=1∨k=2∨k=3∨k=4) (by decide+kernel)];unfold dp;omega
theorem PU{k post:Int}:rz k post 2↔wide k:=by
 rw[uG (p:=fun k _ _=>k=1∨k=6) (by decide+kernel)];unfold wide;omega
theorem PV{k post:Int}:rz k post 4↔gq k:=by
 rw[uG (p:=fun k _ _=>k=1∨k=2∨k=6) (by decide+kernel)];unfold gq;omega
theorem RC{k post:Int}:rz k post 8↔dm k:=by
 rw[uG (p:=fun k _ _=>k=7∨k=8) (by decide+kernel)];unfold dm;omega
theorem Mq{k post:Int}:rz k post 16↔k=12:=by
 rw[uG (p:=fun k _ _=>k=12) (by decide+kernel)];omega
theorem PW{k post:Int}:rz k post 17↔iK k:=by
 rw[uG (p:=fun k _ _=>k=1∨k=2∨k=3∨k=4∨k=12) (by decide+kernel)];unfold iK dp;omega
theorem UN(x:Int):cF .i64 x 1=x % 2:=yf x 1 1 rfl (by decide)
theorem UO(x:Int):cF .i64 x 2=0∨cF .i64 x 2=2:=by
 have e:BitVec.ofInt 64 x&&& BitVec.ofInt 64 2=if(BitVec.ofInt 64 x).getLsbD 1 then 2#64 else 0#64:=by
  apply BitVec.eq_of_getLsbD_eq;intro i hi;rw[BitVec.getLsbD_and];by_cases a:i=1
  ·subst a;cases hb:(BitVec.ofInt 64 x).getLsbD 1<;>simp[hb]
  ·have b:(BitVec.ofInt 64 2).getLsbD i=false:=by
    have:(BitVec.ofInt 64 2)=2#64:=by decide
    rw[this];rw[BitVec.getLsbD_ofNat];have:Nat.testBit 2 i=false:=by
     rw[show(2:Nat)=2 ^ 1 from rfl,Yc];simp;omega
    simp[this]
   rw[b,Bool.and_false];split
   ·rw[BitVec.getLsbD_ofNat];have:Nat.testBit 2 i=false:=by
     rw[show(2:Nat)=2 ^ 1 from rfl,Yc];simp;omega
    simp[this]
   ·simp
 show IntKind.wrap .i64 ((BitVec.ofInt 64 x&&& BitVec.ofInt 64 2).toNat:Int)=0∨IntKind.wrap .i64 ((BitVec.ofInt 64 x&&& BitVec.ofInt 64 2).toNat:Int)=2;rw[e];cases (BitVec.ofInt 64 x).getLsbD 1
 ·left;decide
 ·right;decide
theorem Ub{k post:Int}(h:1≤k∧k≤12):rz k post 32↔Mp k post:=by
 rw[uG (p:=fun k _ a=>k=9∨a=true) (by decide+kernel)];have:=UO post;rw[bne_iff_ne];omega
theorem Uc{k post:Int}(h:1≤k∧k≤12):rz k post 64↔I1 k post:=by
 rw[uG (p:=fun k a _=>k=10∨a=true) (by decide+kernel)];have:=UN post;rw[bne_iff_ne];omega
section
variable {h:ah}
theorem jE(nv:Nv)(a:Int)(o:KT h):au P cH #[nv.v,.int .i64 a] h fun v m=>v= .bool (decide (rz nv.kind nv.post a))∧cd no h m:=by
 refine EV _ _ ?_;have S:=(aG.start h no).read (aJ 0 (az bl)) o;refine aA (cs:=nv.cells) S fun q g _ S=> ?_;have f: ¬(1≤nv.kind∧nv.kind≤12)→Value.bool false= .bool (decide (rz nv.kind nv.post a)):=fun p=>by rw[decide_eq_false];rintro⟨g,i,_⟩;exact p ⟨g,i⟩
 refine ae (n:=nv.kind) (S.c 0) (aq (fun g=>⟨f (by omega),S.fra⟩) fun g=> ?_);refine ae (n:=nv.kind) (S.c 0) (aq (fun i=>⟨f (by omega),S.fra⟩) fun i=> ?_);refine ae (n:=nv.kind) (S.c 0) (fm (by omega) (by omega) ?_);obtain⟨k,l⟩: ∃k:Nat,nv.kind=k:=⟨nv.kind.toNat,by omega⟩;have j:k<bl.length:=by show k<13;omega
 rw[l];simp only[aR,hC,VO,SN];refine ae (n:=bl.getD k 0) (S.cellR 0 rfl (by rw[VT,bo j];exact aF (bo j))) ?_;refine ae (n:=nv.post) (S.c 0) ?_;have b: ∀x:Int,x=DJ k (cF .i64 nv.post 1 !=0) (cF .i64 nv.post 2 !=0)→Value.bool (cF .i64 x a !=0)= .bool (decide (rz (k:Int) nv.post a)):=by
  rintro x rfl;congr 1;rw[WF,bne_iff_ne,decide_eq_true_iff];unfold rz;rw[hC];exact⟨fun h=>⟨by omega,by omega,h⟩,fun h=>h.2.2⟩
 refine bh (fun e=> ?_) (fun e=> ?_)
 ·refine ae (n:=nv.post) (S.c 0) (bh (fun d=> ?_) (fun d=> ?_))
  ·exact⟨b _ (by unfold DJ;rw[bne_iff_ne.2 e,bne_iff_ne.2 d];rfl),S.fra⟩
  ·exact⟨b _ (by unfold DJ;rw[bne_iff_ne.2 e,d];rfl),S.fra⟩
 ·refine ae (n:=nv.post) (S.c 0) (bh (fun d=> ?_) (fun d=> ?_))
  ·exact⟨b _ (by unfold DJ;rw[e,bne_iff_ne.2 d];rfl),S.fra⟩
  ·exact⟨b _ (by unfold DJ;rw[e,d];rfl),S.fra⟩
theorem oD(x lo hi:Int):au P dg #[.int .i64 x,.int .i64 lo,.int .i64 hi] h fun v a=>v= .bool (decide (dB x lo hi))∧a=h:=by
 refine GL _ _ _ ?_;refine aq (fun b=>⟨?_,rfl⟩) (fun b=>⟨?_,rfl⟩)
 ·congr 1;rw[decide_eq_decide];omega
 ·rw[decide_eq_false (by omega)]
theorem DK{p:Option Addr}{l c:Nat}{xs:List Int}(e:bD h p (az xs))(t:xs.length=l)(o:l<2 ^ 62)(lo hi:Int):
 au P eJ #[.slice p l c,.int .i64 lo,.int .i64 hi] h fun v f=>v= .bool (decide (bv lo hi xs))∧f=h:=by
 refine BL _ _ _ _ _ ?_;refine aO (fun m s g=>g=h∧ ∃i:Nat,s=(lo,hi,(p,l,c),(l:Int),(i:Int),())∧i≤l∧m=l-i∧bv lo hi (xs.take i)) l ⟨rfl,0,rfl,by omega,rfl,by rw[WK];exact cK _ _⟩ ?_;rintro m s g ⟨rfl,i,rfl,n,rfl,d⟩;dsimp only;refine aq (fun q=> ?_) (fun k=> ?_)
 ·have a:i<xs.length:=by omega
  obtain⟨r,rfl⟩:=e.some_of (by rw[av];omega);have j:=e.cell (aF (bo a));refine aC rfl rfl (by omega) ?_;simp only[hC,VO];refine ae j ?_;refine(oD xs[i] lo hi).mono ?_;rintro _ _ ⟨rfl,rfl⟩;refine⟨_,rfl,?_⟩;refine bJ (aq (fun b=> ?_) (fun b=> ?_))
  ·rw[al (by omega)];exact⟨l-(i+1),by omega,by trivial,i+1,rfl,by omega,rfl,(iv a).2 ⟨d,b⟩⟩
  ·exact⟨by rw[decide_eq_false (fun h=>b (h _ (VN a)))],by trivial⟩
 ·rw[py (by omega)]at d;exact⟨by rw[decide_eq_true d],by trivial⟩
theorem yl(nv:Nv)(i:KT h)(o: -2 ^ 20≤nv.size∧nv.size≤2 ^ 20)(m: -2 ^ 20≤nv.gap∧nv.gap≤2 ^ 20):au P iy #[nv.v] h fun v g=>v= .int .i64 nv.nd.span∧cd no h g:=by
 refine CW _ ?_;have S:=(aG.start h no).read (aJ 0 (az bl)) i;refine aA (cs:=nv.cells) S fun k l _ S=> ?_;refine aL S 0 rfl (x:=nv.t) rfl ?_;have e:nv.nd.span=if nv.kind=12 then nv.size else if dp nv.kind then(nv.size-1)*nv.gap+1 else 1:=rfl
 rw[e];refine(jE nv 1 (S.rd 0)).mono ?_;rintro _ _ ⟨rfl,F⟩;refine⟨_,rfl,?_⟩;replace S:=S.fra0 F;refine aq (fun a=> ?_) (fun a=> ?_)
 ·rw[Hk]at a;refine ae (n:=nv.size) (S.c 0) (ae (n:=nv.gap) (S.c 0) ?_);rw[if_neg (by unfold dp at a;omega),if_pos a];have b: -2 ^ 42≤(nv.size-1)*nv.gap∧(nv.size-1)*nv.gap≤2 ^ 42:=by
   have d:(nv.size-1).natAbs≤2 ^ 21:=by omega
   have f:nv.gap.natAbs≤2 ^ 20:=by omega
   have j:((nv.size-1)*nv.gap).natAbs≤2 ^ 21*2 ^ 20:=by rw[Int.natAbs_mul];exact X9 d f
   omega
  rw[al (n:=nv.size-1) (by omega),al (n:=(nv.size-1)*nv.gap) (by omega),al (by omega)];exact⟨rfl,S.fra⟩
 ·rw[Hk]at a;refine aL S 0 rfl (x:=nv.t) rfl ?_;refine(jE nv 16 (S.rd 0)).mono ?_;rintro _ _ ⟨rfl,F⟩;refine⟨_,rfl,?_⟩;replace S:=S.fra0 F;refine aq (fun b=> ?_) (fun b=> ?_)
  ·rw[Mq]at b;refine ae (n:=nv.size) (S.c 0) ?_;rw[if_pos b];exact⟨rfl,S.fra⟩
  ·rw[Mq]at b;rw[if_neg b,if_neg a];exact⟨rfl,S.fra⟩
theorem RD(nv:Nv)(d:KT h):au P tL #[nv.v] h fun v b=>v= .int .i64 (dv nv.kind nv.step)∧cd no h b:=by
 refine CZ _ ?_;have S:=(aG.start h no).read (aJ 0 (az bl)) d;refine aA (cs:=nv.cells) S fun e f _ S=> ?_;refine aL S 0 rfl (x:=nv.t) rfl ?_;refine(jE nv 1 (S.rd 0)).mono ?_;rintro _ _ ⟨rfl,F⟩;refine⟨_,rfl,?_⟩;replace S:=S.fra0 F;unfold dv;refine aq (fun a=> ?_) (fun a=> ?_)
 ·rw[Hk]at a;refine ae (n:=nv.step) (S.c 0) ?_;rw[if_pos a];exact⟨rfl,S.fra⟩
 ·rw[Hk]at a;rw[if_neg a];exact⟨rfl,S.fra⟩
end
end
section
section
variable {h:ah}
theorem RE{nv:Nv}(G:nv.ok)(hT:KT h)(L:dB nv.kind 1 12):au P eW #[nv.v] h fun v h'=>v= .bool (decide nv.nd.else0)∧cd no h h':=by
 refine CV _ ?_;have lw:=G.2.1.1;have lb:=G.2.2.1;have J:=zU nv;have S:=(aG.start h no).read (aJ 0 (az bl)) hT;refine aA (cs:=nv.cells) S fun k h1 _ S=> ?_
 refine⟨fun s g=> ∃t1 t2 t3 e f j:Bool,s=(⟨k,0,none⟩,((1:Int),t1,(17:Int),t2,(2:Int),t3,(4:Int),e,(32:Int),f,(64:Int),j,()),(0:Int),())∧
  (t1=true↔ ¬(nv.step=0∧nv.gap=0∧nv.left=0∧nv.right=0))∧(t2=true↔nv.size≠0)∧(t3=true↔nv.width≠0)∧(e=true↔ ¬(nv.weights.xs.length=0∧nv.bias.xs.length=0))∧
  (f=true↔ ¬(nv.low=0∧nv.high=0))∧(j=true↔ ¬(nv.mult=0∧nv.shift=0))∧aG h no g [aJ k nv.cells] [aJ 0 (az bl)],?_,?_⟩
 ·rintro s g ⟨t1,t2,t3,e,f,j,rfl,e1,e2,e3,e4,e5,e6,S⟩;have ew: ∃wl:List (Int×Bool),wl=[(1,t1),(17,t2),(2,t3),(4,e),(32,f),(64,j)]:=⟨_,rfl⟩;obtain⟨wl,q⟩:=ew;have M:wl.length=6:=by rw[q];rfl
  have h0:nv.nd.else0↔ ∀x∈wl,x.2=true→rz nv.kind nv.post x.1:=by
   rw[J,q];simp only[V5,WO,or_false,forall_eq_or_imp,forall_eq,Hk,PW,PU,PV,Ub L,Uc L,e1,e2,e3,e4,e5,e6];constructor
   ·rintro⟨r,u,w,A,B,C⟩;exact⟨fun x=>Classical.byContradiction fun y=>x (r y),fun x=>Classical.byContradiction fun y=>x (u ⟨fun z=>y (.inl z),fun z=>y (.inr z)⟩),fun x=>Classical.byContradiction fun y=>x (w y),fun x=>Classical.byContradiction fun y=>x (A y),fun x=>C.resolve_right x,fun x=>B.resolve_right x⟩
   ·rintro⟨r,u,w,A,B,C⟩;exact⟨fun x=>Classical.byContradiction fun y=>x (r y),fun x=>Classical.byContradiction fun y=>(u y).elim x.1 x.2,fun x=>Classical.byContradiction fun y=>x (w y),fun x=>Classical.byContradiction fun y=>x (A y),Classical.or_iff_not_imp_right.2 C,Classical.or_iff_not_imp_right.2 B⟩
  refine aO (fun m O K=> ∃i:Nat,O=(⟨k,0,none⟩,((1:Int),t1,(17:Int),t2,(2:Int),t3,(4:Int),e,(32:Int),f,(64:Int),j,()),(i:Int),())∧i≤6∧m=6-i∧(∀x∈wl.take i,x.2=true→rz nv.kind nv.post x.1)∧aG h no K [aJ k nv.cells] [aJ 0 (az bl)]) 6 ⟨0,rfl,by omega,rfl,by simp,S⟩ ?_;rintro m O K ⟨i,rfl,hi,rfl,a,S⟩;dsimp only;refine aq (fun ab=> ?_) (fun aa=> ?_)
  ·have E:i<wl.length:=by omega
   obtain⟨n,b,N,d⟩: ∃(n:Int)(b:Bool),wl[i]=(n,b)∧Array.extract (#[(.int .i64 1),(.bool t1),(.int .i64 17),(.bool t2),(.int .i64 2),(.bool t3),(.int .i64 4),(.bool e),(.int .i64 32),(.bool f),(.int .i64 64),(.bool j)]:Array Value) (i*2) (i*2+2)=(#[(.int .i64 n),(.bool b)]:Array Value):=by
    subst q;have:i=0∨i=1∨i=2∨i=3∨i=4∨i=5:=by omega
    rcases this with rfl|rfl|rfl|rfl|rfl|rfl<;>exact⟨_,_,rfl,rfl⟩
   refine fm (by omega) (by omega) ?_;refine⟨n,b,d,?_⟩;refine aA S (fun b8 _ _ S=> ?_);refine ck S 1 fun _ _ S=> ?_;refine ck S 1 fun _ _ S=> ?_;refine fY (n:=b) (S.c 1) ?_;have o:(b=true→rz nv.kind nv.post n)→ ∀x∈wl.take (i+1),x.2=true→rz nv.kind nv.post x.1:=by
    intro D x d;rw[gD E]at d;rcases VW.1 d with d|d
    ·exact a x d
    ·simp only[VK]at d;subst d;rw[N];exact D
   refine cX (fun D=> ?_) (fun D=> ?_)
   ·refine aL S 0 rfl (x:=nv.t) rfl (ae (n:=n) (S.c 1) ?_);refine(jE nv n (S.rd 0)).mono ?_;rintro _ _ ⟨rfl,F⟩;refine⟨_,rfl,?_⟩;replace S:=S.fra0 F;refine bJ (aq (fun I=> ?_) (fun I=> ?_))
    ·rw[al (by omega)];exact⟨6-(i+1),by omega,i+1,rfl,by omega,rfl,o fun _=>I,S.pw [0]⟩
    ·refine⟨?_,S.fra⟩;rw[decide_eq_false];intro he;have:=h0.1 he wl[i] (VN E);rw[N]at this;exact I (this D)
   ·rw[al (by omega)];exact⟨6-(i+1),by omega,i+1,rfl,by omega,rfl,o (fun h=>by rw[D]at h;cases h),S.pw [0]⟩
  ·rw[py (by omega)]at a;exact⟨by rw[decide_eq_true (h0.2 a)],S.fra⟩
 have H: ∀{t1 t2 t3 e f j:Bool}{g:ah},aG h no g [aJ k nv.cells] [aJ 0 (az bl)]→(t1=true↔ ¬(nv.step=0∧nv.gap=0∧nv.left=0∧nv.right=0))→(t2=true↔nv.size≠0)→(t3=true↔nv.width≠0)→(e=true↔ ¬(nv.weights.xs.length=0∧nv.bias.xs.length=0))→
  (f=true↔ ¬(nv.low=0∧nv.high=0))→(j=true↔ ¬(nv.mult=0∧nv.shift=0))→ ∃Q R T U V W:Bool,((⟨k,0,none⟩:Addr),((1:Int),t1,(17:Int),t2,(2:Int),t3,(4:Int),e,(32:Int),f,(64:Int),j,()),(0:Int),())=(⟨k,0,none⟩,((1:Int),Q,(17:Int),R,(2:Int),T,(4:Int),U,(32:Int),V,(64:Int),W,()),(0:Int),())∧
  (Q=true↔ ¬(nv.step=0∧nv.gap=0∧nv.left=0∧nv.right=0))∧(R=true↔nv.size≠0)∧(T=true↔nv.width≠0)∧(U=true↔ ¬(nv.weights.xs.length=0∧nv.bias.xs.length=0))∧
  (V=true↔ ¬(nv.low=0∧nv.high=0))∧(W=true↔ ¬(nv.mult=0∧nv.shift=0))∧aG h no g [aJ k nv.cells] [aJ 0 (az bl)]:=fun S r u w A B C=>⟨_,_,_,_,_,_,rfl,r,u,w,A,B,C,S⟩
 refine ae (n:=nv.step) (S.c 0) (bh (fun X=> ?kxa) (fun X=> ?kxb))
 case' kxb=>refine ae (n:=nv.gap) (S.c 0) (bh (fun Y=> ?kxc) (fun Y=> ?kxd))
 case' kxd=>refine ae (n:=nv.left) (S.c 0) (bh (fun Z=> ?kxe) (fun Z=> ?kxf))
 case' kxf=>refine ae (n:=nv.right) (S.c 0) ?_
 all_goals
  refine ae (n:=nv.size) (S.c 0) (ae (n:=nv.width) (S.c 0) (ak (p:=nv.weights.p) (l:=nv.weights.l) (c:=nv.weights.c) (S.c 0) (aq (fun d1=> ?_) (fun d1=>ak (p:=nv.bias.p) (l:=nv.bias.l) (c:=nv.bias.c) (S.c 0) ?_))))
 all_goals
  refine ae (n:=nv.low) (S.c 0) (bh (fun l1=> ?_) (fun l1=>ae (n:=nv.high) (S.c 0) ?_))
 all_goals
  refine ae (n:=nv.mult) (S.c 0) (bh (fun m1=> ?_) (fun m1=>ae (n:=nv.shift) (S.c 0) ?_))
 all_goals
  refine H S ?_ ?_ ?_ ?_ ?_ ?_
 all_goals first
  |(simp only[true_iff];omega)
  |(simp only[bne_iff_ne,ne_eq,decide_eq_true_eq];done)
  |(simp only[bne_iff_ne,ne_eq,decide_eq_true_eq];omega)
theorem RF{nv:Nv}(N:nv.ok)(hr:nv.rows.P h)(X:nv.weights.l<2 ^ 62)(W:nv.bias.l<2 ^ 62)(hT:KT h){w:Int}(hw:1≤w∧w≤16):au P eY #[nv.v,.int .i64 w] h fun v h'=>v= .bool (decide (nv.nd.sized w))∧cd no h h':=by
 refine CX _ _ ?_;have Q:=N.2.1.1;have O:=N.2.2.1;have f:=vg nv w;have S:=((aG.start h no).read (aJ 0 (az bl)) hT).read nv.rows hr;refine aA (cs:=nv.cells) S fun m z _ S=> ?_;have d: ∀g,aG h no g [aJ m nv.cells] [aJ 0 (az bl),nv.rows]→ ¬nv.nd.sized w→Value.bool false= .bool (decide (nv.nd.sized w))∧cd no h g:=fun g S u=>⟨by rw[decide_eq_false u],S.fra⟩;refine⟨fun s g=>s=(w,⟨m,0,none⟩,())∧aG h no g [aJ m nv.cells] [aJ 0 (az bl),nv.rows]∧(iK nv.kind→dB nv.size 1 8)∧(wide nv.kind→dB nv.width 1 16),?_,?_⟩
 ·rintro s g ⟨rfl,S,V,Z⟩;refine⟨fun s g=>s=(w,⟨m,0,none⟩,())∧aG h no g [aJ m nv.cells] [aJ 0 (az bl),nv.rows]∧(dp nv.kind→dB nv.step 1 4∧dB nv.gap 1 4∧(0≤nv.left∧nv.left<nv.nd.span)∧(0≤nv.right∧nv.right<nv.nd.span)),?_,?_⟩
  ·rintro s g ⟨rfl,S,c3⟩
   refine⟨fun s g=>s=(⟨m,0,none⟩,())∧aG h no g [aJ m nv.cells] [aJ 0 (az bl),nv.rows]∧
    (gq nv.kind→(nv.weights.xs.length:Int)=nv.nd.wcount w∧(nv.bias.xs.length:Int)=(if nv.kind=2 then w else nv.width)∧bv (-128) 127 nv.weights.xs∧bv (-16777216) 16777216 nv.bias.xs),?_,?_⟩
   ·rintro s g ⟨rfl,S,c4⟩;refine ae (n:=nv.mult) (S.c 0) ?_;refine(oD nv.mult 0 32767).mono ?_;rintro _ _ ⟨rfl,rfl⟩;refine⟨_,rfl,?_⟩;refine aq (fun k=> ?_) (fun k=>d _ S fun i=>k (f.1 i).2.2.2.2.1);refine ae (n:=nv.shift) (S.c 0) ?_;refine(oD nv.shift 0 30).mono ?_;rintro _ _ ⟨rfl,rfl⟩;refine⟨_,rfl,?_⟩;refine aq (fun q=> ?_) (fun q=>d _ S fun i=>q (f.1 i).2.2.2.2.2.1);refine ae (n:=nv.low) (S.c 0) (ae (n:=nv.high) (S.c 0) ?_);refine(oD nv.low (-2147483648) nv.high).mono ?_;rintro _ _ ⟨rfl,rfl⟩;refine⟨_,rfl,?_⟩;refine aq (fun A=> ?_) (fun A=>d _ S fun i=>A (by have:=(f.1 i).2.2.2.2;unfold fz at this;omega));refine ae (n:=nv.high) (S.c 0) (ae (n:=nv.low) (S.c 0) ?_);refine(oD nv.high nv.low 2147483647).mono ?_;rintro _ _ ⟨rfl,rfl⟩;refine⟨_,rfl,?_⟩;refine⟨?_,S.fra⟩;congr 1;rw[decide_eq_decide,f];constructor
    ·intro B;exact⟨V,c3,Z,c4,k,q,by unfold fz fL;omega,by unfold fz fL;omega,by omega⟩
    ·rintro⟨_,_,_,_,_,_,_,H,f6⟩;unfold fz fL at H;omega
   ·simp only[aR,SN];refine aL S 0 rfl (x:=nv.t) rfl ?_;refine(jE nv 4 (S.r 0 _ rfl)).mono ?_;rintro _ _ ⟨rfl,F⟩;refine⟨_,rfl,?_⟩;replace S:=S.fra0 F;refine aq (fun T=> ?_) (fun T=>⟨by trivial,S,fun u=>absurd (PV.2 u) T⟩);rw[PV]at T;have R: ∀{g:ah},aG h no g [aJ m nv.cells] [aJ 0 (az bl),nv.rows]→bD g nv.weights.p (az nv.weights.xs):=fun S=>S.r 1 _ rfl nv.weights.row (by simp);have E: ∀{g:ah},aG h no g [aJ m nv.cells] [aJ 0 (az bl),nv.rows]→bD g nv.bias.p (az nv.bias.xs):=fun S=>S.r 1 _ rfl nv.bias.row (by simp);refine ae (n:=nv.width) (S.c 0) (ae (n:=nv.kind) (S.c 0) ?_);have j: ¬((nv.weights.xs.length:Int)=nv.nd.wcount w∧(nv.bias.xs.length:Int)=(if nv.kind=2 then w else nv.width)∧bv (-128) 127 nv.weights.xs∧bv (-16777216) 16777216 nv.bias.xs)→ ¬nv.nd.sized w:=fun u i=>u ((f.1 i).2.2.2.1 T);have G:nv.nd.wcount w=if nv.kind=1 then nv.width*nv.size*w else if nv.kind=2 then w*nv.size else nv.width*w:=rfl
    rw[G]at j;refine aH (fun o=> ?o) (fun o=>aH (fun D=> ?D) (fun D=> ?k6))
    case' o=>
     rw[if_neg (by omega),if_pos o,if_pos o]at j;have c:=V (by unfold iK dp;omega);have U:=j7 (a:=w) (b:=nv.size) (x:=16) (y:=8) (by omega) (by omega);refine ae (n:=nv.size) (S.c 0) ?_;rw[Int.one_mul,al (n:=nv.size) (by omega),al (n:=w*nv.size) (by omega)]
    case' D=>
     rw[if_pos D,if_neg o]at j;have c:=V (by unfold iK dp;omega);have c':=Z (by unfold wide;omega);have U:=j7 (a:=w) (b:=nv.size) (x:=16) (y:=8) (by omega) (by omega);have aa:=j7 (a:=nv.width) (b:=w*nv.size) (x:=16) (y:=128) (by omega) (by omega);have ee:nv.width*nv.size*w=nv.width*(w*nv.size):=by rw[XY,XQ nv.size w]
     rw[ee]at j;refine ae (n:=nv.size) (S.c 0) ?_;rw[al (n:=w*nv.size) (by omega),al (n:=nv.width*(w*nv.size)) (by omega)]
    case' k6=>
     rw[if_neg D,if_neg o,if_neg o]at j;have U:=j7 (a:=nv.width) (b:=w) (x:=16) (y:=16) (by omega) (by omega);rw[al (n:=nv.width*w) (by omega)]
    all_goals
     refine ak (p:=nv.weights.p) (l:=nv.weights.l) (c:=nv.weights.c) (S.c 0) (bh (fun J=>d _ S (j fun C=>J (by rw[←Q];exact C.1))) fun J=> ?_);refine ak (p:=nv.bias.p) (l:=nv.bias.l) (c:=nv.bias.c) (S.c 0) (bh (fun K=>d _ S (j fun C=>K (by rw[←O];exact C.2.1))) fun K=> ?_);refine ak (p:=nv.weights.p) (l:=nv.weights.l) (c:=nv.weights.c) (S.c 0) ?_;refine(DK (R S) Q X (-128) 127).mono ?_;rintro _ _ ⟨rfl,rfl⟩;refine⟨_,rfl,?_⟩;refine bJ (aq (fun L=> ?_) (fun L=>d _ S (j fun C=>L C.2.2.1)));refine ak (p:=nv.bias.p) (l:=nv.bias.l) (c:=nv.bias.c) (S.c 0) ?_;refine(DK (E S) O W (-16777216) 16777216).mono ?_;rintro _ _ ⟨rfl,rfl⟩;refine⟨_,rfl,?_⟩;refine bJ (aq (fun M=> ?_) (fun M=>d _ S (j fun C=>M C.2.2.2)));refine⟨by trivial,S,fun _=> ?_⟩;rw[G]
    all_goals first
     |(rw[if_pos D,if_neg o,ee];exact⟨by rw[Q];exact J,by rw[O];exact K,L,M⟩)
     |(rw[if_neg D,if_neg o,if_neg o];exact⟨by rw[Q];exact J,by rw[O];exact K,L,M⟩)
     |(rw[if_neg (by omega),if_pos o,if_pos o];exact⟨by rw[Q];exact J,by rw[O];exact K,L,M⟩)
  ·simp only[aR,SN];refine aL S 0 rfl (x:=nv.t) rfl ?_;refine(jE nv 1 (S.r 0 _ rfl)).mono ?_;rintro _ _ ⟨rfl,F⟩;refine⟨_,rfl,?_⟩;replace S:=S.fra0 F;refine aq (fun z=> ?_) (fun z=>⟨by trivial,S,fun u=>absurd (Hk.2 u) z⟩);rw[Hk]at z;refine ae (n:=nv.step) (S.c 0) ?_;refine(oD nv.step 1 4).mono ?_;rintro _ _ ⟨rfl,rfl⟩;refine⟨_,rfl,?_⟩;refine aq (fun k=> ?_) (fun k=>cC rfl (d _ S fun i=>k ((f.1 i).2.1 z).1));refine ae (n:=nv.gap) (S.c 0) ?_;refine(oD nv.gap 1 4).mono ?_;rintro _ _ ⟨rfl,rfl⟩;refine⟨_,rfl,?_⟩;refine aq (fun q=> ?_) (fun q=>cC rfl (d _ S fun i=>q ((f.1 i).2.1 z).2.1));have Y:nv.nd.span=(nv.size-1)*nv.gap+1:=by
    have e:nv.nd.span=if nv.kind=12 then nv.size else if dp nv.kind then(nv.size-1)*nv.gap+1 else 1:=rfl
    rw[e,if_neg (by unfold dp at z;omega),if_pos z]
   have U:=j7 (a:=nv.size-1) (b:=nv.gap) (x:=7) (y:=4) (by omega) (by omega);refine ae (n:=nv.left) (S.c 0) (aL S 0 rfl (x:=nv.t) rfl ?_);refine(yl nv (S.r 0 _ rfl) (by omega) (by omega)).mono ?_;rintro _ _ ⟨rfl,F⟩;refine⟨_,rfl,?_⟩;replace S:=S.fra0 F;refine aX (S.c 0) ?_;rw[al (n:=nv.nd.span-1) (by omega)];refine(oD nv.left 0 (nv.nd.span-1)).mono ?_;rintro _ _ ⟨rfl,rfl⟩;refine⟨_,rfl,?_⟩;refine aq (fun A=> ?_) (fun A=>aX (S.c 0) (aX (S.c 0) (cC rfl (d _ S fun i=>A (by have:=((f.1 i).2.1 z).2.2.1;omega)))));refine ae (n:=nv.right) (S.c 0) (aL S 0 rfl (x:=nv.t) rfl ?_);refine(yl nv (S.r 0 _ rfl) (by omega) (by omega)).mono ?_;rintro _ _ ⟨rfl,F⟩;refine⟨_,rfl,?_⟩;replace S:=S.fra0 F;refine aX (S.c 0) (aX (S.c 0) ?_);rw[al (n:=nv.nd.span-1) (by omega)];refine(oD nv.right 0 (nv.nd.span-1)).mono ?_;rintro _ _ ⟨rfl,rfl⟩;refine⟨_,rfl,?_⟩;refine aX (S.c 0) (bJ (aq (fun B=> ?_) (fun B=>d _ S fun i=>B (by have:=((f.1 i).2.1 z).2.2.2;omega))));exact⟨by trivial,S,fun _=>⟨k,q,by omega,by omega⟩⟩
 ·have I: ∀g,aG h no g [aJ m nv.cells] [aJ 0 (az bl),nv.rows]→(iK nv.kind→dB nv.size 1 8)→(wide nv.kind→dB nv.width 1 16)→((w,(⟨m,0,none⟩:Addr),())=(w,⟨m,0,none⟩,())∧aG h no g [aJ m nv.cells] [aJ 0 (az bl),nv.rows]∧(iK nv.kind→dB nv.size 1 8)∧(wide nv.kind→dB nv.width 1 16)):=fun g S a b=>⟨rfl,S,a,b⟩;refine aL S 0 rfl (x:=nv.t) rfl ?_;refine(jE nv 17 (S.r 0 _ rfl)).mono ?_;rintro _ _ ⟨rfl,F⟩;refine⟨_,rfl,?_⟩;replace S:=S.fra0 F;refine aq (fun k=> ?ka) (fun k=> ?kb)
  case' ka=>
   rw[PW]at k;refine ae (n:=nv.size) (S.c 0) ?_;refine(oD nv.size 1 8).mono ?_;rintro _ _ ⟨rfl,rfl⟩;refine⟨_,rfl,?_⟩;refine bJ (aq (fun q=> ?_) (fun q=>d _ S fun i=>q ((f.1 i).1 k)));have A:iK nv.kind→dB nv.size 1 8:=fun _=>q;clear k q
  case' kb=>
   rw[PW]at k;have A:iK nv.kind→dB nv.size 1 8:=fun u=>absurd u k;clear k
  all_goals
   refine aL S 0 rfl (x:=nv.t) rfl ?_;refine(jE nv 2 (S.r 0 _ rfl)).mono ?_;rintro _ _ ⟨rfl,F⟩;refine⟨_,rfl,?_⟩;replace S:=S.fra0 F;refine aq (fun B=> ?_) (fun B=>I _ S A fun u=>absurd (PU.2 u) B);rw[PU]at B;refine ae (n:=nv.width) (S.c 0) ?_;refine(oD nv.width 1 16).mono ?_;rintro _ _ ⟨rfl,rfl⟩;refine⟨_,rfl,?_⟩;exact bJ (aq (fun H=>I _ S A fun _=>H) (fun H=>d _ S fun i=>H ((f.1 i).2.2.1 B)))
end
end
section
section
variable {h:ah}
theorem DL{nv:Nv}(A:nv.ok)(hr:nv.rows.P h)(aj:nv.inn.l<2 ^ 62)(V:nv.weights.l<2 ^ 62)(U:nv.bias.l<2 ^ 62)(hT:KT h){p:Option Addr}{l c:Nat}{ws:List Int}(hw:bD h p (az ws))(hl:ws.length=l)(ai:l<2 ^ 56):
 au P fP #[nv.v,.slice p l c] h fun v h'=>v= .int .i64 (nv.nd.chk ws)∧cd no h h':=by
 refine BM _ _ _ _ ?_;have li:=A.1.1;have ab:nv.nd.inn.length=nv.inn.l:=li;have ek:nv.nd.kind=nv.kind:=rfl;have ep:nv.nd.post=nv.post:=rfl;have S:=(((aG.start h no).read (aJ 0 (az bl)) hT).read nv.rows hr).read (row p (az ws)) hw;refine aA (cs:=nv.cells) S fun C h1 _ S=> ?_;have y:(ws.length≠nv.nd.inn.length∨ ¬bv 1 16 ws)→ ∀g,aG h no g [aJ C nv.cells] [aJ 0 (az bl),nv.rows,row p (az ws)]→Value.int .i64 1= .int .i64 (nv.nd.chk ws)∧cd no h g:=fun L g S=>⟨by unfold Nd.chk;rw[if_pos L],S.fra⟩
 refine⟨fun s g=>s=((p,l,c),⟨C,0,none⟩,())∧aG h no g [aJ C nv.cells] [aJ 0 (az bl),nv.rows,row p (az ws)]∧ ¬(ws.length≠nv.nd.inn.length∨ ¬bv 1 16 ws)∧
  ¬(¬dB nv.nd.kind 1 12∨(dm nv.nd.kind∧ ¬(2≤ws.length∧ws.length≤4))∨(¬dm nv.nd.kind∧ws.length≠1)∨ ¬dB nv.nd.post 0 3∨(nv.nd.post≠0∧ ¬gq nv.nd.kind)∨ ¬nv.nd.else0)∧ ¬ ¬nv.nd.sized (ws.getD 0 0)∧1≤ws.length,?_,?_⟩
 ·rintro s g ⟨rfl,S,q,b,d,o⟩;have u:bv 1 16 ws:=by
   apply Decidable.byContradiction;intro h;exact q (.inr h)
  obtain⟨E,rfl⟩:=(S.ro 2).some_of (by rw[av];omega);have J:ws.getD 0 0=ws[0]:=cA o;refine aO (fun m s g=> ∃i:Nat,s=((some E,l,c),⟨C,0,none⟩,gW (ws.take i),(some E,l,c),(l:Int),(i:Int),())∧i≤l∧m=l-i∧(nv.kind=7→ ∀x∈ws.take i,x=ws.getD 0 0)∧aG h no g [aJ C nv.cells] [aJ 0 (az bl),nv.rows,row (some E) (az ws)]) l ⟨0,rfl,by omega,rfl,by simp,S⟩ ?_;rintro m s g ⟨i,rfl,ag,rfl,Q,S⟩;dsimp only;refine aq (fun an=> ?_) (fun ad=> ?_)
  ·have f:i<ws.length:=by omega
   have hc:=(S.ro 2).cell (aF (bo f));have T:aB g (Addr.add E 0)=some (.int .i64 (ws.getD 0 0)):=(S.ro 2).cell (i:=0) (aF (by rw[bo (by omega),J]));refine aC rfl rfl (by omega) ?_;simp only[hC,VO];refine ae hc (ae (n:=nv.kind) (S.c 0) ?_);have W:=jD (pY i u);rw[VV]at W;have ao:=u ws[i] (VN f);rw[al (n:=gW (ws.take i)+ws[i]) (by omega),al (n:=(i:Int)+1) (by omega),←pX f];refine aH (fun r=> ?_) (fun r=> ?_)
   ·refine aC rfl (k:=0) rfl (by omega) ?_;refine ae T (bh (fun z=>⟨?_,S.fra⟩) (fun z=> ?_))
    ·have R:nv.nd.kind=7∧ ¬ ∀x∈ws,x=ws.getD 0 0:=⟨r,fun h=>z (h _ (VN f))⟩;unfold Nd.chk;rw[if_neg q,if_neg b,if_neg d,if_pos R]
    ·refine⟨l-(i+1),by omega,i+1,by trivial,by omega,rfl,fun _ x j=> ?_,S⟩;rw[gD f]at j;rcases VW.1 j with j|j
     ·exact Q r x j
     ·simp only[VK]at j;subst j;exact z
   ·exact⟨l-(i+1),by omega,i+1,rfl,by omega,rfl,fun h=>absurd h r,S⟩
  ·rw[py (by omega)]at Q ⊢;have B: ¬(nv.nd.kind=7∧ ¬ ∀x∈ws,x=ws.getD 0 0):=fun h=>h.2 (Q h.1);refine ae (n:=nv.kind) (S.c 0) ?_;refine aH (fun r=>aq (fun z=>⟨?_,S.fra⟩) (fun z=>⟨?_,S.fra⟩)) (fun r=>⟨?_,S.fra⟩)
   ·have e:nv.nd.kind=8∧gW ws>16:=⟨r,z⟩;unfold Nd.chk;rw[if_neg q,if_neg b,if_neg d,if_neg B,if_pos e]
   ·have e: ¬(nv.nd.kind=8∧gW ws>16):=fun h=>z h.2;unfold Nd.chk;rw[if_neg q,if_neg b,if_neg d,if_neg B,if_neg e]
   ·have e: ¬(nv.nd.kind=8∧gW ws>16):=fun h=>r h.1;unfold Nd.chk;rw[if_neg q,if_neg b,if_neg d,if_neg B,if_neg e]
 ·refine ak (p:=nv.inn.p) (l:=nv.inn.l) (c:=nv.inn.c) (S.c 0) (bh (fun h3=>y (.inl (by omega)) _ S) fun h3=> ?_);refine(DK (S.ro 2) hl (by omega) 1 16).mono ?_;rintro _ _ ⟨rfl,rfl⟩;refine⟨_,rfl,?_⟩;refine bJ (aq (fun K=> ?_) (fun K=>y (.inr K) _ S));have q: ¬(ws.length≠nv.nd.inn.length∨ ¬bv 1 16 ws):=by
   rintro(h|h)
   ·omega
   ·exact h K
  have a:(¬dB nv.kind 1 12∨(dm nv.kind∧ ¬(2≤ws.length∧ws.length≤4))∨(¬dm nv.kind∧ws.length≠1)∨ ¬dB nv.post 0 3∨(nv.post≠0∧ ¬gq nv.kind)∨ ¬nv.nd.else0)→ ∀g,aG h no g [aJ C nv.cells] [aJ 0 (az bl),nv.rows,row p (az ws)]→Value.int .i64 12= .int .i64 (nv.nd.chk ws)∧cd no h g:=
   fun L g S=>⟨by rw[←ek,←ep]at L;unfold Nd.chk;rw[if_neg q,if_pos L],S.fra⟩
  refine ae (n:=nv.kind) (S.c 0) ?_;refine(oD nv.kind 1 12).mono ?_;rintro _ _ ⟨rfl,rfl⟩;refine⟨_,rfl,?_⟩;refine bJ (aq (fun M=> ?_) (fun M=>a (.inl M) _ S));refine ae (n:=nv.post) (S.c 0) ?_;refine(oD nv.post 0 3).mono ?_;rintro _ _ ⟨rfl,rfl⟩;refine⟨_,rfl,?_⟩;refine bJ (aq (fun Z=> ?_) (fun Z=>a (.inr (.inr (.inr (.inl Z)))) _ S));refine ae (n:=nv.post) (S.c 0) ?_;refine bh (fun I=> ?ka) (fun I=> ?kb)
  case' ka=>
   refine aL S 0 rfl (x:=nv.t) rfl ?_;refine(jE nv 4 (S.rd 0)).mono ?_;rintro _ _ ⟨rfl,F⟩;refine⟨_,rfl,?_⟩;replace S:=S.fra0 F;refine bJ (aq (fun O=> ?_) (fun O=>a (.inr (.inr (.inr (.inr (.inl ⟨I,fun w=>O (PV.2 w)⟩))))) _ S));have k5:nv.post≠0→gq nv.kind:=fun _=>PV.1 O;clear I O
  case' kb=>
   have k5:nv.post≠0→gq nv.kind:=fun n=>absurd I n;clear I
  all_goals
   refine aL S 0 rfl (x:=nv.t) rfl ?_;refine(jE nv 8 (S.rd 0)).mono ?_;rintro _ _ ⟨rfl,F⟩;refine⟨_,rfl,?_⟩;replace S:=S.fra0 F;refine aq (fun m1=> ?_) (fun m1=> ?_)
   rotate_left;refine aL S 0 rfl (x:=nv.t) rfl ?_;refine(jE nv 8 (S.rd 0)).mono ?_;rintro _ _ ⟨rfl,F⟩;refine⟨_,rfl,?_⟩;replace S:=S.fra0 F;refine bJ (aq (fun D=>absurd D m1) (fun D=> ?_));refine bh (fun N=>a (.inr (.inr (.inl ⟨fun m=>m1 (RC.2 m),by omega⟩))) _ S) (fun N=> ?_);have X:dm nv.kind→2≤ws.length∧ws.length≤4:=fun m=>absurd (RC.2 m) m1;have Y: ¬dm nv.kind→ws.length=1:=fun _=>by omega
   rotate_left;refine(oD (l:Int) 2 4).mono ?_;rintro _ _ ⟨rfl,rfl⟩;refine⟨_,rfl,?_⟩;refine bJ (aq (fun N=> ?_) (fun N=>a (.inr (.inl ⟨RC.1 m1,by omega⟩)) _ S));refine aL S 0 rfl (x:=nv.t) rfl ?_;refine(jE nv 8 (S.rd 0)).mono ?_;rintro _ _ ⟨rfl,F⟩;refine⟨_,rfl,?_⟩;replace S:=S.fra0 F;refine bJ (aq (fun D=> ?_) (fun D=>absurd m1 D));have X:dm nv.kind→2≤ws.length∧ws.length≤4:=fun m=>by omega
   have Y: ¬dm nv.kind→ws.length=1:=fun n=>absurd (RC.1 m1) n;clear D m1 N
  all_goals
   refine aL S 0 rfl (x:=nv.t) rfl ?_;refine(RE A (S.rd 0) M).mono ?_;rintro _ _ ⟨rfl,F⟩;refine⟨_,rfl,?_⟩;replace S:=S.fra0 F;refine bJ (aq (fun k6=> ?_) (fun k6=>a (.inr (.inr (.inr (.inr (.inr k6))))) _ S));have o:1≤ws.length:=by
    by_cases m:dm nv.kind
    ·have:=X m;omega
    ·have:=Y m;omega
   have b: ¬(¬dB nv.nd.kind 1 12∨(dm nv.nd.kind∧ ¬(2≤ws.length∧ws.length≤4))∨(¬dm nv.nd.kind∧ws.length≠1)∨ ¬dB nv.nd.post 0 3∨(nv.nd.post≠0∧ ¬gq nv.nd.kind)∨ ¬nv.nd.else0):=by
    rw[ek,ep];rintro(h|h|h|h|h|h)
    ·exact h M
    ·exact h.2 (X h.1)
    ·exact h.2 (Y h.1)
    ·exact h Z
    ·exact h.2 (k5 h.1)
    ·exact h k6
   have j:=S.ro 2;obtain⟨E,G⟩:=j.some_of (by rw[av];omega);rw[G]at j;refine aC G (k:=0) rfl (by omega) (aL S 0 rfl (x:=nv.t) rfl ?_);have J:ws.getD 0 0=ws[0]:=cA o;refine ae (n:=ws.getD 0 0) (j.cell (i:=0) (aF (by rw[bo (by omega),J]))) ?_;have H:=K ws[0] (VN _);rw[←J]at H;refine(RF A (S.rd 1) V U (S.rd 0) H).mono ?_;rintro _ _ ⟨rfl,F⟩;refine⟨_,rfl,?_⟩;replace S:=S.fra0 F;exact bJ (aq (fun k7=>⟨rfl,S,q,b,fun h=>h k7,o⟩) (fun k7=>⟨by unfold Nd.chk;rw[if_neg q,if_neg b,if_pos k7],S.fra⟩))
theorem fD{n:Nd}{ws:List Int}(h:n.chk ws=0):bv 1 16 ws∧1≤ws.length∧ws.length=n.inn.length∧dB n.kind 1 12∧dB n.post 0 3∧(dm n.kind→2≤ws.length∧ws.length≤4)∧(¬dm n.kind→ws.length=1)∧(n.post≠0→gq n.kind)∧n.else0∧n.sized (ws.getD 0 0)∧(n.kind=7→ ∀x∈ws,x=ws.getD 0 0)∧(n.kind=8→gW ws≤16):=by
 unfold Nd.chk at h;split at h
 ·cases h
 rename_i d;split at h
 ·cases h
 rename_i a;split at h
 ·cases h
 rename_i j;split at h
 ·cases h
 rename_i l;split at h
 ·cases h
 rename_i o;have e:bv 1 16 ws:=Decidable.byContradiction fun h=>d (.inr h);have f:ws.length=n.inn.length:=Decidable.byContradiction fun h=>d (.inl h);have g:dB n.kind 1 12:=Decidable.byContradiction fun h=>a (.inl h);have i:dB n.post 0 3:=Decidable.byContradiction fun h=>a (.inr (.inr (.inr (.inl h))));have b:dm n.kind→2≤ws.length∧ws.length≤4:=fun m=>Decidable.byContradiction fun h=>a (.inr (.inl ⟨m,h⟩));have c: ¬dm n.kind→ws.length=1:=fun m=>Decidable.byContradiction fun h=>a (.inr (.inr (.inl ⟨m,h⟩)));refine⟨e,?_,f,g,i,b,c,fun p=>Decidable.byContradiction fun h=>a (.inr (.inr (.inr (.inr (.inl ⟨p,h⟩))))),Decidable.byContradiction fun h=>a (.inr (.inr (.inr (.inr (.inr h))))),Decidable.byContradiction j,
  fun k=>Decidable.byContradiction fun h=>l ⟨k,h⟩,fun k=>by omega⟩
 by_cases m:dm n.kind
 ·have:=b m;omega
 ·have:=c m;omega
theorem PX{nv:Nv}(B:nv.ok)(Q:nv.rows.P h)(z:nv.inn.l<2 ^ 62)(A:nv.weights.l<2 ^ 62)(y:nv.bias.l<2 ^ 62)(K:KT h){p:Option Addr}{l c:Nat}{ws:List Int}(R:bD h p (az ws))(N:ws.length=l)(w:l<2 ^ 56):
 au P qt #[nv.v,.slice p l c] h fun v J=>v= .int .i64 (nv.nd.wid ws)∧cd no h J:=by
 refine BP _ _ _ _ ?_;have S:=(((aG.start h no).read (aJ 0 (az bl)) K).read nv.rows Q).read (row p (az ws)) R;refine aA (cs:=nv.cells) S fun I U _ S=> ?_;have E:nv.nd.kind=nv.kind:=rfl;refine aL S 0 rfl (x:=nv.t) rfl ?_;refine(DL B (S.rd 1) z A y (S.rd 0) (S.ro 2) N w).mono ?_;rintro _ _ ⟨rfl,F⟩;refine⟨_,rfl,?_⟩;replace S:=S.fra0 F;refine bh (fun j=>⟨by unfold Nd.wid;rw[if_pos j],S.fra⟩) (fun j=> ?_);have o: ¬nv.nd.chk ws≠0:=fun h=>h j;obtain⟨a,e,_⟩:=fD j;refine aL S 0 rfl (x:=nv.t) rfl ?_;refine(jE nv 2 (S.rd 0)).mono ?_;rintro _ _ ⟨rfl,F⟩;refine⟨_,rfl,?_⟩;replace S:=S.fra0 F;refine aq (fun q=>ae (n:=nv.width) (S.c 0) ⟨by unfold Nd.wid;rw[if_neg o,if_pos (by rw[E];exact PU.1 q)];rfl,S.fra⟩) (fun q=> ?_);have D: ¬wide nv.nd.kind:=fun h=>q (PU.2 h);refine ae (n:=nv.kind) (S.c 0) (aH (fun r=>⟨by unfold Nd.wid;rw[if_neg o,if_neg D,if_pos (by rw[E];exact r)],S.fra⟩) (fun r=> ?_));have G: ¬nv.nd.kind=11:=r;have f:=S.ro 2;refine ae (n:=nv.kind) (S.c 0) (aH (fun u=> ?_) (fun u=> ?_))
 ·refine aO (fun m s g=> ∃i:Nat,s=(gW (ws.take i),(p,l,c),(l:Int),(i:Int),())∧i≤l∧m=l-i∧aG h no g [aJ I nv.cells] [aJ 0 (az bl),nv.rows,row p (az ws)]) l ⟨0,rfl,by omega,rfl,S⟩ ?_;rintro m s g ⟨i,rfl,M,rfl,S⟩;dsimp only;refine aq (fun O=> ?_) (fun L=> ?_)
  ·have d:i<ws.length:=by omega
   have f:=S.ro 2;obtain⟨H,rfl⟩:=f.some_of (by rw[av];omega);refine aC rfl rfl (by omega) ?_;simp only[hC,VO];refine ae (f.cell (aF (bo d))) ?_;have C:=jD (pY i a);rw[VV]at C;have T:=a ws[i] (VN d);rw[al (n:=gW (ws.take i)+ws[i]) (by omega),al (n:=(i:Int)+1) (by omega),←pX d];exact⟨l-(i+1),by omega,i+1,rfl,by omega,rfl,S⟩
  ·rw[py (by omega)];have b: ¬nv.nd.kind≠8:=fun h=>h u;exact⟨by unfold Nd.wid;rw[if_neg o,if_neg D,if_neg G,if_neg b],S.fra⟩
 ·obtain⟨H,rfl⟩:=f.some_of (by rw[av];omega);refine aC rfl (k:=0) rfl (by omega) ?_;refine ae (n:=ws.getD 0 0) (f.cell (i:=0) (aF (by rw[bo (by omega),cA e]))) ⟨?_,S.fra⟩;have b:nv.nd.kind≠8:=u;unfold Nd.wid;rw[if_neg o,if_neg D,if_neg G,if_pos b]
