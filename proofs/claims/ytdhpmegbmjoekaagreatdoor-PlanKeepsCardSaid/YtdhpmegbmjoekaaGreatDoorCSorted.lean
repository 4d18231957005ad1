/- Contracts: the library's slices.Sorted over slices.Values. -/
import Derived.Test.YtdhpmegbmjoekaaGreatDoorCLive
import Derived.Test.YtdhpmegbmjoekaaGreatDoorShRg
namespace Go.Proofs.YtdhpmegbmjoekaaGreatDoor.G
open Go Go.Sh
set_option linter.unusedVariables false
set_option linter.unusedSimpArgs false
theorem Aa (x:Int): ∀l:List Int,l.Pairwise (· ≤ ·)→(vq x l).Pairwise (· ≤ ·)
 |[],_=>by simp[vq]
 |y::r,h=>by
  rw[VL] at h;unfold vq;split
  ·rename_i b;rw[VL,VL];refine⟨fun z a=> ?_,h⟩;rcases U7.1 a with rfl|a
   ·exact b
   ·have:=h.1 z a;omega
  ·rename_i b;rw[VL];refine⟨fun z a=> ?_,Aa x r h.2⟩;rcases(zX x z r).1 a with rfl|a
   ·omega
   ·exact h.1 z a
theorem Hq (x:Int): ∀l:List Int,(vq x l).Perm (x::l)
 |[]=>List.Perm.refl _
 |y::r=>by
  unfold vq;split
  ·exact List.Perm.refl _
  ·exact((Hq x r).cons y).trans (List.Perm.swap x y r)
theorem Fs: ∀xs:List Int,(kG xs).Perm xs
 |[]=>List.Perm.refl _
 |x::r=>(Hq x (kG r)).trans ((Fs r).cons x)
theorem xB: ∀xs:List Int,(kG xs).Pairwise (· ≤ ·)
 |[]=>List.Pairwise.nil
 |x::r=>Aa x _ (xB r)
theorem Lm {xs ys:List Int} (d:ys.Pairwise (· ≤ ·)) (c:ys.Perm xs):ys=kG xs:=
 List.Perm.eq_of_pairwise (fun a b _ _ e f=>by omega) d (xB xs) (c.trans (Fs xs).symm)
def IC (s:List Int) (x:Int) (a:List Int) (j:Nat):List Int:=s.take j++x::(s.drop j++a)
theorem Ln (s:List Int) (x:Int) (a:List Int) (j:Nat):(IC s x a j).length=s.length+1+a.length:=by
 unfold IC;simp;omega
theorem SB (s:List Int) (x:Int) (a:List Int) {j:Nat} (b:j≤s.length):(IC s x a j)[j]? =some x:=by
 unfold IC;rw[Vp (by simp;omega)];simp only[U0];rw[show j-min j s.length=0 by omega];rfl
theorem Lp (s:List Int) (x:Int) (a:List Int) {j:Nat} (b:j+1≤s.length):(IC s x a (j+1))[j]? =some s[j]:=by
 unfold IC;rw[VC (by simp;omega),List.getElem?_take_of_lt (by omega),aO (by omega)]
theorem PH (s:List Int) (x:Int) (a:List Int) {j:Nat} (d:j+1≤s.length):((IC s x a (j+1)).set (j+1) s[j]).set j x=IC s x a j:=by
 unfold IC;have c:(s.take j).length=j:=by rw[U0];omega
 rw[py (show j<s.length by omega),U6]
 conv=>rhs;rw[Vb (show j<s.length by omega)]
 obtain⟨A,b⟩: ∃A,s.take j=A:=⟨_,rfl⟩;rw[b] at c ⊢;rw[VB _ _ (by omega),show j+1-A.length=1 by omega];rw[VB _ _ (by omega),show j-A.length=0 by omega];rfl
section
variable {h0 h:af} {T:Nat→Prop} {W R:List aY}
theorem Rs (x y:Int):au P j8 #[.int .i64 x,.int .i64 y] h fun v a=>v= .bool (decide (x<y))∧a=h:=by
 refine zv _ _ ?_;unfold zu;have b:au P jF #[.int .i64 x] h fun v a=>v= .bool false∧a=h:=by
  refine xX _ ?_;unfold xu;exact⟨by simp,rfl⟩
 refine b.mono ?_;rintro _ _ ⟨rfl,rfl⟩;exact⟨_,rfl,bQ rfl ⟨rfl,rfl⟩⟩
theorem JX (S:aJ h0 T h W R) (f:Nat) {p:Option Addr} {l c:Nat} {xs:List Int} (e:W[f]? =some (own 1 p l c (az xs))) (ad:l<2 ^ 40):
 au P dB #[.slice p l c,.int .i64 0,.int .i64 (l:Int)] h fun v h'=>v= .tuple #[]∧aJ h0 T h' (W.set f (own 1 p l c (az (kG xs)))) R:=by
 refine jk _ _ _ _ _ ?_;unfold gq;have D:f<W.length:=(Pt.1 e).1;have F:xs.length=l:=by have:=(S.own f e).1;rw[av] at this;omega
 have ew:IntKind.wrap .i64 ((0:Int)+1)=1:=by decide
 rw[ew];have done: ∀{g:af} {s:List Int},aJ h0 T g (W.set f (own 1 p l c (az s))) R→s.Pairwise (· ≤ ·)→s.Perm xs→aJ h0 T g (W.set f (own 1 p l c (az (kG xs)))) R:=fun S hs hp=>by rw[←Lm hs hp];exact S
 have I:aJ h0 T h (W.set f (own 1 p l c (az xs))) R:=S.turn f e _ (fun hh=>hh) fun _ C=>C;by_cases ab:l=0
 ·have O:xs=[]:=Vm.1 (by omega);refine aP (fun m s g=>s=((p,l,c),(0:Int),(l:Int),(1:Int),())∧aJ h0 T g (W.set f (own 1 p l c (az xs))) R) 0 ⟨rfl,I⟩ ?_;rintro m s g ⟨rfl,S⟩;unfold du;dsimp only;refine am (fun G=>absurd G (by omega)) (fun _=>⟨rfl,done S ?_ (List.Perm.refl _)⟩);rw[O];exact List.Pairwise.nil
 refine aP (fun m s g=> ∃(i:Nat) (t:List Int),s=((p,l,c),(0:Int),(l:Int),(i:Int),())∧i≤l∧m=l-i∧t.length=i∧t.Pairwise (· ≤ ·)∧t.Perm (xs.take i)∧
  aJ h0 T g (W.set f (own 1 p l c (az (t++xs.drop i)))) R) (l-1) ⟨1,xs.take 1,rfl,by omega,rfl,by rw[U0];omega,?_,List.Perm.refl _,by rw[WI];exact I⟩ ?_
 ·match xs,F with
  |[],_=>exact List.Pairwise.nil
  |x::r,_=>exact WG _ _
 clear S I;rintro m s g ⟨i,t,rfl,hi,rfl,ag,z,w,S⟩;unfold du;dsimp only;refine am (fun G=> ?_) (fun aa=> ?_)
 ·have E:i<xs.length:=by omega
  have K:xs.drop i=xs[i]::xs.drop (i+1):=Vb E;have V:IntKind.wrap .i64 ((i:Int)+1)=((i+1:Nat):Int):=by rw[al (by omega)];rfl
  refine aP (fun m s g=> ∃j:Nat,s=((p,l,c),(0:Int),(l:Int),(i:Int),(j:Int),())∧j≤i∧m=j∧(∀y∈t.drop j,xs[i]<y)∧
   aJ h0 T g (W.set f (own 1 p l c (az (IC t xs[i] (xs.drop (i+1)) j)))) R) i ⟨i,rfl,U3 _,rfl,by rw[Vq (by omega)];simp,?_⟩ ?_
  ·have:IC t xs[i] (xs.drop (i+1)) i=t++xs.drop i:=by
    unfold IC;rw[N6 (by omega),Vq (by omega),Xj,K]
   rw[this];exact S
  clear S;rintro m s g ⟨j,rfl,hj,N,q,S⟩;have N:=N.symm;subst N;have J:(W.set f (own 1 p l c (az (IC t xs[i] (xs.drop (i+1)) j))))[f]? =some (own 1 p l c (az (IC t xs[i] (xs.drop (i+1)) j))):=by rw[Ve D]
  have u:(IC t xs[i] (xs.drop (i+1)) j).length=l:=by rw[Ln,VF];omega
  have B: ∀g,(∀y∈t.take j,y≤xs[i])→aJ h0 T g (W.set f (own 1 p l c (az (IC t xs[i] (xs.drop (i+1)) j)))) R→
   ∃Z,Z<l-i∧ ∃(A:Nat) (H:List Int),(((p,l,c),(0:Int),(l:Int),((i+1:Nat):Int),()):(Option Addr×Nat×Nat)×Int×Int×Int×Unit)=((p,l,c),(0:Int),(l:Int),(A:Int),())∧A≤l∧Z=l-A∧H.length=A∧H.Pairwise (· ≤ ·)∧H.Perm (xs.take A)∧aJ h0 T g (W.set f (own 1 p l c (az (H++xs.drop A)))) R:=fun g M S=>by
   refine⟨l-(i+1),by omega,i+1,t.take j++xs[i]::t.drop j,rfl,by omega,rfl,by simp;omega,?_,?_,?_⟩
   ·rw[VK,VL];have d:=z;rw[←WI j t,VK] at d;refine⟨d.1,⟨fun y n=>by have:=q y n;omega,d.2.1⟩,fun a Y b C=> ?_⟩;rcases U7.1 C with rfl|C
    ·exact M a Y
    ·exact d.2.2 a Y b C
   ·rw[py E];have X:(t.take j++xs[i]::t.drop j).Perm (xs[i]::(t.take j++t.drop j)):=List.perm_middle;rw[WI] at X;exact X.trans ((w.cons _).trans (List.perm_append_singleton _ _).symm)
   ·have:(t.take j++xs[i]::t.drop j)++xs.drop (i+1)=IC t xs[i] (xs.drop (i+1)) j:=by unfold IC;simp
    rw[this];exact S
  unfold fG;dsimp only;refine am (fun L=> ?_) (fun L=> ?_)
  ·obtain⟨k,rfl⟩: ∃k,j=k+1:=⟨j-1,by omega⟩;have row:=(S.own f J).row;obtain⟨a,ea⟩:=row.some_of (by rw[av,u];omega);rw[ea] at row;have ek:IntKind.wrap .i64 (((k+1:Nat):Int)-1)=(k:Int):=by rw[al (by omega)];omega
   rw[ek];refine aB ea rfl (by omega) (aB ea rfl (by omega) ?_);simp only[oe,US];have Q:=row.cell (aI (SB t xs[i] (xs.drop (i+1)) (j:=k+1) (by omega)));have U:=row.cell (aI (Lp t xs[i] (xs.drop (i+1)) (j:=k) (by omega)));refine ae Q (ae U ?_);refine(Rs _ _).mono ?_;rintro _ _ ⟨rfl,rfl⟩;refine⟨_,rfl,am (fun o=> ?_) (fun o=> ?_)⟩
   ·refine aB ea rfl (by omega) (aB ea rfl (by omega) ?_)
    try simp only[oe,US]
    refine ae U (ae Q (aB ea rfl (by omega) ?_))
    try simp only[oe,US]
    rw[ea] at J S;refine EO S f J (by rw[av,u];omega) fun g2 _ S=> ?_;rw[bA,V7] at S;refine aB ea rfl (by omega) ?_
    try simp only[oe,US]
    refine EO S f (Ve D) (by rw[av,U1,u];omega) fun g3 _ S=> ?_;rw[bA,V7,PH _ _ _ (by omega)] at S;refine⟨k,by omega,k,rfl,by omega,rfl,fun y n=> ?_,by rw[ea];exact S⟩;rw[Vb (show k<t.length by omega)] at n;rcases U7.1 n with rfl|n
    ·exact o
    ·exact q y n
   ·rw[V];refine B _ (fun y n=> ?_) S;rw[py (show k<t.length by omega)] at n;have hk:t[k]≤xs[i]:=by omega
    rcases UX.1 n with n|n
    ·have d:=z;rw[←WI k t,VK] at d;have:=d.2.2 y n t[k] (by rw[Vb (show k<t.length by omega)];exact VG);omega
    ·simp only[SH] at n;subst n;exact hk
  ·rw[V];have:j=0:=by omega
   subst this;exact B _ (by simp) S
 ·have:i=l:=by omega
  subst this;rw[Vq (by omega),Vh] at S;rw[N6 (by omega)] at w;exact⟨rfl,done S z w⟩
set_option maxRecDepth 100000 in
theorem Lq {n:Nat} (f:n<256):au P lV #[.int .u64 (n:Int)] h fun v b=> ∃m:Int,v= .int .i64 m∧b=h:=by
 refine xW _ ?_;unfold xt;have L:au P j7 #[.int .u64 (n:Int)] h fun v b=> ∃m:Int,v= .int .i64 m∧b=h:=by
  refine uZ _ ?_;unfold tf;refine am (fun a=>absurd a (by omega)) (fun _=>am (fun a=>absurd a (by omega)) (fun _=>am (fun a=>absurd a (by omega)) (fun _=> ?_)));have d:IntKind.wrap .u8 (n:Int)=(n:Int):=by
   unfold IntKind.wrap;simp[IntKind.signed,IntKind.bits];omega
  rw[d]
  first|generalize c:L8=s|generalize c:(ByteArray.mk _:ByteArray)=s
  have e:s.size=256:=by rw[←c];rfl
  refine⟨by omega,s[n]'(by omega),?_,_,rfl,rfl⟩;rw[oe];exact getElem?_pos s n (by omega)
 refine L.mono ?_;rintro _ _ ⟨m,rfl,rfl⟩;exact⟨_,rfl,_,rfl,rfl⟩
theorem SC (S:aJ h0 T h W R) (a:Nat) {p:Option Addr} {l c:Nat} {xs:List Int} (e:W[a]? =some (own 1 p l c (az xs))) (o:l≤12):
 au P iv #[.slice p l c] h fun v b=>v= .tuple #[]∧aJ h0 T b (W.set a (own 1 p l c (az (kG xs)))) R:=by
 refine pA _ _ _ ?_;unfold ml;have i:IntKind.wrap .u64 (l:Int)=(l:Int):=by
  unfold IntKind.wrap;simp[IntKind.signed,IntKind.bits];omega
 rw[i];refine(Lq (by omega)).mono ?_;rintro _ d ⟨m,rfl,k⟩;subst k;refine⟨_,rfl,?_⟩;have D:au P cZ #[.slice p l c,.int .i64 0,.int .i64 (l:Int),.int .i64 m] d fun v b=>v= .tuple #[]∧aJ h0 T b (W.set a (own 1 p l c (az (kG xs)))) R:=by
  refine kJ _ _ _ _ _ _ ?_;unfold i6;refine aP (fun n s g=>s=((p,l,c),(0:Int),(l:Int),m,true,true,())∧aJ h0 T g W R) 0 ⟨rfl,S⟩ ?_;rintro n s g ⟨rfl,S⟩;unfold hO;dsimp only;have f:IntKind.wrap .i64 ((l:Int)-0)=(l:Int):=by rw[al (by omega)];omega
  rw[f];refine am (fun _=> ?_) (fun d=>absurd (show(l:Int)≤12 by omega) d);refine(JX S a e (by omega)).mono ?_;rintro _ j ⟨rfl,S⟩;exact⟨rfl,rfl,S⟩
 refine D.mono ?_;rintro _ j ⟨rfl,S⟩;exact⟨rfl,rfl,S⟩
end
section
variable {h:af}
theorem F7 {y:Value} {p:Option Addr} {l c bs:Nat} {xs:List Int} (J:Nat→af→Prop) (n:xs.length=l) (u:l<2 ^ 62) (d: ∀i h,J i h→bI h p (az xs)) (f:aD h ⟨bs,0,none⟩=some (.slice p l c))
 (r: ∀(i:Nat) (hi:i<xs.length) (h:af),J i h→gV P y [.int .i64 xs[i]] h fun v e=>v= .bool true∧J (i+1) e) (h0:J 0 h):
 au P cB #[y,.pointer (some ⟨bs,0,none⟩)] h fun v e=>J xs.length e:=by
 refine md _ _ ?_;unfold jT;refine ak (p:=p) (l:=l) (c:=c) f ?_;refine aP (fun m s g=> ∃i:Nat,s=(y,(p,l,c),(l:Int),(i:Int),())∧i≤l∧m=l-i∧J i g) l ⟨0,rfl,by omega,rfl,h0⟩ ?_;rintro m s g ⟨i,rfl,hi,rfl,j⟩;unfold iT;dsimp only;refine am (fun q=> ?_) (fun o=> ?_)
 ·have b:i<xs.length:=by omega
  have row:=d i g j;obtain⟨a,ea⟩:=row.some_of (by rw[av];omega);rw[ea] at row;refine aB ea rfl (by omega) ?_;simp only[oe,US];refine ae (row.cell (aI (aO b))) ?_;refine z4 (r i b g j) ?_;rintro _ t ⟨rfl,k⟩;refine⟨_,rfl,bQ rfl ?_⟩;rw[al (by omega)];exact⟨l-(i+1),by omega,i+1,rfl,by omega,rfl,k⟩
 ·have:i=xs.length:=by omega
  subst this;exact j
theorem Iq {p:Option Addr} {l c bs:Nat} {xs:List Int} (j:aD h ⟨bs,0,none⟩=some (.slice p l c)) (n:bI h p (az xs)) (m:xs.length=l) (L:l≤2 ^ 20):
 au P fC #[.slice none 0 0,.func (.func cB) #[] #[.pointer (some ⟨bs,0,none⟩)]] h fun v z=> ∃b a,v= .slice b l a∧aJ h no z [own 1 b l a (az xs)] []:=by
 refine lC _ _ _ _ ?_;unfold jy;have S:=(aJ.start h no).read (row p (az xs)) n;refine aA (cs:=[.slice none 0 0]) S fun u H _ S=> ?_;have t:=Ff S.fra j;replace S:=S.nil 1;dsimp only[Xj,Xi] at S;refine JK S fun D lp o f q B S s=> ?_;have k:aD B ⟨bs,0,none⟩=some (.slice p l c):=Ff S.fra j;dsimp only[Xj,Xi] at S;have I:=F7 (y:= .func (.yield lp) #[] #[]) (xs:=xs) (fun i g=> ∃b d a,d=i∧aJ h no g [blk u [.slice b d a],own 1 b d a (az (xs.take i)),IB D (.deferred (some [])),IB lp o] [row p (az xs)]) m (by omega)
  (fun i g ⟨_,_,_,_,S⟩=>S.row 0 rfl) k (fun i hi g ⟨b,d,a,r,S⟩=> ?_) ⟨none,0,0,rfl,S⟩
 ·refine au.mono I ?_;rintro _ g ⟨b,d,a,r,S⟩;refine⟨S.w 3 _ rfl,?_⟩;replace S:=ij S 3 q rfl;dsimp only[List.set] at S;refine ak (p:=b) (l:=d) (c:=a) (S.cell 0 rfl rfl) ⟨S.w 2 _ rfl,?_⟩;replace S:=ij S 2 (.deferred none) rfl;dsimp only[List.set] at S;rw[Wv] at S;have:d=l:=by omega
  subst this;exact⟨b,a,rfl,yu (S.pw [1])⟩
 ·refine s (xs[i],()) g _ (S.w 3 _ rfl) ?_;refine⟨S.w 3 _ rfl,?_⟩;replace S:=ij S 3 f rfl;dsimp only[List.set] at S;refine ak (p:=b) (l:=d) (c:=a) (S.cell 0 rfl rfl) ?_;refine aA (cs:=[.int .i64 xs[i]]) S fun G J _ S=> ?_;dsimp only[Xi,Xj] at S;refine cK S 1 (ys:=az [xs[i]]) rfl rfl (by decide) (by omega) (bI.of_at (S.at 4 rfl)) rfl cX fun F E x K C S=> ?_;dsimp only[List.set] at S;refine aE S 0 rfl (jb rfl) fun A _ S=> ?_;dsimp only[List.set] at S;refine⟨S.w 3 _ rfl,rfl,F,E,x,by omega,?_⟩;replace S:=ij S 3 o rfl;dsimp only[List.set] at S;rw[py hi];have e:az (xs.take i++[xs[i]])=az (xs.take i)++az [xs[i]]:=by simp only[az,U4,Vg,Vz]
  rw[e];exact S.pw [0,1,2,3]
theorem JY:se:=by
 intro h i p l c xs f e d k;refine rM _ ?_;unfold oL;have C:au P iN #[.func (.func cB) #[] #[.pointer (some ⟨i,0,none⟩)]] h fun v j=> ∃b a,v= .slice b l a∧aJ h no j [own 1 b l a (az xs)] []:=by
  refine qj _ ?_;unfold nB;refine(Iq f e d (by omega)).mono ?_;rintro _ g ⟨b,a,rfl,S⟩;exact⟨_,_,_,rfl,b,a,rfl,S⟩
 refine C.mono ?_;rintro _ g ⟨b,a,rfl,S⟩;refine⟨_,_,_,rfl,?_⟩;refine(SC S 0 rfl k).mono ?_;rintro _ m ⟨rfl,S⟩;exact⟨rfl,b,a,rfl,S⟩
end
end Go.Proofs.YtdhpmegbmjoekaaGreatDoor.G

