/- Contracts: the library's slices.Sorted over slices.Values. -/
import Derived.Test.YtdhpmegbmjoekaaGreatDoorCLive
namespace Go.Proofs.YtdhpmegbmjoekaaGreatDoor.G
open Go Go.Sh
open Go.IntKind renaming wrap→kn
set_option linter.unusedVariables false
set_option linter.unusedSimpArgs false
theorem yJ(x:Int): ∀l:List Int,l.Pairwise (· ≤ ·)→(uN x l).Pairwise (· ≤ ·)
 |[],_=>by simp[uN]
 |y::r,h=>by
  rw[WI]at h;unfold uN;split
  ·rename_i b;rw[WI,WI];refine⟨fun z a=> ?_,h⟩;rcases V5.1 a with rfl|a
   ·exact b
   ·have:=h.1 z a;omega
  ·rename_i b;rw[WI];refine⟨fun z a=> ?_,yJ x r h.2⟩;rcases(yv x z r).1 a with rfl|a
   ·omega
   ·exact h.1 z a
theorem Gw(x:Int): ∀l:List Int,(uN x l).Perm (x::l)
 |[]=>List.Perm.refl _
 |y::r=>by
  unfold uN;split
  ·exact List.Perm.refl _
  ·exact((Gw x r).cons y).trans (List.Perm.swap x y r)
theorem Eu: ∀xs:List Int,(km xs).Perm xs
 |[]=>List.Perm.refl _
 |x::r=>(Gw x (km r)).trans ((Eu r).cons x)
theorem wu: ∀xs:List Int,(km xs).Pairwise (· ≤ ·)
 |[]=>List.Pairwise.nil
 |x::r=>yJ x _ (wu r)
theorem LR{xs ys:List Int}(d:ys.Pairwise (· ≤ ·))(c:ys.Perm xs):ys=km xs:=
 List.Perm.eq_of_pairwise (fun a b _ _ e f=>by omega) d (wu xs) (c.trans (Eu xs).symm)
def HT(s:List Int)(x:Int)(a:List Int)(j:Nat):List Int:=s.take j++x::(s.drop j++a)
theorem LS(s:List Int)(x:Int)(a:List Int)(j:Nat):(HT s x a j).length=s.length+1+a.length:=by
 unfold HT;simp;omega
theorem TM(s:List Int)(x:Int)(a:List Int){j:Nat}(b:j≤s.length):(HT s x a j)[j]? =some x:=by
 unfold HT;rw[Wl (by simp;omega)];simp only[VV];rw[show j-min j s.length=0 by omega];rfl
theorem LT(s:List Int)(x:Int)(a:List Int){j:Nat}(b:j+1≤s.length):(HT s x a (j+1))[j]? =some s[j]:=by
 unfold HT;rw[WE (by simp;omega),List.getElem?_take_of_lt (by omega),bo (by omega)]
theorem QQ(s:List Int)(x:Int)(a:List Int){j:Nat}(d:j+1≤s.length):((HT s x a (j+1)).set (j+1) s[j]).set j x=HT s x a j:=by
 unfold HT;have c:(s.take j).length=j:=by rw[VV];omega
 rw[gD (show j<s.length by omega),VY]
 conv=>rhs;rw[V6 (show j<s.length by omega)]
 obtain⟨A,b⟩: ∃A,s.take j=A:=⟨_,rfl⟩;rw[b]at c ⊢;rw[Wy _ _ (by omega),show j+1-A.length=1 by omega];rw[Wy _ _ (by omega),show j-A.length=0 by omega];rfl
section
variable {h0 h:ah} {T:Nat→Prop} {W R:List bc}
theorem Su(x y:Int):au P jT #[.int .i64 x,.int .i64 y] h fun v a=>v= .bool (decide (x<y))∧a=h:=by
 refine xO _ _ ?_;unfold xN;have b:au P jt #[.int .i64 x] h fun v a=>v= .bool false∧a=h:=by
  refine wS _ ?_;exact⟨by simp,rfl⟩
 refine b.mono ?_;rintro _ _ ⟨rfl,rfl⟩;exact⟨_,rfl,bG rfl ⟨rfl,rfl⟩⟩
theorem JR(S:aG h0 T h W R)(f:Nat){p:Option Addr}{l c:Nat}{xs:List Int}(e:W[f]? =some (own 1 p l c (az xs)))(ad:l<2 ^ 40):
 au P dt #[.slice p l c,.int .i64 0,.int .i64 (l:Int)] h fun v h'=>v= .tuple #[]∧aG h0 T h' (W.set f (own 1 p l c (az (km xs)))) R:=by
 refine jb _ _ _ _ _ ?_;unfold gn;have D:f<W.length:=(R8.1 e).1;have F:xs.length=l:=by have:=(S.own f e).1;rw[av]at this;omega
 have ew:kn .i64 ((0:Int)+1)=1:=by decide
 rw[ew];have done: ∀{g:ah}{s:List Int},aG h0 T g (W.set f (own 1 p l c (az s))) R→s.Pairwise (· ≤ ·)→s.Perm xs→aG h0 T g (W.set f (own 1 p l c (az (km xs)))) R:=fun S hs hp=>by rw[←LR hs hp];exact S
 have O:aG h0 T h (W.set f (own 1 p l c (az xs))) R:=S.turn f e _ (fun hh=>hh) fun _ C=>C;by_cases ab:l=0
 ·have N:xs=[]:=Wn.1 (by omega);refine aO (fun m s g=>s=((p,l,c),(0:Int),(l:Int),(1:Int),())∧aG h0 T g (W.set f (own 1 p l c (az xs))) R) 0 ⟨rfl,O⟩ ?_;rintro m s g ⟨rfl,S⟩;dsimp only;refine aq (fun G=>absurd G (by omega)) (fun _=>⟨rfl,done S ?_ (List.Perm.refl _)⟩);rw[N];exact List.Pairwise.nil
 refine aO (fun m s g=> ∃(i:Nat)(t:List Int),s=((p,l,c),(0:Int),(l:Int),(i:Int),())∧i≤l∧m=l-i∧t.length=i∧t.Pairwise (· ≤ ·)∧t.Perm (xs.take i)∧
  aG h0 T g (W.set f (own 1 p l c (az (t++xs.drop i)))) R) (l-1) ⟨1,xs.take 1,rfl,by omega,rfl,by rw[VV];omega,?_,List.Perm.refl _,by rw[Xw];exact O⟩ ?_
 ·match xs,F with
  |[],_=>exact List.Pairwise.nil
  |x::r,_=>exact XG _ _
 rintro m s g ⟨i,t,rfl,hi,rfl,ag,z,w,S⟩;dsimp only;refine aq (fun G=> ?_) (fun aa=> ?_)
 ·have E:i<xs.length:=by omega
  have J:xs.drop i=xs[i]::xs.drop (i+1):=V6 E;have V:kn .i64 ((i:Int)+1)=((i+1:Nat):Int):=by rw[al (by omega)];rfl
  refine aO (fun m s g=> ∃j:Nat,s=((p,l,c),(0:Int),(l:Int),(i:Int),(j:Int),())∧j≤i∧m=j∧(∀y∈t.drop j,xs[i]<y)∧
   aG h0 T g (W.set f (own 1 p l c (az (HT t xs[i] (xs.drop (i+1)) j)))) R) i ⟨i,rfl,VX _,rfl,by rw[Wj (by omega)];simp,?_⟩ ?_
  ·have:HT t xs[i] (xs.drop (i+1)) i=t++xs.drop i:=by
    unfold HT;rw[py (by omega),Wj (by omega),Yh,J]
   rw[this];exact S
  rintro m s g ⟨j,rfl,hj,M,q,S⟩;have M:=M.symm;subst M;have I:(W.set f (own 1 p l c (az (HT t xs[i] (xs.drop (i+1)) j))))[f]? =some (own 1 p l c (az (HT t xs[i] (xs.drop (i+1)) j))):=by rw[V4 D]
  have u:(HT t xs[i] (xs.drop (i+1)) j).length=l:=by rw[LS,Wh];omega
  have B: ∀g,(∀y∈t.take j,y≤xs[i])→aG h0 T g (W.set f (own 1 p l c (az (HT t xs[i] (xs.drop (i+1)) j)))) R→
   ∃Z,Z<l-i∧ ∃(A:Nat)(H:List Int),(((p,l,c),(0:Int),(l:Int),((i+1:Nat):Int),()):(Option Addr×Nat×Nat)×Int×Int×Int×Unit)=((p,l,c),(0:Int),(l:Int),(A:Int),())∧A≤l∧Z=l-A∧H.length=A∧H.Pairwise (· ≤ ·)∧H.Perm (xs.take A)∧aG h0 T g (W.set f (own 1 p l c (az (H++xs.drop A)))) R:=fun g L S=>by
   refine⟨l-(i+1),by omega,i+1,t.take j++xs[i]::t.drop j,rfl,by omega,rfl,by simp;omega,?_,?_,?_⟩
   ·rw[WL,WI];have d:=z;rw[←Xw j t,WL]at d;refine⟨d.1,⟨fun y n=>by have:=q y n;omega,d.2.1⟩,fun a Y b C=> ?_⟩;rcases V5.1 C with rfl|C
    ·exact L a Y
    ·exact d.2.2 a Y b C
   ·rw[gD E];have X:(t.take j++xs[i]::t.drop j).Perm (xs[i]::(t.take j++t.drop j)):=List.perm_middle;rw[Xw]at X;exact X.trans ((w.cons _).trans (List.perm_append_singleton _ _).symm)
   ·have:(t.take j++xs[i]::t.drop j)++xs.drop (i+1)=HT t xs[i] (xs.drop (i+1)) j:=by unfold HT;simp
    rw[this];exact S
  dsimp only;refine aq (fun K=> ?_) (fun K=> ?_)
  ·obtain⟨k,rfl⟩: ∃k,j=k+1:=⟨j-1,by omega⟩;have row:=(S.own f I).row;obtain⟨a,ea⟩:=row.some_of (by rw[av,u];omega);rw[ea]at row;have ek:kn .i64 (((k+1:Nat):Int)-1)=(k:Int):=by rw[al (by omega)];omega
   rw[ek];refine aC ea rfl (by omega) (aC ea rfl (by omega) ?_);simp only[hC,VO];have Q:=row.cell (aF (TM t xs[i] (xs.drop (i+1)) (j:=k+1) (by omega)));have U:=row.cell (aF (LT t xs[i] (xs.drop (i+1)) (j:=k) (by omega)));refine ae Q (ae U ?_);refine(Su _ _).mono ?_;rintro _ _ ⟨rfl,rfl⟩;refine⟨_,rfl,aq (fun o=> ?_) (fun o=> ?_)⟩
   ·refine aC ea rfl (by omega) (aC ea rfl (by omega) ?_)
    try simp only[hC,VO]
    refine ae U (ae Q (aC ea rfl (by omega) ?_))
    try simp only[hC,VO]
    rw[ea]at I S;refine AK S f I (by rw[av,u];omega) fun g2 _ S=> ?_;rw[bB,Xc]at S;refine aC ea rfl (by omega) ?_
    try simp only[hC,VO]
    refine AK S f (V4 D) (by rw[av,VU,u];omega) fun g3 _ S=> ?_;rw[bB,Xc,QQ _ _ _ (by omega)]at S;refine⟨k,by omega,k,rfl,by omega,rfl,fun y n=> ?_,by rw[ea];exact S⟩;rw[V6 (show k<t.length by omega)]at n;rcases V5.1 n with rfl|n
    ·exact o
    ·exact q y n
   ·rw[V];refine B _ (fun y n=> ?_) S;rw[gD (show k<t.length by omega)]at n;have hk:t[k]≤xs[i]:=by omega
    rcases VW.1 n with n|n
    ·have d:=z;rw[←Xw k t,WL]at d;have:=d.2.2 y n t[k] (by rw[V6 (show k<t.length by omega)];exact Wb);omega
    ·simp only[VK]at n;subst n;exact hk
  ·rw[V];have:j=0:=by omega
   subst this;exact B _ (by simp) S
 ·have:i=l:=by omega
  subst this;rw[Wj (by omega),Wd]at S;rw[py (by omega)]at w;exact⟨rfl,done S z w⟩
set_option maxRecDepth 100000 in
theorem LU{n:Nat}(f:n<256):au P lu #[.int .u64 (n:Int)] h fun v b=> ∃m:Int,v= .int .i64 m∧b=h:=by
 refine wR _ ?_;unfold wg;have L:au P jS #[.int .u64 (n:Int)] h fun v b=> ∃m:Int,v= .int .i64 m∧b=h:=by
  refine ui _ ?_;refine aq (fun a=>absurd a (by omega)) (fun _=>aq (fun a=>absurd a (by omega)) (fun _=>aq (fun a=>absurd a (by omega)) (fun _=> ?_)));have d:kn .u8 (n:Int)=(n:Int):=by
   unfold kn;simp[IntKind.signed,IntKind.bits];omega
  rw[d]
  first|generalize c:L8=s|generalize c:(ByteArray.mk _:ByteArray)=s
  have e:s.size=256:=by rw[←c];rfl
  refine⟨by omega,s[n]'(by omega),?_,_,rfl,rfl⟩;rw[hC];exact getElem?_pos s n (by omega)
 refine L.mono ?_;rintro _ _ ⟨m,rfl,rfl⟩;exact⟨_,rfl,_,rfl,rfl⟩
theorem TN(S:aG h0 T h W R)(a:Nat){p:Option Addr}{l c:Nat}{xs:List Int}(e:W[a]? =some (own 1 p l c (az xs)))(o:l≤12):
 au P hO #[.slice p l c] h fun v b=>v= .tuple #[]∧aG h0 T b (W.set a (own 1 p l c (az (km xs)))) R:=by
 refine oZ _ _ _ ?_;unfold lH;have i:kn .u64 (l:Int)=(l:Int):=by
  unfold kn;simp[IntKind.signed,IntKind.bits];omega
 rw[i];refine(LU (by omega)).mono ?_;rintro _ d ⟨m,rfl,k⟩;subst k;refine⟨_,rfl,?_⟩;have D:au P cV #[.slice p l c,.int .i64 0,.int .i64 (l:Int),.int .i64 m] d fun v b=>v= .tuple #[]∧aG h0 T b (W.set a (own 1 p l c (az (km xs)))) R:=by
  refine kr _ _ _ _ _ _ ?_;refine aO (fun n s g=>s=((p,l,c),(0:Int),(l:Int),m,true,true,())∧aG h0 T g W R) 0 ⟨rfl,S⟩ ?_;rintro n s g ⟨rfl,S⟩;unfold gU;have f:kn .i64 ((l:Int)-0)=(l:Int):=by rw[al (by omega)];omega
  rw[f];refine aq (fun _=> ?_) (fun d=>absurd (show(l:Int)≤12 by omega) d);refine(JR S a e (by omega)).mono ?_;rintro _ j ⟨rfl,S⟩;exact⟨rfl,rfl,S⟩
 refine D.mono ?_;rintro _ j ⟨rfl,S⟩;exact⟨rfl,rfl,S⟩
end
section
variable {h:ah}
theorem Fk{y:Value}{p:Option Addr}{l c bs:Nat}{xs:List Int}(J:Nat→ah→Prop)(n:xs.length=l)(u:l<2 ^ 62)(d: ∀i h,J i h→bD h p (az xs))(f:aB h ⟨bs,0,none⟩=some (.slice p l c))
 (r: ∀(i:Nat)(hi:i<xs.length)(h:ah),J i h→gS P y [.int .i64 xs[i]] h fun v e=>v= .bool true∧J (i+1) e) (h0:J 0 h):
 au P cE #[y,.pointer (some ⟨bs,0,none⟩)] h fun v e=>J xs.length e:=by
 refine lC _ _ ?_;refine ak (p:=p) (l:=l) (c:=c) f ?_;refine aO (fun m s g=> ∃i:Nat,s=(y,(p,l,c),(l:Int),(i:Int),())∧i≤l∧m=l-i∧J i g) l ⟨0,rfl,by omega,rfl,h0⟩ ?_;rintro m s g ⟨i,rfl,hi,rfl,j⟩;dsimp only;refine aq (fun q=> ?_) (fun o=> ?_)
 ·have b:i<xs.length:=by omega
  have row:=d i g j;obtain⟨a,ea⟩:=row.some_of (by rw[av];omega);rw[ea]at row;refine aC ea rfl (by omega) ?_;simp only[hC,VO];refine ae (row.cell (aF (bo b))) ?_;refine yA (r i b g j) ?_;rintro _ t ⟨rfl,k⟩;refine⟨_,rfl,bG rfl ?_⟩;rw[al (by omega)];exact⟨l-(i+1),by omega,i+1,rfl,by omega,rfl,k⟩
 ·have:i=xs.length:=by omega
  subst this;exact j
theorem HO{p:Option Addr}{l c bs:Nat}{xs:List Int}(q:aB h ⟨bs,0,none⟩=some (.slice p l c))(m:bD h p (az xs))(k:xs.length=l)(J:l≤2 ^ 20):
 au P fh #[.slice none 0 0,.func (.func cE) #[] #[.pointer (some ⟨bs,0,none⟩)]] h fun v w=> ∃b a,v= .slice b l a∧aG h no w [own 1 b l a (az xs)] []:=by
 refine kP _ _ _ _ ?_;have S:=(aG.start h no).read (row p (az xs)) m;refine aA (cs:=[.slice none 0 0]) S fun t F _ S=> ?_;replace S:=S.nil 1;refine Jp S fun D lp n f o z S s=> ?_;have j:aB z ⟨bs,0,none⟩=some (.slice p l c):=Lz S.fra q;have I:=Fk (y:= .func (.yield lp) #[] #[]) (xs:=xs) (fun i g=> ∃b d a,d=i∧aG h no g [aJ t [.slice b d a],own 1 b d a (az (xs.take i)),HS D (.deferred (some [])),HS lp n] [row p (az xs)]) k (by omega)
  (fun i g ⟨_,_,_,_,S⟩=>S.ro 0) j (fun i hi g ⟨b,d,a,r,S⟩=> ?_) ⟨none,0,0,rfl,S⟩
 ·refine au.mono I ?_;rintro _ g ⟨b,d,a,r,S⟩;refine⟨S.wd 3,?_⟩;replace S:=gY S 3 o rfl;refine ak (p:=b) (l:=d) (c:=a) (S.c 0) ⟨S.wd 2,?_⟩;replace S:=gY S 2 (.deferred none) rfl;rw[Xr]at S;have:d=l:=by omega
  subst this;exact⟨b,a,rfl,yy (S.pw [1])⟩
 ·refine s (xs[i],()) g _ (S.wd 3) ?_;refine⟨S.wd 3,?_⟩;replace S:=gY S 3 f rfl;refine ak (p:=b) (l:=d) (c:=a) (S.c 0) ?_;refine aA (cs:=[.int .i64 xs[i]]) S fun E G _ S=> ?_;refine cI S 1 (ys:=az [xs[i]]) rfl rfl (by decide) (by omega) (bD.of_at (S.ap 4)) rfl dc fun C B u H A S=> ?_;refine ck S 0 fun x _ S=> ?_;refine⟨S.wd 3,rfl,C,B,u,by omega,?_⟩;replace S:=gY S 3 n rfl;rw[gD hi];have e:az (xs.take i++[xs[i]])=az (xs.take i)++az [xs[i]]:=by simp only[az,V2,Wc,WZ]
  rw[e];exact S.pw [0,1,2,3]
theorem JS:rE:=by
 intro h i p l c xs f e d k;refine qU _ ?_;unfold od;have C:au P iA #[.func (.func cE) #[] #[.pointer (some ⟨i,0,none⟩)]] h fun v j=> ∃b a,v= .slice b l a∧aG h no j [own 1 b l a (az xs)] []:=by
  refine pG _ ?_;unfold mT;refine(HO f e d (by omega)).mono ?_;rintro _ g ⟨b,a,rfl,S⟩;exact⟨_,_,_,rfl,b,a,rfl,S⟩
 refine C.mono ?_;rintro _ g ⟨b,a,rfl,S⟩;refine⟨_,_,_,rfl,?_⟩;refine(TN S 0 rfl k).mono ?_;rintro _ m ⟨rfl,S⟩;exact⟨rfl,b,a,rfl,S⟩
