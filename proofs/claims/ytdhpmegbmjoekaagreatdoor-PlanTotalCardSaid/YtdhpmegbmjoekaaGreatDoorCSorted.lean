/- Contracts: the library's slices.Sorted over slices.Values. -/
import Derived.Test.YtdhpmegbmjoekaaGreatDoorCLive
import Derived.Test.YtdhpmegbmjoekaaGreatDoorShRg
namespace Go.Proofs.YtdhpmegbmjoekaaGreatDoor.G
open Go Go.Sh
set_option linter.unusedVariables false
set_option linter.unusedSimpArgs false
theorem yi (x:Int): ∀l:List Int,l.Pairwise (· ≤ ·)→(tF x l).Pairwise (· ≤ ·)
 |[],_=>by simp[tF]
 |y::r,h=>by
  rw[List.pairwise_cons] at h
  unfold tF
  split
  ·rename_i hxy
   rw[List.pairwise_cons,List.pairwise_cons]
   refine⟨fun z hz=> ?_,h⟩
   rcases List.mem_cons.1 hz with rfl|hz
   ·exact hxy
   ·have:=h.1 z hz;omega
  ·rename_i hxy
   rw[List.pairwise_cons]
   refine⟨fun z hz=> ?_,yi x r h.2⟩
   rcases(xX x z r).1 hz with rfl|hz
   ·omega
   ·exact h.1 z hz
theorem FK (x:Int): ∀l:List Int,(tF x l).Perm (x::l)
 |[]=>List.Perm.refl _
 |y::r=>by
  unfold tF
  split
  ·exact List.Perm.refl _
  ·exact((FK x r).cons y).trans (List.Perm.swap x y r)
theorem DQ: ∀xs:List Int,(kB xs).Perm xs
 |[]=>List.Perm.refl _
 |x::r=>(FK x (kB r)).trans ((DQ r).cons x)
theorem vA: ∀xs:List Int,(kB xs).Pairwise (· ≤ ·)
 |[]=>List.Pairwise.nil
 |x::r=>yi x _ (vA r)
theorem JI {xs ys:List Int} (hs:ys.Pairwise (· ≤ ·)) (hp:ys.Perm xs):ys=kB xs:=
 List.Perm.eq_of_pairwise (fun a b _ _ h1 h2=>by omega) hs (vA xs) (hp.trans (DQ xs).symm)
def GT (s:List Int) (x:Int) (rest:List Int) (j:Nat):List Int:=s.take j++x::(s.drop j++rest)
theorem JJ (s:List Int) (x:Int) (rest:List Int) (j:Nat):(GT s x rest j).length=s.length+1+rest.length:=by
 unfold GT;simp;omega
theorem Qp (s:List Int) (x:Int) (rest:List Int) {j:Nat} (hj:j≤s.length):(GT s x rest j)[j]? =some x:=by
 unfold GT
 rw[List.getElem?_append_right (by simp;omega)]
 simp only[List.length_take]
 rw[show j-min j s.length=0 by omega];rfl
theorem JK (s:List Int) (x:Int) (rest:List Int) {j:Nat} (hj:j+1≤s.length):(GT s x rest (j+1))[j]? =some s[j]:=by
 unfold GT
 rw[List.getElem?_append_left (by simp;omega),List.getElem?_take_of_lt (by omega),List.getElem?_eq_getElem (by omega)]
theorem NY (s:List Int) (x:Int) (rest:List Int) {j:Nat} (hj:j+1≤s.length):((GT s x rest (j+1)).set (j+1) s[j]).set j x=GT s x rest j:=by
 unfold GT
 have hA:(s.take j).length=j:=by rw[List.length_take];omega
 rw[List.take_succ_eq_append_getElem (show j<s.length by omega),List.append_assoc]
 conv=>rhs;rw[List.drop_eq_getElem_cons (show j<s.length by omega)]
 obtain⟨A,eA⟩: ∃A,s.take j=A:=⟨_,rfl⟩
 rw[eA] at hA ⊢
 rw[List.set_append_right _ _ (by omega),show j+1-A.length=1 by omega]
 rw[List.set_append_right _ _ (by omega),show j-A.length=0 by omega]
 rfl
section
variable {h0 h:ae} {T:Nat→Prop} {W R:List bi}
theorem Pn (x y:Int):aq P iv #[.int .i64 x,.int .i64 y] h fun v h'=>v= .bool (decide (x<y))∧h'=h:=by
 refine xH _ _ ?_
 unfold xG
 have nan:aq P gP #[.int .i64 x] h fun v h'=>v= .bool false∧h'=h:=by
  refine vS _ ?_
  unfold vv
  exact⟨by simp,rfl⟩
 refine nan.mono ?_
 rintro _ _ ⟨rfl,rfl⟩
 exact⟨_,rfl,bQ rfl ⟨rfl,rfl⟩⟩
theorem Io (S:aK h0 T h W R) (iW:Nat) {p:Option Addr} {l c:Nat} {xs:List Int} (e:W[iW]? =some (own 1 p l c (az xs))) (hl2:l<2 ^ 40):
 aq P cM #[.slice p l c,.int .i64 0,.int .i64 (l:Int)] h fun v h'=>v= .tuple #[]∧aK h0 T h' (W.set iW (own 1 p l c (az (kB xs)))) R:=by
 refine i9 _ _ _ _ _ ?_
 unfold fW
 have hiW:iW<W.length:=(List.getElem?_eq_some_iff.1 e).1
 have hlen:xs.length=l:=by have:=(S.own iW e).1;rw[aB] at this;omega
 have ew:IntKind.wrap .i64 ((0:Int)+1)=1:=by decide
 rw[ew]
 have done: ∀{g:ae} {s:List Int},aK h0 T g (W.set iW (own 1 p l c (az s))) R→s.Pairwise (· ≤ ·)→s.Perm xs→aK h0 T g (W.set iW (own 1 p l c (az (kB xs)))) R:=fun S hs hp=>by rw[←JI hs hp];exact S
 have S0:aK h0 T h (W.set iW (own 1 p l c (az xs))) R:=S.turn iW e _ (fun hh=>hh) fun _ hb=>hb
 by_cases hl0:l=0
 ·have hx0:xs=[]:=List.length_eq_zero_iff.1 (by omega)
  refine aT (fun m s g=>s=((p,l,c),(0:Int),(l:Int),(1:Int),())∧aK h0 T g (W.set iW (own 1 p l c (az xs))) R) 0 ⟨rfl,S0⟩ ?_
  rintro m s g ⟨rfl,S⟩
  unfold dl
  dsimp only
  refine au (fun hlt=>absurd hlt (by omega)) (fun _=>⟨rfl,done S ?_ (List.Perm.refl _)⟩)
  rw[hx0];exact List.Pairwise.nil
 refine aT (fun m s g=> ∃(i:Nat) (t:List Int),s=((p,l,c),(0:Int),(l:Int),(i:Int),())∧i≤l∧m=l-i∧t.length=i∧t.Pairwise (· ≤ ·)∧t.Perm (xs.take i)∧
  aK h0 T g (W.set iW (own 1 p l c (az (t++xs.drop i)))) R) (l-1) ⟨1,xs.take 1,rfl,by omega,rfl,by rw[List.length_take];omega,?_,List.Perm.refl _,by rw[List.take_append_drop];exact S0⟩ ?_
 ·match xs,hlen with
  |[],_=>exact List.Pairwise.nil
  |x::r,_=>exact List.pairwise_singleton _ _
 clear S S0
 rintro m s g ⟨i,t,rfl,hi,rfl,htl,hts,htp,S⟩
 unfold dl
 dsimp only
 refine au (fun hlt=> ?_) (fun hge=> ?_)
 ·have hix:i<xs.length:=by omega
  have hdr:xs.drop i=xs[i]::xs.drop (i+1):=List.drop_eq_getElem_cons hix
  have ei:IntKind.wrap .i64 ((i:Int)+1)=((i+1:Nat):Int):=by rw[al (by omega)];rfl
  refine aT (fun m s g=> ∃j:Nat,s=((p,l,c),(0:Int),(l:Int),(i:Int),(j:Int),())∧j≤i∧m=j∧(∀y∈t.drop j,xs[i]<y)∧
   aK h0 T g (W.set iW (own 1 p l c (az (GT t xs[i] (xs.drop (i+1)) j)))) R) i ⟨i,rfl,Nat.le_refl _,rfl,by rw[List.drop_of_length_le (by omega)];simp,?_⟩ ?_
  ·have:GT t xs[i] (xs.drop (i+1)) i=t++xs.drop i:=by
    unfold GT
    rw[List.take_of_length_le (by omega),List.drop_of_length_le (by omega),List.nil_append,hdr]
   rw[this];exact S
  clear S
  rintro m s g ⟨j,rfl,hj,hm,hbig,S⟩
  have hm:=hm.symm
  subst hm
  have e2:(W.set iW (own 1 p l c (az (GT t xs[i] (xs.drop (i+1)) j))))[iW]? =some (own 1 p l c (az (GT t xs[i] (xs.drop (i+1)) j))):=by rw[List.getElem?_set_self hiW]
  have hal:(GT t xs[i] (xs.drop (i+1)) j).length=l:=by rw[JJ,List.length_drop];omega
  have fin: ∀g,(∀y∈t.take j,y≤xs[i])→aK h0 T g (W.set iW (own 1 p l c (az (GT t xs[i] (xs.drop (i+1)) j)))) R→
   ∃m',m'<l-i∧ ∃(i':Nat) (t':List Int),(((p,l,c),(0:Int),(l:Int),((i+1:Nat):Int),()):(Option Addr×Nat×Nat)×Int×Int×Int×Unit)=((p,l,c),(0:Int),(l:Int),(i':Int),())∧i'≤l∧m'=l-i'∧t'.length=i'∧t'.Pairwise (· ≤ ·)∧t'.Perm (xs.take i')∧aK h0 T g (W.set iW (own 1 p l c (az (t'++xs.drop i')))) R:=fun g hle S=>by
   refine⟨l-(i+1),by omega,i+1,t.take j++xs[i]::t.drop j,rfl,by omega,rfl,by simp;omega,?_,?_,?_⟩
   ·rw[List.pairwise_append,List.pairwise_cons]
    have hts':=hts
    rw[←List.take_append_drop j t,List.pairwise_append] at hts'
    refine⟨hts'.1,⟨fun y hy=>by have:=hbig y hy;omega,hts'.2.1⟩,fun a ha b hb=> ?_⟩
    rcases List.mem_cons.1 hb with rfl|hb
    ·exact hle a ha
    ·exact hts'.2.2 a ha b hb
   ·rw[List.take_succ_eq_append_getElem hix]
    have h1:(t.take j++xs[i]::t.drop j).Perm (xs[i]::(t.take j++t.drop j)):=List.perm_middle
    rw[List.take_append_drop] at h1
    exact h1.trans ((htp.cons _).trans (List.perm_append_singleton _ _).symm)
   ·have:(t.take j++xs[i]::t.drop j)++xs.drop (i+1)=GT t xs[i] (xs.drop (i+1)) j:=by unfold GT;simp
    rw[this];exact S
  unfold fr
  dsimp only
  refine au (fun hj0=> ?_) (fun hj0=> ?_)
  ·obtain⟨k,rfl⟩: ∃k,j=k+1:=⟨j-1,by omega⟩
   have row:=(S.own iW e2).row
   obtain⟨a,ea⟩:=row.some_of (by rw[aB,hal];omega)
   rw[ea] at row
   have ek:IntKind.wrap .i64 (((k+1:Nat):Int)-1)=(k:Int):=by rw[al (by omega)];omega
   rw[ek]
   refine aG ea rfl (by omega) (aG ea rfl (by omega) ?_)
   simp only[Int.toNat_natCast,Nat.mul_one]
   have c1:=row.cell (aN (Qp t xs[i] (xs.drop (i+1)) (j:=k+1) (by omega)))
   have c2:=row.cell (aN (JK t xs[i] (xs.drop (i+1)) (j:=k) (by omega)))
   refine af c1 (af c2 ?_)
   refine(Pn _ _).mono ?_
   rintro _ _ ⟨rfl,rfl⟩
   refine⟨_,rfl,au (fun hless=> ?_) (fun hless=> ?_)⟩
   ·refine aG ea rfl (by omega) (aG ea rfl (by omega) ?_)
    try simp only[Int.toNat_natCast,Nat.mul_one]
    refine af c2 (af c1 (aG ea rfl (by omega) ?_))
    try simp only[Int.toNat_natCast,Nat.mul_one]
    rw[ea] at e2 S
    refine C9 S iW e2 (by rw[aB,hal];omega) fun g2 _ S=> ?_
    rw[ck,List.set_set] at S
    refine aG ea rfl (by omega) ?_
    try simp only[Int.toNat_natCast,Nat.mul_one]
    refine C9 S iW (List.getElem?_set_self hiW) (by rw[aB,List.length_set,hal];omega) fun g3 _ S=> ?_
    rw[ck,List.set_set,NY _ _ _ (by omega)] at S
    refine⟨k,by omega,k,rfl,by omega,rfl,fun y hy=> ?_,by rw[ea];exact S⟩
    rw[List.drop_eq_getElem_cons (show k<t.length by omega)] at hy
    rcases List.mem_cons.1 hy with rfl|hy
    ·exact hless
    ·exact hbig y hy
   ·rw[ei]
    refine fin _ (fun y hy=> ?_) S
    rw[List.take_succ_eq_append_getElem (show k<t.length by omega)] at hy
    have hk:t[k]≤xs[i]:=by omega
    rcases List.mem_append.1 hy with hy|hy
    ·have hts':=hts
     rw[←List.take_append_drop k t,List.pairwise_append] at hts'
     have:=hts'.2.2 y hy t[k] (by rw[List.drop_eq_getElem_cons (show k<t.length by omega)];exact List.mem_cons_self)
     omega
    ·simp only[List.mem_singleton] at hy;subst hy;exact hk
  ·rw[ei]
   have:j=0:=by omega
   subst this
   exact fin _ (by simp) S
 ·have:i=l:=by omega
  subst this
  rw[List.drop_of_length_le (by omega),List.append_nil] at S
  rw[List.take_of_length_le (by omega)] at htp
  exact⟨rfl,done S hts htp⟩
set_option maxRecDepth 100000 in
theorem JL {n:Nat} (hn:n<256):aq P ju #[.int .u64 (n:Int)] h fun v h'=> ∃m:Int,v= .int .i64 m∧h'=h:=by
 refine vR _ ?_
 unfold vu
 have L:aq P ik #[.int .u64 (n:Int)] h fun v h'=> ∃m:Int,v= .int .i64 m∧h'=h:=by
  refine tm _ ?_
  unfold rL
  refine au (fun h1=>absurd h1 (by omega)) (fun _=>au (fun h1=>absurd h1 (by omega)) (fun _=>au (fun h1=>absurd h1 (by omega)) (fun _=> ?_)))
  have ew:IntKind.wrap .u8 (n:Int)=(n:Int):=by
   unfold IntKind.wrap
   simp[IntKind.signed,IntKind.bits];omega
  rw[ew]
  generalize hs:(ByteArray.mk _:ByteArray)=s
  have hsz:s.size=256:=by rw[←hs];rfl
  refine⟨by omega,s[n]'(by omega),?_,_,rfl,rfl⟩
  rw[Int.toNat_natCast]
  exact getElem?_pos s n (by omega)
 refine L.mono ?_
 rintro _ _ ⟨m,rfl,rfl⟩
 exact⟨_,rfl,_,rfl,rfl⟩
theorem Qq (S:aK h0 T h W R) (iW:Nat) {p:Option Addr} {l c:Nat} {xs:List Int} (e:W[iW]? =some (own 1 p l c (az xs))) (hl:l≤12):
 aq P fu #[.slice p l c] h fun v h'=>v= .tuple #[]∧aK h0 T h' (W.set iW (own 1 p l c (az (kB xs)))) R:=by
 refine oQ _ _ _ ?_
 unfold lR
 have ew:IntKind.wrap .u64 (l:Int)=(l:Int):=by
  unfold IntKind.wrap
  simp[IntKind.signed,IntKind.bits];omega
 rw[ew]
 refine(JL (by omega)).mono ?_
 rintro _ h1 ⟨m,rfl,hh⟩
 subst hh
 refine⟨_,rfl,?_⟩
 have D:aq P cv #[.slice p l c,.int .i64 0,.int .i64 (l:Int),.int .i64 m] h1 fun v h'=>v= .tuple #[]∧aK h0 T h' (W.set iW (own 1 p l c (az (kB xs)))) R:=by
  refine kG _ _ _ _ _ _ ?_
  unfold i3
  refine aT (fun mm s g=>s=((p,l,c),(0:Int),(l:Int),m,true,true,())∧aK h0 T g W R) 0 ⟨rfl,S⟩ ?_
  rintro mm s g ⟨rfl,S⟩
  unfold gS
  dsimp only
  have e1:IntKind.wrap .i64 ((l:Int)-0)=(l:Int):=by rw[al (by omega)];omega
  rw[e1]
  refine au (fun _=> ?_) (fun h1=>absurd (show(l:Int)≤12 by omega) h1)
  refine(Io S iW e (by omega)).mono ?_
  rintro _ g2 ⟨rfl,S⟩
  exact⟨rfl,rfl,S⟩
 refine D.mono ?_
 rintro _ g2 ⟨rfl,S⟩
 exact⟨rfl,rfl,S⟩
end
section
variable {h:ae}
theorem EA {y:Value} {p:Option Addr} {l c bs:Nat} {xs:List Int} (J:Nat→ae→Prop) (hlen:xs.length=l) (hl:l<2 ^ 62) (hrow: ∀i h,J i h→bT h p (az xs)) (hbs:aD h ⟨bs,0,none⟩=some (.slice p l c))
 (hy: ∀(i:Nat) (hi:i<xs.length) (h:ae),J i h→fw P y [.int .i64 xs[i]] h fun v h'=>v= .bool true∧J (i+1) h') (h0:J 0 h):
 aq P bX #[y,.pointer (some ⟨bs,0,none⟩)] h fun v h'=>J xs.length h':=by
 refine lO _ _ ?_
 unfold jO
 refine am (p:=p) (l:=l) (c:=c) hbs ?_
 refine aT (fun m s g=> ∃i:Nat,s=(y,(p,l,c),(l:Int),(i:Int),())∧i≤l∧m=l-i∧J i g) l ⟨0,rfl,by omega,rfl,h0⟩ ?_
 rintro m s g ⟨i,rfl,hi,rfl,hj⟩
 unfold iF
 dsimp only
 refine au (fun hlt=> ?_) (fun hge=> ?_)
 ·have hix:i<xs.length:=by omega
  have row:=hrow i g hj
  obtain⟨a,ea⟩:=row.some_of (by rw[aB];omega)
  rw[ea] at row
  refine aG ea rfl (by omega) ?_
  simp only[Int.toNat_natCast,Nat.mul_one]
  refine af (row.cell (aN (List.getElem?_eq_getElem hix))) ?_
  refine qL (hy i hix g hj) ?_
  rintro _ g2 ⟨rfl,hj2⟩
  refine⟨_,rfl,bQ rfl ?_⟩
  rw[al (by omega)]
  exact⟨l-(i+1),by omega,i+1,rfl,by omega,rfl,hj2⟩
 ·have:i=xs.length:=by omega
  subst this
  exact hj
theorem GM {p:Option Addr} {l c bs:Nat} {xs:List Int} (hbs:aD h ⟨bs,0,none⟩=some (.slice p l c)) (hrow:bT h p (az xs)) (hlen:xs.length=l) (hl:l≤2 ^ 20):
 aq P dy #[.slice none 0 0,.func (.func bX) #[] #[.pointer (some ⟨bs,0,none⟩)]] h fun v h'=> ∃p' c',v= .slice p' l c'∧aK h no h' [own 1 p' l c' (az xs)] []:=by
 refine lz _ _ _ _ ?_
 unfold jk
 have S:=(aK.start h no).read (row p (az xs)) hrow
 refine aC (cs:=[.slice none 0 0]) S fun b1 h1 _ S=> ?_
 have hbs1:=Dp S.fra hbs
 replace S:=S.nil 1
 dsimp only[List.nil_append,List.cons_append] at S
 refine HW S fun D lp rdy busy exh h2 S hyl=> ?_
 have hbs2:aD h2 ⟨bs,0,none⟩=some (.slice p l c):=Dp S.fra hbs
 dsimp only[List.nil_append,List.cons_append] at S
 have I:=EA (y:= .func (.yield lp) #[] #[]) (xs:=xs) (fun i g=> ∃p' l' c',l'=i∧aK h no g [blk b1 [.slice p' l' c'],own 1 p' l' c' (az (xs.take i)),GR D (.deferred (some [])),GR lp rdy] [row p (az xs)]) hlen (by omega)
  (fun i g ⟨_,_,_,_,S⟩=>S.row 0 rfl) hbs2 (fun i hi g ⟨p',l',c',hl',S⟩=> ?_) ⟨none,0,0,rfl,S⟩
 ·refine aq.mono I ?_
  rintro _ g ⟨p',l',c',hl',S⟩
  refine⟨S.w 3 _ rfl,?_⟩
  replace S:=gX S 3 exh rfl
  dsimp only[List.set] at S
  refine am (p:=p') (l:=l') (c:=c') (S.cell 0 rfl rfl) ⟨S.w 2 _ rfl,?_⟩
  replace S:=gX S 2 (.deferred none) rfl
  dsimp only[List.set] at S
  rw[List.take_length] at S
  have:l'=l:=by omega
  subst this
  exact⟨p',c',rfl,GQ (S.pw [1])⟩
 ·refine hyl (xs[i],()) g _ (S.w 3 _ rfl) ?_
  refine⟨S.w 3 _ rfl,?_⟩
  replace S:=gX S 3 busy rfl
  dsimp only[List.set] at S
  refine am (p:=p') (l:=l') (c:=c') (S.cell 0 rfl rfl) ?_
  refine aC (cs:=[.int .i64 xs[i]]) S fun b6 h7 _ S=> ?_
  dsimp only[List.cons_append,List.nil_append] at S
  refine dI S 1 (ys:=az [xs[i]]) rfl rfl (by decide) (by omega) (bT.of_at (S.at 4 rfl)) rfl gO fun p2 l2 c2 h9 hl2 S=> ?_
  dsimp only[List.set] at S
  refine aJ S 0 rfl (Nat.le_of_ble_eq_true rfl) fun h10 _ S=> ?_
  dsimp only[List.set] at S
  refine⟨S.w 3 _ rfl,rfl,p2,l2,c2,by omega,?_⟩
  replace S:=gX S 3 rdy rfl
  dsimp only[List.set] at S
  rw[List.take_succ_eq_append_getElem hi]
  have e:az (xs.take i++[xs[i]])=az (xs.take i)++az [xs[i]]:=by simp only[az,List.map_append,List.map_cons,List.map_nil]
  rw[e]
  exact S.pw [0,1,2,3]
theorem Ip:qJ:=by
 intro h bs p l c xs hbs hrow hlen hl
 refine qw _ ?_
 unfold ou
 have C:aq P fK #[.func (.func bX) #[] #[.pointer (some ⟨bs,0,none⟩)]] h fun v h'=> ∃p' c',v= .slice p' l c'∧aK h no h' [own 1 p' l c' (az xs)] []:=by
  refine pD _ ?_
  unfold nh
  refine(GM hbs hrow hlen (by omega)).mono ?_
  rintro _ g ⟨p',c',rfl,S⟩
  exact⟨_,_,_,rfl,p',c',rfl,S⟩
 refine C.mono ?_
 rintro _ g ⟨p',c',rfl,S⟩
 refine⟨_,_,_,rfl,?_⟩
 refine(Qq S 0 rfl hl).mono ?_
 rintro _ g2 ⟨rfl,S⟩
 exact⟨rfl,p',c',rfl,S⟩
end
end Go.Proofs.YtdhpmegbmjoekaaGreatDoor.G
