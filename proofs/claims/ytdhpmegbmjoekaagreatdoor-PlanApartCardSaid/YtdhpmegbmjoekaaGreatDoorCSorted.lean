/- Contracts: the library's slices.Sorted over slices.Values. -/
import Derived.Test.YtdhpmegbmjoekaaGreatDoorCLive
import Derived.Test.YtdhpmegbmjoekaaGreatDoorShRg
namespace Go.Proofs.YtdhpmegbmjoekaaGreatDoor.G
open Go Go.Sh
set_option linter.unusedVariables false
set_option linter.unusedSimpArgs false
theorem insI_sorted' (x:Int): ∀l:List Int,l.Pairwise (· ≤ ·)→(insI x l).Pairwise (· ≤ ·)
 |[],_=>by simp[insI]
 |y::r,h=>by
  rw[List.pairwise_cons] at h
  unfold insI
  split
  ·rename_i hxy
   rw[List.pairwise_cons,List.pairwise_cons]
   refine⟨fun z hz=> ?_,h⟩
   rcases List.mem_cons.1 hz with rfl|hz
   ·exact hxy
   ·have:=h.1 z hz;omega
  ·rename_i hxy
   rw[List.pairwise_cons]
   refine⟨fun z hz=> ?_,insI_sorted' x r h.2⟩
   rcases(insI_mem x z r).1 hz with rfl|hz
   ·omega
   ·exact h.1 z hz
theorem insI_perm (x:Int): ∀l:List Int,(insI x l).Perm (x::l)
 |[]=>List.Perm.refl _
 |y::r=>by
  unfold insI
  split
  ·exact List.Perm.refl _
  ·exact((insI_perm x r).cons y).trans (List.Perm.swap x y r)
theorem sortI_perm: ∀xs:List Int,(sortI xs).Perm xs
 |[]=>List.Perm.refl _
 |x::r=>(insI_perm x (sortI r)).trans ((sortI_perm r).cons x)
theorem sortI_sorted': ∀xs:List Int,(sortI xs).Pairwise (· ≤ ·)
 |[]=>List.Pairwise.nil
 |x::r=>insI_sorted' x _ (sortI_sorted' r)
theorem sortI_uniq {xs ys:List Int} (hs:ys.Pairwise (· ≤ ·)) (hp:ys.Perm xs):ys=sortI xs:=
 List.Perm.eq_of_pairwise (fun a b _ _ h1 h2=>by omega) hs (sortI_sorted' xs) (hp.trans (sortI_perm xs).symm)
def atJ (s:List Int) (x:Int) (rest:List Int) (j:Nat):List Int:=s.take j++x::(s.drop j++rest)
theorem atJ_length (s:List Int) (x:Int) (rest:List Int) (j:Nat):(atJ s x rest j).length=s.length+1+rest.length:=by
 unfold atJ;simp;omega
theorem atJ_at (s:List Int) (x:Int) (rest:List Int) {j:Nat} (hj:j≤s.length):(atJ s x rest j)[j]? =some x:=by
 unfold atJ
 rw[List.getElem?_append_right (by simp;omega)]
 simp only[List.length_take]
 rw[show j-min j s.length=0 by omega];rfl
theorem atJ_before (s:List Int) (x:Int) (rest:List Int) {j:Nat} (hj:j+1≤s.length):(atJ s x rest (j+1))[j]? =some s[j]:=by
 unfold atJ
 rw[List.getElem?_append_left (by simp;omega),List.getElem?_take_of_lt (by omega),List.getElem?_eq_getElem (by omega)]
theorem atJ_swap (s:List Int) (x:Int) (rest:List Int) {j:Nat} (hj:j+1≤s.length):((atJ s x rest (j+1)).set (j+1) s[j]).set j x=atJ s x rest j:=by
 unfold atJ
 have hA:(s.take j).length=j:=by rw[List.length_take];omega
 rw[List.take_succ_eq_append_getElem (show j<s.length by omega),List.append_assoc]
 conv=>rhs;rw[List.drop_eq_getElem_cons (show j<s.length by omega)]
 obtain⟨A,eA⟩: ∃A,s.take j=A:=⟨_,rfl⟩
 rw[eA] at hA ⊢
 rw[List.set_append_right _ _ (by omega),show j+1-A.length=1 by omega]
 rw[List.set_append_right _ _ (by omega),show j-A.length=0 by omega]
 rfl
section
variable {h0 h:Heap} {T:Nat→Prop} {W R:List Fact}
theorem Less_ok (x y:Int):callP P n_cmp_Less_int #[.int .i64 x,.int .i64 y] h fun v h'=>v= .bool (decide (x<y))∧h'=h:=by
 refine call_cmp_Less_int _ _ ?_
 unfold cmp_Less_int
 have nan:callP P n_cmp_isNaN_int #[.int .i64 x] h fun v h'=>v= .bool false∧h'=h:=by
  refine call_cmp_isNaN_int _ ?_
  unfold cmp_isNaN_int
  exact⟨by simp,rfl⟩
 refine nan.mono ?_
 rintro _ _ ⟨rfl,rfl⟩
 exact⟨_,rfl,ifB_false rfl ⟨rfl,rfl⟩⟩
theorem insertion_S (S:Sep h0 T h W R) (iW:Nat) {p:Option Addr} {l c:Nat} {xs:List Int} (e:W[iW]? =some (own 1 p l c (ints xs))) (hl2:l<2 ^ 40):
 callP P n_slices_insertionSortOrdered_int #[.slice p l c,.int .i64 0,.int .i64 (l:Int)] h fun v h'=>v= .tuple #[]∧Sep h0 T h' (W.set iW (own 1 p l c (ints (sortI xs)))) R:=by
 refine call_slices_insertionSortOrdered_int _ _ _ _ _ ?_
 unfold slices_insertionSortOrdered_int
 have hiW:iW<W.length:=(List.getElem?_eq_some_iff.1 e).1
 have hlen:xs.length=l:=by have:=(S.own iW e).1;rw[ints_length] at this;omega
 have ew:IntKind.wrap .i64 ((0:Int)+1)=1:=by decide
 rw[ew]
 have done: ∀{g:Heap} {s:List Int},Sep h0 T g (W.set iW (own 1 p l c (ints s))) R→s.Pairwise (· ≤ ·)→s.Perm xs→Sep h0 T g (W.set iW (own 1 p l c (ints (sortI xs)))) R:=fun S hs hp=>by rw[←sortI_uniq hs hp];exact S
 have S0:Sep h0 T h (W.set iW (own 1 p l c (ints xs))) R:=S.turn iW e _ (fun hh=>hh) fun _ hb=>hb
 by_cases hl0:l=0
 ·have hx0:xs=[]:=List.length_eq_zero_iff.1 (by omega)
  refine LoopS_i (fun m s g=>s=((p,l,c),(0:Int),(l:Int),(1:Int),())∧Sep h0 T g (W.set iW (own 1 p l c (ints xs))) R) 0 ⟨rfl,S0⟩ ?_
  rintro m s g ⟨rfl,S⟩
  unfold slices_insertionSortOrdered_int_l1
  dsimp only
  refine ifB_dec (fun hlt=>absurd hlt (by omega)) (fun _=>⟨rfl,done S ?_ (List.Perm.refl _)⟩)
  rw[hx0];exact List.Pairwise.nil
 refine LoopS_i (fun m s g=> ∃(i:Nat) (t:List Int),s=((p,l,c),(0:Int),(l:Int),(i:Int),())∧i≤l∧m=l-i∧t.length=i∧t.Pairwise (· ≤ ·)∧t.Perm (xs.take i)∧
  Sep h0 T g (W.set iW (own 1 p l c (ints (t++xs.drop i)))) R) (l-1) ⟨1,xs.take 1,rfl,by omega,rfl,by rw[List.length_take];omega,?_,List.Perm.refl _,by rw[List.take_append_drop];exact S0⟩ ?_
 ·match xs,hlen with
  |[],_=>exact List.Pairwise.nil
  |x::r,_=>exact List.pairwise_singleton _ _
 clear S S0
 rintro m s g ⟨i,t,rfl,hi,rfl,htl,hts,htp,S⟩
 unfold slices_insertionSortOrdered_int_l1
 dsimp only
 refine ifB_dec (fun hlt=> ?_) (fun hge=> ?_)
 ·have hix:i<xs.length:=by omega
  have hdr:xs.drop i=xs[i]::xs.drop (i+1):=List.drop_eq_getElem_cons hix
  have ei:IntKind.wrap .i64 ((i:Int)+1)=((i+1:Nat):Int):=by rw[wrap64_in (by omega)];rfl
  refine LoopS_i (fun m s g=> ∃j:Nat,s=((p,l,c),(0:Int),(l:Int),(i:Int),(j:Int),())∧j≤i∧m=j∧(∀y∈t.drop j,xs[i]<y)∧
   Sep h0 T g (W.set iW (own 1 p l c (ints (atJ t xs[i] (xs.drop (i+1)) j)))) R) i ⟨i,rfl,Nat.le_refl _,rfl,by rw[List.drop_of_length_le (by omega)];simp,?_⟩ ?_
  ·have:atJ t xs[i] (xs.drop (i+1)) i=t++xs.drop i:=by
    unfold atJ
    rw[List.take_of_length_le (by omega),List.drop_of_length_le (by omega),List.nil_append,hdr]
   rw[this];exact S
  clear S
  rintro m s g ⟨j,rfl,hj,hm,hbig,S⟩
  have hm:=hm.symm
  subst hm
  have e2:(W.set iW (own 1 p l c (ints (atJ t xs[i] (xs.drop (i+1)) j))))[iW]? =some (own 1 p l c (ints (atJ t xs[i] (xs.drop (i+1)) j))):=by rw[List.getElem?_set_self hiW]
  have hal:(atJ t xs[i] (xs.drop (i+1)) j).length=l:=by rw[atJ_length,List.length_drop];omega
  have fin: ∀g,(∀y∈t.take j,y≤xs[i])→Sep h0 T g (W.set iW (own 1 p l c (ints (atJ t xs[i] (xs.drop (i+1)) j)))) R→
   ∃m',m'<l-i∧ ∃(i':Nat) (t':List Int),(((p,l,c),(0:Int),(l:Int),((i+1:Nat):Int),()):(Option Addr×Nat×Nat)×Int×Int×Int×Unit)=((p,l,c),(0:Int),(l:Int),(i':Int),())∧i'≤l∧m'=l-i'∧t'.length=i'∧t'.Pairwise (· ≤ ·)∧t'.Perm (xs.take i')∧Sep h0 T g (W.set iW (own 1 p l c (ints (t'++xs.drop i')))) R:=fun g hle S=>by
   refine⟨l-(i+1),by omega,i+1,t.take j++xs[i]::t.drop j,rfl,by omega,rfl,by simp;omega,?_,?_,?_⟩
   ·rw[List.pairwise_append,List.pairwise_cons]
    have hts':=hts
    rw[←List.take_append_drop j t,List.pairwise_append] at hts'
    refine⟨hts'.1,⟨fun y hy=>by have:=hbig y hy;omega,hts'.2.1⟩,fun a ha b hb=> ?_⟩
    rcases List.mem_cons.1 hb with rfl|hb
    ·exact hle a ha
    ·exact hts'.2.2 a ha b hb
   ·rw[List.take_succ_eq_append_getElem hix]
    have h1:(t.take j++xs[i]::t.drop j).Perm (xs[i]::(t.take j++t.drop j)):=List.perm_middle
    rw[List.take_append_drop] at h1
    exact h1.trans ((htp.cons _).trans (List.perm_append_singleton _ _).symm)
   ·have:(t.take j++xs[i]::t.drop j)++xs.drop (i+1)=atJ t xs[i] (xs.drop (i+1)) j:=by unfold atJ;simp
    rw[this];exact S
  unfold slices_insertionSortOrdered_int_l4
  dsimp only
  refine ifB_dec (fun hj0=> ?_) (fun hj0=> ?_)
  ·obtain⟨k,rfl⟩: ∃k,j=k+1:=⟨j-1,by omega⟩
   have row:=(S.own iW e2).row
   obtain⟨a,ea⟩:=row.some_of (by rw[ints_length,hal];omega)
   rw[ea] at row
   have ek:IntKind.wrap .i64 (((k+1:Nat):Int)-1)=(k:Int):=by rw[wrap64_in (by omega)];omega
   rw[ek]
   refine idxI_i ea rfl (by omega) (idxI_i ea rfl (by omega) ?_)
   simp only[Int.toNat_natCast,Nat.mul_one]
   have c1:=row.cell (ints_get (atJ_at t xs[i] (xs.drop (i+1)) (j:=k+1) (by omega)))
   have c2:=row.cell (ints_get (atJ_before t xs[i] (xs.drop (i+1)) (j:=k) (by omega)))
   refine ldInt_i c1 (ldInt_i c2 ?_)
   refine(Less_ok _ _).mono ?_
   rintro _ _ ⟨rfl,rfl⟩
   refine⟨_,rfl,ifB_dec (fun hless=> ?_) (fun hless=> ?_)⟩
   ·refine idxI_i ea rfl (by omega) (idxI_i ea rfl (by omega) ?_)
    try simp only[Int.toNat_natCast,Nat.mul_one]
    refine ldInt_i c2 (ldInt_i c1 (idxI_i ea rfl (by omega) ?_))
    try simp only[Int.toNat_natCast,Nat.mul_one]
    rw[ea] at e2 S
    refine stO_S S iW e2 (by rw[ints_length,hal];omega) fun g2 _ S=> ?_
    rw[ints_set',List.set_set] at S
    refine idxI_i ea rfl (by omega) ?_
    try simp only[Int.toNat_natCast,Nat.mul_one]
    refine stO_S S iW (List.getElem?_set_self hiW) (by rw[ints_length,List.length_set,hal];omega) fun g3 _ S=> ?_
    rw[ints_set',List.set_set,atJ_swap _ _ _ (by omega)] at S
    refine⟨k,by omega,k,rfl,by omega,rfl,fun y hy=> ?_,by rw[ea];exact S⟩
    rw[List.drop_eq_getElem_cons (show k<t.length by omega)] at hy
    rcases List.mem_cons.1 hy with rfl|hy
    ·exact hless
    ·exact hbig y hy
   ·rw[ei]
    refine fin _ (fun y hy=> ?_) S
    rw[List.take_succ_eq_append_getElem (show k<t.length by omega)] at hy
    have hk:t[k]≤xs[i]:=by omega
    rcases List.mem_append.1 hy with hy|hy
    ·have hts':=hts
     rw[←List.take_append_drop k t,List.pairwise_append] at hts'
     have:=hts'.2.2 y hy t[k] (by rw[List.drop_eq_getElem_cons (show k<t.length by omega)];exact List.mem_cons_self)
     omega
    ·simp only[List.mem_singleton] at hy;subst hy;exact hk
  ·rw[ei]
   have:j=0:=by omega
   subst this
   exact fin _ (by simp) S
 ·have:i=l:=by omega
  subst this
  rw[List.drop_of_length_le (by omega),List.append_nil] at S
  rw[List.take_of_length_le (by omega)] at htp
  exact⟨rfl,done S hts htp⟩
set_option maxRecDepth 100000 in
theorem bitsLen_ok {n:Nat} (hn:n<256):callP P n_math_bits_Len #[.int .u64 (n:Int)] h fun v h'=> ∃m:Int,v= .int .i64 m∧h'=h:=by
 refine call_math_bits_Len _ ?_
 unfold math_bits_Len
 have L:callP P n_math_bits_Len64 #[.int .u64 (n:Int)] h fun v h'=> ∃m:Int,v= .int .i64 m∧h'=h:=by
  refine call_math_bits_Len64 _ ?_
  unfold math_bits_Len64
  refine ifB_dec (fun h1=>absurd h1 (by omega)) (fun _=>ifB_dec (fun h1=>absurd h1 (by omega)) (fun _=>ifB_dec (fun h1=>absurd h1 (by omega)) (fun _=> ?_)))
  have ew:IntKind.wrap .u8 (n:Int)=(n:Int):=by
   unfold IntKind.wrap
   simp[IntKind.signed,IntKind.bits];omega
  rw[ew]
  generalize hs:(ByteArray.mk _:ByteArray)=s
  have hsz:s.size=256:=by rw[←hs];rfl
  refine⟨by omega,s[n]'(by omega),?_,_,rfl,rfl⟩
  rw[Int.toNat_natCast]
  exact getElem?_pos s n (by omega)
 refine L.mono ?_
 rintro _ _ ⟨m,rfl,rfl⟩
 exact⟨_,rfl,_,rfl,rfl⟩
theorem Sort_S (S:Sep h0 T h W R) (iW:Nat) {p:Option Addr} {l c:Nat} {xs:List Int} (e:W[iW]? =some (own 1 p l c (ints xs))) (hl:l≤12):
 callP P n_slices_Sort_int_int #[.slice p l c] h fun v h'=>v= .tuple #[]∧Sep h0 T h' (W.set iW (own 1 p l c (ints (sortI xs)))) R:=by
 refine call_slices_Sort_int_int _ _ _ ?_
 unfold slices_Sort_int_int
 have ew:IntKind.wrap .u64 (l:Int)=(l:Int):=by
  unfold IntKind.wrap
  simp[IntKind.signed,IntKind.bits];omega
 rw[ew]
 refine(bitsLen_ok (by omega)).mono ?_
 rintro _ h1 ⟨m,rfl,hh⟩
 subst hh
 refine⟨_,rfl,?_⟩
 have D:callP P n_slices_pdqsortOrdered_int #[.slice p l c,.int .i64 0,.int .i64 (l:Int),.int .i64 m] h1 fun v h'=>v= .tuple #[]∧Sep h0 T h' (W.set iW (own 1 p l c (ints (sortI xs)))) R:=by
  refine call_slices_pdqsortOrdered_int _ _ _ _ _ _ ?_
  unfold slices_pdqsortOrdered_int
  refine LoopS_i (fun mm s g=>s=((p,l,c),(0:Int),(l:Int),m,true,true,())∧Sep h0 T g W R) 0 ⟨rfl,S⟩ ?_
  rintro mm s g ⟨rfl,S⟩
  unfold slices_pdqsortOrdered_int_l2
  dsimp only
  have e1:IntKind.wrap .i64 ((l:Int)-0)=(l:Int):=by rw[wrap64_in (by omega)];omega
  rw[e1]
  refine ifB_dec (fun _=> ?_) (fun h1=>absurd (show(l:Int)≤12 by omega) h1)
  refine(insertion_S S iW e (by omega)).mono ?_
  rintro _ g2 ⟨rfl,S⟩
  exact⟨rfl,rfl,S⟩
 refine D.mono ?_
 rintro _ g2 ⟨rfl,S⟩
 exact⟨rfl,rfl,S⟩
end
section
variable {h:Heap}
theorem ValuesIter_ok {y:Value} {p:Option Addr} {l c bs:Nat} {xs:List Int} (J:Nat→Heap→Prop) (hlen:xs.length=l) (hl:l<2 ^ 62) (hrow: ∀i h,J i h→Row h p (ints xs)) (hbs:cellH h ⟨bs,0,none⟩=some (.slice p l c))
 (hy: ∀(i:Nat) (hi:i<xs.length) (h:Heap),J i h→callAny P y [.int .i64 xs[i]] h fun v h'=>v= .bool true∧J (i+1) h') (h0:J 0 h):
 callP P n_slices_Values_int_int_1 #[y,.pointer (some ⟨bs,0,none⟩)] h fun v h'=>J xs.length h':=by
 refine call_slices_Values_int_int_1 _ _ ?_
 unfold slices_Values_int_int_1
 refine ldSlice_i (p:=p) (l:=l) (c:=c) hbs ?_
 refine LoopS_i (fun m s g=> ∃i:Nat,s=(y,(p,l,c),(l:Int),(i:Int),())∧i≤l∧m=l-i∧J i g) l ⟨0,rfl,by omega,rfl,h0⟩ ?_
 rintro m s g ⟨i,rfl,hi,rfl,hj⟩
 unfold slices_Values_int_int_1_l1
 dsimp only
 refine ifB_dec (fun hlt=> ?_) (fun hge=> ?_)
 ·have hix:i<xs.length:=by omega
  have row:=hrow i g hj
  obtain⟨a,ea⟩:=row.some_of (by rw[ints_length];omega)
  rw[ea] at row
  refine idxI_i ea rfl (by omega) ?_
  simp only[Int.toNat_natCast,Nat.mul_one]
  refine ldInt_i (row.cell (ints_get (List.getElem?_eq_getElem hix))) ?_
  refine callAny_mono (hy i hix g hj) ?_
  rintro _ g2 ⟨rfl,hj2⟩
  refine⟨_,rfl,ifB_false rfl ?_⟩
  rw[wrap64_in (by omega)]
  exact⟨l-(i+1),by omega,i+1,rfl,by omega,rfl,hj2⟩
 ·have:i=xs.length:=by omega
  subst this
  exact hj
theorem AppendSeq_ok {p:Option Addr} {l c bs:Nat} {xs:List Int} (hbs:cellH h ⟨bs,0,none⟩=some (.slice p l c)) (hrow:Row h p (ints xs)) (hlen:xs.length=l) (hl:l≤2 ^ 20):
 callP P n_slices_AppendSeq_int_int #[.slice none 0 0,.func (.func n_slices_Values_int_int_1) #[] #[.pointer (some ⟨bs,0,none⟩)]] h fun v h'=> ∃p' c',v= .slice p' l c'∧Sep h no h' [own 1 p' l c' (ints xs)] []:=by
 refine call_slices_AppendSeq_int_int _ _ _ _ ?_
 unfold slices_AppendSeq_int_int
 have S:=(Sep.start h no).read (row p (ints xs)) hrow
 refine newI_S (cs:=[.slice none 0 0]) S fun b1 h1 _ S=> ?_
 have hbs1:=cellOf_fra S.fra hbs
 replace S:=S.nil 1
 dsimp only[List.nil_append,List.cons_append] at S
 refine rangeP_S S fun D lp rdy busy exh h2 S hyl=> ?_
 have hbs2:cellH h2 ⟨bs,0,none⟩=some (.slice p l c):=cellOf_fra S.fra hbs
 dsimp only[List.nil_append,List.cons_append] at S
 have I:=ValuesIter_ok (y:= .func (.yield lp) #[] #[]) (xs:=xs) (fun i g=> ∃p' l' c',l'=i∧Sep h no g [blk b1 [.slice p' l' c'],own 1 p' l' c' (ints (xs.take i)),obj D (.deferred (some [])),obj lp rdy] [row p (ints xs)]) hlen (by omega)
  (fun i g ⟨_,_,_,_,S⟩=>S.row 0 rfl) hbs2 (fun i hi g ⟨p',l',c',hl',S⟩=> ?_) ⟨none,0,0,rfl,S⟩
 ·refine callP.mono I ?_
  rintro _ g ⟨p',l',c',hl',S⟩
  refine⟨S.w 3 _ rfl,?_⟩
  replace S:=setObj_S S 3 exh rfl
  dsimp only[List.set] at S
  refine ldSlice_i (p:=p') (l:=l') (c:=c') (S.cell 0 rfl rfl) ⟨S.w 2 _ rfl,?_⟩
  replace S:=setObj_S S 2 (.deferred none) rfl
  dsimp only[List.set] at S
  rw[List.take_length] at S
  have:l'=l:=by omega
  subst this
  exact⟨p',c',rfl,noR (S.pw [1])⟩
 ·refine hyl (xs[i],()) g _ (S.w 3 _ rfl) ?_
  refine⟨S.w 3 _ rfl,?_⟩
  replace S:=setObj_S S 3 busy rfl
  dsimp only[List.set] at S
  refine ldSlice_i (p:=p') (l:=l') (c:=c') (S.cell 0 rfl rfl) ?_
  refine newI_S (cs:=[.int .i64 xs[i]]) S fun b6 h7 _ S=> ?_
  dsimp only[List.cons_append,List.nil_append] at S
  refine appI_S S 1 (ys:=ints [xs[i]]) rfl rfl (by decide) (by omega) (Row.of_at (S.at 4 rfl)) rfl vals_one fun p2 l2 c2 h9 hl2 S=> ?_
  dsimp only[List.set] at S
  refine stI_S S 0 rfl (Nat.le_of_ble_eq_true rfl) fun h10 _ S=> ?_
  dsimp only[List.set] at S
  refine⟨S.w 3 _ rfl,rfl,p2,l2,c2,by omega,?_⟩
  replace S:=setObj_S S 3 rdy rfl
  dsimp only[List.set] at S
  rw[List.take_succ_eq_append_getElem hi]
  have e:ints (xs.take i++[xs[i]])=ints (xs.take i)++ints [xs[i]]:=by simp only[ints,List.map_append,List.map_cons,List.map_nil]
  rw[e]
  exact S.pw [0,1,2,3]
theorem sorted_spec:SortedSpec:=by
 intro h bs p l c xs hbs hrow hlen hl
 refine call_slices_Sorted_int _ ?_
 unfold slices_Sorted_int
 have C:callP P n_slices_Collect_int #[.func (.func n_slices_Values_int_int_1) #[] #[.pointer (some ⟨bs,0,none⟩)]] h fun v h'=> ∃p' c',v= .slice p' l c'∧Sep h no h' [own 1 p' l c' (ints xs)] []:=by
  refine call_slices_Collect_int _ ?_
  unfold slices_Collect_int
  refine(AppendSeq_ok hbs hrow hlen (by omega)).mono ?_
  rintro _ g ⟨p',c',rfl,S⟩
  exact⟨_,_,_,rfl,p',c',rfl,S⟩
 refine C.mono ?_
 rintro _ g ⟨p',c',rfl,S⟩
 refine⟨_,_,_,rfl,?_⟩
 refine(Sort_S S 0 rfl hl).mono ?_
 rintro _ g2 ⟨rfl,S⟩
 exact⟨rfl,p',c',rfl,S⟩
end
end Go.Proofs.YtdhpmegbmjoekaaGreatDoor.G
