/- CStep CStep2 CStep3, in one text. -/
import Derived.Test.YtdhpmegbmjoekaaGreatDoorCLive
section
namespace Go.Proofs.YtdhpmegbmjoekaaGreatDoor.G
open Go Go.Sh
set_option linter.unusedVariables false
set_option linter.unusedSimpArgs false
def iI (ns:List Nd) (M:LM) (a:Int):Nat→Int
 |0=>0
 |j+1=>match ns[j]? with
  |some n=>if(M ((j:Int)+1)).isSome∧a∈n.inn then(j:Int)+1 else iI ns M a j
  |none=>iI ns M a j
def ij (ns:List Nd) (M:LM) (a:Int):Int:=iI ns M a ns.length
def wk (u a:Int) (k:Int):Int:=if k=u then a else k
def zo (u a:Int) (ns:List Nd):List Nd:=ns.mapIdx fun q n=>if(q:Int)+1=u then n else{n with inn:=n.inn.map (wk u a)}
abbrev Bc:=List Nd×Int×LM
def gJ (ns:List Nd) (out:Int) (M:LM) (i:Nat):Option Bc:=
 match ns[i]? with
 |none=>none
 |some a=>
  if M ((i:Int)+1)=some 1∧(i:Int)+1≠out∧jb a.kind then
   match ns[(ij ns M ((i:Int)+1)-1).toNat]? with
   |none=>none
   |some nu=>(qK a nu).map fun a'=>(zo (ij ns M ((i:Int)+1)) ((i:Int)+1) (ns.set i a'),if out=ij ns M ((i:Int)+1) then(i:Int)+1 else out,
    OW (tH M ((i:Int)+1) ((M (ij ns M ((i:Int)+1))).getD 0)) (ij ns M ((i:Int)+1)))
  else none
def pR (ns:List Nd) (out:Int) (M:LM):Nat→Nat→Option Bc
 |0,_=>none
 |k+1,i=>match gJ ns out M i with
  |some x=>some x
  |none=>pR ns out M k (i+1)
def gW (ns:List Nd) (out:Int) (M:LM):Option Bc:=pR ns out M ns.length 0
def Kp (ns:List Nd) (M:LM):Prop:= ∀i:Nat,i<ns.length→M ((i:Int)+1)=some 1→1≤ij ns M ((i:Int)+1)
theorem Fj (ns:List Nd) (M:LM) (a:Int): ∀j,0≤iI ns M a j∧iI ns M a j≤(j:Int)
 |0=>by simp[iI]
 |j+1=>by
  have:=Fj ns M a j
  unfold iI
  split
  ·split<;>omega
  ·omega
def Sl.rep (u a:Int) (s:Sl):Sl:={s with xs:=s.xs.map (wk u a)}
def kq (u a:Int) (j:Nat) (ns:List Nv):List Nv:=ns.mapIdx fun q n=>if(q:Int)+1=u∨j≤q then n else{n with inn:=n.inn.rep u a}
theorem Lm (u a:Int) (ns:List Nv):kq u a 0 ns=ns:=by
 unfold kq
 apply List.ext_getElem?
 intro q
 rw[List.getElem?_mapIdx]
 cases ns[q]? <;>simp
theorem lJ (u a:Int) (j:Nat) (ns:List Nv):(kq u a j ns).length=ns.length:=by simp[kq]
theorem jo (u a:Int) (j q:Nat) (ns:List Nv):(kq u a j ns)[q]? =ns[q]?.map fun n=>if(q:Int)+1=u∨j≤q then n else{n with inn:=n.inn.rep u a}:=by
 unfold kq;rw[List.getElem?_mapIdx]
theorem Jj (u a:Int) (j:Nat) (ns:List Nv):aF (kq u a j ns)=aF ns:=by
 unfold aF
 congr 1
 apply List.ext_getElem?
 intro q
 rw[List.getElem?_map,List.getElem?_map,jo]
 cases ns[q]? with
 |none=>rfl
 |some n=>
  simp only[Option.map_some]
  split
  ·rfl
  ·rw[dp,dp];rfl
theorem OL (u a:Int) (ns:List Nv):(kq u a ns.length ns).map Nv.nd=zo u a (ns.map Nv.nd):=by
 apply List.ext_getElem?
 intro q
 rw[List.getElem?_map,jo]
 unfold zo
 rw[List.getElem?_mapIdx,List.getElem?_map]
 cases hq:ns[q]? with
 |none=>rfl
 |some n=>
  have hlt:=(List.getElem?_eq_some_iff.1 hq).1
  simp only[Option.map_some]
  by_cases h:(q:Int)+1=u
  ·rw[if_pos (.inl h),if_pos h]
  ·rw[if_neg (by omega),if_neg h];rfl
theorem Ln {u a:Int} {j:Nat} {ns:List Nv} (hj:j<ns.length):kq u a (j+1) ns=if(j:Int)+1=u then kq u a j ns else(kq u a j ns).set j {ns[j] with inn:=ns[j].inn.rep u a}:=by
 apply List.ext_getElem?
 intro q
 rw[jo]
 by_cases hu:(j:Int)+1=u
 ·rw[if_pos hu,jo]
  cases hq:ns[q]? with
  |none=>rfl
  |some n=>
   simp only[Option.map_some,Option.some.injEq]
   by_cases hqj:q=j
   ·subst hqj;rw[if_pos (.inl hu),if_pos (.inl hu)]
   ·by_cases h:(q:Int)+1=u∨j≤q
    ·rw[if_pos h,if_pos (by omega)]
    ·rw[if_neg h,if_neg (by omega)]
 ·rw[if_neg hu]
  by_cases hqj:q=j
  ·subst hqj
   rw[List.getElem?_set_self (by rw[lJ];exact hj),List.getElem?_eq_getElem hj,Option.map_some,if_neg (by omega)]
  ·rw[List.getElem?_set_ne (Ne.symm hqj),jo]
   cases hq:ns[q]? with
   |none=>rfl
   |some n=>
    simp only[Option.map_some,Option.some.injEq]
    by_cases h:(q:Int)+1=u∨j≤q
    ·rw[if_pos h,if_pos (by omega)]
    ·rw[if_neg h,if_neg (by omega)]
theorem M8 (u a:Int) (j:Nat) (ns:List Nv):ul (kq u a j ns)=ul ns:=by
 have: ∀l m:List Nv,l.length=m.length→(∀q (h1:q<l.length) (h2:q<m.length),l[q].weights=m[q].weights∧l[q].bias=m[q].bias)→ul l=ul m:=by
  intro l
  induction l with
  |nil=>intro m hm _;have:m=[]:=List.length_eq_zero_iff.1 hm.symm;subst this;rfl
  |cons x r ih=>
   intro m hm hq
   cases m with
   |nil=>simp at hm
   |cons y s=>
    have h0:=hq 0 (by simp) (by simp)
    simp only[List.getElem_cons_zero] at h0
    have:=ih s (by simpa using hm) fun q h1 h2=>by
     have:=hq (q+1) (by simpa using h1) (by simpa using h2)
     simpa using this
    unfold ul at this ⊢
    rw[List.flatMap_cons,List.flatMap_cons,this,h0.1,h0.2]
 refine this _ _ (lJ _ _ _ _) fun q h1 h2=> ?_
 have:=jo u a j q ns
 rw[List.getElem?_eq_getElem h1,List.getElem?_eq_getElem h2,Option.map_some,Option.some.injEq] at this
 rw[this]
 split<;>exact⟨rfl,rfl⟩
end Go.Proofs.YtdhpmegbmjoekaaGreatDoor.G
end
section
namespace Go.Proofs.YtdhpmegbmjoekaaGreatDoor.G
open Go Go.Sh
set_option linter.unusedVariables false
set_option linter.unusedSimpArgs false
def Fk (u a:Int) (b:Bool) (xs:List Int) (m:Nat):List Int:=if b then xs else(xs.take m).map (wk u a)++xs.drop m
theorem M9 (u a:Int) (b:Bool) (xs:List Int):Fk u a b xs 0=xs:=by unfold Fk;split<;>simp
theorem Di (u a:Int) (b:Bool) (xs:List Int) (m:Nat):(Fk u a b xs m).length=xs.length:=by unfold Fk;split<;>simp;omega
theorem OM (u a:Int) (b:Bool) {xs:List Int} {m:Nat} (hm:m<xs.length):(Fk u a b xs m)[m]? =some xs[m]:=by
 unfold Fk;split
 ·exact List.getElem?_eq_getElem hm
 ·rw[List.getElem?_append_right (by simp;omega),List.getElem?_drop]
  simp only[List.length_map,List.length_take]
  rw[show m+(m-min m xs.length)=m by omega,List.getElem?_eq_getElem hm]
theorem ON {u a:Int} {xs:List Int} {m:Nat} (hm:m<xs.length) (hu:xs[m]=u):(Fk u a false xs m).set m a=Fk u a false xs (m+1):=by
 unfold Fk
 simp only[Bool.false_eq_true,if_false]
 rw[List.set_append_right _ _ (by simp;omega),List.length_map,List.length_take,Nat.min_eq_left (by omega),Nat.sub_self,List.drop_eq_getElem_cons hm,List.set_cons_zero,List.take_succ_eq_append_getElem hm,List.map_append,List.append_assoc]
 congr 1
 simp[wk,hu]
theorem HR {u a:Int} {b:Bool} {xs:List Int} {m:Nat} (hm:m<xs.length) (hu:b=true∨xs[m]≠u):Fk u a b xs (m+1)=Fk u a b xs m:=by
 unfold Fk
 split
 ·rfl
 ·rename_i hb
  have hu:xs[m]≠u:=by rcases hu with h|h;exact absurd h hb;exact h
  rw[List.take_succ_eq_append_getElem hm,List.map_append,List.append_assoc,List.drop_eq_getElem_cons hm]
  congr 1
  simp[wk,hu]
theorem OO (u a:Int) (b:Bool) (xs:List Int):Fk u a b xs xs.length=if b then xs else xs.map (wk u a):=by unfold Fk;split<;>simp
theorem Lp {u a:Int} {j:Nat} {ns:List Nv} {n:Nv} (e:ns[j]? =some n):(kq u a (j+1) ns).map Nv.inn=((kq u a j ns).map Nv.inn).set j {n.inn with xs:=Fk u a (decide ((j:Int)+1=u)) n.inn.xs n.inn.xs.length}:=by
 have hj:=(List.getElem?_eq_some_iff.1 e).1
 have en:ns[j]=n:=by rw[List.getElem?_eq_getElem hj] at e;exact Option.some.inj e
 rw[Ln hj,OO,en]
 by_cases hu:(j:Int)+1=u
 ·rw[if_pos hu,if_pos (by simpa using hu)]
  have:((kq u a j ns).map Nv.inn)[j]? =some n.inn:=by rw[List.getElem?_map,jo,e,Option.map_some,if_pos (.inl hu)];rfl
  have hl:j<((kq u a j ns).map Nv.inn).length:=by rw[List.length_map,lJ];exact hj
  rw[List.getElem?_eq_getElem hl] at this
  show _=List.set _ j n.inn
  rw[←Option.some.inj this,List.set_getElem_self]
 ·rw[if_neg hu,if_neg (by simpa using hu),List.map_set];rfl
section
variable {h0 h:ae} {T:Nat→Prop} {R:List bi}
theorem Lq {gv:Gv} (hl:gv.l<2 ^ 20) {ms:List Nv} (hms:ms.length=gv.l) (hs: ∀n∈ms,n.inn.xs.length=n.inn.l∧n.inn.l<2 ^ 40) {b1 r:Nat} {M:LM} {Q:Value→ae→Prop} {K1 K2} (i:Nat) (hi:i<gv.l) (u:Int)
 (S:aK h0 T h [blk b1 gv.cells,own 15 gv.p gv.l gv.c (aF ms),fe (ms.map Nv.inn),um r M] R)
 (H: ∀h',aK h0 T h' [blk b1 ({gv with out:=if gv.out=u then(i:Int)+1 else gv.out}:Gv).cells,own 15 gv.p gv.l gv.c (aF ms),fe ((kq u ((i:Int)+1) ms.length ms).map Nv.inn),um r (OW (tH M ((i:Int)+1) ((M u).getD 0)) u)] R→Q (.bool true) h'):
 bB (S:=(Option Addr×Option Nat×Int×Int×Int×Int×Unit)) (fun K3 s h=>oI Q K1 K2 K3 s.1 s.2.1 s.2.2.1 s.2.2.2.1 s.2.2.2.2.1 s.2.2.2.2.2.1 h) (some ⟨b1,0,none⟩,some r,(i:Int),u,((gv.l:Nat):Int),(0:Int),()) h:=by
 have ei:IntKind.wrap .i64 ((i:Int)+1)=(i:Int)+1:=by rw[al (by omega)]
 refine aT (fun mm s g=> ∃j:Nat,s=(some ⟨b1,0,none⟩,some r,(i:Int),u,(gv.l:Int),(j:Int),())∧j≤gv.l∧mm=gv.l-j∧
  aK h0 T g [blk b1 gv.cells,own 15 gv.p gv.l gv.c (aF ms),fe ((kq u ((i:Int)+1) j ms).map Nv.inn),um r M] R) gv.l ⟨0,rfl,by omega,rfl,by rw[Lm];exact S⟩ ?_
 clear S
 rintro mm s g ⟨j,rfl,hj,rfl,S⟩
 unfold oI
 simp only[kl,aY,Nat.zero_add]
 refine au (fun hlt=> ?_) (fun hge=> ?_)
 ·have hjm:j<ms.length:=by omega
  obtain⟨n,en⟩: ∃n,ms[j]? =some n:=⟨_,List.getElem?_eq_getElem hjm⟩
  have hmem:=List.mem_of_getElem? en
  obtain⟨hxl,hxs⟩:=hs n hmem
  refine am (p:=gv.p) (l:=gv.l) (c:=gv.c) (S.cell 0 rfl rfl) ?_
  obtain⟨b,eb⟩: ∃b,gv.p=some ⟨b,0,none⟩:=by
   obtain⟨_,_,⟨_,h0,_⟩|⟨b,cs,e,_⟩⟩:=S.own 1 rfl
   ·omega
   ·exact⟨b,e⟩
  refine aG eb rfl (by omega) ?_
  simp only[Int.toNat_natCast,aY,Nat.zero_add]
  have ld: ∀{g:ae} {W:List bi},aK h0 T g W R→W[1]? =some (own 15 gv.p gv.l gv.c (aF ms))→aD g ⟨b,j*15+1,none⟩=some n.inn.v:=fun S e=>by
   have hr:=(S.own 1 e).row
   rw[eb] at hr
   have:=hr.cell (i:=j*15+1) (by rw[mN en (by decide)];rfl)
   rw[aY,Nat.zero_add] at this
   exact this
  refine am (p:=n.inn.p) (l:=n.inn.l) (c:=n.inn.c) (ld S rfl) ?_
  have hrl:j<((kq u ((i:Int)+1) j ms).map Nv.inn).length:=by rw[List.length_map,lJ];exact hjm
  have hrg:((kq u ((i:Int)+1) j ms).map Nv.inn)[j]? =some n.inn:=by rw[List.getElem?_map,jo,en,Option.map_some,if_pos (.inr (Nat.le_refl _))];rfl
  have hre:((kq u ((i:Int)+1) j ms).map Nv.inn).set j n.inn=(kq u ((i:Int)+1) j ms).map Nv.inn:=by
   rw[List.getElem?_eq_getElem hrl] at hrg
   rw[←Option.some.inj hrg,List.set_getElem_self]
  refine aT (fun mm s g=> ∃m:Nat,s=(some ⟨b1,0,none⟩,some r,(i:Int),u,(j:Int),(gv.l:Int),(j:Int),(n.inn.p,n.inn.l,n.inn.c),(n.inn.l:Int),(m:Int),())∧m≤n.inn.l∧mm=n.inn.l-m∧
   aK h0 T g [blk b1 gv.cells,own 15 gv.p gv.l gv.c (aF ms),fe (((kq u ((i:Int)+1) j ms).map Nv.inn).set j {n.inn with xs:=Fk u ((i:Int)+1) (decide ((j:Int)+1=u)) n.inn.xs m}),um r M] R) n.inn.l
   ⟨0,rfl,by omega,rfl,by rw[M9];show aK h0 T g [_,_,fe (List.set _ j n.inn),_] R;rw[hre];exact S⟩ ?_
  clear S
  rintro mm s g ⟨m,rfl,hm,rfl,S⟩
  unfold uT
  simp only[kl,aY,Nat.zero_add]
  have ej:IntKind.wrap .i64 ((j:Int)+1)=(j:Int)+1:=by rw[al (by omega)]
  have em:IntKind.wrap .i64 ((m:Int)+1)=((m+1:Nat):Int):=by rw[al (by omega)];rfl
  have hgj:(((kq u ((i:Int)+1) j ms).map Nv.inn).set j {n.inn with xs:=Fk u ((i:Int)+1) (decide ((j:Int)+1=u)) n.inn.xs m})[j]? =some {n.inn with xs:=Fk u ((i:Int)+1) (decide ((j:Int)+1=u)) n.inn.xs m}:=by rw[List.getElem?_set_self hrl]
  refine au (fun hlt2=> ?_) (fun hge2=> ?_)
  ·have hmx:m<n.inn.xs.length:=by omega
   have irow:bT g n.inn.p (az (Fk u ((i:Int)+1) (decide ((j:Int)+1=u)) n.inn.xs m)):=xY (S.w 2 _ rfl) (List.mem_of_getElem? hgj)
   obtain⟨a,ea⟩:=irow.some_of (by rw[aB,Di];omega)
   have irow2:bT g (some a) (az (Fk u ((i:Int)+1) (decide ((j:Int)+1=u)) n.inn.xs m)):=by rw[←ea];exact irow
   refine aG ea rfl (by omega) ?_
   simp only[Int.toNat_natCast,Nat.mul_one]
   refine af (n:=n.inn.xs[m]) (irow2.cell (aN (OM _ _ _ hmx))) ?_
   rw[em]
   refine aO (fun hk=> ?_) (fun hk=> ?_)
   ·rw[ej]
    refine bj (fun hju=> ?_) (fun hju=> ?_)
    ·refine am (p:=gv.p) (l:=gv.l) (c:=gv.c) (S.cell 0 rfl rfl) ?_
     refine aG eb rfl (by omega) ?_
     simp only[aY,Nat.zero_add]
     refine am (p:=n.inn.p) (l:=n.inn.l) (c:=n.inn.c) (ld S rfl) ?_
     refine aG ea rfl (by omega) ?_
     rw[ei]
     refine Nb S 2 rfl hgj ea (by rw[Di];exact hmx) fun g2 S=> ?_
     dsimp only[List.set] at S
     rw[List.set_set] at S
     have hd:decide ((j:Int)+1=u)=false:=by simpa using hju
     refine⟨n.inn.l-(m+1),by omega,m+1,rfl,by omega,rfl,?_⟩
     have e:=ON (a:=(i:Int)+1) hmx hk
     rw[hd] at S ⊢
     rw[←e]
     exact S
    ·refine⟨n.inn.l-(m+1),by omega,m+1,rfl,by omega,rfl,?_⟩
     rw[HR hmx (.inl (by simpa using hju))]
     exact S
   ·refine⟨n.inn.l-(m+1),by omega,m+1,rfl,by omega,rfl,?_⟩
    rw[HR hmx (.inr hk)]
    exact S
  ·have:m=n.inn.xs.length:=by omega
   subst this
   rw[ej]
   refine⟨gv.l-(j+1),by omega,j+1,rfl,by omega,rfl,?_⟩
   rw[Lp en]
   exact S
 ·have:j=ms.length:=by omega
  subst this
  refine af (n:=gv.out) (S.cell 0 rfl rfl) ?_
  rw[ei]
  refine aO (fun ho=> ?_) (fun ho=> ?_)
  ·rw[if_pos ho] at H
   refine aJ S 0 rfl (Nat.le_of_ble_eq_true rfl) fun g2 _ S=> ?_
   dsimp only[List.set] at S
   refine gy (S.w 3 _ rfl) ⟨_,rfl,oU S 3 rfl fun g3 S=> ?_⟩
   rw[oT] at S
   dsimp only[List.set] at S
   refine Nl S 3 rfl fun g4 S=> ?_
   rw[Ks] at S
   dsimp only[List.set] at S
   exact H g4 S
  ·rw[if_neg ho] at H
   refine gy (S.w 3 _ rfl) ⟨_,rfl,oU S 3 rfl fun g3 S=> ?_⟩
   rw[oT] at S
   dsimp only[List.set] at S
   refine Nl S 3 rfl fun g4 S=> ?_
   rw[Ks] at S
   dsimp only[List.set] at S
   exact H g4 S
end
end Go.Proofs.YtdhpmegbmjoekaaGreatDoor.G
end
section
namespace Go.Proofs.YtdhpmegbmjoekaaGreatDoor.G
open Go Go.Sh
set_option linter.unusedVariables false
set_option linter.unusedSimpArgs false
theorem OP {u a:Int} {j:Nat} {ns:List Nv} (h: ∀n∈ns,n.ok): ∀n∈kq u a j ns,n.ok:=by
 intro n hn
 obtain⟨q,hq⟩:=List.mem_iff_getElem?.1 hn
 rw[jo] at hq
 obtain⟨m,em,rfl⟩:=Option.map_eq_some_iff.1 hq
 have hm:=h m (List.mem_of_getElem? em)
 split
 ·exact hm
 ·exact⟨⟨by show(m.inn.xs.map _).length=_;rw[List.length_map];exact hm.1.1,hm.1.2⟩,hm.2⟩
theorem Lr (u a:Int) (j:Nat) (ns:List Nv):(kq u a j ns).map (fun n=>n.inn.l)=ns.map fun n=>n.inn.l:=by
 apply List.ext_getElem?
 intro q
 rw[List.getElem?_map,List.getElem?_map,jo]
 cases ns[q]? with
 |none=>rfl
 |some n=>simp only[Option.map_some];split<;>rfl
theorem P7 {a u:Nv} (h:a.ok):(Ac a u).ok:=by
 obtain⟨e1,e2,e3⟩:=pS a u
 unfold Nv.ok
 rw[e1,e2,e3];exact h
theorem qI {α β:Type} (f:α→β) {l:List α} {i:Nat} {x y:α} (hx:l[i]? =some x) (e:f y=f x):(l.set i y).map f=l.map f:=by
 have hi:=(List.getElem?_eq_some_iff.1 hx).1
 have hl:i<(l.map f).length:=by rw[List.length_map];exact hi
 rw[List.map_set,e]
 have:(l.map f)[i]? =some (f x):=by rw[List.getElem?_map,hx];rfl
 rw[List.getElem?_eq_getElem hl] at this
 rw[←Option.some.inj this,List.set_getElem_self]
theorem OQ {ns:List Nv} {i:Nat} {x y:Nv} (hx:ns[i]? =some x) (e1:y.weights=x.weights) (e2:y.bias=x.bias):ul (ns.set i y)=ul ns:=by
 unfold ul
 have:=qI (fun n:Nv=>[n.weights.own,n.bias.own]) hx (by rw[e1,e2])
 rw[List.flatMap_def,List.flatMap_def,this]
theorem Dj {nds:List Nd} {out:Int} {M:LM} {k i:Nat} (h:gJ nds out M i=none):pR nds out M (k+1) i=pR nds out M k (i+1):=by
 conv=>lhs;unfold pR
 rw[h]
theorem Dk {nds:List Nd} {out:Int} {M:LM} {k i:Nat} {x:Bc} (h:gJ nds out M i=some x):pR nds out M (k+1) i=some x:=by
 unfold pR
 rw[h]
section
variable {h0 h:ae} {T:Nat→Prop} {R:List bi}
theorem P8 {gv:Gv} (hok:gv.ok) (hl:gv.l<2 ^ 20) (hs: ∀n∈gv.ns,n.inn.l<2 ^ 40) {M:LM} (hu:Kp gv.gr.nodes M) {b1 r:Nat} (S:aK h0 T h [blk b1 gv.cells,own 15 gv.p gv.l gv.c (aF gv.ns),fe (gv.ns.map Nv.inn),um r M] R):
 aq P oc #[.pointer (some ⟨b1,0,none⟩),.map (some r)] h fun v h'=> ∃(ns':List Nv) (out':Int) (M':LM),v= .bool (gW gv.gr.nodes gv.out M).isSome∧(ns'.map Nv.nd,out',M')=(gW gv.gr.nodes gv.out M).getD (gv.gr.nodes,gv.out,M)∧
  ({gv with ns:=ns',out:=out'}:Gv).ok∧ns'.map (fun n=>n.inn.l)=gv.ns.map (fun n=>n.inn.l)∧ul ns'=ul gv.ns∧
  aK h0 T h' [blk b1 ({gv with ns:=ns',out:=out'}:Gv).cells,own 15 gv.p gv.l gv.c (aF ns'),fe (ns'.map Nv.inn),um r M'] R:=by
 refine BB _ _ ?_
 unfold EM
 have hgl:=hok.1
 obtain⟨nds,ends⟩: ∃nds,gv.gr.nodes=nds:=⟨_,rfl⟩
 have ends':gv.ns.map Nv.nd=nds:=ends
 have hnl:nds.length=gv.l:=by rw[←ends',List.length_map,hgl]
 rw[ends] at hu ⊢
 simp only[kl,aY,Nat.zero_add]
 refine am (p:=gv.p) (l:=gv.l) (c:=gv.c) (S.cell 0 rfl rfl) ?_
 refine aT (fun mm s g=> ∃i:Nat,s=(some ⟨b1,0,none⟩,some r,(gv.l:Int),(i:Int),())∧i≤gv.l∧mm=gv.l-i∧pR nds gv.out M (gv.l-i) i=gW nds gv.out M∧
  aK h0 T g [blk b1 gv.cells,own 15 gv.p gv.l gv.c (aF gv.ns),fe (gv.ns.map Nv.inn),um r M] R) gv.l ⟨0,rfl,by omega,rfl,by unfold gW;rw[hnl];rfl,S⟩ ?_
 clear S
 rintro mm s g ⟨i,rfl,hi,rfl,hF,S⟩
 unfold wI
 simp only[kl,aY,Nat.zero_add]
 refine au (fun hlt=> ?_) (fun hge=> ?_)
 rotate_left
 ·have:gv.l-i=0:=by omega
  rw[this] at hF
  rw[←hF]
  exact⟨gv.ns,gv.out,M,rfl,by rw[ends'];rfl,hok,rfl,rfl,S⟩
 have him:i<gv.ns.length:=by omega
 obtain⟨na,ena⟩: ∃n,gv.ns[i]? =some n:=⟨_,List.getElem?_eq_getElem him⟩
 have end':nds[i]? =some na.nd:=by rw[←ends',List.getElem?_map,ena];rfl
 have hkd:na.nd.kind=na.kind:=rfl
 have ei:IntKind.wrap .i64 ((i:Int)+1)=(i:Int)+1:=by rw[al (by omega)]
 have elk:gv.l-i=(gv.l-(i+1))+1:=by omega
 have cont:gJ nds gv.out M i=none→pR nds gv.out M (gv.l-(i+1)) (i+1)=gW nds gv.out M:=fun hN=>by
  rw[←hF,elk,Dj hN]
 refine am (p:=gv.p) (l:=gv.l) (c:=gv.c) (S.cell 0 rfl rfl) ?_
 obtain⟨b,eb⟩: ∃b,gv.p=some ⟨b,0,none⟩:=by
  obtain⟨_,_,⟨_,h0,_⟩|⟨b,cs,e,_⟩⟩:=S.own 1 rfl
  ·omega
  ·exact⟨b,e⟩
 refine aG eb rfl (by omega) ?_
 rw[ei]
 simp only[Int.toNat_natCast,aY,Nat.zero_add,kl]
 have skip: ¬(M ((i:Int)+1)=some 1∧(i:Int)+1≠gv.out∧jb na.kind)→gJ nds gv.out M i=none:=fun hN=>by
  unfold gJ
  rw[end']
  show(if M ((i:Int)+1)=some 1∧(i:Int)+1≠gv.out∧jb na.nd.kind then _ else none)=none
  rw[hkd,if_neg hN]
 have K:gJ nds gv.out M i=none→ ∀g,aK h0 T g [blk b1 gv.cells,own 15 gv.p gv.l gv.c (aF gv.ns),fe (gv.ns.map Nv.inn),um r M] R→ ∃m',m'<gv.l-i∧ ∃i':Nat,((some ⟨b1,0,none⟩,some r,(gv.l:Int),(i:Int)+1,()):Option Addr×Option Nat×Int×Int×Unit)=(some ⟨b1,0,none⟩,some r,(gv.l:Int),(i':Int),())∧i'≤gv.l∧m'=gv.l-i'∧pR nds gv.out M (gv.l-i') i'=gW nds gv.out M∧
  aK h0 T g [blk b1 gv.cells,own 15 gv.p gv.l gv.c (aF gv.ns),fe (gv.ns.map Nv.inn),um r M] R:=fun hN g S=>⟨gv.l-(i+1),by omega,i+1,rfl,by omega,rfl,cont hN,S⟩
 refine gy (S.w 3 _ rfl) ⟨_,_,rfl,?_⟩
 have ldk:aD g ⟨b,i*15,none⟩=some (.int .i64 na.kind):=by
  have hr:=(S.own 1 rfl).row
  rw[eb] at hr
  have:=hr.cell (i:=i*15+0) (by rw[mN ena (by decide)];rfl)
  rw[aY,Nat.zero_add] at this
  exact this
 refine⟨fun s g'=>s=(some ⟨b1,0,none⟩,some r,(i:Int),⟨b,i*15,none⟩,(gv.l:Int),(i:Int),())∧M ((i:Int)+1)=some 1∧(i:Int)+1≠gv.out∧jb na.kind∧aK h0 T g' [blk b1 gv.cells,own 15 gv.p gv.l gv.c (aF gv.ns),fe (gv.ns.map Nv.inn),um r M] R,?_,?_⟩
 rotate_left
 ·refine bN (hZ (fun hb=> ?_) (fun hb=> ?_))
  ·obtain⟨x,hx⟩:=Option.isSome_iff_exists.1 hb
   rw[hx]
   refine bj (fun h1=>K (skip fun hh=>h1 ?_) g S) (fun h1=> ?_)
   ·have:=hh.1;rw[hx] at this;exact Option.some.inj this
   ·have h1:x=1:=h1
    subst h1
    refine af (n:=gv.out) (S.cell 0 rfl rfl) (aO (fun ho=>K (skip fun hh=>hh.2.1 ho) g S) (fun ho=> ?_))
    refine af (n:=na.kind) ldk (bj (fun k1=> ?_) (fun k1=>⟨rfl,rfl,ho,.inl k1,S⟩))
    refine af (n:=na.kind) ldk (bj (fun k2=> ?_) (fun k2=>⟨rfl,rfl,ho,.inr (.inl k2),S⟩))
    refine af (n:=na.kind) ldk (bj (fun k3=>K (skip fun hh=> ?_) g S) (fun k3=>⟨rfl,rfl,ho,.inr (.inr k3),S⟩))
    rcases hh.2.2 with h|h|h
    ·exact k1 h
    ·exact k2 h
    ·exact k3 h
  ·refine K (skip fun hh=> ?_) g S
   rw[hh.1] at hb;cases hb
 clear S ldk
 rintro s g ⟨rfl,hM1,ho,hw,S⟩
 unfold wH
 simp only[kl,aY,Nat.zero_add]
 refine am (p:=gv.p) (l:=gv.l) (c:=gv.c) (S.cell 0 rfl rfl) ?_
 refine aT (fun mm s g=> ∃j:Nat,s=(some ⟨b1,0,none⟩,some r,(i:Int),⟨b,i*15,none⟩,iI nds M ((i:Int)+1) j,(gv.l:Int),(i:Int),(gv.p,gv.l,gv.c),(gv.l:Int),(j:Int),())∧j≤gv.l∧mm=gv.l-j∧
  aK h0 T g [blk b1 gv.cells,own 15 gv.p gv.l gv.c (aF gv.ns),fe (gv.ns.map Nv.inn),um r M] R) gv.l ⟨0,rfl,by omega,rfl,S⟩ ?_
 clear S
 rintro mm s g ⟨j,rfl,hj,rfl,S⟩
 unfold wG
 simp only[kl,aY,Nat.zero_add]
 refine au (fun hlt2=> ?_) (fun hge2=> ?_)
 ·have hjm:j<gv.ns.length:=by omega
  obtain⟨n,en⟩: ∃n,gv.ns[j]? =some n:=⟨_,List.getElem?_eq_getElem hjm⟩
  have hmem:=List.mem_of_getElem? en
  have endj:nds[j]? =some n.nd:=by rw[←ends',List.getElem?_map,en];rfl
  have nok:=hok.2.2 n hmem
  have hrow:bT g (some ⟨b,0,none⟩) (aF gv.ns):=by rw[←eb];exact(S.own 1 rfl).row
  refine aG eb rfl (by omega) ?_
  simp only[Int.toNat_natCast]
  refine kD hrow en ?_
  refine aC S fun b19 g2 _ S=> ?_
  dsimp only[List.cons_append,List.nil_append] at S
  refine cG S 4 rfl rfl (bC rfl) fun g3 _ S=> ?_
  dsimp only[List.set] at S
  have ej:IntKind.wrap .i64 ((j:Int)+1)=(j:Int)+1:=by rw[al (by omega)]
  rw[ej,ei]
  refine gy (S.w 3 _ rfl) ⟨_,_,rfl,?_⟩
  have S4:aK h0 T g3 [blk b1 gv.cells,own 15 gv.p gv.l gv.c (aF gv.ns),fe (gv.ns.map Nv.inn),um r M] R:=S.pw [0,1,2,3]
  have eu:iI nds M ((i:Int)+1) (j+1)=if(M ((j:Int)+1)).isSome∧((i:Int)+1)∈n.nd.inn then(j:Int)+1 else iI nds M ((i:Int)+1) j:=by
   conv=>lhs;unfold iI
   rw[endj]
  refine hZ (fun hb=> ?_) (fun hb=> ?_)
  ·refine am (p:=n.inn.p) (l:=n.inn.l) (c:=n.inn.c) (S.cell 4 rfl rfl) ?_
   have irow:bT g3 n.inn.p (az n.inn.xs):=xY (S.w 2 _ rfl) (List.mem_map_of_mem hmem)
   refine(Gm irow nok.1.1 (by have:=hs n hmem;omega) ((i:Int)+1)).mono ?_
   rintro _ _ ⟨rfl,rfl⟩
   refine⟨_,rfl,?_⟩
   refine au (fun hc=> ?_) (fun hc=> ?_)
   ·refine⟨gv.l-(j+1),by omega,j+1,?_,by omega,rfl,S4⟩
    rw[eu,if_pos ⟨hb,hc⟩];rfl
   ·refine⟨gv.l-(j+1),by omega,j+1,?_,by omega,rfl,S4⟩
    rw[eu,if_neg (fun hh=>hc hh.2)];rfl
  ·refine⟨gv.l-(j+1),by omega,j+1,?_,by omega,rfl,S4⟩
   rw[eu,if_neg (fun hh=>by rw[hb] at hh;exact absurd hh.1 (by simp))];rfl
 ·have:j=gv.l:=by omega
  subst this
  have eus:iI nds M ((i:Int)+1) gv.l=ij nds M ((i:Int)+1):=by unfold ij;rw[hnl]
  rw[eus]
  have hu1:=hu i (by omega) hM1
  have hu2:=(Fj nds M ((i:Int)+1) nds.length).2
  have hu2:ij nds M ((i:Int)+1)≤(nds.length:Int):=hu2
  generalize hU:ij nds M ((i:Int)+1)=u at hu1 hu2 ⊢
  obtain⟨w,ew⟩: ∃w:Nat,u=(w:Int)+1:=⟨(u-1).toNat,by omega⟩
  subst ew
  have hwl:w<gv.ns.length:=by omega
  obtain⟨nu,enu⟩: ∃n,gv.ns[w]? =some n:=⟨_,List.getElem?_eq_getElem hwl⟩
  have endu:nds[w]? =some nu.nd:=by rw[←ends',List.getElem?_map,enu];rfl
  have hmu:=List.mem_of_getElem? enu
  have ew1:IntKind.wrap .i64 ((w:Int)+1-1)=(w:Int):=by rw[al (by omega)];omega
  rw[ew1]
  refine am (p:=gv.p) (l:=gv.l) (c:=gv.c) (S.cell 0 rfl rfl) ?_
  refine aG eb rfl (by omega) ?_
  simp only[Int.toNat_natCast,aY,Nat.zero_add]
  rw[eb] at S
  refine(Qa S 1 rfl ena enu).mono ?_
  rintro _ g2 ⟨rfl,S⟩
  dsimp only[List.set] at S
  rw[←eb] at S
  refine⟨_,rfl,?_⟩
  have est:gJ nds gv.out M i=(qK na.nd nu.nd).map fun a'=>(zo ((w:Int)+1) ((i:Int)+1) (nds.set i a'),if gv.out=(w:Int)+1 then(i:Int)+1 else gv.out,
   OW (tH M ((i:Int)+1) ((M ((w:Int)+1)).getD 0)) ((w:Int)+1)):=by
   unfold gJ
   rw[end']
   show(if M ((i:Int)+1)=some 1∧(i:Int)+1≠gv.out∧jb na.nd.kind then _ else none)=_
   rw[hkd,if_pos ⟨hM1,ho,hw⟩,hU,show((w:Int)+1-1).toNat=w by omega,endu]
  refine bN (hZ (fun hb=> ?_) (fun hb=> ?_))
  ·obtain⟨a',ea'⟩:=Option.isSome_iff_exists.1 hb
   rw[ea',Option.map_some] at est
   have hP:=Dk (k:=gv.l-(i+1)) est
   rw[←elk,hF] at hP
   have einn:(gv.ns.set i (Ac na nu)).map Nv.inn=gv.ns.map Nv.inn:=qI _ ena (pS na nu).1
   rw[←einn] at S
   have hok2: ∀n∈gv.ns.set i (Ac na nu),n.ok:=fun n hn=>by
    rcases List.mem_or_eq_of_mem_set hn with hn|rfl
    ·exact hok.2.2 n hn
    ·exact P7 (hok.2.2 na (List.mem_of_getElem? ena))
   have hs2: ∀n∈gv.ns.set i (Ac na nu),n.inn.xs.length=n.inn.l∧n.inn.l<2 ^ 40:=fun n hn=>by
    refine⟨(hok2 n hn).1.1,?_⟩
    rcases List.mem_or_eq_of_mem_set hn with hn|rfl
    ·exact hs n hn
    ·rw[(pS na nu).1];exact hs na (List.mem_of_getElem? ena)
   refine am (p:=gv.p) (l:=gv.l) (c:=gv.c) (S.cell 0 rfl rfl) ?_
   refine Lq hl (by rw[List.length_set];exact hgl) hs2 i (by omega) ((w:Int)+1) S fun g3 S=> ?_
   refine⟨kq ((w:Int)+1) ((i:Int)+1) (gv.ns.set i (Ac na nu)).length (gv.ns.set i (Ac na nu)),(if gv.out=(w:Int)+1 then(i:Int)+1 else gv.out),OW (tH M ((i:Int)+1) ((M ((w:Int)+1)).getD 0)) ((w:Int)+1),by rw[hP];rfl,?_,⟨by show(kq _ _ _ _).length=gv.l;rw[lJ,List.length_set];exact hgl,hok.2.1,OP hok2⟩,?_,?_,?_⟩
   ·rw[hP,OL,List.map_set,ends']
    have:(Ac na nu).nd=a':=by rw[P9,ea'];rfl
    rw[this];rfl
   ·rw[Lr]
    exact qI _ ena (by rw[(pS na nu).1])
   ·rw[M8]
    exact OQ ena (pS na nu).2.1 (pS na nu).2.2
   ·rw[Jj];exact S
  ·have hN:qK na.nd nu.nd=none:=by
    cases h:qK na.nd nu.nd with
    |none=>rfl
    |some x=>rw[h] at hb;cases hb
   rw[hN] at est
   have et:Ac na nu=na:=by
    unfold qK at hN
    rw[show nu.nd.kind=nu.kind from rfl,show na.nd.post=na.post from rfl] at hN
    unfold Ac
    split at hN
    ·cases hN
    ·rename_i h1
     split at hN
     ·cases hN
     ·rename_i h2
      rw[if_neg h1,if_neg h2]
   have es:gv.ns.set i na=gv.ns:=by
    rw[List.getElem?_eq_getElem him] at ena
    rw[←Option.some.inj ena,List.set_getElem_self]
   rw[et,es] at S
   rw[ei]
   exact K est g2 S
end
end Go.Proofs.YtdhpmegbmjoekaaGreatDoor.G
end
