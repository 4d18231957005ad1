/- CStep CStep2 CStep3, in one text. -/
import Derived.Test.YtdhpmegbmjoekaaGreatDoorCLive
section
namespace Go.Proofs.YtdhpmegbmjoekaaGreatDoor.G
open Go Go.Sh
set_option linter.unusedVariables false
set_option linter.unusedSimpArgs false
def userTo (ns:List Nd) (M:LM) (a:Int):Nat→Int
 |0=>0
 |j+1=>match ns[j]? with
  |some n=>if(M ((j:Int)+1)).isSome∧a∈n.inn then(j:Int)+1 else userTo ns M a j
  |none=>userTo ns M a j
def userOf (ns:List Nd) (M:LM) (a:Int):Int:=userTo ns M a ns.length
def rep1 (u a:Int) (k:Int):Int:=if k=u then a else k
def repN (u a:Int) (ns:List Nd):List Nd:=ns.mapIdx fun q n=>if(q:Int)+1=u then n else{n with inn:=n.inn.map (rep1 u a)}
abbrev FSt:=List Nd×Int×LM
def stepAt (ns:List Nd) (out:Int) (M:LM) (i:Nat):Option FSt:=
 match ns[i]? with
 |none=>none
 |some a=>
  if M ((i:Int)+1)=some 1∧(i:Int)+1≠out∧wei a.kind then
   match ns[(userOf ns M ((i:Int)+1)-1).toNat]? with
   |none=>none
   |some nu=>(tkN a nu).map fun a'=>(repN (userOf ns M ((i:Int)+1)) ((i:Int)+1) (ns.set i a'),if out=userOf ns M ((i:Int)+1) then(i:Int)+1 else out,
    dlM (upM M ((i:Int)+1) ((M (userOf ns M ((i:Int)+1))).getD 0)) (userOf ns M ((i:Int)+1)))
  else none
def stepF (ns:List Nd) (out:Int) (M:LM):Nat→Nat→Option FSt
 |0,_=>none
 |k+1,i=>match stepAt ns out M i with
  |some x=>some x
  |none=>stepF ns out M k (i+1)
def stepP (ns:List Nd) (out:Int) (M:LM):Option FSt:=stepF ns out M ns.length 0
def HasUser (ns:List Nd) (M:LM):Prop:= ∀i:Nat,i<ns.length→M ((i:Int)+1)=some 1→1≤userOf ns M ((i:Int)+1)
theorem userTo_le (ns:List Nd) (M:LM) (a:Int): ∀j,0≤userTo ns M a j∧userTo ns M a j≤(j:Int)
 |0=>by simp[userTo]
 |j+1=>by
  have:=userTo_le ns M a j
  unfold userTo
  split
  ·split<;>omega
  ·omega
def Sl.rep (u a:Int) (s:Sl):Sl:={s with xs:=s.xs.map (rep1 u a)}
def repV (u a:Int) (j:Nat) (ns:List Nv):List Nv:=ns.mapIdx fun q n=>if(q:Int)+1=u∨j≤q then n else{n with inn:=n.inn.rep u a}
theorem repV_zero (u a:Int) (ns:List Nv):repV u a 0 ns=ns:=by
 unfold repV
 apply List.ext_getElem?
 intro q
 rw[List.getElem?_mapIdx]
 cases ns[q]? <;>simp
theorem repV_length (u a:Int) (j:Nat) (ns:List Nv):(repV u a j ns).length=ns.length:=by simp[repV]
theorem repV_get (u a:Int) (j q:Nat) (ns:List Nv):(repV u a j ns)[q]? =ns[q]?.map fun n=>if(q:Int)+1=u∨j≤q then n else{n with inn:=n.inn.rep u a}:=by
 unfold repV;rw[List.getElem?_mapIdx]
theorem repV_nflat (u a:Int) (j:Nat) (ns:List Nv):nflat (repV u a j ns)=nflat ns:=by
 unfold nflat
 congr 1
 apply List.ext_getElem?
 intro q
 rw[List.getElem?_map,List.getElem?_map,repV_get]
 cases ns[q]? with
 |none=>rfl
 |some n=>
  simp only[Option.map_some]
  split
  ·rfl
  ·rw[cells_eq,cells_eq];rfl
theorem repV_nd (u a:Int) (ns:List Nv):(repV u a ns.length ns).map Nv.nd=repN u a (ns.map Nv.nd):=by
 apply List.ext_getElem?
 intro q
 rw[List.getElem?_map,repV_get]
 unfold repN
 rw[List.getElem?_mapIdx,List.getElem?_map]
 cases hq:ns[q]? with
 |none=>rfl
 |some n=>
  have hlt:=(List.getElem?_eq_some_iff.1 hq).1
  simp only[Option.map_some]
  by_cases h:(q:Int)+1=u
  ·rw[if_pos (.inl h),if_pos h]
  ·rw[if_neg (by omega),if_neg h];rfl
theorem repV_succ {u a:Int} {j:Nat} {ns:List Nv} (hj:j<ns.length):repV u a (j+1) ns=if(j:Int)+1=u then repV u a j ns else(repV u a j ns).set j {ns[j] with inn:=ns[j].inn.rep u a}:=by
 apply List.ext_getElem?
 intro q
 rw[repV_get]
 by_cases hu:(j:Int)+1=u
 ·rw[if_pos hu,repV_get]
  cases hq:ns[q]? with
  |none=>rfl
  |some n=>
   simp only[Option.map_some,Option.some.injEq]
   by_cases hqj:q=j
   ·subst hqj;rw[if_pos (.inl hu),if_pos (.inl hu)]
   ·by_cases h:(q:Int)+1=u∨j≤q
    ·rw[if_pos h,if_pos (by omega)]
    ·rw[if_neg h,if_neg (by omega)]
 ·rw[if_neg hu]
  by_cases hqj:q=j
  ·subst hqj
   rw[List.getElem?_set_self (by rw[repV_length];exact hj),List.getElem?_eq_getElem hj,Option.map_some,if_neg (by omega)]
  ·rw[List.getElem?_set_ne (Ne.symm hqj),repV_get]
   cases hq:ns[q]? with
   |none=>rfl
   |some n=>
    simp only[Option.map_some,Option.some.injEq]
    by_cases h:(q:Int)+1=u∨j≤q
    ·rw[if_pos h,if_pos (by omega)]
    ·rw[if_neg h,if_neg (by omega)]
theorem repV_wbs (u a:Int) (j:Nat) (ns:List Nv):wbs (repV u a j ns)=wbs ns:=by
 have: ∀l m:List Nv,l.length=m.length→(∀q (h1:q<l.length) (h2:q<m.length),l[q].weights=m[q].weights∧l[q].bias=m[q].bias)→wbs l=wbs m:=by
  intro l
  induction l with
  |nil=>intro m hm _;have:m=[]:=List.length_eq_zero_iff.1 hm.symm;subst this;rfl
  |cons x r ih=>
   intro m hm hq
   cases m with
   |nil=>simp at hm
   |cons y s=>
    have h0:=hq 0 (by simp) (by simp)
    simp only[List.getElem_cons_zero] at h0
    have:=ih s (by simpa using hm) fun q h1 h2=>by
     have:=hq (q+1) (by simpa using h1) (by simpa using h2)
     simpa using this
    unfold wbs at this ⊢
    rw[List.flatMap_cons,List.flatMap_cons,this,h0.1,h0.2]
 refine this _ _ (repV_length _ _ _ _) fun q h1 h2=> ?_
 have:=repV_get u a j q ns
 rw[List.getElem?_eq_getElem h1,List.getElem?_eq_getElem h2,Option.map_some,Option.some.injEq] at this
 rw[this]
 split<;>exact⟨rfl,rfl⟩
end Go.Proofs.YtdhpmegbmjoekaaGreatDoor.G
end
section
namespace Go.Proofs.YtdhpmegbmjoekaaGreatDoor.G
open Go Go.Sh
set_option linter.unusedVariables false
set_option linter.unusedSimpArgs false
def pmX (u a:Int) (b:Bool) (xs:List Int) (m:Nat):List Int:=if b then xs else(xs.take m).map (rep1 u a)++xs.drop m
theorem pmX_zero (u a:Int) (b:Bool) (xs:List Int):pmX u a b xs 0=xs:=by unfold pmX;split<;>simp
theorem pmX_length (u a:Int) (b:Bool) (xs:List Int) (m:Nat):(pmX u a b xs m).length=xs.length:=by unfold pmX;split<;>simp;omega
theorem pmX_get (u a:Int) (b:Bool) {xs:List Int} {m:Nat} (hm:m<xs.length):(pmX u a b xs m)[m]? =some xs[m]:=by
 unfold pmX;split
 ·exact List.getElem?_eq_getElem hm
 ·rw[List.getElem?_append_right (by simp;omega),List.getElem?_drop]
  simp only[List.length_map,List.length_take]
  rw[show m+(m-min m xs.length)=m by omega,List.getElem?_eq_getElem hm]
theorem pmX_hit {u a:Int} {xs:List Int} {m:Nat} (hm:m<xs.length) (hu:xs[m]=u):(pmX u a false xs m).set m a=pmX u a false xs (m+1):=by
 unfold pmX
 simp only[Bool.false_eq_true,if_false]
 rw[List.set_append_right _ _ (by simp;omega),List.length_map,List.length_take,Nat.min_eq_left (by omega),Nat.sub_self,List.drop_eq_getElem_cons hm,List.set_cons_zero,List.take_succ_eq_append_getElem hm,List.map_append,List.append_assoc]
 congr 1
 simp[rep1,hu]
theorem pmX_miss {u a:Int} {b:Bool} {xs:List Int} {m:Nat} (hm:m<xs.length) (hu:b=true∨xs[m]≠u):pmX u a b xs (m+1)=pmX u a b xs m:=by
 unfold pmX
 split
 ·rfl
 ·rename_i hb
  have hu:xs[m]≠u:=by rcases hu with h|h;exact absurd h hb;exact h
  rw[List.take_succ_eq_append_getElem hm,List.map_append,List.append_assoc,List.drop_eq_getElem_cons hm]
  congr 1
  simp[rep1,hu]
theorem pmX_all (u a:Int) (b:Bool) (xs:List Int):pmX u a b xs xs.length=if b then xs else xs.map (rep1 u a):=by unfold pmX;split<;>simp
theorem repV_inns {u a:Int} {j:Nat} {ns:List Nv} {n:Nv} (e:ns[j]? =some n):(repV u a (j+1) ns).map Nv.inn=((repV u a j ns).map Nv.inn).set j {n.inn with xs:=pmX u a (decide ((j:Int)+1=u)) n.inn.xs n.inn.xs.length}:=by
 have hj:=(List.getElem?_eq_some_iff.1 e).1
 have en:ns[j]=n:=by rw[List.getElem?_eq_getElem hj] at e;exact Option.some.inj e
 rw[repV_succ hj,pmX_all,en]
 by_cases hu:(j:Int)+1=u
 ·rw[if_pos hu,if_pos (by simpa using hu)]
  have:((repV u a j ns).map Nv.inn)[j]? =some n.inn:=by rw[List.getElem?_map,repV_get,e,Option.map_some,if_pos (.inl hu)];rfl
  have hl:j<((repV u a j ns).map Nv.inn).length:=by rw[List.length_map,repV_length];exact hj
  rw[List.getElem?_eq_getElem hl] at this
  show _=List.set _ j n.inn
  rw[←Option.some.inj this,List.set_getElem_self]
 ·rw[if_neg hu,if_neg (by simpa using hu),List.map_set];rfl
section
variable {h0 h:Heap} {T:Nat→Prop} {R:List Fact}
theorem stepRen_S {gv:Gv} (hl:gv.l<2 ^ 20) {ms:List Nv} (hms:ms.length=gv.l) (hs: ∀n∈ms,n.inn.xs.length=n.inn.l∧n.inn.l<2 ^ 40) {b1 r:Nat} {M:LM} {Q:Value→Heap→Prop} {K1 K2} (i:Nat) (hi:i<gv.l) (u:Int)
 (S:Sep h0 T h [blk b1 gv.cells,own 15 gv.p gv.l gv.c (nflat ms),owns (ms.map Nv.inn),mpi r M] R)
 (H: ∀h',Sep h0 T h' [blk b1 ({gv with out:=if gv.out=u then(i:Int)+1 else gv.out}:Gv).cells,own 15 gv.p gv.l gv.c (nflat ms),owns ((repV u ((i:Int)+1) ms.length ms).map Nv.inn),mpi r (dlM (upM M ((i:Int)+1) ((M u).getD 0)) u)] R→Q (.bool true) h'):
 LoopS (S:=(Option Addr×Option Nat×Int×Int×Int×Int×Unit)) (fun K3 s h=>fuse_step_l17 Q K1 K2 K3 s.1 s.2.1 s.2.2.1 s.2.2.2.1 s.2.2.2.2.1 s.2.2.2.2.2.1 h) (some ⟨b1,0,none⟩,some r,(i:Int),u,((gv.l:Nat):Int),(0:Int),()) h:=by
 have ei:IntKind.wrap .i64 ((i:Int)+1)=(i:Int)+1:=by rw[wrap64_in (by omega)]
 refine LoopS_i (fun mm s g=> ∃j:Nat,s=(some ⟨b1,0,none⟩,some r,(i:Int),u,(gv.l:Int),(j:Int),())∧j≤gv.l∧mm=gv.l-j∧
  Sep h0 T g [blk b1 gv.cells,own 15 gv.p gv.l gv.c (nflat ms),owns ((repV u ((i:Int)+1) j ms).map Nv.inn),mpi r M] R) gv.l ⟨0,rfl,by omega,rfl,by rw[repV_zero];exact S⟩ ?_
 clear S
 rintro mm s g ⟨j,rfl,hj,rfl,S⟩
 unfold fuse_step_l17
 simp only[nilI_iff,add_mk,Nat.zero_add]
 refine ifB_dec (fun hlt=> ?_) (fun hge=> ?_)
 ·have hjm:j<ms.length:=by omega
  obtain⟨n,en⟩: ∃n,ms[j]? =some n:=⟨_,List.getElem?_eq_getElem hjm⟩
  have hmem:=List.mem_of_getElem? en
  obtain⟨hxl,hxs⟩:=hs n hmem
  refine ldSlice_i (p:=gv.p) (l:=gv.l) (c:=gv.c) (S.cell 0 rfl rfl) ?_
  obtain⟨b,eb⟩: ∃b,gv.p=some ⟨b,0,none⟩:=by
   obtain⟨_,_,⟨_,h0,_⟩|⟨b,cs,e,_⟩⟩:=S.own 1 rfl
   ·omega
   ·exact⟨b,e⟩
  refine idxI_i eb rfl (by omega) ?_
  simp only[Int.toNat_natCast,add_mk,Nat.zero_add]
  have ld: ∀{g:Heap} {W:List Fact},Sep h0 T g W R→W[1]? =some (own 15 gv.p gv.l gv.c (nflat ms))→cellH g ⟨b,j*15+1,none⟩=some n.inn.v:=fun S e=>by
   have hr:=(S.own 1 e).row
   rw[eb] at hr
   have:=hr.cell (i:=j*15+1) (by rw[nflat_at en (by decide)];rfl)
   rw[add_mk,Nat.zero_add] at this
   exact this
  refine ldSlice_i (p:=n.inn.p) (l:=n.inn.l) (c:=n.inn.c) (ld S rfl) ?_
  have hrl:j<((repV u ((i:Int)+1) j ms).map Nv.inn).length:=by rw[List.length_map,repV_length];exact hjm
  have hrg:((repV u ((i:Int)+1) j ms).map Nv.inn)[j]? =some n.inn:=by rw[List.getElem?_map,repV_get,en,Option.map_some,if_pos (.inr (Nat.le_refl _))];rfl
  have hre:((repV u ((i:Int)+1) j ms).map Nv.inn).set j n.inn=(repV u ((i:Int)+1) j ms).map Nv.inn:=by
   rw[List.getElem?_eq_getElem hrl] at hrg
   rw[←Option.some.inj hrg,List.set_getElem_self]
  refine LoopS_i (fun mm s g=> ∃m:Nat,s=(some ⟨b1,0,none⟩,some r,(i:Int),u,(j:Int),(gv.l:Int),(j:Int),(n.inn.p,n.inn.l,n.inn.c),(n.inn.l:Int),(m:Int),())∧m≤n.inn.l∧mm=n.inn.l-m∧
   Sep h0 T g [blk b1 gv.cells,own 15 gv.p gv.l gv.c (nflat ms),owns (((repV u ((i:Int)+1) j ms).map Nv.inn).set j {n.inn with xs:=pmX u ((i:Int)+1) (decide ((j:Int)+1=u)) n.inn.xs m}),mpi r M] R) n.inn.l
   ⟨0,rfl,by omega,rfl,by rw[pmX_zero];show Sep h0 T g [_,_,owns (List.set _ j n.inn),_] R;rw[hre];exact S⟩ ?_
  clear S
  rintro mm s g ⟨m,rfl,hm,rfl,S⟩
  unfold fuse_step_l20
  simp only[nilI_iff,add_mk,Nat.zero_add]
  have ej:IntKind.wrap .i64 ((j:Int)+1)=(j:Int)+1:=by rw[wrap64_in (by omega)]
  have em:IntKind.wrap .i64 ((m:Int)+1)=((m+1:Nat):Int):=by rw[wrap64_in (by omega)];rfl
  have hgj:(((repV u ((i:Int)+1) j ms).map Nv.inn).set j {n.inn with xs:=pmX u ((i:Int)+1) (decide ((j:Int)+1=u)) n.inn.xs m})[j]? =some {n.inn with xs:=pmX u ((i:Int)+1) (decide ((j:Int)+1=u)) n.inn.xs m}:=by rw[List.getElem?_set_self hrl]
  refine ifB_dec (fun hlt2=> ?_) (fun hge2=> ?_)
  ·have hmx:m<n.inn.xs.length:=by omega
   have irow:Row g n.inn.p (ints (pmX u ((i:Int)+1) (decide ((j:Int)+1=u)) n.inn.xs m)):=owns_row (S.w 2 _ rfl) (List.mem_of_getElem? hgj)
   obtain⟨a,ea⟩:=irow.some_of (by rw[ints_length,pmX_length];omega)
   have irow2:Row g (some a) (ints (pmX u ((i:Int)+1) (decide ((j:Int)+1=u)) n.inn.xs m)):=by rw[←ea];exact irow
   refine idxI_i ea rfl (by omega) ?_
   simp only[Int.toNat_natCast,Nat.mul_one]
   refine ldInt_i (n:=n.inn.xs[m]) (irow2.cell (ints_get (pmX_get _ _ _ hmx))) ?_
   rw[em]
   refine ifB_beq (fun hk=> ?_) (fun hk=> ?_)
   ·rw[ej]
    refine ifB_bne (fun hju=> ?_) (fun hju=> ?_)
    ·refine ldSlice_i (p:=gv.p) (l:=gv.l) (c:=gv.c) (S.cell 0 rfl rfl) ?_
     refine idxI_i eb rfl (by omega) ?_
     simp only[add_mk,Nat.zero_add]
     refine ldSlice_i (p:=n.inn.p) (l:=n.inn.l) (c:=n.inn.c) (ld S rfl) ?_
     refine idxI_i ea rfl (by omega) ?_
     rw[ei]
     refine stOs_S S 2 rfl hgj ea (by rw[pmX_length];exact hmx) fun g2 S=> ?_
     dsimp only[List.set] at S
     rw[List.set_set] at S
     have hd:decide ((j:Int)+1=u)=false:=by simpa using hju
     refine⟨n.inn.l-(m+1),by omega,m+1,rfl,by omega,rfl,?_⟩
     have e:=pmX_hit (a:=(i:Int)+1) hmx hk
     rw[hd] at S ⊢
     rw[←e]
     exact S
    ·refine⟨n.inn.l-(m+1),by omega,m+1,rfl,by omega,rfl,?_⟩
     rw[pmX_miss hmx (.inl (by simpa using hju))]
     exact S
   ·refine⟨n.inn.l-(m+1),by omega,m+1,rfl,by omega,rfl,?_⟩
    rw[pmX_miss hmx (.inr hk)]
    exact S
  ·have:m=n.inn.xs.length:=by omega
   subst this
   rw[ej]
   refine⟨gv.l-(j+1),by omega,j+1,rfl,by omega,rfl,?_⟩
   rw[repV_inns en]
   exact S
 ·have:j=ms.length:=by omega
  subst this
  refine ldInt_i (n:=gv.out) (S.cell 0 rfl rfl) ?_
  rw[ei]
  refine ifB_beq (fun ho=> ?_) (fun ho=> ?_)
  ·rw[if_pos ho] at H
   refine stI_S S 0 rfl (Nat.le_of_ble_eq_true rfl) fun g2 _ S=> ?_
   dsimp only[List.set] at S
   refine lookI_of (S.w 3 _ rfl) ⟨_,rfl,updB_S S 3 rfl fun g3 S=> ?_⟩
   rw[upL_lM] at S
   dsimp only[List.set] at S
   refine delB_S S 3 rfl fun g4 S=> ?_
   rw[delL_lM] at S
   dsimp only[List.set] at S
   exact H g4 S
  ·rw[if_neg ho] at H
   refine lookI_of (S.w 3 _ rfl) ⟨_,rfl,updB_S S 3 rfl fun g3 S=> ?_⟩
   rw[upL_lM] at S
   dsimp only[List.set] at S
   refine delB_S S 3 rfl fun g4 S=> ?_
   rw[delL_lM] at S
   dsimp only[List.set] at S
   exact H g4 S
end
end Go.Proofs.YtdhpmegbmjoekaaGreatDoor.G
end
section
namespace Go.Proofs.YtdhpmegbmjoekaaGreatDoor.G
open Go Go.Sh
set_option linter.unusedVariables false
set_option linter.unusedSimpArgs false
theorem repV_ok {u a:Int} {j:Nat} {ns:List Nv} (h: ∀n∈ns,n.ok): ∀n∈repV u a j ns,n.ok:=by
 intro n hn
 obtain⟨q,hq⟩:=List.mem_iff_getElem?.1 hn
 rw[repV_get] at hq
 obtain⟨m,em,rfl⟩:=Option.map_eq_some_iff.1 hq
 have hm:=h m (List.mem_of_getElem? em)
 split
 ·exact hm
 ·exact⟨⟨by show(m.inn.xs.map _).length=_;rw[List.length_map];exact hm.1.1,hm.1.2⟩,hm.2⟩
theorem repV_innl (u a:Int) (j:Nat) (ns:List Nv):(repV u a j ns).map (fun n=>n.inn.l)=ns.map fun n=>n.inn.l:=by
 apply List.ext_getElem?
 intro q
 rw[List.getElem?_map,List.getElem?_map,repV_get]
 cases ns[q]? with
 |none=>rfl
 |some n=>simp only[Option.map_some];split<;>rfl
theorem tkV_ok {a u:Nv} (h:a.ok):(tkV a u).ok:=by
 obtain⟨e1,e2,e3⟩:=tkV_rows a u
 unfold Nv.ok
 rw[e1,e2,e3];exact h
theorem map_set_same {α β:Type} (f:α→β) {l:List α} {i:Nat} {x y:α} (hx:l[i]? =some x) (e:f y=f x):(l.set i y).map f=l.map f:=by
 have hi:=(List.getElem?_eq_some_iff.1 hx).1
 have hl:i<(l.map f).length:=by rw[List.length_map];exact hi
 rw[List.map_set,e]
 have:(l.map f)[i]? =some (f x):=by rw[List.getElem?_map,hx];rfl
 rw[List.getElem?_eq_getElem hl] at this
 rw[←Option.some.inj this,List.set_getElem_self]
theorem wbs_set {ns:List Nv} {i:Nat} {x y:Nv} (hx:ns[i]? =some x) (e1:y.weights=x.weights) (e2:y.bias=x.bias):wbs (ns.set i y)=wbs ns:=by
 unfold wbs
 have:=map_set_same (fun n:Nv=>[n.weights.own,n.bias.own]) hx (by rw[e1,e2])
 rw[List.flatMap_def,List.flatMap_def,this]
theorem stepF_none {nds:List Nd} {out:Int} {M:LM} {k i:Nat} (h:stepAt nds out M i=none):stepF nds out M (k+1) i=stepF nds out M k (i+1):=by
 conv=>lhs;unfold stepF
 rw[h]
theorem stepF_some {nds:List Nd} {out:Int} {M:LM} {k i:Nat} {x:FSt} (h:stepAt nds out M i=some x):stepF nds out M (k+1) i=some x:=by
 unfold stepF
 rw[h]
section
variable {h0 h:Heap} {T:Nat→Prop} {R:List Fact}
theorem step_S {gv:Gv} (hok:gv.ok) (hl:gv.l<2 ^ 20) (hs: ∀n∈gv.ns,n.inn.l<2 ^ 40) {M:LM} (hu:HasUser gv.gr.nodes M) {b1 r:Nat} (S:Sep h0 T h [blk b1 gv.cells,own 15 gv.p gv.l gv.c (nflat gv.ns),owns (gv.ns.map Nv.inn),mpi r M] R):
 callP P n_fuse_step #[.pointer (some ⟨b1,0,none⟩),.map (some r)] h fun v h'=> ∃(ns':List Nv) (out':Int) (M':LM),v= .bool (stepP gv.gr.nodes gv.out M).isSome∧(ns'.map Nv.nd,out',M')=(stepP gv.gr.nodes gv.out M).getD (gv.gr.nodes,gv.out,M)∧
  ({gv with ns:=ns',out:=out'}:Gv).ok∧ns'.map (fun n=>n.inn.l)=gv.ns.map (fun n=>n.inn.l)∧wbs ns'=wbs gv.ns∧
  Sep h0 T h' [blk b1 ({gv with ns:=ns',out:=out'}:Gv).cells,own 15 gv.p gv.l gv.c (nflat ns'),owns (ns'.map Nv.inn),mpi r M'] R:=by
 refine call_fuse_step _ _ ?_
 unfold fuse_step
 have hgl:=hok.1
 obtain⟨nds,ends⟩: ∃nds,gv.gr.nodes=nds:=⟨_,rfl⟩
 have ends':gv.ns.map Nv.nd=nds:=ends
 have hnl:nds.length=gv.l:=by rw[←ends',List.length_map,hgl]
 rw[ends] at hu ⊢
 simp only[nilI_iff,add_mk,Nat.zero_add]
 refine ldSlice_i (p:=gv.p) (l:=gv.l) (c:=gv.c) (S.cell 0 rfl rfl) ?_
 refine LoopS_i (fun mm s g=> ∃i:Nat,s=(some ⟨b1,0,none⟩,some r,(gv.l:Int),(i:Int),())∧i≤gv.l∧mm=gv.l-i∧stepF nds gv.out M (gv.l-i) i=stepP nds gv.out M∧
  Sep h0 T g [blk b1 gv.cells,own 15 gv.p gv.l gv.c (nflat gv.ns),owns (gv.ns.map Nv.inn),mpi r M] R) gv.l ⟨0,rfl,by omega,rfl,by unfold stepP;rw[hnl];rfl,S⟩ ?_
 clear S
 rintro mm s g ⟨i,rfl,hi,rfl,hF,S⟩
 unfold fuse_step_l2
 simp only[nilI_iff,add_mk,Nat.zero_add]
 refine ifB_dec (fun hlt=> ?_) (fun hge=> ?_)
 rotate_left
 ·have:gv.l-i=0:=by omega
  rw[this] at hF
  rw[←hF]
  exact⟨gv.ns,gv.out,M,rfl,by rw[ends'];rfl,hok,rfl,rfl,S⟩
 have him:i<gv.ns.length:=by omega
 obtain⟨na,ena⟩: ∃n,gv.ns[i]? =some n:=⟨_,List.getElem?_eq_getElem him⟩
 have end':nds[i]? =some na.nd:=by rw[←ends',List.getElem?_map,ena];rfl
 have hkd:na.nd.kind=na.kind:=rfl
 have ei:IntKind.wrap .i64 ((i:Int)+1)=(i:Int)+1:=by rw[wrap64_in (by omega)]
 have elk:gv.l-i=(gv.l-(i+1))+1:=by omega
 have cont:stepAt nds gv.out M i=none→stepF nds gv.out M (gv.l-(i+1)) (i+1)=stepP nds gv.out M:=fun hN=>by
  rw[←hF,elk,stepF_none hN]
 refine ldSlice_i (p:=gv.p) (l:=gv.l) (c:=gv.c) (S.cell 0 rfl rfl) ?_
 obtain⟨b,eb⟩: ∃b,gv.p=some ⟨b,0,none⟩:=by
  obtain⟨_,_,⟨_,h0,_⟩|⟨b,cs,e,_⟩⟩:=S.own 1 rfl
  ·omega
  ·exact⟨b,e⟩
 refine idxI_i eb rfl (by omega) ?_
 rw[ei]
 simp only[Int.toNat_natCast,add_mk,Nat.zero_add,nilI_iff]
 have skip: ¬(M ((i:Int)+1)=some 1∧(i:Int)+1≠gv.out∧wei na.kind)→stepAt nds gv.out M i=none:=fun hN=>by
  unfold stepAt
  rw[end']
  show(if M ((i:Int)+1)=some 1∧(i:Int)+1≠gv.out∧wei na.nd.kind then _ else none)=none
  rw[hkd,if_neg hN]
 have K:stepAt nds gv.out M i=none→ ∀g,Sep h0 T g [blk b1 gv.cells,own 15 gv.p gv.l gv.c (nflat gv.ns),owns (gv.ns.map Nv.inn),mpi r M] R→ ∃m',m'<gv.l-i∧ ∃i':Nat,((some ⟨b1,0,none⟩,some r,(gv.l:Int),(i:Int)+1,()):Option Addr×Option Nat×Int×Int×Unit)=(some ⟨b1,0,none⟩,some r,(gv.l:Int),(i':Int),())∧i'≤gv.l∧m'=gv.l-i'∧stepF nds gv.out M (gv.l-i') i'=stepP nds gv.out M∧
  Sep h0 T g [blk b1 gv.cells,own 15 gv.p gv.l gv.c (nflat gv.ns),owns (gv.ns.map Nv.inn),mpi r M] R:=fun hN g S=>⟨gv.l-(i+1),by omega,i+1,rfl,by omega,rfl,cont hN,S⟩
 refine lookI_of (S.w 3 _ rfl) ⟨_,_,rfl,?_⟩
 have ldk:cellH g ⟨b,i*15,none⟩=some (.int .i64 na.kind):=by
  have hr:=(S.own 1 rfl).row
  rw[eb] at hr
  have:=hr.cell (i:=i*15+0) (by rw[nflat_at ena (by decide)];rfl)
  rw[add_mk,Nat.zero_add] at this
  exact this
 refine⟨fun s g'=>s=(some ⟨b1,0,none⟩,some r,(i:Int),⟨b,i*15,none⟩,(gv.l:Int),(i:Int),())∧M ((i:Int)+1)=some 1∧(i:Int)+1≠gv.out∧wei na.kind∧Sep h0 T g' [blk b1 gv.cells,own 15 gv.p gv.l gv.c (nflat gv.ns),owns (gv.ns.map Nv.inn),mpi r M] R,?_,?_⟩
 rotate_left
 ·refine ifB_not (ifB_known (fun hb=> ?_) (fun hb=> ?_))
  ·obtain⟨x,hx⟩:=Option.isSome_iff_exists.1 hb
   rw[hx]
   refine ifB_bne (fun h1=>K (skip fun hh=>h1 ?_) g S) (fun h1=> ?_)
   ·have:=hh.1;rw[hx] at this;exact Option.some.inj this
   ·have h1:x=1:=h1
    subst h1
    refine ldInt_i (n:=gv.out) (S.cell 0 rfl rfl) (ifB_beq (fun ho=>K (skip fun hh=>hh.2.1 ho) g S) (fun ho=> ?_))
    refine ldInt_i (n:=na.kind) ldk (ifB_bne (fun k1=> ?_) (fun k1=>⟨rfl,rfl,ho,.inl k1,S⟩))
    refine ldInt_i (n:=na.kind) ldk (ifB_bne (fun k2=> ?_) (fun k2=>⟨rfl,rfl,ho,.inr (.inl k2),S⟩))
    refine ldInt_i (n:=na.kind) ldk (ifB_bne (fun k3=>K (skip fun hh=> ?_) g S) (fun k3=>⟨rfl,rfl,ho,.inr (.inr k3),S⟩))
    rcases hh.2.2 with h|h|h
    ·exact k1 h
    ·exact k2 h
    ·exact k3 h
  ·refine K (skip fun hh=> ?_) g S
   rw[hh.1] at hb;cases hb
 clear S ldk
 rintro s g ⟨rfl,hM1,ho,hw,S⟩
 unfold fuse_step_j7
 simp only[nilI_iff,add_mk,Nat.zero_add]
 refine ldSlice_i (p:=gv.p) (l:=gv.l) (c:=gv.c) (S.cell 0 rfl rfl) ?_
 refine LoopS_i (fun mm s g=> ∃j:Nat,s=(some ⟨b1,0,none⟩,some r,(i:Int),⟨b,i*15,none⟩,userTo nds M ((i:Int)+1) j,(gv.l:Int),(i:Int),(gv.p,gv.l,gv.c),(gv.l:Int),(j:Int),())∧j≤gv.l∧mm=gv.l-j∧
  Sep h0 T g [blk b1 gv.cells,own 15 gv.p gv.l gv.c (nflat gv.ns),owns (gv.ns.map Nv.inn),mpi r M] R) gv.l ⟨0,rfl,by omega,rfl,S⟩ ?_
 clear S
 rintro mm s g ⟨j,rfl,hj,rfl,S⟩
 unfold fuse_step_l9
 simp only[nilI_iff,add_mk,Nat.zero_add]
 refine ifB_dec (fun hlt2=> ?_) (fun hge2=> ?_)
 ·have hjm:j<gv.ns.length:=by omega
  obtain⟨n,en⟩: ∃n,gv.ns[j]? =some n:=⟨_,List.getElem?_eq_getElem hjm⟩
  have hmem:=List.mem_of_getElem? en
  have endj:nds[j]? =some n.nd:=by rw[←ends',List.getElem?_map,en];rfl
  have nok:=hok.2.2 n hmem
  have hrow:Row g (some ⟨b,0,none⟩) (nflat gv.ns):=by rw[←eb];exact(S.own 1 rfl).row
  refine idxI_i eb rfl (by omega) ?_
  simp only[Int.toNat_natCast]
  refine ldNode hrow en ?_
  refine newI_S S fun b19 g2 _ S=> ?_
  dsimp only[List.cons_append,List.nil_append] at S
  refine stL_S S 4 rfl rfl (mkS_one rfl) fun g3 _ S=> ?_
  dsimp only[List.set] at S
  have ej:IntKind.wrap .i64 ((j:Int)+1)=(j:Int)+1:=by rw[wrap64_in (by omega)]
  rw[ej,ei]
  refine lookI_of (S.w 3 _ rfl) ⟨_,_,rfl,?_⟩
  have S4:Sep h0 T g3 [blk b1 gv.cells,own 15 gv.p gv.l gv.c (nflat gv.ns),owns (gv.ns.map Nv.inn),mpi r M] R:=S.pw [0,1,2,3]
  have eu:userTo nds M ((i:Int)+1) (j+1)=if(M ((j:Int)+1)).isSome∧((i:Int)+1)∈n.nd.inn then(j:Int)+1 else userTo nds M ((i:Int)+1) j:=by
   conv=>lhs;unfold userTo
   rw[endj]
  refine ifB_known (fun hb=> ?_) (fun hb=> ?_)
  ·refine ldSlice_i (p:=n.inn.p) (l:=n.inn.l) (c:=n.inn.c) (S.cell 4 rfl rfl) ?_
   have irow:Row g3 n.inn.p (ints n.inn.xs):=owns_row (S.w 2 _ rfl) (List.mem_map_of_mem hmem)
   refine(ContainsI_ok irow nok.1.1 (by have:=hs n hmem;omega) ((i:Int)+1)).mono ?_
   rintro _ _ ⟨rfl,rfl⟩
   refine⟨_,rfl,?_⟩
   refine ifB_dec (fun hc=> ?_) (fun hc=> ?_)
   ·refine⟨gv.l-(j+1),by omega,j+1,?_,by omega,rfl,S4⟩
    rw[eu,if_pos ⟨hb,hc⟩];rfl
   ·refine⟨gv.l-(j+1),by omega,j+1,?_,by omega,rfl,S4⟩
    rw[eu,if_neg (fun hh=>hc hh.2)];rfl
  ·refine⟨gv.l-(j+1),by omega,j+1,?_,by omega,rfl,S4⟩
   rw[eu,if_neg (fun hh=>by rw[hb] at hh;exact absurd hh.1 (by simp))];rfl
 ·have:j=gv.l:=by omega
  subst this
  have eus:userTo nds M ((i:Int)+1) gv.l=userOf nds M ((i:Int)+1):=by unfold userOf;rw[hnl]
  rw[eus]
  have hu1:=hu i (by omega) hM1
  have hu2:=(userTo_le nds M ((i:Int)+1) nds.length).2
  have hu2:userOf nds M ((i:Int)+1)≤(nds.length:Int):=hu2
  generalize hU:userOf nds M ((i:Int)+1)=u at hu1 hu2 ⊢
  obtain⟨w,ew⟩: ∃w:Nat,u=(w:Int)+1:=⟨(u-1).toNat,by omega⟩
  subst ew
  have hwl:w<gv.ns.length:=by omega
  obtain⟨nu,enu⟩: ∃n,gv.ns[w]? =some n:=⟨_,List.getElem?_eq_getElem hwl⟩
  have endu:nds[w]? =some nu.nd:=by rw[←ends',List.getElem?_map,enu];rfl
  have hmu:=List.mem_of_getElem? enu
  have ew1:IntKind.wrap .i64 ((w:Int)+1-1)=(w:Int):=by rw[wrap64_in (by omega)];omega
  rw[ew1]
  refine ldSlice_i (p:=gv.p) (l:=gv.l) (c:=gv.c) (S.cell 0 rfl rfl) ?_
  refine idxI_i eb rfl (by omega) ?_
  simp only[Int.toNat_natCast,add_mk,Nat.zero_add]
  rw[eb] at S
  refine(take_S S 1 rfl ena enu).mono ?_
  rintro _ g2 ⟨rfl,S⟩
  dsimp only[List.set] at S
  rw[←eb] at S
  refine⟨_,rfl,?_⟩
  have est:stepAt nds gv.out M i=(tkN na.nd nu.nd).map fun a'=>(repN ((w:Int)+1) ((i:Int)+1) (nds.set i a'),if gv.out=(w:Int)+1 then(i:Int)+1 else gv.out,
   dlM (upM M ((i:Int)+1) ((M ((w:Int)+1)).getD 0)) ((w:Int)+1)):=by
   unfold stepAt
   rw[end']
   show(if M ((i:Int)+1)=some 1∧(i:Int)+1≠gv.out∧wei na.nd.kind then _ else none)=_
   rw[hkd,if_pos ⟨hM1,ho,hw⟩,hU,show((w:Int)+1-1).toNat=w by omega,endu]
  refine ifB_not (ifB_known (fun hb=> ?_) (fun hb=> ?_))
  ·obtain⟨a',ea'⟩:=Option.isSome_iff_exists.1 hb
   rw[ea',Option.map_some] at est
   have hP:=stepF_some (k:=gv.l-(i+1)) est
   rw[←elk,hF] at hP
   have einn:(gv.ns.set i (tkV na nu)).map Nv.inn=gv.ns.map Nv.inn:=map_set_same _ ena (tkV_rows na nu).1
   rw[←einn] at S
   have hok2: ∀n∈gv.ns.set i (tkV na nu),n.ok:=fun n hn=>by
    rcases List.mem_or_eq_of_mem_set hn with hn|rfl
    ·exact hok.2.2 n hn
    ·exact tkV_ok (hok.2.2 na (List.mem_of_getElem? ena))
   have hs2: ∀n∈gv.ns.set i (tkV na nu),n.inn.xs.length=n.inn.l∧n.inn.l<2 ^ 40:=fun n hn=>by
    refine⟨(hok2 n hn).1.1,?_⟩
    rcases List.mem_or_eq_of_mem_set hn with hn|rfl
    ·exact hs n hn
    ·rw[(tkV_rows na nu).1];exact hs na (List.mem_of_getElem? ena)
   refine ldSlice_i (p:=gv.p) (l:=gv.l) (c:=gv.c) (S.cell 0 rfl rfl) ?_
   refine stepRen_S hl (by rw[List.length_set];exact hgl) hs2 i (by omega) ((w:Int)+1) S fun g3 S=> ?_
   refine⟨repV ((w:Int)+1) ((i:Int)+1) (gv.ns.set i (tkV na nu)).length (gv.ns.set i (tkV na nu)),(if gv.out=(w:Int)+1 then(i:Int)+1 else gv.out),dlM (upM M ((i:Int)+1) ((M ((w:Int)+1)).getD 0)) ((w:Int)+1),by rw[hP];rfl,?_,⟨by show(repV _ _ _ _).length=gv.l;rw[repV_length,List.length_set];exact hgl,hok.2.1,repV_ok hok2⟩,?_,?_,?_⟩
   ·rw[hP,repV_nd,List.map_set,ends']
    have:(tkV na nu).nd=a':=by rw[tkV_nd,ea'];rfl
    rw[this];rfl
   ·rw[repV_innl]
    exact map_set_same _ ena (by rw[(tkV_rows na nu).1])
   ·rw[repV_wbs]
    exact wbs_set ena (tkV_rows na nu).2.1 (tkV_rows na nu).2.2
   ·rw[repV_nflat];exact S
  ·have hN:tkN na.nd nu.nd=none:=by
    cases h:tkN na.nd nu.nd with
    |none=>rfl
    |some x=>rw[h] at hb;cases hb
   rw[hN] at est
   have et:tkV na nu=na:=by
    unfold tkN at hN
    rw[show nu.nd.kind=nu.kind from rfl,show na.nd.post=na.post from rfl] at hN
    unfold tkV
    split at hN
    ·cases hN
    ·rename_i h1
     split at hN
     ·cases hN
     ·rename_i h2
      rw[if_neg h1,if_neg h2]
   have es:gv.ns.set i na=gv.ns:=by
    rw[List.getElem?_eq_getElem him] at ena
    rw[←Option.some.inj ena,List.set_getElem_self]
   rw[et,es] at S
   rw[ei]
   exact K est g2 S
end
end Go.Proofs.YtdhpmegbmjoekaaGreatDoor.G
end
