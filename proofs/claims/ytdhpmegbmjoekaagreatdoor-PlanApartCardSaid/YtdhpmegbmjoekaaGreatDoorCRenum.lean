/- Contracts: the program's fuse: the nodes that are left, numbered anew. -/
import Derived.Test.YtdhpmegbmjoekaaGreatDoorCLv4
namespace Go.Proofs.YtdhpmegbmjoekaaGreatDoor.G
open Go Go.Sh
set_option linter.unusedVariables false
set_option linter.unusedSimpArgs false
def numF (N:LM) (k:Int):Int:=(N k).getD 0
def Nd.ren (N:LM) (n:Nd):Nd:={n with inn:=n.inn.map (numF N)}
def numT (ns:List Nd) (M:LM):Nat→List Nd×LM
 |0=>([],upM (fun _=>none) 0 0)
 |i+1=>match ns[i]? with
  |some n=>if(M ((i:Int)+1)).isSome then((numT ns M i).1++[n],upM (numT ns M i).2 ((i:Int)+1) (((numT ns M i).1.length+1:Nat):Int)) else numT ns M i
  |none=>numT ns M i
def leftG (g:Gr) (st:FSt):Gr:={g with nodes:=(numT st.1 st.2.2 st.1.length).1.map (Nd.ren (numT st.1 st.2.2 st.1.length).2),out:=numF (numT st.1 st.2.2 st.1.length).2 st.2.1}
def Gr.none0:Gr:=⟨0,0,0,[],0⟩
def fuseG (g:Gr):Gr:=if g.look.e=0 then leftG g (fuseIt (g.nodes.length+1) (g.nodes,g.out,liveM g.nodes g.out)) else Gr.none0
def Nv.ren (N:LM) (n:Nv):Nv:={n with inn:={n.inn with xs:=n.inn.xs.map (numF N)}}
def numV (ns:List Nv) (M:LM):Nat→List Nv
 |0=>[]
 |i+1=>match ns[i]? with
  |some n=>if(M ((i:Int)+1)).isSome then numV ns M i++[n] else numV ns M i
  |none=>numV ns M i
theorem numV_nd (ns:List Nv) (M:LM): ∀i,(numV ns M i).map Nv.nd=(numT (ns.map Nv.nd) M i).1
 |0=>rfl
 |i+1=>by
  have ih:=numV_nd ns M i
  unfold numV numT
  rw[List.getElem?_map]
  cases ns[i]? with
  |none=>exact ih
  |some n=>
   dsimp only[Option.map_some]
   split
   ·rw[List.map_append,ih];rfl
   ·exact ih
theorem numV_length (ns:List Nv) (M:LM) (i:Nat):(numV ns M i).length=(numT (ns.map Nv.nd) M i).1.length:=by rw[←numV_nd,List.length_map]
theorem numV_sub (ns:List Nv) (M:LM): ∀i,(numV ns M i).Sublist (ns.take i)
 |0=>List.nil_sublist _
 |i+1=>by
  have ih:=numV_sub ns M i
  unfold numV
  cases e:ns[i]? with
  |none=>
   dsimp only
   have:ns.take (i+1)=ns.take i:=by
    have:=List.getElem?_eq_none_iff.1 e
    rw[List.take_of_length_le (by omega),List.take_of_length_le (by omega)]
   rw[this];exact ih
  |some n=>
   have hi:=(List.getElem?_eq_some_iff.1 e).1
   have en:ns[i]=n:=by rw[List.getElem?_eq_getElem hi] at e;exact Option.some.inj e
   dsimp only
   rw[List.take_succ_eq_append_getElem hi,en]
   split
   ·exact ih.append (List.Sublist.refl _)
   ·exact ih.trans (List.sublist_append_left _ _)
theorem numV_le (ns:List Nv) (M:LM) (i:Nat):(numV ns M i).length≤i:=by
 have:=(numV_sub ns M i).length_le
 rw[List.length_take] at this;omega
def pmF (N:LM) (xs:List Int) (m:Nat):List Int:=(xs.take m).map (numF N)++xs.drop m
theorem pmF_length (N:LM) (xs:List Int) (m:Nat):(pmF N xs m).length=xs.length:=by unfold pmF;simp;omega
theorem pmF_get (N:LM) {xs:List Int} {m:Nat} (hm:m<xs.length):(pmF N xs m)[m]? =some xs[m]:=by
 unfold pmF
 rw[List.getElem?_append_right (by simp;omega),List.getElem?_drop]
 simp only[List.length_map,List.length_take]
 rw[show m+(m-min m xs.length)=m by omega,List.getElem?_eq_getElem hm]
theorem pmF_set (N:LM) {xs:List Int} {m:Nat} (hm:m<xs.length):(pmF N xs m).set m (numF N xs[m])=pmF N xs (m+1):=by
 unfold pmF
 rw[List.set_append_right _ _ (by simp;omega),List.length_map,List.length_take,Nat.min_eq_left (by omega),Nat.sub_self,List.drop_eq_getElem_cons hm,List.set_cons_zero,List.take_succ_eq_append_getElem hm,List.map_append,List.append_assoc]
 rfl
theorem pmF_all (N:LM) (xs:List Int):pmF N xs xs.length=xs.map (numF N):=by unfold pmF;simp
def renT (N:LM) (t:Nat) (L:List Nv):List Nv:=(L.take t).map (Nv.ren N)++L.drop t
theorem renT_zero (N:LM) (L:List Nv):renT N 0 L=L:=by simp[renT]
theorem renT_all (N:LM) (L:List Nv):renT N L.length L=L.map (Nv.ren N):=by simp[renT]
theorem renT_length (N:LM) (t:Nat) (L:List Nv):(renT N t L).length=L.length:=by unfold renT;simp;omega
theorem renT_get (N:LM) {t:Nat} {L:List Nv} (ht:t<L.length):(renT N t L)[t]? =some L[t]:=by
 unfold renT
 rw[List.getElem?_append_right (by simp;omega),List.getElem?_drop]
 simp only[List.length_map,List.length_take]
 rw[show t+(t-min t L.length)=t by omega,List.getElem?_eq_getElem ht]
theorem renT_inns (N:LM) {t:Nat} {L:List Nv} (ht:t<L.length):(renT N (t+1) L).map Nv.inn=((renT N t L).map Nv.inn).set t {L[t].inn with xs:=pmF N L[t].inn.xs L[t].inn.xs.length}:=by
 rw[pmF_all]
 unfold renT
 rw[List.take_succ_eq_append_getElem ht,List.map_append,List.map_append,List.map_append,List.map_append,List.drop_eq_getElem_cons ht]
 rw[List.set_append_right _ _ (by simp;omega)]
 simp only[List.length_map,List.length_take]
 rw[show t-min t L.length=0 by omega,List.append_assoc]
 rfl
theorem ren_nflat (N:LM) (L:List Nv):nflat (L.map (Nv.ren N))=nflat L:=by
 unfold nflat
 congr 1
 rw[List.map_map]
 refine List.map_congr_left fun n _=> ?_
 show(n.ren N).cells=n.cells
 rw[cells_eq,cells_eq];rfl
theorem ren_wbs (N:LM) (L:List Nv):wbs (L.map (Nv.ren N))=wbs L:=by unfold wbs;rw[List.flatMap_map];rfl
section
variable {h0 h:Heap} {T:Nat→Prop} {R:List Fact}
theorem renum_S {gv:Gv} {L:List Nv} {lp:Option Addr} {ll lc:Nat} (hL:L.length=ll) (hl:ll<2 ^ 20) (hs: ∀n∈L,n.inn.xs.length=n.inn.l∧n.inn.l<2 ^ 40) {b1 b3 r:Nat} {N:LM} {X:Fact} {Q:Value→Heap→Prop} {K1 K2}
 (S:Sep h0 T h [blk b1 gv.cells,blk b3 (mkS' grSh (zT grSh)),own 15 lp ll lc (nflat L),owns (L.map Nv.inn),mpi r N,X] R)
 (H: ∀h',Sep h0 T h' [blk b1 (⟨gv.width,gv.low,gv.high,lp,ll,lc,numF N gv.out,L.map (Nv.ren N)⟩:Gv).cells,blk b3 (⟨gv.width,gv.low,gv.high,lp,ll,lc,numF N gv.out,L.map (Nv.ren N)⟩:Gv).cells,own 15 lp ll lc (nflat (L.map (Nv.ren N))),owns ((L.map (Nv.ren N)).map Nv.inn),mpi r N,X] R→Q (⟨gv.width,gv.low,gv.high,lp,ll,lc,numF N gv.out,L.map (Nv.ren N)⟩:Gv).v h'):
 LoopS (S:=(Addr×Addr×Option Nat×(Option Addr×Nat×Nat)×(Option Addr×Nat×Nat)×Int×Int×Unit)) (fun K3 s h=>fuse_Fuse_l17 Q K1 K2 K3 s.1 s.2.1 s.2.2.1 s.2.2.2.1.1 s.2.2.2.1.2.1 s.2.2.2.1.2.2 s.2.2.2.2.1.1 s.2.2.2.2.1.2.1 s.2.2.2.2.1.2.2 s.2.2.2.2.2.1 s.2.2.2.2.2.2.1 h) (⟨b1,0,none⟩,⟨b3,0,none⟩,some r,(lp,ll,lc),(lp,ll,lc),((ll:Nat):Int),(0:Int),()) h:=by
 refine LoopS_i (fun mm s g=> ∃t:Nat,s=(⟨b1,0,none⟩,⟨b3,0,none⟩,some r,(lp,ll,lc),(lp,ll,lc),(ll:Int),(t:Int),())∧t≤ll∧mm=ll-t∧
  Sep h0 T g [blk b1 gv.cells,blk b3 (mkS' grSh (zT grSh)),own 15 lp ll lc (nflat L),owns ((renT N t L).map Nv.inn),mpi r N,X] R) ll ⟨0,rfl,by omega,rfl,by rw[renT_zero];exact S⟩ ?_
 clear S
 rintro mm s g ⟨t,rfl,ht,rfl,S⟩
 unfold fuse_Fuse_l17
 simp only[add_mk,Nat.zero_add]
 refine ifB_dec (fun hlt=> ?_) (fun hge=> ?_)
 ·have htl:t<L.length:=by omega
  obtain⟨n,en⟩: ∃n,L[t]? =some n:=⟨_,List.getElem?_eq_getElem htl⟩
  have en':L[t]=n:=by rw[List.getElem?_eq_getElem htl] at en;exact Option.some.inj en
  obtain⟨hxl,hxs⟩:=hs n (List.mem_of_getElem? en)
  have hr:=(S.own 2 rfl).row
  obtain⟨a,ea⟩:=hr.some_of (by rw[nflat_length];omega)
  rw[ea] at hr
  refine idxI_i ea rfl (by omega) ?_
  simp only[Int.toNat_natCast]
  refine ldNode hr en ?_
  refine newI_S S fun b45 g2 _ S=> ?_
  dsimp only[List.cons_append,List.nil_append] at S
  refine stL_S S 6 rfl rfl (mkS_one rfl) fun g3 _ S=> ?_
  dsimp only[List.set] at S
  refine ldSlice_i (p:=n.inn.p) (l:=n.inn.l) (c:=n.inn.c) (S.cell 6 rfl rfl) ?_
  have hrl:t<((renT N t L).map Nv.inn).length:=by rw[List.length_map,renT_length];exact htl
  have hrg:((renT N t L).map Nv.inn)[t]? =some n.inn:=by rw[List.getElem?_map,renT_get N htl,en'];rfl
  have hre:((renT N t L).map Nv.inn).set t n.inn=(renT N t L).map Nv.inn:=by
   rw[List.getElem?_eq_getElem hrl] at hrg
   rw[←Option.some.inj hrg,List.set_getElem_self]
  refine LoopS_i (fun mm s g=> ∃m:Nat,s=(⟨b1,0,none⟩,⟨b3,0,none⟩,some r,(lp,ll,lc),⟨b45,0,none⟩,(lp,ll,lc),(ll:Int),(t:Int),(n.inn.p,n.inn.l,n.inn.c),(n.inn.l:Int),(m:Int),())∧m≤n.inn.l∧mm=n.inn.l-m∧
   Sep h0 T g [blk b1 gv.cells,blk b3 (mkS' grSh (zT grSh)),own 15 lp ll lc (nflat L),owns (((renT N t L).map Nv.inn).set t {n.inn with xs:=pmF N n.inn.xs m}),mpi r N,X,blk b45 n.cells] R) n.inn.l
   ⟨0,rfl,by omega,rfl,by
     have:pmF N n.inn.xs 0=n.inn.xs:=by simp[pmF]
     rw[this];show Sep h0 T g3 [_,_,_,owns (List.set _ t n.inn),_,_,_] R;rw[hre];exact S⟩ ?_
  clear S
  rintro mm s g ⟨m,rfl,hm,rfl,S⟩
  unfold fuse_Fuse_l20
  simp only[add_mk,Nat.zero_add]
  have em:IntKind.wrap .i64 ((m:Int)+1)=((m+1:Nat):Int):=by rw[wrap64_in (by omega)];rfl
  have et:IntKind.wrap .i64 ((t:Int)+1)=((t+1:Nat):Int):=by rw[wrap64_in (by omega)];rfl
  have hgj:(((renT N t L).map Nv.inn).set t {n.inn with xs:=pmF N n.inn.xs m})[t]? =some {n.inn with xs:=pmF N n.inn.xs m}:=by rw[List.getElem?_set_self hrl]
  refine ifB_dec (fun hlt2=> ?_) (fun hge2=> ?_)
  ·have hmx:m<n.inn.xs.length:=by omega
   have irow:Row g n.inn.p (ints (pmF N n.inn.xs m)):=owns_row (S.w 3 _ rfl) (List.mem_of_getElem? hgj)
   obtain⟨a,ea⟩:=irow.some_of (by rw[ints_length,pmF_length];omega)
   have irow2:Row g (some a) (ints (pmF N n.inn.xs m)):=by rw[←ea];exact irow
   refine idxI_i ea rfl (by omega) ?_
   simp only[Int.toNat_natCast,Nat.mul_one]
   refine ldInt_i (n:=n.inn.xs[m]) (irow2.cell (ints_get (pmF_get _ hmx))) ?_
   refine ldSlice_i (p:=n.inn.p) (l:=n.inn.l) (c:=n.inn.c) (S.cell 6 rfl rfl) ?_
   refine lookI_of (S.w 4 _ rfl) ⟨_,rfl,?_⟩
   refine idxI_i ea rfl (by omega) ?_
   rw[em]
   refine stOs_S S 3 rfl hgj ea (by rw[pmF_length];exact hmx) fun g2 S=> ?_
   dsimp only[List.set] at S
   rw[List.set_set] at S
   have e:(pmF N n.inn.xs m).set m ((N n.inn.xs[m]).getD 0)=pmF N n.inn.xs (m+1):=pmF_set N hmx
   rw[e] at S
   exact⟨n.inn.l-(m+1),by omega,m+1,rfl,by omega,rfl,S⟩
  ·have:m=n.inn.xs.length:=by omega
   subst this
   rw[et]
   refine⟨ll-(t+1),by omega,t+1,rfl,by omega,rfl,?_⟩
   have e:=renT_inns N htl
   rw[en'] at e
   rw[e]
   exact S.pw [0,1,2,3,4,5]
 ·have:t=L.length:=by omega
  subst this
  rw[renT_all] at S
  rw[←ren_nflat N L] at S
  refine ldInt_i (n:=gv.out) (S.cell 0 rfl rfl) ?_
  refine lookI_of (S.w 4 _ rfl) ⟨_,rfl,?_⟩
  refine stI_S S 0 rfl (Nat.le_of_ble_eq_true rfl) fun g2 _ S=> ?_
  dsimp only[List.set] at S
  refine stI_S S 0 rfl (Nat.le_of_ble_eq_true rfl) fun g3 _ S=> ?_
  dsimp only[List.set] at S
  refine ldAg_S S 0 rfl (x:=(⟨gv.width,gv.low,gv.high,lp,ll,lc,numF N gv.out,L.map (Nv.ren N)⟩:Gv).t) rfl ?_
  refine stL_S S 1 rfl rfl (mkS_one rfl) fun g5 _ S=> ?_
  dsimp only[List.set] at S
  refine ldAg_S S 1 rfl (x:=(⟨gv.width,gv.low,gv.high,lp,ll,lc,numF N gv.out,L.map (Nv.ren N)⟩:Gv).t) rfl ?_
  exact H g5 S
end
end Go.Proofs.YtdhpmegbmjoekaaGreatDoor.G
