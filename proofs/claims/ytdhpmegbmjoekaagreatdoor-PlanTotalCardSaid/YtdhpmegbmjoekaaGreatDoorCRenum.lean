/- Contracts: the program's fuse: the nodes that are left, numbered anew. -/
import Derived.Test.YtdhpmegbmjoekaaGreatDoorCLv4
namespace Go.Proofs.YtdhpmegbmjoekaaGreatDoor.G
open Go Go.Sh
set_option linter.unusedVariables false
set_option linter.unusedSimpArgs false
def ko (N:LM) (k:Int):Int:=(N k).getD 0
def Nd.ren (N:LM) (n:Nd):Nd:={n with inn:=n.inn.map (ko N)}
def cZ (ns:List Nd) (M:LM):Nat→List Nd×LM
 |0=>([],tH (fun _=>none) 0 0)
 |i+1=>match ns[i]? with
  |some n=>if(M ((i:Int)+1)).isSome then((cZ ns M i).1++[n],tH (cZ ns M i).2 ((i:Int)+1) (((cZ ns M i).1.length+1:Nat):Int)) else cZ ns M i
  |none=>cZ ns M i
def fb (g:Gr) (st:Bc):Gr:={g with nodes:=(cZ st.1 st.2.2 st.1.length).1.map (Nd.ren (cZ st.1 st.2.2 st.1.length).2),out:=ko (cZ st.1 st.2.2 st.1.length).2 st.2.1}
def Gr.none0:Gr:=⟨0,0,0,[],0⟩
def cR (g:Gr):Gr:=if g.look.e=0 then fb g (cY (g.nodes.length+1) (g.nodes,g.out,kj g.nodes g.out)) else Gr.none0
def Nv.ren (N:LM) (n:Nv):Nv:={n with inn:={n.inn with xs:=n.inn.xs.map (ko N)}}
def nA (ns:List Nv) (M:LM):Nat→List Nv
 |0=>[]
 |i+1=>match ns[i]? with
  |some n=>if(M ((i:Int)+1)).isSome then nA ns M i++[n] else nA ns M i
  |none=>nA ns M i
theorem Gz (ns:List Nv) (M:LM): ∀i,(nA ns M i).map Nv.nd=(cZ (ns.map Nv.nd) M i).1
 |0=>rfl
 |i+1=>by
  have ih:=Gz ns M i
  unfold nA cZ
  rw[List.getElem?_map]
  cases ns[i]? with
  |none=>exact ih
  |some n=>
   dsimp only[Option.map_some]
   split
   ·rw[List.map_append,ih];rfl
   ·exact ih
theorem H6 (ns:List Nv) (M:LM) (i:Nat):(nA ns M i).length=(cZ (ns.map Nv.nd) M i).1.length:=by rw[←Gz,List.length_map]
theorem DB (ns:List Nv) (M:LM): ∀i,(nA ns M i).Sublist (ns.take i)
 |0=>List.nil_sublist _
 |i+1=>by
  have ih:=DB ns M i
  unfold nA
  cases e:ns[i]? with
  |none=>
   dsimp only
   have:ns.take (i+1)=ns.take i:=by
    have:=List.getElem?_eq_none_iff.1 e
    rw[List.take_of_length_le (by omega),List.take_of_length_le (by omega)]
   rw[this];exact ih
  |some n=>
   have hi:=(List.getElem?_eq_some_iff.1 e).1
   have en:ns[i]=n:=by rw[List.getElem?_eq_getElem hi] at e;exact Option.some.inj e
   dsimp only
   rw[List.take_succ_eq_append_getElem hi,en]
   split
   ·exact ih.append (List.Sublist.refl _)
   ·exact ih.trans (List.sublist_append_left _ _)
theorem O3 (ns:List Nv) (M:LM) (i:Nat):(nA ns M i).length≤i:=by
 have:=(DB ns M i).length_le
 rw[List.length_take] at this;omega
def GA (N:LM) (xs:List Int) (m:Nat):List Int:=(xs.take m).map (ko N)++xs.drop m
theorem DC (N:LM) (xs:List Int) (m:Nat):(GA N xs m).length=xs.length:=by unfold GA;simp;omega
theorem O4 (N:LM) {xs:List Int} {m:Nat} (hm:m<xs.length):(GA N xs m)[m]? =some xs[m]:=by
 unfold GA
 rw[List.getElem?_append_right (by simp;omega),List.getElem?_drop]
 simp only[List.length_map,List.length_take]
 rw[show m+(m-min m xs.length)=m by omega,List.getElem?_eq_getElem hm]
theorem O5 (N:LM) {xs:List Int} {m:Nat} (hm:m<xs.length):(GA N xs m).set m (ko N xs[m])=GA N xs (m+1):=by
 unfold GA
 rw[List.set_append_right _ _ (by simp;omega),List.length_map,List.length_take,Nat.min_eq_left (by omega),Nat.sub_self,List.drop_eq_getElem_cons hm,List.set_cons_zero,List.take_succ_eq_append_getElem hm,List.map_append,List.append_assoc]
 rfl
theorem O6 (N:LM) (xs:List Int):GA N xs xs.length=xs.map (ko N):=by unfold GA;simp
def sj (N:LM) (t:Nat) (L:List Nv):List Nv:=(L.take t).map (Nv.ren N)++L.drop t
theorem LI (N:LM) (L:List Nv):sj N 0 L=L:=by simp[sj]
theorem NC (N:LM) (L:List Nv):sj N L.length L=L.map (Nv.ren N):=by simp[sj]
theorem H7 (N:LM) (t:Nat) (L:List Nv):(sj N t L).length=L.length:=by unfold sj;simp;omega
theorem ND (N:LM) {t:Nat} {L:List Nv} (ht:t<L.length):(sj N t L)[t]? =some L[t]:=by
 unfold sj
 rw[List.getElem?_append_right (by simp;omega),List.getElem?_drop]
 simp only[List.length_map,List.length_take]
 rw[show t+(t-min t L.length)=t by omega,List.getElem?_eq_getElem ht]
theorem LJ (N:LM) {t:Nat} {L:List Nv} (ht:t<L.length):(sj N (t+1) L).map Nv.inn=((sj N t L).map Nv.inn).set t {L[t].inn with xs:=GA N L[t].inn.xs L[t].inn.xs.length}:=by
 rw[O6]
 unfold sj
 rw[List.take_succ_eq_append_getElem ht,List.map_append,List.map_append,List.map_append,List.map_append,List.drop_eq_getElem_cons ht]
 rw[List.set_append_right _ _ (by simp;omega)]
 simp only[List.length_map,List.length_take]
 rw[show t-min t L.length=0 by omega,List.append_assoc]
 rfl
theorem LK (N:LM) (L:List Nv):aF (L.map (Nv.ren N))=aF L:=by
 unfold aF
 congr 1
 rw[List.map_map]
 refine List.map_congr_left fun n _=> ?_
 show(n.ren N).cells=n.cells
 rw[dp,dp];rfl
theorem O7 (N:LM) (L:List Nv):ul (L.map (Nv.ren N))=ul L:=by unfold ul;rw[List.flatMap_map];rfl
section
variable {h0 h:ae} {T:Nat→Prop} {R:List bi}
theorem O8 {gv:Gv} {L:List Nv} {lp:Option Addr} {ll lc:Nat} (hL:L.length=ll) (hl:ll<2 ^ 20) (hs: ∀n∈L,n.inn.xs.length=n.inn.l∧n.inn.l<2 ^ 40) {b1 b3 r:Nat} {N:LM} {X:bi} {Q:Value→ae→Prop} {K1 K2}
 (S:aK h0 T h [blk b1 gv.cells,blk b3 (aP bP (zT bP)),own 15 lp ll lc (aF L),fe (L.map Nv.inn),um r N,X] R)
 (H: ∀h',aK h0 T h' [blk b1 (⟨gv.width,gv.low,gv.high,lp,ll,lc,ko N gv.out,L.map (Nv.ren N)⟩:Gv).cells,blk b3 (⟨gv.width,gv.low,gv.high,lp,ll,lc,ko N gv.out,L.map (Nv.ren N)⟩:Gv).cells,own 15 lp ll lc (aF (L.map (Nv.ren N))),fe ((L.map (Nv.ren N)).map Nv.inn),um r N,X] R→Q (⟨gv.width,gv.low,gv.high,lp,ll,lc,ko N gv.out,L.map (Nv.ren N)⟩:Gv).v h'):
 bB (S:=(Addr×Addr×Option Nat×(Option Addr×Nat×Nat)×(Option Addr×Nat×Nat)×Int×Int×Unit)) (fun K3 s h=>oJ Q K1 K2 K3 s.1 s.2.1 s.2.2.1 s.2.2.2.1.1 s.2.2.2.1.2.1 s.2.2.2.1.2.2 s.2.2.2.2.1.1 s.2.2.2.2.1.2.1 s.2.2.2.2.1.2.2 s.2.2.2.2.2.1 s.2.2.2.2.2.2.1 h) (⟨b1,0,none⟩,⟨b3,0,none⟩,some r,(lp,ll,lc),(lp,ll,lc),((ll:Nat):Int),(0:Int),()) h:=by
 refine aT (fun mm s g=> ∃t:Nat,s=(⟨b1,0,none⟩,⟨b3,0,none⟩,some r,(lp,ll,lc),(lp,ll,lc),(ll:Int),(t:Int),())∧t≤ll∧mm=ll-t∧
  aK h0 T g [blk b1 gv.cells,blk b3 (aP bP (zT bP)),own 15 lp ll lc (aF L),fe ((sj N t L).map Nv.inn),um r N,X] R) ll ⟨0,rfl,by omega,rfl,by rw[LI];exact S⟩ ?_
 clear S
 rintro mm s g ⟨t,rfl,ht,rfl,S⟩
 unfold oJ
 simp only[aY,Nat.zero_add]
 refine au (fun hlt=> ?_) (fun hge=> ?_)
 ·have htl:t<L.length:=by omega
  obtain⟨n,en⟩: ∃n,L[t]? =some n:=⟨_,List.getElem?_eq_getElem htl⟩
  have en':L[t]=n:=by rw[List.getElem?_eq_getElem htl] at en;exact Option.some.inj en
  obtain⟨hxl,hxs⟩:=hs n (List.mem_of_getElem? en)
  have hr:=(S.own 2 rfl).row
  obtain⟨a,ea⟩:=hr.some_of (by rw[bY];omega)
  rw[ea] at hr
  refine aG ea rfl (by omega) ?_
  simp only[Int.toNat_natCast]
  refine kD hr en ?_
  refine aC S fun b45 g2 _ S=> ?_
  dsimp only[List.cons_append,List.nil_append] at S
  refine cG S 6 rfl rfl (bC rfl) fun g3 _ S=> ?_
  dsimp only[List.set] at S
  refine am (p:=n.inn.p) (l:=n.inn.l) (c:=n.inn.c) (S.cell 6 rfl rfl) ?_
  have hrl:t<((sj N t L).map Nv.inn).length:=by rw[List.length_map,H7];exact htl
  have hrg:((sj N t L).map Nv.inn)[t]? =some n.inn:=by rw[List.getElem?_map,ND N htl,en'];rfl
  have hre:((sj N t L).map Nv.inn).set t n.inn=(sj N t L).map Nv.inn:=by
   rw[List.getElem?_eq_getElem hrl] at hrg
   rw[←Option.some.inj hrg,List.set_getElem_self]
  refine aT (fun mm s g=> ∃m:Nat,s=(⟨b1,0,none⟩,⟨b3,0,none⟩,some r,(lp,ll,lc),⟨b45,0,none⟩,(lp,ll,lc),(ll:Int),(t:Int),(n.inn.p,n.inn.l,n.inn.c),(n.inn.l:Int),(m:Int),())∧m≤n.inn.l∧mm=n.inn.l-m∧
   aK h0 T g [blk b1 gv.cells,blk b3 (aP bP (zT bP)),own 15 lp ll lc (aF L),fe (((sj N t L).map Nv.inn).set t {n.inn with xs:=GA N n.inn.xs m}),um r N,X,blk b45 n.cells] R) n.inn.l
   ⟨0,rfl,by omega,rfl,by
     have:GA N n.inn.xs 0=n.inn.xs:=by simp[GA]
     rw[this];show aK h0 T g3 [_,_,_,fe (List.set _ t n.inn),_,_,_] R;rw[hre];exact S⟩ ?_
  clear S
  rintro mm s g ⟨m,rfl,hm,rfl,S⟩
  unfold uU
  simp only[aY,Nat.zero_add]
  have em:IntKind.wrap .i64 ((m:Int)+1)=((m+1:Nat):Int):=by rw[al (by omega)];rfl
  have et:IntKind.wrap .i64 ((t:Int)+1)=((t+1:Nat):Int):=by rw[al (by omega)];rfl
  have hgj:(((sj N t L).map Nv.inn).set t {n.inn with xs:=GA N n.inn.xs m})[t]? =some {n.inn with xs:=GA N n.inn.xs m}:=by rw[List.getElem?_set_self hrl]
  refine au (fun hlt2=> ?_) (fun hge2=> ?_)
  ·have hmx:m<n.inn.xs.length:=by omega
   have irow:bT g n.inn.p (az (GA N n.inn.xs m)):=xY (S.w 3 _ rfl) (List.mem_of_getElem? hgj)
   obtain⟨a,ea⟩:=irow.some_of (by rw[aB,DC];omega)
   have irow2:bT g (some a) (az (GA N n.inn.xs m)):=by rw[←ea];exact irow
   refine aG ea rfl (by omega) ?_
   simp only[Int.toNat_natCast,Nat.mul_one]
   refine af (n:=n.inn.xs[m]) (irow2.cell (aN (O4 _ hmx))) ?_
   refine am (p:=n.inn.p) (l:=n.inn.l) (c:=n.inn.c) (S.cell 6 rfl rfl) ?_
   refine gy (S.w 4 _ rfl) ⟨_,rfl,?_⟩
   refine aG ea rfl (by omega) ?_
   rw[em]
   refine Nb S 3 rfl hgj ea (by rw[DC];exact hmx) fun g2 S=> ?_
   dsimp only[List.set] at S
   rw[List.set_set] at S
   have e:(GA N n.inn.xs m).set m ((N n.inn.xs[m]).getD 0)=GA N n.inn.xs (m+1):=O5 N hmx
   rw[e] at S
   exact⟨n.inn.l-(m+1),by omega,m+1,rfl,by omega,rfl,S⟩
  ·have:m=n.inn.xs.length:=by omega
   subst this
   rw[et]
   refine⟨ll-(t+1),by omega,t+1,rfl,by omega,rfl,?_⟩
   have e:=LJ N htl
   rw[en'] at e
   rw[e]
   exact S.pw [0,1,2,3,4,5]
 ·have:t=L.length:=by omega
  subst this
  rw[NC] at S
  rw[←LK N L] at S
  refine af (n:=gv.out) (S.cell 0 rfl rfl) ?_
  refine gy (S.w 4 _ rfl) ⟨_,rfl,?_⟩
  refine aJ S 0 rfl (Nat.le_of_ble_eq_true rfl) fun g2 _ S=> ?_
  dsimp only[List.set] at S
  refine aJ S 0 rfl (Nat.le_of_ble_eq_true rfl) fun g3 _ S=> ?_
  dsimp only[List.set] at S
  refine aQ S 0 rfl (x:=(⟨gv.width,gv.low,gv.high,lp,ll,lc,ko N gv.out,L.map (Nv.ren N)⟩:Gv).t) rfl ?_
  refine cG S 1 rfl rfl (bC rfl) fun g5 _ S=> ?_
  dsimp only[List.set] at S
  refine aQ S 1 rfl (x:=(⟨gv.width,gv.low,gv.high,lp,ll,lc,ko N gv.out,L.map (Nv.ren N)⟩:Gv).t) rfl ?_
  exact H g5 S
end
end Go.Proofs.YtdhpmegbmjoekaaGreatDoor.G
