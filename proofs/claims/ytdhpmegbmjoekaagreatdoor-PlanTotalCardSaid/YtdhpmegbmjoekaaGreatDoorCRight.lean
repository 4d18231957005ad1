/- Graphs that are right, by a valuation: widths, and rates, of their nodes. -/
import Derived.Test.YtdhpmegbmjoekaaGreatDoorCLv4
namespace Go.Proofs.YtdhpmegbmjoekaaGreatDoor.G
open Go Go.Sh
set_option linter.unusedVariables false
set_option linter.unusedSimpArgs false
structure bJ (g:Gr) (W R:Int→Int) (pos:Int→Nat):Prop where
 first:g.first=0
 rank: ∀(i:Nat) (n:Nd),g.nodes[i]? =some n→ ∀j∈n.inn,0<j→pos j<pos ((i:Int)+1)
 w0:W 0=g.width
 r0:R 0=1
 chk: ∀(i:Nat) (n:Nd),g.nodes[i]? =some n→n.chk (n.inn.map W)=0
 wid: ∀(i:Nat) (n:Nd),g.nodes[i]? =some n→W ((i:Int)+1)=n.wid (n.inn.map W)
 rat: ∀(i:Nat) (n:Nd),g.nodes[i]? =some n→0≤cd n (n.inn.map R)
 rid: ∀(i:Nat) (n:Nd),g.nodes[i]? =some n→R ((i:Int)+1)=cd n (n.inn.map R)
theorem Dd {there:List Int}: ∀{ns:List Nd} {i:Nat},kC there ns i=none→ ∀(k:Nat) (n:Nd),ns[k]? =some n→((i+k:Nat):Int)+1∈there∨ ∃j∈n.inn,j∉there
 |[],i,_,k,n,h=>by simp at h
 |m::r,i,h,k,n,hk=>by
  unfold kC at h
  split at h
  ·cases h
  ·rename_i hc
   cases k with
   |zero=>
    simp only[List.getElem?_cons_zero,Option.some.injEq] at hk
    subst hk
    by_cases h1:((i:Int)+1)∈there
    ·exact .inl h1
    ·right
     exact Classical.byContradiction fun hn=>hc ⟨h1,fun j hj=>Classical.byContradiction fun hb=>hn ⟨j,hj,hb⟩⟩
   |succ k=>
    have:=Dd h k n (by simpa using hk)
    rw[show i+1+k=i+(k+1) by omega] at this
    exact this
theorem HI (ns:List Nd) (k:Nat):(0:Int)∈bR ns k:=by rw[eC];exact List.mem_cons_self
theorem Fg {ns:List Nd} {pos:Int→Nat} (hr: ∀(i:Nat) (n:Nd),ns[i]? =some n→ ∀j∈n.inn,0<j→pos j<pos ((i:Int)+1)) (hi: ∀n∈ns,bo 0 ns.length n.inn): ∀k≤ns.length,(bR ns k).tail.length=k
 |0,_=>rfl
 |k+1,hk=>by
  have ih:=Fg hr hi k (by omega)
  show(nz ns (bR ns k)).tail.length=k+1
  cases hN:kC (bR ns k) ns 0 with
  |some x=>
   unfold nz
   rw[hN]
   dsimp only
   rw[eC]
   simp only[List.cons_append,List.tail_cons,List.length_append,List.length_cons,List.length_nil]
   omega
  |none=>
   exfalso
   have none':=Dd hN
   have all: ∀(p:Nat) (x:Int),pos x=p→1≤x→x≤(ns.length:Int)→x∈bR ns k:=by
    intro p
    induction p using Nat.strongRecOn with
    |ind p ihp=>
     intro x hp h1 h2
     obtain⟨i,rfl⟩: ∃i:Nat,x=(i:Int)+1:=⟨(x-1).toNat,by omega⟩
     obtain⟨n,en⟩: ∃n,ns[i]? =some n:=⟨_,List.getElem?_eq_getElem (by omega)⟩
     have:=none' i n en
     rw[Nat.zero_add] at this
     rcases this with h|⟨j,hj,hb⟩
     ·exact h
     ·exfalso
      have hjr:=hi n (List.mem_of_getElem? en) j hj
      by_cases h0:j=0
      ·subst h0;exact hb (HI _ _)
      ·have:=hr i n en j hj (by omega)
       exact hb (ihp (pos j) (by omega) j rfl (by omega) (by omega))
   have:=jR ((List.range ns.length).map fun i:Nat=>(i:Int)+1) (bR ns k).tail (by
    unfold List.Nodup
    rw[List.pairwise_map]
    exact List.nodup_range.imp fun h e=>h (by omega)) fun y hy=>by
    obtain⟨i,hi',rfl⟩:=List.mem_map.1 hy
    rw[List.mem_range] at hi'
    have:=all _ ((i:Int)+1) rfl (by omega) (by omega)
    rw[eC] at this
    rcases List.mem_cons.1 this with h|h
    ·omega
    ·exact h
   simp only[List.length_map,List.length_range] at this
   omega
def vals (n:Nat) (V:Int→Int) (S:List Int):List Int:=(List.range (n+1)).map fun x:Nat=>if(x:Int)∈S then V x else 0
theorem xU {n:Nat} {V:Int→Int} {S:List Int} {x:Nat} (h:x≤n):(vals n V S)[x]? =some (if(x:Int)∈S then V x else 0):=by
 unfold vals
 rw[List.getElem?_map,List.getElem?_range (by omega)];rfl
theorem gE (n:Nat) (V:Int→Int) (S:List Int):(vals n V S).length=n+1:=by simp[vals]
theorem HJ {n:Nat} {V V':Int→Int} {S S':List Int} (h: ∀x:Nat,x≤n→(if(x:Int)∈S then V x else 0)=if(x:Int)∈S' then V' x else 0):vals n V S=vals n V' S':=by
 unfold vals
 refine List.map_congr_left fun x hx=> ?_
 rw[List.mem_range] at hx
 exact h x (by omega)
theorem pN (n:Nat) (V:Int→Int):vals n V [0]=V 0::List.replicate n 0:=by
 apply List.ext_getElem?
 intro x
 by_cases hx:x≤n
 ·rw[xU hx]
  cases x with
  |zero=>simp
  |succ x=>
   rw[if_neg (by simp;omega),List.getElem?_cons_succ,List.getElem?_replicate,if_pos (by omega)]
 ·rw[List.getElem?_eq_none (by rw[gE];omega),List.getElem?_eq_none (by simp;omega)]
theorem pO {n:Nat} {V:Int→Int} {S js:List Int} (h: ∀j∈js,j∈S∧0≤j∧j≤(n:Int)):cI (vals n V S) js=js.map V:=by
 unfold cI
 refine List.map_congr_left fun j hj=> ?_
 obtain⟨h1,h2,h3⟩:=h j hj
 rw[List.getD_eq_getElem?_getD,xU (by omega),show((j.toNat:Nat):Int)=j by omega,if_pos h1];rfl
theorem tC {n:Nat} {V:Int→Int} {S:List Int} {i:Nat} (hi:i+1≤n) {v:Int} (hv:v=V ((i:Int)+1)):(vals n V S).set (i+1) v=vals n V (S++[(i:Int)+1]):=by
 apply List.ext_getElem?
 intro x
 by_cases hx:x≤n
 ·rw[xU hx]
  by_cases h:i+1=x
  ·subst h
   rw[List.getElem?_set_self (by rw[gE];omega),if_pos (by simp),hv];rfl
  ·rw[List.getElem?_set_ne h,xU hx]
   congr 1
   by_cases h1:(x:Int)∈S
   ·rw[if_pos h1,if_pos (by simp[h1])]
   ·rw[if_neg h1,if_neg (by simp[h1];omega)]
 ·rw[List.getElem?_eq_none (by rw[List.length_set,gE];omega),List.getElem?_eq_none (by rw[gE];omega)]
theorem wi {ns:List Nd} {x:Int}: ∀(a ws rs:List Int),(∀i∈a,1≤i∧i≤(ns.length:Int))→(dJ ns a ws rs).1=0→dJ ns (a++[x]) ws rs=dJ ns [x] (dJ ns a ws rs).2.1 (dJ ns a ws rs).2.2
 |[],ws,rs,_,_=>rfl
 |i::r,ws,rs,hi,h=>by
  have h1:=hi i List.mem_cons_self
  obtain⟨n,en⟩: ∃n,ns[i.toNat-1]? =some n:=⟨_,List.getElem?_eq_getElem (l:=ns) (i:=i.toNat-1) (by omega)⟩
  have e: ∀t,dJ ns (i::t) ws rs=if n.chk (cI ws n.inn)≠0 then(n.chk (cI ws n.inn),ws,rs) else if cd n (cI rs n.inn)<0 then(15,ws,rs) else dJ ns t (ws.set i.toNat (n.wid (cI ws n.inn))) (rs.set i.toNat (cd n (cI rs n.inn))):=fun t=>by
   conv=>lhs;unfold dJ
   rw[en]
  rw[List.cons_append,e,e]
  rw[e] at h
  by_cases hc:n.chk (cI ws n.inn)≠0
  ·rw[if_pos hc] at h;exact absurd h hc
  ·rw[if_neg hc] at h ⊢
   rw[if_neg hc]
   by_cases hr:cd n (cI rs n.inn)<0
   ·rw[if_pos hr] at h;exact absurd (show(15:Int)=0 from h) (by decide)
   ·rw[if_neg hr] at h ⊢
    rw[if_neg hr]
    exact wi r _ _ (fun y hy=>hi y (List.mem_cons_of_mem _ hy)) h
theorem Fh {ns:List Nd} {x:Int}: ∀(a ws rs:List Int),(∀i∈a,1≤i∧i≤(ns.length:Int))→(dJ ns (a++[x]) ws rs).1=0→(dJ ns a ws rs).1=0
 |[],ws,rs,_,_=>rfl
 |i::r,ws,rs,hi,h=>by
  have h1:=hi i List.mem_cons_self
  obtain⟨n,en⟩: ∃n,ns[i.toNat-1]? =some n:=⟨_,List.getElem?_eq_getElem (l:=ns) (i:=i.toNat-1) (by omega)⟩
  have e: ∀t,dJ ns (i::t) ws rs=if n.chk (cI ws n.inn)≠0 then(n.chk (cI ws n.inn),ws,rs) else if cd n (cI rs n.inn)<0 then(15,ws,rs) else dJ ns t (ws.set i.toNat (n.wid (cI ws n.inn))) (rs.set i.toNat (cd n (cI rs n.inn))):=fun t=>by
   conv=>lhs;unfold dJ
   rw[en]
  rw[List.cons_append,e] at h
  rw[e]
  by_cases hc:n.chk (cI ws n.inn)≠0
  ·rw[if_pos hc] at h;exact absurd h hc
  ·rw[if_neg hc] at h ⊢
   by_cases hr:cd n (cI rs n.inn)<0
   ·rw[if_pos hr] at h;exact absurd (show(15:Int)=0 from h) (by decide)
   ·rw[if_neg hr] at h ⊢
    exact Fh r _ _ (fun y hy=>hi y (List.mem_cons_of_mem _ hy)) h
theorem tD {ns:List Nd} {k:Nat} {x:Int} (h:bR ns (k+1)=bR ns k++[x]):(bR ns (k+1)).tail=(bR ns k).tail++[x]:=by
 rw[h,eC];rfl
theorem bJ.lookK {g:Gr} {W R:Int→Int} {pos:Int→Nat} (r:bJ g W R pos): ∀k,dJ g.nodes (bR g.nodes k).tail (g.width::List.replicate g.nodes.length 0) (1::List.replicate g.nodes.length 0)=(0,vals g.nodes.length W (bR g.nodes k),vals g.nodes.length R (bR g.nodes k))
 |0=>by
  show(0,_,_)=(0,vals g.nodes.length W [0],vals g.nodes.length R [0])
  rw[pN,pN,r.w0,r.r0]
 |k+1=>by
  have ih:=r.lookK k
  rcases lI g.nodes (bR g.nodes k) with e|⟨i,n,en,h1,h2,e⟩
  ·rw[show bR g.nodes (k+1)=bR g.nodes k from e];exact ih
  ·have e:bR g.nodes (k+1)=bR g.nodes k++[(i:Int)+1]:=e
   rw[tD e,wi _ _ _ (fT g.nodes k) (by rw[ih]),ih,e]
   have hi:=(List.getElem?_eq_some_iff.1 en).1
   have hf:=(bW r.first).2.2.2.2.2 n (List.mem_of_getElem? en)
   have hj: ∀j∈n.inn,j∈bR g.nodes k∧0≤j∧j≤(g.nodes.length:Int):=fun j hj=>⟨h2 j hj,(hf j hj).1,(hf j hj).2⟩
   unfold dJ
   rw[show((i:Int)+1).toNat-1=i by omega,en]
   dsimp only
   rw[pO hj,pO hj,if_neg (by rw[r.chk i n en];simp),if_neg (by have:=r.rat i n en;omega),show((i:Int)+1).toNat=i+1 by omega]
   unfold dJ
   rw[tC (by omega) (r.wid i n en).symm,tC (by omega) (r.rid i n en).symm]
theorem bJ.ordered {g:Gr} {W R:Int→Int} {pos:Int→Nat} (r:bJ g W R pos):(cU g.nodes).length=g.nodes.length:=
 Fg r.rank (bW r.first).2.2.2.2.2 _ (Nat.le_refl _)
theorem De {ns:List Nd} (h:(cU ns).length=ns.length) (V:Int→Int):vals ns.length V (bR ns ns.length)=(List.range (ns.length+1)).map fun x:Nat=>V x:=by
 unfold vals
 refine List.map_congr_left fun x hx=> ?_
 rw[List.mem_range] at hx
 rw[if_pos]
 by_cases h0:x=0
 ·subst h0;exact HI _ _
 ·rw[eC]
  exact List.mem_cons_of_mem _ (pQ h (by omega) (by omega))
theorem bJ.look {g:Gr} {W R:Int→Int} {pos:Int→Nat} (r:bJ g W R pos):g.look=⟨0,cU g.nodes,(List.range (g.nodes.length+1)).map fun x:Nat=>W x,(List.range (g.nodes.length+1)).map fun x:Nat=>R x⟩:=by
 have h1:=r.lookK g.nodes.length
 have h1:dJ g.nodes (cU g.nodes) (g.width::List.replicate g.nodes.length 0) (1::List.replicate g.nodes.length 0)=_:=h1
 unfold Gr.look
 rw[if_neg (by rw[r.first];simp),if_neg (by rw[r.ordered];simp),h1,if_neg (by simp),De r.ordered,De r.ordered]
theorem Jg {g:Gr} (h:g.look.e=0): ∃W R,bJ g W R (posG g.nodes):=by
 obtain⟨h1,h2,h3⟩:=zn h
 have hf:=(bW h1).2.2.2.2.2
 have key: ∀k,(dJ g.nodes (bR g.nodes k).tail (g.width::List.replicate g.nodes.length 0) (1::List.replicate g.nodes.length 0)).1=0→ ∃W R:Int→Int,W 0=g.width∧R 0=1∧
  dJ g.nodes (bR g.nodes k).tail (g.width::List.replicate g.nodes.length 0) (1::List.replicate g.nodes.length 0)=(0,vals g.nodes.length W (bR g.nodes k),vals g.nodes.length R (bR g.nodes k))∧
  ∀(i:Nat) (n:Nd),g.nodes[i]? =some n→((i:Int)+1)∈bR g.nodes k→n.chk (n.inn.map W)=0∧W ((i:Int)+1)=n.wid (n.inn.map W)∧0≤cd n (n.inn.map R)∧R ((i:Int)+1)=cd n (n.inn.map R):=by
  intro k
  induction k with
  |zero=>
   intro _
   refine⟨fun _=>g.width,fun _=>1,rfl,rfl,?_,fun i n en hi=> ?_⟩
   ·show(0,_,_)=(0,vals g.nodes.length _ [0],vals g.nodes.length _ [0])
    rw[pN,pN]
   ·simp[bR] at hi;omega
  |succ k ih=>
   rcases lI g.nodes (bR g.nodes k) with e|⟨q,m,em,q1,q2,e⟩
   ·rw[show bR g.nodes (k+1)=bR g.nodes k from e];exact ih
   ·have e:bR g.nodes (k+1)=bR g.nodes k++[(q:Int)+1]:=e
    intro hz
    rw[tD e] at hz ⊢
    have hz0:=Fh _ _ _ (fT g.nodes k) hz
    obtain⟨W,R,w0,r0,hl,hall⟩:=ih hz0
    rw[wi _ _ _ (fT g.nodes k) hz0,hl] at hz ⊢
    have hq:=(List.getElem?_eq_some_iff.1 em).1
    have hfm:=hf m (List.mem_of_getElem? em)
    have hj: ∀j∈m.inn,j∈bR g.nodes k∧0≤j∧j≤(g.nodes.length:Int):=fun j hj=>⟨q2 j hj,(hfm j hj).1,(hfm j hj).2⟩
    have eL:dJ g.nodes [(q:Int)+1] (vals g.nodes.length W (bR g.nodes k)) (vals g.nodes.length R (bR g.nodes k))=
     if m.chk (m.inn.map W)≠0 then(m.chk (m.inn.map W),vals g.nodes.length W (bR g.nodes k),vals g.nodes.length R (bR g.nodes k)) else if cd m (m.inn.map R)<0 then(15,vals g.nodes.length W (bR g.nodes k),vals g.nodes.length R (bR g.nodes k))
     else(0,(vals g.nodes.length W (bR g.nodes k)).set (q+1) (m.wid (m.inn.map W)),(vals g.nodes.length R (bR g.nodes k)).set (q+1) (cd m (m.inn.map R))):=by
     conv=>lhs;unfold dJ
     rw[show((q:Int)+1).toNat-1=q by omega,em]
     dsimp only
     rw[pO hj,pO hj,show((q:Int)+1).toNat=q+1 by omega]
     rfl
    dsimp only at hz ⊢
    rw[eL] at hz ⊢
    by_cases hc:m.chk (m.inn.map W)≠0
    ·rw[if_pos hc] at hz;exact absurd hz hc
    ·rw[if_neg hc] at hz ⊢
     by_cases hr:cd m (m.inn.map R)<0
     ·rw[if_pos hr] at hz;exact absurd (show(15:Int)=0 from hz) (by decide)
     ·rw[if_neg hr] at hz ⊢
      have key2: ∀(V:Int→Int) (v:Int) (l:List Int),(∀j∈l,j∈bR g.nodes k)→l.map (fun x=>if x=(q:Int)+1 then v else V x)=l.map V:=fun V v l hl=>List.map_congr_left fun j hj=>if_neg (fun(h:j=(q:Int)+1)=>q1 (h▸hl j hj))
      have in_inn: ∀(i:Nat) (n:Nd),g.nodes[i]? =some n→((i:Int)+1)∈bR g.nodes k→ ∀j∈n.inn,j∈bR g.nodes k:=fun i n en hi j hj=>(pP g.nodes k i n en hi j hj).1
      have vs: ∀(V:Int→Int) (v:Int),(vals g.nodes.length V (bR g.nodes k)).set (q+1) v=vals g.nodes.length (fun x=>if x=(q:Int)+1 then v else V x) (bR g.nodes k++[(q:Int)+1]):=fun V v=>by
       rw[←tC (n:=g.nodes.length) (V:=fun x=>if x=(q:Int)+1 then v else V x) (by omega) (if_pos rfl).symm]
       congr 1
       refine HJ fun x _=> ?_
       by_cases hx:(x:Int)∈bR g.nodes k
       ·rw[if_pos hx,if_pos hx,if_neg (fun(h:(x:Int)=(q:Int)+1)=>q1 (h▸hx))]
       ·rw[if_neg hx,if_neg hx]
      refine⟨fun x=>if x=(q:Int)+1 then m.wid (m.inn.map W) else W x,fun x=>if x=(q:Int)+1 then cd m (m.inn.map R) else R x,?_,?_,?_,fun i n en hi=> ?_⟩
      ·dsimp only;rw[if_neg (by omega)];exact w0
      ·dsimp only;rw[if_neg (by omega)];exact r0
      ·rw[vs,vs,e]
      ·dsimp only
       rw[e] at hi
       by_cases hk:((i:Int)+1)∈bR g.nodes k
       ·have hne: ¬((i:Int)+1=(q:Int)+1):=fun h=>q1 (h▸hk)
        have hin:=in_inn i n en hk
        rw[key2 W _ _ hin,key2 R _ _ hin,if_neg hne,if_neg hne]
        exact hall i n en hk
       ·have hiq:i=q:=by
         rcases List.mem_append.1 hi with h|h
         ·exact absurd h hk
         ·simp only[List.mem_singleton] at h;omega
        subst hiq
        rw[em] at en;cases en
        rw[key2 W _ _ q2,key2 R _ _ q2,if_pos rfl,if_pos rfl]
        exact⟨Decidable.byContradiction hc,rfl,by omega,rfl⟩
 obtain⟨W,R,w0,r0,_,hall⟩:=key g.nodes.length h3
 have hin: ∀(i:Nat) (n:Nd),g.nodes[i]? =some n→((i:Int)+1)∈bR g.nodes g.nodes.length:=fun i n en=>by
  have:=(List.getElem?_eq_some_iff.1 en).1
  rw[eC]
  exact List.mem_cons_of_mem _ (pQ h2 (by omega) (by omega))
 exact⟨W,R,h1,fun i n en j hj _=>mH h2 en hj,w0,r0,fun i n en=>(hall i n en (hin i n en)).1,fun i n en=>(hall i n en (hin i n en)).2.1,fun i n en=>(hall i n en (hin i n en)).2.2.1,fun i n en=>(hall i n en (hin i n en)).2.2.2⟩
end Go.Proofs.YtdhpmegbmjoekaaGreatDoor.G
