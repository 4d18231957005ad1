/- Graphs that are right, by a valuation: widths, and rates, of their nodes. -/
import Derived.Test.YtdhpmegbmjoekaaGreatDoorCLv4
namespace Go.Proofs.YtdhpmegbmjoekaaGreatDoor.G
open Go Go.Sh
set_option linter.unusedVariables false
set_option linter.unusedSimpArgs false
structure Right (g:Gr) (W R:Int→Int) (pos:Int→Nat):Prop where
 first:g.first=0
 rank: ∀(i:Nat) (n:Nd),g.nodes[i]? =some n→ ∀j∈n.inn,0<j→pos j<pos ((i:Int)+1)
 w0:W 0=g.width
 r0:R 0=1
 chk: ∀(i:Nat) (n:Nd),g.nodes[i]? =some n→n.chk (n.inn.map W)=0
 wid: ∀(i:Nat) (n:Nd),g.nodes[i]? =some n→W ((i:Int)+1)=n.wid (n.inn.map W)
 rat: ∀(i:Nat) (n:Nd),g.nodes[i]? =some n→0≤rateN n (n.inn.map R)
 rid: ∀(i:Nat) (n:Nd),g.nodes[i]? =some n→R ((i:Int)+1)=rateN n (n.inn.map R)
theorem nextO_none {there:List Int}: ∀{ns:List Nd} {i:Nat},nextO there ns i=none→ ∀(k:Nat) (n:Nd),ns[k]? =some n→((i+k:Nat):Int)+1∈there∨ ∃j∈n.inn,j∉there
 |[],i,_,k,n,h=>by simp at h
 |m::r,i,h,k,n,hk=>by
  unfold nextO at h
  split at h
  ·cases h
  ·rename_i hc
   cases k with
   |zero=>
    simp only[List.getElem?_cons_zero,Option.some.injEq] at hk
    subst hk
    by_cases h1:((i:Int)+1)∈there
    ·exact .inl h1
    ·right
     exact Classical.byContradiction fun hn=>hc ⟨h1,fun j hj=>Classical.byContradiction fun hb=>hn ⟨j,hj,hb⟩⟩
   |succ k=>
    have:=nextO_none h k n (by simpa using hk)
    rw[show i+1+k=i+(k+1) by omega] at this
    exact this
theorem mem_zero (ns:List Nd) (k:Nat):(0:Int)∈ordK ns k:=by rw[ordK_cons];exact List.mem_cons_self
theorem ordK_full {ns:List Nd} {pos:Int→Nat} (hr: ∀(i:Nat) (n:Nd),ns[i]? =some n→ ∀j∈n.inn,0<j→pos j<pos ((i:Int)+1)) (hi: ∀n∈ns,fitR 0 ns.length n.inn): ∀k≤ns.length,(ordK ns k).tail.length=k
 |0,_=>rfl
 |k+1,hk=>by
  have ih:=ordK_full hr hi k (by omega)
  show(stepO ns (ordK ns k)).tail.length=k+1
  cases hN:nextO (ordK ns k) ns 0 with
  |some x=>
   unfold stepO
   rw[hN]
   dsimp only
   rw[ordK_cons]
   simp only[List.cons_append,List.tail_cons,List.length_append,List.length_cons,List.length_nil]
   omega
  |none=>
   exfalso
   have none':=nextO_none hN
   have all: ∀(p:Nat) (x:Int),pos x=p→1≤x→x≤(ns.length:Int)→x∈ordK ns k:=by
    intro p
    induction p using Nat.strongRecOn with
    |ind p ihp=>
     intro x hp h1 h2
     obtain⟨i,rfl⟩: ∃i:Nat,x=(i:Int)+1:=⟨(x-1).toNat,by omega⟩
     obtain⟨n,en⟩: ∃n,ns[i]? =some n:=⟨_,List.getElem?_eq_getElem (by omega)⟩
     have:=none' i n en
     rw[Nat.zero_add] at this
     rcases this with h|⟨j,hj,hb⟩
     ·exact h
     ·exfalso
      have hjr:=hi n (List.mem_of_getElem? en) j hj
      by_cases h0:j=0
      ·subst h0;exact hb (mem_zero _ _)
      ·have:=hr i n en j hj (by omega)
       exact hb (ihp (pos j) (by omega) j rfl (by omega) (by omega))
   have:=nodup_len ((List.range ns.length).map fun i:Nat=>(i:Int)+1) (ordK ns k).tail (by
    unfold List.Nodup
    rw[List.pairwise_map]
    exact List.nodup_range.imp fun h e=>h (by omega)) fun y hy=>by
    obtain⟨i,hi',rfl⟩:=List.mem_map.1 hy
    rw[List.mem_range] at hi'
    have:=all _ ((i:Int)+1) rfl (by omega) (by omega)
    rw[ordK_cons] at this
    rcases List.mem_cons.1 this with h|h
    ·omega
    ·exact h
   simp only[List.length_map,List.length_range] at this
   omega
def vals (n:Nat) (V:Int→Int) (S:List Int):List Int:=(List.range (n+1)).map fun x:Nat=>if(x:Int)∈S then V x else 0
theorem vals_get {n:Nat} {V:Int→Int} {S:List Int} {x:Nat} (h:x≤n):(vals n V S)[x]? =some (if(x:Int)∈S then V x else 0):=by
 unfold vals
 rw[List.getElem?_map,List.getElem?_range (by omega)];rfl
theorem vals_length (n:Nat) (V:Int→Int) (S:List Int):(vals n V S).length=n+1:=by simp[vals]
theorem vals_ext {n:Nat} {V V':Int→Int} {S S':List Int} (h: ∀x:Nat,x≤n→(if(x:Int)∈S then V x else 0)=if(x:Int)∈S' then V' x else 0):vals n V S=vals n V' S':=by
 unfold vals
 refine List.map_congr_left fun x hx=> ?_
 rw[List.mem_range] at hx
 exact h x (by omega)
theorem vals_zero (n:Nat) (V:Int→Int):vals n V [0]=V 0::List.replicate n 0:=by
 apply List.ext_getElem?
 intro x
 by_cases hx:x≤n
 ·rw[vals_get hx]
  cases x with
  |zero=>simp
  |succ x=>
   rw[if_neg (by simp;omega),List.getElem?_cons_succ,List.getElem?_replicate,if_pos (by omega)]
 ·rw[List.getElem?_eq_none (by rw[vals_length];omega),List.getElem?_eq_none (by simp;omega)]
theorem vals_pick {n:Nat} {V:Int→Int} {S js:List Int} (h: ∀j∈js,j∈S∧0≤j∧j≤(n:Int)):pickG (vals n V S) js=js.map V:=by
 unfold pickG
 refine List.map_congr_left fun j hj=> ?_
 obtain⟨h1,h2,h3⟩:=h j hj
 rw[List.getD_eq_getElem?_getD,vals_get (by omega),show((j.toNat:Nat):Int)=j by omega,if_pos h1];rfl
theorem vals_set {n:Nat} {V:Int→Int} {S:List Int} {i:Nat} (hi:i+1≤n) {v:Int} (hv:v=V ((i:Int)+1)):(vals n V S).set (i+1) v=vals n V (S++[(i:Int)+1]):=by
 apply List.ext_getElem?
 intro x
 by_cases hx:x≤n
 ·rw[vals_get hx]
  by_cases h:i+1=x
  ·subst h
   rw[List.getElem?_set_self (by rw[vals_length];omega),if_pos (by simp),hv];rfl
  ·rw[List.getElem?_set_ne h,vals_get hx]
   congr 1
   by_cases h1:(x:Int)∈S
   ·rw[if_pos h1,if_pos (by simp[h1])]
   ·rw[if_neg h1,if_neg (by simp[h1];omega)]
 ·rw[List.getElem?_eq_none (by rw[List.length_set,vals_length];omega),List.getElem?_eq_none (by rw[vals_length];omega)]
theorem lookL_snoc {ns:List Nd} {x:Int}: ∀(a ws rs:List Int),(∀i∈a,1≤i∧i≤(ns.length:Int))→(lookL ns a ws rs).1=0→lookL ns (a++[x]) ws rs=lookL ns [x] (lookL ns a ws rs).2.1 (lookL ns a ws rs).2.2
 |[],ws,rs,_,_=>rfl
 |i::r,ws,rs,hi,h=>by
  have h1:=hi i List.mem_cons_self
  obtain⟨n,en⟩: ∃n,ns[i.toNat-1]? =some n:=⟨_,List.getElem?_eq_getElem (l:=ns) (i:=i.toNat-1) (by omega)⟩
  have e: ∀t,lookL ns (i::t) ws rs=if n.chk (pickG ws n.inn)≠0 then(n.chk (pickG ws n.inn),ws,rs) else if rateN n (pickG rs n.inn)<0 then(15,ws,rs) else lookL ns t (ws.set i.toNat (n.wid (pickG ws n.inn))) (rs.set i.toNat (rateN n (pickG rs n.inn))):=fun t=>by
   conv=>lhs;unfold lookL
   rw[en]
  rw[List.cons_append,e,e]
  rw[e] at h
  by_cases hc:n.chk (pickG ws n.inn)≠0
  ·rw[if_pos hc] at h;exact absurd h hc
  ·rw[if_neg hc] at h ⊢
   rw[if_neg hc]
   by_cases hr:rateN n (pickG rs n.inn)<0
   ·rw[if_pos hr] at h;exact absurd (show(15:Int)=0 from h) (by decide)
   ·rw[if_neg hr] at h ⊢
    rw[if_neg hr]
    exact lookL_snoc r _ _ (fun y hy=>hi y (List.mem_cons_of_mem _ hy)) h
theorem ordK_tail_snoc {ns:List Nd} {k:Nat} {x:Int} (h:ordK ns (k+1)=ordK ns k++[x]):(ordK ns (k+1)).tail=(ordK ns k).tail++[x]:=by
 rw[h,ordK_cons];rfl
theorem Right.lookK {g:Gr} {W R:Int→Int} {pos:Int→Nat} (r:Right g W R pos): ∀k,lookL g.nodes (ordK g.nodes k).tail (g.width::List.replicate g.nodes.length 0) (1::List.replicate g.nodes.length 0)=(0,vals g.nodes.length W (ordK g.nodes k),vals g.nodes.length R (ordK g.nodes k))
 |0=>by
  show(0,_,_)=(0,vals g.nodes.length W [0],vals g.nodes.length R [0])
  rw[vals_zero,vals_zero,r.w0,r.r0]
 |k+1=>by
  have ih:=r.lookK k
  rcases stepO_cases g.nodes (ordK g.nodes k) with e|⟨i,n,en,h1,h2,e⟩
  ·rw[show ordK g.nodes (k+1)=ordK g.nodes k from e];exact ih
  ·have e:ordK g.nodes (k+1)=ordK g.nodes k++[(i:Int)+1]:=e
   rw[ordK_tail_snoc e,lookL_snoc _ _ _ (ordK_mem g.nodes k) (by rw[ih]),ih,e]
   have hi:=(List.getElem?_eq_some_iff.1 en).1
   have hf:=(first_ok r.first).2.2.2.2.2 n (List.mem_of_getElem? en)
   have hj: ∀j∈n.inn,j∈ordK g.nodes k∧0≤j∧j≤(g.nodes.length:Int):=fun j hj=>⟨h2 j hj,(hf j hj).1,(hf j hj).2⟩
   unfold lookL
   rw[show((i:Int)+1).toNat-1=i by omega,en]
   dsimp only
   rw[vals_pick hj,vals_pick hj,if_neg (by rw[r.chk i n en];simp),if_neg (by have:=r.rat i n en;omega),show((i:Int)+1).toNat=i+1 by omega]
   unfold lookL
   rw[vals_set (by omega) (r.wid i n en).symm,vals_set (by omega) (r.rid i n en).symm]
theorem Right.ordered {g:Gr} {W R:Int→Int} {pos:Int→Nat} (r:Right g W R pos):(ordG g.nodes).length=g.nodes.length:=
 ordK_full r.rank (first_ok r.first).2.2.2.2.2 _ (Nat.le_refl _)
theorem vals_all {ns:List Nd} (h:(ordG ns).length=ns.length) (V:Int→Int):vals ns.length V (ordK ns ns.length)=(List.range (ns.length+1)).map fun x:Nat=>V x:=by
 unfold vals
 refine List.map_congr_left fun x hx=> ?_
 rw[List.mem_range] at hx
 rw[if_pos]
 by_cases h0:x=0
 ·subst h0;exact mem_zero _ _
 ·rw[ordK_cons]
  exact List.mem_cons_of_mem _ (ordG_all h (by omega) (by omega))
theorem Right.look {g:Gr} {W R:Int→Int} {pos:Int→Nat} (r:Right g W R pos):g.look=⟨0,ordG g.nodes,(List.range (g.nodes.length+1)).map fun x:Nat=>W x,(List.range (g.nodes.length+1)).map fun x:Nat=>R x⟩:=by
 have h1:=r.lookK g.nodes.length
 have h1:lookL g.nodes (ordG g.nodes) (g.width::List.replicate g.nodes.length 0) (1::List.replicate g.nodes.length 0)=_:=h1
 unfold Gr.look
 rw[if_neg (by rw[r.first];simp),if_neg (by rw[r.ordered];simp),h1,if_neg (by simp),vals_all r.ordered,vals_all r.ordered]
end Go.Proofs.YtdhpmegbmjoekaaGreatDoor.G
