/- Plain: a node that weighs, with a row of Scale and Clamp behind it, fused. -/
import Derived.Test.YtbgplllcjhgdhaaGreatDoorCFused
namespace Go.Proofs.YtbgplllcjhgdhaaGreatDoor.G
open Go Go.Sh
set_option linter.unusedVariables false
set_option linter.unusedSimpArgs false
def Nd.kin (n m:Nd):Prop:=n.weights=m.weights∧n.bias=m.bias∧n.inn.length=m.inn.length∧n.kind=m.kind
theorem Nd.kin.trans {a b c:Nd} (h:a.kin b) (k:b.kin c):a.kin c:=⟨h.1.trans k.1,h.2.1.trans k.2.1,h.2.2.1.trans k.2.2.1,h.2.2.2.trans k.2.2.2⟩
theorem Nd.kin.refl (a:Nd):a.kin a:=⟨rfl,rfl,rfl,rfl⟩
def kinL (l m:List Nd):Prop:= ∀n∈l,∃k∈m,n.kin k
theorem kinL.trans {a b c:List Nd} (h:kinL a b) (k:kinL b c):kinL a c:=fun n hn=>by
 obtain⟨x,hx,h1⟩:=h n hn
 obtain⟨y,hy,h2⟩:=k x hx
 exact⟨y,hy,h1.trans h2⟩
theorem kinL.refl (a:List Nd):kinL a a:=fun n hn=>⟨n,hn,.refl n⟩
theorem Stp.kin {ns:List Nd} {out:Int} {M:LM} {i w:Nat} {na nu a':Nd} {st:FSt} (s:Stp ns out M i w na nu a' st):kinL st.1 ns:=fun n hn=>by
 obtain⟨q,hq⟩:=List.mem_iff_getElem?.1 hn
 rw[s.get] at hq
 obtain⟨m,em,e⟩:=Option.map_eq_some_iff.1 hq
 refine⟨m,List.mem_of_getElem? em,?_⟩
 dsimp only at e
 have hi:(if q=i then a' else m).kin m:=by
  split
  ·rename_i h;subst h
   have:=s.ea;rw[em] at this;cases this
   obtain⟨h1,h2,h3,h4,_⟩:=tkN_rows s.tk
   exact⟨h3,h4,by rw[h1],h2⟩
  ·exact .refl m
 subst e
 split
 ·exact hi
 ·exact⟨hi.1,hi.2.1,by show(List.map _ _).length=_;rw[List.length_map];exact hi.2.2.1,hi.2.2.2⟩
theorem fuseIt_kin {pos:Int→Nat}: ∀(k:Nat) (s:FSt),FInv s.1 s.2.1 s.2.2 pos→kinL (fuseIt k s).1 s.1
 |0,s,_=>kinL.refl _
 |k+1,s,I=>by
  unfold fuseIt
  cases e:stepP s.1 s.2.1 s.2.2 with
  |none=>exact kinL.refl _
  |some t=>
   obtain⟨i,w,na,nu,a',st,_⟩:=stepP_stp I e
   exact(fuseIt_kin k t (st.inv I)).trans st.kin
theorem numT_mem {ns:List Nd} {M:LM}: ∀(i:Nat) (n:Nd),n∈(numT ns M i).1→n∈ns
 |0,n,h=>by simp[numT] at h
 |i+1,n,h=>by
  unfold numT at h
  cases e:ns[i]? with
  |none=>rw[e] at h;exact numT_mem i n h
  |some m=>
   rw[e] at h
   dsimp only at h
   split at h
   ·rcases List.mem_append.1 h with h|h
    ·exact numT_mem i n h
    ·simp only[List.mem_singleton] at h;subst h;exact List.mem_of_getElem? e
   ·exact numT_mem i n h
theorem fuseG_kin (g:Gr):kinL (fuseG g).nodes g.nodes:=by
 unfold fuseG
 split
 ·rename_i h
  intro n hn
  obtain⟨m,hm,rfl⟩:=List.mem_map.1 hn
  obtain⟨k,hk,hkin⟩:=fuseIt_kin (g.nodes.length+1) (g.nodes,g.out,liveM g.nodes g.out) (look_finv h) m (numT_mem _ _ hm)
  have ren: ∀N:LM,(Nd.ren N m).kin m:=fun N=>⟨rfl,rfl,by show(List.map _ _).length=_;rw[List.length_map],rfl⟩
  exact⟨k,hk,(ren _).trans hkin⟩
 ·intro n hn;cases hn
def nd0:Nd:=⟨0,[],0,0,0,0,0,0,[],[],0,0,0,0,0⟩
def frX (s:Bool) (i:Nat):Nd:=if s then{nd0 with kind:=10,inn:=[(i:Int)+1],mult:=2} else{nd0 with kind:=9,inn:=[(i:Int)+1],high:=50}
def frTook (post t:Int) (s:Bool) (i:Nat):Bool:=if s then post==0&&t==(i:Int) else andI .i64 post 2==0&&t==(i:Int)
abbrev FrS:=List Nd×Int×Int
def frStep (st:FrS) (s:Bool):FrS:=
 (st.1++[frX s st.1.length],if frTook st.2.1 st.2.2 s st.1.length then(if s then 1 else orI .i64 st.2.1 2) else st.2.1,if frTook st.2.1 st.2.2 s st.1.length then st.2.2+1 else st.2.2)
def frB (bs:List Bool):FrS:=bs.foldl frStep ([],0,0)
def frBase:Nd:={nd0 with kind:=6,inn:=[0],width:=1,weights:=[5],bias:=[0]}
def frG (bs:List Bool):Gr:=⟨1,0,9,frBase::(frB bs).1,(bs.length:Int)+1⟩
def frOk (bs:List Bool):Bool:=
 (((fuseG (frG bs)).nodes.length:Int)==(bs.length:Int)-(frB bs).2.2+1)&&((fuseG (frG bs)).nodes.map Nd.post).head? ==some (frB bs).2.1&&(fuseG (frG bs)).out==(bs.length:Int)-(frB bs).2.2+1&&(fuseG (frG bs)).look.e==0
def allBs:Nat→List (List Bool)
 |0=>[[]]
 |n+1=>(allBs n).flatMap fun l=>[true::l,false::l]
theorem allBs_mem: ∀bs:List Bool,bs∈allBs bs.length
 |[]=>by simp[allBs]
 |b::r=>by
  have:=allBs_mem r
  show b::r∈(allBs r.length).flatMap _
  rw[List.mem_flatMap]
  exact⟨r,this,by cases b<;>simp⟩
theorem fr0:(allBs 0).all frOk=true:=by decide+kernel
theorem fr1:(allBs 1).all frOk=true:=by decide+kernel
theorem fr2:(allBs 2).all frOk=true:=by decide+kernel
theorem fr3:(allBs 3).all frOk=true:=by decide+kernel
theorem fr4:(allBs 4).all frOk=true:=by decide+kernel
theorem fr5:(allBs 5).all frOk=true:=by decide+kernel
theorem fr6:(allBs 6).all frOk=true:=by decide+kernel
end Go.Proofs.YtbgplllcjhgdhaaGreatDoor.G
