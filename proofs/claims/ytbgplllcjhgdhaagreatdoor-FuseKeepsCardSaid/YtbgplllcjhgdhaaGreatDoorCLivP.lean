/- Contracts: the program's Live: which nodes are live. -/
import Derived.Test.YtbgplllcjhgdhaaGreatDoorCRenum
import Derived.Test.YtbgplllcjhgdhaaGreatDoorShRg
namespace Go.Proofs.YtbgplllcjhgdhaaGreatDoor.G
open Go Go.Sh
set_option linter.unusedVariables false
set_option linter.unusedSimpArgs false
def Inn (ns:List Nd):Prop:= ∀n∈ns,∀j∈n.inn,0≤j∧j≤(ns.length:Int)
theorem Ranked.Inn {ns:List Nd} {pos:Int→Nat} (h:Ranked ns pos):Inn ns:=fun n hn j hj=>by
 obtain⟨i,en⟩:=List.mem_iff_getElem?.1 hn
 have:=(h i n en).2 j hj
 exact⟨this.1,this.2.1⟩
def boolsM (n:Nat) (M:LM):List Bool:=(List.range (n+1)).map fun x:Nat=>(M (x:Int)).isSome
theorem boolsM_length (n:Nat) (M:LM):(boolsM n M).length=n+1:=by simp[boolsM]
theorem boolsM_get {n:Nat} {M:LM} {x:Nat} (h:x≤n):(boolsM n M)[x]? =some (M (x:Int)).isSome:=by
 unfold boolsM
 rw[List.getElem?_map,List.getElem?_range (by omega)];rfl
def bls (l:List Bool):List Value:=l.map .bool
theorem bls_length (l:List Bool):(bls l).length=l.length:=by simp[bls]
theorem bls_get {l:List Bool} {i:Nat} {b:Bool} (h:l[i]? =some b):(bls l)[i]? =some (.bool b):=by simp[bls,h]
theorem bls_set (l:List Bool) (i:Nat) (b:Bool):(bls l).set i (.bool b)=bls (l.set i b):=by simp[bls,List.map_set]
section
variable {h:Heap}
theorem pushRow0 {h0 h:Heap} {T:Nat→Prop} {W:List Fact} (S:Sep h0 T h W []) (p:Option Addr):Sep h0 T h (W++[row p []]) []:=by
 have:=S.add (W1:=[row p []]) (R1:=[]) (U:=no) (Sep.one (Fra.refl _ _) (Row.nil _ _) fun b hb hlt=>absurd rfl hb.1) fun b hb hu=>hu
 exact this
def LivQ (g:Gr) (h:Heap) (v:Value) (h':Heap):Prop:=
 ∃(p:Option Addr) (l c:Nat),v= .slice p l c∧(if g.look.e=0 then boolsM g.nodes.length (liveM g.nodes g.out) else[]).length=l∧Sep h no h' [row p (bls (if g.look.e=0 then boolsM g.nodes.length (liveM g.nodes g.out) else[]))] []
theorem filter_lt {α:Type} {p q:α→Bool} (hq: ∀x,q x=true→p x=true): ∀l:List α,(l.filter q).length≤(l.filter p).length∧ ∀x∈l,p x=true→q x=false→(l.filter q).length<(l.filter p).length
 |[]=>⟨Nat.le_refl _,by simp⟩
 |a::r=>by
  have ih:=filter_lt hq r
  rw[List.filter_cons,List.filter_cons]
  have e1:(if q a=true then a::r.filter q else r.filter q).length=(r.filter q).length+if q a=true then 1 else 0:=by split<;>rfl
  have e2:(if p a=true then a::r.filter p else r.filter p).length=(r.filter p).length+if p a=true then 1 else 0:=by split<;>rfl
  rw[e1,e2]
  have i1:=ih.1
  refine⟨?_,fun x hx hp hn=> ?_⟩
  ·by_cases h:q a=true
   ·rw[if_pos h,if_pos (hq a h)];omega
   ·rw[if_neg h];split<;>omega
  ·rcases List.mem_cons.1 hx with rfl|hx
   ·rw[if_neg (by rw[hn];simp),if_pos hp];omega
   ·have:=ih.2 x hx hp hn
    by_cases h:q a=true
    ·rw[if_pos h,if_pos (hq a h)];omega
    ·rw[if_neg h];split<;>omega
theorem FInv.range {ns:List Nd} {out:Int} {M:LM} {pos:Int→Nat} (I:FInv ns out M pos) {x:Int} (h:(M x).isSome):0≤x∧x≤(ns.length:Int):=by
 have:=(I.lv x).1 h
 induction this with
 |out=>exact⟨by have:=I.out1;omega,I.outn⟩
 | @inn i n j _ en hj _=>exact I.ranked.Inn n (List.mem_of_getElem? en) j hj
theorem nodup_born: ∀{l:List MapEntry} {x y:MapEntry},(l.map (·.born)).Nodup→x∈l→y∈l→x.born=y.born→x=y
 |[],_,_,_,h,_,_=>by simp at h
 |a::r,x,y,hn,hx,hy,e=>by
  rw[List.map_cons,List.nodup_cons] at hn
  have key: ∀z∈r,z.born≠a.born:=fun z hz ez=>hn.1 (List.mem_map.2 ⟨z,hz,ez⟩)
  rcases List.mem_cons.1 hx with h1|h1
  ·rcases List.mem_cons.1 hy with h2|h2
   ·rw[h1,h2]
   ·exact absurd (by rw[←e,h1]) (key y h2)
  ·rcases List.mem_cons.1 hy with h2|h2
   ·exact absurd (by rw[e,h2]) (key x h1)
   ·exact nodup_born hn.2 h1 h2 e
end
end Go.Proofs.YtbgplllcjhgdhaaGreatDoor.G
