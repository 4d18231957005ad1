/- How far nodes reach: that there are such numbers, and how large they may be. -/
import Derived.Test.YtdhpmegbmjoekaaGreatDoorCGood
namespace Go.Proofs.YtdhpmegbmjoekaaGreatDoor.G
open Go Go.Sh
set_option linter.unusedVariables false
set_option linter.unusedSimpArgs false
theorem Gx {α:Type} {ns:List Nd} (h:(cU ns).length=ns.length) (v0:α) (F:Nat→Nd→List α→α): ∃V:Int→α,V 0=v0∧ ∀(i:Nat) (n:Nd),ns[i]? =some n→V ((i:Int)+1)=F i n (n.inn.map V):=by
 have key: ∀k,∃V:Int→α,V 0=v0∧ ∀(i:Nat) (n:Nd),ns[i]? =some n→((i:Int)+1)∈bR ns k→V ((i:Int)+1)=F i n (n.inn.map V):=by
  intro k
  induction k with
  |zero=>exact⟨fun _=>v0,rfl,fun i n _ hi=>by simp[bR] at hi;omega⟩
  |succ k ih=>
   obtain⟨V,h0,hV⟩:=ih
   rcases lI ns (bR ns k) with e|⟨q,m,em,q1,q2,e⟩
   ·rw[show bR ns (k+1)=bR ns k from e];exact⟨V,h0,hV⟩
   ·have e:bR ns (k+1)=bR ns k++[(q:Int)+1]:=e
    have key2: ∀(v:α) (l:List Int),(∀j∈l,j∈bR ns k)→l.map (fun x=>if x=(q:Int)+1 then v else V x)=l.map V:=fun v l hl=>List.map_congr_left fun j hj=>if_neg (fun(h:j=(q:Int)+1)=>q1 (h▸hl j hj))
    refine⟨fun x=>if x=(q:Int)+1 then F q m (m.inn.map V) else V x,by dsimp only;rw[if_neg (by omega)];exact h0,fun i n en hi=> ?_⟩
    dsimp only
    rw[e] at hi
    by_cases hk:((i:Int)+1)∈bR ns k
    ·have hne: ¬((i:Int)+1=(q:Int)+1):=fun h=>q1 (h▸hk)
     rw[key2 _ _ (fun j hj=>(pP ns k i n en hk j hj).1),if_neg hne]
     exact hV i n en hk
    ·have hiq:i=q:=by
      rcases List.mem_append.1 hi with h|h
      ·exact absurd h hk
      ·simp only[List.mem_singleton] at h;omega
     subst hiq
     rw[em] at en;cases en
     rw[key2 _ _ q2,if_pos rfl]
 obtain⟨V,h0,hV⟩:=key ns.length
 refine⟨V,h0,fun i n en=>hV i n en ?_⟩
 have:=(List.getElem?_eq_some_iff.1 en).1
 rw[eC]
 exact List.mem_cons_of_mem _ (pQ h (by omega) (by omega))
theorem HX {ns:List Nd} (h:(cU ns).length=ns.length) (R:Int→Int): ∃Lo Hi,Reach ns R Lo Hi:=by
 obtain⟨Lo,l0,hL⟩:=Gx h 0 fun i n l=>if 0<R ((i:Int)+1) then qM l-(n.inn.map R).getD 0 0*n.leftN else 0
 obtain⟨Hi,h0,hH⟩:=Gx h 0 fun i n l=>if 0<R ((i:Int)+1) then pT l+(n.inn.map R).getD 0 0*(n.span-1-n.leftN) else 0
 exact⟨Lo,Hi,l0,h0,hL,hH⟩
theorem Fu: ∀(l:List Int) (a:Int),l.foldl (fun x y=>if y<x then y else x) a=a∨l.foldl (fun x y=>if y<x then y else x) a∈l
 |[],a=> .inl rfl
 |y::r,a=>by
  rw[List.foldl_cons]
  rcases Fu r (if y<a then y else a) with h|h
  ·rw[h]
   split
   ·exact .inr List.mem_cons_self
   ·exact .inl rfl
  ·exact .inr (List.mem_cons_of_mem _ h)
theorem HY: ∀(l:List Int) (a:Int),l.foldl (fun x y=>if y>x then y else x) a=a∨l.foldl (fun x y=>if y>x then y else x) a∈l
 |[],a=> .inl rfl
 |y::r,a=>by
  rw[List.foldl_cons]
  rcases HY r (if y>a then y else a) with h|h
  ·rw[h]
   split
   ·exact .inr List.mem_cons_self
   ·exact .inl rfl
  ·exact .inr (List.mem_cons_of_mem _ h)
theorem Jo {l:List Int} (h:1≤l.length):qM l∈l:=by
 have hd:l.getD 0 0∈l:=by rw[dK (by omega)];exact List.getElem_mem _
 rcases Fu l (l.getD 0 0) with h|h
 ·unfold qM;rw[h];exact hd
 ·exact h
theorem Fv {l:List Int} (h:1≤l.length):pT l∈l:=by
 have hd:l.getD 0 0∈l:=by rw[dK (by omega)];exact List.getElem_mem _
 rcases HY l (l.getD 0 0) with h|h
 ·unfold pT;rw[h];exact hd
 ·exact h
theorem km {n:Nd} {ws:List Int} (h:n.chk ws=0):(0≤n.size∧n.size≤8)∧(0≤n.gap∧n.gap≤4)∧(0≤n.leftN∧n.leftN≤31)∧(0≤n.span-1-n.leftN∧n.span-1-n.leftN≤31)∧(1≤n.span∧n.span≤32)∧(1≤fg n.kind n.step∧fg n.kind n.step≤4):=by
 obtain⟨c1,c2,c3,c4,c5,c6,c7,c8,c9,c10,c11,c12⟩:=iH h
 obtain⟨e1,e2,_⟩:=c9
 obtain⟨s1,s2,_⟩:=c10
 have esp:n.span=if n.kind=12 then n.size else if dD n.kind then(n.size-1)*n.gap+1 else 1:=rfl
 unfold Nd.leftN fg
 rw[esp]
 by_cases h12:n.kind=12
 ·have h4: ¬dD n.kind:=by rintro(h|h|h|h)<;>omega
  have:=s1 (.inr h12)
  have:=e1 h4
  rw[if_pos h12,if_pos h12,if_neg h4]
  omega
 ·rw[if_neg h12,if_neg h12]
  by_cases h4:dD n.kind
  ·have hs:=s1 (.inl h4)
   have h42:=s2 h4
   rw[esp,if_neg h12,if_pos h4] at h42
   rw[if_pos h4,if_pos h4,if_pos h4]
   obtain⟨⟨a1,a2⟩,⟨b1,b2⟩,⟨d1,d2⟩,_⟩:=h42
   have hg:n.gap=1∨n.gap=2∨n.gap=3∨n.gap=4:=by omega
   rcases hg with g|g|g|g<;>rw[g] at d2 ⊢ <;>omega
  ·have h0:=e2 ⟨h4,h12⟩
   have:=e1 h4
   rw[if_neg h4,if_neg h4,if_neg h4]
   omega
theorem yb {a b:Nat} (h:a≤b):(4:Int) ^ a≤4 ^ b:=by
 have:=Nat.pow_le_pow_right (show 0<4 by decide) h
 exact_mod_cast this
theorem Dq {g:Gr} {W R:Int→Int} (r:bJ g W R (posG g.nodes)): ∀(p:Nat) (x:Int),posG g.nodes x=p→0≤x→x≤(g.nodes.length:Int)→0≤R x∧R x≤4 ^ p:=by
 intro p
 induction p using Nat.strongRecOn with
 |ind p ih=>
  intro x hp h0 h1
  refine⟨r.rates h0 h1,?_⟩
  by_cases hx:x=0
  ·subst hx
   rw[r.r0]
   have:=yb (Nat.zero_le p)
   simpa using this
  ·obtain⟨i,rfl⟩: ∃i:Nat,x=(i:Int)+1:=⟨(x-1).toNat,by omega⟩
   obtain⟨n,en⟩: ∃n,g.nodes[i]? =some n:=⟨_,List.getElem?_eq_getElem (by omega)⟩
   have hc:=r.chk i n en
   have hlen:1≤n.inn.length:=by have:=(iH hc).2.1;rw[List.length_map] at this;exact this
   obtain⟨j,t,ej⟩: ∃j t,n.inn=j::t:=by
    cases hn:n.inn with
    |nil=>rw[hn] at hlen;simp at hlen
    |cons j t=>exact⟨j,t,rfl⟩
   have hj:j∈n.inn:=by rw[ej];simp
   have hjr:=(bW r.first).2.2.2.2.2 n (List.mem_of_getElem? en) j hj
   have hpj:=mH r.ordered en hj
   have ihj:=ih (posG g.nodes j) (by omega) j rfl hjr.1 hjr.2
   have hst:=(km hc).2.2.2.2.2
   have hrat:=r.rat i n en
   rw[r.rid i n en]
   have e1:(n.inn.map R).getD 0 0=R j:=by rw[ej];rfl
   have hp4:(4:Int) ^ (posG g.nodes j+1)≤4 ^ p:=yb (by omega)
   rw[Int.pow_succ] at hp4
   have hpos:(1:Int)≤4 ^ p:=by have:=yb (Nat.zero_le p);simpa using this
   have hm:R j*fg n.kind n.step≤4 ^ posG g.nodes j*4:=Int.mul_le_mul ihj.2 hst.2 (by omega) (by omega)
   unfold cd
   rw[e1]
   split
   ·omega
   ·split
    ·omega
    ·split
     ·omega
     ·omega
theorem HZ {g:Gr} {W R Lo Hi:Int→Int} (r:bJ g W R (posG g.nodes)) (c:Reach g.nodes R Lo Hi): ∀(p:Nat) (x:Int),posG g.nodes x=p→0≤x→x≤(g.nodes.length:Int)→(-(p*2 ^ 30)≤Lo x∧Lo x≤p*2 ^ 30)∧(-(p*2 ^ 30)≤Hi x∧Hi x≤p*2 ^ 30):=by
 intro p
 induction p using Nat.strongRecOn with
 |ind p ih=>
  intro x hp h0 h1
  by_cases hx:x=0
  ·subst hx
   rw[c.l0,c.h0];omega
  ·obtain⟨i,rfl⟩: ∃i:Nat,x=(i:Int)+1:=⟨(x-1).toNat,by omega⟩
   obtain⟨n,en⟩: ∃n,g.nodes[i]? =some n:=⟨_,List.getElem?_eq_getElem (by omega)⟩
   have hc:=r.chk i n en
   have hlen:1≤n.inn.length:=by have:=(iH hc).2.1;rw[List.length_map] at this;exact this
   have hz:=km hc
   have hn12:=(bW r.first).2.1
   have hR:0≤(n.inn.map R).getD 0 0∧(n.inn.map R).getD 0 0≤2 ^ 24:=by
    obtain⟨j,t,ej⟩: ∃j t,n.inn=j::t:=by
     cases hn:n.inn with
     |nil=>rw[hn] at hlen;simp at hlen
     |cons j t=>exact⟨j,t,rfl⟩
    have hj:j∈n.inn:=by rw[ej];simp
    have hjr:=(bW r.first).2.2.2.2.2 n (List.mem_of_getElem? en) j hj
    have:=Dq r _ j rfl hjr.1 hjr.2
    have hp12:(4:Int) ^ posG g.nodes j≤4 ^ 12:=yb (by have:=Bh g.nodes j;omega)
    have e1:(n.inn.map R).getD 0 0=R j:=by rw[ej];rfl
    rw[e1];omega
   have m1:0≤(n.inn.map R).getD 0 0*n.leftN∧(n.inn.map R).getD 0 0*n.leftN≤2 ^ 24*31:=⟨Int.mul_nonneg hR.1 hz.2.2.1.1,Int.mul_le_mul hR.2 hz.2.2.1.2 hz.2.2.1.1 (by omega)⟩
   have m2:0≤(n.inn.map R).getD 0 0*(n.span-1-n.leftN)∧(n.inn.map R).getD 0 0*(n.span-1-n.leftN)≤2 ^ 24*31:=⟨Int.mul_nonneg hR.1 hz.2.2.2.1.1,Int.mul_le_mul hR.2 hz.2.2.2.1.2 hz.2.2.2.1.1 (by omega)⟩
   have each: ∀j∈n.inn,(-((p-1:Int)*2 ^ 30)≤Lo j∧Lo j≤(p-1:Int)*2 ^ 30)∧(-((p-1:Int)*2 ^ 30)≤Hi j∧Hi j≤(p-1:Int)*2 ^ 30):=fun j hj=>by
    have hjr:=(bW r.first).2.2.2.2.2 n (List.mem_of_getElem? en) j hj
    have hpj:=mH r.ordered en hj
    have:=ih (posG g.nodes j) (by omega) j rfl hjr.1 hjr.2
    omega
   have h1l:1≤(n.inn.map Lo).length:=by rw[List.length_map];exact hlen
   have h1h:1≤(n.inn.map Hi).length:=by rw[List.length_map];exact hlen
   obtain⟨j1,hj1,e1⟩:=List.mem_map.1 (Jo h1l)
   obtain⟨j2,hj2,e2⟩:=List.mem_map.1 (Fv h1h)
   have b1:=(each j1 hj1).1
   have b2:=(each j2 hj2).2
   rw[c.lo i n en,c.hi i n en,←e1,←e2]
   split<;>omega
theorem Jp {l:List Int} {a:Int} {m:Nat} (ha:a∈l) (h:l.idxOf a<m):a∈l.take m:=by
 have h1:=List.idxOf_lt_length_of_mem ha
 have h2:l[l.idxOf a]=a:=List.getElem_idxOf h1
 rw[List.mem_iff_getElem]
 refine⟨l.idxOf a,by rw[List.length_take];omega,?_⟩
 rw[List.getElem_take];exact h2
theorem zu {ns:List Nd} (ho:(cU ns).length=ns.length) {k:Nat} (hk:k<(cU ns).length) {i:Nat} {n:Nd} (e:(cU ns)[k]=(i:Int)+1) (en:ns[i]? =some n) {j:Int} (hj:j∈n.inn):j∈0::(cU ns).take k:=by
 have hord:bR ns ns.length=0::cU ns:=eC ns ns.length
 have hnd:=qH ns ns.length
 have hm:((i:Int)+1)∈bR ns ns.length:=by rw[hord,←e];exact List.mem_cons_of_mem _ (List.getElem_mem hk)
 have hrk:=pP ns ns.length i n en hm j hj
 have hidx:(bR ns ns.length).idxOf ((i:Int)+1)=k+1:=by
  have hlt:k+1<(bR ns ns.length).length:=by rw[hord];simp only[List.length_cons];omega
  have:(bR ns ns.length)[k+1]=(i:Int)+1:=by
   have h1:(bR ns ns.length)[k+1]? =some ((i:Int)+1):=by rw[hord,List.getElem?_cons_succ,List.getElem?_eq_getElem hk,e]
   rw[List.getElem?_eq_getElem hlt] at h1
   exact Option.some.inj h1
  rw[←this]
  exact hnd.idxOf_getElem _ _
 rw[hidx] at hrk
 have:=Jp hrk.1 hrk.2
 rw[hord,List.take_succ_cons] at this
 exact this
theorem Fw {n:Nat} {V:Int→Int} {S:List Int} {x:Int} (h:V x=0):vals n V (S++[x])=vals n V S:=by
 refine HJ fun y _=> ?_
 by_cases h1:(y:Int)∈S
 ·rw[if_pos (by simp[h1]),if_pos h1]
 ·rw[if_neg h1]
  by_cases h2:(y:Int)=x
  ·rw[if_pos (by simp[h2]),h2,h]
  ·rw[if_neg (by simp[h1,h2])]
def Nm (ns:List Nd) (x:Int):Nat:=match ns[(x-1).toNat]? with|some n=>n.cost|none=>0
theorem Nn {ns:List Nd} {i:Nat} {n:Nd} (h:ns[i]? =some n):Nm ns ((i:Int)+1)=n.cost:=by
 unfold Nm
 rw[show((i:Int)+1-1).toNat=i by omega,h]
end Go.Proofs.YtdhpmegbmjoekaaGreatDoor.G
