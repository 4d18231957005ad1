/- Graphs by numbers, with some nodes more, are right. -/
import Derived.Test.YtdhpmegbmjoekaaGreatDoorCRight
import Derived.Test.YtdhpmegbmjoekaaGreatDoorCMade21
namespace Go.Proofs.YtdhpmegbmjoekaaGreatDoor.G
open Go Go.Sh
set_option linter.unusedVariables false
set_option linter.unusedSimpArgs false
theorem Jq {n:Nd} {rs:List Int} (h: ∀x∈rs,x=rs.getD 0 0):cd n rs=cd n [rs.getD 0 0]:=by
 have e:[rs.getD 0 0].getD 0 0=rs.getD 0 0:=rfl
 have h2: ∀x∈[rs.getD 0 0],x=[rs.getD 0 0].getD 0 0:=fun x hx=>by simp only[List.mem_singleton] at hx;rw[e];exact hx
 rw[e] at h2
 have c1: ¬ ¬(∀x∈rs,x=rs.getD 0 0):=fun hh=>hh h
 have c2: ¬ ¬(∀x∈[rs.getD 0 0],x=rs.getD 0 0):=fun hh=>hh h2
 unfold cd
 rw[e,if_neg c1,if_neg c2]
theorem Gy {n:Nd} {l:List Int} (h:l.length=n.inn.length) (ws:List Int):({n with inn:=l}:Nd).chk ws=n.chk ws:=by
 unfold Nd.chk
 show(if ws.length≠l.length∨ ¬bo 1 16 ws then(1:Int) else _)=_
 rw[h];rfl
theorem Kv {n:Nd} {l:List Int} (h:l.length=n.inn.length) (ws:List Int):({n with inn:=l}:Nd).wid ws=n.wid ws:=by
 unfold Nd.wid
 rw[Gy h]
theorem tJ {g:Gr} (h1:1≤g.nodes.length∧g.nodes.length≤12) (h2:1≤g.width∧g.width≤16) (h3:g.low≤g.high∧ -32768≤g.low∧g.high≤32767) (h4:1≤g.out∧g.out≤(g.nodes.length:Int)) (h5: ∀n∈g.nodes,bo 0 g.nodes.length n.inn):g.first=0:=by
 unfold Gr.first
 rw[if_neg (by omega),if_neg (by omega),if_pos h5]
theorem bJ.map {g g':Gr} {W R:Int→Int} {pos:Int→Nat} (r:bJ g W R pos) (φ:Int→Int) (h0:φ 0=0) (hf:g'.first=0) (hw:g'.width=g.width) (hp: ∀x,0<x→x≤(g'.nodes.length:Int)→0<φ x)
 (hn: ∀(i:Nat) (n':Nd),g'.nodes[i]? =some n'→ ∃(k:Nat) (n:Nd),φ ((i:Int)+1)=(k:Int)+1∧g.nodes[k]? =some n∧n'={n with inn:=n'.inn}∧n'.inn.map φ=n.inn):
 bJ g' (W ∘ φ) (R ∘ φ) (pos ∘ φ):=by
 have hfi:=(bW hf).2.2.2.2.2
 refine⟨hf,fun i n' en j hj h=> ?_,?_,?_,fun i n' en=> ?_,fun i n' en=> ?_,fun i n' en=> ?_,fun i n' en=> ?_⟩
 ·obtain⟨k,n,e1,e2,e3,e4⟩:=hn i n' en
  show pos (φ j)<pos (φ ((i:Int)+1))
  rw[e1]
  have hj2:=hfi n' (List.mem_of_getElem? en) j hj
  exact r.rank k n e2 (φ j) (by rw[←e4];exact List.mem_map_of_mem hj) (hp j h hj2.2)
 ·show W (φ 0)=_;rw[h0,r.w0,hw]
 ·show R (φ 0)=_;rw[h0,r.r0]
 all_goals
  obtain⟨k,n,e1,e2,e3,e4⟩:=hn i n' en
  have hl:n'.inn.length=n.inn.length:=by rw[←e4,List.length_map]
  have mw: ∀V:Int→Int,n'.inn.map (V ∘ φ)=n.inn.map V:=fun V=>by rw[←e4,List.map_map]
 ·rw[mw,e3,Gy hl];exact r.chk k n e2
 ·rw[mw,e3]
  show W (φ ((i:Int)+1))=_
  rw[Kv hl,e1];exact r.wid k n e2
 ·rw[mw,e3];exact r.rat k n e2
 ·rw[mw,e3]
  show R (φ ((i:Int)+1))=_
  rw[e1];exact r.rid k n e2
theorem Ds {xs:List Int} {v x:Int} (h0:0≤x) (h1:x<(xs.length:Int)):at_ (xs++[v]) x=at_ xs x:=by
 unfold at_
 rw[List.getD_eq_getElem?_getD,List.getD_eq_getElem?_getD,List.getElem?_append_left (by omega)]
theorem Kw (xs:List Int) (v:Int) {x:Int} (h:x=(xs.length:Int)):at_ (xs++[v]) x=v:=by
 subst h
 unfold at_
 rw[List.getD_eq_getElem?_getD,Int.toNat_natCast,List.getElem?_concat_length];rfl
theorem lS.each {w0:Int} (h0:dw w0 1 16) {ns:List Nd} {ws rs:List Int} (b:lS w0 ns ws rs):at_ ws 0=w0∧at_ rs 0=1∧ ∀(i:Nat) (n:Nd),ns[i]? =some n→(∀j∈n.inn,0≤j∧j≤(i:Int))∧n.chk (n.inn.map (at_ ws))=0∧at_ ws ((i:Int)+1)=n.wid (n.inn.map (at_ ws))∧0≤cd n (n.inn.map (at_ rs))∧at_ rs ((i:Int)+1)=cd n (n.inn.map (at_ rs)):=by
 induction b with
 |nil=>exact⟨rfl,rfl,fun i n h=>by simp at h⟩
 |snoc ns ws rs n w' r' b st ih=>
  obtain⟨i0,i1,ih⟩:=ih
  have hlen:=b.len
  have hrange:=b.range h0
  have same: ∀(xs:List Int) (v:Int) (l:List Int),(∀j∈l,0≤j∧j<(xs.length:Int))→l.map (at_ (xs++[v]))=l.map (at_ xs):=fun xs v l hl=>List.map_congr_left fun j hj=>Ds (hl j hj).1 (hl j hj).2
  refine⟨by rw[Ds (by omega) (by omega)];exact i0,by rw[Ds (by omega) (by omega)];exact i1,fun i m em=> ?_⟩
  by_cases hi:i<ns.length
  ·rw[List.getElem?_append_left hi] at em
   obtain⟨q1,q2,q3,q4,q5⟩:=ih i m em
   have e1:=same ws w' m.inn fun j hj=>by have:=q1 j hj;omega
   have e2:=same rs r' m.inn fun j hj=>by have:=q1 j hj;omega
   rw[e1,e2,Ds (by omega) (by omega),Ds (by omega) (by omega)]
   exact⟨q1,q2,q3,q4,q5⟩
  ·have hie:i=ns.length:=by
    have:=(List.getElem?_eq_some_iff.1 em).1
    simp at this;omega
   subst hie
   rw[List.getElem?_concat_length] at em
   cases em
   obtain⟨ins,h12,hi2,hr,hg,rfl,rfl⟩:=st
   have hws:=Dy hi2 hrange.1
   have hgc:=Dx hg (by simp) h12 hws
   have hin0:ins.getD 0 0∈ins:=by rw[dK (by omega)];exact List.getElem_mem _
   have hρ:=hrange.2 _ (Js (xs:=rs) (hi2 _ hin0).1 (by have:=hi2 _ hin0;omega))
   have hgr:=Fy hg hρ.1
   have hinn:n.inn=ins.take n.inn.length:=by
    rcases yc hg with h|h
    ·rw[h,List.take_length]
    ·rw[h,List.length_take]
     congr 1
     omega
   have htake:(ins.map (at_ ws)).take n.inn.length=n.inn.map (at_ ws):=by
    conv=>rhs;rw[hinn]
    rw[List.map_take]
   have hmem: ∀j∈n.inn,0≤j∧j<(ws.length:Int):=fun j hj=>hi2 j (qN hg hj)
   rw[same ws _ n.inn hmem,same rs _ n.inn fun j hj=>by have:=hmem j hj;omega,Kw ws _ (by omega),Kw rs _ (by omega)]
   rw[htake] at hgc ⊢
   have hne:1≤n.inn.length:=by
    rcases yc hg with h|h
    ·rw[h];omega
    ·rw[h,List.length_take];omega
   have hlen2:0<(n.inn.map (at_ rs)).length:=by rw[List.length_map];omega
   have hrt: ∀x∈n.inn.map (at_ rs),x=at_ rs (ins.getD 0 0):=fun x hx=>by
    obtain⟨j,hj,rfl⟩:=List.mem_map.1 hx
    exact hr j (qN hg hj)
   have hd:(n.inn.map (at_ rs)).getD 0 0=at_ rs (ins.getD 0 0):=by
    rw[dK hlen2]
    exact hrt _ (List.getElem_mem _)
   have erat:cd n (n.inn.map (at_ rs))=cd n [at_ rs (ins.getD 0 0)]:=by
    rw[←hd]
    exact Jq fun x hx=>by rw[hrt x hx,hd]
   rw[erat]
   exact⟨fun j hj=>by have:=hmem j hj;omega,hgc.1,rfl,hgr.1,rfl⟩
theorem lS.right {w0 lo hi out:Int} (h0:dw w0 1 16) {ns:List Nd} {ws rs:List Int} (b:lS w0 ns ws rs) (hf:(⟨w0,lo,hi,ns,out⟩:Gr).first=0):bJ ⟨w0,lo,hi,ns,out⟩ (at_ ws) (at_ rs) Int.toNat:=by
 obtain⟨e0,e1,he⟩:=b.each h0
 exact⟨hf,fun i n en j hj h=>by have:=(he i n en).1 j hj;omega,e0,e1,fun i n en=>(he i n en).2.1,fun i n en=>(he i n en).2.2.1,fun i n en=>(he i n en).2.2.2.1,fun i n en=>(he i n en).2.2.2.2⟩
theorem bJ.turned {g:Gr} {W R:Int→Int} {pos:Int→Nat} (r:bJ g W R pos):bJ g.turned (W ∘ gF g.nodes.length) (R ∘ gF g.nodes.length) (pos ∘ gF g.nodes.length):=by
 obtain⟨f1,f2,f3,f4,f5,f6⟩:=bW r.first
 have hl:g.turned.nodes.length=g.nodes.length:=by simp[Gr.turned]
 have hget: ∀(i:Nat) (n':Nd),g.turned.nodes[i]? =some n'→i<g.nodes.length∧ ∃n,g.nodes[g.nodes.length-1-i]? =some n∧n'=Kz g.nodes.length n:=fun i n' h=>by
  have hi:i<g.nodes.length:=by have:=(List.getElem?_eq_some_iff.1 h).1;omega
  have h:(g.nodes.map (Kz g.nodes.length)).reverse[i]? =some n':=h
  rw[List.getElem?_reverse (by rw[List.length_map];exact hi),List.length_map,List.getElem?_map,Option.map_eq_some_iff] at h
  obtain⟨n,e1,e2⟩:=h
  exact⟨hi,n,e1,e2.symm⟩
 refine r.map (gF g.nodes.length) (by simp[gF]) ?_ rfl (fun x h1 h2=> ?_) (fun i n' en=> ?_)
 ·refine tJ ?_ f3 f4 ?_ fun n' hn'=> ?_
  ·rw[hl];exact⟨f1,f2⟩
  ·rw[hl];show 1≤(g.nodes.length:Int)+1-g.out∧(g.nodes.length:Int)+1-g.out≤_;omega
  ·obtain⟨i,en⟩:=List.mem_iff_getElem?.1 hn'
   obtain⟨_,n,e1,rfl⟩:=hget i n' en
   rw[hl]
   intro x hx
   obtain⟨y,hy,rfl⟩:=List.mem_map.1 hx
   have:=f6 n (List.mem_of_getElem? e1) y hy
   unfold gF;split<;>omega
 ·rw[hl] at h2;unfold gF;rw[if_pos (by omega)];omega
 ·obtain⟨hi,n,e1,rfl⟩:=hget i n' en
  refine⟨g.nodes.length-1-i,n,by unfold gF;rw[if_pos (by omega)];omega,e1,rfl,?_⟩
  show(n.inn.map (gF g.nodes.length)).map (gF g.nodes.length)=n.inn
  rw[List.map_map]
  conv=>rhs;rw[←List.map_id n.inn]
  refine List.map_congr_left fun y hy=> ?_
  have:=f6 n (List.mem_of_getElem? e1) y hy
  show gF _ (gF _ y)=y
  by_cases h0:y>0
  ·unfold gF;rw[if_pos h0,if_pos (by omega)];omega
  ·unfold gF;rw[if_neg h0,if_neg h0]
theorem Dz.right {g:Gr} (m:Dz g): ∃W R pos,bJ g W R pos:=by
 obtain⟨ns,ws,rs,out,hw,hlo,hhi,h1,h2,b,ho,hg⟩:=m
 have r:=b.right (lo:=g.low) (hi:=g.high) (out:=out) (show dw g.width 1 16 from⟨hw.1,by have:=hw.2;omega⟩)
  (tJ (g:=⟨g.width,g.low,g.high,ns,out⟩) ⟨h1,by show ns.length≤12;omega⟩ ⟨hw.1,by show g.width≤16;have:=hw.2;omega⟩ ⟨by show g.low≤g.high;have:=hlo.2;have:=hhi.1;omega,by show-32768≤g.low;have:=hlo.1;omega,by show g.high≤32767;have:=hhi.2;omega⟩ ho fun n hn x hx=>b.inn n hn x hx)
 rcases hg with e|e
 ·rw[e];exact⟨_,_,_,r⟩
 ·rw[e];exact⟨_,_,_,r.turned⟩
theorem Kx (f:Nat→Nat): ∀(l:List Nat) (x:Nat),x∈l→f x≤(l.map f).sum
 |[],x,h=>by simp at h
 |y::r,x,h=>by
  rw[List.map_cons,List.sum_cons]
  rcases List.mem_cons.1 h with rfl|h
  ·omega
  ·have:=Kx f r x h;omega
theorem bJ.snoc {g:Gr} {W R:Int→Int} {pos:Int→Nat} (r:bJ g W R pos) {n:Nd} {o:Int} (hl:g.nodes.length<12) (hin: ∀j∈n.inn,0≤j∧j≤(g.nodes.length:Int)) (ho:1≤o∧o≤(g.nodes.length:Int)+1) (hc:n.chk (n.inn.map W)=0) (hr:0≤cd n (n.inn.map R)):
 ∃W' R' pos',bJ {g with nodes:=g.nodes++[n],out:=o} W' R' pos':=by
 obtain⟨f1,f2,f3,f4,f5,f6⟩:=bW r.first
 obtain⟨B,eB⟩: ∃B,((List.range (g.nodes.length+1)).map fun x:Nat=>pos (x:Int)).sum=B:=⟨_,rfl⟩
 have hB: ∀j:Int,0≤j→j≤(g.nodes.length:Int)→pos j≤B:=fun j h0 h1=>by
  have:=Kx (fun x:Nat=>pos (x:Int)) (List.range (g.nodes.length+1)) j.toNat (List.mem_range.2 (by omega))
  rw[eB] at this
  rw[show((j.toNat:Nat):Int)=j by omega] at this
  exact this
 have old: ∀(V:Int→Int) (v:Int) (l:List Int),(∀j∈l,0≤j∧j≤(g.nodes.length:Int))→l.map (fun x=>if x=(g.nodes.length:Int)+1 then v else V x)=l.map V:=fun V v l h=>List.map_congr_left fun j hj=>if_neg (by have:=h j hj;omega)
 have hget: ∀(i:Nat) (m:Nd),(g.nodes++[n])[i]? =some m→(i<g.nodes.length∧g.nodes[i]? =some m)∨(i=g.nodes.length∧m=n):=fun i m h=>by
  by_cases hi:i<g.nodes.length
  ·rw[List.getElem?_append_left hi] at h;exact .inl ⟨hi,h⟩
  ·have hie:i=g.nodes.length:=by
    have:=(List.getElem?_eq_some_iff.1 h).1
    simp at this;omega
   subst hie
   rw[List.getElem?_concat_length] at h
   cases h;exact .inr ⟨rfl,rfl⟩
 have hinn: ∀(i:Nat) (m:Nd),g.nodes[i]? =some m→ ∀j∈m.inn,0≤j∧j≤(g.nodes.length:Int):=fun i m em j hj=>f6 m (List.mem_of_getElem? em) j hj
 refine⟨fun x=>if x=(g.nodes.length:Int)+1 then n.wid (n.inn.map W) else W x,fun x=>if x=(g.nodes.length:Int)+1 then cd n (n.inn.map R) else R x,fun x=>if x=(g.nodes.length:Int)+1 then B+1 else pos x,?_,?_,?_,?_,?_,?_,?_,?_⟩
 ·refine tJ ?_ f3 f4 ?_ fun m hm x hx=> ?_
  ·simp only[List.length_append,List.length_cons,List.length_nil];omega
  ·simp only[List.length_append,List.length_cons,List.length_nil];omega
  ·simp only[List.length_append,List.length_cons,List.length_nil]
   rcases List.mem_append.1 hm with hm|hm
   ·have:=f6 m hm x hx;omega
   ·simp only[List.mem_singleton] at hm;subst hm
    have:=hin x hx;omega
 ·intro i m em j hj h0
  try dsimp only
  rcases hget i m em with ⟨hi,em⟩|⟨rfl,rfl⟩
  ·have:=hinn i m em j hj
   rw[if_neg (by omega),if_neg (by omega)]
   exact r.rank i m em j hj h0
  ·have:=hin j hj
   rw[if_neg (by omega),if_pos rfl]
   have:=hB j (by omega) (by omega)
   omega
 ·try dsimp only
  rw[if_neg (by omega)];exact r.w0
 ·try dsimp only
  rw[if_neg (by omega)];exact r.r0
 all_goals
  intro i m em
  try dsimp only
  rcases hget i m em with ⟨hi,em⟩|⟨rfl,rfl⟩
 ·rw[old W _ _ (hinn i m em)];exact r.chk i m em
 ·rw[old W _ _ hin];exact hc
 ·rw[old W _ _ (hinn i m em),if_neg (by omega)];exact r.wid i m em
 ·rw[old W _ _ hin,if_pos rfl]
 ·rw[old R _ _ (hinn i m em)];exact r.rat i m em
 ·rw[old R _ _ hin];exact hr
 ·rw[old R _ _ (hinn i m em),if_neg (by omega)];exact r.rid i m em
 ·rw[old R _ _ hin,if_pos rfl]
theorem LE {n:Nd} {ws:List Int} (h:n.chk ws=0):dw (n.wid ws) 1 16:=by
 obtain⟨c1,c2,c3,c4,c5,c6,c7,c8,c9,c10,c11,c12⟩:=iH h
 unfold Nd.wid
 rw[if_neg (fun hh=>hh h)]
 have hg:ws.getD 0 0∈ws:=by rw[dK (by omega)];exact List.getElem_mem _
 split
 ·rename_i hw;exact c10.2.2.1 hw
 ·split
  ·decide
  ·split
   ·exact c1 _ hg
   ·rename_i h8
    refine⟨?_,c12 (by omega)⟩
    cases ws with
    |nil=>simp at c2
    |cons w r=>
     have h1:=c1 w List.mem_cons_self
     have pos: ∀l:List Int,bo 1 16 l→0≤gN l:=by
      intro l
      induction l with
      |nil=>intro _;exact Int.le_refl _
      |cons a t ih=>
       intro hl
       have h2:=hl a List.mem_cons_self
       have:=ih fun x hx=>hl x (List.mem_cons_of_mem _ hx)
       show 0≤a+gN t
       omega
     have h2:=pos r fun x hx=>c1 x (List.mem_cons_of_mem _ hx)
     show 1≤w+gN r
     omega
theorem bJ.wide {g:Gr} {W R:Int→Int} {pos:Int→Nat} (r:bJ g W R pos) {x:Int} (h0:0≤x) (h1:x≤(g.nodes.length:Int)):dw (W x) 1 16:=by
 by_cases hx:x=0
 ·subst hx;rw[r.w0];exact(bW r.first).2.2.1
 ·obtain⟨i,rfl⟩: ∃i:Nat,x=(i:Int)+1:=⟨(x-1).toNat,by omega⟩
  obtain⟨n,en⟩: ∃n,g.nodes[i]? =some n:=⟨_,List.getElem?_eq_getElem (by omega)⟩
  rw[r.wid i n en]
  exact LE (r.chk i n en)
theorem bJ.rates {g:Gr} {W R:Int→Int} {pos:Int→Nat} (r:bJ g W R pos) {x:Int} (h0:0≤x) (h1:x≤(g.nodes.length:Int)):0≤R x:=by
 by_cases hx:x=0
 ·subst hx;rw[r.r0];decide
 ·obtain⟨i,rfl⟩: ∃i:Nat,x=(i:Int)+1:=⟨(x-1).toNat,by omega⟩
  obtain⟨n,en⟩: ∃n,g.nodes[i]? =some n:=⟨_,List.getElem?_eq_getElem (by omega)⟩
  rw[r.rid i n en]
  exact r.rat i n en
theorem Dt {n:Nd} {w:Int} (hk:n.kind=9∨n.kind=10∨n.kind=11) (hi:n.inn.length=1) (hp:n.post=0) (he:n.else0) (hs:n.sized w) (hw:dw w 1 16):n.chk [w]=0:=by
 have f:bo 1 16 [w]:=fun x hx=>by simp only[List.mem_singleton] at hx;subst hx;exact hw
 exact gZ hi.symm f ⟨by omega,by omega⟩ (fun h=>absurd h (by unfold dv;omega)) (fun _=>rfl) hp he hs (fun h=>by omega) (fun h=>by omega)
theorem O1 {n:Nd} {o w:Int} (hn:n=tK o∨n=tL o∨n=Du o) (hw:dw w 1 16):n.chk [w]=0:=by
 rcases hn with rfl|rfl|rfl
 ·exact Dt (.inl rfl) rfl rfl (by show(tK 0).else0;decide) (by
   show(tK 0).sized w
   exact⟨fun h=>absurd h (by decide),fun h=>absurd h (by decide),fun h=>absurd h (by decide),fun h=>absurd h (by decide),by decide⟩) hw
 ·exact Dt (.inr (.inl rfl)) rfl rfl (by show(tL 0).else0;decide) (by
   show(tL 0).sized w
   exact⟨fun h=>absurd h (by decide),fun h=>absurd h (by decide),fun h=>absurd h (by decide),fun h=>absurd h (by decide),by decide⟩) hw
 ·exact Dt (.inr (.inr rfl)) rfl rfl (by show(Du 0).else0;decide) (by
   show(Du 0).sized w
   exact⟨fun h=>absurd h (by decide),fun h=>absurd h (by decide),fun h=>absurd h (by decide),fun h=>absurd h (by decide),by decide⟩) hw
theorem Nr {n:Nd} {o ρ:Int} (hn:n=tK o∨n=tL o∨n=Du o) (h:0≤ρ):0≤cd n [ρ]:=by
 have e:cd n [ρ]=ρ:=by
  rcases hn with rfl|rfl|rfl
  ·unfold cd
   rw[if_neg (by simp),if_neg (fun h=>absurd h.2 (by show ¬(iM 9∨(9:Int)=5);decide)),if_neg (by show ¬((9:Int)=5);decide)]
   show ρ*1=ρ
   omega
  ·unfold cd
   rw[if_neg (by simp),if_neg (fun h=>absurd h.2 (by show ¬(iM 10∨(10:Int)=5);decide)),if_neg (by show ¬((10:Int)=5);decide)]
   show ρ*1=ρ
   omega
  ·unfold cd
   rw[if_neg (by simp),if_neg (fun h=>absurd h.2 (by show ¬(iM 11∨(11:Int)=5);decide)),if_neg (by show ¬((11:Int)=5);decide)]
   show ρ*1=ρ
   omega
 rw[e];exact h
theorem bJ.one {g:Gr} {W R:Int→Int} {pos:Int→Nat} (r:bJ g W R pos) {n:Nd} (hn:n=tK g.out∨n=tL g.out∨n=Du g.out) (hl:g.nodes.length<12) {o:Int} (ho:1≤o∧o≤(g.nodes.length:Int)+1):
 ∃W' R' pos',bJ {g with nodes:=g.nodes++[n],out:=o} W' R' pos':=by
 have f5:=(bW r.first).2.2.2.2.1
 have ei:n.inn=[g.out]:=by rcases hn with rfl|rfl|rfl<;>rfl
 refine r.snoc hl (fun j hj=> ?_) ho ?_ ?_
 ·rw[ei] at hj;simp only[List.mem_singleton] at hj;omega
 ·rw[ei];exact O1 hn (r.wide (by omega) f5.2)
 ·rw[ei];exact Nr hn (r.rates (by omega) f5.2)
theorem Jr.right {b:Gr} (hb: ∃W R pos,bJ b W R pos) (hl:b.nodes.length≤6) {k:Nat} {g:Gr} (m:Jr b k g):(∃W R pos,bJ g W R pos)∧g.nodes.length=b.nodes.length+k∨6<k:=by
 induction m with
 |base=>exact .inl ⟨hb,rfl⟩
 | @step k g n m hn ih=>
   rcases ih with ⟨⟨W,R,pos,r⟩,hlen⟩|h
   ·by_cases hk:6<k+1
    ·exact .inr hk
    ·left
     refine⟨r.one (hn.imp id .inl) (by omega) (by omega),?_⟩
     show(g.nodes++[n]).length=_
     rw[List.length_append,hlen];rfl
   ·exact .inr (by omega)
theorem Bj.right {g:Gr} (m:Bj g): ∃W R pos,bJ g W R pos:=by
 obtain⟨b,k,g',mb,hk,mm,hg⟩:=m
 rcases mm.right mb.right mb.len.2 with ⟨⟨W,R,pos,r⟩,hlen⟩|h
 ·rcases hg with rfl|rfl
  ·exact⟨_,_,_,r⟩
  ·have f5:=(bW r.first).2.2.2.2.1
   have:=mb.len.2
   exact r.one (.inr (.inr rfl)) (by omega) (by omega)
 ·omega
end Go.Proofs.YtdhpmegbmjoekaaGreatDoor.G
