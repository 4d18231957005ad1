/- What a step of the fusing keeps: the graph is right, by the same widths, rates, reaches. -/
import Derived.Test.YtdhpmegbmjoekaaGreatDoorCMadeR
import Derived.Test.YtdhpmegbmjoekaaGreatDoorCLivP
namespace Go.Proofs.YtdhpmegbmjoekaaGreatDoor.G
open Go Go.Sh
set_option linter.unusedVariables false
set_option linter.unusedSimpArgs false
theorem chk_mk {n:Nd} {ws:List Int} (h1:ws.length=n.inn.length) (h2:fitR 1 16 ws) (h3:inR n.kind 1 12) (h4:many n.kind→2≤ws.length∧ws.length≤4) (h5: ¬many n.kind→ws.length=1) (h6:inR n.post 0 3) (h7:n.post≠0→wei n.kind) (h8:n.else0) (h9:n.sized (ws.getD 0 0))
 (h10:n.kind=7→ ∀x∈ws,x=ws.getD 0 0) (h11:n.kind=8→sumI ws≤16):n.chk ws=0:=by
 unfold Nd.chk
 rw[if_neg (by rintro(h|h);exact h h1;exact h h2),if_neg,if_neg (fun h=>h h9),if_neg (fun h=>h.2 (h10 h.1)),if_neg (fun h=>by have:=h11 h.1;omega)]
 rintro(h|h|h|h|h|h)
 ·exact h h3
 ·exact h.2 (h4 h.1)
 ·exact h.2 (h5 h.1)
 ·exact h h6
 ·exact h.2 (h7 h.1)
 ·exact h h8
theorem a11:andI .i64 1 1=1:=by decide+kernel
theorem a01:andI .i64 0 1=0:=by decide+kernel
theorem a02:andI .i64 0 2=0:=by decide+kernel
theorem a22:andI .i64 2 2=2:=by decide+kernel
theorem a32:andI .i64 3 2=2:=by decide+kernel
theorem a31:andI .i64 3 1=1:=by decide+kernel
theorem o02:orI .i64 0 2=2:=by decide+kernel
theorem o12:orI .i64 1 2=3:=by decide+kernel
theorem take_chk {a u x:Nd} {ws vs:List Int} (ht:tkN a u=some x) (hw:wei a.kind) (ha:a.chk ws=0) (hu:u.chk vs=0):x.chk ws=0:=by
 obtain⟨c1,c2,c3,c4,c5,c6,c7,c8,c9,c10,c11,c12⟩:=chk_ok ha
 obtain⟨d1,d2,d3,d4,d5,d6,d7,d8,d9,d10,d11,d12⟩:=chk_ok hu
 have nm: ¬many a.kind:=by rintro(h|h)<;>rcases hw with h2|h2|h2<;>omega
 have k9:a.kind≠9∧a.kind≠10:=by rcases hw with h2|h2|h2<;>omega
 unfold tkN at ht
 obtain⟨e1,e2,e3,e4,e5,e6⟩:=c9
 obtain⟨s1,s2,s3,s4,s5,s6,s7,s8,s9⟩:=c10
 obtain⟨_,_,_,_,t5,t6,t7,t8,t9⟩:=d10
 split at ht
 ·rename_i hc
  cases ht
  refine chk_mk c3 c1 c4 (fun h=>absurd h nm) c7 (by show inR 1 0 3;decide) (fun _=>hw) ⟨e1,e2,e3,e4,.inl (.inr (by show andI .i64 1 1=1;exact a11)),.inr ?_⟩ ⟨s1,s2,s3,s4,t5,t6,s7,s8,s9⟩ c11 c12
  rcases e6 with h|h
  ·exfalso
   rcases h with h|h
   ·exact k9.1 h
   ·rw[hc.2] at h;rw[a02] at h;exact absurd h (by decide)
  ·exact h
 ·split at ht
  ·rename_i hc
   cases ht
   have hp:a.post=0∨a.post=1:=by
    have:a.post=0∨a.post=1∨a.post=2∨a.post=3:=by have:=c5;omega
    rcases this with h|h|h|h
    ·exact .inl h
    ·exact .inr h
    ·exfalso;have:=hc.2;rw[h] at this;first|(rw[a22] at this;exact absurd this (by decide))|(rw[a32] at this;exact absurd this (by decide))
    ·exfalso;have:=hc.2;rw[h] at this;first|(rw[a22] at this;exact absurd this (by decide))|(rw[a32] at this;exact absurd this (by decide))
   refine chk_mk c3 c1 c4 (fun h=>absurd h nm) c7 ?_ (fun _=>hw) ⟨e1,e2,e3,e4,?_,.inl (.inr ?_)⟩ ⟨s1,s2,s3,s4,s5,s6,t7,t8,t9⟩ c11 c12
   ·show inR (orI .i64 a.post 2) 0 3
    rcases hp with h|h
    ·rw[h,o02];decide
    ·rw[h,o12];decide
   ·show scl a.kind (orI .i64 a.post 2)∨(a.mult=0∧a.shift=0)
    rcases hp with h|h
    ·right
     rcases e5 with h2|h2
     ·exfalso
      rcases h2 with h2|h2
      ·exact k9.2 h2
      ·rw[h,a01] at h2;exact absurd h2 (by decide)
     ·exact h2
    ·left;right;rw[h,o12];exact a31
   ·show andI .i64 (orI .i64 a.post 2) 2=2
    rcases hp with h|h
    ·rw[h,o02];exact a22
    ·rw[h,o12];exact a32
  ·cases ht
theorem take_wid {a u x:Nd} {ws vs:List Int} (ht:tkN a u=some x) (hw:wei a.kind) (ha:a.chk ws=0) (hu:u.chk vs=0):x.wid ws=a.wid ws:=by
 have h:=take_chk ht hw ha hu
 have hk:=tkN_rows ht
 have hwd:x.width=a.width:=by
  unfold tkN at ht
  split at ht
  ·cases ht;rfl
  ·split at ht
   ·cases ht;rfl
   ·cases ht
 unfold Nd.wid
 rw[if_neg (show ¬x.chk ws≠0 from fun hh=>hh h),if_neg (show ¬a.chk ws≠0 from fun hh=>hh ha),hk.2.1,hwd]
theorem take_step {a u x:Nd} (ht:tkN a u=some x):x.step=a.step∧x.size=a.size∧x.gap=a.gap∧x.left=a.left:=by
 unfold tkN at ht
 split at ht
 ·cases ht;exact⟨rfl,rfl,rfl,rfl⟩
 ·split at ht
  ·cases ht;exact⟨rfl,rfl,rfl,rfl⟩
  ·cases ht
theorem take_rate {a u x:Nd} (ht:tkN a u=some x) (rs:List Int):rateN x rs=rateN a rs:=by
 unfold rateN
 rw[(tkN_rows ht).2.1,(take_step ht).1]
def Nd.leftN (n:Nd):Int:=if n.kind=12 then n.size-1 else if four n.kind then n.left else 0
def leastL (l:List Int):Int:=l.foldl (fun x y=>if y<x then y else x) (l.getD 0 0)
def mostL (l:List Int):Int:=l.foldl (fun x y=>if y>x then y else x) (l.getD 0 0)
structure Reach (ns:List Nd) (R Lo Hi:Int→Int):Prop where
 l0:Lo 0=0
 h0:Hi 0=0
 lo: ∀(i:Nat) (n:Nd),ns[i]? =some n→Lo ((i:Int)+1)=if 0<R ((i:Int)+1) then leastL (n.inn.map Lo)-(n.inn.map R).getD 0 0*n.leftN else 0
 hi: ∀(i:Nat) (n:Nd),ns[i]? =some n→Hi ((i:Int)+1)=if 0<R ((i:Int)+1) then mostL (n.inn.map Hi)+(n.inn.map R).getD 0 0*(n.span-1-n.leftN) else 0
section
variable {g:Gr} {W R Lo Hi:Int→Int} {pos pos':Int→Nat} {ns:List Nd} {out:Int} {M:LM} {i w:Nat} {na nu a':Nd} {st:FSt}
theorem Stp.same (r:Right {g with nodes:=ns,out:=out} W R pos) (I:FInv ns out M pos') (s:Stp ns out M i w na nu a' st):W ((w:Int)+1)=W ((i:Int)+1)∧R ((w:Int)+1)=R ((i:Int)+1):=by
 have hinn:=s.inn I
 have hk:nu.kind=10∨nu.kind=9:=(tkN_rows s.tk).2.2.2.2
 have hc:=r.chk w nu s.eu
 have hw:=r.wid w nu s.eu
 have hr:=r.rat w nu s.eu
 have hri:=r.rid w nu s.eu
 rw[hinn] at hc hw hr hri
 have nwide: ¬wide nu.kind:=by rintro(h|h)<;>omega
 refine⟨?_,?_⟩
 ·rw[hw]
  unfold Nd.wid
  rw[if_neg (fun h=>h hc),if_neg nwide,if_neg (by omega),if_pos (by omega)];rfl
 ·have e:rateN nu [R ((i:Int)+1)]=R ((i:Int)+1):=by
   have nwin: ¬(wins nu.kind∨nu.kind=5):=by
    rintro((h|h)|h)
    ·rcases h with h|h|h|h<;>omega
    ·omega
    ·omega
   have n4: ¬four nu.kind:=fun h=>nwin (.inl (.inl h))
   have all: ¬ ¬ ∀x∈[R ((i:Int)+1)],x=[R ((i:Int)+1)].getD 0 0:=fun h=>h fun x hx=>by simpa using hx
   unfold rateN stepN
   rw[if_neg all,if_neg (fun h=>nwin h.2),if_neg (fun h=>nwin (.inr h)),if_neg n4]
   show R ((i:Int)+1)*1=_
   omega
  rw[hri];exact e
theorem Stp.node (I:FInv ns out M pos') (s:Stp ns out M i w na nu a' st) {q:Nat} {n':Nd} (en:st.1[q]? =Option.some n'):
 ∃n m,ns[q]? =Option.some n∧(m=if q=i then a' else n)∧m.inn=n.inn∧n'={m with inn:=n'.inn}∧n'.inn.length=n.inn.length∧(∀V:Int→Int,V ((w:Int)+1)=V ((i:Int)+1)→n'.inn.map V=n.inn.map V)∧
  ∀j∈n'.inn,j∈n.inn∨(j=(i:Int)+1∧((w:Int)+1)∈n.inn):=by
 rw[s.get] at en
 obtain⟨n,en0,e⟩:=Option.map_eq_some_iff.1 en
 dsimp only at e
 have hm:(if q=i then a' else n).inn=n.inn:=by
  split
  ·rename_i h;subst h
   have:=s.ea;rw[en0] at this;cases this
   exact(tkN_rows s.tk).1
  ·rfl
 refine⟨n,_,en0,rfl,hm,?_⟩
 split at e
 ·subst e
  exact⟨rfl,by rw[hm],fun V _=>by rw[hm],fun j hj=> .inl (by rw[hm] at hj;exact hj)⟩
 ·subst e
  refine⟨rfl,?_,fun V hV=> ?_,fun j hj=> ?_⟩
  ·show(List.map _ _).length=_
   rw[List.length_map,hm]
  ·show(List.map (rep1 ((w:Int)+1) ((i:Int)+1)) (if q=i then a' else n).inn).map V=_
   rw[hm,List.map_map]
   refine List.map_congr_left fun j _=> ?_
   show V (rep1 _ _ j)=V j
   by_cases h:j=(w:Int)+1
   ·rw[h,rep1_eq,hV]
   ·rw[rep1_ne h]
  ·have hj:j∈List.map (rep1 ((w:Int)+1) ((i:Int)+1)) (if q=i then a' else n).inn:=hj
   rw[hm] at hj
   obtain⟨k,hk,rfl⟩:=List.mem_map.1 hj
   by_cases h:k=(w:Int)+1
   ·right
    rw[h,rep1_eq]
    exact⟨rfl,h▸hk⟩
   ·left;rw[rep1_ne h];exact hk
theorem Stp.right (r:Right {g with nodes:=ns,out:=out} W R pos) (I:FInv ns out M pos') (s:Stp ns out M i w na nu a' st):Right {g with nodes:=st.1,out:=st.2.1} W R pos:=by
 obtain⟨hW,hR⟩:=s.same r I
 have inv:=s.inv I
 have hlen:=s.len
 obtain⟨f1,f2,f3,f4,f5,f6⟩:=first_ok r.first
 have hinn:=s.inn I
 have hrk:pos ((i:Int)+1)<pos ((w:Int)+1):=r.rank w nu s.eu _ (by rw[hinn];simp) (by omega)
 refine⟨first_mk ?_ f3 f4 ⟨inv.out1,inv.outn⟩ fun n hn x hx=> ?_,fun q n' en j hj h0=> ?_,r.w0,r.r0,fun q n' en=> ?_,fun q n' en=> ?_,fun q n' en=> ?_,fun q n' en=> ?_⟩
 ·show 1≤st.1.length∧st.1.length≤12
  rw[hlen];exact⟨f1,f2⟩
 ·exact inv.ranked.Inn n hn x hx
 ·obtain⟨n,m,en0,em,hm,e,hl,hV,hmem⟩:=s.node I en
  rcases hmem j hj with h|⟨rfl,h⟩
  ·exact r.rank q n en0 j h h0
  ·have:=r.rank q n en0 _ h (by omega)
   omega
 all_goals
  obtain⟨n,m,en0,em,hm,e,hl,hV,hmem⟩:=s.node I en
  have hl2:n'.inn.length=m.inn.length:=by rw[hl,hm]
  have hchk: ∀ws,n.chk ws=0→m.chk ws=0:=fun ws h=>by
   rw[em]
   split
   ·rename_i hq;subst hq
    have:=s.ea;rw[en0] at this;cases this
    exact take_chk s.tk s.we h (r.chk w nu s.eu)
   ·exact h
  have hwid: ∀ws,n.chk ws=0→m.wid ws=n.wid ws:=fun ws h=>by
   rw[em]
   split
   ·rename_i hq;subst hq
    have:=s.ea;rw[en0] at this;cases this
    exact take_wid s.tk s.we h (r.chk w nu s.eu)
   ·rfl
  have hrat: ∀rs,rateN n' rs=rateN n rs:=fun rs=>by
   rw[e]
   show rateN m rs=_
   rw[em]
   split
   ·rename_i hq;subst hq
    have:=s.ea;rw[en0] at this;cases this
    exact take_rate s.tk rs
   ·rfl
 ·rw[hV W hW,e,chk_inn hl2]
  exact hchk _ (r.chk q n en0)
 ·rw[hV W hW,e,wid_inn hl2,hwid _ (r.chk q n en0)]
  exact r.wid q n en0
 ·rw[hV R hR,hrat];exact r.rat q n en0
 ·rw[hV R hR,hrat];exact r.rid q n en0
theorem Stp.reach (r:Right {g with nodes:=ns,out:=out} W R pos) (I:FInv ns out M pos') (c:Reach ns R Lo Hi) (s:Stp ns out M i w na nu a' st):Reach st.1 R Lo Hi∧Lo ((w:Int)+1)=Lo ((i:Int)+1)∧Hi ((w:Int)+1)=Hi ((i:Int)+1):=by
 obtain⟨hW,hR⟩:=s.same r I
 have hinn:=s.inn I
 have hk:nu.kind=10∨nu.kind=9:=(tkN_rows s.tk).2.2.2.2
 have nlow:=c.lo w nu s.eu
 have nhi:=c.hi w nu s.eu
 have ilow:=c.lo i na s.ea
 have ihi:=c.hi i na s.ea
 rw[hinn] at nlow nhi
 have n4: ¬four nu.kind:=by rintro(h|h|h|h)<;>omega
 have el:nu.leftN=0:=by unfold Nd.leftN;rw[if_neg (by omega),if_neg n4]
 have es:nu.span=1:=by unfold Nd.span spanN;rw[if_neg (by omega),if_neg n4]
 have one1: ∀x:Int,leastL [x]=x:=fun x=>by
  show(if x<x then x else x)=x
  split<;>rfl
 have one2: ∀x:Int,mostL [x]=x:=fun x=>by
  show(if x>x then x else x)=x
  split<;>rfl
 have hL:Lo ((w:Int)+1)=Lo ((i:Int)+1):=by
  rw[nlow,hR]
  by_cases h:0<R ((i:Int)+1)
  ·rw[if_pos h,el]
   show leastL [Lo ((i:Int)+1)]-_*0=_
   rw[one1];omega
  ·rw[if_neg h,ilow,if_neg h]
 have hH:Hi ((w:Int)+1)=Hi ((i:Int)+1):=by
  rw[nhi,hR]
  by_cases h:0<R ((i:Int)+1)
  ·rw[if_pos h,el,es]
   show mostL [Hi ((i:Int)+1)]+_*(1-1-0)=_
   rw[one2];omega
  ·rw[if_neg h,ihi,if_neg h]
 refine⟨⟨c.l0,c.h0,fun q n' en=> ?_,fun q n' en=> ?_⟩,hL,hH⟩
 all_goals
  obtain⟨n,m,en0,em,hm,e,hl,hV,hmem⟩:=s.node I en
  have h1:n'.leftN=n.leftN∧n'.span=n.span:=by
   rw[e]
   show m.leftN=_∧m.span=_
   rw[em]
   split
   ·rename_i hq;subst hq
    have:=s.ea;rw[en0] at this;cases this
    obtain⟨t1,t2,t3,t4⟩:=take_step s.tk
    unfold Nd.leftN Nd.span
    rw[(tkN_rows s.tk).2.1,t2,t3,t4]
    exact⟨rfl,rfl⟩
   ·exact⟨rfl,rfl⟩
 ·rw[hV Lo hL,hV R hR,h1.1];exact c.lo q n en0
 ·rw[hV Hi hH,hV R hR,h1.1,h1.2];exact c.hi q n en0
def Nd.cost (n:Nd):Nat:=if wei n.kind then n.weights.length else 0
theorem Stp.cost (I:FInv ns out M pos') (s:Stp ns out M i w na nu a' st):st.1.map Nd.cost=ns.map Nd.cost:=by
 apply List.ext_getElem?
 intro q
 rw[List.getElem?_map,List.getElem?_map]
 cases en:st.1[q]? with
 |none=>
  have h1:=List.getElem?_eq_none_iff.1 en
  rw[s.len] at h1
  rw[List.getElem?_eq_none h1]
 |some n'=>
  obtain⟨n,m,en0,em,hm,e,hl,hV,hmem⟩:=s.node I en
  rw[en0]
  simp only[Option.map_some]
  congr 1
  rw[e]
  show m.cost=n.cost
  rw[em]
  split
  ·rename_i hq;subst hq
   have:=s.ea;rw[en0] at this;cases this
   obtain⟨_,k1,k2,_⟩:=tkN_rows s.tk
   unfold Nd.cost
   rw[k1,k2]
  ·rfl
end
theorem fuse_keeps {g:Gr} {W R Lo Hi:Int→Int} {pos:Int→Nat} {pos':Int→Nat}: ∀(k:Nat) (s:FSt),FInv s.1 s.2.1 s.2.2 pos'→Right {g with nodes:=s.1,out:=s.2.1} W R pos→Reach s.1 R Lo Hi→
 FInv (fuseIt k s).1 (fuseIt k s).2.1 (fuseIt k s).2.2 pos'∧Right {g with nodes:=(fuseIt k s).1,out:=(fuseIt k s).2.1} W R pos∧Reach (fuseIt k s).1 R Lo Hi∧(fuseIt k s).1.map Nd.cost=s.1.map Nd.cost∧
  W (fuseIt k s).2.1=W s.2.1∧R (fuseIt k s).2.1=R s.2.1∧Lo (fuseIt k s).2.1=Lo s.2.1∧Hi (fuseIt k s).2.1=Hi s.2.1
 |0,s,I,r,c=>⟨I,r,c,rfl,rfl,rfl,rfl,rfl⟩
 |k+1,s,I,r,c=>by
  unfold fuseIt
  cases e:stepP s.1 s.2.1 s.2.2 with
  |none=>exact⟨I,r,c,rfl,rfl,rfl,rfl,rfl⟩
  |some t=>
   obtain⟨i,w,na,nu,a',st,_⟩:=stepP_stp I e
   obtain⟨c2,hL,hH⟩:=st.reach r I c
   obtain⟨hW,hR⟩:=st.same r I
   obtain⟨k1,k2,k3,k4,k5,k6,k7,k8⟩:=fuse_keeps k t (st.inv I) (st.right r I) c2
   have ho:t.2.1=if s.2.1=(w:Int)+1 then(i:Int)+1 else s.2.1:=by rw[st.st]
   have hv: ∀V:Int→Int,V ((w:Int)+1)=V ((i:Int)+1)→V t.2.1=V s.2.1:=fun V h=>by
    rw[ho]
    split
    ·rename_i h2;rw[h2,h]
    ·rfl
   exact⟨k1,k2,k3,k4.trans (st.cost I),k5.trans (hv W hW),k6.trans (hv R hR),k7.trans (hv Lo hL),k8.trans (hv Hi hH)⟩
end Go.Proofs.YtdhpmegbmjoekaaGreatDoor.G
