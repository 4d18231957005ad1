/- What a step of the fusing keeps: the graph is right, by the same widths, rates, reaches. -/
import Derived.Test.YtdhpmegbmjoekaaGreatDoorCMadeR
import Derived.Test.YtdhpmegbmjoekaaGreatDoorCLivP
namespace Go.Proofs.YtdhpmegbmjoekaaGreatDoor.G
open Go Go.Sh
set_option linter.unusedVariables false
set_option linter.unusedSimpArgs false
theorem Np {n:Nd} {ws:List Int} (h1:ws.length=n.inn.length) (h2:bo 1 16 ws) (h3:dw n.kind 1 12) (h4:dv n.kind→2≤ws.length∧ws.length≤4) (h5: ¬dv n.kind→ws.length=1) (h6:dw n.post 0 3) (h7:n.post≠0→jb n.kind) (h8:n.else0) (h9:n.sized (ws.getD 0 0))
 (h10:n.kind=7→ ∀x∈ws,x=ws.getD 0 0) (h11:n.kind=8→gN ws≤16):n.chk ws=0:=by
 unfold Nd.chk
 rw[if_neg (by rintro(h|h);exact h h1;exact h h2),if_neg,if_neg (fun h=>h h9),if_neg (fun h=>h.2 (h10 h.1)),if_neg (fun h=>by have:=h11 h.1;omega)]
 rintro(h|h|h|h|h|h)
 ·exact h h3
 ·exact h.2 (h4 h.1)
 ·exact h.2 (h5 h.1)
 ·exact h h6
 ·exact h.2 (h7 h.1)
 ·exact h h8
theorem a11:cS .i64 1 1=1:=by decide+kernel
theorem R8:cS .i64 0 1=0:=by decide+kernel
theorem R9:cS .i64 0 2=0:=by decide+kernel
theorem a22:cS .i64 2 2=2:=by decide+kernel
theorem a32:cS .i64 3 2=2:=by decide+kernel
theorem a31:cS .i64 3 1=1:=by decide+kernel
theorem Sa:DW .i64 0 2=2:=by decide+kernel
theorem RB:DW .i64 1 2=3:=by decide+kernel
theorem H0 {a u x:Nd} {ws vs:List Int} (ht:qK a u=some x) (hw:jb a.kind) (ha:a.chk ws=0) (hu:u.chk vs=0):x.chk ws=0:=by
 obtain⟨c1,c2,c3,c4,c5,c6,c7,c8,c9,c10,c11,c12⟩:=iH ha
 obtain⟨d1,d2,d3,d4,d5,d6,d7,d8,d9,d10,d11,d12⟩:=iH hu
 have nm: ¬dv a.kind:=by rintro(h|h)<;>rcases hw with h2|h2|h2<;>omega
 have k9:a.kind≠9∧a.kind≠10:=by rcases hw with h2|h2|h2<;>omega
 unfold qK at ht
 obtain⟨e1,e2,e3,e4,e5,e6⟩:=c9
 obtain⟨s1,s2,s3,s4,s5,s6,s7,s8,s9⟩:=c10
 obtain⟨_,_,_,_,t5,t6,t7,t8,t9⟩:=d10
 split at ht
 ·rename_i hc
  cases ht
  refine Np c3 c1 c4 (fun h=>absurd h nm) c7 (by show dw 1 0 3;decide) (fun _=>hw) ⟨e1,e2,e3,e4,.inl (.inr (by show cS .i64 1 1=1;exact a11)),.inr ?_⟩ ⟨s1,s2,s3,s4,t5,t6,s7,s8,s9⟩ c11 c12
  rcases e6 with h|h
  ·exfalso
   rcases h with h|h
   ·exact k9.1 h
   ·rw[hc.2] at h;rw[R9] at h;exact absurd h (by decide)
  ·exact h
 ·split at ht
  ·rename_i hc
   cases ht
   have hp:a.post=0∨a.post=1:=by
    have:a.post=0∨a.post=1∨a.post=2∨a.post=3:=by have:=c5;omega
    rcases this with h|h|h|h
    ·exact .inl h
    ·exact .inr h
    ·exfalso;have:=hc.2;rw[h] at this;first|(rw[a22] at this;exact absurd this (by decide))|(rw[a32] at this;exact absurd this (by decide))
    ·exfalso;have:=hc.2;rw[h] at this;first|(rw[a22] at this;exact absurd this (by decide))|(rw[a32] at this;exact absurd this (by decide))
   refine Np c3 c1 c4 (fun h=>absurd h nm) c7 ?_ (fun _=>hw) ⟨e1,e2,e3,e4,?_,.inl (.inr ?_)⟩ ⟨s1,s2,s3,s4,s5,s6,t7,t8,t9⟩ c11 c12
   ·show dw (DW .i64 a.post 2) 0 3
    rcases hp with h|h
    ·rw[h,Sa];decide
    ·rw[h,RB];decide
   ·show GP a.kind (DW .i64 a.post 2)∨(a.mult=0∧a.shift=0)
    rcases hp with h|h
    ·right
     rcases e5 with h2|h2
     ·exfalso
      rcases h2 with h2|h2
      ·exact k9.2 h2
      ·rw[h,R8] at h2;exact absurd h2 (by decide)
     ·exact h2
    ·left;right;rw[h,RB];exact a31
   ·show cS .i64 (DW .i64 a.post 2) 2=2
    rcases hp with h|h
    ·rw[h,Sa];exact a22
    ·rw[h,RB];exact a32
  ·cases ht
theorem Nq {a u x:Nd} {ws vs:List Int} (ht:qK a u=some x) (hw:jb a.kind) (ha:a.chk ws=0) (hu:u.chk vs=0):x.wid ws=a.wid ws:=by
 have h:=H0 ht hw ha hu
 have hk:=gV ht
 have hwd:x.width=a.width:=by
  unfold qK at ht
  split at ht
  ·cases ht;rfl
  ·split at ht
   ·cases ht;rfl
   ·cases ht
 unfold Nd.wid
 rw[if_neg (show ¬x.chk ws≠0 from fun hh=>hh h),if_neg (show ¬a.chk ws≠0 from fun hh=>hh ha),hk.2.1,hwd]
theorem Fx {a u x:Nd} (ht:qK a u=some x):x.step=a.step∧x.size=a.size∧x.gap=a.gap∧x.left=a.left:=by
 unfold qK at ht
 split at ht
 ·cases ht;exact⟨rfl,rfl,rfl,rfl⟩
 ·split at ht
  ·cases ht;exact⟨rfl,rfl,rfl,rfl⟩
  ·cases ht
theorem LD {a u x:Nd} (ht:qK a u=some x) (rs:List Int):cd x rs=cd a rs:=by
 unfold cd
 rw[(gV ht).2.1,(Fx ht).1]
def Nd.leftN (n:Nd):Int:=if n.kind=12 then n.size-1 else if dD n.kind then n.left else 0
def qM (l:List Int):Int:=l.foldl (fun x y=>if y<x then y else x) (l.getD 0 0)
def pT (l:List Int):Int:=l.foldl (fun x y=>if y>x then y else x) (l.getD 0 0)
structure Reach (ns:List Nd) (R Lo Hi:Int→Int):Prop where
 l0:Lo 0=0
 h0:Hi 0=0
 lo: ∀(i:Nat) (n:Nd),ns[i]? =some n→Lo ((i:Int)+1)=if 0<R ((i:Int)+1) then qM (n.inn.map Lo)-(n.inn.map R).getD 0 0*n.leftN else 0
 hi: ∀(i:Nat) (n:Nd),ns[i]? =some n→Hi ((i:Int)+1)=if 0<R ((i:Int)+1) then pT (n.inn.map Hi)+(n.inn.map R).getD 0 0*(n.span-1-n.leftN) else 0
section
variable {g:Gr} {W R Lo Hi:Int→Int} {pos pos':Int→Nat} {ns:List Nd} {out:Int} {M:LM} {i w:Nat} {na nu a':Nd} {st:Bc}
theorem pY.same (r:bJ {g with nodes:=ns,out:=out} W R pos) (I:fZ ns out M pos') (s:pY ns out M i w na nu a' st):W ((w:Int)+1)=W ((i:Int)+1)∧R ((w:Int)+1)=R ((i:Int)+1):=by
 have hinn:=s.inn I
 have hk:nu.kind=10∨nu.kind=9:=(gV s.tk).2.2.2.2
 have hc:=r.chk w nu s.eu
 have hw:=r.wid w nu s.eu
 have hr:=r.rat w nu s.eu
 have hri:=r.rid w nu s.eu
 rw[hinn] at hc hw hr hri
 have nwide: ¬wide nu.kind:=by rintro(h|h)<;>omega
 refine⟨?_,?_⟩
 ·rw[hw]
  unfold Nd.wid
  rw[if_neg (fun h=>h hc),if_neg nwide,if_neg (by omega),if_pos (by omega)];rfl
 ·have e:cd nu [R ((i:Int)+1)]=R ((i:Int)+1):=by
   have nwin: ¬(iM nu.kind∨nu.kind=5):=by
    rintro((h|h)|h)
    ·rcases h with h|h|h|h<;>omega
    ·omega
    ·omega
   have n4: ¬dD nu.kind:=fun h=>nwin (.inl (.inl h))
   have all: ¬ ¬ ∀x∈[R ((i:Int)+1)],x=[R ((i:Int)+1)].getD 0 0:=fun h=>h fun x hx=>by simpa using hx
   unfold cd fg
   rw[if_neg all,if_neg (fun h=>nwin h.2),if_neg (fun h=>nwin (.inr h)),if_neg n4]
   show R ((i:Int)+1)*1=_
   omega
  rw[hri];exact e
theorem pY.node (I:fZ ns out M pos') (s:pY ns out M i w na nu a' st) {q:Nat} {n':Nd} (en:st.1[q]? =Option.some n'):
 ∃n m,ns[q]? =Option.some n∧(m=if q=i then a' else n)∧m.inn=n.inn∧n'={m with inn:=n'.inn}∧n'.inn.length=n.inn.length∧(∀V:Int→Int,V ((w:Int)+1)=V ((i:Int)+1)→n'.inn.map V=n.inn.map V)∧
  ∀j∈n'.inn,j∈n.inn∨(j=(i:Int)+1∧((w:Int)+1)∈n.inn):=by
 rw[s.get] at en
 obtain⟨n,en0,e⟩:=Option.map_eq_some_iff.1 en
 dsimp only at e
 have hm:(if q=i then a' else n).inn=n.inn:=by
  split
  ·rename_i h;subst h
   have:=s.ea;rw[en0] at this;cases this
   exact(gV s.tk).1
  ·rfl
 refine⟨n,_,en0,rfl,hm,?_⟩
 split at e
 ·subst e
  exact⟨rfl,by rw[hm],fun V _=>by rw[hm],fun j hj=> .inl (by rw[hm] at hj;exact hj)⟩
 ·subst e
  refine⟨rfl,?_,fun V hV=> ?_,fun j hj=> ?_⟩
  ·show(List.map _ _).length=_
   rw[List.length_map,hm]
  ·show(List.map (wk ((w:Int)+1) ((i:Int)+1)) (if q=i then a' else n).inn).map V=_
   rw[hm,List.map_map]
   refine List.map_congr_left fun j _=> ?_
   show V (wk _ _ j)=V j
   by_cases h:j=(w:Int)+1
   ·rw[h,qG,hV]
   ·rw[oE h]
  ·have hj:j∈List.map (wk ((w:Int)+1) ((i:Int)+1)) (if q=i then a' else n).inn:=hj
   rw[hm] at hj
   obtain⟨k,hk,rfl⟩:=List.mem_map.1 hj
   by_cases h:k=(w:Int)+1
   ·right
    rw[h,qG]
    exact⟨rfl,h▸hk⟩
   ·left;rw[oE h];exact hk
theorem pY.right (r:bJ {g with nodes:=ns,out:=out} W R pos) (I:fZ ns out M pos') (s:pY ns out M i w na nu a' st):bJ {g with nodes:=st.1,out:=st.2.1} W R pos:=by
 obtain⟨hW,hR⟩:=s.same r I
 have inv:=s.inv I
 have hlen:=s.len
 obtain⟨f1,f2,f3,f4,f5,f6⟩:=bW r.first
 have hinn:=s.inn I
 have hrk:pos ((i:Int)+1)<pos ((w:Int)+1):=r.rank w nu s.eu _ (by rw[hinn];simp) (by omega)
 refine⟨tJ ?_ f3 f4 ⟨inv.out1,inv.outn⟩ fun n hn x hx=> ?_,fun q n' en j hj h0=> ?_,r.w0,r.r0,fun q n' en=> ?_,fun q n' en=> ?_,fun q n' en=> ?_,fun q n' en=> ?_⟩
 ·show 1≤st.1.length∧st.1.length≤12
  rw[hlen];exact⟨f1,f2⟩
 ·exact inv.ranked.Inn n hn x hx
 ·obtain⟨n,m,en0,em,hm,e,hl,hV,hmem⟩:=s.node I en
  rcases hmem j hj with h|⟨rfl,h⟩
  ·exact r.rank q n en0 j h h0
  ·have:=r.rank q n en0 _ h (by omega)
   omega
 all_goals
  obtain⟨n,m,en0,em,hm,e,hl,hV,hmem⟩:=s.node I en
  have hl2:n'.inn.length=m.inn.length:=by rw[hl,hm]
  have hchk: ∀ws,n.chk ws=0→m.chk ws=0:=fun ws h=>by
   rw[em]
   split
   ·rename_i hq;subst hq
    have:=s.ea;rw[en0] at this;cases this
    exact H0 s.tk s.we h (r.chk w nu s.eu)
   ·exact h
  have hwid: ∀ws,n.chk ws=0→m.wid ws=n.wid ws:=fun ws h=>by
   rw[em]
   split
   ·rename_i hq;subst hq
    have:=s.ea;rw[en0] at this;cases this
    exact Nq s.tk s.we h (r.chk w nu s.eu)
   ·rfl
  have hrat: ∀rs,cd n' rs=cd n rs:=fun rs=>by
   rw[e]
   show cd m rs=_
   rw[em]
   split
   ·rename_i hq;subst hq
    have:=s.ea;rw[en0] at this;cases this
    exact LD s.tk rs
   ·rfl
 ·rw[hV W hW,e,Gy hl2]
  exact hchk _ (r.chk q n en0)
 ·rw[hV W hW,e,Kv hl2,hwid _ (r.chk q n en0)]
  exact r.wid q n en0
 ·rw[hV R hR,hrat];exact r.rat q n en0
 ·rw[hV R hR,hrat];exact r.rid q n en0
theorem pY.reach (r:bJ {g with nodes:=ns,out:=out} W R pos) (I:fZ ns out M pos') (c:Reach ns R Lo Hi) (s:pY ns out M i w na nu a' st):Reach st.1 R Lo Hi∧Lo ((w:Int)+1)=Lo ((i:Int)+1)∧Hi ((w:Int)+1)=Hi ((i:Int)+1):=by
 obtain⟨hW,hR⟩:=s.same r I
 have hinn:=s.inn I
 have hk:nu.kind=10∨nu.kind=9:=(gV s.tk).2.2.2.2
 have nlow:=c.lo w nu s.eu
 have nhi:=c.hi w nu s.eu
 have ilow:=c.lo i na s.ea
 have ihi:=c.hi i na s.ea
 rw[hinn] at nlow nhi
 have n4: ¬dD nu.kind:=by rintro(h|h|h|h)<;>omega
 have el:nu.leftN=0:=by unfold Nd.leftN;rw[if_neg (by omega),if_neg n4]
 have es:nu.span=1:=by unfold Nd.span zz;rw[if_neg (by omega),if_neg n4]
 have mC: ∀x:Int,qM [x]=x:=fun x=>by
  show(if x<x then x else x)=x
  split<;>rfl
 have one2: ∀x:Int,pT [x]=x:=fun x=>by
  show(if x>x then x else x)=x
  split<;>rfl
 have hL:Lo ((w:Int)+1)=Lo ((i:Int)+1):=by
  rw[nlow,hR]
  by_cases h:0<R ((i:Int)+1)
  ·rw[if_pos h,el]
   show qM [Lo ((i:Int)+1)]-_*0=_
   rw[mC];omega
  ·rw[if_neg h,ilow,if_neg h]
 have hH:Hi ((w:Int)+1)=Hi ((i:Int)+1):=by
  rw[nhi,hR]
  by_cases h:0<R ((i:Int)+1)
  ·rw[if_pos h,el,es]
   show pT [Hi ((i:Int)+1)]+_*(1-1-0)=_
   rw[one2];omega
  ·rw[if_neg h,ihi,if_neg h]
 refine⟨⟨c.l0,c.h0,fun q n' en=> ?_,fun q n' en=> ?_⟩,hL,hH⟩
 all_goals
  obtain⟨n,m,en0,em,hm,e,hl,hV,hmem⟩:=s.node I en
  have h1:n'.leftN=n.leftN∧n'.span=n.span:=by
   rw[e]
   show m.leftN=_∧m.span=_
   rw[em]
   split
   ·rename_i hq;subst hq
    have:=s.ea;rw[en0] at this;cases this
    obtain⟨t1,t2,t3,t4⟩:=Fx s.tk
    unfold Nd.leftN Nd.span
    rw[(gV s.tk).2.1,t2,t3,t4]
    exact⟨rfl,rfl⟩
   ·exact⟨rfl,rfl⟩
 ·rw[hV Lo hL,hV R hR,h1.1];exact c.lo q n en0
 ·rw[hV Hi hH,hV R hR,h1.1,h1.2];exact c.hi q n en0
def Nd.cost (n:Nd):Nat:=if jb n.kind then n.weights.length else 0
theorem pY.cost (I:fZ ns out M pos') (s:pY ns out M i w na nu a' st):st.1.map Nd.cost=ns.map Nd.cost:=by
 apply List.ext_getElem?
 intro q
 rw[List.getElem?_map,List.getElem?_map]
 cases en:st.1[q]? with
 |none=>
  have h1:=List.getElem?_eq_none_iff.1 en
  rw[s.len] at h1
  rw[List.getElem?_eq_none h1]
 |some n'=>
  obtain⟨n,m,en0,em,hm,e,hl,hV,hmem⟩:=s.node I en
  rw[en0]
  simp only[Option.map_some]
  congr 1
  rw[e]
  show m.cost=n.cost
  rw[em]
  split
  ·rename_i hq;subst hq
   have:=s.ea;rw[en0] at this;cases this
   obtain⟨_,k1,k2,_⟩:=gV s.tk
   unfold Nd.cost
   rw[k1,k2]
  ·rfl
end
theorem Dr {g:Gr} {W R Lo Hi:Int→Int} {pos:Int→Nat} {pos':Int→Nat}: ∀(k:Nat) (s:Bc),fZ s.1 s.2.1 s.2.2 pos'→bJ {g with nodes:=s.1,out:=s.2.1} W R pos→Reach s.1 R Lo Hi→
 fZ (cY k s).1 (cY k s).2.1 (cY k s).2.2 pos'∧bJ {g with nodes:=(cY k s).1,out:=(cY k s).2.1} W R pos∧Reach (cY k s).1 R Lo Hi∧(cY k s).1.map Nd.cost=s.1.map Nd.cost∧
  W (cY k s).2.1=W s.2.1∧R (cY k s).2.1=R s.2.1∧Lo (cY k s).2.1=Lo s.2.1∧Hi (cY k s).2.1=Hi s.2.1
 |0,s,I,r,c=>⟨I,r,c,rfl,rfl,rfl,rfl,rfl⟩
 |k+1,s,I,r,c=>by
  unfold cY
  cases e:gW s.1 s.2.1 s.2.2 with
  |none=>exact⟨I,r,c,rfl,rfl,rfl,rfl,rfl⟩
  |some t=>
   obtain⟨i,w,na,nu,a',st,_⟩:=mG I e
   obtain⟨c2,hL,hH⟩:=st.reach r I c
   obtain⟨hW,hR⟩:=st.same r I
   obtain⟨k1,k2,k3,k4,k5,k6,k7,k8⟩:=Dr k t (st.inv I) (st.right r I) c2
   have ho:t.2.1=if s.2.1=(w:Int)+1 then(i:Int)+1 else s.2.1:=by rw[st.st]
   have hv: ∀V:Int→Int,V ((w:Int)+1)=V ((i:Int)+1)→V t.2.1=V s.2.1:=fun V h=>by
    rw[ho]
    split
    ·rename_i h2;rw[h2,h]
    ·rfl
   exact⟨k1,k2,k3,k4.trans (st.cost I),k5.trans (hv W hW),k6.trans (hv R hR),k7.trans (hv Lo hL),k8.trans (hv Hi hH)⟩
end Go.Proofs.YtdhpmegbmjoekaaGreatDoor.G
