/- CGood CGood2 CReachV, in one text. -/
import Derived.Test.YtdhpmegbmjoekaaGreatDoorCMadeR
set_option linter.unusedVariables false
set_option linter.unusedSimpArgs false
namespace Go.Proofs.YtdhpmegbmjoekaaGreatDoor.G
open Go Go.Sh
section
theorem Qm{n:Nd}{ws:List Int}(c:ws.length=n.inn.length)(d:bv 1 16 ws)(e:dB n.kind 1 12)(f:dm n.kind→2≤ws.length∧ws.length≤4)(j: ¬dm n.kind→ws.length=1)(k:dB n.post 0 3)(l:n.post≠0→gq n.kind)(m:n.else0)(o:n.sized (ws.getD 0 0))
 (a:n.kind=7→ ∀x∈ws,x=ws.getD 0 0) (b:n.kind=8→gW ws≤16):n.chk ws=0:=by
 unfold Nd.chk;rw[if_neg (by rintro(h|h);exact h c;exact h d),if_neg,if_neg (fun h=>h o),if_neg (fun h=>h.2 (a h.1)),if_neg (fun h=>by have:=b h.1;omega)];rintro(h|h|h|h|h|h)
 ·exact h e
 ·exact h.2 (f h.1)
 ·exact h.2 (j h.1)
 ·exact h k
 ·exact h.2 (l h.1)
 ·exact h m
theorem a11:cF .i64 1 1=1:=by decide+kernel
theorem VC:cF .i64 0 1=0:=by decide+kernel
theorem VD:cF .i64 0 2=0:=by decide+kernel
theorem a22:cF .i64 2 2=2:=by decide+kernel
theorem a32:cF .i64 3 2=2:=by decide+kernel
theorem a31:cF .i64 3 1=1:=by decide+kernel
theorem Vn:B3 .i64 0 2=2:=by decide+kernel
theorem UQ:B3 .i64 1 2=3:=by decide+kernel
theorem Jq{a u x:Nd}{ws vs:List Int}(c:nF a u=some x)(j:gq a.kind)(K:a.chk ws=0)(L:u.chk vs=0):x.chk ws=0:=by
 obtain⟨n,Z,o,p,E,c6,q,c8,F,k,d,e⟩:=fD K;obtain⟨d1,d2,d3,d4,d5,d6,d7,d8,d9,l,G,H⟩:=fD L;have z: ¬dm a.kind:=by rintro(h|h)<;>rcases j with b|b|b<;>omega
 have y:a.kind≠9∧a.kind≠10:=by rcases j with b|b|b<;>omega
 unfold nF at c;obtain⟨r,s,t,v,I,J⟩:=F;obtain⟨A,B,C,D,N,O,P,Q,S⟩:=k;obtain⟨_,_,_,_,T,U,V,X,Y⟩:=l;split at c
 ·rename_i f;cases c;refine Qm o n p (fun h=>absurd h z) q (by show dB 1 0 3;decide) (fun _=>j) ⟨r,s,t,v,.inl (.inr (by show cF .i64 1 1=1;exact a11)),.inr ?_⟩ ⟨A,B,C,D,T,U,P,Q,S⟩ d e;rcases J with h|h
  ·exfalso;rcases h with h|h
   ·exact y.1 h
   ·rw[f.2]at h;rw[VD]at h;exact absurd h (by decide)
  ·exact h
 ·split at c
  ·rename_i f;cases c;have m:a.post=0∨a.post=1:=by
    have:a.post=0∨a.post=1∨a.post=2∨a.post=3:=by have:=E;omega
    rcases this with h|h|h|h
    ·exact .inl h
    ·exact .inr h
    ·exfalso;have:=f.2;rw[h]at this;first|(rw[a22]at this;exact absurd this (by decide))|(rw[a32]at this;exact absurd this (by decide))
    ·exfalso;have:=f.2;rw[h]at this;first|(rw[a22]at this;exact absurd this (by decide))|(rw[a32]at this;exact absurd this (by decide))
   refine Qm o n p (fun h=>absurd h z) q ?_ (fun _=>j) ⟨r,s,t,v,?_,.inl (.inr ?_)⟩ ⟨A,B,C,D,N,O,V,X,Y⟩ d e
   ·show dB (B3 .i64 a.post 2) 0 3;rcases m with h|h
    ·rw[h,Vn];decide
    ·rw[h,UQ];decide
   ·show I1 a.kind (B3 .i64 a.post 2)∨(a.mult=0∧a.shift=0);rcases m with h|h
    ·right;rcases I with b|b
     ·exfalso;rcases b with b|b
      ·exact y.2 b
      ·rw[h,VC]at b;exact absurd b (by decide)
     ·exact b
    ·left;right;rw[h,UQ];exact a31
   ·show cF .i64 (B3 .i64 a.post 2) 2=2;rcases m with h|h
    ·rw[h,Vn];exact a22
    ·rw[h,UQ];exact a32
  ·cases c
theorem Qn{a u x:Nd}{ws vs:List Int}(b:nF a u=some x)(k:gq a.kind)(e:a.chk ws=0)(j:u.chk vs=0):x.wid ws=a.wid ws:=by
 have h:=Jq b k e j;have f:=iM b;have d:x.width=a.width:=by
  unfold nF at b;split at b
  ·cases b;rfl
  ·split at b
   ·cases b;rfl
   ·cases b
 unfold Nd.wid;rw[if_neg (show ¬x.chk ws≠0 from fun c=>c h),if_neg (show ¬a.chk ws≠0 from fun c=>c e),f.2.1,d]
theorem Gc{a u x:Nd}(b:nF a u=some x):x.step=a.step∧x.size=a.size∧x.gap=a.gap∧x.left=a.left:=by
 unfold nF at b;split at b
 ·cases b;exact⟨rfl,rfl,rfl,rfl⟩
 ·split at b
  ·cases b;exact⟨rfl,rfl,rfl,rfl⟩
  ·cases b
theorem N9{a u x:Nd}(b:nF a u=some x)(rs:List Int):cf x rs=cf a rs:=by
 unfold cf;rw[(iM b).2.1,(Gc b).1]
def Nd.leftN(n:Nd):Int:=if n.kind=12 then n.size-1 else if dp n.kind then n.left else 0
def nC(l:List Int):Int:=l.foldl (fun x y=>if y<x then y else x) (l.getD 0 0)
def iO(l:List Int):Int:=l.foldl (fun x y=>if y>x then y else x) (l.getD 0 0)
structure Reach (ns:List Nd) (R Lo Hi:Int→Int):Prop where
 l0:Lo 0=0
 h0:Hi 0=0
 lo: ∀(i:Nat)(n:Nd),ns[i]? =some n→Lo ((i:Int)+1)=if 0<R ((i:Int)+1) then nC (n.inn.map Lo)-(n.inn.map R).getD 0 0*n.leftN else 0
 hi: ∀(i:Nat)(n:Nd),ns[i]? =some n→Hi ((i:Int)+1)=if 0<R ((i:Int)+1) then iO (n.inn.map Hi)+(n.inn.map R).getD 0 0*(n.span-1-n.leftN) else 0
section
variable {g:Gr} {W R Lo Hi:Int→Int} {pos pos':Int→Nat} {ns:List Nd} {out:Int} {M:LM} {i w:Nat} {na nu a':Nd} {st:Cd}
theorem qc.same(r:bW {g with nodes:=ns,out:=out} W R pos)(I:gm ns out M pos')(s:qc ns out M i w na nu a' st):W ((w:Int)+1)=W ((i:Int)+1)∧R ((w:Int)+1)=R ((i:Int)+1):=by
 have c:=s.inn I;have n:nu.kind=10∨nu.kind=9:=(iM s.tk).2.2.2.2;have f:=r.chk w nu s.eu;have j:=r.wid w nu s.eu;have k:=r.rat w nu s.eu;have d:=r.rid w nu s.eu;rw[c]at f j k d;have b: ¬wide nu.kind:=by rintro(h|h)<;>omega
 refine⟨?_,?_⟩
 ·rw[j];unfold Nd.wid;rw[if_neg (fun h=>h f),if_neg b,if_neg (by omega),if_pos (by omega)];rfl
 ·have e:cf nu [R ((i:Int)+1)]=R ((i:Int)+1):=by
   have a: ¬(iK nu.kind∨nu.kind=5):=by
    rintro((h|h)|h)
    ·rcases h with h|h|h|h<;>omega
    ·omega
    ·omega
   have m: ¬dp nu.kind:=fun h=>a (.inl (.inl h));have all: ¬ ¬ ∀x∈[R ((i:Int)+1)],x=[R ((i:Int)+1)].getD 0 0:=fun h=>h fun x l=>by simpa using l
   unfold cf dv;rw[if_neg all,if_neg (fun h=>a h.2),if_neg (fun h=>a (.inr h)),if_neg m];show R ((i:Int)+1)*1=_;omega
  rw[d];exact e
theorem qc.node(I:gm ns out M pos')(s:qc ns out M i w na nu a' st){q:Nat}{c:Nd}(f:st.1[q]? =Option.some c):
 ∃n m,ns[q]? =Option.some n∧(m=if q=i then a' else n)∧m.inn=n.inn∧c={m with inn:=c.inn}∧c.inn.length=n.inn.length∧(∀V:Int→Int,V ((w:Int)+1)=V ((i:Int)+1)→c.inn.map V=n.inn.map V)∧
  ∀j∈c.inn,j∈n.inn∨(j=(i:Int)+1∧((w:Int)+1)∈n.inn):=by
 rw[s.get]at f;obtain⟨n,d,e⟩:=WM.1 f;dsimp only at e;have b:(if q=i then a' else n).inn=n.inn:=by
  split
  ·rename_i h;subst h;have:=s.ea;rw[d]at this;cases this;exact(iM s.tk).1
  ·rfl
 refine⟨n,_,d,rfl,b,?_⟩;split at e
 ·subst e;exact⟨rfl,by rw[b],fun V _=>by rw[b],fun j a=> .inl (by rw[b]at a;exact a)⟩
 ·subst e;refine⟨rfl,?_,fun V o=> ?_,fun j a=> ?_⟩
  ·show(List.map _ _).length=_;rw[Ug,b]
  ·show(List.map (nM ((w:Int)+1) ((i:Int)+1)) (if q=i then a' else n).inn).map V=_;rw[b,Xa];refine Wf fun j _=> ?_;show V (nM _ _ j)=V j;by_cases h:j=(w:Int)+1
   ·rw[h,oF,o]
   ·rw[ml h]
  ·have a:j∈List.map (nM ((w:Int)+1) ((i:Int)+1)) (if q=i then a' else n).inn:=a;rw[b]at a;obtain⟨k,l,rfl⟩:=VZ.1 a;by_cases h:k=(w:Int)+1
   ·right;rw[h,oF];exact⟨rfl,h▸l⟩
   ·left;rw[ml h];exact l
theorem qc.right(r:bW {g with nodes:=ns,out:=out} W R pos)(I:gm ns out M pos')(s:qc ns out M i w na nu a' st):bW {g with nodes:=st.1,out:=st.2.1} W R pos:=by
 obtain⟨B,A⟩:=s.same r I;have d:=s.inv I;have u:=s.len;obtain⟨E,F,G,H,O,P⟩:=bX r.first;have p:=s.inn I;have L:pos ((i:Int)+1)<pos ((w:Int)+1):=r.rank w nu s.eu _ (by rw[p];simp) (by omega);refine⟨uK ?_ G H ⟨d.out1,d.outn⟩ fun n K x N=> ?_,fun q k f j J h0=> ?_,r.w0,r.r0,fun q k f=> ?_,fun q k f=> ?_,fun q k f=> ?_,fun q k f=> ?_⟩
 ·show 1≤st.1.length∧st.1.length≤12;rw[u];exact⟨E,F⟩
 ·exact d.ranked.Inn n K x N
 ·obtain⟨n,m,a,z,D,e,C,l,b⟩:=s.node I f;rcases b j J with h|⟨rfl,h⟩
  ·exact r.rank q n a j h h0
  ·have:=r.rank q n a _ h (by omega);omega
 all_goals
  obtain⟨n,m,a,z,D,e,C,l,b⟩:=s.node I f;have t:k.inn.length=m.inn.length:=by rw[C,D]
  have o: ∀ws,n.chk ws=0→m.chk ws=0:=fun ws h=>by
   rw[z];split
   ·rename_i v;subst v;have:=s.ea;rw[a]at this;cases this;exact Jq s.tk s.we h (r.chk w nu s.eu)
   ·exact h
  have y: ∀ws,n.chk ws=0→m.wid ws=n.wid ws:=fun ws h=>by
   rw[z];split
   ·rename_i v;subst v;have:=s.ea;rw[a]at this;cases this;exact Qn s.tk s.we h (r.chk w nu s.eu)
   ·rfl
  have c: ∀rs,cf k rs=cf n rs:=fun rs=>by
   rw[e];show cf m rs=_;rw[z];split
   ·rename_i v;subst v;have:=s.ea;rw[a]at this;cases this;exact N9 s.tk rs
   ·rfl
 ·rw[l W B,e,Hm t];exact o _ (r.chk q n a)
 ·rw[l W B,e,Ms t,y _ (r.chk q n a)];exact r.wid q n a
 ·rw[l R A,c];exact r.rat q n a
 ·rw[l R A,c];exact r.rid q n a
theorem qc.reach(r:bW {g with nodes:=ns,out:=out} W R pos)(I:gm ns out M pos')(c:Reach ns R Lo Hi)(s:qc ns out M i w na nu a' st):Reach st.1 R Lo Hi∧Lo ((w:Int)+1)=Lo ((i:Int)+1)∧Hi ((w:Int)+1)=Hi ((i:Int)+1):=by
 obtain⟨G,l⟩:=s.same r I;have d:=s.inn I;have H:nu.kind=10∨nu.kind=9:=(iM s.tk).2.2.2.2;have a:=c.lo w nu s.eu;have j:=c.hi w nu s.eu;have f:=c.lo i na s.ea;have t:=c.hi i na s.ea;rw[d]at a j;have C: ¬dp nu.kind:=by rintro(h|h|h|h)<;>omega
 have v:nu.leftN=0:=by unfold Nd.leftN;rw[if_neg (by omega),if_neg C]
 have es:nu.span=1:=by unfold Nd.span wk;rw[if_neg (by omega),if_neg C]
 have ib: ∀x:Int,nC [x]=x:=fun x=>by
  show(if x<x then x else x)=x;split<;>rfl
 have k: ∀x:Int,iO [x]=x:=fun x=>by
  show(if x>x then x else x)=x;split<;>rfl
 have A:Lo ((w:Int)+1)=Lo ((i:Int)+1):=by
  rw[a,l];by_cases h:0<R ((i:Int)+1)
  ·rw[if_pos h,v];show nC [Lo ((i:Int)+1)]-_*0=_;rw[ib];omega
  ·rw[if_neg h,f,if_neg h]
 have z:Hi ((w:Int)+1)=Hi ((i:Int)+1):=by
  rw[j,l];by_cases h:0<R ((i:Int)+1)
  ·rw[if_pos h,v,es];show iO [Hi ((i:Int)+1)]+_*(1-1-0)=_;rw[k];omega
  ·rw[if_neg h,t,if_neg h]
 refine⟨⟨c.l0,c.h0,fun q u y=> ?_,fun q u y=> ?_⟩,A,z⟩
 all_goals
  obtain⟨n,m,b,D,K,e,J,o,B⟩:=s.node I y;have p:u.leftN=n.leftN∧u.span=n.span:=by
   rw[e];show m.leftN=_∧m.span=_;rw[D];split
   ·rename_i E;subst E;have:=s.ea;rw[b]at this;cases this;obtain⟨t1,t2,t3,F⟩:=Gc s.tk;unfold Nd.leftN Nd.span;rw[(iM s.tk).2.1,t2,t3,F];exact⟨rfl,rfl⟩
   ·exact⟨rfl,rfl⟩
 ·rw[o Lo A,o R l,p.1];exact c.lo q n b
 ·rw[o Hi z,o R l,p.1,p.2];exact c.hi q n b
def Nd.cost(n:Nd):Nat:=if gq n.kind then n.weights.length else 0
theorem qc.cost(I:gm ns out M pos')(s:qc ns out M i w na nu a' st):st.1.map Nd.cost=ns.map Nd.cost:=by
 apply Wk;intro q;rw[VP,VP];cases en:st.1[q]? with
 |none=>
  have b:=XU.1 en;rw[s.len]at b;rw[V3 b]
 |some p=>
  obtain⟨n,m,a,d,o,e,l,k,c⟩:=s.node I en;rw[a];simp only[Option.map_some];congr 1;rw[e];show m.cost=n.cost;rw[d];split
  ·rename_i f;subst f;have:=s.ea;rw[a]at this;cases this;obtain⟨_,h,j,_⟩:=iM s.tk;unfold Nd.cost;rw[h,j]
  ·rfl
end
theorem D9{g:Gr}{W R Lo Hi:Int→Int}{pos:Int→Nat}{pos':Int→Nat}: ∀(k:Nat)(s:Cd),gm s.1 s.2.1 s.2.2 pos'→bW {g with nodes:=s.1,out:=s.2.1} W R pos→Reach s.1 R Lo Hi→
 gm (eM k s).1 (eM k s).2.1 (eM k s).2.2 pos'∧bW {g with nodes:=(eM k s).1,out:=(eM k s).2.1} W R pos∧Reach (eM k s).1 R Lo Hi∧(eM k s).1.map Nd.cost=s.1.map Nd.cost∧
  W (eM k s).2.1=W s.2.1∧R (eM k s).2.1=R s.2.1∧Lo (eM k s).2.1=Lo s.2.1∧Hi (eM k s).2.1=Hi s.2.1
 |0,s,I,r,c=>⟨I,r,c,rfl,rfl,rfl,rfl,rfl⟩
 |k+1,s,I,r,c=>by
  unfold eM;cases e:fd s.1 s.2.1 s.2.2 with
  |none=>exact⟨I,r,c,rfl,rfl,rfl,rfl,rfl⟩
  |some t=>
   obtain⟨i,w,na,nu,a',st,_⟩:=vk I e;obtain⟨b,j,f⟩:=st.reach r I c;obtain⟨m,l⟩:=st.same r I;obtain⟨o,p,q,u,v,x,y,z⟩:=D9 k t (st.inv I) (st.right r I) b;have n:t.2.1=if s.2.1=(w:Int)+1 then(i:Int)+1 else s.2.1:=by rw[st.st]
   have a: ∀V:Int→Int,V ((w:Int)+1)=V ((i:Int)+1)→V t.2.1=V s.2.1:=fun V h=>by
    rw[n];split
    ·rename_i d;rw[d,h]
    ·rfl
   exact⟨o,p,q,u.trans (st.cost I),v.trans (a W m),x.trans (a R l),y.trans (a Lo j),z.trans (a Hi f)⟩
end
section
def cl(M:LM):Nat→Nat
 |0=>0
 |t+1=>if(M ((t:Int)+1)).isSome=true then cl M t+1 else cl M t
theorem vr(M:LM)(t:Nat):cl M (t+1)=if(M ((t:Int)+1)).isSome=true then cl M t+1 else cl M t:=rfl
theorem R9(M:LM)(t:Nat):cl M t≤cl M (t+1):=by
 rw[vr];split<;>omega
theorem Sa(M:LM){s t:Nat}(h:s≤t):cl M s≤cl M t:=by
 induction h with
 |refl=>exact VX _
 |step _ a=>exact W3 a (R9 M _)
theorem MF{M:LM}{i t:Nat}(h:i<t)(a:(M ((i:Int)+1)).isSome=true):cl M i<cl M t:=by
 have b:cl M (i+1)=cl M i+1:=by rw[vr,if_pos a]
 have:=Sa M (show i+1≤t from h);omega
theorem Qo(M:LM): ∀t,cl M t≤t
 |0=>VX _
 |t+1=>by
  have:=Qo M t;rw[vr];split<;>omega
theorem LA{M:LM}{i q:Nat}(hi:(M ((i:Int)+1)).isSome=true)(b:(M ((q:Int)+1)).isSome=true)(h:cl M i=cl M q):i=q:=by
 rcases Nat.lt_trichotomy i q with a|a|a
 ·have:=MF a hi;omega
 ·exact a
 ·have:=MF a b;omega
theorem vt{M:LM}: ∀t k,k<cl M t→ ∃i,i<t∧(M ((i:Int)+1)).isSome=true∧cl M i=k
 |0,k,h=>absurd h (X7 _)
 |t+1,k,h=>by
  rw[vr]at h;by_cases c:(M ((t:Int)+1)).isSome=true
  ·rw[if_pos c]at h;by_cases e:k=cl M t
   ·exact⟨t,by omega,c,e.symm⟩
   ·obtain⟨i,d,a,b⟩:=vt t k (show k<cl M t by omega);exact⟨i,by omega,a,b⟩
  ·rw[if_neg c]at h;obtain⟨i,d,a,b⟩:=vt t k h;exact⟨i,by omega,a,b⟩
theorem mE(ns:List Nd)(M:LM): ∀t≤ns.length,(cL ns M t).1.length=cl M t∧(cL ns M t).2 0=some 0∧ ∀i<t,(M ((i:Int)+1)).isSome=true→(cL ns M t).2 ((i:Int)+1)=some ((cl M i:Nat)+1:Int)∧(cL ns M t).1[cl M i]? =ns[i]?
 |0,_=>⟨rfl,rfl,fun i h=>absurd h (X7 _)⟩
 |t+1,m=>by
  obtain⟨d,j,k⟩:=mE ns M t (by omega);obtain⟨n,f⟩: ∃n,ns[t]? =some n:=⟨_,bo (by omega)⟩;have e:cL ns M (t+1)=if(M ((t:Int)+1)).isSome then((cL ns M t).1++[n],qh (cL ns M t).2 ((t:Int)+1) (((cL ns M t).1.length+1:Nat):Int)) else cL ns M t:=by
   conv=>lhs;unfold cL
   rw[f]
  rw[e,vr];by_cases c:(M ((t:Int)+1)).isSome=true
  ·rw[if_pos c,if_pos c];refine⟨by rw[Tz,d];rfl,?_,fun i hi a=> ?_⟩
   ·dsimp only;unfold qh;rw[if_neg (by omega)];exact j
   ·by_cases b:i=t
    ·subst b;refine⟨?_,?_⟩
     ·dsimp only;unfold qh;rw[if_pos rfl,d];rfl
     ·dsimp only;rw[←d,WS,f]
    ·have:=k i (by omega) a;have l:=MF (show i<t by omega) a;refine⟨?_,?_⟩
     ·dsimp only;unfold qh;rw[if_neg (by omega)];exact this.1
     ·dsimp only;rw[WE (by omega)];exact this.2
  ·rw[if_neg c,if_neg c];refine⟨d,j,fun i hi a=> ?_⟩;by_cases b:i=t
   ·subst b;exact absurd a c
   ·exact k i (by omega) a
theorem Jr(ns:List Nd)(M:LM): ∀i,(cL ns M i).1.Sublist (ns.take i)
 |0=>List.nil_sublist _
 |i+1=>by
  have a:=Jr ns M i;unfold cL;cases e:ns[i]? with
  |none=>
   dsimp only;have:ns.take (i+1)=ns.take i:=by
    have:=XU.1 e;rw[py (by omega),py (by omega)]
   rw[this];exact a
  |some n=>
   have hi:=(R8.1 e).1;have b:ns[i]=n:=by rw[bo hi]at e;exact Option.some.inj e
   dsimp only;rw[gD hi,b];split
   ·exact a.append (List.Sublist.refl _)
   ·exact a.trans (List.sublist_append_left _ _)
theorem Sb{l m:List Nat}(h:l.Sublist m):l.sum≤m.sum:=by
 induction h with
 |slnil=>exact VX _
 |cons a _ b=>rw[WX];omega
 |cons_cons a _ b=>rw[WX,WX];omega
noncomputable def Ea(M:LM)(n:Nat)(x:Int):Int:=by
 classical exact if h: ∃i:Nat,i<n∧(M ((i:Int)+1)).isSome=true∧((cl M i:Nat):Int)+1=x then((Classical.choose h:Nat):Int)+1 else 0
theorem uR(M:LM)(n:Nat):Ea M n 0=0:=by
 unfold Ea;rw[dif_neg];rintro⟨i,_,_,h⟩;omega
theorem Ab{M:LM}{n i:Nat}(hi:i<n)(a:(M ((i:Int)+1)).isSome=true):Ea M n (((cl M i:Nat):Int)+1)=(i:Int)+1:=by
 have h: ∃q:Nat,q<n∧(M ((q:Int)+1)).isSome=true∧((cl M q:Nat):Int)+1=((cl M i:Nat):Int)+1:=⟨i,hi,a,rfl⟩;unfold Ea;rw[dif_pos h];obtain⟨_,b,c⟩:=Classical.choose_spec h;rw[LA b a (by omega)]
section
variable {g:Gr} {W R Lo Hi:Int→Int} {pos pos':Int→Nat} {ns:List Nd} {out:Int} {M:LM}
theorem uS(I:gm ns out M pos'){i:Nat}(a:(M ((i:Int)+1)).isSome=true):dL (cL ns M ns.length).2 ((i:Int)+1)=((cl M i:Nat):Int)+1:=by
 have b:=I.range a;unfold dL;rw[((mE ns M ns.length (VX _)).2.2 i (by omega) a).1];rfl
theorem yB:dL (cL ns M ns.length).2 0=0:=by
 unfold dL;rw[(mE ns M ns.length (VX _)).2.1];rfl
theorem lk:(dP g (ns,out,M)).nodes.length=cl M ns.length:=by
 show(List.map _ _).length=_;rw[Ug];exact(mE ns M ns.length (VX _)).1
theorem Hz{i:Nat}{n:Nd}(b:(M ((i:Int)+1)).isSome=true)(a:ns[i]? =some n):(dP g (ns,out,M)).nodes[cl M i]? =some (n.ren (cL ns M ns.length).2):=by
 have hi:=(R8.1 a).1;show(List.map _ _)[_]? =_;rw[VP];show Option.map _ ((cL ns M ns.length).1[cl M i]?)=_;rw[((mE ns M ns.length (VX _)).2.2 i hi b).2,a];rfl
theorem yC{k:Nat}{e:Nd}(h:(dP g (ns,out,M)).nodes[k]? =some e): ∃(i:Nat)(n:Nd),(M ((i:Int)+1)).isSome=true∧cl M i=k∧ns[i]? =some n∧e=n.ren (cL ns M ns.length).2:=by
 have d:=(R8.1 h).1;rw[lk]at d;obtain⟨i,f,b,c⟩:=vt _ _ d;obtain⟨n,a⟩: ∃n,ns[i]? =some n:=⟨_,bo f⟩;have:=Hz (g:=g) (out:=out) b a;rw[c,h]at this;exact⟨i,n,b,c,a,Option.some.inj this⟩
theorem Eb(I:gm ns out M pos'){i:Nat}{n:Nd}(c:(M ((i:Int)+1)).isSome=true)(a:ns[i]? =some n){j:Int}(b:j∈n.inn):(M j).isSome=true:=(I.lv j).2 (((I.lv _).1 c).inn a b)
theorem uT(I:gm ns out M pos'){i:Nat}{n:Nd}(d:(M ((i:Int)+1)).isSome=true)(b:ns[i]? =some n)(V:Int→Int):(n.ren (cL ns M ns.length).2).inn.map (V ∘ Ea M ns.length)=n.inn.map V:=by
 show(List.map (dL _) n.inn).map _=_;rw[Xa];refine Wf fun j c=> ?_;have a:=Eb I d b c;have e:=I.range a;show V (Ea _ _ (dL _ j))=V j;by_cases h0:j=0
 ·subst h0;rw[yB,uR]
 ·obtain⟨q,rfl⟩: ∃q:Nat,j=(q:Int)+1:=⟨(j-1).toNat,by omega⟩;rw[uS I a,Ab (by omega) a]
theorem pS(I:gm ns out M pos'){j:Int}(a:(M j).isSome=true):0≤dL (cL ns M ns.length).2 j∧dL (cL ns M ns.length).2 j≤(cl M ns.length:Int)∧(0<j→1≤dL (cL ns M ns.length).2 j):=by
 have b:=I.range a;by_cases h0:j=0
 ·subst h0;rw[yB];omega
 ·obtain⟨q,rfl⟩: ∃q:Nat,j=(q:Int)+1:=⟨(j-1).toNat,by omega⟩;have:=MF (t:=ns.length) (by omega) a;rw[uS I a];omega
theorem Ec(r:bW {g with nodes:=ns,out:=out} W R pos)(I:gm ns out M pos'):bW (dP g (ns,out,M)) (W ∘ Ea M ns.length) (R ∘ Ea M ns.length) (pos ∘ Ea M ns.length):=by
 obtain⟨A,m,o,p,B,C⟩:=bX r.first;have l:(M out).isSome=true:=(I.lv _).2 .out;have h:=pS I l;have t:=I.out1;have a:=lk (g:=g) (ns:=ns) (out:=out) (M:=M);have s:=Qo M ns.length;have m:ns.length≤12:=m;refine r.map (Ea M ns.length) (uR _ _) (uK ?_ o p ?_ fun v f x u=> ?_) rfl (fun x b d=> ?_) (fun k v e=> ?_)
 ·rw[a];have:=h.2.2 (by omega);omega
 ·rw[a];exact⟨h.2.2 (by omega),h.2.1⟩
 ·obtain⟨k,e⟩:=Wx.1 f;obtain⟨i,n,b,d,c,rfl⟩:=yC e;obtain⟨j,q,rfl⟩:=VZ.1 u;have:=pS I (Eb I b c q);rw[a];omega
 ·rw[a]at d;obtain⟨i,y,z,D⟩:=vt (M:=M) ns.length (x-1).toNat (by omega);have:=Ab y z;rw[show((cl M i:Nat):Int)+1=x by omega]at this;rw[this];omega
 ·obtain⟨i,n,b,d,c,rfl⟩:=yC e;have hi:=(R8.1 c).1;refine⟨i,n,by rw[←d];exact Ab hi b,c,rfl,?_⟩;have:=uT I b c id;rw[List.map_id]at this;exact this
theorem LB(c:Reach ns R Lo Hi)(I:gm ns out M pos'):Reach (dP g (ns,out,M)).nodes (R ∘ Ea M ns.length) (Lo ∘ Ea M ns.length) (Hi ∘ Ea M ns.length):=by
 refine⟨by show Lo (Ea _ _ 0)=0;rw[uR];exact c.l0,by show Hi (Ea _ _ 0)=0;rw[uR];exact c.h0,fun k h d=> ?_,fun k h d=> ?_⟩
 all_goals
  obtain⟨i,n,b,f,a,rfl⟩:=yC d;have hi:=(R8.1 a).1;have e:Ea M ns.length ((k:Int)+1)=(i:Int)+1:=by rw[←f];exact Ab hi b
 ·rw[uT I b a Lo,uT I b a R];show Lo (Ea _ _ _)=if 0<R (Ea _ _ _) then _ else _
  rw[e];exact c.lo i n a
 ·rw[uT I b a Hi,uT I b a R];show Hi (Ea _ _ _)=if 0<R (Ea _ _ _) then _ else _
  rw[e];exact c.hi i n a
theorem Qp(I:gm ns out M pos'):Ea M ns.length (dP g (ns,out,M)).out=out:=by
 have a:(M out).isSome=true:=(I.lv _).2 .out;have b:=I.out1;have c:=I.outn;obtain⟨q,rfl⟩: ∃q:Nat,out=(q:Int)+1:=⟨(out-1).toNat,by omega⟩;show Ea _ _ (dL _ _)=_;rw[uS I a,Ab (by omega) a]
theorem Oa:((dP g (ns,out,M)).nodes.map Nd.cost).sum≤(ns.map Nd.cost).sum:=by
 have h:=(Jr ns M ns.length).map Nd.cost;rw[Xr]at h;have e:(dP g (ns,out,M)).nodes.map Nd.cost=(cL ns M ns.length).1.map Nd.cost:=by
  show(List.map _ _).map _=_;rw[Xa];rfl
 rw[e];exact Sb h
theorem Sd(I:gm ns out M pos'): ∀y,Lv ns out y→Lv (dP g (ns,out,M)).nodes (dP g (ns,out,M)).out (dL (cL ns M ns.length).2 y):=fun y e=>by
 induction e with
 |out=>exact .out
 | @inn i n j h c d b=>
   have a:=(I.lv _).2 h;rw[uS I a]at b;exact b.inn (Hz a c) (V1 d)
theorem Js(I:gm ns out M pos'){k:Nat}(b:k<(dP g (ns,out,M)).nodes.length):Lv (dP g (ns,out,M)).nodes (dP g (ns,out,M)).out ((k:Int)+1):=by
 rw[lk]at b;obtain⟨i,d,a,c⟩:=vt _ _ b;have:=Sd (g:=g) I _ ((I.lv _).1 a);rw[uS I a,c]at this;exact this
theorem Gd: ∀(k i:Nat),lJ ns out M k i=none→ ∀q,i≤q→q<i+k→eP ns out M q=none
 |0,i,_,q,a,b=>by omega
 |k+1,i,h,q,a,b=>by
  unfold lJ at h;cases e:eP ns out M i with
  |some x=>rw[e]at h;cases h
  |none=>
   rw[e]at h;by_cases c:q=i
   ·rw[c];exact e
   ·exact Gd k (i+1) h q (by omega) (by omega)
theorem Ob(r:bW {g with nodes:=ns,out:=out} W R pos)(I:gm ns out M pos')(hN:fd ns out M=none):dC (dP g (ns,out,M))=dP g (ns,out,M):=by
 have r2:=Ec r I;have U:(dP g (ns,out,M)).look.e=0:=by rw[r2.look]
 have B:=vl U;have u: ∀k,k<(dP g (ns,out,M)).nodes.length→Lv (dP g (ns,out,M)).nodes (dP g (ns,out,M)).out ((k:Int)+1):=fun k E=>Js I E;have l: ∀k n',(dP g (ns,out,M)).nodes[k]? =some n'→ ∃(i:Nat)(n:Nd),(M ((i:Int)+1)).isSome=true∧cl M i=k∧ns[i]? =some n∧n'=n.ren (cL ns M ns.length).2:=fun k n' h=>yC h;have K: ∀(i:Nat)(n:Nd),(M ((i:Int)+1)).isSome=true→ns[i]? =some n→(dP g (ns,out,M)).nodes[cl M i]? =some (n.ren (cL ns M ns.length).2):=fun i n h1 h2=>Hz h1 h2;have y:(dP g (ns,out,M)).out=dL (cL ns M ns.length).2 out:=rfl;generalize dP g (ns,out,M)=h at U B u l K y;obtain⟨b,G⟩: ∃b,ko h.nodes h.out=b:=⟨_,rfl⟩;rw[G]at B;have d: ∀k,k<h.nodes.length→(b ((k:Int)+1)).isSome=true:=fun k E=>(B.lv _).2 (u k E);have D:fd h.nodes h.out b=none:=by
  cases e:fd h.nodes h.out b with
  |none=>rfl
  |some st=>
   exfalso;obtain⟨i',w',ao,ap,aw,s,_⟩:=vk B e;obtain⟨i,na,li,ei,H,rfl⟩:=l i' ao s.ea;obtain⟨w,nu,lw,ew,p,rfl⟩:=l w' ap s.eu;have hi:=(R8.1 H).1;have m:(nu.inn.map (dL (cL ns M ns.length).2))=[(i':Int)+1]:=s.inn B;have z:=uS I li;have F: ∀j,(M j).isSome=true→dL (cL ns M ns.length).2 j=(i':Int)+1→j=(i:Int)+1:=fun j x V=>by
    have X:=I.range x;by_cases h0:j=0
    ·subst h0;rw[yB]at V;omega
    ·obtain⟨q,rfl⟩: ∃q:Nat,j=(q:Int)+1:=⟨(j-1).toNat,by omega⟩;rw[uS I x]at V;rw[LA x li (by omega)]
   have O:((i:Int)+1)∈nu.inn:=by
    have aa:nu.inn.length=1:=by have:=congrArg List.length m;simpa using this
    obtain⟨j,x⟩:=Xu.1 aa;rw[x]at m ⊢;have Z:(M j).isSome=true:=Eb I lw p (by rw[x];simp);have:=F j Z (by simpa using m);rw[this];simp
   have A: ∀v:Nat,v<ns.length→(M ((v:Int)+1)).isSome=true→((i:Int)+1)∈innOf ns ((v:Int)+1)→v=w:=fun v hv T S=>by
    obtain⟨nv,J⟩: ∃n,ns[v]? =some n:=⟨_,bo hv⟩;rw[fp J]at S;have Q:=K v nv T J;have o:=(R8.1 Q).1;have:=(s.live B).2 (cl M v) o (d _ o) (by
     rw[fp Q,←ei,←z];exact V1 S)
    exact LA T lw (by omega)
   have hw:=(R8.1 p).1;have m1:M ((i:Int)+1)=some 1:=by
    obtain⟨c,hc⟩:=W8.1 li;have Y:=I.ct _ c (by omega) hc;have an:w∈je ns M ((i:Int)+1):=jG.2 ⟨hw,lw,by rw[fp p];exact O⟩;have ad:(je ns M ((i:Int)+1)).Nodup:=List.Pairwise.filter _ X1;have ab:=jL _ [w] ad fun v hv=>by
     obtain⟨v1,v2,v3⟩:=jG.1 hv;rw[A v v1 v2 v3];simp
    have ar:=List.length_pos_of_mem an;simp only[VS,V9]at ab;rw[hc,Y,show(je ns M ((i:Int)+1)).length=1 by omega];rfl
   have ag:(i:Int)+1≠out:=fun ho=>s.no (by rw[y,←ho,z,ei]);obtain⟨w0,u1,u2,u3,u4,_⟩:=I.user (a:=(i:Int)+1) (by omega) m1;have ai:=A w0 u2 u3 u4;subst ai;have tk:(nF na nu).isSome=true:=by
    have:(nF (na.ren (cL ns M ns.length).2) (nu.ren (cL ns M ns.length).2)).isSome=true:=by rw[s.tk];rfl
    unfold nF at this ⊢;have k1:(nu.ren (cL ns M ns.length).2).kind=nu.kind:=rfl;have k2:(na.ren (cL ns M ns.length).2).post=na.post:=rfl;rw[k1,k2]at this;by_cases c1:nu.kind=10∧na.post=0
    ·rw[if_pos c1];rfl
    ·rw[if_neg c1]at this ⊢;by_cases c2:nu.kind=9∧cF .i64 na.post 2=0
     ·rw[if_pos c2];rfl
     ·rw[if_neg c2]at this;cases this
   have aj:gq na.kind:=s.we;have f:eP ns out M i=none:=Gd ns.length 0 hN i (WV _) (by omega);unfold eP at f;rw[H]at f;dsimp only at f;rw[if_pos ⟨m1,ag,aj⟩,u1,show((w0:Int)+1-1).toNat=w0 by omega,p]at f;dsimp only at f;rw[Option.map_eq_none_iff]at f;rw[f]at tk;cases tk
 have C: ∀t,t≤h.nodes.length→cl b t=t:=fun t=>by
  induction t with
  |zero=>intro _;rfl
  |succ t ih=>
   intro ht;rw[vr,if_pos (d t (by omega)),ih (by omega)]
 have P:=mE h.nodes b h.nodes.length (VX _);have N: ∀j:Int,0≤j→j≤(h.nodes.length:Int)→dL (cL h.nodes b h.nodes.length).2 j=j:=fun j h0 h1=>by
  by_cases hz:j=0
  ·subst hz;exact yB
  ·obtain⟨q,rfl⟩: ∃q:Nat,j=(q:Int)+1:=⟨(j-1).toNat,by omega⟩;rw[uS B (d q (by omega)),C q (by omega)]
 have L:(cL h.nodes b h.nodes.length).1=h.nodes:=by
  apply Wk;intro k;by_cases E:k<h.nodes.length
  ·have:=(P.2.2 k E (d k E)).2;rw[C k (by omega)]at this;exact this
  ·rw[V3 (by rw[P.1,C _ (VX _)];omega),V3 (by omega)]
 have hf:eM (h.nodes.length+1) (h.nodes,h.out,b)=(h.nodes,h.out,b):=by
  unfold eM;rw[D]
 have X:=bX (zX U).1;have hl:dP h (h.nodes,h.out,b)=h:=by
  unfold dP;have e1:(cL h.nodes b h.nodes.length).1.map (Nd.ren (cL h.nodes b h.nodes.length).2)=h.nodes:=by
   rw[L]
   conv=>rhs;rw[←List.map_id h.nodes]
   refine Wf fun n V=> ?_;have e2:n.inn.map (dL (cL h.nodes b h.nodes.length).2)=n.inn:=by
    conv=>rhs;rw[←List.map_id n.inn]
    refine Wf fun j x=> ?_;have:=X.2.2.2.2.2 n V j x;exact N j this.1 this.2
   unfold Nd.ren;rw[e2];rfl
  have e3:dL (cL h.nodes b h.nodes.length).2 h.out=h.out:=N _ (by have:=X.2.2.2.2.1;omega) X.2.2.2.2.1.2;show Gr.mk _ _ _ ((cL h.nodes b h.nodes.length).1.map (Nd.ren (cL h.nodes b h.nodes.length).2)) (dL (cL h.nodes b h.nodes.length).2 h.out)=h;rw[e1,e3]
 unfold dC;rw[if_pos U,G,hf,hl]
end
theorem yr.none{s f:Cd}(h:yr s f):fd f.1 f.2.1 f.2.2=Option.none:=by
 induction h with
 |done h=>exact h
 |more _ _ a=>exact a
theorem Oc{g:Gr}{W R Lo Hi:Int→Int}(r:bW g W R (posG g.nodes))(c:Reach g.nodes R Lo Hi): ∃(φ:Int→Int)(pos:Int→Nat),bW (dC g) (W ∘ φ) (R ∘ φ) pos∧Reach (dC g).nodes (R ∘ φ) (Lo ∘ φ) (Hi ∘ φ)∧W (φ (dC g).out)=W g.out∧R (φ (dC g).out)=R g.out∧Lo (φ (dC g).out)=Lo g.out∧Hi (φ (dC g).out)=Hi g.out∧
 (∀x,0≤x→x≤((dC g).nodes.length:Int)→0≤φ x∧φ x≤(g.nodes.length:Int))∧((dC g).nodes.map Nd.cost).sum≤(g.nodes.map Nd.cost).sum∧(∀k,k<(dC g).nodes.length→Lv (dC g).nodes (dC g).out ((k:Int)+1))∧dC (dC g)=dC g∧(dC g).nodes.length≤g.nodes.length:=by
 have m:g.look.e=0:=by rw[r.look]
 have I:=vl m;have f:=(yt (g.nodes.length+1) (g.nodes,g.out,ko g.nodes g.out) I (Nat.lt_succ_of_le (Cb _ _))).none;have K:=D9 (g:=g) (g.nodes.length+1) (g.nodes,g.out,ko g.nodes g.out) I r c;have s:dC g=dP g (eM (g.nodes.length+1) (g.nodes,g.out,ko g.nodes g.out)):=by unfold dC;rw[if_pos m]
 rw[s];generalize eM (g.nodes.length+1) (g.nodes,g.out,ko g.nodes g.out)=F at f K;obtain⟨ns,out,M⟩:=F;obtain⟨a,j,l,h,n,o,p,q⟩:=K;dsimp only at a j l h n o p q f;have b:ns.length=g.nodes.length:=by have:=congrArg List.length h;simpa using this
 have d:=Qp (g:=g) a;refine⟨Ea M ns.length,_,Ec j a,LB l a,by rw[d];exact n,by rw[d];exact o,by rw[d];exact p,by rw[d];exact q,fun x h0 t=> ?_,?_,fun k u=>Js a u,Ob j a f,?_⟩
 ·by_cases v:x=0
  ·subst v;rw[uR];omega
  ·rw[lk]at t;obtain⟨i,y,z,A⟩:=vt (M:=M) ns.length (x-1).toNat (by omega);have:=Ab y z;rw[show((cl M i:Nat):Int)+1=x by omega]at this;rw[this];omega
 ·rw[←h];exact Oa
 ·rw[lk,←b];exact Qo _ _
end
section
theorem Qq{α:Type}{ns:List Nd}(h:(bK ns).length=ns.length)(r:α)(F:Nat→Nd→List α→α): ∃V:Int→α,V 0=r∧ ∀(i:Nat)(n:Nd),ns[i]? =some n→V ((i:Int)+1)=F i n (n.inn.map V):=by
 have key: ∀k,∃V:Int→α,V 0=r∧ ∀(i:Nat)(n:Nd),ns[i]? =some n→((i:Int)+1)∈bM ns k→V ((i:Int)+1)=F i n (n.inn.map V):=by
  intro k
  induction k with
  |zero=>exact⟨fun _=>r,rfl,fun i n _ hi=>by simp[bM]at hi;omega⟩
  |succ k y=>
   obtain⟨V,h0,c⟩:=y;rcases lf ns (bM ns k) with e|⟨q,m,t,s,z,e⟩
   ·rw[show bM ns (k+1)=bM ns k from e];exact⟨V,h0,c⟩
   ·have e:bM ns (k+1)=bM ns k++[(q:Int)+1]:=e;have a: ∀(v:α)(l:List Int),(∀j∈l,j∈bM ns k)→l.map (fun x=>if x=(q:Int)+1 then v else V x)=l.map V:=fun v l u=>Wf fun j o=>if_neg (fun(h:j=(q:Int)+1)=>s (h▸u j o));refine⟨fun x=>if x=(q:Int)+1 then F q m (m.inn.map V) else V x,by dsimp only;rw[if_neg (by omega)];exact h0,fun i n b hi=> ?_⟩;dsimp only;rw[e]at hi;by_cases d:((i:Int)+1)∈bM ns k
    ·have p: ¬((i:Int)+1=(q:Int)+1):=fun h=>s (h▸d);rw[a _ _ (fun j o=>(qd ns k i n b d j o).1),if_neg p];exact c i n b d
    ·have f:i=q:=by
      rcases VW.1 hi with h|h
      ·exact absurd h d
      ·simp only[VK]at h;omega
     subst f;rw[t]at b;cases b;rw[a _ _ z,if_pos rfl]
 obtain⟨V,h0,c⟩:=key ns.length;refine⟨V,h0,fun i n b=>c i n b ?_⟩;have:=(R8.1 b).1;rw[dr];exact V0 _ (ny h (by omega) (by omega))
theorem Qr{ns:List Nd}(h:(bK ns).length=ns.length)(R:Int→Int): ∃Lo Hi,Reach ns R Lo Hi:=by
 obtain⟨Lo,l0,b⟩:=Qq h 0 fun i n l=>if 0<R ((i:Int)+1) then nC l-(n.inn.map R).getD 0 0*n.leftN else 0
 obtain⟨Hi,h0,a⟩:=Qq h 0 fun i n l=>if 0<R ((i:Int)+1) then iO l+(n.inn.map R).getD 0 0*(n.span-1-n.leftN) else 0
 exact⟨Lo,Hi,l0,h0,b,a⟩
theorem Ge: ∀(l:List Int)(a:Int),l.foldl (fun x y=>if y<x then y else x) a=a∨l.foldl (fun x y=>if y<x then y else x) a∈l
 |[],a=> .inl rfl
 |y::r,a=>by
  rw[Wg];rcases Ge r (if y<a then y else a) with h|h
  ·rw[h];split
   ·exact .inr Wb
   ·exact .inl rfl
  ·exact .inr (V0 _ h)
theorem Jt: ∀(l:List Int)(a:Int),l.foldl (fun x y=>if y>x then y else x) a=a∨l.foldl (fun x y=>if y>x then y else x) a∈l
 |[],a=> .inl rfl
 |y::r,a=>by
  rw[Wg];rcases Jt r (if y>a then y else a) with h|h
  ·rw[h];split
   ·exact .inr Wb
   ·exact .inl rfl
  ·exact .inr (V0 _ h)
theorem LC{l:List Int}(h:1≤l.length):nC l∈l:=by
 have a:l.getD 0 0∈l:=by rw[cA (by omega)];exact VN _
 rcases Ge l (l.getD 0 0) with h|h
 ·unfold nC;rw[h];exact a
 ·exact h
theorem Gf{l:List Int}(h:1≤l.length):iO l∈l:=by
 have a:l.getD 0 0∈l:=by rw[cA (by omega)];exact VN _
 rcases Jt l (l.getD 0 0) with h|h
 ·unfold iO;rw[h];exact a
 ·exact h
theorem gZ{n:Nd}{ws:List Int}(h:n.chk ws=0):(0≤n.size∧n.size≤8)∧(0≤n.gap∧n.gap≤4)∧(0≤n.leftN∧n.leftN≤31)∧(0≤n.span-1-n.leftN∧n.span-1-n.leftN≤31)∧(1≤n.span∧n.span≤32)∧(1≤dv n.kind n.step∧dv n.kind n.step≤4):=by
 obtain⟨x,y,z,A,B,C,D,E,m,e,k,l⟩:=fD h;obtain⟨f,p,_⟩:=m;obtain⟨j,r,_⟩:=e;have c:n.span=if n.kind=12 then n.size else if dp n.kind then(n.size-1)*n.gap+1 else 1:=rfl
 unfold Nd.leftN dv;rw[c];by_cases a:n.kind=12
 ·have b: ¬dp n.kind:=by rintro(h|h|h|h)<;>omega
  have:=j (.inr a);have:=f b;rw[if_pos a,if_pos a,if_neg b];omega
 ·rw[if_neg a,if_neg a];by_cases b:dp n.kind
  ·have G:=j (.inl b);have d:=r b;rw[c,if_neg a,if_pos b]at d;rw[if_pos b,if_pos b,if_pos b];obtain⟨⟨s,t⟩,⟨u,v⟩,⟨F,o⟩,_⟩:=d;have q:n.gap=1∨n.gap=2∨n.gap=3∨n.gap=4:=by omega
   rcases q with g|g|g|g<;>rw[g]at o ⊢ <;>omega
  ·have h0:=p ⟨b,a⟩;have:=f b;rw[if_neg b,if_neg b,if_neg b];omega
theorem yD{a b:Nat}(h:a≤b):(4:Int) ^ a≤4 ^ b:=by
 have:=WG (show 0<4 by decide) h;exact_mod_cast this
theorem Ed{g:Gr}{W R:Int→Int}(r:bW g W R (posG g.nodes)): ∀(p:Nat)(x:Int),posG g.nodes x=p→0≤x→x≤(g.nodes.length:Int)→0≤R x∧R x≤4 ^ p:=by
 intro p
 induction p using Nat.strongRecOn with
 |ind p y=>
  intro x A h0 s;refine⟨r.rates h0 s,?_⟩;by_cases v:x=0
  ·subst v;rw[r.r0];have:=yD (WV p);simpa using this
  ·obtain⟨i,rfl⟩: ∃i:Nat,x=(i:Int)+1:=⟨(x-1).toNat,by omega⟩;obtain⟨n,b⟩: ∃n,g.nodes[i]? =some n:=⟨_,bo (by omega)⟩;have k:=r.chk i n b;have a:1≤n.inn.length:=by have:=(fD k).2.1;rw[Ug]at this;exact this
   obtain⟨j,t,h⟩: ∃j t,n.inn=j::t:=by
    cases hn:n.inn with
    |nil=>rw[hn]at a;simp at a
    |cons j t=>exact⟨j,t,rfl⟩
   have l:j∈n.inn:=by rw[h];simp
   have c:=(bX r.first).2.2.2.2.2 n (VL b) j l;have u:=qe r.ordered b l;have f:=y (posG g.nodes j) (by omega) j rfl c.1 c.2;have e:=(gZ k).2.2.2.2.2;have o:=r.rat i n b;rw[r.rid i n b];have q:(n.inn.map R).getD 0 0=R j:=by rw[h];rfl
   have d:(4:Int) ^ (posG g.nodes j+1)≤4 ^ p:=yD (by omega);rw[Xt]at d;have m:(1:Int)≤4 ^ p:=by have:=yD (WV p);simpa using this
   have z:R j*dv n.kind n.step≤4 ^ posG g.nodes j*4:=Wo f.2 e.2 (by omega) (by omega);unfold cf;rw[q];split
   ·omega
   ·split
    ·omega
    ·split
     ·omega
     ·omega
theorem Ju{g:Gr}{W R Lo Hi:Int→Int}(r:bW g W R (posG g.nodes))(c:Reach g.nodes R Lo Hi): ∀(p:Nat)(x:Int),posG g.nodes x=p→0≤x→x≤(g.nodes.length:Int)→(-(p*2 ^ 30)≤Lo x∧Lo x≤p*2 ^ 30)∧(-(p*2 ^ 30)≤Hi x∧Hi x≤p*2 ^ 30):=by
 intro p
 induction p using Nat.strongRecOn with
 |ind p D=>
  intro x J h0 I;by_cases C:x=0
  ·subst C;rw[c.l0,c.h0];omega
  ·obtain⟨i,rfl⟩: ∃i:Nat,x=(i:Int)+1:=⟨(x-1).toNat,by omega⟩;obtain⟨n,e⟩: ∃n,g.nodes[i]? =some n:=⟨_,bo (by omega)⟩;have v:=r.chk i n e;have a:1≤n.inn.length:=by have:=(fD v).2.1;rw[Ug]at this;exact this
   have f:=gZ v;have y:=(bX r.first).2.1;have h:0≤(n.inn.map R).getD 0 0∧(n.inn.map R).getD 0 0≤2 ^ 24:=by
    obtain⟨j,t,u⟩: ∃j t,n.inn=j::t:=by
     cases hn:n.inn with
     |nil=>rw[hn]at a;simp at a
     |cons j t=>exact⟨j,t,rfl⟩
    have k:j∈n.inn:=by rw[u];simp
    have b:=(bX r.first).2.2.2.2.2 n (VL e) j k;have:=Ed r _ j rfl b.1 b.2;have z:(4:Int) ^ posG g.nodes j≤4 ^ 12:=yD (by have:=Cc g.nodes j;omega);have l:(n.inn.map R).getD 0 0=R j:=by rw[u];rfl
    rw[l];omega
   have m1:0≤(n.inn.map R).getD 0 0*n.leftN∧(n.inn.map R).getD 0 0*n.leftN≤2 ^ 24*31:=⟨WA h.1 f.2.2.1.1,Wo h.2 f.2.2.1.2 f.2.2.1.1 (by omega)⟩;have K:0≤(n.inn.map R).getD 0 0*(n.span-1-n.leftN)∧(n.inn.map R).getD 0 0*(n.span-1-n.leftN)≤2 ^ 24*31:=⟨WA h.1 f.2.2.2.1.1,Wo h.2 f.2.2.2.1.2 f.2.2.2.1.1 (by omega)⟩;have d: ∀j∈n.inn,(-((p-1:Int)*2 ^ 30)≤Lo j∧Lo j≤(p-1:Int)*2 ^ 30)∧(-((p-1:Int)*2 ^ 30)≤Hi j∧Hi j≤(p-1:Int)*2 ^ 30):=fun j k=>by
    have b:=(bX r.first).2.2.2.2.2 n (VL e) j k;have B:=qe r.ordered e k;have:=D (posG g.nodes j) (by omega) j rfl b.1 b.2;omega
   have o:1≤(n.inn.map Lo).length:=by rw[Ug];exact a
   have m:1≤(n.inn.map Hi).length:=by rw[Ug];exact a
   obtain⟨E,q,l⟩:=VZ.1 (LC o);obtain⟨F,s,A⟩:=VZ.1 (Gf m);have G:=(d E q).1;have H:=(d F s).2;rw[c.lo i n e,c.hi i n e,←l,←A];split<;>omega
theorem LD{l:List Int}{a:Int}{m:Nat}(d:a∈l)(h:l.idxOf a<m):a∈l.take m:=by
 have b:=XR d;have c:l[l.idxOf a]=a:=List.getElem_idxOf b;rw[Ya];refine⟨l.idxOf a,by rw[VV];omega,?_⟩;rw[List.getElem_take];exact c
theorem Ac{ns:List Nd}(q:(bK ns).length=ns.length){k:Nat}(l:k<(bK ns).length){i:Nat}{n:Nd}(e:(bK ns)[k]=(i:Int)+1)(m:ns[i]? =some n){j:Int}(o:j∈n.inn):j∈0::(bK ns).take k:=by
 have a:bM ns ns.length=0::bK ns:=dr ns ns.length;have f:=nt ns ns.length;have p:((i:Int)+1)∈bM ns ns.length:=by rw[a,←e];exact V0 _ (VN l)
 have b:=qd ns ns.length i n m p j o;have c:(bM ns ns.length).idxOf ((i:Int)+1)=k+1:=by
  have d:k+1<(bM ns ns.length).length:=by rw[a];simp only[VS];omega
  have:(bM ns ns.length)[k+1]=(i:Int)+1:=by
   have h:(bM ns ns.length)[k+1]? =some ((i:Int)+1):=by rw[a,List.getElem?_cons_succ,bo l,e]
   rw[bo d]at h;exact Option.some.inj h
  rw[←this];exact f.idxOf_getElem _ _
 rw[c]at b;have:=LD b.1 b.2;rw[a,List.take_succ_cons]at this;exact this
theorem vu{n:Nat}{V:Int→Int}{S:List Int}{x:Int}(h:V x=0):vals n V (S++[x])=vals n V S:=by
 refine I9 fun y _=> ?_;by_cases a:(y:Int)∈S
 ·rw[if_pos (by simp[a]),if_pos a]
 ·rw[if_neg a];by_cases b:(y:Int)=x
  ·rw[if_pos (by simp[b]),b,h]
  ·rw[if_neg (by simp[a,b])]
def jO(ns:List Nd)(x:Int):Nat:=match ns[(x-1).toNat]? with|some n=>n.cost|none=>0
theorem Ee{ns:List Nd}{i:Nat}{n:Nd}(h:ns[i]? =some n):jO ns ((i:Int)+1)=n.cost:=by
 unfold jO;rw[show((i:Int)+1-1).toNat=i by omega,h]
