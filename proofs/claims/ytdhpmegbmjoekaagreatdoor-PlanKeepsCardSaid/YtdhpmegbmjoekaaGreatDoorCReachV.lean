/- CGood CGood2 CReachV, in one text. -/
import Derived.Test.YtdhpmegbmjoekaaGreatDoorCMadeR
set_option linter.unusedVariables false
set_option linter.unusedSimpArgs false
namespace Go.Proofs.YtdhpmegbmjoekaaGreatDoor.G
open Go Go.Sh
section
theorem Lf {n:Nd} {ws:List Int} (c:ws.length=n.inn.length) (d:bv 1 16 ws) (e:dF n.kind 1 12) (f:cJ n.kind→2≤ws.length∧ws.length≤4) (j: ¬cJ n.kind→ws.length=1) (k:dF n.post 0 3) (l:n.post≠0→gY n.kind) (m:n.else0) (o:n.sized (ws.getD 0 0))
 (a:n.kind=7→ ∀x∈ws,x=ws.getD 0 0) (b:n.kind=8→hG ws≤16):n.chk ws=0:=by
 unfold Nd.chk;rw[if_neg (by rintro(h|h);exact h c;exact h d),if_neg,if_neg (fun h=>h o),if_neg (fun h=>h.2 (a h.1)),if_neg (fun h=>by have:=b h.1;omega)];rintro(h|h|h|h|h|h)
 ·exact h e
 ·exact h.2 (f h.1)
 ·exact h.2 (j h.1)
 ·exact h k
 ·exact h.2 (l h.1)
 ·exact h m
theorem a11:cn .i64 1 1=1:=by decide+kernel
theorem T6:cn .i64 0 1=0:=by decide+kernel
theorem UB:cn .i64 0 2=0:=by decide+kernel
theorem a22:cn .i64 2 2=2:=by decide+kernel
theorem a32:cn .i64 3 2=2:=by decide+kernel
theorem a31:cn .i64 3 1=1:=by decide+kernel
theorem T7:FL .i64 0 2=2:=by decide+kernel
theorem TF:FL .i64 1 2=3:=by decide+kernel
theorem Fg {a u x:Nd} {ws vs:List Int} (c:pG a u=some x) (j:gY a.kind) (K:a.chk ws=0) (L:u.chk vs=0):x.chk ws=0:=by
 obtain⟨n,Z,o,p,E,c6,q,c8,F,k,d,e⟩:=dc K;obtain⟨d1,d2,d3,d4,d5,d6,d7,d8,d9,l,G,H⟩:=dc L;have z: ¬cJ a.kind:=by rintro(h|h)<;>rcases j with b|b|b<;>omega
 have y:a.kind≠9∧a.kind≠10:=by rcases j with b|b|b<;>omega
 unfold pG at c;obtain⟨r,s,t,v,I,J⟩:=F;obtain⟨A,B,C,D,N,O,P,Q,S⟩:=k;obtain⟨_,_,_,_,T,U,V,X,Y⟩:=l;split at c
 ·rename_i f;cases c;refine Lf o n p (fun h=>absurd h z) q (by show dF 1 0 3;decide) (fun _=>j) ⟨r,s,t,v,.inl (.inr (by show cn .i64 1 1=1;exact a11)),.inr ?_⟩ ⟨A,B,C,D,T,U,P,Q,S⟩ d e;rcases J with h|h
  ·exfalso;rcases h with h|h
   ·exact y.1 h
   ·rw[f.2] at h;rw[UB] at h;exact absurd h (by decide)
  ·exact h
 ·split at c
  ·rename_i f;cases c;have m:a.post=0∨a.post=1:=by
    have:a.post=0∨a.post=1∨a.post=2∨a.post=3:=by have:=E;omega
    rcases this with h|h|h|h
    ·exact .inl h
    ·exact .inr h
    ·exfalso;have:=f.2;rw[h] at this;first|(rw[a22] at this;exact absurd this (by decide))|(rw[a32] at this;exact absurd this (by decide))
    ·exfalso;have:=f.2;rw[h] at this;first|(rw[a22] at this;exact absurd this (by decide))|(rw[a32] at this;exact absurd this (by decide))
   refine Lf o n p (fun h=>absurd h z) q ?_ (fun _=>j) ⟨r,s,t,v,?_,.inl (.inr ?_)⟩ ⟨A,B,C,D,N,O,V,X,Y⟩ d e
   ·show dF (FL .i64 a.post 2) 0 3;rcases m with h|h
    ·rw[h,T7];decide
    ·rw[h,TF];decide
   ·show IA a.kind (FL .i64 a.post 2)∨(a.mult=0∧a.shift=0);rcases m with h|h
    ·right;rcases I with b|b
     ·exfalso;rcases b with b|b
      ·exact y.2 b
      ·rw[h,T6] at b;exact absurd b (by decide)
     ·exact b
    ·left;right;rw[h,TF];exact a31
   ·show cn .i64 (FL .i64 a.post 2) 2=2;rcases m with h|h
    ·rw[h,T7];exact a22
    ·rw[h,TF];exact a32
  ·cases c
theorem Pu {a u x:Nd} {ws vs:List Int} (b:pG a u=some x) (k:gY a.kind) (e:a.chk ws=0) (j:u.chk vs=0):x.wid ws=a.wid ws:=by
 have h:=Fg b k e j;have f:=fH b;have d:x.width=a.width:=by
  unfold pG at b;split at b
  ·cases b;rfl
  ·split at b
   ·cases b;rfl
   ·cases b
 unfold Nd.wid;rw[if_neg (show ¬x.chk ws≠0 from fun c=>c h),if_neg (show ¬a.chk ws≠0 from fun c=>c e),f.2.1,d]
theorem Hg {a u x:Nd} (b:pG a u=some x):x.step=a.step∧x.size=a.size∧x.gap=a.gap∧x.left=a.left:=by
 unfold pG at b;split at b
 ·cases b;exact⟨rfl,rfl,rfl,rfl⟩
 ·split at b
  ·cases b;exact⟨rfl,rfl,rfl,rfl⟩
  ·cases b
theorem NA {a u x:Nd} (b:pG a u=some x) (rs:List Int):bY x rs=bY a rs:=by
 unfold bY;rw[(fH b).2.1,(Hg b).1]
def Nd.leftN (n:Nd):Int:=if n.kind=12 then n.size-1 else if dA n.kind then n.left else 0
def cL (l:List Int):Int:=l.foldl (fun x y=>if y<x then y else x) (l.getD 0 0)
def qI (l:List Int):Int:=l.foldl (fun x y=>if y>x then y else x) (l.getD 0 0)
structure Reach (ns:List Nd) (R Lo Hi:Int→Int):Prop where
 l0:Lo 0=0
 h0:Hi 0=0
 lo: ∀(i:Nat) (n:Nd),ns[i]? =some n→Lo ((i:Int)+1)=if 0<R ((i:Int)+1) then cL (n.inn.map Lo)-(n.inn.map R).getD 0 0*n.leftN else 0
 hi: ∀(i:Nat) (n:Nd),ns[i]? =some n→Hi ((i:Int)+1)=if 0<R ((i:Int)+1) then qI (n.inn.map Hi)+(n.inn.map R).getD 0 0*(n.span-1-n.leftN) else 0
section
variable {g:Gr} {W R Lo Hi:Int→Int} {pos pos':Int→Nat} {ns:List Nd} {out:Int} {M:LM} {i w:Nat} {na nu a':Nd} {st:CU}
theorem qN.same (r:bM {g with nodes:=ns,out:=out} W R pos) (I:gw ns out M pos') (s:qN ns out M i w na nu a' st):W ((w:Int)+1)=W ((i:Int)+1)∧R ((w:Int)+1)=R ((i:Int)+1):=by
 have c:=s.inn I;have n:nu.kind=10∨nu.kind=9:=(fH s.tk).2.2.2.2;have f:=r.chk w nu s.eu;have j:=r.wid w nu s.eu;have k:=r.rat w nu s.eu;have d:=r.rid w nu s.eu;rw[c] at f j k d;have b: ¬wide nu.kind:=by rintro(h|h)<;>omega
 refine⟨?_,?_⟩
 ·rw[j];unfold Nd.wid;rw[if_neg (fun h=>h f),if_neg b,if_neg (by omega),if_pos (by omega)];rfl
 ·have e:bY nu [R ((i:Int)+1)]=R ((i:Int)+1):=by
   have a: ¬(dW nu.kind∨nu.kind=5):=by
    rintro((h|h)|h)
    ·rcases h with h|h|h|h<;>omega
    ·omega
    ·omega
   have m: ¬dA nu.kind:=fun h=>a (.inl (.inl h));have all: ¬ ¬ ∀x∈[R ((i:Int)+1)],x=[R ((i:Int)+1)].getD 0 0:=fun h=>h fun x l=>by simpa using l
   unfold bY cE;rw[if_neg all,if_neg (fun h=>a h.2),if_neg (fun h=>a (.inr h)),if_neg m];show R ((i:Int)+1)*1=_;omega
  rw[d];exact e
theorem qN.node (I:gw ns out M pos') (s:qN ns out M i w na nu a' st) {q:Nat} {c:Nd} (en:st.1[q]? =Option.some c):
 ∃n m,ns[q]? =Option.some n∧(m=if q=i then a' else n)∧m.inn=n.inn∧c={m with inn:=c.inn}∧c.inn.length=n.inn.length∧(∀V:Int→Int,V ((w:Int)+1)=V ((i:Int)+1)→c.inn.map V=n.inn.map V)∧
  ∀j∈c.inn,j∈n.inn∨(j=(i:Int)+1∧((w:Int)+1)∈n.inn):=by
 rw[s.get] at en;obtain⟨n,d,e⟩:=V8.1 en;dsimp only at e;have b:(if q=i then a' else n).inn=n.inn:=by
  split
  ·rename_i h;subst h;have:=s.ea;rw[d] at this;cases this;exact(fH s.tk).1
  ·rfl
 refine⟨n,_,d,rfl,b,?_⟩;split at e
 ·subst e;exact⟨rfl,by rw[b],fun V _=>by rw[b],fun j a=> .inl (by rw[b] at a;exact a)⟩
 ·subst e;refine⟨rfl,?_,fun V l=> ?_,fun j a=> ?_⟩
  ·show(List.map _ _).length=_;rw[UT,b]
  ·show(List.map (yq ((w:Int)+1) ((i:Int)+1)) (if q=i then a' else n).inn).map V=_;rw[b,VP];refine U8 fun j _=> ?_;show V (yq _ _ j)=V j;by_cases h:j=(w:Int)+1
   ·rw[h,rZ,l]
   ·rw[oX h]
  ·have a:j∈List.map (yq ((w:Int)+1) ((i:Int)+1)) (if q=i then a' else n).inn:=a;rw[b] at a;obtain⟨k,f,rfl⟩:=U5.1 a;by_cases h:k=(w:Int)+1
   ·right;rw[h,rZ];exact⟨rfl,h▸f⟩
   ·left;rw[oX h];exact f
theorem qN.right (r:bM {g with nodes:=ns,out:=out} W R pos) (I:gw ns out M pos') (s:qN ns out M i w na nu a' st):bM {g with nodes:=st.1,out:=st.2.1} W R pos:=by
 obtain⟨A,z⟩:=s.same r I;have d:=s.inv I;have t:=s.len;obtain⟨D,E,F,G,N,O⟩:=bR r.first;have o:=s.inn I;have K:pos ((i:Int)+1)<pos ((w:Int)+1):=r.rank w nu s.eu _ (by rw[o];simp) (by omega);refine⟨vn ?_ F G ⟨d.out1,d.outn⟩ fun n J x L=> ?_,fun q f en j H h0=> ?_,r.w0,r.r0,fun q f en=> ?_,fun q f en=> ?_,fun q f en=> ?_,fun q f en=> ?_⟩
 ·show 1≤st.1.length∧st.1.length≤12;rw[t];exact⟨D,E⟩
 ·exact d.ranked.Inn n J x L
 ·obtain⟨n,m,a,y,C,e,B,k,b⟩:=s.node I en;rcases b j H with h|⟨rfl,h⟩
  ·exact r.rank q n a j h h0
  ·have:=r.rank q n a _ h (by omega);omega
 all_goals
  obtain⟨n,m,a,y,C,e,B,k,b⟩:=s.node I en;have p:f.inn.length=m.inn.length:=by rw[B,C]
  have l: ∀ws,n.chk ws=0→m.chk ws=0:=fun ws h=>by
   rw[y];split
   ·rename_i u;subst u;have:=s.ea;rw[a] at this;cases this;exact Fg s.tk s.we h (r.chk w nu s.eu)
   ·exact h
  have v: ∀ws,n.chk ws=0→m.wid ws=n.wid ws:=fun ws h=>by
   rw[y];split
   ·rename_i u;subst u;have:=s.ea;rw[a] at this;cases this;exact Pu s.tk s.we h (r.chk w nu s.eu)
   ·rfl
  have c: ∀rs,bY f rs=bY n rs:=fun rs=>by
   rw[e];show bY m rs=_;rw[y];split
   ·rename_i u;subst u;have:=s.ea;rw[a] at this;cases this;exact NA s.tk rs
   ·rfl
 ·rw[k W A,e,C3 p];exact l _ (r.chk q n a)
 ·rw[k W A,e,Mf p,v _ (r.chk q n a)];exact r.wid q n a
 ·rw[k R z,c];exact r.rat q n a
 ·rw[k R z,c];exact r.rid q n a
theorem qN.reach (r:bM {g with nodes:=ns,out:=out} W R pos) (I:gw ns out M pos') (c:Reach ns R Lo Hi) (s:qN ns out M i w na nu a' st):Reach st.1 R Lo Hi∧Lo ((w:Int)+1)=Lo ((i:Int)+1)∧Hi ((w:Int)+1)=Hi ((i:Int)+1):=by
 obtain⟨F,l⟩:=s.same r I;have d:=s.inn I;have G:nu.kind=10∨nu.kind=9:=(fH s.tk).2.2.2.2;have a:=c.lo w nu s.eu;have j:=c.hi w nu s.eu;have f:=c.lo i na s.ea;have t:=c.hi i na s.ea;rw[d] at a j;have B: ¬dA nu.kind:=by rintro(h|h|h|h)<;>omega
 have v:nu.leftN=0:=by unfold Nd.leftN;rw[if_neg (by omega),if_neg B]
 have es:nu.span=1:=by unfold Nd.span Bn;rw[if_neg (by omega),if_neg B]
 have lK: ∀x:Int,cL [x]=x:=fun x=>by
  show(if x<x then x else x)=x;split<;>rfl
 have k: ∀x:Int,qI [x]=x:=fun x=>by
  show(if x>x then x else x)=x;split<;>rfl
 have z:Lo ((w:Int)+1)=Lo ((i:Int)+1):=by
  rw[a,l];by_cases h:0<R ((i:Int)+1)
  ·rw[if_pos h,v];show cL [Lo ((i:Int)+1)]-_*0=_;rw[lK];omega
  ·rw[if_neg h,f,if_neg h]
 have y:Hi ((w:Int)+1)=Hi ((i:Int)+1):=by
  rw[j,l];by_cases h:0<R ((i:Int)+1)
  ·rw[if_pos h,v,es];show qI [Hi ((i:Int)+1)]+_*(1-1-0)=_;rw[k];omega
  ·rw[if_neg h,t,if_neg h]
 refine⟨⟨c.l0,c.h0,fun q u en=> ?_,fun q u en=> ?_⟩,z,y⟩
 all_goals
  obtain⟨n,m,b,C,J,e,H,o,A⟩:=s.node I en;have p:u.leftN=n.leftN∧u.span=n.span:=by
   rw[e];show m.leftN=_∧m.span=_;rw[C];split
   ·rename_i D;subst D;have:=s.ea;rw[b] at this;cases this;obtain⟨t1,t2,t3,E⟩:=Hg s.tk;unfold Nd.leftN Nd.span;rw[(fH s.tk).2.1,t2,t3,E];exact⟨rfl,rfl⟩
   ·exact⟨rfl,rfl⟩
 ·rw[o Lo z,o R l,p.1];exact c.lo q n b
 ·rw[o Hi y,o R l,p.1,p.2];exact c.hi q n b
def Nd.cost (n:Nd):Nat:=if gY n.kind then n.weights.length else 0
theorem qN.cost (I:gw ns out M pos') (s:qN ns out M i w na nu a' st):st.1.map Nd.cost=ns.map Nd.cost:=by
 apply Vo;intro q;rw[UW,UW];cases en:st.1[q]? with
 |none=>
  have b:=WP.1 en;rw[s.len] at b;rw[Vc b]
 |some p=>
  obtain⟨n,m,a,d,o,e,l,k,c⟩:=s.node I en;rw[a];simp only[Option.map_some];congr 1;rw[e];show m.cost=n.cost;rw[d];split
  ·rename_i f;subst f;have:=s.ea;rw[a] at this;cases this;obtain⟨_,h,j,_⟩:=fH s.tk;unfold Nd.cost;rw[h,j]
  ·rfl
end
theorem Fh {g:Gr} {W R Lo Hi:Int→Int} {pos:Int→Nat} {pos':Int→Nat}: ∀(k:Nat) (s:CU),gw s.1 s.2.1 s.2.2 pos'→bM {g with nodes:=s.1,out:=s.2.1} W R pos→Reach s.1 R Lo Hi→
 gw (de k s).1 (de k s).2.1 (de k s).2.2 pos'∧bM {g with nodes:=(de k s).1,out:=(de k s).2.1} W R pos∧Reach (de k s).1 R Lo Hi∧(de k s).1.map Nd.cost=s.1.map Nd.cost∧
  W (de k s).2.1=W s.2.1∧R (de k s).2.1=R s.2.1∧Lo (de k s).2.1=Lo s.2.1∧Hi (de k s).2.1=Hi s.2.1
 |0,s,I,r,c=>⟨I,r,c,rfl,rfl,rfl,rfl,rfl⟩
 |k+1,s,I,r,c=>by
  unfold de;cases e:ig s.1 s.2.1 s.2.2 with
  |none=>exact⟨I,r,c,rfl,rfl,rfl,rfl,rfl⟩
  |some t=>
   obtain⟨i,w,na,nu,a',st,_⟩:=mR I e;obtain⟨b,j,f⟩:=st.reach r I c;obtain⟨m,l⟩:=st.same r I;obtain⟨o,p,q,u,v,x,y,z⟩:=Fh k t (st.inv I) (st.right r I) b;have n:t.2.1=if s.2.1=(w:Int)+1 then(i:Int)+1 else s.2.1:=by rw[st.st]
   have a: ∀V:Int→Int,V ((w:Int)+1)=V ((i:Int)+1)→V t.2.1=V s.2.1:=fun V h=>by
    rw[n];split
    ·rename_i d;rw[d,h]
    ·rfl
   exact⟨o,p,q,u.trans (st.cost I),v.trans (a W m),x.trans (a R l),y.trans (a Lo j),z.trans (a Hi f)⟩
end
section
def cl (M:LM):Nat→Nat
 |0=>0
 |t+1=>if(M ((t:Int)+1)).isSome=true then cl M t+1 else cl M t
theorem vY (M:LM) (t:Nat):cl M (t+1)=if(M ((t:Int)+1)).isSome=true then cl M t+1 else cl M t:=rfl
theorem Rc (M:LM) (t:Nat):cl M t≤cl M (t+1):=by
 rw[vY];split<;>omega
theorem Rd (M:LM) {s t:Nat} (h:s≤t):cl M s≤cl M t:=by
 induction h with
 |refl=>exact U3 _
 |step _ a=>exact VZ a (Rc M _)
theorem Ms {M:LM} {i t:Nat} (h:i<t) (a:(M ((i:Int)+1)).isSome=true):cl M i<cl M t:=by
 have b:cl M (i+1)=cl M i+1:=by rw[vY,if_pos a]
 have:=Rd M (show i+1≤t from h);omega
theorem Pw (M:LM): ∀t,cl M t≤t
 |0=>U3 _
 |t+1=>by
  have:=Pw M t;rw[vY];split<;>omega
theorem Lg {M:LM} {i q:Nat} (hi:(M ((i:Int)+1)).isSome=true) (b:(M ((q:Int)+1)).isSome=true) (h:cl M i=cl M q):i=q:=by
 rcases Nat.lt_trichotomy i q with a|a|a
 ·have:=Ms a hi;omega
 ·exact a
 ·have:=Ms a b;omega
theorem vZ {M:LM}: ∀t k,k<cl M t→ ∃i,i<t∧(M ((i:Int)+1)).isSome=true∧cl M i=k
 |0,k,h=>absurd h (W3 _)
 |t+1,k,h=>by
  rw[vY] at h;by_cases c:(M ((t:Int)+1)).isSome=true
  ·rw[if_pos c] at h;by_cases e:k=cl M t
   ·exact⟨t,by omega,c,e.symm⟩
   ·obtain⟨i,d,a,b⟩:=vZ t k (show k<cl M t by omega);exact⟨i,by omega,a,b⟩
  ·rw[if_neg c] at h;obtain⟨i,d,a,b⟩:=vZ t k h;exact⟨i,by omega,a,b⟩
theorem mS (ns:List Nd) (M:LM): ∀t≤ns.length,(df ns M t).1.length=cl M t∧(df ns M t).2 0=some 0∧ ∀i<t,(M ((i:Int)+1)).isSome=true→(df ns M t).2 ((i:Int)+1)=some ((cl M i:Nat)+1:Int)∧(df ns M t).1[cl M i]? =ns[i]?
 |0,_=>⟨rfl,rfl,fun i h=>absurd h (W3 _)⟩
 |t+1,l=>by
  obtain⟨d,f,j⟩:=mS ns M t (by omega);obtain⟨n,en⟩: ∃n,ns[t]? =some n:=⟨_,aO (by omega)⟩;have e:df ns M (t+1)=if(M ((t:Int)+1)).isSome then((df ns M t).1++[n],wy (df ns M t).2 ((t:Int)+1) (((df ns M t).1.length+1:Nat):Int)) else df ns M t:=by
   conv=>lhs;unfold df
   rw[en]
  rw[e,vY];by_cases c:(M ((t:Int)+1)).isSome=true
  ·rw[if_pos c,if_pos c];refine⟨by rw[Rb,d];rfl,?_,fun i hi a=> ?_⟩
   ·dsimp only;unfold wy;rw[if_neg (by omega)];exact f
   ·by_cases b:i=t
    ·subst b;refine⟨?_,?_⟩
     ·dsimp only;unfold wy;rw[if_pos rfl,d];rfl
     ·dsimp only;rw[←d,VE,en]
    ·have:=j i (by omega) a;have k:=Ms (show i<t by omega) a;refine⟨?_,?_⟩
     ·dsimp only;unfold wy;rw[if_neg (by omega)];exact this.1
     ·dsimp only;rw[VC (by omega)];exact this.2
  ·rw[if_neg c,if_neg c];refine⟨d,f,fun i hi a=> ?_⟩;by_cases b:i=t
   ·subst b;exact absurd a c
   ·exact j i (by omega) a
theorem JL (ns:List Nd) (M:LM): ∀i,(df ns M i).1.Sublist (ns.take i)
 |0=>List.nil_sublist _
 |i+1=>by
  have a:=JL ns M i;unfold df;cases e:ns[i]? with
  |none=>
   dsimp only;have:ns.take (i+1)=ns.take i:=by
    have:=WP.1 e;rw[N6 (by omega),N6 (by omega)]
   rw[this];exact a
  |some n=>
   have hi:=(Pt.1 e).1;have en:ns[i]=n:=by rw[aO hi] at e;exact Option.some.inj e
   dsimp only;rw[py hi,en];split
   ·exact a.append (List.Sublist.refl _)
   ·exact a.trans (List.sublist_append_left _ _)
theorem Re {l m:List Nat} (h:l.Sublist m):l.sum≤m.sum:=by
 induction h with
 |slnil=>exact U3 _
 |cons a _ b=>rw[Xh];omega
 |cons_cons a _ b=>rw[Xh,Xh];omega
noncomputable def yv (M:LM) (n:Nat) (x:Int):Int:=by
 classical exact if h: ∃i:Nat,i<n∧(M ((i:Int)+1)).isSome=true∧((cl M i:Nat):Int)+1=x then((Classical.choose h:Nat):Int)+1 else 0
theorem nR (M:LM) (n:Nat):yv M n 0=0:=by
 unfold yv;rw[dif_neg];rintro⟨i,_,_,h⟩;omega
theorem yw {M:LM} {n i:Nat} (hi:i<n) (a:(M ((i:Int)+1)).isSome=true):yv M n (((cl M i:Nat):Int)+1)=(i:Int)+1:=by
 have h: ∃q:Nat,q<n∧(M ((q:Int)+1)).isSome=true∧((cl M q:Nat):Int)+1=((cl M i:Nat):Int)+1:=⟨i,hi,a,rfl⟩;unfold yv;rw[dif_pos h];obtain⟨_,b,c⟩:=Classical.choose_spec h;rw[Lg b a (by omega)]
section
variable {g:Gr} {W R Lo Hi:Int→Int} {pos pos':Int→Nat} {ns:List Nd} {out:Int} {M:LM}
theorem vv (I:gw ns out M pos') {i:Nat} (a:(M ((i:Int)+1)).isSome=true):kp (df ns M ns.length).2 ((i:Int)+1)=((cl M i:Nat):Int)+1:=by
 have b:=I.range a;unfold kp;rw[((mS ns M ns.length (U3 _)).2.2 i (by omega) a).1];rfl
theorem z5:kp (df ns M ns.length).2 0=0:=by
 unfold kp;rw[(mS ns M ns.length (U3 _)).2.1];rfl
theorem lR:(fp g (ns,out,M)).nodes.length=cl M ns.length:=by
 show(List.map _ _).length=_;rw[UT];exact(mS ns M ns.length (U3 _)).1
theorem Ii {i:Nat} {n:Nd} (a:(M ((i:Int)+1)).isSome=true) (en:ns[i]? =some n):(fp g (ns,out,M)).nodes[cl M i]? =some (n.ren (df ns M ns.length).2):=by
 have hi:=(Pt.1 en).1;show(List.map _ _)[_]? =_;rw[UW];show Option.map _ ((df ns M ns.length).1[cl M i]?)=_;rw[((mS ns M ns.length (U3 _)).2.2 i hi a).2,en];rfl
theorem vw {k:Nat} {d:Nd} (h:(fp g (ns,out,M)).nodes[k]? =some d): ∃(i:Nat) (n:Nd),(M ((i:Int)+1)).isSome=true∧cl M i=k∧ns[i]? =some n∧d=n.ren (df ns M ns.length).2:=by
 have c:=(Pt.1 h).1;rw[lR] at c;obtain⟨i,e,a,b⟩:=vZ _ _ c;obtain⟨n,en⟩: ∃n,ns[i]? =some n:=⟨_,aO e⟩;have:=Ii (g:=g) (out:=out) a en;rw[b,h] at this;exact⟨i,n,a,b,en,Option.some.inj this⟩
theorem Fi (I:gw ns out M pos') {i:Nat} {n:Nd} (b:(M ((i:Int)+1)).isSome=true) (en:ns[i]? =some n) {j:Int} (a:j∈n.inn):(M j).isSome=true:=(I.lv j).2 (((I.lv _).1 b).inn en a)
theorem qJ (I:gw ns out M pos') {i:Nat} {n:Nd} (c:(M ((i:Int)+1)).isSome=true) (en:ns[i]? =some n) (V:Int→Int):(n.ren (df ns M ns.length).2).inn.map (V ∘ yv M ns.length)=n.inn.map V:=by
 show(List.map (kp _) n.inn).map _=_;rw[VP];refine U8 fun j b=> ?_;have a:=Fi I c en b;have d:=I.range a;show V (yv _ _ (kp _ j))=V j;by_cases h0:j=0
 ·subst h0;rw[z5,nR]
 ·obtain⟨q,rfl⟩: ∃q:Nat,j=(q:Int)+1:=⟨(j-1).toNat,by omega⟩;rw[vv I a,yw (by omega) a]
theorem qz (I:gw ns out M pos') {j:Int} (a:(M j).isSome=true):0≤kp (df ns M ns.length).2 j∧kp (df ns M ns.length).2 j≤(cl M ns.length:Int)∧(0<j→1≤kp (df ns M ns.length).2 j):=by
 have b:=I.range a;by_cases h0:j=0
 ·subst h0;rw[z5];omega
 ·obtain⟨q,rfl⟩: ∃q:Nat,j=(q:Int)+1:=⟨(j-1).toNat,by omega⟩;have:=Ms (t:=ns.length) (by omega) a;rw[vv I a];omega
theorem yx (r:bM {g with nodes:=ns,out:=out} W R pos) (I:gw ns out M pos'):bM (fp g (ns,out,M)) (W ∘ yv M ns.length) (R ∘ yv M ns.length) (pos ∘ yv M ns.length):=by
 obtain⟨z,l,m,o,A,B⟩:=bR r.first;have h:(M out).isSome=true:=(I.lv _).2 .out;have f:=qz I h;have s:=I.out1;have a:=lR (g:=g) (ns:=ns) (out:=out) (M:=M);have q:=Pw M ns.length;have l:ns.length≤12:=l;refine r.map (yv M ns.length) (nR _ _) (vn ?_ m o ?_ fun u e x t=> ?_) rfl (fun x b d=> ?_) (fun k u en=> ?_)
 ·rw[a];have:=f.2.2 (by omega);omega
 ·rw[a];exact⟨f.2.2 (by omega),f.2.1⟩
 ·obtain⟨k,en⟩:=VN.1 e;obtain⟨i,n,b,d,c,rfl⟩:=vw en;obtain⟨j,p,rfl⟩:=U5.1 t;have:=qz I (Fi I b c p);rw[a];omega
 ·rw[a] at d;obtain⟨i,v,y,C⟩:=vZ (M:=M) ns.length (x-1).toNat (by omega);have:=yw v y;rw[show((cl M i:Nat):Int)+1=x by omega] at this;rw[this];omega
 ·obtain⟨i,n,b,d,c,rfl⟩:=vw en;have hi:=(Pt.1 c).1;refine⟨i,n,by rw[←d];exact yw hi b,c,rfl,?_⟩;have:=qJ I b c id;rw[W8] at this;exact this
theorem Lh (c:Reach ns R Lo Hi) (I:gw ns out M pos'):Reach (fp g (ns,out,M)).nodes (R ∘ yv M ns.length) (Lo ∘ yv M ns.length) (Hi ∘ yv M ns.length):=by
 refine⟨by show Lo (yv _ _ 0)=0;rw[nR];exact c.l0,by show Hi (yv _ _ 0)=0;rw[nR];exact c.h0,fun k f en=> ?_,fun k f en=> ?_⟩
 all_goals
  obtain⟨i,n,b,e,a,rfl⟩:=vw en;have hi:=(Pt.1 a).1;have d:yv M ns.length ((k:Int)+1)=(i:Int)+1:=by rw[←e];exact yw hi b
 ·rw[qJ I b a Lo,qJ I b a R];show Lo (yv _ _ _)=if 0<R (yv _ _ _) then _ else _
  rw[d];exact c.lo i n a
 ·rw[qJ I b a Hi,qJ I b a R];show Hi (yv _ _ _)=if 0<R (yv _ _ _) then _ else _
  rw[d];exact c.hi i n a
theorem JM (I:gw ns out M pos'):yv M ns.length (fp g (ns,out,M)).out=out:=by
 have a:(M out).isSome=true:=(I.lv _).2 .out;have b:=I.out1;have c:=I.outn;obtain⟨q,rfl⟩: ∃q:Nat,out=(q:Int)+1:=⟨(out-1).toNat,by omega⟩;show yv _ _ (kp _ _)=_;rw[vv I a,yw (by omega) a]
theorem NB:((fp g (ns,out,M)).nodes.map Nd.cost).sum≤(ns.map Nd.cost).sum:=by
 have h:=(JL ns M ns.length).map Nd.cost;rw[Wv] at h;have e:(fp g (ns,out,M)).nodes.map Nd.cost=(df ns M ns.length).1.map Nd.cost:=by
  show(List.map _ _).map _=_;rw[VP];rfl
 rw[e];exact Re h
theorem Rf (I:gw ns out M pos'): ∀y,Lv ns out y→Lv (fp g (ns,out,M)).nodes (fp g (ns,out,M)).out (kp (df ns M ns.length).2 y):=fun y d=>by
 induction d with
 |out=>exact .out
 | @inn i n j h en c b=>
   have a:=(I.lv _).2 h;rw[vv I a] at b;exact b.inn (Ii a en) (U2 c)
theorem JN (I:gw ns out M pos') {k:Nat} (b:k<(fp g (ns,out,M)).nodes.length):Lv (fp g (ns,out,M)).nodes (fp g (ns,out,M)).out ((k:Int)+1):=by
 rw[lR] at b;obtain⟨i,d,a,c⟩:=vZ _ _ b;have:=Rf (g:=g) I _ ((I.lv _).1 a);rw[vv I a,c] at this;exact this
theorem Hh: ∀(k i:Nat),qG ns out M k i=none→ ∀q,i≤q→q<i+k→gW ns out M q=none
 |0,i,_,q,a,b=>by omega
 |k+1,i,h,q,a,b=>by
  unfold qG at h;cases e:gW ns out M i with
  |some x=>rw[e] at h;cases h
  |none=>
   rw[e] at h;by_cases c:q=i
   ·rw[c];exact e
   ·exact Hh k (i+1) h q (by omega) (by omega)
theorem NC (r:bM {g with nodes:=ns,out:=out} W R pos) (I:gw ns out M pos') (hN:ig ns out M=none):cF (fp g (ns,out,M))=fp g (ns,out,M):=by
 have r2:=yx r I;have U:(fp g (ns,out,M)).look.e=0:=by rw[r2.look]
 have B:=vR U;have u: ∀k,k<(fp g (ns,out,M)).nodes.length→Lv (fp g (ns,out,M)).nodes (fp g (ns,out,M)).out ((k:Int)+1):=fun k E=>JN I E;have l: ∀k n',(fp g (ns,out,M)).nodes[k]? =some n'→ ∃(i:Nat) (n:Nd),(M ((i:Int)+1)).isSome=true∧cl M i=k∧ns[i]? =some n∧n'=n.ren (df ns M ns.length).2:=fun k n' h=>vw h;have K: ∀(i:Nat) (n:Nd),(M ((i:Int)+1)).isSome=true→ns[i]? =some n→(fp g (ns,out,M)).nodes[cl M i]? =some (n.ren (df ns M ns.length).2):=fun i n h1 h2=>Ii h1 h2;have y:(fp g (ns,out,M)).out=kp (df ns M ns.length).2 out:=rfl;generalize fp g (ns,out,M)=h at U B u l K y;obtain⟨b,G⟩: ∃b,lP h.nodes h.out=b:=⟨_,rfl⟩;rw[G] at B;have d: ∀k,k<h.nodes.length→(b ((k:Int)+1)).isSome=true:=fun k E=>(B.lv _).2 (u k E);have D:ig h.nodes h.out b=none:=by
  cases e:ig h.nodes h.out b with
  |none=>rfl
  |some st=>
   exfalso;obtain⟨i',w',ao,ap,aw,s,_⟩:=mR B e;obtain⟨i,na,li,ei,H,rfl⟩:=l i' ao s.ea;obtain⟨w,nu,lw,ew,p,rfl⟩:=l w' ap s.eu;have hi:=(Pt.1 H).1;have m:(nu.inn.map (kp (df ns M ns.length).2))=[(i':Int)+1]:=s.inn B;have z:=vv I li;have F: ∀j,(M j).isSome=true→kp (df ns M ns.length).2 j=(i':Int)+1→j=(i:Int)+1:=fun j x V=>by
    have X:=I.range x;by_cases h0:j=0
    ·subst h0;rw[z5] at V;omega
    ·obtain⟨q,rfl⟩: ∃q:Nat,j=(q:Int)+1:=⟨(j-1).toNat,by omega⟩;rw[vv I x] at V;rw[Lg x li (by omega)]
   have O:((i:Int)+1)∈nu.inn:=by
    have aa:nu.inn.length=1:=by have:=congrArg List.length m;simpa using this
    obtain⟨j,x⟩:=WH.1 aa;rw[x] at m ⊢;have Z:(M j).isSome=true:=Fi I lw p (by rw[x];simp);have:=F j Z (by simpa using m);rw[this];simp
   have A: ∀v:Nat,v<ns.length→(M ((v:Int)+1)).isSome=true→((i:Int)+1)∈innOf ns ((v:Int)+1)→v=w:=fun v hv T S=>by
    obtain⟨nv,J⟩: ∃n,ns[v]? =some n:=⟨_,aO hv⟩;rw[gk J] at S;have Q:=K v nv T J;have o:=(Pt.1 Q).1;have:=(s.live B).2 (cl M v) o (d _ o) (by
     rw[gk Q,←ei,←z];exact U2 S)
    exact Lg T lw (by omega)
   have hw:=(Pt.1 p).1;have m1:M ((i:Int)+1)=some 1:=by
    obtain⟨c,hc⟩:=We.1 li;have Y:=I.ct _ c (by omega) hc;have an:w∈jQ ns M ((i:Int)+1):=jR.2 ⟨hw,lw,by rw[gk p];exact O⟩;have ad:(jQ ns M ((i:Int)+1)).Nodup:=List.Pairwise.filter _ WX;have ab:=jW _ [w] ad fun v hv=>by
     obtain⟨v1,v2,v3⟩:=jR.1 hv;rw[A v v1 v2 v3];simp
    have ar:=List.length_pos_of_mem an;simp only[UY,Vf] at ab;rw[hc,Y,show(jQ ns M ((i:Int)+1)).length=1 by omega];rfl
   have ag:(i:Int)+1≠out:=fun ho=>s.no (by rw[y,←ho,z,ei]);obtain⟨w0,u1,u2,u3,u4,_⟩:=I.user (a:=(i:Int)+1) (by omega) m1;have ai:=A w0 u2 u3 u4;subst ai;have tk:(pG na nu).isSome=true:=by
    have:(pG (na.ren (df ns M ns.length).2) (nu.ren (df ns M ns.length).2)).isSome=true:=by rw[s.tk];rfl
    unfold pG at this ⊢;have k1:(nu.ren (df ns M ns.length).2).kind=nu.kind:=rfl;have k2:(na.ren (df ns M ns.length).2).post=na.post:=rfl;rw[k1,k2] at this;by_cases c1:nu.kind=10∧na.post=0
    ·rw[if_pos c1];rfl
    ·rw[if_neg c1] at this ⊢;by_cases c2:nu.kind=9∧cn .i64 na.post 2=0
     ·rw[if_pos c2];rfl
     ·rw[if_neg c2] at this;cases this
   have aj:gY na.kind:=s.we;have f:gW ns out M i=none:=Hh ns.length 0 hN i (V1 _) (by omega);unfold gW at f;rw[H] at f;dsimp only at f;rw[if_pos ⟨m1,ag,aj⟩,u1,show((w0:Int)+1-1).toNat=w0 by omega,p] at f;dsimp only at f;rw[Option.map_eq_none_iff] at f;rw[f] at tk;cases tk
 have C: ∀t,t≤h.nodes.length→cl b t=t:=fun t=>by
  induction t with
  |zero=>intro _;rfl
  |succ t ih=>
   intro ht;rw[vY,if_pos (d t (by omega)),ih (by omega)]
 have P:=mS h.nodes b h.nodes.length (U3 _);have N: ∀j:Int,0≤j→j≤(h.nodes.length:Int)→kp (df h.nodes b h.nodes.length).2 j=j:=fun j h0 h1=>by
  by_cases hz:j=0
  ·subst hz;exact z5
  ·obtain⟨q,rfl⟩: ∃q:Nat,j=(q:Int)+1:=⟨(j-1).toNat,by omega⟩;rw[vv B (d q (by omega)),C q (by omega)]
 have L:(df h.nodes b h.nodes.length).1=h.nodes:=by
  apply Vo;intro k;by_cases E:k<h.nodes.length
  ·have:=(P.2.2 k E (d k E)).2;rw[C k (by omega)] at this;exact this
  ·rw[Vc (by rw[P.1,C _ (U3 _)];omega),Vc (by omega)]
 have hf:de (h.nodes.length+1) (h.nodes,h.out,b)=(h.nodes,h.out,b):=by
  unfold de;rw[D]
 have X:=bR (A9 U).1;have hl:fp h (h.nodes,h.out,b)=h:=by
  unfold fp;have e1:(df h.nodes b h.nodes.length).1.map (Nd.ren (df h.nodes b h.nodes.length).2)=h.nodes:=by
   rw[L]
   conv=>rhs;rw[←W8 h.nodes]
   refine U8 fun n V=> ?_;have e2:n.inn.map (kp (df h.nodes b h.nodes.length).2)=n.inn:=by
    conv=>rhs;rw[←W8 n.inn]
    refine U8 fun j x=> ?_;have:=X.2.2.2.2.2 n V j x;exact N j this.1 this.2
   unfold Nd.ren;rw[e2];rfl
  have e3:kp (df h.nodes b h.nodes.length).2 h.out=h.out:=N _ (by have:=X.2.2.2.2.1;omega) X.2.2.2.2.1.2;show Gr.mk _ _ _ ((df h.nodes b h.nodes.length).1.map (Nd.ren (df h.nodes b h.nodes.length).2)) (kp (df h.nodes b h.nodes.length).2 h.out)=h;rw[e1,e3]
 unfold cF;rw[if_pos U,G,hf,hl]
end
theorem E5.none {s f:CU} (h:E5 s f):ig f.1 f.2.1 f.2.2=Option.none:=by
 induction h with
 |done h=>exact h
 |more _ _ a=>exact a
theorem Hj {g:Gr} {W R Lo Hi:Int→Int} (r:bM g W R (posG g.nodes)) (c:Reach g.nodes R Lo Hi): ∃(φ:Int→Int) (pos:Int→Nat),bM (cF g) (W ∘ φ) (R ∘ φ) pos∧Reach (cF g).nodes (R ∘ φ) (Lo ∘ φ) (Hi ∘ φ)∧W (φ (cF g).out)=W g.out∧R (φ (cF g).out)=R g.out∧Lo (φ (cF g).out)=Lo g.out∧Hi (φ (cF g).out)=Hi g.out∧
 (∀x,0≤x→x≤((cF g).nodes.length:Int)→0≤φ x∧φ x≤(g.nodes.length:Int))∧((cF g).nodes.map Nd.cost).sum≤(g.nodes.map Nd.cost).sum∧(∀k,k<(cF g).nodes.length→Lv (cF g).nodes (cF g).out ((k:Int)+1))∧cF (cF g)=cF g∧(cF g).nodes.length≤g.nodes.length:=by
 have m:g.look.e=0:=by rw[r.look]
 have I:=vR m;have f:=(E6 (g.nodes.length+1) (g.nodes,g.out,lP g.nodes g.out) I (Nat.lt_succ_of_le (Ml _ _))).none;have K:=Fh (g:=g) (g.nodes.length+1) (g.nodes,g.out,lP g.nodes g.out) I r c;have s:cF g=fp g (de (g.nodes.length+1) (g.nodes,g.out,lP g.nodes g.out)):=by unfold cF;rw[if_pos m]
 rw[s];generalize de (g.nodes.length+1) (g.nodes,g.out,lP g.nodes g.out)=F at f K;obtain⟨ns,out,M⟩:=F;obtain⟨a,j,l,h,n,o,p,q⟩:=K;dsimp only at a j l h n o p q f;have b:ns.length=g.nodes.length:=by have:=congrArg List.length h;simpa using this
 have d:=JM (g:=g) a;refine⟨yv M ns.length,_,yx j a,Lh l a,by rw[d];exact n,by rw[d];exact o,by rw[d];exact p,by rw[d];exact q,fun x h0 t=> ?_,?_,fun k u=>JN a u,NC j a f,?_⟩
 ·by_cases v:x=0
  ·subst v;rw[nR];omega
  ·rw[lR] at t;obtain⟨i,y,z,A⟩:=vZ (M:=M) ns.length (x-1).toNat (by omega);have:=yw y z;rw[show((cl M i:Nat):Int)+1=x by omega] at this;rw[this];omega
 ·rw[←h];exact NB
 ·rw[lR,←b];exact Pw _ _
end
section
theorem Bc {α:Type} {ns:List Nd} (h:(cC ns).length=ns.length) (p:α) (F:Nat→Nd→List α→α): ∃V:Int→α,V 0=p∧ ∀(i:Nat) (n:Nd),ns[i]? =some n→V ((i:Int)+1)=F i n (n.inn.map V):=by
 have key: ∀k,∃V:Int→α,V 0=p∧ ∀(i:Nat) (n:Nd),ns[i]? =some n→((i:Int)+1)∈bK ns k→V ((i:Int)+1)=F i n (n.inn.map V):=by
  intro k
  induction k with
  |zero=>exact⟨fun _=>p,rfl,fun i n _ hi=>by simp[bK] at hi;omega⟩
  |succ k u=>
   obtain⟨V,h0,b⟩:=u;rcases lL ns (bK ns k) with e|⟨q,m,s,r,y,e⟩
   ·rw[show bK ns (k+1)=bK ns k from e];exact⟨V,h0,b⟩
   ·have e:bK ns (k+1)=bK ns k++[(q:Int)+1]:=e;have a: ∀(v:α) (l:List Int),(∀j∈l,j∈bK ns k)→l.map (fun x=>if x=(q:Int)+1 then v else V x)=l.map V:=fun v l t=>U8 fun j f=>if_neg (fun(h:j=(q:Int)+1)=>r (h▸t j f));refine⟨fun x=>if x=(q:Int)+1 then F q m (m.inn.map V) else V x,by dsimp only;rw[if_neg (by omega)];exact h0,fun i n en hi=> ?_⟩;dsimp only;rw[e] at hi;by_cases c:((i:Int)+1)∈bK ns k
    ·have o: ¬((i:Int)+1=(q:Int)+1):=fun h=>r (h▸c);rw[a _ _ (fun j f=>(qF ns k i n en c j f).1),if_neg o];exact b i n en c
    ·have d:i=q:=by
      rcases UX.1 hi with h|h
      ·exact absurd h c
      ·simp only[SH] at h;omega
     subst d;rw[s] at en;cases en;rw[a _ _ y,if_pos rfl]
 obtain⟨V,h0,b⟩:=key ns.length;refine⟨V,h0,fun i n en=>b i n en ?_⟩;have:=(Pt.1 en).1;rw[dM];exact Vd _ (nO h (by omega) (by omega))
theorem JO {ns:List Nd} (h:(cC ns).length=ns.length) (R:Int→Int): ∃Lo Hi,Reach ns R Lo Hi:=by
 obtain⟨Lo,l0,b⟩:=Bc h 0 fun i n l=>if 0<R ((i:Int)+1) then cL l-(n.inn.map R).getD 0 0*n.leftN else 0
 obtain⟨Hi,h0,a⟩:=Bc h 0 fun i n l=>if 0<R ((i:Int)+1) then qI l+(n.inn.map R).getD 0 0*(n.span-1-n.leftN) else 0
 exact⟨Lo,Hi,l0,h0,b,a⟩
theorem Hk: ∀(l:List Int) (a:Int),l.foldl (fun x y=>if y<x then y else x) a=a∨l.foldl (fun x y=>if y<x then y else x) a∈l
 |[],a=> .inl rfl
 |y::r,a=>by
  rw[Wb];rcases Hk r (if y<a then y else a) with h|h
  ·rw[h];split
   ·exact .inr VG
   ·exact .inl rfl
  ·exact .inr (Vd _ h)
theorem JP: ∀(l:List Int) (a:Int),l.foldl (fun x y=>if y>x then y else x) a=a∨l.foldl (fun x y=>if y>x then y else x) a∈l
 |[],a=> .inl rfl
 |y::r,a=>by
  rw[Wb];rcases JP r (if y>a then y else a) with h|h
  ·rw[h];split
   ·exact .inr VG
   ·exact .inl rfl
  ·exact .inr (Vd _ h)
theorem nS {l:List Int} (h:1≤l.length):cL l∈l:=by
 have a:l.getD 0 0∈l:=by rw[cH (by omega)];exact UU _
 rcases Hk l (l.getD 0 0) with h|h
 ·unfold cL;rw[h];exact a
 ·exact h
theorem Hl {l:List Int} (h:1≤l.length):qI l∈l:=by
 have a:l.getD 0 0∈l:=by rw[cH (by omega)];exact UU _
 rcases JP l (l.getD 0 0) with h|h
 ·unfold qI;rw[h];exact a
 ·exact h
theorem eQ {n:Nd} {ws:List Int} (h:n.chk ws=0):(0≤n.size∧n.size≤8)∧(0≤n.gap∧n.gap≤4)∧(0≤n.leftN∧n.leftN≤31)∧(0≤n.span-1-n.leftN∧n.span-1-n.leftN≤31)∧(1≤n.span∧n.span≤32)∧(1≤cE n.kind n.step∧cE n.kind n.step≤4):=by
 obtain⟨x,y,z,A,B,C,D,E,m,e,k,l⟩:=dc h;obtain⟨f,p,_⟩:=m;obtain⟨j,r,_⟩:=e;have c:n.span=if n.kind=12 then n.size else if dA n.kind then(n.size-1)*n.gap+1 else 1:=rfl
 unfold Nd.leftN cE;rw[c];by_cases a:n.kind=12
 ·have b: ¬dA n.kind:=by rintro(h|h|h|h)<;>omega
  have:=j (.inr a);have:=f b;rw[if_pos a,if_pos a,if_neg b];omega
 ·rw[if_neg a,if_neg a];by_cases b:dA n.kind
  ·have G:=j (.inl b);have d:=r b;rw[c,if_neg a,if_pos b] at d;rw[if_pos b,if_pos b,if_pos b];obtain⟨⟨s,t⟩,⟨u,v⟩,⟨F,o⟩,_⟩:=d;have q:n.gap=1∨n.gap=2∨n.gap=3∨n.gap=4:=by omega
   rcases q with g|g|g|g<;>rw[g] at o ⊢ <;>omega
  ·have h0:=p ⟨b,a⟩;have:=f b;rw[if_neg b,if_neg b,if_neg b];omega
theorem z6 {a b:Nat} (h:a≤b):(4:Int) ^ a≤4 ^ b:=by
 have:=VT (show 0<4 by decide) h;exact_mod_cast this
theorem Fj {g:Gr} {W R:Int→Int} (r:bM g W R (posG g.nodes)): ∀(p:Nat) (x:Int),posG g.nodes x=p→0≤x→x≤(g.nodes.length:Int)→0≤R x∧R x≤4 ^ p:=by
 intro p
 induction p using Nat.strongRecOn with
 |ind p v=>
  intro x z h0 q;refine⟨r.rates h0 q,?_⟩;by_cases u:x=0
  ·subst u;rw[r.r0];have:=z6 (V1 p);simpa using this
  ·obtain⟨i,rfl⟩: ∃i:Nat,x=(i:Int)+1:=⟨(x-1).toNat,by omega⟩;obtain⟨n,en⟩: ∃n,g.nodes[i]? =some n:=⟨_,aO (by omega)⟩;have h:=r.chk i n en;have a:1≤n.inn.length:=by have:=(dc h).2.1;rw[UT] at this;exact this
   obtain⟨j,t,f⟩: ∃j t,n.inn=j::t:=by
    cases hn:n.inn with
    |nil=>rw[hn] at a;simp at a
    |cons j t=>exact⟨j,t,rfl⟩
   have k:j∈n.inn:=by rw[f];simp
   have b:=(bR r.first).2.2.2.2.2 n (UR en) j k;have s:=kN r.ordered en k;have e:=v (posG g.nodes j) (by omega) j rfl b.1 b.2;have d:=(eQ h).2.2.2.2.2;have m:=r.rat i n en;rw[r.rid i n en];have o:(n.inn.map R).getD 0 0=R j:=by rw[f];rfl
   have c:(4:Int) ^ (posG g.nodes j+1)≤4 ^ p:=z6 (by omega);rw[Ww] at c;have l:(1:Int)≤4 ^ p:=by have:=z6 (V1 p);simpa using this
   have y:R j*cE n.kind n.step≤4 ^ posG g.nodes j*4:=Vv e.2 d.2 (by omega) (by omega);unfold bY;rw[o];split
   ·omega
   ·split
    ·omega
    ·split
     ·omega
     ·omega
theorem JQ {g:Gr} {W R Lo Hi:Int→Int} (r:bM g W R (posG g.nodes)) (c:Reach g.nodes R Lo Hi): ∀(p:Nat) (x:Int),posG g.nodes x=p→0≤x→x≤(g.nodes.length:Int)→(-(p*2 ^ 30)≤Lo x∧Lo x≤p*2 ^ 30)∧(-(p*2 ^ 30)≤Hi x∧Hi x≤p*2 ^ 30):=by
 intro p
 induction p using Nat.strongRecOn with
 |ind p C=>
  intro x I h0 H;by_cases B:x=0
  ·subst B;rw[c.l0,c.h0];omega
  ·obtain⟨i,rfl⟩: ∃i:Nat,x=(i:Int)+1:=⟨(x-1).toNat,by omega⟩;obtain⟨n,en⟩: ∃n,g.nodes[i]? =some n:=⟨_,aO (by omega)⟩;have u:=r.chk i n en;have a:1≤n.inn.length:=by have:=(dc u).2.1;rw[UT] at this;exact this
   have e:=eQ u;have v:=(bR r.first).2.1;have f:0≤(n.inn.map R).getD 0 0∧(n.inn.map R).getD 0 0≤2 ^ 24:=by
    obtain⟨j,t,s⟩: ∃j t,n.inn=j::t:=by
     cases hn:n.inn with
     |nil=>rw[hn] at a;simp at a
     |cons j t=>exact⟨j,t,rfl⟩
    have h:j∈n.inn:=by rw[s];simp
    have b:=(bR r.first).2.2.2.2.2 n (UR en) j h;have:=Fj r _ j rfl b.1 b.2;have y:(4:Int) ^ posG g.nodes j≤4 ^ 12:=z6 (by have:=vQ g.nodes j;omega);have k:(n.inn.map R).getD 0 0=R j:=by rw[s];rfl
    rw[k];omega
   have m1:0≤(n.inn.map R).getD 0 0*n.leftN∧(n.inn.map R).getD 0 0*n.leftN≤2 ^ 24*31:=⟨Vw f.1 e.2.2.1.1,Vv f.2 e.2.2.1.2 e.2.2.1.1 (by omega)⟩;have J:0≤(n.inn.map R).getD 0 0*(n.span-1-n.leftN)∧(n.inn.map R).getD 0 0*(n.span-1-n.leftN)≤2 ^ 24*31:=⟨Vw f.1 e.2.2.2.1.1,Vv f.2 e.2.2.2.1.2 e.2.2.2.1.1 (by omega)⟩;have d: ∀j∈n.inn,(-((p-1:Int)*2 ^ 30)≤Lo j∧Lo j≤(p-1:Int)*2 ^ 30)∧(-((p-1:Int)*2 ^ 30)≤Hi j∧Hi j≤(p-1:Int)*2 ^ 30):=fun j h=>by
    have b:=(bR r.first).2.2.2.2.2 n (UR en) j h;have A:=kN r.ordered en h;have:=C (posG g.nodes j) (by omega) j rfl b.1 b.2;omega
   have m:1≤(n.inn.map Lo).length:=by rw[UT];exact a
   have l:1≤(n.inn.map Hi).length:=by rw[UT];exact a
   obtain⟨D,o,k⟩:=U5.1 (nS m);obtain⟨E,q,z⟩:=U5.1 (Hl l);have F:=(d D o).1;have G:=(d E q).2;rw[c.lo i n en,c.hi i n en,←k,←z];split<;>omega
theorem Li {l:List Int} {a:Int} {m:Nat} (d:a∈l) (h:l.idxOf a<m):a∈l.take m:=by
 have b:=WM d;have c:l[l.idxOf a]=a:=List.getElem_idxOf b;rw[Xa];refine⟨l.idxOf a,by rw[U0];omega,?_⟩;rw[List.getElem_take];exact c
theorem Bd {ns:List Nd} (p:(cC ns).length=ns.length) {k:Nat} (l:k<(cC ns).length) {i:Nat} {n:Nd} (e:(cC ns)[k]=(i:Int)+1) (en:ns[i]? =some n) {j:Int} (m:j∈n.inn):j∈0::(cC ns).take k:=by
 have a:bK ns ns.length=0::cC ns:=dM ns ns.length;have f:=yp ns ns.length;have o:((i:Int)+1)∈bK ns ns.length:=by rw[a,←e];exact Vd _ (UU l)
 have b:=qF ns ns.length i n en o j m;have c:(bK ns ns.length).idxOf ((i:Int)+1)=k+1:=by
  have d:k+1<(bK ns ns.length).length:=by rw[a];simp only[UY];omega
  have:(bK ns ns.length)[k+1]=(i:Int)+1:=by
   have h:(bK ns ns.length)[k+1]? =some ((i:Int)+1):=by rw[a,List.getElem?_cons_succ,aO l,e]
   rw[aO d] at h;exact Option.some.inj h
  rw[←this];exact f.idxOf_getElem _ _
 rw[c] at b;have:=Li b.1 b.2;rw[a,List.take_succ_cons] at this;exact this
theorem Hm {n:Nat} {V:Int→Int} {S:List Int} {x:Int} (h:V x=0):vals n V (S++[x])=vals n V S:=by
 refine Ju fun y _=> ?_;by_cases a:(y:Int)∈S
 ·rw[if_pos (by simp[a]),if_pos a]
 ·rw[if_neg a];by_cases b:(y:Int)=x
  ·rw[if_pos (by simp[b]),b,h]
  ·rw[if_neg (by simp[a,b])]
def Px (ns:List Nd) (x:Int):Nat:=match ns[(x-1).toNat]? with|some n=>n.cost|none=>0
theorem Py {ns:List Nd} {i:Nat} {n:Nd} (h:ns[i]? =some n):Px ns ((i:Int)+1)=n.cost:=by
 unfold Px;rw[show((i:Int)+1-1).toNat=i by omega,h]
end
end Go.Proofs.YtdhpmegbmjoekaaGreatDoor.G

