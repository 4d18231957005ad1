/- CKeep11 CKeep13, in one text. -/
import Derived.Test.YtdhpmegbmjoekaaGreatDoorCKeep10
import Derived.Test.YtdhpmegbmjoekaaGreatDoorCKeep12
set_option linter.unusedVariables false
set_option linter.unusedSimpArgs false
namespace Go.Proofs.YtdhpmegbmjoekaaGreatDoor.G
open Go Go.Sh
section
section
variable {h:af}
theorem Hz {a b:Fm} (r:a.ok) (u:b.ok) (S:a.fact.P h) (U:b.fact.P h) (hl:a.l<2 ^ 40) (e:a.fr=b.fr):au P mH #[.slice a.p a.l a.c,.slice b.p b.l b.c] h fun v R=>v= .bool true∧R=h:=by
 refine Cz _ _ _ _ _ _ ?_;unfold D0;have j:=Fm.frs r S;have q:=Fm.frs u U;have T:a.l=b.l:=by have E:=Fm.len r;have M:=Fm.len u;rw[e] at E;omega
 refine bh (fun d=>absurd (by omega) d) (fun _=> ?_);refine aP (fun C s g=>g=h∧ ∃t:Nat,s=((a.p,a.l,a.c),(b.p,b.l,b.c),(t:Int),())∧t≤a.l∧C=a.l-t) a.l ⟨rfl,0,rfl,by omega,rfl⟩ ?_;rintro C s g ⟨rfl,t,rfl,ht,rfl⟩;unfold wZ;dsimp only;refine am (fun W=> ?_) (fun V=>⟨rfl,rfl⟩);have m:t<a.l:=by omega
 obtain⟨x,F⟩: ∃s,a.ss[t]? =some s:=⟨_,aO (by have:=j.len;omega)⟩;obtain⟨y,G⟩: ∃s,b.ss[t]? =some s:=⟨_,aO (by have:=q.len;omega)⟩;have A:x.xs=y.xs:=by
  have E:a.fr[t]? =some x.xs:=gn F;have M:b.fr[t]? =some y.xs:=gn G;rw[e,M] at E;exact(Option.some.inj E).symm
 have L:=UR F;have Q:=UR G;have xl:x.xs.length=x.l:=(j.ok x L).1.1;have yl:y.xs.length=y.l:=(q.ok y Q).1.1;have aa:=(j.ok x L).2;have X:x.l=y.l:=by rw[←xl,←yl,A]
 obtain⟨Y,f⟩:=j.row.some_of (by rw[dL,j.len];omega);obtain⟨Z,i⟩:=q.row.some_of (by rw[dL,q.len];omega);have o:aD g (Y.add t)=some x.v:=by have:=j.row;rw[f] at this;exact this.cell (jJ F)
 have B:aD g (Z.add t)=some y.v:=by have:=q.row;rw[i] at this;exact this.cell (jJ G)
 refine aB f rfl m (aB i rfl (by omega) ?_);simp only[oe,US];refine ak (p:=x.p) (l:=x.l) (c:=x.c) o (ak (p:=y.p) (l:=y.l) (c:=y.c) B ?_);refine bh (fun d=>absurd (by omega) d) (fun _=> ?_);refine aP (fun C s D=>D=g∧ ∃k:Nat,s=((a.p,a.l,a.c),(b.p,b.l,b.c),(t:Int),(k:Int),())∧k≤x.l∧C=x.l-k) x.l ⟨rfl,0,rfl,by omega,rfl⟩ ?_;rintro C s D ⟨rfl,k,rfl,hk,rfl⟩;unfold wY;dsimp only;refine aB f rfl m ?_;simp only[oe,US];refine ak (p:=x.p) (l:=x.l) (c:=x.c) o (am (fun O=> ?_) (fun N=> ?_))
 ·have H:k<x.xs.length:=by omega
  have I:k<y.xs.length:=by omega
  have J:bI D x.p (az x.xs):=j.rows _ (U2 L);have K:bI D y.p (az y.xs):=q.rows _ (U2 Q);obtain⟨qx,w⟩:=J.some_of (by rw[av];omega);obtain⟨qy,z⟩:=K.some_of (by rw[av];omega);rw[w] at J;rw[z] at K;refine aB f rfl m (aB i rfl (by omega) ?_);refine ak (p:=x.p) (l:=x.l) (c:=x.c) o (aB w rfl (by omega) ?_);refine ae (n:=x.xs[k]) (J.cell (aI (aO H))) ?_;refine ak (p:=y.p) (l:=y.l) (c:=y.c) B (aB z rfl (by omega) ?_);refine ae (n:=y.xs[k]) (K.cell (aI (aO I))) ?_;refine bh (fun d=>absurd (by simp only[A]) d) (fun _=> ?_);rw[al (by omega)];exact⟨x.l-(k+1),by omega,by trivial,k+1,rfl,by omega,rfl⟩
 ·rw[al (by omega)];exact⟨a.l-(t+1),by omega,by trivial,t+1,rfl,by omega,rfl⟩
theorem NX {gv:Gv} (hw:1≤gv.width∧gv.width≤16) (ab:gv.low≤gv.high∧ -32768≤gv.low∧gv.high≤32767) {m:Nat} (hm:m<2 ^ 20) {p:Option Addr} {l c:Nat} {xs:List Int} (hx:bI h p (az xs)) (hl:xs.length=l) (aa:l<2 ^ 62):
 au P rv #[gv.v,.int .i64 (m:Int),.slice p l c] h fun v V=> ∃f:Fm,v=f.v∧f.ok∧f.l=m∧aJ h no V [f.fact] []:=by
 refine Ck _ _ _ _ _ ?_;unfold DB;have S:=(aJ.start h no).read (row p (az xs)) hx;refine aA (cs:=gv.cells) S fun z _ _ S=> ?_;dsimp only[Xj,Xi] at S;replace S:=(S.nil 1).reads0;dsimp only[Xj,Xi] at S;obtain⟨w,U⟩: ∃w:Nat,gv.width=(w:Int):=⟨gv.width.toNat,by omega⟩;have y: ∀{g:af} {Q O:List aY},aJ h no g (blk z gv.cells::Q) O→aD g ⟨z,0,none⟩=some (.int .i64 (w:Int)):=fun S=>by rw[←U];exact S.cell 0 rfl rfl
 refine aP (fun F s g=> ∃(t:Nat) (q:Option Addr) (d:Nat) (i:List Sl) (Z:List aY),s=((m:Int),(p,l,c),⟨z,0,none⟩,(q,t,d),(t:Int),())∧t≤m∧F=m-t∧(∀s∈i,(s.ok∧s.l<2 ^ 40)∧C8 Z s.row)∧
  aJ h no g [blk z gv.cells,own 1 q t d (ks i),bP Z] [row p (az xs)]) m ⟨0,none,0,[],[],rfl,by omega,rfl,by simp,S⟩ ?_
 clear S;rintro F s g ⟨t,q,d,i,Z,rfl,ht,rfl,r,S⟩;unfold wP;simp only[aQ,SI];refine am (fun ad=> ?_) (fun Y=> ?_)
 case refine_2=>
  have:t=m:=by omega
  subst this;obtain⟨f,G,q2,_,q4⟩:=Tj.of (yu (S.pw [1,2])) r;refine⟨f,G,q2,?_,q4⟩;have G:Value.slice q t d= .slice f.p f.l f.c:=G
  injection G with _ W _
  exact W.symm
 refine ae (y S) ?_;refine dQ S w rfl rfl rfl (by decide) (by omega) (by omega) fun A g2 _ S=> ?_;have o:(List.replicate w [Value.int .i64 0]).flatten=az (List.replicate w 0):=by rw[ib];simp[az]
 rw[o] at S;dsimp only[Xj,Xi] at S;simp only[oe]
 refine aP (fun F s g=> ∃(k:Nat) (B:List Int),s=((m:Int),(p,l,c),⟨z,0,none⟩,(q,t,d),(t:Int),(some ⟨A,0,none⟩,w,w),(k:Int),())∧k≤w∧F=w-k∧B.length=w∧
  aJ h no g [blk z gv.cells,own 1 q t d (ks i),bP Z,blk A (az B)] [row p (az xs)]) w ⟨0,List.replicate w 0,rfl,by omega,rfl,by simp,S⟩ ?_
 clear S;rintro F s g ⟨k,B,rfl,hk,rfl,x,S⟩;unfold wO;simp only[aQ,SI];refine ae (y S) (am (fun M=> ?_) (fun L=> ?_))
 ·refine ae (n:=gv.low) (S.cell 0 rfl rfl) (aB rfl rfl (by omega) ?_);simp only[oe,US,aQ,SI];refine aE S 3 rfl (by rw[av];omega) fun g3 _ S=> ?_;rw[bA] at S;dsimp only[List.set] at S;refine am (fun E=> ?_) (fun E=> ?_)
  ·refine ae (n:=gv.high) (S.cell 0 rfl rfl) (ae (n:=gv.low) (S.cell 0 rfl rfl) (ae (n:=gv.low) (S.cell 0 rfl rfl) (ae (y S) ⟨by omega,?_⟩)));have ag:0≤(t:Int)*(w:Int)∧(t:Int)*(w:Int)≤2 ^ 20*16:=⟨Vw (by omega) (by omega),Vv (by omega) (by omega) (by omega) (by omega)⟩;rw[al (n:=(t:Int)*(w:Int)) (by omega),al (n:=(t:Int)*(w:Int)+(k:Int)) (by omega)];have D:0≤Int.tmod ((t:Int)*(w:Int)+(k:Int)) (l:Int)∧Int.tmod ((t:Int)*(w:Int)+(k:Int)) (l:Int)<(l:Int):=by
    rw[Int.tmod_eq_emod_of_nonneg (by omega)];exact⟨Wx _ (by omega),WD _ (by omega)⟩
   obtain⟨j,T⟩: ∃j:Nat,Int.tmod ((t:Int)*(w:Int)+(k:Int)) (l:Int)=(j:Int):=⟨(Int.tmod ((t:Int)*(w:Int)+(k:Int)) (l:Int)).toNat,by omega⟩;rw[T] at D ⊢;have J:=S.row 0 rfl;obtain⟨xa,C⟩:=J.some_of (by rw[av];omega);rw[C] at J;have I:j<xs.length:=by omega
   refine aB C (k:=j) rfl (by omega) ?_;refine ae (n:=xs[j]) (by simp only[oe,US];exact J.cell (aI (aO I))) ?_;have N:IntKind.wrap .i64 (IntKind.wrap .i64 (gv.high-gv.low)+1)≠0:=by rw[al (n:=gv.high-gv.low) (by omega),al (by omega)];omega
   refine⟨N,N,aB rfl (k:=k) rfl (by omega) ?_⟩;simp only[oe,US,aQ,SI];refine aE S 3 rfl (by rw[av,U1];omega) fun g4 _ S=> ?_;rw[bA] at S;dsimp only[List.set] at S;rw[al (n:=(k:Int)+1) (by omega)];exact⟨w-(k+1),by omega,k+1,_,rfl,by omega,rfl,by rw[U1,U1];exact x,S⟩
  ·rw[al (n:=(k:Int)+1) (by omega)];exact⟨w-(k+1),by omega,k+1,_,rfl,by omega,rfl,by rw[U1];exact x,S⟩
 ·refine yB S 1 rfl (by decide) (by omega) fun b q' R g5 S=> ?_;dsimp only[List.set,Xi,Xj] at S;have K:=S.turn 3 rfl ((⟨some ⟨A,0,none⟩,w,w,B⟩:Sl).row) (fun H=>bI.of_at H) (fun j hj=>by obtain⟨_,a,X,rfl⟩:=hj;cases X;rfl);dsimp only[List.set] at K;have S3:=K.joinR [0,1] 2 3 rfl rfl;dsimp only[Sh.pick,Xi,Xj,List.getElem?_cons_zero,List.getElem?_cons_succ] at S3;rw[al (n:=(t:Int)+1) (by omega)];refine⟨m-(t+1),by omega,t+1,q',R,i++[⟨some ⟨A,0,none⟩,w,w,B⟩],_,rfl,by omega,rfl,fun s u=> ?_,by
   have e:ks (i++[⟨some ⟨A,0,none⟩,w,w,B⟩])=ks i++[.slice (some ⟨A,0,none⟩) w w]:=by simp[ks]
   rw[e];exact S3⟩
  rcases UX.1 u with u|u
  ·exact⟨(r s u).1,(r s u).2.left⟩
  ·simp only[SH] at u;subst u;exact⟨⟨⟨x,U3 _⟩,by show w<2 ^ 40;omega⟩,C8.last⟩
end
end
section
theorem nW {a x:Nd} (b:x.kind=a.kind) (f:x.size=a.size) (g:x.step=a.step) (j:x.gap=a.gap) (m:x.left=a.left) (n:x.right=a.right):(∀c,eJ x c=eJ a c)∧(∀c,iB x c=iB a c)∧(∀i,nU x i=nU a i)∧Ad x=Ad a:=by
 have k:x.span=a.span:=by unfold Nd.span;rw[b,f,j]
 have d:x.leftN=a.leftN:=by unfold Nd.leftN;rw[b,f,m]
 have l:x.rightN=a.rightN:=by unfold Nd.rightN;rw[b,n]
 have e: ∀t,lS x t=lS a t:=fun t=>by unfold lS;rw[k,d,b,g]
 refine⟨fun c=> ?_,fun c=> ?_,fun i=> ?_,?_⟩
 ·unfold eJ;rw[b,l,e]
 ·unfold iB;rw[b,e]
 ·unfold nU;rw[b,g,d]
 ·unfold Ad;rw[b,j]
theorem HA {a x:Nd} (c:x.kind=a.kind) (d:x.size=a.size) (g:x.step=a.step) (j:x.gap=a.gap) (k:x.left=a.left) (l:x.right=a.right) (b:List (List (List Int))) (w i:Nat):jY x b w i=jY a b w i:=by
 obtain⟨_,_,e,f⟩:=nW c d g j k l;unfold jY;rw[c,d,e,f]
theorem yD {u:Nd} (a:u.kind=10∨u.kind=9): ¬dW u.kind∧ ¬cJ u.kind∧u.kind≠5∧ ¬gY u.kind∧u.kind≠8∧u.kind≠11:=by
 refine⟨?_,?_,by omega,?_,by omega,by omega⟩
 ·rintro((h|h|h|h)|h)<;>omega
 ·rintro(h|h)<;>omega
 ·rintro(h|h|h)<;>omega
theorem B6 {u:Nd} (c:u.kind=10∨u.kind=9) (x:Int):iB u [x]=x∧eJ u [x]=x:=by
 obtain⟨a,_,b,_⟩:=yD c;unfold iB eJ;rw[if_neg (fun h=>a h.1),if_neg b,if_neg (fun h=>a h.1),if_neg (fun h=>b h.1),Lx];exact⟨rfl,rfl⟩
theorem Iz {a x:Nd} (d:x.kind=a.kind) (e:x.weights=a.weights) (f:x.bias=a.bias) (b:List (List Int)) (m w c:Nat): ∀j,wj x b m w c j=wj a b m w c j
 |0=>by show x.bias.getD c 0=a.bias.getD c 0;rw[f]
 |j+1=>by
  have g: ∀(y:Int) (k:Nat),wk x b m w c j y k=wk a b m w c j y k:=fun y k=>by
   induction k with
   |zero=>rfl
   |succ k i=>
    unfold wk;rw[i,d,e]
  show wk x b m w c j (wj x b m w c j) w=wk a b m w c j (wj a b m w c j) w;rw[Iz d e f b m w c j,g]
theorem NY {a:Nd} (b:cn .i64 a.post 2=0) (y:Int):B4 (fA a y):=by
 have e:fA a y=if cn .i64 a.post 1=1 then jc (dZ y) a.mult a.shift else dZ y:=by
  unfold fA;dsimp only;have c: ¬cn .i64 a.post 2=2:=by rw[b];decide
  rw[if_neg c]
 rw[e];unfold B4;split
 ·have:=HG (dZ y) a.mult a.shift;omega
 ·have:=tN y;omega
theorem NZ {a u x:Nd} {ws:List Int} (i:pG a u=some x) (g:a.chk ws=0) (y:Int):fA x y=kH u [fA a y]:=by
 have l:[fA a y].getD 0 0=fA a y:=rfl;rcases sk i with ⟨f,b,rfl⟩|⟨f,b,rfl⟩
 ·have e:kH u [fA a y]=jc (fA a y) u.mult u.shift:=by
   unfold kH;rw[if_neg (by omega),if_neg (by omega),if_neg (by omega),if_neg (by omega),if_neg (by omega),if_neg (by omega),if_pos f];rfl
  have d:fA a y=dZ y:=by
   unfold fA;dsimp only;have k: ¬cn .i64 a.post 1=1:=by rw[(FC b).1];decide
   have c: ¬cn .i64 a.post 2=2:=by rw[(FC b).2];decide
   rw[if_neg c,if_neg k]
  rw[e,d];unfold fA;dsimp only;have c: ¬cn .i64 1 2=2:=by decide+kernel
  rw[if_neg c,if_pos a11]
 ·have e:kH u [fA a y]=fz (fA a y) u.low u.high:=by
   unfold kH;rw[if_neg (by omega),if_neg (by omega),if_neg (by omega),if_neg (by omega),if_neg (by omega),if_pos f];rfl
  have c: ¬cn .i64 a.post 2=2:=by rw[b];decide
  have d:fA a y=if cn .i64 a.post 1=1 then jc (dZ y) a.mult a.shift else dZ y:=by
   unfold fA;dsimp only;rw[if_neg c]
  rw[e,d];unfold fA;dsimp only;rcases PK g b with h|h
  ·rw[h,T7,if_pos a22];have m1: ¬cn .i64 2 1=1:=by decide+kernel
   have j: ¬cn .i64 0 1=1:=by rw[T6];decide
   rw[if_neg m1,if_neg j]
  ·rw[h,TF,if_pos a32,if_pos a31,if_pos a11]
theorem PZ {a u x:Nd} {ws vs:List Int} (z:pG a u=some x) (T:gY a.kind) (y:a.chk ws=0) (A:x.chk vs=0):a.chk vs=0:=by
 obtain⟨d,B,l,m,U,C,V,W,D,g⟩:=mT z;obtain⟨J,K,L,p,q,M,N,r,s,e,n,o⟩:=dc y;obtain⟨t,O,i,P,Q,j,k,R,S,f,b,c⟩:=dc A;rw[B] at i;rw[d] at j k b c;refine Lf i t p j k q r s ?_ b c;have es:x.span=a.span:=by unfold Nd.span;rw[d,m,C]
 have v: ∀w,x.wcount w=a.wcount w:=fun w=>by unfold Nd.wcount;rw[d,l,m]
 obtain⟨E,F,G,X,H⟩:=e;obtain⟨t1,t2,t3,I,Y⟩:=f;refine⟨E,F,G,fun h=> ?_,H⟩;have:=I (by rw[d];exact h);rw[D,g,d,l,v] at this;exact this
theorem P3 {a u x:Nd} {ws:List Int} (g:pG a u=some x) (j:gY a.kind) (n:a.chk ws=0) (o:u.chk [a.wid ws]=0) (l:List (List Int)):og x l↔og a l:=by
 obtain⟨i,q,s,r,t,v,w,y,z,p⟩:=mT g;have m:cO x l=cO a l:=by unfold cO;rw[i]
 have k:wz x l.length↔wz a l.length:=by unfold wz;rw[i,q,r]
 unfold og;rw[m,k,i];constructor
 ·rintro⟨b,c,d,e,f⟩;exact⟨b,c,d,e,PZ g j n f⟩
 ·rintro⟨b,c,d,e,f⟩;exact⟨b,c,d,e,Fg g j f o⟩
theorem Rz {a:Nd} {ws:List Int} (d:gY a.kind) (c:a.chk ws=0):a.wid ws=(a.bias.length:Int):=by
 have b:=((dc c).2.2.2.2.2.2.2.2.2.1.2.2.2.1 d).2.1;unfold Nd.wid;rw[if_neg (fun h=>h c)];rcases d with h|h|h
 ·rw[if_pos (.inl h),b,if_neg (by omega)]
 ·rw[if_neg (by rintro(e|e)<;>omega),if_neg (by omega),if_pos (by omega),b,if_pos h]
 ·rw[if_pos (.inr h),b,if_neg (by omega)]
theorem LG {a u x:Nd} {ws:List Int} (i:pG a u=some x) (n:gY a.kind) (q:a.chk ws=0) (w:u.chk [a.wid ws]=0) (l:List (List Int)):dv x l=dv u [dv a l]:=by
 have v:u.kind=10∨u.kind=9:=(fH i).2.2.2.2;obtain⟨G,A,H,I,J,K⟩:=yD v;obtain⟨C,M,N,O,P,Q,R,S,L,j⟩:=mT i;have b:=P3 i n q w l;have d: ∀f:List Int,cO u [f]=[(f.length:Int)]:=fun f=>by unfold cO;rw[if_neg A];rfl
 by_cases m:og a l
 ·have o:dv x l=cU x l:=by unfold dv;rw[if_pos (b.2 m),if_pos (by rw[C];exact n)]
  have p:dv a l=cU a l:=by unfold dv;rw[if_pos m,if_pos n]
  rw[o,p];have r:cn .i64 a.post 2=0:=by
   rcases sk i with ⟨_,t,_⟩|⟨_,t,_⟩
   ·exact(FC t).2
   ·exact t
  have B:(cU a l).length=a.bias.length:=by unfold cU;rw[UT,V2]
  have s:og u [cU a l]:=by
   refine⟨⟨fun h=>absurd h G,fun h=>absurd h H,fun h=>absurd h A,fun _ _ _=>rfl⟩,fun f g y z=> ?_,fun _ f g=> ?_,by simp,?_⟩
   ·simp only[SH] at g;subst g;unfold cU at z;obtain⟨c,_,rfl⟩:=U5.1 z;exact NY r _
   ·simp only[SH] at g;subst g;rfl
   ·rw[d,B,←Rz n q];exact w
  have D:dv u [cU a l]=Hx u [cU a l]:=by unfold dv;rw[if_pos s,if_neg I,if_neg J,if_neg K]
  rw[D];unfold Hx;show cU x l=(List.range (cU a l).length).map fun k=>kH u [(cU a l).getD k 0];rw[B];have F:cU x l=(List.range a.bias.length).map fun c=>fA x (wj x l l.length (l.getD 0 []).length c l.length):=by unfold cU;rw[j]
  rw[F];refine U8 fun c e=> ?_;rw[VD] at e;have E:(cU a l).getD c 0=fA a (wj a l l.length (l.getD 0 []).length c l.length):=by
   unfold cU;rw[UV,UW,Vj e];rfl
  rw[E,Iz C L j];exact NZ i q _
 ·have o:dv x l=[]:=by unfold dv;rw[if_neg (fun h=>m (b.1 h))]
  have p:dv a l=[]:=by unfold dv;rw[if_neg m]
  rw[o,p];unfold dv;rw[if_neg];intro h;have e:=h.2.2.2.2;rw[d] at e;have:=(dc e).1 0 (by simp);omega
theorem N0:SD (α:=Int) fun n b w=>iB n b:=by
 refine⟨fun n l b w o=> ?_,fun a u x ws b w c q m p=> ?_⟩
 ·exact(nW (x:={n with inn:=l}) (a:=n) rfl rfl rfl rfl rfl rfl).2.1 b
 ·obtain⟨d,r,s,f,g,i,j,k,t,e⟩:=mT c;rw[(nW d f g i j k).2.1,(B6 (fH c).2.2.2.2 _).1]
theorem N1 (n:Nd) {l:List Int} (h:l.length=n.inn.length) (b:List (List Int)):dv {n with inn:=l} b=dv n b:=by
 have f: ∀ws,({n with inn:=l}:Nd).chk ws=n.chk ws:=fun ws=>C3 h ws;have e:og {n with inn:=l} b↔og n b:=by
  unfold og;rw[f];have g:wz {n with inn:=l} b.length↔wz n b.length:=by
   unfold wz;dsimp only;rw[h]
  rw[g];exact Iff.rfl
 have i:cU {n with inn:=l} b=cU n b:=by
  unfold cU;refine U8 fun c _=> ?_;rw[Iz (x:={n with inn:=l}) (a:=n) rfl rfl rfl];rfl
 unfold dv;by_cases d:og n b
 ·rw[if_pos d,if_pos (e.2 d),i];rfl
 ·rw[if_neg d,if_neg (fun h=>d (e.1 h))]
theorem LI:SD (α:=List (List Int)) fun n b w=>jZ n b w.toNat:=by
 refine⟨fun n l b w t=> ?_,fun a u x ws b w d y s v=> ?_⟩
 ·unfold jZ;rw[(nW (x:={n with inn:=l}) (a:=n) rfl rfl rfl rfl rfl rfl).1];refine U8 fun i _=> ?_;rw[N1 n t,HA (x:={n with inn:=l}) (a:=n) rfl rfl rfl rfl rfl rfl]
 ·obtain⟨f,G,H,g,j,k,m,o,I,B⟩:=mT d;have c:=(fH d).2.2.2.2;obtain⟨z,C,A,D,E,F⟩:=yD c;have e:eJ u (iI [jZ a b w.toNat])=((eJ a (iI b)).toNat:Int):=by
   show eJ u [((jZ a b w.toNat).length:Int)]=_;rw[(B6 c _).2,Ae]
  have p:jZ u [jZ a b w.toNat] (a.wid ws).toNat=(List.range (eJ a (iI b)).toNat).map fun i=>dv u (jY u [jZ a b w.toNat] (a.wid ws).toNat i):=by
   unfold jZ;unfold jZ at e;rw[e,oe]
  rw[p];have q: ∀i,i<(eJ a (iI b)).toNat→jY u [jZ a b w.toNat] (a.wid ws).toNat i=[dv a (jY a b w.toNat i)]:=fun i hi=>by
   have eu: ∀X:List (List Int),jY u [X] (a.wid ws).toNat i=[X.getD i []]:=fun X=>by unfold jY;rw[if_neg z,if_neg A];rfl
   rw[eu];unfold jZ;rw[UV,UW,Vj hi];rfl
  have r:jZ x b w.toNat=(List.range (eJ a (iI b)).toNat).map fun i=>dv x (jY x b w.toNat i):=by unfold jZ;rw[(nW f g j k m o).1]
  rw[r];refine U8 fun i hi=> ?_;rw[VD] at hi;rw[q i hi,HA f g j k m o,LG d y s v]
theorem Ki {g:Gr} {W R W':Int→Int} {pos:Int→Nat} (r:bM g W R pos) {V:Int→List (List Int)} (u:PO g.nodes W' V) {C:Int→Int} (m:C 0=((V 0).length:Int)) (t: ∀(i:Nat) (n:Nd),g.nodes[i]? =some n→C ((i:Int)+1)=iB n (n.inn.map C)):
 ∀(p:Nat) (x:Int),posG g.nodes x=p→0≤x→x≤(g.nodes.length:Int)→(V x).length≤(V 0).length+64*p∧0≤C x∧C x≤((V x).length:Int):=by
 intro p
 induction p using Nat.strongRecOn with
 |ind p z=>
  intro x F h0 E;by_cases y:x=0
  ·subst y;rw[m];omega
  ·obtain⟨i,rfl⟩: ∃i:Nat,x=(i:Int)+1:=⟨(x-1).toNat,by omega⟩;obtain⟨n,en⟩: ∃n,g.nodes[i]? =some n:=⟨_,aO (by omega)⟩;have k:=r.chk i n en;have f:1≤n.inn.length:=by have:=(dc k).2.1;rw[UT] at this;exact this
   have a: ∀j∈n.inn,(V j).length≤(V 0).length+64*(p-1)∧0≤C j∧C j≤((V j).length:Int)∧1≤p:=fun j b=>by
    have e:=(bR r.first).2.2.2.2.2 n (UR en) j b;have w:=kN r.ordered en b;have:=z (posG g.nodes j) (by omega) j rfl e.1 e.2;omega
   have v:1≤p:=by
    obtain⟨j,b⟩:=List.exists_mem_of_length_pos (l:=n.inn) (by omega);exact(a j b).2.2.2
   have o:iI (n.inn.map V)=n.inn.map fun j=>((V j).length:Int):=by unfold iI;rw[VP];rfl
   have A:=lT k (cs:=iI (n.inn.map V)) (B:=(((V 0).length+64*(p-1):Nat):Int)) (by omega) (fun c d=>by
    rw[o] at d;obtain⟨j,b,rfl⟩:=U5.1 d;have:=(a j b).1;omega)
   have q:=lT k (cs:=n.inn.map C) (B:=(((V 0).length+64*(p-1):Nat):Int)) (by omega) (fun c d=>by
    obtain⟨j,b,rfl⟩:=U5.1 d;have:=a j b;omega)
   have s:(V ((i:Int)+1)).length=(eJ n (iI (n.inn.map V))).toNat:=by rw[u i n en,Ae]
   have rc:=Kc k (js:=n.inn) (C:=C) (D:=fun j=>((V j).length:Int)) f (fun j b=>⟨(a j b).2.1,(a j b).2.2.1⟩);rw[←o] at rc;rw[t i n en,s];omega
end
end Go.Proofs.YtdhpmegbmjoekaaGreatDoor.G

