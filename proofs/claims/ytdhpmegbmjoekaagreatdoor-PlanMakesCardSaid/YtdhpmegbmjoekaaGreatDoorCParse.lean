/- The plain law of the model's bytes: what is written is read, what is read is written. -/
import Derived.Test.YtdhpmegbmjoekaaGreatDoorCDec3
import Derived.Test.YtdhpmegbmjoekaaGreatDoorCSameG
namespace Go.Proofs.YtdhpmegbmjoekaaGreatDoor.G
open Go Go.Sh
open Go.IntKind renaming wrap→kn
set_option linter.unusedVariables false
set_option linter.unusedSimpArgs false
theorem HH: ∀a:List UInt8,low (sw a) a.length=a
 |[]=>rfl
 |b::r=>by
  have e:=HH r;have f:=b.toNat_lt;have c:(sw (b::r)) / 256=sw r:=by simp only[sw];omega
  have d:kH (sw (b::r))=b:=by
   unfold kH;have:sw (b::r) % 256=b.toNat:=by simp only[sw];omega
   rw[this,hC,UInt8.ofNat_toNat]
  show kH (sw (b::r))::low (sw (b::r) / 256) r.length=b::r;rw[c,d,e]
theorem MJ(x:Int)(n:Nat):low (x % 256 ^ n) n=low x n:=by
 have h:=HH (low x n);rw[Hb,ce]at h;exact h
theorem OC{x y:Int}{n:Nat}(h:x % 256 ^ n=y % 256 ^ n):low x n=low y n:=by rw[←MJ x,h,MJ]
section
variable {s r:List UInt8} {k:Nat} {t:St}
theorem Gp{x:Int}{n:Nat}(h:s.drop k=low x n++r):rget s ⟨k,0⟩ n=(x % 256 ^ n,⟨k+n,0⟩)∨n=0:=by
 by_cases b:n=0
 ·exact .inr b
 refine .inl ?_;have a:=congrArg List.length h;rw[Wh,Tz,ce]at a;unfold rget;rw[if_neg (by simp),if_neg (by simp only;omega)];rw[h,W6 (by rw[ce];omega),py (by rw[ce];omega),Hb]
theorem Gq{a:List UInt8}(h:s.drop k=a++r):s.drop (k+a.length)=r:=by
 rw[←XT,h,List.drop_append_of_le_length (VX _),Wj (VX _),Yh]
theorem HI{x:Int}{n:Nat}(g:0<n)(f:n≤8)(a:0≤x∧x<256 ^ n)(h:s.drop k=low (kn .u64 x) n++r):rget s ⟨k,0⟩ n=(x,⟨k+n,0⟩)∧s.drop (k+n)=r:=by
 have b:=Gq h;rw[ce]at b;refine⟨?_,b⟩;rcases Gp h with e|e
 ·rw[e];have i:(256:Int) ^ n≤2 ^ 64:=by
   have:(256:Nat) ^ n≤256 ^ 8:=WG (by decide) f;have c:=Int.ofNat_le.2 this;rw[WN,WN]at c;exact X5 c (by decide)
  have d:kn .u64 x=x:=by rw[fl];exact W4 a.1 (by omega)
  rw[d,W4 a.1 a.2]
 ·omega
theorem Ce{n:Nat}(i:t.ok s)(g:n≤8)(e:(rget s t n).2.err=0):
 t.err=0∧s.drop t.at_=low (kn .u64 (rget s t n).1) n++s.drop (rget s t n).2.at_:=by
 have h:=cT s t n;have j:(256:Int) ^ n≤2 ^ 64:=by
  have:(256:Nat) ^ n≤256 ^ 8:=WG (by decide) g;have b:=Int.ofNat_le.2 this;rw[WN,WN]at b;exact X5 b (by decide)
 have f:kn .u64 (rget s t n).1=(rget s t n).1:=by rw[fl];exact W4 h.1 (by omega)
 rw[f];unfold rget at e ⊢;split at e
 ·contradiction
 ·split at e
  ·simp at e
  ·rename_i d b;rw[if_neg d,if_neg b];refine⟨by simpa using d,?_⟩;have:=i.1;have a:((s.drop t.at_).take n).length=n:=by rw[VV,Wh];omega
   have c:=HH ((s.drop t.at_).take n);rw[a]at c;show s.drop t.at_=low (sw ((s.drop t.at_).take n)) n++s.drop (t.at_+n);rw[c,←XT,Xw]
theorem yE{x:Int}(b:fz≤x∧x≤fL)(h:s.drop k=low (kn .u64 x) 4++r): ∃v,rget s ⟨k,0⟩ 4=(v,⟨k+4,0⟩)∧iR v=x∧s.drop (k+4)=r:=by
 have a:=Gq h;rw[ce]at a;rcases Gp h with e|e
 ·refine⟨_,e,?_,a⟩;unfold iR;rw[fl,ux];unfold fz fL at b;omega
 ·omega
theorem Sn(v:Int):low (kn .u64 (iR v)) 4=low (kn .u64 v) 4:=by
 apply OC;unfold iR;rw[fl,fl,ux];omega
theorem yF(a:t.ok s)(e:(rget s t 4).2.err=0):t.err=0∧s.drop t.at_=low (kn .u64 (iR (rget s t 4).1)) 4++s.drop (rget s t 4).2.at_:=by
 rw[Sn];exact Ce a (by decide) e
theorem yG(v:Int):fz≤iR v∧iR v≤fL:=by have:=Gt v;unfold fz fL;omega
theorem vv{x:Int}(a:0≤x∧x≤255)(h:s.drop k=O3 x++r):rget s ⟨k,0⟩ 1=(x,⟨k+1,0⟩)∧s.drop (k+1)=r:=
 HI (by decide) (by decide) (by omega) h
theorem vw(a:t.ok s)(e:(rget s t 1).2.err=0):t.err=0∧s.drop t.at_=O3 (rget s t 1).1++s.drop (rget s t 1).2.at_∧(0≤(rget s t 1).1∧(rget s t 1).1≤255):=by
 have b:=cT s t 1;have:=Ce a (by decide) e;exact⟨this.1,this.2,by omega⟩
theorem LQ{xs:List Int}(d:bv 0 255 xs)(h:s.drop k=dj xs++r):fJ s xs.length ⟨k,0⟩=(xs,⟨k+xs.length,0⟩)∧s.drop (k+xs.length)=r:=by
 have key: ∀n,n≤xs.length→fJ s n ⟨k,0⟩=(xs.take n,⟨k+n,0⟩)∧s.drop (k+n)=dj (xs.drop n)++r:=by
  intro n
  induction n with
  |zero=>intro _;exact⟨rfl,h⟩
  |succ n f=>
   intro g;obtain⟨e,b⟩:=f (by omega);rw[V6 (show n<xs.length by omega)]at b;have a:s.drop (k+n)=O3 xs[n]++(dj (xs.drop (n+1))++r):=by rw[b];unfold dj;rw[Ww,VY]
   have c:=vv (d _ (VN (show n<xs.length by omega))) a;refine⟨?_,c.2⟩;simp only[fJ,e,c.1];rw[gD (by omega)];rfl
 have:=key xs.length (VX _);rw[Xr,List.drop_length]at this;exact⟨this.1,this.2⟩
theorem HJ(b:t.ok s): ∀n,(fJ s n t).2.err=0→t.err=0∧s.drop t.at_=dj (fJ s n t).1++s.drop (fJ s n t).2.at_∧bv 0 255 (fJ s n t).1
 |0,e=>⟨e,rfl,cK _ _⟩
 |n+1,e=>by
  obtain⟨f,c,h⟩:=vw (iP b n) e;obtain⟨g,d,i⟩:=HJ b n f;refine⟨g,?_,?_⟩
  ·rw[d,c];simp[fJ,dj]
  ·intro x a;simp only[fJ,VW,VK]at a;rcases a with a|rfl
   ·exact i x a
   ·exact h
theorem SK: ∀(xs:List Int)(k:Nat),bv fz fL xs→s.drop k=words xs++r→rw s xs.length ⟨k,0⟩=(some xs,⟨k+4*xs.length,0⟩)∧s.drop (k+4*xs.length)=r
 |[],k,_,h=>⟨rfl,h⟩
 |x::u,k,hf,h=>by
  rw[cn]at hf;have d:s.drop k=low (kn .u64 x) 4++(words u++r):=by rw[h];simp[words]
  obtain⟨v,e,g,f⟩:=yE hf.1 d;obtain⟨b,a⟩:=SK u (k+4) hf.2 f;have c:k+4+4*u.length=k+4*(u.length+1):=by omega
  rw[c]at b a;refine⟨?_,a⟩;simp only[VS,rw,e];rw[if_neg (by simp),b,g];rfl
theorem SM: ∀(n:Nat)(t:St),t.ok s→(rw s n t).2.err=0→t.err=0∧ ∃xs,(rw s n t).1=some xs∧xs.length=n∧bv fz fL xs∧s.drop t.at_=words xs++s.drop (rw s n t).2.at_
 |0,t,_,e=>⟨e,[],rfl,rfl,cK _ _,rfl⟩
 |n+1,t,b,e=>by
  simp only[rw]at e ⊢;by_cases a:(rget s t 4).2.err≠0
  ·rw[if_pos a]at e;exact absurd e a
  ·rw[if_neg a]at e ⊢;obtain⟨f,xs,g,h,i,j⟩:=SM n (rget s t 4).2 (bZ b 4) e;obtain⟨d,c⟩:=yF b f;refine⟨d,iR (rget s t 4).1::xs,by show Option.map _ (rw s n (rget s t 4).2).1=_;rw[g];rfl,by simp[h],by rw[cn];exact⟨yG _,i⟩,?_⟩;rw[c,j];simp[words]
theorem MK{xs:List Int}(i:xs.length≤65535)(f:bv fz fL xs)(h:s.drop k=rowB xs++r): ∃b,rrow s ⟨k,0⟩=(xs,⟨b,0⟩)∧s.drop b=r:=by
 have g:rowB xs=low (kn .u64 xs.length) 2++words xs:=by unfold rowB;rw[if_neg (by omega)]
 rw[g,VY]at h;obtain⟨e,d⟩:=HI (by decide) (by decide) (by omega) h;obtain⟨c,a⟩:=SK xs (k+2) f d;refine⟨_,?_,a⟩;unfold rrow;rw[e];simp only[hC];rw[c];rfl
theorem ML(a:t.ok s)(e:(rrow s t).2.err=0):t.err=0∧s.drop t.at_=rowB (rrow s t).1++s.drop (rrow s t).2.at_∧(rrow s t).1.length≤65535∧bv fz fL (rrow s t).1:=by
 unfold rrow at e ⊢;have l:=cT s t 2;obtain⟨d,xs,f,g,h,i⟩:=SM (rget s t 2).1.toNat (rget s t 2).2 (bZ a 2) e;obtain⟨c,b⟩:=Ce a (by decide) d;rw[f];have j:xs.length≤65535:=by omega
 refine⟨c,?_,j,h⟩;have m:rowB xs=low (kn .u64 (rget s t 2).1) 2++words xs:=by
  unfold rowB;rw[if_neg (by omega),g,Yd l.1]
 show s.drop t.at_=rowB xs++_;rw[m,b,i,VY]
theorem QE(s:List UInt8): ∀(n:Nat)(t:St),((rw s n t).1.getD []).length≤n
 |0,t=>VX _
 |n+1,t=>by
  simp only[rw];split
  ·simp
  ·have:=QE s n (rget s t 4).2;cases h:(rw s n (rget s t 4).2).1 with
   |none=>simp
   |some xs=>rw[h]at this;simp at this ⊢;exact this
theorem JK(s:List UInt8)(t:St):(rrow s t).1.length≤65535:=by
 have a:=QE s (rget s t 2).1.toNat (rget s t 2).2;have b:=cT s t 2;show((rw s (rget s t 2).1.toNat (rget s t 2).2).1.getD []).length≤_;omega
theorem JL(s:List UInt8)(t:St):(iQ s t).1.inn.length≤255∧(iQ s t).1.weights.length≤65535∧(iQ s t).1.bias.length≤65535:=by
 refine⟨?_,JK _ _,JK _ _⟩;have e:(fJ s 2 t).1.getD 1 0=(rget s (rget s t 1).2 1).1:=rfl;show(fJ s ((fJ s 2 t).1.getD 1 0).toNat (fJ s 2 t).2).1.length≤255;rw[nD,e];have:=cT s (rget s t 1).2 1;omega
theorem uW(x:Int):dj [x]=O3 x:=by simp[dj]
theorem vx(x y:Int):words [x,y]=low (kn .u64 x) 4++low (kn .u64 y) 4:=by simp[words]
theorem QF{n:Nd}(N:n.fit)(h:s.drop k=n.enc++r): ∃p,iQ s ⟨k,0⟩=(n,⟨p,0⟩)∧s.drop p=r:=by
 obtain⟨G,H,I,l,m,J,L,o,M⟩:=N;unfold Nd.enc at h;simp only[VY]at h;obtain⟨g,v⟩:=LQ G h;obtain⟨i,w⟩:=LQ H v;obtain⟨c,x⟩:=LQ I w;obtain⟨Q,j,y⟩:=MK l.1 l.2 x;obtain⟨R,B,z⟩:=MK m.1 m.2 y;have K:=J n.mult (by simp);obtain⟨C,d⟩:=HI (by decide) (by decide) (by omega) z;rw[uW]at d;obtain⟨D,e⟩:=vv (L n.shift (by simp)) d;rw[vx,VY]at e;obtain⟨S,E,O,A⟩:=yE (o n.low (by simp)) e;obtain⟨T,F,P,f⟩:=yE (o n.high (by simp)) A;rw[uW]at f;obtain⟨b,a⟩:=vv (M n.post (by simp)) f;refine⟨_,?_,a⟩;have q:[n.kind,(n.inn.length:Int)].length=2:=rfl;have u:[n.width,n.size,n.step,n.gap,n.left,n.right].length=6:=rfl;rw[q]at g i c;rw[u]at c;unfold iQ;simp only[g,XO,XP,hC,i,c];rw[q,u]at j;simp only[j,B,C,D,E,F,b,O,P]
theorem QG(H:t.ok s)(e:(iQ s t).2.err=0):t.err=0∧s.drop t.at_=(iQ s t).1.enc++s.drop (iQ s t).2.at_∧(iQ s t).1.fit:=by
 unfold iQ at e ⊢;dsimp only at e ⊢;have h:=iP H 2;have l1: ∃x y,(fJ s 2 t).1=[x,y]:=⟨_,_,rfl⟩;have o1:=HJ H 2;generalize fJ s 2 t=a at *;have l:=iP h (a.1.getD 1 0).toNat;have I:=nD s a.2 (a.1.getD 1 0).toNat;have o2:=HJ h (a.1.getD 1 0).toNat;generalize fJ s (a.1.getD 1 0).toNat a.2=b at *;have m:=iP l 6;have l3: ∃J K L M N O,(fJ s 6 b.2).1=[J,K,L,M,N,O]:=⟨_,_,_,_,_,_,rfl⟩;have o3:=HJ l 6;generalize fJ s 6 b.2=c at *;have o:=oH m;have o4:=ML m;generalize rrow s c.2=d at *;have p:=oH o;have o5:=ML o;generalize rrow s d.2=e5 at *;have q:=bZ p 2;have r6:=cT s e5.2 2;have o6:=Ce (n:=2) p (by decide);generalize rget s e5.2 2=f at *;have u:=bZ q 1;have o7:=vw q;generalize rget s f.2 1=g at *;have v:=bZ u 4;have o8:=yF u;generalize rget s g.2 4=i at *;have C:=bZ v 4;have o9:=yF v;generalize rget s i.2 4=j at *;have B:=vw C;generalize rget s j.2 1=kk at *;obtain⟨z9,w,A⟩:=B e;obtain⟨z8,V⟩:=o9 z9;obtain⟨z7,U⟩:=o8 z8;obtain⟨z6,T,f7⟩:=o7 z7;obtain⟨z5,S⟩:=o6 z6;obtain⟨z4,R,g5,Z⟩:=o5 z5;obtain⟨z3,Q,g4,Y⟩:=o4 z4;obtain⟨z2,E,G⟩:=o3 z3;obtain⟨z1,P,X⟩:=o2 z2;obtain⟨z0,D,z⟩:=o1 z1;obtain⟨x,y,ea⟩:=l1;obtain⟨J,K,L,M,N,O,W⟩:=l3;rw[ea]at D z I ⊢;rw[W]at E G ⊢;simp only[XO,XP]at I ⊢;have hy:=z y (by simp);have F:y=(b.1.length:Int):=by omega
 refine⟨z0,?_,?_⟩
 ·unfold Nd.enc;simp only[VY,uW,vx];rw[D,P,E,Q,R,S,T,U,V,w,F]
 ·exact⟨by rw[←F];exact z,X,G,⟨g4,Y⟩,⟨g5,Z⟩,by rw[cn];exact⟨by dsimp only;omega,cK _ _⟩,by rw[cn];exact⟨f7,cK _ _⟩,by rw[cn,cn];exact⟨yG _,yG _,cK _ _⟩,by rw[cn];exact⟨A,cK _ _⟩⟩
theorem OD{ns:List Nd}(f: ∀n∈ns,n.fit)(h:s.drop k=ns.flatMap Nd.enc++r): ∃a,dn s ⟨k,0⟩ ns.length=(ns,⟨a,0⟩)∧s.drop a=r:=by
 have key: ∀i,i≤ns.length→ ∃a,dn s ⟨k,0⟩ i=(ns.take i,⟨a,0⟩)∧s.drop a=(ns.drop i).flatMap Nd.enc++r:=by
  intro i
  induction i with
  |zero=>intro _;exact⟨k,rfl,h⟩
  |succ i g=>
   intro hi;obtain⟨a,e,b⟩:=g (by omega);rw[V6 (show i<ns.length by omega),Ww,VY]at b;obtain⟨j,d,c⟩:=QF (f _ (VN (show i<ns.length by omega))) b;refine⟨j,?_,c⟩;simp only[dn,e,d];rw[gD (by omega)]
 obtain⟨a,e,b⟩:=key ns.length (VX _);rw[Xr]at e;rw[List.drop_length]at b;exact⟨a,e,b⟩
theorem Gs(b:t.ok s): ∀n,(dn s t n).2.err=0→t.err=0∧s.drop t.at_=(dn s t n).1.flatMap Nd.enc++s.drop (dn s t n).2.at_∧ ∀x∈(dn s t n).1,x.fit
 |0,e=>⟨e,rfl,fun x a=>by cases a⟩
 |n+1,e=>by
  obtain⟨f,c,h⟩:=QG (ky b n) e;obtain⟨g,d,i⟩:=Gs b n f;refine⟨g,?_,?_⟩
  ·rw[d,c];simp[dn]
  ·intro x a;simp only[dn,VW,VK]at a;rcases a with a|rfl
   ·exact i x a
   ·exact h
end
def J2(s:List UInt8):Gr×St:=
 let a:=rget s ⟨0,0⟩ 1
 let b:=rget s a.2 4
 let c:=rget s b.2 4
 let d:=rget s c.2 1
 let e:=dn s d.2 d.1.toNat
 let f:=rget s e.2 1
 (⟨a.1,iR b.1,iR c.1,e.1,f.1⟩,f.2)
theorem MM(s:List UInt8):dG s=if(J2 s).2.err≠0 then(Gr.zero,11) else if(s.length:Int)-(J2 s).2.at_>0 then(Gr.zero,10) else((J2 s).1,0):=rfl
theorem TH{g:Gr}{s r:List UInt8}(y:g.fit)(h:s=g.enc++r): ∃b,J2 s=(g,⟨b,0⟩)∧s.drop b=r:=by
 obtain⟨u,a,v,w,x⟩:=y;have h0:s.drop 0=g.enc++r:=by rw[Xb];exact h
 unfold Gr.enc at h0;simp only[VY,uW,vx]at h0;obtain⟨l,c⟩:=vv (u g.width (by simp)) h0;obtain⟨C,m,z,d⟩:=yE (a g.low (by simp)) c;obtain⟨D,n,A,e⟩:=yE (a g.high (by simp)) d;obtain⟨o,f⟩:=vv (v (g.nodes.length:Int) (by simp)) e;obtain⟨B,p,i⟩:=OD w f;obtain⟨q,j⟩:=vv (x g.out (by simp)) i;refine⟨_,?_,j⟩;unfold J2;simp only[l,m,n,o,hC,p,q,z,A]
theorem okz(s:List UInt8):St.ok s ⟨0,0⟩:=⟨WV _,.inl rfl⟩
theorem TI{s:List UInt8}(e:(J2 s).2.err=0):s=(J2 s).1.enc++s.drop (J2 s).2.at_∧(J2 s).1.fit:=by
 unfold J2 at e ⊢;dsimp only at e ⊢;have g:=bZ (okz s) 1;have B:=vw (okz s);generalize rget s ⟨0,0⟩ 1=a at *;have h:=bZ g 4;have C:=yF g;generalize rget s a.2 4=b at *;have i:=bZ h 4;have D:=yF h;generalize rget s b.2 4=c at *;have j:=bZ i 1;have E:=vw i;generalize rget s c.2 1=d at *;have m:=ky j d.1.toNat;have N:=pj s d.2 d.1.toNat;have F:=Gs j d.1.toNat;generalize dn s d.2 d.1.toNat=n at *;have G:=vw m;generalize rget s n.2 1=f at *;obtain⟨L,w,A⟩:=G e;obtain⟨K,v,z⟩:=F L;obtain⟨J,u,M⟩:=E K;obtain⟨I,q⟩:=D J;obtain⟨H,p⟩:=C I;obtain⟨O,o,y⟩:=B H;have x:d.1=(n.1.length:Int):=by omega
 refine⟨?_,?_⟩
 ·have l:s=O3 a.1++s.drop a.2.at_:=by rw[Xb]at o;exact o
  unfold Gr.enc;simp only[VY,uW,vx]
  conv=>lhs;rw[l,p,q,u,v,w,x]
 ·exact⟨by rw[cn];exact⟨y,cK _ _⟩,by rw[cn,cn];exact⟨yG _,yG _,cK _ _⟩,by rw[cn];exact⟨by dsimp only;omega,cK _ _⟩,z,by rw[cn];exact⟨A,cK _ _⟩⟩
theorem OE(s:List UInt8):(J2 s).1.nodes.length≤255∧ ∀n∈(J2 s).1.nodes,n.inn.length≤255∧n.weights.length≤65535∧n.bias.length≤65535:=by
 unfold J2;dsimp only;have c:=cT s (rget s (rget s (rget s ⟨0,0⟩ 1).2 4).2 4).2 1;generalize rget s (rget s (rget s (rget s ⟨0,0⟩ 1).2 4).2 4).2 1=d at *;refine⟨by rw[pj];omega,?_⟩;generalize d.1.toNat=k
 induction k with
 |zero=>intro n a;cases a
 |succ k b=>
  intro n a;simp only[dn,VW,VK]at a;rcases a with a|rfl
  ·exact b n a
  ·exact JL _ _
theorem QH{g:Gr}(c:g.fit):ki (dV++g.enc)=(g,0):=by
 unfold ki;rw[if_pos (List.prefix_append _ _)];have a:(dV++g.enc).drop 4=g.enc:=rfl;rw[a];obtain⟨f,e,b⟩:=TH (s:=g.enc) (r:=[]) c (Wd _).symm;have d:=congrArg List.length b;rw[Wh,V9]at d;rw[MM,e,if_neg (by simp),if_neg (by simp only;omega)]
theorem QJ{s:List UInt8}(h:(ki s).2=0):(ki s).1.fit∧s=dV++(ki s).1.enc:=by
 unfold ki at h ⊢;by_cases b:dV<+:s
 ·rw[if_pos b]at h ⊢;obtain⟨u,rfl⟩:=b;have f:(dV++u).drop 4=u:=rfl;rw[f]at h ⊢;rw[MM]at h ⊢;by_cases a:(J2 u).2.err≠0
  ·rw[if_pos a]at h;simp at h
  ·rw[if_neg a]at h ⊢;by_cases c:(u.length:Int)-(J2 u).2.at_>0
   ·rw[if_pos c]at h;simp at h
   ·rw[if_neg c]at h ⊢;have d:=TI (s:=u) (by simpa using a);refine⟨d.2,?_⟩;have e:=d.1;rw[Wj (by omega),Wd]at e;show dV++u=dV++(J2 u).1.enc;rw[←e]
 ·rw[if_neg b]at h;simp at h
theorem QK{s:List UInt8}(h:(ki s).2≠0):(ki s).1=Gr.zero:=by
 unfold ki at h ⊢;split
 ·rename_i c;rw[if_pos c]at h;rw[MM]at h ⊢;split
  ·rfl
  ·split
   ·rfl
   ·rename_i a b;rw[if_neg a,if_neg b]at h;exact absurd rfl h
 ·rfl
theorem OG(s:List UInt8):(ki s).1.nodes.length≤255∧ ∀n∈(ki s).1.nodes,n.inn.length≤255∧n.weights.length≤65535∧n.bias.length≤65535:=by
 by_cases h:(ki s).2=0
 ·have b:dV<+:s:=⟨_,(QJ h).2.symm⟩;unfold ki at h ⊢;rw[if_pos b]at h ⊢;rw[MM]at h ⊢;split
  ·exact⟨by decide,fun n a=>by cases a⟩
  ·split
   ·exact⟨by decide,fun n a=>by cases a⟩
   ·exact OE _
 ·rw[QK h];exact⟨by decide,fun n a=>by cases a⟩
