/- The plain law of the model's bytes: what is written is read, what is read is written. -/
import Derived.Test.YtdhpmegbmjoekaaGreatDoorCDec3
import Derived.Test.YtdhpmegbmjoekaaGreatDoorCSameG
namespace Go.Proofs.YtdhpmegbmjoekaaGreatDoor.G
open Go Go.Sh
set_option linter.unusedVariables false
set_option linter.unusedSimpArgs false
section
variable {s r:List UInt8} {k:Nat} {t:St}
theorem Hn {x:Int} {n:Nat} (h:s.drop k=low x n++r):bD s ⟨k,0⟩ n=(x % 256 ^ n,⟨k+n,0⟩)∨n=0:=by
 by_cases b:n=0
 ·exact .inr b
 refine .inl ?_;have a:=congrArg List.length h;rw[VF,Rb,ce] at a;unfold bD;rw[if_neg (by simp),if_neg (by simp only;omega)];simp only;rw[h,V3 (by rw[ce];omega),N6 (by rw[ce];omega),Mc]
theorem Ho {a:List UInt8} (h:s.drop k=a++r):s.drop (k+a.length)=r:=by
 rw[←W9,h,List.drop_append_of_le_length (U3 _),Vq (U3 _),Xj]
theorem Ik {x:Int} {n:Nat} (g:0<n) (f:n≤8) (a:0≤x∧x<256 ^ n) (h:s.drop k=low (IntKind.wrap .u64 x) n++r):bD s ⟨k,0⟩ n=(x,⟨k+n,0⟩)∧s.drop (k+n)=r:=by
 have b:=Ho h;rw[ce] at b;refine⟨?_,b⟩;rcases Hn h with e|e
 ·rw[e];have i:(256:Int) ^ n≤2 ^ 64:=by
   have:(256:Nat) ^ n≤256 ^ 8:=VT (by decide) f;have c:=Int.ofNat_le.2 this;rw[V6,V6] at c;exact Int.le_trans c (by decide)
  have d:IntKind.wrap .u64 x=x:=by rw[hZ];exact V9 a.1 (by omega)
  rw[d,V9 a.1 a.2]
 ·omega
theorem z7 {x:Int} (b:gz≤x∧x≤gH) (h:s.drop k=low (IntKind.wrap .u64 x) 4++r): ∃v,bD s ⟨k,0⟩ 4=(v,⟨k+4,0⟩)∧jD v=x∧s.drop (k+4)=r:=by
 have a:=Ho h;rw[ce] at a;rcases Hn h with e|e
 ·refine⟨_,e,?_,a⟩;unfold jD;rw[hZ,zP];unfold gz gH at b;omega
 ·omega
theorem wd {x:Int} (a:0≤x∧x≤255) (h:s.drop k=Qq x++r):bD s ⟨k,0⟩ 1=(x,⟨k+1,0⟩)∧s.drop (k+1)=r:=
 Ik (by decide) (by decide) (by omega) h
theorem Ll {xs:List Int} (d:bv 0 255 xs) (h:s.drop k=dw xs++r):iA s xs.length ⟨k,0⟩=(xs,⟨k+xs.length,0⟩)∧s.drop (k+xs.length)=r:=by
 have key: ∀n,n≤xs.length→iA s n ⟨k,0⟩=(xs.take n,⟨k+n,0⟩)∧s.drop (k+n)=dw (xs.drop n)++r:=by
  intro n
  induction n with
  |zero=>intro _;exact⟨rfl,h⟩
  |succ n f=>
   intro g;obtain⟨e,b⟩:=f (by omega);rw[Vb (show n<xs.length by omega)] at b;have a:s.drop (k+n)=Qq xs[n]++(dw (xs.drop (n+1))++r):=by rw[b];unfold dw;rw[VA,U6]
   have c:=wd (d _ (UU (show n<xs.length by omega))) a;refine⟨?_,c.2⟩;simp only[iA,e,c.1];rw[py (by omega)];rfl
 have:=key xs.length (U3 _);rw[Wv,List.drop_length] at this;exact⟨this.1,this.2⟩
theorem RI: ∀(xs:List Int) (k:Nat),bv gz gH xs→s.drop k=words xs++r→rw s xs.length ⟨k,0⟩=(some xs,⟨k+4*xs.length,0⟩)∧s.drop (k+4*xs.length)=r
 |[],k,_,h=>⟨rfl,h⟩
 |x::u,k,hf,h=>by
  rw[dj] at hf;have d:s.drop k=low (IntKind.wrap .u64 x) 4++(words u++r):=by rw[h];simp[words]
  obtain⟨v,e,g,f⟩:=z7 hf.1 d;obtain⟨b,a⟩:=RI u (k+4) hf.2 f;have c:k+4+4*u.length=k+4*(u.length+1):=by omega
  rw[c] at b a;refine⟨?_,a⟩;simp only[UY,rw,e];rw[if_neg (by simp),b,g];rfl
theorem Mv {xs:List Int} (i:xs.length≤65535) (f:bv gz gH xs) (h:s.drop k=rowB xs++r): ∃b,rrow s ⟨k,0⟩=(xs,⟨b,0⟩)∧s.drop b=r:=by
 have g:rowB xs=low (IntKind.wrap .u64 xs.length) 2++words xs:=by unfold rowB;rw[if_neg (by omega)]
 rw[g,U6] at h;obtain⟨e,d⟩:=Ik (by decide) (by decide) (by omega) h;obtain⟨c,a⟩:=RI xs (k+2) f d;refine⟨_,?_,a⟩;unfold rrow;rw[e];simp only[oe];rw[c];rfl
theorem Fo (x:Int):dw [x]=Qq x:=by simp[dw]
theorem Hp (x y:Int):words [x,y]=low (IntKind.wrap .u64 x) 4++low (IntKind.wrap .u64 y) 4:=by simp[words]
theorem PA {n:Nd} (N:n.fit) (h:s.drop k=n.enc++r): ∃p,mo s ⟨k,0⟩=(n,⟨p,0⟩)∧s.drop p=r:=by
 obtain⟨G,H,I,l,m,J,L,o,M⟩:=N;unfold Nd.enc at h;simp only[U6] at h;obtain⟨g,v⟩:=Ll G h;obtain⟨i,w⟩:=Ll H v;obtain⟨c,x⟩:=Ll I w;obtain⟨Q,j,y⟩:=Mv l.1 l.2 x;obtain⟨R,B,z⟩:=Mv m.1 m.2 y;have K:=J n.mult (by simp);obtain⟨C,d⟩:=Ik (by decide) (by decide) (by omega) z;rw[Fo] at d;obtain⟨D,e⟩:=wd (L n.shift (by simp)) d;rw[Hp,U6] at e;obtain⟨S,E,O,A⟩:=z7 (o n.low (by simp)) e;obtain⟨T,F,P,f⟩:=z7 (o n.high (by simp)) A;rw[Fo] at f;obtain⟨b,a⟩:=wd (M n.post (by simp)) f;refine⟨_,?_,a⟩;have q:[n.kind,(n.inn.length:Int)].length=2:=rfl;have u:[n.width,n.size,n.step,n.gap,n.left,n.right].length=6:=rfl;rw[q] at g i c;rw[u] at c;unfold mo;simp only[g,Xe,Xf,oe,i,c];rw[q,u] at j;simp only[j,B,C,D,E,F,b,O,P]
theorem NE {ns:List Nd} (f: ∀n∈ns,n.fit) (h:s.drop k=ns.flatMap Nd.enc++r): ∃a,gp s ⟨k,0⟩ ns.length=(ns,⟨a,0⟩)∧s.drop a=r:=by
 have key: ∀i,i≤ns.length→ ∃a,gp s ⟨k,0⟩ i=(ns.take i,⟨a,0⟩)∧s.drop a=(ns.drop i).flatMap Nd.enc++r:=by
  intro i
  induction i with
  |zero=>intro _;exact⟨k,rfl,h⟩
  |succ i g=>
   intro hi;obtain⟨a,e,b⟩:=g (by omega);rw[Vb (show i<ns.length by omega),VA,U6] at b;obtain⟨j,d,c⟩:=PA (f _ (UU (show i<ns.length by omega))) b;refine⟨j,?_,c⟩;simp only[gp,e,d];rw[py (by omega)]
 obtain⟨a,e,b⟩:=key ns.length (U3 _);rw[Wv] at e;rw[List.drop_length] at b;exact⟨a,e,b⟩
end
def Tg (s:List UInt8):Gr×St:=
 let a:=bD s ⟨0,0⟩ 1
 let b:=bD s a.2 4
 let c:=bD s b.2 4
 let d:=bD s c.2 1
 let e:=gp s d.2 d.1.toNat
 let f:=bD s e.2 1
 (⟨a.1,jD b.1,jD c.1,e.1,f.1⟩,f.2)
theorem Th (s:List UInt8):dG s=if(Tg s).2.err≠0 then(Gr.zero,11) else if(s.length:Int)-(Tg s).2.at_>0 then(Gr.zero,10) else((Tg s).1,0):=rfl
theorem Sy {g:Gr} {s r:List UInt8} (y:g.fit) (h:s=g.enc++r): ∃b,Tg s=(g,⟨b,0⟩)∧s.drop b=r:=by
 obtain⟨u,a,v,w,x⟩:=y;have h0:s.drop 0=g.enc++r:=by rw[Wg];exact h
 unfold Gr.enc at h0;simp only[U6,Fo,Hp] at h0;obtain⟨l,c⟩:=wd (u g.width (by simp)) h0;obtain⟨C,m,z,d⟩:=z7 (a g.low (by simp)) c;obtain⟨D,n,A,e⟩:=z7 (a g.high (by simp)) d;obtain⟨o,f⟩:=wd (v (g.nodes.length:Int) (by simp)) e;obtain⟨B,p,i⟩:=NE w f;obtain⟨q,j⟩:=wd (x g.out (by simp)) i;refine⟨_,?_,j⟩;unfold Tg;simp only[l,m,n,o,oe,p,q,z,A]
theorem okz (s:List UInt8):St.ok s ⟨0,0⟩:=⟨V1 _,.inl rfl⟩
theorem Fp {g:Gr} (c:g.fit):Fq (fO++g.enc)=(g,0):=by
 unfold Fq;rw[if_pos (List.prefix_append _ _)];have a:(fO++g.enc).drop 4=g.enc:=rfl;rw[a];obtain⟨f,e,b⟩:=Sy (s:=g.enc) (r:=[]) c (Vh _).symm;have d:=congrArg List.length b;rw[VF,Vf] at d;rw[Th,e,if_neg (by simp),if_neg (by simp only;omega)]
end Go.Proofs.YtdhpmegbmjoekaaGreatDoor.G

