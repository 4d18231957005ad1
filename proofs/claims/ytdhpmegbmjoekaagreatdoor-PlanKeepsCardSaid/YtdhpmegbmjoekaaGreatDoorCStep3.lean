/- CStep CStep2 CStep3, in one text. -/
import Derived.Test.YtdhpmegbmjoekaaGreatDoorCLive
set_option linter.unusedVariables false
set_option linter.unusedSimpArgs false
namespace Go.Proofs.YtdhpmegbmjoekaaGreatDoor.G
open Go Go.Sh
section
def iV (ns:List Nd) (M:LM) (a:Int):Nat→Int
 |0=>0
 |j+1=>match ns[j]? with
  |some n=>if(M ((j:Int)+1)).isSome∧a∈n.inn then(j:Int)+1 else iV ns M a j
  |none=>iV ns M a j
def iz (ns:List Nd) (M:LM) (a:Int):Int:=iV ns M a ns.length
def yq (u a:Int) (k:Int):Int:=if k=u then a else k
def Ba (u a:Int) (ns:List Nd):List Nd:=ns.mapIdx fun q n=>if(q:Int)+1=u then n else{n with inn:=n.inn.map (yq u a)}
abbrev CU:=List Nd×Int×LM
def gW (ns:List Nd) (out:Int) (M:LM) (i:Nat):Option CU:=
 match ns[i]? with
 |none=>none
 |some a=>
  if M ((i:Int)+1)=some 1∧(i:Int)+1≠out∧gY a.kind then
   match ns[(iz ns M ((i:Int)+1)-1).toNat]? with
   |none=>none
   |some c=>(pG a c).map fun b=>(Ba (iz ns M ((i:Int)+1)) ((i:Int)+1) (ns.set i b),if out=iz ns M ((i:Int)+1) then(i:Int)+1 else out,
    Q6 (wy M ((i:Int)+1) ((M (iz ns M ((i:Int)+1))).getD 0)) (iz ns M ((i:Int)+1)))
  else none
def qG (ns:List Nd) (out:Int) (M:LM):Nat→Nat→Option CU
 |0,_=>none
 |k+1,i=>match gW ns out M i with
  |some x=>some x
  |none=>qG ns out M k (i+1)
def ig (ns:List Nd) (out:Int) (M:LM):Option CU:=qG ns out M ns.length 0
def Mm (ns:List Nd) (M:LM):Prop:= ∀i:Nat,i<ns.length→M ((i:Int)+1)=some 1→1≤iz ns M ((i:Int)+1)
theorem G4 (ns:List Nd) (M:LM) (a:Int): ∀j,0≤iV ns M a j∧iV ns M a j≤(j:Int)
 |0=>by simp[iV]
 |j+1=>by
  have:=G4 ns M a j;unfold iV;split
  ·split<;>omega
  ·omega
def Sl.rep (u a:Int) (s:Sl):Sl:={s with xs:=s.xs.map (yq u a)}
def kw (u a:Int) (j:Nat) (ns:List Nv):List Nv:=ns.mapIdx fun q n=>if(q:Int)+1=u∨j≤q then n else{n with inn:=n.inn.rep u a}
theorem Nl (u a:Int) (ns:List Nv):kw u a 0 ns=ns:=by
 unfold kw;apply Vo;intro q;rw[WK];cases ns[q]? <;>simp
theorem lN (u a:Int) (j:Nat) (ns:List Nv):(kw u a j ns).length=ns.length:=by simp[kw]
theorem jB (u a:Int) (j q:Nat) (ns:List Nv):(kw u a j ns)[q]? =ns[q]?.map fun n=>if(q:Int)+1=u∨j≤q then n else{n with inn:=n.inn.rep u a}:=by
 unfold kw;rw[WK]
theorem Lb (u a:Int) (j:Nat) (ns:List Nv):aF (kw u a j ns)=aF ns:=by
 unfold aF;congr 1;apply Vo;intro q;rw[UW,UW,jB];cases ns[q]? with
 |none=>rfl
 |some n=>
  simp only[Option.map_some];split
  ·rfl
  ·rw[dz,dz];rfl
theorem QV (u a:Int) (ns:List Nv):(kw u a ns.length ns).map Nv.nd=Ba u a (ns.map Nv.nd):=by
 apply Vo;intro q;rw[UW,jB];unfold Ba;rw[WK,UW];cases hq:ns[q]? with
 |none=>rfl
 |some n=>
  have b:=(Pt.1 hq).1;simp only[Option.map_some];by_cases h:(q:Int)+1=u
  ·rw[if_pos (.inl h),if_pos h]
  ·rw[if_neg (by omega),if_neg h];rfl
theorem Nm {u a:Int} {j:Nat} {ns:List Nv} (d:j<ns.length):kw u a (j+1) ns=if(j:Int)+1=u then kw u a j ns else(kw u a j ns).set j {ns[j] with inn:=ns[j].inn.rep u a}:=by
 apply Vo;intro q;rw[jB];by_cases c:(j:Int)+1=u
 ·rw[if_pos c,jB];cases hq:ns[q]? with
  |none=>rfl
  |some n=>
   simp only[Option.map_some,Option.some.injEq];by_cases b:q=j
   ·subst b;rw[if_pos (.inl c),if_pos (.inl c)]
   ·by_cases h:(q:Int)+1=u∨j≤q
    ·rw[if_pos h,if_pos (by omega)]
    ·rw[if_neg h,if_neg (by omega)]
 ·rw[if_neg c];by_cases b:q=j
  ·subst b;rw[Ve (by rw[lN];exact d),aO d,Option.map_some,if_neg (by omega)]
  ·rw[VS (Ne.symm b),jB];cases hq:ns[q]? with
   |none=>rfl
   |some n=>
    simp only[Option.map_some,Option.some.injEq];by_cases h:(q:Int)+1=u∨j≤q
    ·rw[if_pos h,if_pos (by omega)]
    ·rw[if_neg h,if_neg (by omega)]
theorem Pi (u a:Int) (j:Nat) (ns:List Nv):vT (kw u a j ns)=vT ns:=by
 have: ∀l m:List Nv,l.length=m.length→(∀q (b:q<l.length) (c:q<m.length),l[q].weights=m[q].weights∧l[q].bias=m[q].bias)→vT l=vT m:=by
  intro l
  induction l with
  |nil=>intro m d _;have:m=[]:=Vm.1 d.symm;subst this;rfl
  |cons x r f=>
   intro m d e;cases m with
   |nil=>simp at d
   |cons y s=>
    have h0:=e 0 (by simp) (by simp);simp only[List.getElem_cons_zero] at h0;have:=f s (by simpa using d) fun q b c=>by
     have:=e (q+1) (by simpa using b) (by simpa using c);simpa using this
    unfold vT at this ⊢;rw[VA,VA,this,h0.1,h0.2]
 refine this _ _ (lN _ _ _ _) fun q b c=> ?_;have:=jB u a j q ns;rw[aO b,aO c,Option.map_some,Option.some.injEq] at this;rw[this];split<;>exact⟨rfl,rfl⟩
end
section
def G5 (u a:Int) (b:Bool) (xs:List Int) (m:Nat):List Int:=if b then xs else(xs.take m).map (yq u a)++xs.drop m
theorem Pj (u a:Int) (b:Bool) (xs:List Int):G5 u a b xs 0=xs:=by unfold G5;split<;>simp
theorem E7 (u a:Int) (b:Bool) (xs:List Int) (m:Nat):(G5 u a b xs m).length=xs.length:=by unfold G5;split<;>simp;omega
theorem QW (u a:Int) (b:Bool) {xs:List Int} {m:Nat} (c:m<xs.length):(G5 u a b xs m)[m]? =some xs[m]:=by
 unfold G5;split
 ·exact aO c
 ·rw[Vp (by simp;omega),VI];simp only[UT,U0];rw[show m+(m-min m xs.length)=m by omega,aO c]
theorem QX {u a:Int} {xs:List Int} {m:Nat} (b:m<xs.length) (c:xs[m]=u):(G5 u a false xs m).set m a=G5 u a false xs (m+1):=by
 unfold G5;simp only[Vr,if_false];rw[VB _ _ (by simp;omega),UT,U0,VY (by omega),VJ,Vb b,Wk,py b,U4,U6];congr 1;simp[yq,c]
theorem JE {u a:Int} {b:Bool} {xs:List Int} {m:Nat} (d:m<xs.length) (c:b=true∨xs[m]≠u):G5 u a b xs (m+1)=G5 u a b xs m:=by
 unfold G5;split
 ·rfl
 ·rename_i e;have c:xs[m]≠u:=by rcases c with h|h;exact absurd h e;exact h
  rw[py d,U4,U6,Vb d];congr 1;simp[yq,c]
theorem QY (u a:Int) (b:Bool) (xs:List Int):G5 u a b xs xs.length=if b then xs else xs.map (yq u a):=by unfold G5;split<;>simp
theorem Nn {u a:Int} {j:Nat} {ns:List Nv} {n:Nv} (e:ns[j]? =some n):(kw u a (j+1) ns).map Nv.inn=((kw u a j ns).map Nv.inn).set j {n.inn with xs:=G5 u a (decide ((j:Int)+1=u)) n.inn.xs n.inn.xs.length}:=by
 have c:=(Pt.1 e).1;have en:ns[j]=n:=by rw[aO c] at e;exact Option.some.inj e
 rw[Nm c,QY,en];by_cases b:(j:Int)+1=u
 ·rw[if_pos b,if_pos (by simpa using b)];have:((kw u a j ns).map Nv.inn)[j]? =some n.inn:=by rw[UW,jB,e,Option.map_some,if_pos (.inl b)];rfl
  have d:j<((kw u a j ns).map Nv.inn).length:=by rw[UT,lN];exact c
  rw[aO d] at this;show _=List.set _ j n.inn;rw[←Option.some.inj this,V4]
 ·rw[if_neg b,if_neg (by simpa using b),WL];rfl
section
variable {h0 h:af} {T:Nat→Prop} {R:List aY}
theorem Np {gv:Gv} (hl:gv.l<2 ^ 20) {d:List Nv} (ad:d.length=gv.l) (hs: ∀n∈d,n.inn.xs.length=n.inn.l∧n.inn.l<2 ^ 40) {o r:Nat} {M:LM} {Q:Value→af→Prop} {U V} (i:Nat) (hi:i<gv.l) (u:Int)
 (S:aJ h0 T h [blk o gv.cells,own 15 gv.p gv.l gv.c (aF d),fy (d.map Nv.inn),yr r M] R)
 (H: ∀h',aJ h0 T h' [blk o ({gv with out:=if gv.out=u then(i:Int)+1 else gv.out}:Gv).cells,own 15 gv.p gv.l gv.c (aF d),fy ((kw u ((i:Int)+1) d.length d).map Nv.inn),yr r (Q6 (wy M ((i:Int)+1) ((M u).getD 0)) u)] R→Q (.bool true) h'):
 aZ (S:=(Option Addr×Option Nat×Int×Int×Int×Int×Unit)) (fun X s h=>pB Q U V X s.1 s.2.1 s.2.2.1 s.2.2.2.1 s.2.2.2.2.1 s.2.2.2.2.2.1 h) (some ⟨o,0,none⟩,some r,(i:Int),u,((gv.l:Nat):Int),(0:Int),()) h:=by
 have J:IntKind.wrap .i64 ((i:Int)+1)=(i:Int)+1:=by rw[al (by omega)]
 refine aP (fun C s g=> ∃j:Nat,s=(some ⟨o,0,none⟩,some r,(i:Int),u,(gv.l:Int),(j:Int),())∧j≤gv.l∧C=gv.l-j∧
  aJ h0 T g [blk o gv.cells,own 15 gv.p gv.l gv.c (aF d),fy ((kw u ((i:Int)+1) j d).map Nv.inn),yr r M] R) gv.l ⟨0,rfl,by omega,rfl,by rw[Nl];exact S⟩ ?_
 clear S;rintro C s g ⟨j,rfl,hj,rfl,S⟩;unfold pB;simp only[kq,aQ,SI];refine am (fun ab=> ?_) (fun aa=> ?_)
 ·have y:j<d.length:=by omega
  obtain⟨n,en⟩: ∃n,d[j]? =some n:=⟨_,aO y⟩;have z:=UR en;obtain⟨ag,ai⟩:=hs n z;refine ak (p:=gv.p) (l:=gv.l) (c:=gv.c) (S.cell 0 rfl rfl) ?_;obtain⟨b,D⟩: ∃b,gv.p=some ⟨b,0,none⟩:=by
   obtain⟨_,_,⟨_,h0,_⟩|⟨b,cs,e,_⟩⟩:=S.own 1 rfl
   ·omega
   ·exact⟨b,e⟩
  refine aB D rfl (by omega) ?_;simp only[oe,aQ,SI];have P: ∀{g:af} {W:List aY},aJ h0 T g W R→W[1]? =some (own 15 gv.p gv.l gv.c (aF d))→aD g ⟨b,j*15+1,none⟩=some n.inn.v:=fun S e=>by
   have O:=(S.own 1 e).row;rw[D] at O;have:=O.cell (i:=j*15+1) (by rw[lm en (by decide)];rfl);rw[aQ,SI] at this;exact this
  refine ak (p:=n.inn.p) (l:=n.inn.l) (c:=n.inn.c) (P S rfl) ?_;have B:j<((kw u ((i:Int)+1) j d).map Nv.inn).length:=by rw[UT,lN];exact y
  have A:((kw u ((i:Int)+1) j d).map Nv.inn)[j]? =some n.inn:=by rw[UW,jB,en,Option.map_some,if_pos (.inr (U3 _))];rfl
  have I:((kw u ((i:Int)+1) j d).map Nv.inn).set j n.inn=(kw u ((i:Int)+1) j d).map Nv.inn:=by
   rw[aO B] at A;rw[←Option.some.inj A,V4]
  refine aP (fun C s g=> ∃m:Nat,s=(some ⟨o,0,none⟩,some r,(i:Int),u,(j:Int),(gv.l:Int),(j:Int),(n.inn.p,n.inn.l,n.inn.c),(n.inn.l:Int),(m:Int),())∧m≤n.inn.l∧C=n.inn.l-m∧
   aJ h0 T g [blk o gv.cells,own 15 gv.p gv.l gv.c (aF d),fy (((kw u ((i:Int)+1) j d).map Nv.inn).set j {n.inn with xs:=G5 u ((i:Int)+1) (decide ((j:Int)+1=u)) n.inn.xs m}),yr r M] R) n.inn.l
   ⟨0,rfl,by omega,rfl,by rw[Pj];show aJ h0 T g [_,_,fy (List.set _ j n.inn),_] R;rw[I];exact S⟩ ?_
  clear S;rintro C s g ⟨m,rfl,hm,rfl,S⟩;unfold xv;simp only[kq,aQ,SI];have K:IntKind.wrap .i64 ((j:Int)+1)=(j:Int)+1:=by rw[al (by omega)]
  have Y:IntKind.wrap .i64 ((m:Int)+1)=((m+1:Nat):Int):=by rw[al (by omega)];rfl
  have x:(((kw u ((i:Int)+1) j d).map Nv.inn).set j {n.inn with xs:=G5 u ((i:Int)+1) (decide ((j:Int)+1=u)) n.inn.xs m})[j]? =some {n.inn with xs:=G5 u ((i:Int)+1) (decide ((j:Int)+1=u)) n.inn.xs m}:=by rw[Ve B]
  refine am (fun N=> ?_) (fun L=> ?_)
  ·have f:m<n.inn.xs.length:=by omega
   have k:bI g n.inn.p (az (G5 u ((i:Int)+1) (decide ((j:Int)+1=u)) n.inn.xs m)):=zY (S.w 2 _ rfl) (UR x);obtain⟨a,ea⟩:=k.some_of (by rw[av,E7];omega);have t:bI g (some a) (az (G5 u ((i:Int)+1) (decide ((j:Int)+1=u)) n.inn.xs m)):=by rw[←ea];exact k
   refine aB ea rfl (by omega) ?_;simp only[oe,US];refine ae (n:=n.inn.xs[m]) (t.cell (aI (QW _ _ _ f))) ?_;rw[Y];refine aH (fun F=> ?_) (fun F=> ?_)
   ·rw[K];refine bh (fun q=> ?_) (fun q=> ?_)
    ·refine ak (p:=gv.p) (l:=gv.l) (c:=gv.c) (S.cell 0 rfl rfl) ?_;refine aB D rfl (by omega) ?_;simp only[aQ,SI];refine ak (p:=n.inn.p) (l:=n.inn.l) (c:=n.inn.c) (P S rfl) ?_;refine aB ea rfl (by omega) ?_;rw[J];refine Pl S 2 rfl x ea (by rw[E7];exact f) fun Z S=> ?_;dsimp only[List.set] at S;rw[V7] at S;have hd:decide ((j:Int)+1=u)=false:=by simpa using q
     refine⟨n.inn.l-(m+1),by omega,m+1,rfl,by omega,rfl,?_⟩;have e:=QX (a:=(i:Int)+1) f F;rw[hd] at S ⊢;rw[←e];exact S
    ·refine⟨n.inn.l-(m+1),by omega,m+1,rfl,by omega,rfl,?_⟩;rw[JE f (.inl (by simpa using q))];exact S
   ·refine⟨n.inn.l-(m+1),by omega,m+1,rfl,by omega,rfl,?_⟩;rw[JE f (.inr F)];exact S
  ·have:m=n.inn.xs.length:=by omega
   subst this;rw[K];refine⟨gv.l-(j+1),by omega,j+1,rfl,by omega,rfl,?_⟩;rw[Nn en];exact S
 ·have:j=d.length:=by omega
  subst this;refine ae (n:=gv.out) (S.cell 0 rfl rfl) ?_;rw[J];refine aH (fun G=> ?_) (fun G=> ?_)
  ·rw[if_pos G] at H;refine aE S 0 rfl (jb rfl) fun Z _ S=> ?_;dsimp only[List.set] at S;refine iX (S.w 3 _ rfl) ⟨_,rfl,vu S 3 rfl fun g3 S=> ?_⟩;rw[vt] at S;dsimp only[List.set] at S;refine Ps S 3 rfl fun E S=> ?_;rw[Mp] at S;dsimp only[List.set] at S;exact H E S
  ·rw[if_neg G] at H;refine iX (S.w 3 _ rfl) ⟨_,rfl,vu S 3 rfl fun g3 S=> ?_⟩;rw[vt] at S;dsimp only[List.set] at S;refine Ps S 3 rfl fun E S=> ?_;rw[Mp] at S;dsimp only[List.set] at S;exact H E S
end
end
section
theorem QZ {u a:Int} {j:Nat} {ns:List Nv} (h: ∀n∈ns,n.ok): ∀n∈kw u a j ns,n.ok:=by
 intro n e;obtain⟨q,c⟩:=VN.1 e;rw[jB] at c;obtain⟨m,d,rfl⟩:=V8.1 c;have b:=h m (UR d);split
 ·exact b
 ·exact⟨⟨by show(m.inn.xs.map _).length=_;rw[UT];exact b.1.1,b.1.2⟩,b.2⟩
theorem Nq (u a:Int) (j:Nat) (ns:List Nv):(kw u a j ns).map (fun n=>n.inn.l)=ns.map fun n=>n.inn.l:=by
 apply Vo;intro q;rw[UW,UW,jB];cases ns[q]? with
 |none=>rfl
 |some n=>simp only[Option.map_some];split<;>rfl
theorem Sk {a u:Nv} (h:a.ok):(B1 a u).ok:=by
 obtain⟨b,c,d⟩:=qH a u;unfold Nv.ok;rw[b,c,d];exact h
theorem sb {α β:Type} (f:α→β) {l:List α} {i:Nat} {x y:α} (a:l[i]? =some x) (e:f y=f x):(l.set i y).map f=l.map f:=by
 have hi:=(Pt.1 a).1;have b:i<(l.map f).length:=by rw[UT];exact hi
 rw[WL,e];have:(l.map f)[i]? =some (f x):=by rw[UW,a];rfl
 rw[aO b] at this;rw[←Option.some.inj this,V4]
theorem Q0 {ns:List Nv} {i:Nat} {x y:Nv} (c:ns[i]? =some x) (a:y.weights=x.weights) (b:y.bias=x.bias):vT (ns.set i y)=vT ns:=by
 unfold vT;have:=sb (fun n:Nv=>[n.weights.own,n.bias.own]) c (by rw[a,b]);rw[List.flatMap_def,List.flatMap_def,this]
theorem E8 {a:List Nd} {out:Int} {M:LM} {k i:Nat} (h:gW a out M i=none):qG a out M (k+1) i=qG a out M k (i+1):=by
 conv=>lhs;unfold qG
 rw[h]
theorem E9 {a:List Nd} {out:Int} {M:LM} {k i:Nat} {x:CU} (h:gW a out M i=some x):qG a out M (k+1) i=some x:=by
 unfold qG;rw[h]
section
variable {h0 h:af} {T:Nat→Prop} {R:List aY}
theorem Sm {gv:Gv} (A:gv.ok) (hl:gv.l<2 ^ 20) (hs: ∀n∈gv.ns,n.inn.l<2 ^ 40) {M:LM} (hu:Mm gv.gr.nodes M) {t r:Nat} (S:aJ h0 T h [blk t gv.cells,own 15 gv.p gv.l gv.c (aF gv.ns),fy (gv.ns.map Nv.inn),yr r M] R):
 au P uE #[.pointer (some ⟨t,0,none⟩),.map (some r)] h fun v h'=> ∃(q:List Nv) (D:Int) (M':LM),v= .bool (ig gv.gr.nodes gv.out M).isSome∧(q.map Nv.nd,D,M')=(ig gv.gr.nodes gv.out M).getD (gv.gr.nodes,gv.out,M)∧
  ({gv with ns:=q,out:=D}:Gv).ok∧q.map (fun n=>n.inn.l)=gv.ns.map (fun n=>n.inn.l)∧vT q=vT gv.ns∧
  aJ h0 T h' [blk t ({gv with ns:=q,out:=D}:Gv).cells,own 15 gv.p gv.l gv.c (aF q),fy (q.map Nv.inn),yr r M'] R:=by
 refine Et _ _ ?_;unfold GM;have Q:=A.1;obtain⟨a,H⟩: ∃a,gv.gr.nodes=a:=⟨_,rfl⟩;have f:gv.ns.map Nv.nd=a:=H;have aj:a.length=gv.l:=by rw[←f,UT,Q]
 rw[H] at hu ⊢;simp only[kq,aQ,SI];refine ak (p:=gv.p) (l:=gv.l) (c:=gv.c) (S.cell 0 rfl rfl) ?_
 refine aP (fun mm s g=> ∃i:Nat,s=(some ⟨t,0,none⟩,some r,(gv.l:Int),(i:Int),())∧i≤gv.l∧mm=gv.l-i∧qG a gv.out M (gv.l-i) i=ig a gv.out M∧
  aJ h0 T g [blk t gv.cells,own 15 gv.p gv.l gv.c (aF gv.ns),fy (gv.ns.map Nv.inn),yr r M] R) gv.l ⟨0,rfl,by omega,rfl,by unfold ig;rw[aj];rfl,S⟩ ?_
 clear S;rintro mm s g ⟨i,rfl,hi,rfl,hF,S⟩;unfold zy;simp only[kq,aQ,SI];refine am (fun a6=> ?_) (fun a5=> ?_)
 rotate_left
 ·have:gv.l-i=0:=by omega
  rw[this] at hF;rw[←hF];exact⟨gv.ns,gv.out,M,rfl,by rw[f];rfl,A,rfl,rfl,S⟩
 have ag:i<gv.ns.length:=by omega
 obtain⟨d,m⟩: ∃n,gv.ns[i]? =some n:=⟨_,aO ag⟩;have G:a[i]? =some d.nd:=by rw[←f,UW,m];rfl
 have ai:d.nd.kind=d.kind:=rfl;have ei:IntKind.wrap .i64 ((i:Int)+1)=(i:Int)+1:=by rw[al (by omega)]
 have Z:gv.l-i=(gv.l-(i+1))+1:=by omega
 have W:gW a gv.out M i=none→qG a gv.out M (gv.l-(i+1)) (i+1)=ig a gv.out M:=fun y=>by
  rw[←hF,Z,E8 y]
 refine ak (p:=gv.p) (l:=gv.l) (c:=gv.c) (S.cell 0 rfl rfl) ?_;obtain⟨b,L⟩: ∃b,gv.p=some ⟨b,0,none⟩:=by
  obtain⟨_,_,⟨_,h0,_⟩|⟨b,cs,e,_⟩⟩:=S.own 1 rfl
  ·omega
  ·exact⟨b,e⟩
 refine aB L rfl (by omega) ?_;rw[ei];simp only[oe,aQ,SI,kq];have skip: ¬(M ((i:Int)+1)=some 1∧(i:Int)+1≠gv.out∧gY d.kind)→gW a gv.out M i=none:=fun y=>by
  unfold gW;rw[G];show(if M ((i:Int)+1)=some 1∧(i:Int)+1≠gv.out∧gY d.nd.kind then _ else none)=none;rw[ai,if_neg y]
 have K:gW a gv.out M i=none→ ∀g,aJ h0 T g [blk t gv.cells,own 15 gv.p gv.l gv.c (aF gv.ns),fy (gv.ns.map Nv.inn),yr r M] R→ ∃m',m'<gv.l-i∧ ∃i':Nat,((some ⟨t,0,none⟩,some r,(gv.l:Int),(i:Int)+1,()):Option Addr×Option Nat×Int×Int×Unit)=(some ⟨t,0,none⟩,some r,(gv.l:Int),(i':Int),())∧i'≤gv.l∧m'=gv.l-i'∧qG a gv.out M (gv.l-i') i'=ig a gv.out M∧
  aJ h0 T g [blk t gv.cells,own 15 gv.p gv.l gv.c (aF gv.ns),fy (gv.ns.map Nv.inn),yr r M] R:=fun y g S=>⟨gv.l-(i+1),by omega,i+1,rfl,by omega,rfl,W y,S⟩
 refine iX (S.w 3 _ rfl) ⟨_,_,rfl,?_⟩;have F:aD g ⟨b,i*15,none⟩=some (.int .i64 d.kind):=by
  have hr:=(S.own 1 rfl).row;rw[L] at hr;have:=hr.cell (i:=i*15+0) (by rw[lm m (by decide)];rfl);rw[aQ,SI] at this;exact this
 refine⟨fun s g'=>s=(some ⟨t,0,none⟩,some r,(i:Int),⟨b,i*15,none⟩,(gv.l:Int),(i:Int),())∧M ((i:Int)+1)=some 1∧(i:Int)+1≠gv.out∧gY d.kind∧aJ h0 T g' [blk t gv.cells,own 15 gv.p gv.l gv.c (aF gv.ns),fy (gv.ns.map Nv.inn),yr r M] R,?_,?_⟩
 rotate_left
 ·refine bG (eD (fun z=> ?_) (fun z=> ?_))
  ·obtain⟨x,hx⟩:=We.1 z;rw[hx];refine bh (fun O=>K (skip fun B=>O ?_) g S) (fun O=> ?_)
   ·have:=B.1;rw[hx] at this;exact Option.some.inj this
   ·have O:x=1:=O;subst O;refine ae (n:=gv.out) (S.cell 0 rfl rfl) (aH (fun U=>K (skip fun B=>B.2.1 U) g S) (fun U=> ?_));refine ae (n:=d.kind) F (bh (fun k1=> ?_) (fun k1=>⟨rfl,rfl,U,.inl k1,S⟩));refine ae (n:=d.kind) F (bh (fun k2=> ?_) (fun k2=>⟨rfl,rfl,U,.inr (.inl k2),S⟩));refine ae (n:=d.kind) F (bh (fun k3=>K (skip fun B=> ?_) g S) (fun k3=>⟨rfl,rfl,U,.inr (.inr k3),S⟩));rcases B.2.2 with h|h|h
    ·exact k1 h
    ·exact k2 h
    ·exact k3 h
  ·refine K (skip fun B=> ?_) g S;rw[B.1] at z;cases z
 clear S F;rintro s g ⟨rfl,ad,U,hw,S⟩;unfold zx;simp only[kq,aQ,SI];refine ak (p:=gv.p) (l:=gv.l) (c:=gv.c) (S.cell 0 rfl rfl) ?_
 refine aP (fun mm s g=> ∃j:Nat,s=(some ⟨t,0,none⟩,some r,(i:Int),⟨b,i*15,none⟩,iV a M ((i:Int)+1) j,(gv.l:Int),(i:Int),(gv.p,gv.l,gv.c),(gv.l:Int),(j:Int),())∧j≤gv.l∧mm=gv.l-j∧
  aJ h0 T g [blk t gv.cells,own 15 gv.p gv.l gv.c (aF gv.ns),fy (gv.ns.map Nv.inn),yr r M] R) gv.l ⟨0,rfl,by omega,rfl,S⟩ ?_
 clear S;rintro mm s g ⟨j,rfl,hj,rfl,S⟩;unfold zw;simp only[kq,aQ,SI];refine am (fun a3=> ?_) (fun a2=> ?_)
 ·have aw:j<gv.ns.length:=by omega
  obtain⟨n,en⟩: ∃n,gv.ns[j]? =some n:=⟨_,aO aw⟩;have C:=UR en;have aa:a[j]? =some n.nd:=by rw[←f,UW,en];rfl
  have a1:=A.2.2 n C;have an:bI g (some ⟨b,0,none⟩) (aF gv.ns):=by rw[←L];exact(S.own 1 rfl).row
  refine aB L rfl (by omega) ?_;simp only[oe];refine jd an en ?_;refine aA S fun a4 g2 _ S=> ?_;dsimp only[Xi,Xj] at S;refine cA S 4 rfl rfl (bu rfl) fun g3 _ S=> ?_;dsimp only[List.set] at S;have ej:IntKind.wrap .i64 ((j:Int)+1)=(j:Int)+1:=by rw[al (by omega)]
  rw[ej,ei];refine iX (S.w 3 _ rfl) ⟨_,_,rfl,?_⟩;have S4:aJ h0 T g3 [blk t gv.cells,own 15 gv.p gv.l gv.c (aF gv.ns),fy (gv.ns.map Nv.inn),yr r M] R:=S.pw [0,1,2,3];have eu:iV a M ((i:Int)+1) (j+1)=if(M ((j:Int)+1)).isSome∧((i:Int)+1)∈n.nd.inn then(j:Int)+1 else iV a M ((i:Int)+1) j:=by
   conv=>lhs;unfold iV
   rw[aa]
  refine eD (fun z=> ?_) (fun z=> ?_)
  ·refine ak (p:=n.inn.p) (l:=n.inn.l) (c:=n.inn.c) (S.cell 4 rfl rfl) ?_;have ao:bI g3 n.inn.p (az n.inn.xs):=zY (S.w 2 _ rfl) (U2 C);refine(H8 ao a1.1.1 (by have:=hs n C;omega) ((i:Int)+1)).mono ?_;rintro _ _ ⟨rfl,rfl⟩;refine⟨_,rfl,?_⟩;refine am (fun hc=> ?_) (fun hc=> ?_)
   ·refine⟨gv.l-(j+1),by omega,j+1,?_,by omega,rfl,S4⟩;rw[eu,if_pos ⟨z,hc⟩];rfl
   ·refine⟨gv.l-(j+1),by omega,j+1,?_,by omega,rfl,S4⟩;rw[eu,if_neg (fun B=>hc B.2)];rfl
  ·refine⟨gv.l-(j+1),by omega,j+1,?_,by omega,rfl,S4⟩;rw[eu,if_neg (fun B=>by rw[z] at B;exact absurd B.1 (by simp))];rfl
 ·have:j=gv.l:=by omega
  subst this;have ap:iV a M ((i:Int)+1) gv.l=iz a M ((i:Int)+1):=by unfold iz;rw[aj]
  rw[ap];have ay:=hu i (by omega) ad;have V:=(G4 a M ((i:Int)+1) a.length).2;have V:iz a M ((i:Int)+1)≤(a.length:Int):=V;generalize hU:iz a M ((i:Int)+1)=u at ay V ⊢;obtain⟨w,ew⟩: ∃w:Nat,u=(w:Int)+1:=⟨(u-1).toNat,by omega⟩;subst ew;have a0:w<gv.ns.length:=by omega
  obtain⟨o,N⟩: ∃n,gv.ns[w]? =some n:=⟨_,aO a0⟩;have ab:a[w]? =some o.nd:=by rw[←f,UW,N];rfl
  have a7:=UR N;have ar:IntKind.wrap .i64 ((w:Int)+1-1)=(w:Int):=by rw[al (by omega)];omega
  rw[ar];refine ak (p:=gv.p) (l:=gv.l) (c:=gv.c) (S.cell 0 rfl rfl) ?_;refine aB L rfl (by omega) ?_;simp only[oe,aQ,SI];rw[L] at S;refine(So S 1 rfl m N).mono ?_;rintro _ g2 ⟨rfl,S⟩;dsimp only[List.set] at S;rw[←L] at S;refine⟨_,rfl,?_⟩;have E:gW a gv.out M i=(pG d.nd o.nd).map fun a'=>(Ba ((w:Int)+1) ((i:Int)+1) (a.set i a'),if gv.out=(w:Int)+1 then(i:Int)+1 else gv.out,
   Q6 (wy M ((i:Int)+1) ((M ((w:Int)+1)).getD 0)) ((w:Int)+1)):=by
   unfold gW;rw[G];show(if M ((i:Int)+1)=some 1∧(i:Int)+1≠gv.out∧gY d.nd.kind then _ else none)=_;rw[ai,if_pos ⟨ad,U,hw⟩,hU,show((w:Int)+1-1).toNat=w by omega,ab]
  refine bG (eD (fun z=> ?_) (fun z=> ?_))
  ·obtain⟨a',X⟩:=We.1 z;rw[X,Option.map_some] at E;have hP:=E9 (k:=gv.l-(i+1)) E;rw[←Z,hF] at hP;have Y:(gv.ns.set i (B1 d o)).map Nv.inn=gv.ns.map Nv.inn:=sb _ m (qH d o).1;rw[←Y] at S;have J: ∀n∈gv.ns.set i (B1 d o),n.ok:=fun n I=>by
    rcases Wc I with I|rfl
    ·exact A.2.2 n I
    ·exact Sk (A.2.2 d (UR m))
   have ax: ∀n∈gv.ns.set i (B1 d o),n.inn.xs.length=n.inn.l∧n.inn.l<2 ^ 40:=fun n I=>by
    refine⟨(J n I).1.1,?_⟩;rcases Wc I with I|rfl
    ·exact hs n I
    ·rw[(qH d o).1];exact hs d (UR m)
   refine ak (p:=gv.p) (l:=gv.l) (c:=gv.c) (S.cell 0 rfl rfl) ?_;refine Np hl (by rw[U1];exact Q) ax i (by omega) ((w:Int)+1) S fun g3 S=> ?_;refine⟨kw ((w:Int)+1) ((i:Int)+1) (gv.ns.set i (B1 d o)).length (gv.ns.set i (B1 d o)),(if gv.out=(w:Int)+1 then(i:Int)+1 else gv.out),Q6 (wy M ((i:Int)+1) ((M ((w:Int)+1)).getD 0)) ((w:Int)+1),by rw[hP];rfl,?_,⟨by show(kw _ _ _ _).length=gv.l;rw[lN,U1];exact Q,A.2.1,QZ J⟩,?_,?_,?_⟩
   ·rw[hP,QV,WL,f];have:(B1 d o).nd=a':=by rw[Sn,X];rfl
    rw[this];rfl
   ·rw[Nq];exact sb _ m (by rw[(qH d o).1])
   ·rw[Pi];exact Q0 m (qH d o).2.1 (qH d o).2.2
   ·rw[Lb];exact S
  ·have y:pG d.nd o.nd=none:=by
    cases h:pG d.nd o.nd with
    |none=>rfl
    |some x=>rw[h] at z;cases z
   rw[y] at E;have et:B1 d o=d:=by
    unfold pG at y;rw[show o.nd.kind=o.kind from rfl,show d.nd.post=d.post from rfl] at y;unfold B1;split at y
    ·cases y
    ·rename_i O;split at y
     ·cases y
     ·rename_i h2;rw[if_neg O,if_neg h2]
   have es:gv.ns.set i d=gv.ns:=by
    rw[aO ag] at m;rw[←Option.some.inj m,V4]
   rw[et,es] at S;rw[ei];exact K E g2 S
end
end
end Go.Proofs.YtdhpmegbmjoekaaGreatDoor.G

