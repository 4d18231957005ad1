/- What is fused tells the same: values of nodes along the steps of the fusing; the law of frames. -/
import Derived.Test.YtdhpmegbmjoekaaGreatDoorCReachV
namespace Go.Proofs.YtdhpmegbmjoekaaGreatDoor.G
open Go Go.Sh
set_option linter.unusedVariables false
set_option linter.unusedSimpArgs false
structure SD {α:Type} (Φ:Nd→List α→Int→α):Prop where
 inn: ∀(n:Nd) (l:List Int) (vs:List α) (w:Int),l.length=n.inn.length→Φ {n with inn:=l} vs w=Φ n vs w
 take: ∀(a u x:Nd) (ws:List Int) (vs:List α) (w:Int),pG a u=some x→gY a.kind→a.chk ws=0→u.chk [a.wid ws]=0→Φ x vs w=Φ u [Φ a vs w] (a.wid ws)
def TG {α:Type} (Φ:Nd→List α→Int→α) (ns:List Nd) (M:LM) (W:Int→Int) (V:Int→α):Prop:=
 ∀(i:Nat) (n:Nd),ns[i]? =some n→(M ((i:Int)+1)).isSome=true→V ((i:Int)+1)=Φ n (n.inn.map V) (W (n.inn.getD 0 0))
theorem Fy {α:Type} (V:Int→α) (l:List Int):V (l.getD 0 0)=(l.map V).getD 0 (V 0):=by cases l<;>rfl
section
variable {α:Type} {Φ:Nd→List α→Int→α} {g:Gr} {W R:Int→Int} {pos pos':Int→Nat} {ns:List Nd} {out:Int} {M:LM} {i w:Nat} {na nu a':Nd} {st:CU}
theorem qN.vals (y:SD Φ) (r:bM {g with nodes:=ns,out:=out} W R pos) (I:gw ns out M pos') (s:qN ns out M i w na nu a' st) {V:Int→α} (D:TG Φ ns M W V): ∃B:Int→α,TG Φ st.1 st.2.2 W B∧B 0=V 0∧B st.2.1=V out:=by
 obtain⟨Q,hR⟩:=s.same r I;have d:=s.inn I;have b:=s.live I;have u:=s.ne I;refine⟨fun x=>if x=(i:Int)+1 then V ((w:Int)+1) else V x,fun q A en U=> ?_,if_neg (by omega),?_⟩
 ·obtain⟨f,Z⟩:=(s.some I _).1 U;obtain⟨n,m,a,N,X,e,t,o,K⟩:=s.node I en;have H:=o (fun x=>if x=(w:Int)+1 then(i:Int)+1 else x) (by
   show(if(w:Int)+1=(w:Int)+1 then(i:Int)+1 else _)=if(i:Int)+1=(w:Int)+1 then _ else _
   rw[if_pos rfl,if_neg (by omega)])
  have F:A.inn.map (fun x=>if x=(i:Int)+1 then V ((w:Int)+1) else V x)=n.inn.map (fun x=>if x=(i:Int)+1 then V ((w:Int)+1) else V x):=by
   have key: ∀l:List Int,l.map (fun x=>if x=(i:Int)+1 then V ((w:Int)+1) else V x)=(l.map fun x=>if x=(w:Int)+1 then(i:Int)+1 else x).map (fun x=>if x=(i:Int)+1 then V ((w:Int)+1) else V x):=fun l=>by
    rw[VP];refine U8 fun x _=> ?_;show(if x=(i:Int)+1 then V ((w:Int)+1) else V x)=if(if x=(w:Int)+1 then(i:Int)+1 else x)=(i:Int)+1 then V ((w:Int)+1) else V (if x=(w:Int)+1 then(i:Int)+1 else x)
    by_cases C:x=(w:Int)+1
    ·have P: ¬x=(i:Int)+1:=by omega
     rw[if_neg P];simp only[if_pos C];rw[if_pos trivial,C]
    ·simp only[if_neg C]
   rw[key A.inn,key n.inn,H]
  have p:n.inn.map (fun x=>if x=(i:Int)+1 then V ((w:Int)+1) else V x)=n.inn.map V:=U8 fun j T=>by
   have u:j≠(i:Int)+1:=fun G=>by
    subst G;have z:q<ns.length:=(Pt.1 a).1;have:=b.2 q z f (by rw[gk a];exact T);omega
   exact if_neg u
  have E:W (A.inn.getD 0 0)=W (n.inn.getD 0 0):=by rw[Fy W,Fy W,o W Q]
  rw[F,p,E,e,y.inn m A.inn _ _ (by rw[t,X]),N];by_cases z:q=i
  ·subst z;have k:=s.ea;rw[a] at k;cases k;rw[if_pos rfl];dsimp only;rw[if_pos rfl];have L:=D q na a f;have J:=D w nu s.eu b.1;rw[d] at J;have S:=r.chk q na a;have c:=r.chk w nu s.eu;rw[d] at c;have v:=r.wid q na a;have c:nu.chk [na.wid (na.inn.map W)]=0:=by rw[←v];exact c
   rw[J];show Φ nu [V ((q:Int)+1)] (W ((q:Int)+1))=_;rw[L,v];exact(y.take na nu a' (na.inn.map W) (na.inn.map V) (W (na.inn.getD 0 0)) s.tk s.we S c).symm
  ·rw[if_neg z];dsimp only;rw[if_neg (by omega)];exact D q n a f
 ·have Y:st.2.1=if out=(w:Int)+1 then(i:Int)+1 else out:=by rw[s.st]
  dsimp only;rw[Y];by_cases h:out=(w:Int)+1
  ·rw[if_pos h,if_pos rfl,h]
  ·rw[if_neg h,if_neg (fun O=>s.no O.symm)]
theorem Hr (a:SD Φ) {V:Int→α}: ∀(k:Nat) (s:CU),gw s.1 s.2.1 s.2.2 pos'→bM {g with nodes:=s.1,out:=s.2.1} W R pos→TG Φ s.1 s.2.2 W V→ ∃b:Int→α,TG Φ (de k s).1 (de k s).2.2 W b∧b 0=V 0∧b (de k s).2.1=V s.2.1
 |0,s,I,r,c=>⟨V,c,rfl,rfl⟩
 |k+1,s,I,r,c=>by
  unfold de;cases e:ig s.1 s.2.1 s.2.2 with
  |none=>exact⟨V,c,rfl,rfl⟩
  |some t=>
   obtain⟨i,w,na,nu,a',st,_⟩:=mR I e;obtain⟨b,l,m,n⟩:=st.vals a r I c;obtain⟨d,f,h,j⟩:=Hr a k t (st.inv I) (st.right r I) l;exact⟨d,f,h.trans m,j.trans n⟩
theorem FA: ∀(k:Nat) (s:CU),gw s.1 s.2.1 s.2.2 pos'→bM {g with nodes:=s.1,out:=s.2.1} W R pos→gw (de k s).1 (de k s).2.1 (de k s).2.2 pos'∧bM {g with nodes:=(de k s).1,out:=(de k s).2.1} W R pos
 |0,s,I,r=>⟨I,r⟩
 |k+1,s,I,r=>by
  unfold de;cases e:ig s.1 s.2.1 s.2.2 with
  |none=>exact⟨I,r⟩
  |some t=>
   obtain⟨i,w,na,nu,a',st,_⟩:=mR I e;exact FA k t (st.inv I) (st.right r I)
end
theorem FB {g:Gr} {W R:Int→Int} (r:bM g W R (posG g.nodes)): ∃(φ:Int→Int) (pos:Int→Nat),bM (cF g) (W ∘ φ) (R ∘ φ) pos∧
 ∀{α:Type} {Φ:Nd→List α→Int→α},SD Φ→ ∀V:Int→α,(∀(i:Nat) (n:Nd),g.nodes[i]? =some n→V ((i:Int)+1)=Φ n (n.inn.map V) (W (n.inn.getD 0 0)))→
  ∃b:Int→α,b 0=V 0∧b (cF g).out=V g.out∧ ∀(i:Nat) (n:Nd),(cF g).nodes[i]? =some n→b ((i:Int)+1)=Φ n (n.inn.map b) ((W ∘ φ) (n.inn.getD 0 0)):=by
 have o:g.look.e=0:=by rw[r.look]
 have I:=vR o;have K:=FA (g:=g) (g.nodes.length+1) (g.nodes,g.out,lP g.nodes g.out) I r;have s:cF g=fp g (de (g.nodes.length+1) (g.nodes,g.out,lP g.nodes g.out)):=by unfold cF;rw[if_pos o]
 have f: ∀{α:Type} {Φ:Nd→List α→Int→α},SD Φ→ ∀V:Int→α,(∀(i:Nat) (n:Nd),g.nodes[i]? =some n→V ((i:Int)+1)=Φ n (n.inn.map V) (W (n.inn.getD 0 0)))→_:=fun{α Φ} a V l=>Hr (g:=g) a (V:=V) (g.nodes.length+1) (g.nodes,g.out,lP g.nodes g.out) I r (fun i n en _=>l i n en);rw[s];generalize de (g.nodes.length+1) (g.nodes,g.out,lP g.nodes g.out)=F at K f;obtain⟨ns,out,M⟩:=F;obtain⟨d,q⟩:=K;dsimp only at d q f;refine⟨yv M ns.length,_,yx q d,fun{α Φ} a V l=> ?_⟩;obtain⟨b,y,z,A⟩:=f a V l;refine⟨fun x=>b (yv M ns.length x),by dsimp only;rw[nR];exact z,by dsimp only;rw[JM d];exact A,fun k B en=> ?_⟩;obtain⟨i,n,h,t,j,rfl⟩:=vw en;have hi:=(Pt.1 j).1;have c:=qJ d h j id;rw[W8] at c;have v:yv M ns.length ((k:Int)+1)=(i:Int)+1:=by rw[←t];exact yw hi h
 have m:(n.ren (df ns M ns.length).2).inn.map (fun x=>b (yv M ns.length x))=n.inn.map b:=by
  conv=>rhs;rw[←c]
  rw[VP];rfl
 have u:W (yv M ns.length ((n.ren (df ns M ns.length).2).inn.getD 0 0))=W (n.inn.getD 0 0):=by
  have p:=Fy (yv M ns.length) (n.ren (df ns M ns.length).2).inn;rw[nR] at p;have c:(n.ren (df ns M ns.length).2).inn.map (yv M ns.length)=n.inn:=c;rw[p,c]
 dsimp only;rw[v,m,y i n j h];show _=Φ _ _ (W (yv M ns.length ((n.ren (df ns M ns.length).2).inn.getD 0 0)));rw[u];exact(a.inn n _ _ _ (by show(List.map _ _).length=_;rw[UT])).symm
theorem FC {x:Int} (h:x=0):cn .i64 x 1=0∧cn .i64 x 2=0:=by subst h;exact⟨T6,UB⟩
theorem sk {a u x:Nd} (h:pG a u=some x):(u.kind=10∧a.post=0∧x={a with post:=1,mult:=u.mult,shift:=u.shift})∨(u.kind=9∧cn .i64 a.post 2=0∧x={a with post:=FL .i64 a.post 2,low:=u.low,high:=u.high}):=by
 unfold pG at h;split at h
 ·rename_i b;cases h;exact .inl ⟨b.1,b.2,rfl⟩
 ·split at h
  ·rename_i b;cases h;exact .inr ⟨b.1,b.2,rfl⟩
  ·cases h
theorem mT {a u x:Nd} (h:pG a u=some x):x.kind=a.kind∧x.inn=a.inn∧x.width=a.width∧x.size=a.size∧x.step=a.step∧x.gap=a.gap∧x.left=a.left∧x.right=a.right∧x.weights=a.weights∧x.bias=a.bias:=by
 rcases sk h with ⟨_,_,rfl⟩|⟨_,_,rfl⟩<;>exact⟨rfl,rfl,rfl,rfl,rfl,rfl,rfl,rfl,rfl,rfl⟩
theorem PK {a:Nd} {ws:List Int} (h:a.chk ws=0) (b:cn .i64 a.post 2=0):a.post=0∨a.post=1:=by
 have c:=(dc h).2.2.2.2.1;have:a.post=0∨a.post=1∨a.post=2∨a.post=3:=by omega
 rcases this with h|h|h|h
 ·exact .inl h
 ·exact .inr h
 ·exfalso;rw[h,a22] at b;exact absurd b (by decide)
 ·exfalso;rw[h,a32] at b;exact absurd b (by decide)
end Go.Proofs.YtdhpmegbmjoekaaGreatDoor.G

