/- What is fused tells the same: values of nodes along the steps of the fusing; the law of frames. -/
import Derived.Test.YtdhpmegbmjoekaaGreatDoorCReachV
namespace Go.Proofs.YtdhpmegbmjoekaaGreatDoor.G
open Go Go.Sh
set_option linter.unusedVariables false
set_option linter.unusedSimpArgs false
structure VE {α:Type} (Φ:Nd→List α→Int→α):Prop where
 inn: ∀(n:Nd)(l:List Int)(vs:List α)(w:Int),l.length=n.inn.length→Φ {n with inn:=l} vs w=Φ n vs w
 take: ∀(a u x:Nd)(ws:List Int)(vs:List α)(w:Int),nF a u=some x→gq a.kind→a.chk ws=0→u.chk [a.wid ws]=0→Φ x vs w=Φ u [Φ a vs w] (a.wid ws)
def Vo{α:Type}(Φ:Nd→List α→Int→α)(ns:List Nd)(M:LM)(W:Int→Int)(V:Int→α):Prop:=
 ∀(i:Nat)(n:Nd),ns[i]? =some n→(M ((i:Int)+1)).isSome=true→V ((i:Int)+1)=Φ n (n.inn.map V) (W (n.inn.getD 0 0))
theorem Jv{α:Type}(V:Int→α)(l:List Int):V (l.getD 0 0)=(l.map V).getD 0 (V 0):=by cases l<;>rfl
section
variable {α:Type} {Φ:Nd→List α→Int→α} {g:Gr} {W R:Int→Int} {pos pos':Int→Nat} {ns:List Nd} {out:Int} {M:LM} {i w:Nat} {na nu a':Nd} {st:Cd}
theorem qc.vals(y:VE Φ)(r:bW {g with nodes:=ns,out:=out} W R pos)(I:gm ns out M pos')(s:qc ns out M i w na nu a' st){V:Int→α}(D:Vo Φ ns M W V): ∃B:Int→α,Vo Φ st.1 st.2.2 W B∧B 0=V 0∧B st.2.1=V out:=by
 obtain⟨S,hR⟩:=s.same r I;have d:=s.inn I;have b:=s.live I;have u:=s.ne I;refine⟨fun x=>if x=(i:Int)+1 then V ((w:Int)+1) else V x,fun q A O X=> ?_,if_neg (by omega),?_⟩
 ·obtain⟨f,aa⟩:=(s.some I _).1 X;obtain⟨n,m,a,N,Y,e,t,o,K⟩:=s.node I O;have H:=o (fun x=>if x=(w:Int)+1 then(i:Int)+1 else x) (by
   show(if(w:Int)+1=(w:Int)+1 then(i:Int)+1 else _)=if(i:Int)+1=(w:Int)+1 then _ else _
   rw[if_pos rfl,if_neg (by omega)])
  have F:A.inn.map (fun x=>if x=(i:Int)+1 then V ((w:Int)+1) else V x)=n.inn.map (fun x=>if x=(i:Int)+1 then V ((w:Int)+1) else V x):=by
   have key: ∀l:List Int,l.map (fun x=>if x=(i:Int)+1 then V ((w:Int)+1) else V x)=(l.map fun x=>if x=(w:Int)+1 then(i:Int)+1 else x).map (fun x=>if x=(i:Int)+1 then V ((w:Int)+1) else V x):=fun l=>by
    rw[Xa];refine Wf fun x _=> ?_;show(if x=(i:Int)+1 then V ((w:Int)+1) else V x)=if(if x=(w:Int)+1 then(i:Int)+1 else x)=(i:Int)+1 then V ((w:Int)+1) else V (if x=(w:Int)+1 then(i:Int)+1 else x)
    by_cases C:x=(w:Int)+1
    ·have Q: ¬x=(i:Int)+1:=by omega
     rw[if_neg Q];simp only[if_pos C];rw[if_pos trivial,C]
    ·simp only[if_neg C]
   rw[key A.inn,key n.inn,H]
  have p:n.inn.map (fun x=>if x=(i:Int)+1 then V ((w:Int)+1) else V x)=n.inn.map V:=Wf fun j U=>by
   have u:j≠(i:Int)+1:=fun G=>by
    subst G;have z:q<ns.length:=(R8.1 a).1;have:=b.2 q z f (by rw[fp a];exact U);omega
   exact if_neg u
  have E:W (A.inn.getD 0 0)=W (n.inn.getD 0 0):=by rw[Jv W,Jv W,o W S]
  rw[F,p,E,e,y.inn m A.inn _ _ (by rw[t,Y]),N];by_cases z:q=i
  ·subst z;have k:=s.ea;rw[a]at k;cases k;rw[if_pos rfl];dsimp only;rw[if_pos rfl];have L:=D q na a f;have J:=D w nu s.eu b.1;rw[d]at J;have T:=r.chk q na a;have c:=r.chk w nu s.eu;rw[d]at c;have v:=r.wid q na a;have c:nu.chk [na.wid (na.inn.map W)]=0:=by rw[←v];exact c
   rw[J];show Φ nu [V ((q:Int)+1)] (W ((q:Int)+1))=_;rw[L,v];exact(y.take na nu a' (na.inn.map W) (na.inn.map V) (W (na.inn.getD 0 0)) s.tk s.we T c).symm
  ·rw[if_neg z];dsimp only;rw[if_neg (by omega)];exact D q n a f
 ·have Z:st.2.1=if out=(w:Int)+1 then(i:Int)+1 else out:=by rw[s.st]
  dsimp only;rw[Z];by_cases h:out=(w:Int)+1
  ·rw[if_pos h,if_pos rfl,h]
  ·rw[if_neg h,if_neg (fun P=>s.no P.symm)]
