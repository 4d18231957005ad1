/- Sh, part 11: from a law over heaps to its row. -/
import Derived.Test.YtdhpmegbmjoekaaGreatDoorShL
import Derived.WalkKit
import Derived.ProofKit
import Derived.OpenShut
import Derived.ShutString
import Derived.ChangeOld
import Derived.Below
import Derived.SizedLaws
set_option linter.unusedSimpArgs false
set_option linter.unusedVariables false
namespace Go.Sh
open Go.RowKit Go.ChangeShapes Go.WideShapes
theorem cd.below{W a:World}(f:Fr W a)(k:cd no W.heap a.heap):Below W.heap.size W a:=
 ⟨f.os,f.tape,f.output,k.size,fun b c=>k.same b c fun h=>h⟩
theorem JZ{P:Program}{f:FuncId}{args:Array Value}{W:World}{r:Value}(H:au P f args W.heap fun v h'=>v=r∧cd no W.heap h'):
 Calls P f args W fun e g=>e= .returned r∧Below W.heap.size W g:=
 (H.2 W rfl).mono fun _ _ ⟨_,a,b,d,c⟩=>⟨by rw[a,d],c.below b⟩
theorem yN{w:World}{a:Addr}{xs:List Value}(h: ∀i v,xs[i]? =some v→w.cell? (a.add i)=some v):bD w.heap (some a) xs:=by
 cases hx:xs with
 |nil=>exact .inl rfl
 |cons x r=>
  subst hx;right;have h0:=h 0 x rfl;rw[show Addr.add a 0=a from rfl]at h0;obtain⟨b,o,l⟩:=a;simp only[World.cell?]at h0;split at h0
  ·rename_i c e f k;split at h0
   ·cases h0
   ·rename_i j;have j:l=none:=by cases l<;>simp_all
    subst j;have d: ∀i v,(x::r)[i]? =some v→c.toList[o+i]? =some v:=by
     intro i v n;have:=h i v n;rw[aR]at this;simp only[World.cell?,k]at this;simpa using this
    have g:o+(x::r).length≤c.toList.length:=by
     have m:(x::r).length-1<(x::r).length:=by simp
     have:=d _ _ (bo m);have:=(R8.1 this).1;simp only[VS]at *;omega
    refine⟨_,rfl,rfl,c.toList,⟨e,f,by simpa using k⟩,g,fun i hi=> ?_⟩;rw[bo hi];exact d i _ (bo hi)
  ·cases h0
theorem Ew{H:Type}{enc:TypeId×Value→H}{P:Program}{W:World}{base:Nat}{g:Bool}{t e:TypeId}{k:IntKind}{v:Value}{d:DataW H}{C:List MemPlace}
 (s:P.underlying t=some (.slice e)) (w:P.underlying e=some (.int k)) (u:P.cellsOf e=1) (j:Value.okWide P W .any base t v)
 (h:DataW.Trod enc P W 0 (fun _=>true) g t v d C):
 ∃p l c,∃xs:List Int,v= .slice p l c∧bD W.heap p (xs.map (Value.int k))∧xs.length=l∧l≤c∧l≤maxLen∧(∀n∈xs,(Lit.int k n).wf=true)∧(c:Nat)≤maxLen:=by
 obtain⟨p,l,c,rfl⟩:=okWide_slice s j;obtain⟨o,y⟩:=h;rcases open_ints s w u y with ⟨a,_⟩|⟨x,E,D,zs,a,_,q,r,A,_,f,m⟩
 ·simp[Value.cells]at a;obtain⟨rfl,rfl,rfl⟩:=a;exact⟨none,0,0,[],rfl,.inl rfl,rfl,VX _,by simp,by simp,by simp⟩
 ·simp[Value.cells]at a;obtain⟨rfl,rfl,rfl⟩:=a;have B:zs.length=c:=by simpa using A
  refine⟨some x,l,c,zs.take l,rfl,?_,by simp;omega,q,W3 q r,fun n z=>m n (W9 z),r⟩;refine yN fun i v b=> ?_;rw[VP,Xk]at b;split at b
  ·rename_i hi;rw[f i (by omega)];rw[VT];cases hzi:zs[i]? with
   |none=>rw[hzi]at b;simp at b
   |some n=>rw[hzi]at b;simp at b;subst b;simp
  ·simp at b
theorem Ex{H:Type}{enc:TypeId×Value→H}{P:Program}{W:World}{base:Nat}{g:Nat→Bool}{i:Bool}{t e:TypeId}{k:IntKind}{a:Option Addr}{b n:Nat}{d:DataW H}{E:List MemPlace}{ts:List TypeId}{ds:List (DataW H)}{j:Nat}
 (o:(DataW.weightsEach P ts ds).all (· ≤reachBytes)=true) (C:ts[j]? =some t) (v:ds[j]? =some d) (r:P.underlying t=some (.slice e)) (w:P.underlying e=some (.int k)) (u:P.cellsOf e=1) {B:Nat} (s:P.bytesOf e=B)
 (h:DataW.Trod enc P W base g i t (.slice a b n) d E):b*B≤140737488351232:=by
 obtain⟨q,y⟩:=h;rcases open_ints r w u y with ⟨f,_⟩|⟨x,l,c,zs,f,_,F,_,D,p,_,_⟩
 ·simp[Value.cells]at f;obtain⟨rfl,rfl,rfl⟩:=f;simp
 ·simp[Value.cells]at f;obtain⟨rfl,rfl,rfl⟩:=f;obtain⟨p,_⟩:=Prod.mk.inj p;subst p;have z:=sized_slice o C v r;rw[s]at z;have A:b≤zs.length:=by rw[D];split<;>omega
  have m:(lits k (zs.take b):List (DataW H)).length=b:=by simp[lits];omega
  rw[m]at z;have:b*B≤(b+(lits k (zs.drop b):List (DataW H)).length)*B:=Wu _ (by omega);exact W3 this z