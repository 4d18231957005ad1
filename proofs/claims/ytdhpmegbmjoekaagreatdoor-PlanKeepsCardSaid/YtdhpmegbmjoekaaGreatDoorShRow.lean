/- Sh, part 11: from a law over heaps to its row. -/
import Derived.Test.YtdhpmegbmjoekaaGreatDoorShL
import Derived.WalkKit
import Derived.ProofKit
import Derived.OpenShut
import Derived.ShutString
import Derived.ChangeOld
import Derived.Below
import Derived.SizedLaws
set_option linter.unusedSimpArgs false
set_option linter.unusedVariables false
namespace Go.Sh
open Go.RowKit Go.ChangeShapes Go.WideShapes
theorem cp.below {W a:World} (f:Fr W a) (k:cp no W.heap a.heap):Below W.heap.size W a:=
 ⟨f.os,f.tape,f.output,k.size,fun b c=>k.same b c fun h=>h⟩
theorem Kk {P:Program} {f:FuncId} {args:Array Value} {W:World} {r:Value} (H:au P f args W.heap fun v h'=>v=r∧cp no W.heap h'):
 Calls P f args W fun e g=>e= .returned r∧Below W.heap.size W g:=
 (H.2 W rfl).mono fun _ _ ⟨_,a,b,d,c⟩=>⟨by rw[a,d],c.below b⟩
theorem Af {w:World} {a:Addr} {xs:List Value} (h: ∀i v,xs[i]? =some v→w.cell? (a.add i)=some v):bI w.heap (some a) xs:=by
 cases hx:xs with
 |nil=>exact .inl rfl
 |cons x r=>
  subst hx;right;have h0:=h 0 x rfl;rw[show Addr.add a 0=a from rfl] at h0;obtain⟨b,o,l⟩:=a;simp only[World.cell?] at h0;split at h0
  ·rename_i c e f k;split at h0
   ·cases h0
   ·rename_i j;have j:l=none:=by cases l<;>simp_all
    subst j;have d: ∀i v,(x::r)[i]? =some v→c.toList[o+i]? =some v:=by
     intro i v n;have:=h i v n;rw[aQ] at this;simp only[World.cell?,k] at this;simpa using this
    have g:o+(x::r).length≤c.toList.length:=by
     have m:(x::r).length-1<(x::r).length:=by simp
     have:=d _ _ (aO m);have:=(Pt.1 this).1;simp only[UY] at *;omega
    refine⟨_,rfl,rfl,c.toList,⟨e,f,by simpa using k⟩,g,fun i hi=> ?_⟩;rw[aO hi];exact d i _ (aO hi)
  ·cases h0
theorem vy {H:Type} {enc:TypeId×Value→H} {P:Program} {W:World} {base:Nat} {g:Bool} {t e:TypeId} {k:IntKind} {v:Value} {d:DataW H} {C:List MemPlace}
 (s:P.underlying t=some (.slice e)) (w:P.underlying e=some (.int k)) (u:P.cellsOf e=1) (j:Value.okWide P W .any base t v)
 (h:DataW.Trod enc P W 0 (fun _=>true) g t v d C):
 ∃p l c,∃xs:List Int,v= .slice p l c∧bI W.heap p (xs.map (Value.int k))∧xs.length=l∧l≤c∧l≤maxLen∧(∀n∈xs,(Lit.int k n).wf=true)∧(c:Nat)≤maxLen:=by
 obtain⟨p,l,c,rfl⟩:=okWide_slice s j;obtain⟨o,y⟩:=h;rcases open_ints s w u y with ⟨a,_⟩|⟨x,E,D,zs,a,_,q,r,A,_,f,m⟩
 ·simp[Value.cells] at a;obtain⟨rfl,rfl,rfl⟩:=a;exact⟨none,0,0,[],rfl,.inl rfl,rfl,U3 _,by simp,by simp,by simp⟩
 ·simp[Value.cells] at a;obtain⟨rfl,rfl,rfl⟩:=a;have B:zs.length=c:=by simpa using A
  refine⟨some x,l,c,zs.take l,rfl,?_,by simp;omega,q,VZ q r,fun n z=>m n (VX z),r⟩;refine Af fun i v b=> ?_;rw[UW,Wl] at b;split at b
  ·rename_i hi;rw[f i (by omega)];rw[UV];cases hzi:zs[i]? with
   |none=>rw[hzi] at b;simp at b
   |some n=>rw[hzi] at b;simp at b;subst b;simp
  ·simp at b
theorem vz {H:Type} {enc:TypeId×Value→H} {P:Program} {W:World} {base:Nat} {f:Nat→Bool} {g:Bool} {t e:TypeId} {k:IntKind} {a:Option Addr} {len m:Nat} {d:DataW H} {D:List MemPlace} {ts:List TypeId} {ds:List (DataW H)} {j:Nat}
 (n:(DataW.weightsEach P ts ds).all (· ≤reachBytes)=true) (A:ts[j]? =some t) (u:ds[j]? =some d) (q:P.underlying t=some (.slice e)) (v:P.underlying e=some (.int k)) (s:P.cellsOf e=1) {B:Nat} (r:P.bytesOf e=B)
 (h:DataW.Trod enc P W base f g t (.slice a len m) d D):len*B≤140737488351232:=by
 obtain⟨p,w⟩:=h;rcases open_ints q v s w with ⟨b,_⟩|⟨x,l,c,zs,b,_,E,_,C,o,_,_⟩
 ·simp[Value.cells] at b;obtain⟨rfl,rfl,rfl⟩:=b;simp
 ·simp[Value.cells] at b;obtain⟨rfl,rfl,rfl⟩:=b;obtain⟨o,_⟩:=Prod.mk.inj o;subst o;have z:=sized_slice n A u q;rw[r] at z;have y:len≤zs.length:=by rw[C];split<;>omega
  have i:(lits k (zs.take len):List (DataW H)).length=len:=by simp[lits];omega
  rw[i] at z;have:len*B≤(len+(lits k (zs.drop len):List (DataW H)).length)*B:=Vn _ (by omega);exact VZ this z
theorem UQ {n:Int} (h:(Lit.int .i32 n).wf=true): -2147483648≤n∧n≤2147483647:=by
 simp only[Lit.wf,U9,decide_eq_true_eq] at h;have a:IntKind.min .i32= -2 ^ 31:=by decide
 have b:IntKind.max .i32=2 ^ 31-1:=by decide
 rw[a,b] at h;omega
theorem T8 {n:Int} (h:(Lit.int .i64 n).wf=true): -2 ^ 63≤n∧n<2 ^ 63:=by
 simp only[Lit.wf,U9,decide_eq_true_eq] at h;have a:IntKind.min .i64= -2 ^ 63:=by decide
 have b:IntKind.max .i64=2 ^ 63-1:=by decide
 rw[a,b] at h;omega
theorem SK:maxLen<2 ^ 62+2 ^ 62:=by unfold maxLen;omega
end Go.Sh

