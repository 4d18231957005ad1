/- Sh, part 11: from a law over heaps to its row. -/
import Derived.Test.YtdhpmegbmjoekaaGreatDoorShL
import Derived.WalkKit
import Derived.ProofKit
import Derived.OpenShut
import Derived.ShutString
import Derived.ChangeOld
import Derived.Below
import Derived.SizedLaws
set_option linter.unusedVariables false
namespace Go.Sh
open Go.RowKit Go.ChangeShapes Go.WideShapes
theorem cu.below {W w':World} (f:Fr W w') (k:cu no W.heap w'.heap):Below W.heap.size W w':=
 ⟨f.os,f.tape,f.output,k.size,fun b hb=>k.same b hb fun h=>h⟩
theorem Iv {P:Program} {f:FuncId} {args:Array Value} {W:World} {r:Value} (H:aq P f args W.heap fun v h'=>v=r∧cu no W.heap h'):
 Calls P f args W fun e w'=>e= .returned r∧Below W.heap.size W w':=
 (H.2 W rfl).mono fun _ _ ⟨_,he,hf,hv,hk⟩=>⟨by rw[he,hv],hk.below hf⟩
theorem yl {w:World} {a:Addr} {xs:List Value} (h: ∀i v,xs[i]? =some v→w.cell? (a.add i)=some v):bT w.heap (some a) xs:=by
 cases hx:xs with
 |nil=>exact .inl rfl
 |cons x r=>
  subst hx
  right
  have h0:=h 0 x rfl
  rw[show Addr.add a 0=a from rfl] at h0
  obtain⟨b,o,sp⟩:=a
  simp only[World.cell?] at h0
  split at h0
  ·rename_i c e f hb
   split at h0
   ·cases h0
   ·rename_i hsp
    have hsp:sp=none:=by cases sp<;>simp_all
    subst hsp
    have hcell: ∀i v,(x::r)[i]? =some v→c.toList[o+i]? =some v:=by
     intro i v hv
     have:=h i v hv
     rw[aY] at this
     simp only[World.cell?,hb] at this
     simpa using this
    have hlen:o+(x::r).length≤c.toList.length:=by
     have hn:(x::r).length-1<(x::r).length:=by simp
     have:=hcell _ _ (List.getElem?_eq_getElem hn)
     have:=(List.getElem?_eq_some_iff.1 this).1
     simp only[List.length_cons] at *
     omega
    refine⟨_,rfl,rfl,c.toList,⟨e,f,by simpa using hb⟩,hlen,fun i hi=> ?_⟩
    rw[List.getElem?_eq_getElem hi]
    exact hcell i _ (List.getElem?_eq_getElem hi)
  ·cases h0
theorem DT {H:Type} {enc:TypeId×Value→H} {P:Program} {W:World} {base:Nat} {held:Bool} {t e:TypeId} {k:IntKind} {v:Value} {d:DataW H} {ps:List MemPlace}
 (hu:P.underlying t=some (.slice e)) (he:P.underlying e=some (.int k)) (hc:P.cellsOf e=1) (hok:Value.okWide P W .any base t v)
 (h:DataW.Trod enc P W 0 (fun _=>true) held t v d ps):
 ∃p l c,∃xs:List Int,v= .slice p l c∧bT W.heap p (xs.map (Value.int k))∧xs.length=l∧l≤c∧l≤maxLen∧(∀n∈xs,(Lit.int k n).wf=true)∧(c:Nat)≤maxLen:=by
 obtain⟨p,l,c,rfl⟩:=okWide_slice hu hok
 obtain⟨fuel,hf⟩:=h
 rcases open_ints hu he hc hf with ⟨hcs,_⟩|⟨x,l',c',zs,hcs,_,hl,hm,hz,_,hcell,hwz⟩
 ·simp[Value.cells] at hcs
  obtain⟨rfl,rfl,rfl⟩:=hcs
  exact⟨none,0,0,[],rfl,.inl rfl,rfl,Nat.le_refl _,by simp,by simp,by simp⟩
 ·simp[Value.cells] at hcs
  obtain⟨rfl,rfl,rfl⟩:=hcs
  have hz':zs.length=c:=by simpa using hz
  refine⟨some x,l,c,zs.take l,rfl,?_,by simp;omega,hl,Nat.le_trans hl hm,fun n hn=>hwz n (List.mem_of_mem_take hn),hm⟩
  refine yl fun i v hv=> ?_
  rw[List.getElem?_map,List.getElem?_take] at hv
  split at hv
  ·rename_i hi
   rw[hcell i (by omega)]
   rw[List.getD_eq_getElem?_getD]
   cases hzi:zs[i]? with
   |none=>rw[hzi] at hv;simp at hv
   |some n=>rw[hzi] at hv;simp at hv;subst hv;simp
  ·simp at hv
theorem DU {H:Type} {enc:TypeId×Value→H} {P:Program} {W:World} {base:Nat} {spare:Nat→Bool} {held:Bool} {t e:TypeId} {k:IntKind} {a:Option Addr} {len cap:Nat} {d:DataW H} {ps:List MemPlace} {ts:List TypeId} {ds:List (DataW H)} {j:Nat}
 (hsz:(DataW.weightsEach P ts ds).all (· ≤reachBytes)=true) (ht:ts[j]? =some t) (hd:ds[j]? =some d) (hu:P.underlying t=some (.slice e)) (he:P.underlying e=some (.int k)) (hc:P.cellsOf e=1) {B:Nat} (hB:P.bytesOf e=B)
 (h:DataW.Trod enc P W base spare held t (.slice a len cap) d ps):len*B≤140737488351232:=by
 obtain⟨fuel,hf⟩:=h
 rcases open_ints hu he hc hf with ⟨hcs,_⟩|⟨x,l,c,zs,hcs,_,hl,_,hz,hx,_,_⟩
 ·simp[Value.cells] at hcs
  obtain⟨rfl,rfl,rfl⟩:=hcs
  simp
 ·simp[Value.cells] at hcs
  obtain⟨rfl,rfl,rfl⟩:=hcs
  obtain⟨hx,_⟩:=Prod.mk.inj hx
  subst hx
  have z:=sized_slice hsz ht hd hu
  rw[hB] at z
  have hl2:len≤zs.length:=by rw[hz];split<;>omega
  have hlen:(lits k (zs.take len):List (DataW H)).length=len:=by simp[lits];omega
  rw[hlen] at z
  have:len*B≤(len+(lits k (zs.drop len):List (DataW H)).length)*B:=Nat.mul_le_mul_right _ (by omega)
  exact Nat.le_trans this z
theorem Sv {n:Int} (h:(Lit.int .i32 n).wf=true): -2147483648≤n∧n≤2147483647:=by
 simp only[Lit.wf,Bool.and_eq_true,decide_eq_true_eq] at h
 have e1:IntKind.min .i32= -2 ^ 31:=by decide
 have e2:IntKind.max .i32=2 ^ 31-1:=by decide
 rw[e1,e2] at h
 omega
theorem RD {n:Int} (h:(Lit.int .i64 n).wf=true): -2 ^ 63≤n∧n<2 ^ 63:=by
 simp only[Lit.wf,Bool.and_eq_true,decide_eq_true_eq] at h
 have e1:IntKind.min .i64= -2 ^ 63:=by decide
 have e2:IntKind.max .i64=2 ^ 63-1:=by decide
 rw[e1,e2] at h
 omega
theorem Qv:maxLen<2 ^ 62+2 ^ 62:=by unfold maxLen;omega
end Go.Sh
