/- Contracts: the program's Live: which nodes are live. -/
import Derived.Test.YtdhpmegbmjoekaaGreatDoorCRenum
import Derived.Test.YtdhpmegbmjoekaaGreatDoorShRg
namespace Go.Proofs.YtdhpmegbmjoekaaGreatDoor.G
open Go Go.Sh
set_option linter.unusedVariables false
set_option linter.unusedSimpArgs false
def Inn (ns:List Nd):Prop:= ∀n∈ns,∀j∈n.inn,0≤j∧j≤(ns.length:Int)
theorem nt.Inn {ns:List Nd} {pos:Int→Nat} (h:nt ns pos):Inn ns:=fun n hn j hj=>by
 obtain⟨i,en⟩:=List.mem_iff_getElem?.1 hn
 have:=(h i n en).2 j hj
 exact⟨this.1,this.2.1⟩
def NB (n:Nat) (M:LM):List Bool:=(List.range (n+1)).map fun x:Nat=>(M (x:Int)).isSome
def GS (l:List Bool):List Value:=l.map .bool
section
variable {h:ae}
def Ss (g:Gr) (h:ae) (v:Value) (h':ae):Prop:=
 ∃(p:Option Addr) (l c:Nat),v= .slice p l c∧(if g.look.e=0 then NB g.nodes.length (kj g.nodes g.out) else[]).length=l∧aK h no h' [row p (GS (if g.look.e=0 then NB g.nodes.length (kj g.nodes g.out) else[]))] []
theorem fZ.range {ns:List Nd} {out:Int} {M:LM} {pos:Int→Nat} (I:fZ ns out M pos) {x:Int} (h:(M x).isSome):0≤x∧x≤(ns.length:Int):=by
 have:=(I.lv x).1 h
 induction this with
 |out=>exact⟨by have:=I.out1;omega,I.outn⟩
 | @inn i n j _ en hj _=>exact I.ranked.Inn n (List.mem_of_getElem? en) j hj
end
end Go.Proofs.YtdhpmegbmjoekaaGreatDoor.G
