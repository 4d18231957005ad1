/- The program's table of kinds, as a row's condition lays it. -/
import Derived.Test.YtdhpmegbmjoekaaGreatDoorRows
import Derived.Test.YtdhpmegbmjoekaaGreatDoorCKindP3
import Derived.Test.YtdhpmegbmjoekaaGreatDoorShArg
import Derived.LaidMore
import Derived.LaidLaws
import Derived.Lay
import Derived.MakeChecks
import Derived.Stop.Joined
namespace Go.Proofs.YtdhpmegbmjoekaaGreatDoor.G
open Go Go.Sh
set_option linter.unusedVariables false
set_option linter.unusedSimpArgs false
abbrev DV:List (String×DataW Unit):=[("earshot/kind.kinds",Rows.laid_earshot_kind_kinds)]
theorem Qr:P.globalNamed "earshot/kind.kinds" =some 0:=by kernel_rfl
theorem N5 (os:Os) (args:Array Value):laidMetH P DV ((World.laidAll P os DV).forCall (fun _ _=>0) ⟨#[],args,[]⟩).memory:=by
 rw[MakeChecks.laidMetH_plain _ _ _ (by kernel_rfl)]
 exact laidMet_laidAll _ (by kernel_rfl) (by kernel_rfl)
noncomputable def kT:TypeId:=((P.globals[0]?).map (·.type)).getD 0
noncomputable def kE:TypeId:=match P.underlying kT with|some (.array _ e)=>e|_=>0
theorem Q2:(P.globals[0]?).map (·.type)=some kT:=by kernel_rfl
theorem N6:P.underlying kT=some (.array 13 kE):=by kernel_rfl
theorem N7:P.underlying kE=some (.int .i64):=by kernel_rfl
theorem N8:P.cellsOf kE=1:=by kernel_rfl
theorem N9:P.cellsOf kT=13:=by kernel_rfl
theorem JP {W:World} (h:laidMetH P DV W):KT W.heap:=by
 rw[MakeChecks.laidMetH_plain _ _ _ (by kernel_rfl)] at h
 obtain⟨ps,⟨g0,t0,cs,f0,p0,q0,hg0,ht0,hv0,hd0,_,hps⟩,_,hcells⟩:=h
 obtain rfl:=Option.some.inj (Qr.symm.trans hg0)
 obtain rfl:=Option.some.inj (Q2.symm.trans ht0)
 obtain⟨xs,m,_,ex,hcl,hl,hel⟩:=DataW.trod_array N6 hd0
 rw[N9] at hcl
 have e3:(xs.map (·.1))=aS.map fun n=>(.lit (.int .i64 n):DataW Unit):=(DataW.agg.inj (Prod.mk.inj ex).1).symm
 have each: ∀r,r<13→cs.toList[r]? =(az aS)[r]? :=fun r hr=>by
  have hE:=hel r hr
  rw[N8,Nat.mul_one,List.getElem?_eq_getElem (by omega)] at hE
  obtain⟨z,e1,e2,_⟩:=DataW.trod_int N7 hE
  have e4:(xs.map (·.1))[r]? =(aS.map fun n=>(DataW.lit (.int .i64 n):DataW Unit))[r]? :=by rw[e3]
  have hrk:r<aS.length:=hr
  rw[List.getElem?_map,List.getElem?_map,List.getElem?_eq_getElem (by omega:r<xs.length),List.getElem?_eq_getElem hrk,e2] at e4
  simp only[Option.map_some,Option.some.injEq,DataW.lit.injEq,Lit.int.injEq,true_and] at e4
  rw[aN (List.getElem?_eq_getElem hrk),←e4]
  have h0:((cs.toList.drop r).take 1)[0]? =some (.int .i64 z):=by rw[e1];rfl
  simpa using h0
 have ecs:cs.toList=az aS:=by
  apply List.ext_getElem?
  intro r
  by_cases hr:r<13
  ·exact each r hr
  ·rw[List.getElem?_eq_none (by omega),List.getElem?_eq_none (by rw[aB];show 13≤r;omega)]
 have hmem:MemPlace.cell 0 0∈ps:=by
  rw[hps]
  refine List.mem_append_left _ (List.mem_append_left _ (List.mem_map.2 ⟨0,List.mem_range.2 ?_,rfl⟩))
  have:cs.size=13:=by rw[←hcl,Array.length_toList]
  omega
 obtain⟨⟨c,t,hb⟩,_⟩:=hcells 0 0 hmem
 have hcc:c=cs:=by
  apply Array.ext_getElem?
  intro i
  have h1:=World.var?_cell hg0 hv0 i
  rw[←h1]
  show _=World.cell? W _
  unfold World.cell?
  rw[hb]
  rfl
 subst hcc
 refine⟨t,0,0,?_,.inr (Nat.le_refl _)⟩
 rw[hb,←ecs]
end Go.Proofs.YtdhpmegbmjoekaaGreatDoor.G
