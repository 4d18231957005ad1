/- The program's table of kinds, as a row's condition lays it. -/
import Derived.Test.YtdhpmegbmjoekaaGreatDoorRows
import Derived.Test.YtdhpmegbmjoekaaGreatDoorCKindP3
import Derived.Test.YtdhpmegbmjoekaaGreatDoorShArg
import Derived.LaidMore
import Derived.LaidLaws
import Derived.Lay
import Derived.MakeChecks
import Derived.Stop.Joined
namespace Go.Proofs.YtdhpmegbmjoekaaGreatDoor.G
open Go Go.Sh
set_option linter.unusedVariables false
set_option linter.unusedSimpArgs false
abbrev Ey:List (String×DataW Unit):=[("earshot/kind.kinds",Rows.laid_earshot_kind_kinds)]
theorem TO:P.globalNamed "earshot/kind.kinds" =some 0:=by kernel_rfl
theorem QW(os:Os)(args:Array Value):laidMetH P Ey ((World.laidAll P os Ey).forCall (fun _ _=>0) ⟨#[],args,[]⟩).memory:=by
 rw[MakeChecks.laidMetH_plain _ _ _ (by kernel_rfl)];exact laidMet_laidAll _ (by kernel_rfl) (by kernel_rfl)
noncomputable def kT:TypeId:=((P.globals[0]?).map (·.type)).getD 0
noncomputable def kE:TypeId:=match P.underlying kT with|some (.array _ e)=>e|_=>0
theorem Ui:(P.globals[0]?).map (·.type)=some kT:=by kernel_rfl
theorem QX:P.underlying kT=some (.array 13 kE):=by kernel_rfl
theorem QY:P.underlying kE=some (.int .i64):=by kernel_rfl
theorem QZ:P.cellsOf kE=1:=by kernel_rfl
theorem Q1:P.cellsOf kT=13:=by kernel_rfl
theorem L1{W:World}(h:laidMetH P Ey W):KT W.heap:=by
 rw[MakeChecks.laidMetH_plain _ _ _ (by kernel_rfl)]at h;obtain⟨F,⟨H,t0,b,G,J,K,f,v,w,q,_,u⟩,_,a⟩:=h;obtain rfl:=Option.some.inj (TO.symm.trans f);obtain rfl:=Option.some.inj (Ui.symm.trans v);obtain⟨xs,m,_,D,e,I,s⟩:=DataW.trod_array QX q;rw[Q1]at e;have C:(xs.map (·.1))=bl.map fun n=>(.lit (.int .i64 n):DataW Unit):=(DataW.agg.inj (Prod.mk.inj D).1).symm;have d: ∀r,r<13→b.toList[r]? =(az bl)[r]? :=fun r k=>by
  have x:=s r k;rw[QZ,VO,bo (by omega)]at x;obtain⟨z,A,B,_⟩:=DataW.trod_int QY x;have l:(xs.map (·.1))[r]? =(bl.map fun n=>(DataW.lit (.int .i64 n):DataW Unit))[r]? :=by rw[C]
  have j:r<bl.length:=k;rw[VP,VP,bo (by omega:r<xs.length),bo j,B]at l;simp only[Option.map_some,Option.some.injEq,DataW.lit.injEq,Lit.int.injEq,true_and]at l;rw[aF (bo j),←l];have h0:((b.toList.drop r).take 1)[0]? =some (.int .i64 z):=by rw[A];rfl
  simpa using h0
 have o:b.toList=az bl:=by
  apply Wk;intro r;by_cases k:r<13
  ·exact d r k
  ·rw[V3 (by omega),V3 (by rw[av];show 13≤r;omega)]
 have g:MemPlace.cell 0 0∈F:=by
  rw[u];refine Wt _ (Wt _ (VZ.2 ⟨0,Wq.2 ?_,rfl⟩));have:b.size=13:=by rw[←e,Xo]
  omega
 obtain⟨⟨c,t,y⟩,_⟩:=a 0 0 g;have p:c=b:=by
  apply Array.ext_getElem?;intro i;have E:=World.var?_cell f w i;rw[←E];show _=World.cell? W _;unfold World.cell?;rw[y];rfl
 subst p;refine⟨t,0,0,?_,.inr (VX _)⟩;rw[y,←o]
