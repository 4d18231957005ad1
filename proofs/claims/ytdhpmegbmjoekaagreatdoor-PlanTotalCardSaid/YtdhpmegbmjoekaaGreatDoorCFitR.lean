/- Plain: a right graph fits its bytes; how long its rows are. -/
import Derived.Test.YtdhpmegbmjoekaaGreatDoorCRng2
import Derived.Test.YtdhpmegbmjoekaaGreatDoorCReachV
import Derived.Test.YtdhpmegbmjoekaaGreatDoorCParse
namespace Go.Proofs.YtdhpmegbmjoekaaGreatDoor.G
open Go Go.Sh
set_option linter.unusedVariables false
set_option linter.unusedSimpArgs false
theorem vy {a b x:Int}:bo a b [x]↔a≤x∧x≤b:=by rw[bV];exact⟨fun h=>h.1,fun h=>⟨h,cD _ _⟩⟩
theorem Ii {n:Nd} {ws:List Int} (h:n.chk ws=0):(0≤n.left∧n.left≤31)∧(0≤n.right∧n.right≤31)∧(0≤n.step∧n.step≤4)∧(0≤n.width∧n.width≤16):=by
 have hz:=km h
 obtain⟨_,_,_,_,_,_,_,_,c9,c10,_⟩:=iH h
 obtain⟨e1,e2,e3,_⟩:=c9
 obtain⟨s1,s2,s3,_⟩:=c10
 by_cases h4:dD n.kind
 ·have:=s2 h4
  by_cases hw:wide n.kind
  ·have:=s3 hw;omega
  ·have:=e3 hw;omega
 ·have:=e1 h4
  by_cases hw:wide n.kind
  ·have:=s3 hw;omega
  ·have:=e3 hw;omega
theorem DO {n:Nd} {ws:List Int} (h:n.chk ws=0):n.inn.length≤4∧n.weights.length≤2048∧n.bias.length≤16∧bo (-128) 127 n.weights∧bo (-16777216) 16777216 n.bias:=by
 have hz:=km h
 have hl:=Ii h
 obtain⟨c1,c2,c3,_,_,c6,c7,_,c9,c10,_⟩:=iH h
 obtain⟨e1,e2,e3,e4,_⟩:=c9
 obtain⟨s1,s2,s3,s4,_⟩:=c10
 have hw0:1≤ws.getD 0 0∧ws.getD 0 0≤16:=by
  have hm:ws.getD 0 0∈ws:=by rw[dK (by omega)];exact List.getElem_mem _
  exact c1 _ hm
 refine⟨?_,?_⟩
 ·by_cases hm:dv n.kind
  ·have:=c6 hm;omega
  ·have:=c7 hm;omega
 ·by_cases hk:jb n.kind
  ·obtain⟨w1,w2,w3,w4⟩:=s4 hk
   refine⟨?_,?_,w3,w4⟩
   ·have m1:0≤n.width*n.size∧n.width*n.size≤16*8:=⟨Int.mul_nonneg hl.2.2.2.1 hz.1.1,Int.mul_le_mul hl.2.2.2.2 hz.1.2 hz.1.1 (by decide)⟩
    have m2:0≤n.width*n.size*ws.getD 0 0∧n.width*n.size*ws.getD 0 0≤16*8*16:=⟨Int.mul_nonneg m1.1 (by omega),Int.mul_le_mul m1.2 hw0.2 (by omega) (by decide)⟩
    have m3:0≤ws.getD 0 0*n.size∧ws.getD 0 0*n.size≤16*8:=⟨Int.mul_nonneg (by omega) hz.1.1,Int.mul_le_mul hw0.2 hz.1.2 hz.1.1 (by decide)⟩
    have m4:0≤n.width*ws.getD 0 0∧n.width*ws.getD 0 0≤16*16:=⟨Int.mul_nonneg hl.2.2.2.1 (by omega),Int.mul_le_mul hl.2.2.2.2 hw0.2 (by omega) (by decide)⟩
    unfold Nd.wcount at w1
    split at w1
    ·omega
    ·split at w1<;>omega
   ·split at w2<;>omega
  ·have:=e4 hk
   have a1:n.weights=[]:=List.eq_nil_of_length_eq_zero this.1
   have a2:n.bias=[]:=List.eq_nil_of_length_eq_zero this.2
   rw[a1,a2]
   exact⟨by decide,by decide,cD _ _,cD _ _⟩
theorem Pi {n:Nd} {ws:List Int} (h:n.chk ws=0) (hi:bo 0 255 n.inn):n.fit:=by
 have hz:=km h
 have hl:=Ii h
 have hr:=DO h
 obtain⟨c1,c2,c3,c4,c5,_,_,_,c9,c10,_⟩:=iH h
 obtain⟨_,_,_,_,s5⟩:=c10
 refine⟨?_,hi,?_,⟨by omega,fun x hx=> ?_⟩,⟨by omega,fun x hx=> ?_⟩,?_,?_,?_,?_⟩
 ·rw[bV,vy];omega
 ·rw[bV,bV,bV,bV,bV,vy];omega
 ·have:=hr.2.2.2.1 x hx
  exact⟨by show(-2147483648:Int)≤x;omega,by show x≤(2147483647:Int);omega⟩
 ·have:=hr.2.2.2.2 x hx
  exact⟨by show(-2147483648:Int)≤x;omega,by show x≤(2147483647:Int);omega⟩
 ·rw[vy];omega
 ·rw[vy];omega
 ·rw[bV,vy];exact⟨s5.2.2.1,s5.2.2.2.1⟩
 ·rw[vy];omega
section
variable {gv:Gv} {g:Gr} {W R:Int→Int} {pos:Int→Nat}
theorem bJ.fits (r:bJ g W R pos):g.fit∧g.short:=by
 obtain⟨f1,f2,f3,f4,f5,f6⟩:=bW r.first
 have each: ∀n∈g.nodes,n.chk (n.inn.map W)=0:=fun n hn=>by
  obtain⟨i,en⟩:=List.mem_iff_getElem?.1 hn
  exact r.chk i n en
 refine⟨⟨by rw[vy];omega,?_,by rw[vy];omega,fun n hn=>Pi (each n hn) fun x hx=> ?_,by rw[vy];omega⟩,⟨by omega,fun n hn=> ?_⟩⟩
 ·rw[bV,vy]
  exact⟨⟨by show(-2147483648:Int)≤_;omega,by show _≤(2147483647:Int);omega⟩,by show(-2147483648:Int)≤_;omega,by show _≤(2147483647:Int);omega⟩
 ·have:=f6 n hn x hx;omega
 ·have:=DO (each n hn)
  exact⟨by omega,by omega,by omega⟩
theorem bJ.sizes (r:bJ gv.gr W R pos) (hok:gv.ok):gv.sizes:=by
 have hgl:=hok.1
 have hgn:gv.gr.nodes.length=gv.l:=by rw[←hgl];simp[Gv.gr]
 have:=(bW r.first).2.1
 refine⟨by omega,fun nv hm=> ?_⟩
 obtain⟨i,en⟩:=List.mem_iff_getElem?.1 hm
 have endi:gv.gr.nodes[i]? =some nv.nd:=by show(gv.ns.map Nv.nd)[i]? =_;rw[List.getElem?_map,en];rfl
 have h:=DO (r.chk i _ endi)
 have ok:=hok.2.2 nv hm
 have h1:nv.inn.xs.length≤4:=h.1
 have h2:nv.weights.xs.length≤2048:=h.2.1
 have h3:nv.bias.xs.length≤16:=h.2.2.1
 have:=ok.1.1
 have:=ok.2.1.1
 have:=ok.2.2.1
 omega
end
end Go.Proofs.YtdhpmegbmjoekaaGreatDoor.G
