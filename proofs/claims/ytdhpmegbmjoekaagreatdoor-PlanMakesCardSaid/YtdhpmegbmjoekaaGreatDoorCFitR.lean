/- Plain: a right graph fits its bytes; how long its rows are. -/
import Derived.Test.YtdhpmegbmjoekaaGreatDoorCRng2
import Derived.Test.YtdhpmegbmjoekaaGreatDoorCReachV
import Derived.Test.YtdhpmegbmjoekaaGreatDoorCParse
namespace Go.Proofs.YtdhpmegbmjoekaaGreatDoor.G
open Go Go.Sh
set_option linter.unusedVariables false
set_option linter.unusedSimpArgs false
theorem wq{a b x:Int}:bv a b [x]↔a≤x∧x≤b:=by rw[cn];exact⟨fun h=>h.1,fun h=>⟨h,cK _ _⟩⟩
theorem JJ{n:Nd}{ws:List Int}(h:n.chk ws=0):(0≤n.left∧n.left≤31)∧(0≤n.right∧n.right≤31)∧(0≤n.step∧n.step≤4)∧(0≤n.width∧n.width≤16):=by
 have l:=gZ h;obtain⟨_,_,_,_,_,_,_,_,f,b,_⟩:=fD h;obtain⟨i,k,c,_⟩:=f;obtain⟨m,j,e,_⟩:=b;by_cases d:dp n.kind
 ·have:=j d;by_cases a:wide n.kind
  ·have:=e a;omega
  ·have:=c a;omega
 ·have:=i d;by_cases a:wide n.kind
  ·have:=e a;omega
  ·have:=c a;omega
theorem Es{n:Nd}{ws:List Int}(h:n.chk ws=0):n.inn.length≤4∧n.weights.length≤2048∧n.bias.length≤16∧bv (-128) 127 n.weights∧bv (-16777216) 16777216 n.bias:=by
 have b:=gZ h;have c:=JJ h;obtain⟨l,v,w,_,_,m,o,_,p,e,_⟩:=fD h;obtain⟨x,y,z,q,_⟩:=p;obtain⟨D,E,F,r,_⟩:=e;have a:1≤ws.getD 0 0∧ws.getD 0 0≤16:=by
  have d:ws.getD 0 0∈ws:=by rw[cA (by omega)];exact VN _
  exact l _ d
 refine⟨?_,?_⟩
 ·by_cases d:dm n.kind
  ·have:=m d;omega
  ·have:=o d;omega
 ·by_cases i:gq n.kind
  ·obtain⟨f,s,t,u⟩:=r i;refine⟨?_,?_,t,u⟩
   ·have m1:0≤n.width*n.size∧n.width*n.size≤16*8:=⟨WA c.2.2.2.1 b.1.1,Wo c.2.2.2.2 b.1.2 b.1.1 (by decide)⟩;have A:0≤n.width*n.size*ws.getD 0 0∧n.width*n.size*ws.getD 0 0≤16*8*16:=⟨WA m1.1 (by omega),Wo m1.2 a.2 (by omega) (by decide)⟩;have B:0≤ws.getD 0 0*n.size∧ws.getD 0 0*n.size≤16*8:=⟨WA (by omega) b.1.1,Wo a.2 b.1.2 b.1.1 (by decide)⟩;have C:0≤n.width*ws.getD 0 0∧n.width*ws.getD 0 0≤16*16:=⟨WA c.2.2.2.1 (by omega),Wo c.2.2.2.2 a.2 (by omega) (by decide)⟩;unfold Nd.wcount at f;split at f
    ·omega
    ·split at f<;>omega
   ·split at s<;>omega
  ·have:=q i;have j:n.weights=[]:=List.eq_nil_of_length_eq_zero this.1;have k:n.bias=[]:=List.eq_nil_of_length_eq_zero this.2;rw[j,k];exact⟨by decide,by decide,cK _ _,cK _ _⟩
theorem Sm{n:Nd}{ws:List Int}(h:n.chk ws=0)(hi:bv 0 255 n.inn):n.fit:=by
 have o:=gZ h;have m:=JJ h;have c:=Es h;obtain⟨e,f,i,j,k,_,_,_,l,a,_⟩:=fD h;obtain⟨_,_,_,_,d⟩:=a;refine⟨?_,hi,?_,⟨by omega,fun x b=> ?_⟩,⟨by omega,fun x b=> ?_⟩,?_,?_,?_,?_⟩
 ·rw[cn,wq];omega
 ·rw[cn,cn,cn,cn,cn,wq];omega
 ·have:=c.2.2.2.1 x b;exact⟨by show(-2147483648:Int)≤x;omega,by show x≤(2147483647:Int);omega⟩
 ·have:=c.2.2.2.2 x b;exact⟨by show(-2147483648:Int)≤x;omega,by show x≤(2147483647:Int);omega⟩
 ·rw[wq];omega
 ·rw[wq];omega
 ·rw[cn,wq];exact⟨d.2.2.1,d.2.2.2.1⟩
 ·rw[wq];omega
section
variable {gv:Gv} {g:Gr} {W R:Int→Int} {pos:Int→Nat}
theorem bW.fits(r:bW g W R pos):g.fit∧g.short:=by
 obtain⟨f,h,j,k,l,d⟩:=bX r.first;have a: ∀n∈g.nodes,n.chk (n.inn.map W)=0:=fun n b=>by
  obtain⟨i,c⟩:=Wx.1 b;exact r.chk i n c
 refine⟨⟨by rw[wq];omega,?_,by rw[wq];omega,fun n b=>Sm (a n b) fun x e=> ?_,by rw[wq];omega⟩,⟨by omega,fun n b=> ?_⟩⟩
 ·rw[cn,wq];exact⟨⟨by show(-2147483648:Int)≤_;omega,by show _≤(2147483647:Int);omega⟩,by show(-2147483648:Int)≤_;omega,by show _≤(2147483647:Int);omega⟩
 ·have:=d n b x e;omega
 ·have:=Es (a n b);exact⟨by omega,by omega,by omega⟩
theorem bW.sizes(r:bW gv.gr W R pos)(b:gv.ok):gv.sizes:=by
 have d:=b.1;have j:gv.gr.nodes.length=gv.l:=by rw[←d];simp[Gv.gr]
 have:=(bX r.first).2.1;refine⟨by omega,fun c e=> ?_⟩;obtain⟨i,f⟩:=Wx.1 e;have a:gv.gr.nodes[i]? =some c.nd:=by show(gv.ns.map Nv.nd)[i]? =_;rw[VP,f];rfl
 have h:=Es (r.chk i _ a);have ok:=b.2.2 c e;have k:c.inn.xs.length≤4:=h.1;have m:c.weights.xs.length≤2048:=h.2.1;have n:c.bias.xs.length≤16:=h.2.2.1;have:=ok.1.1;have:=ok.2.1.1;have:=ok.2.2.1;omega
