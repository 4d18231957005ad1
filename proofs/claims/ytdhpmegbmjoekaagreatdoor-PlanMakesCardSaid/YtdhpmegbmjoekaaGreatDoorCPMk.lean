/- Contracts: package plan: Make, of bytes of a graph that is not right; Same, of no plan; law22.spoilt. -/
import Derived.Test.YtdhpmegbmjoekaaGreatDoorCLaw22
import Derived.Test.YtdhpmegbmjoekaaGreatDoorCPSame
namespace Go.Proofs.YtdhpmegbmjoekaaGreatDoor.G
open Go Go.Sh
set_option linter.unusedVariables false
set_option linter.unusedSimpArgs false
theorem JW(s:List UInt8):(ki s).1.nodes.length≤255∧ ∀n∈(ki s).1.nodes,n.inn.length≤65535∧n.weights.length≤65535∧n.bias.length≤65535:=by
 have:=OG s;exact⟨this.1,fun n a=>by have:=this.2 n a;omega⟩
section
variable {h:ah} {s:List UInt8}
theorem LX{gv:Gv}(a:gv.ok)(i:bD h gv.p (aD gv.ns))(j:(aM gv.ns).P h)(b:gv.sizes)(d:KT h)(f:gv.gr.look.e≠0):au P jR #[gv.v] h fun v c=>v= .tuple #[.slice none 0 0,.int .i64 gv.gr.look.e]∧cd no h c:=by
 refine oc _ ?_;have S:=(((aG.start h no).read (aJ 0 (az bl)) d).read (row gv.p (aD gv.ns)) i).read (aM gv.ns) j;refine aA (cs:=gv.cells) S fun k m _ S=> ?_;refine aL S 0 rfl (x:=gv.t) rfl ?_;refine(Aa a (S.ro 1) (S.rd 2) b.1 (fun n g=>by have:=b.2 n g;omega) (S.rd 0)).mono ?_;rintro _ l ⟨rfl,F⟩;exact⟨_,rfl,bh (fun _=>⟨rfl,(S.fra0 F).fra⟩) (fun h=>absurd h f)⟩
theorem SP:Gv.zero.ok∧Gv.zero.sizes∧(aM Gv.zero.ns).P h∧bD h Gv.zero.p (aD Gv.zero.ns):=⟨⟨rfl,VX _,fun n a=>(by cases a)⟩,⟨by decide,fun n a=>(by cases a)⟩,fun f b=>(by cases b),bD.nil _ _⟩
theorem OL(L:s.length<2 ^ 60)(o:KT h)(p:(ki s).2=0)(d:(ki s).1.look.e≠0):au P gI #[.string (str s)] h fun v m=>v= .tuple #[Pv.zero.v,.int .i64 (ki s).1.look.e]∧cd no h m:=by
 refine mX _ ?_;have S:=(aG.start h no).read (aJ 0 (az bl)) o;refine aA (cs:=Pv.zero.cells) S (fun u _ _ S=> ?_);refine(Et (by omega)).mono ?_;rintro _ z ⟨b,rfl,a,c,j⟩;replace S:=S.add j fun _ _ h=>h;refine fy b.t ⟨_,rfl,?_⟩;refine aA (cs:=aK bz (zT bz)) S fun w A _ S=> ?_;refine bP S 3 rfl rfl (aW rfl) fun B _ S=> ?_;have g:=JW s;rw[←c]at d g ⊢;have k:b.sizes:=by
  obtain⟨M,r⟩:=g;refine⟨?_,fun n i=> ?_⟩
  ·have:b.gr.nodes.length=b.l:=by rw[←a.1];simp[Gv.gr]
   omega
  ·have q:=r n.nd (VZ.2 ⟨n,i,rfl⟩);have f:=a.2.2 n i;have E:=f.1.1;have G:=f.2.1.1;have H:=f.2.2.1;have I:n.inn.xs.length≤65535:=q.1;have J:n.weights.xs.length≤65535:=q.2.1;have K:n.bias.xs.length≤65535:=q.2.2;exact⟨by omega,by omega,by omega⟩
 refine bh (fun h=>absurd p h) (fun _=> ?_);refine aL S 3 rfl (x:=b.t) rfl ?_;refine(LX a (S.ow 1).row (S.wd 2) k (S.rd 0) d).mono ?_;rintro _ C ⟨rfl,F⟩;replace S:=S.fra0 F;refine⟨_,_,_,_,rfl,?_⟩;refine bh (fun _=> ?_) (fun h=>absurd h d);refine bP S 0 rfl rfl (show ∀y∈Pv.zero.cells,ib y=true from aW rfl) fun D _ S=> ?_;exact aL S 0 rfl (x:=Pv.zero.t) rfl ⟨rfl,S.fra⟩
theorem Sx{pv:Pv}(r:pv.g.ok)(H:bD h pv.g.p (aD pv.g.ns))(J:(aM pv.g.ns).P h)(G:pv.g.l<2 ^ 62)(L: ∀n∈pv.g.ns,n.small)(w:pv.o.ok)(K:pv.o.l<2 ^ 62)(I:bD h pv.o.p (az pv.o.xs))(E:pv=Pv.zero∨pv.g.gr≠Gv.zero.gr):
 au P lX #[pv.v,Pv.zero.v] h fun v B=> ∃b:Bool,v= .bool b∧(b=true↔pv.g.gr=Gv.zero.gr)∧cd no h B:=by
 refine sg pv.t Pv.zero.t ?_;have S:=(((aG.start h no).read (row pv.g.p (aD pv.g.ns)) H).read (aM pv.g.ns) J).read (row pv.o.p (az pv.o.xs)) I;refine aA (cs:=pv.cells) S fun d _ _ S=> ?_;refine aA (cs:=Pv.zero.cells) S fun f D _ S=> ?_;have z:=SP (h:=D);refine Sy (pv:=pv) (fun j v u=>S.cell 0 rfl u) (Sy (pv:=Pv.zero) (fun j v u=>S.cell 1 rfl u) ?_);refine au.mono (Gu r z.1 (S.ro 0) (S.rd 1) z.2.2.2 z.2.2.1 G L) ?_;rintro _ M ⟨b,rfl,y,F⟩;replace S:=S.fra0 F;refine⟨_,rfl,ak (p:=pv.o.p) (l:=pv.o.l) (c:=pv.o.c) (S.c 0) (ak (p:=none) (l:=0) (c:=0) (S.c 1) ?_)⟩;refine(JQ (S.ro 2) w.1 (ys:=[]) (bD.nil _ _) rfl K).mono ?_;rintro _ C ⟨rfl,A⟩;subst A;refine⟨_,rfl,?_⟩;rcases E with e|a
 ·subst e;have q:b=true:=y.2 rfl;refine⟨fun s g=>s=(⟨d,0,none⟩,⟨f,0,none⟩,())∧aG h no g [aJ d Pv.zero.cells,aJ f Pv.zero.cells] [row Pv.zero.g.p (aD Pv.zero.g.ns),aM Pv.zero.g.ns,row Pv.zero.o.p (az Pv.zero.o.xs)],?_,?_⟩
  ·clear S;rintro s g ⟨rfl,S⟩;refine aO (fun m s x=>s=(⟨d,0,none⟩,⟨f,0,none⟩,(0:Int),())∧aG h no x [aJ d Pv.zero.cells,aJ f Pv.zero.cells] [row Pv.zero.g.p (aD Pv.zero.g.ns),aM Pv.zero.g.ns,row Pv.zero.o.p (az Pv.zero.o.xs)]) 0 ⟨rfl,S⟩ ?_;rintro m s x ⟨rfl,S⟩;refine ak (p:=none) (l:=0) (c:=0) (S.c 0) (bG rfl ?_);refine ae (n:=0) (S.c 0) (ae (n:=0) (S.c 1) (cC rfl ?_));refine ae (n:=0) (S.c 0) (ae (n:=0) (S.c 1) (cC rfl ?_));refine ae (k:= .u32) (n:=0) (S.c 0) (ae (k:= .u32) (n:=0) (S.c 1) ⟨true,rfl,⟨fun _=>rfl,fun _=>rfl⟩,S.fra⟩)
  ·rw[q];refine bG rfl (bG rfl ?_);refine ak (p:=none) (l:=0) (c:=0) (S.c 0) (ak (p:=none) (l:=0) (c:=0) (S.c 1) (bG rfl ⟨rfl,S⟩))
 ·have i:b=false:=by
   cases b with
   |false=>rfl
   |true=>exact absurd (y.1 rfl) a
  refine⟨fun _ _=>False,fun _ _ h=>h.elim,?_⟩;rw[i];exact cC rfl ⟨false,rfl,⟨fun h=>Bool.noConfusion h,fun h=>absurd h a⟩,S.fra⟩
theorem AY(m:s.length<2 ^ 59)(b a:Int):au P jW #[.string (str s),.agg #[.int .i64 b,.int .i64 a]] h fun v e=> ∃u:List UInt8,v= .string (str u)∧u.length≤s.length+1∧cd no h e:=by
 refine xA _ _ _ ?_;have S:=aG.start h no;refine aA (cs:=[.int .i64 b,.int .i64 a]) S fun g j _ S=> ?_;rw[cu];refine aH (fun h0=>⟨s,rfl,by omega,S.fra⟩) (fun h0=> ?_);refine fm (by decide) (by decide) ?_;refine ae (n:=b) (S.c 0) ⟨h0,h0,?_⟩;obtain⟨k,d,l⟩:=DV b (n:=s.length) (by omega) (by omega);rw[d];refine fm (by decide) (by decide) ?_;refine ae (n:=a) (S.c 0) (aq (fun _=> ?_) (fun _=> ?_))
 ·refine iH (n:=k) rfl (by omega) ?_;rw[gJ];exact⟨_,rfl,by rw[VV,Wh];omega,S.fra⟩
 ·refine iH (n:=k) rfl (by omega) ?_;refine fm (by decide) (by decide) ?_;rw[al (n:=(k:Int)+1) (by omega)];refine iH (n:=k+1) rfl (by omega) ?_;refine ae (n:=a) (S.c 0) ?_;refine aA (cs:=[.int .u8 (IntKind.wrap .u8 a)]) S fun i f _ S=> ?_;refine K8 (bs:=[kH a]) (bD.of_at (by have:=S.ap 1;rw[Ha,←kI]at this;exact this)) rfl ⟨_,rfl,?_⟩;rw[gJ,gJ];refine kv (by rw[cu,cu,WQ,VV];omega) ?_;rw[jC];refine kv (by rw[cu,cu,Tz,WQ,VV,VV,Wh,Wh];omega) ?_;rw[jC];exact⟨_,rfl,by simp only[Tz,WQ,VV,Wh];omega,S.fra⟩
