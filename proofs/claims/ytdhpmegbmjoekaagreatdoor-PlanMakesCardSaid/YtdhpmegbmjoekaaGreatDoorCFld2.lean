/- CAll CFld CFld2, in one text. -/
import Derived.Test.YtdhpmegbmjoekaaGreatDoorCRng2
import Derived.Test.YtdhpmegbmjoekaaGreatDoorCReachV
set_option linter.unusedVariables false
set_option linter.unusedSimpArgs false
namespace Go.Proofs.YtdhpmegbmjoekaaGreatDoor.G
open Go Go.Sh
section
theorem bW.posG{g:Gr}{W R:Int→Int}{pos:Int→Nat}(r:bW g W R pos):bW g W R (Go.Proofs.YtdhpmegbmjoekaaGreatDoor.G.posG g.nodes):=
 {r with rank:=fun i n a j b _=>qe r.ordered a b}
section
variable {h0 h:ah} {T:Nat→Prop} {gv:Gv} {W R:Int→Int} {pos:Int→Nat} {bg:Nat}
theorem LE{y:Value}(J:Sl→Nat→ah→Prop)(w:gv.ok)(hs:gv.sizes)(rt:bW gv.gr W R pos)(X:bD h gv.p (aD gv.ns))(Z:(aM gv.ns).P h)(Q:KT h)(C: ∀j v,gv.cells[j]? =some v→aB h ⟨bg,j,none⟩=some v)
 (O: ∀o k g,J o k g→bD g o.p (az o.xs)∧bD g gv.p (aD gv.ns)∧aB g ⟨bg,3,none⟩=some (.slice gv.p gv.l gv.c))
 (h0: ∀(o:Sl) A,o.ok→o.xs=bK gv.gr.nodes→aG h no A [own 1 o.p o.l o.c (az o.xs)] []→J o 0 A)
 (hy: ∀(o:Sl) (k i:Nat) (B:Nv) g,k<gv.l→(bK gv.gr.nodes)[k]? =some ((i:Int)+1)→gv.ns[i]? =some B→J o k g→gS P y [.int .i64 ((i:Int)+1),B.v] g fun v g'=>v= .bool true∧J o (k+1) g'):
 au P jh #[y,.pointer (some ⟨bg,0,none⟩)] h fun v A=> ∃o,J o gv.l A:=by
 have D:=w.1;have u:gv.gr.nodes.length=gv.l:=by rw[←D];simp[Gv.gr]
 have M:gv.l≤12:=by have:=(bX rt.first).2.1;omega
 refine zw _ _ ?_;refine Hc (x:=gv.t) (fun j v hv=>by rw[aR,SN];exact C j v hv) ?_;refine(DD w X Z hs Q).mono ?_;rintro _ g1 ⟨o,rfl,d,a,N⟩;have a:o.xs=bK gv.gr.nodes:=by rw[a,rt.look]
 refine⟨_,_,_,rfl,?_⟩;have Y:o.l=gv.l:=by rw[←d.1,a,rt.ordered,u]
 refine aO (fun m s g=> ∃k:Nat,s=(y,⟨bg,0,none⟩,(o.p,o.l,o.c),(o.l:Int),(k:Int),())∧k≤gv.l∧m=gv.l-k∧J o k g) gv.l ⟨0,rfl,by omega,rfl,h0 o _ d a N⟩ ?_;rintro m s g ⟨k,rfl,hk,rfl,F⟩;unfold uk;simp only[aR,SN,hC,VO];obtain⟨I,H,S⟩:=O o k g F;refine aq (fun V=> ?_) (fun U=> ?_)
 ·have b:k<o.xs.length:=by rw[d.1];omega
  have z:=ft gv.gr.nodes gv.gr.nodes.length o.xs[k] (by rw[a]at b;simp only[a];exact VN b);obtain⟨i,L⟩: ∃i:Nat,o.xs[k]=(i:Int)+1:=⟨(o.xs[k]-1).toNat,by have:=z.1;omega⟩;rw[L,u]at z;have E:i<gv.l:=by omega
  obtain⟨B,K⟩: ∃n,gv.ns[i]? =some n:=⟨_,bo (by omega)⟩;obtain⟨ao,f⟩:=I.some_of (by rw[av];omega);rw[f]at I;obtain⟨an,e⟩:=H.some_of (by rw[bE];omega);rw[e]at H;have q:o.xs[k]? =some ((i:Int)+1):=by rw[bo b,L]
  refine aC f (k:=k) rfl (by omega) (ae (I.cell (aF q)) ?_);refine ak S ?_;rw[al (n:=(i:Int)+1-1) (by omega),show(i:Int)+1-1=(i:Int) by omega];refine aC e (k:=i) rfl E ?_;refine gi H K ?_;refine yA (hy o k i B g (by omega) (by rw[←a];exact q) K F) ?_;rintro _ g2 ⟨rfl,G⟩;refine⟨_,rfl,bG rfl ?_⟩;rw[al (n:=(k:Int)+1) (by omega)];exact⟨gv.l-(k+1),by omega,k+1,rfl,by omega,rfl,G⟩
 ·have:k=gv.l:=by omega
  subst this;exact⟨o,F⟩
theorem MG{α:Type}(f a b d c:α)(l:List α):(f::(l++[a,b,c])).set (l.length+2) d=f::(l++[a,d,c]):=by
 rw[show l.length+2=(l.length+1)+1 from rfl,List.set_cons_succ,List.set_append,if_neg (by omega),X3];rfl
theorem Ef{α:Type}(f a b c:α)(l:List α):(f::(l++[a,b,c]))[l.length+2]? =some b:=by
 rw[show l.length+2=(l.length+1)+1 from rfl,List.getElem?_cons_succ,Wl (by omega),X3];rfl
theorem TA{α:Type}(f a b c:α)(l:List α):(f::(l++[a,b,c]))[l.length+3]? =some c:=by
 rw[show l.length+3=(l.length+2)+1 from rfl,List.getElem?_cons_succ,Wl (by omega),X3];rfl
abbrev R3(gv:Gv):List bc:=[aJ 0 (az bl),row gv.p (aD gv.ns),aM gv.ns]
theorem xp{round:Obj→Obj→Nat→Q2 [.sc (.int .i64),.ag cJ]→(ah→Prop)→ah→Prop}{K:Nat→ah→Prop}(V:Nat→List bc)(n:gv.ok)(E:gv.sizes)(rt:bW gv.gr W R pos)(S:aG h0 T h (aJ bg gv.cells::V 0) (R3 gv))
 (G: ∀(k i:Nat)(f:Nv)(D l:Nat)(b a:Obj)(o:Sl)(g:ah)(Rr:ah→Prop),k<gv.l→(bK gv.gr.nodes)[k]? =some ((i:Int)+1)→gv.ns[i]? =some f→
  aG h0 T g (aJ bg gv.cells::(V k++[HS D (.deferred (some [])),HS l b,own 1 o.p o.l o.c (az o.xs)])) (R3 gv)→
  (∀m,aG h0 T m (aJ bg gv.cells::(V (k+1)++[HS D (.deferred (some [])),HS l a,own 1 o.p o.l o.c (az o.xs)])) (R3 gv)→Rr m)→round b a l (((i:Int)+1:Int),f.t,()) Rr g)
 (B: ∀(D l:Nat)(d:Obj)(o:Sl)(g:ah),aG h0 T g (aJ bg gv.cells::(V gv.l++[HS D (.deferred (some [])),HS l d,own 1 o.p o.l o.c (az o.xs)])) (R3 gv)→K D g):
 w8 P (.func (.func jh) #[] #[.pointer (some ⟨bg,0,none⟩)]) [.sc (.int .i64),.ag cJ] round h K:=by
 refine Jp S fun D lp b a d A S q=> ?_;have I:=LE (y:= .func (.yield lp) #[] #[]) (bg:=bg) (h:=A) (fun o k g=>aG h0 T g (aJ bg gv.cells::(V k++[HS D (.deferred (some [])),HS lp b,own 1 o.p o.l o.c (az o.xs)])) (R3 gv)) n E rt (S.ro 1) (S.rd 2) (S.rd 0)
  (fun j v F=>S.cell 0 rfl F) (fun o k g S=>⟨(S.own ((V k).length+3) (TA _ _ _ _ _)).row,S.ro 1,S.c 0⟩)
  (fun o H _ _ u=> ?_) (fun o k i f g C x z S=> ?_)
 ·refine au.mono I ?_;rintro _ g ⟨o,S⟩;refine⟨S.w _ _ (Ef _ _ _ _ _),?_⟩;have e:=gY S _ d (Ef _ _ _ _ _);rw[MG]at e;exact B D lp d o _ e
 ·have e:=S.add u fun _ _ h=>h;simp only[Yg,VY,Yh,Wd]at e;exact e
 ·refine q (((i:Int)+1:Int),f.t,()) g _ (S.w _ _ (Ef _ _ _ _ _)) ?_;refine G k i f D lp b a o g _ C x z S fun m S3=> ?_;refine⟨S3.w _ _ (Ef _ _ _ _ _),rfl,?_⟩;have s:=gY S3 _ b (Ef _ _ _ _ _);rw[MG]at s;exact s
theorem LF(gv:Gv):au P kN #[gv.v] h fun v a=> ∃bg,v= .func (.func jh) #[] #[.pointer (some ⟨bg,0,none⟩)]∧aG h no a [aJ bg gv.cells] []:=by
 refine Dd _ ?_;exact aA (cs:=gv.cells) (aG.start h no) fun b1 b _ S=>⟨b1,rfl,S⟩
theorem Eg{p q:Option Addr}{l c m d:Nat}{xs js:List Int}(J:bD h p (az xs))(N:xs.length=l)(I:bD h q (az js))(M:js.length=m)(L:m<2 ^ 40)(H: ∀j∈js,0≤j∧j<(l:Int)):
 au P jV #[.slice p l c,.slice q m d] h fun v F=> ∃b,v= .slice (some ⟨b,0,none⟩) m m∧aG h no F [aJ b (az (bQ xs js))] []:=by
 refine BW _ _ _ _ _ _ ?_;have S:=((aG.start h no).read (row p (az xs)) J).read (row q (az js)) I;refine dM S m rfl (zs:=[.int .i64 0]) rfl rfl (by decide) (by omega) (by omega) fun b1 K _ S=> ?_;dsimp only[Yh,Yg]at S;rw[iG,show List.replicate m (Value.int .i64 0)=az (List.replicate m 0) by simp[az]]at S;refine aO (fun z s g=> ∃i:Nat,s=((p,l,c),(some ⟨b1,0,none⟩,m,m),(q,m,d),(m:Int),(i:Int),())∧i≤m∧z=m-i∧aG h no g [aJ b1 (az (bQ xs (js.take i)++List.replicate (m-i) 0))] [row p (az xs),row q (az js)]) m ⟨0,rfl,by omega,rfl,S⟩ ?_;rintro z s g ⟨i,rfl,hi,rfl,S⟩;dsimp only;refine aq (fun e=> ?_) (fun G=> ?_)
 ·have e:i<m:=by omega
  have a:i<js.length:=by omega
  obtain⟨A,o⟩:=(S.ro 1).some_of (by rw[av];omega);have w:=H js[i] (VN a);obtain⟨x,u⟩: ∃x:Nat,js[i]=x:=⟨js[i].toNat,by omega⟩;rw[u]at w;obtain⟨B,t⟩:=(S.ro 0).some_of (by rw[av];omega);have C:aB g (A.add i)=some (.int .i64 (x:Int)):=by
   have:=S.ro 1;rw[o]at this;exact this.cell (aF (by rw[bo a,u]))
  have D:aB g (B.add x)=some (.int .i64 (xs.getD x 0)):=by
   have:=S.ro 0;rw[t]at this;exact this.cell (aF (by rw[VT,bo (by omega)];rfl))
  refine aC o (k:=i) rfl e ?_;simp only[hC,VO];refine ae C (aC t (k:=x) rfl (by omega) ?_);refine ae D (aC rfl (k:=i) rfl e ?_);simp only[aR,SN];have f:(bQ xs (js.take i)).length=i:=by unfold bQ;rw[Ug,VV];omega
  refine be S 0 rfl (by rw[av,Tz,f,VQ];omega) fun _ _ S=> ?_;rw[bB,uC f e]at S;have y:=pd (fun j:Int=>xs.getD j.toNat 0) a;rw[u,hC]at y;have E:bQ xs (js.take (i+1))=bQ xs (js.take i)++[xs.getD x 0]:=y;rw[←E]at S;rw[al (n:=(i:Int)+1) (by omega)];exact⟨m-(i+1),by omega,i+1,rfl,by omega,rfl,S⟩
 ·have:i=m:=by omega
  subst this;rw[py (by omega),WD,Xp,Wd]at S;exact⟨b1,rfl,yy S⟩
theorem TB{p:Option Addr}{l c:Nat}{xs:List Int}(d:bD h p (az xs))(B:xs.length=l)(z:1≤l)(A:l<2 ^ 40):au P iB #[.slice p l c] h fun v q=>v= .int .i64 (nC xs)∧q=h:=by
 refine pI _ _ _ ?_;refine⟨fun s g=>s=((p,l,c),())∧g=h,?_,bG (decide_eq_false (by show ¬((l:Nat):Int)<1;omega)) ⟨rfl,rfl⟩⟩;rintro s g ⟨rfl,rfl⟩;dsimp only;obtain⟨a,ea⟩:=d.some_of (by rw[av];omega);rw[ea]at d;have e: ∀i,i<l→aB g (a.add i)=some (.int .i64 (xs.getD i 0)):=fun i hi=>d.cell (aF (by rw[VT,bo (by omega)];rfl));refine aC ea (k:=0) rfl (by omega) (ae (e 0 (by omega)) ?_);have j:(xs.take 1).foldl (fun x y=>if y<x then y else x) (xs.getD 0 0)=xs.getD 0 0:=by
  cases xs with
  |nil=>rfl
  |cons x r=>show(if x<x then x else x)=x;rw[if_neg (by omega)]
 refine aO (fun m s f=>f=g∧ ∃i:Nat,s=((p,l,c),(xs.take i).foldl (fun x y=>if y<x then y else x) (xs.getD 0 0),(i:Int),())∧1≤i∧i≤l∧m=l-i) (l-1) ⟨rfl,1,by rw[j];rfl,by omega,by omega,rfl⟩ ?_;rintro m s f ⟨rfl,i,rfl,u,hi,rfl⟩;dsimp only;refine aq (fun w=> ?_) (fun t=> ?_)
 ·refine aC ea (k:=i) rfl (by omega) ?_;simp only[hC,VO];refine ae (e i (by omega)) ?_;rw[al (n:=(i:Int)+1) (by omega)];refine⟨l-(i+1),by omega,by trivial,i+1,?_,by omega,by omega,rfl⟩;have b:i<xs.length:=by omega
  have o:xs.getD i 0=xs[i]:=by rw[VT,bo b];rfl
  rw[gD b,V7,o];rfl
 ·rw[py (by omega)];exact⟨rfl,by trivial⟩
theorem Qs{p:Option Addr}{l c:Nat}{xs:List Int}(d:bD h p (az xs))(B:xs.length=l)(z:1≤l)(A:l<2 ^ 40):au P fR #[.slice p l c] h fun v q=>v= .int .i64 (iO xs)∧q=h:=by
 refine pJ _ _ _ ?_;refine⟨fun s g=>s=((p,l,c),())∧g=h,?_,bG (decide_eq_false (by show ¬((l:Nat):Int)<1;omega)) ⟨rfl,rfl⟩⟩;rintro s g ⟨rfl,rfl⟩;dsimp only;obtain⟨a,ea⟩:=d.some_of (by rw[av];omega);rw[ea]at d;have e: ∀i,i<l→aB g (a.add i)=some (.int .i64 (xs.getD i 0)):=fun i hi=>d.cell (aF (by rw[VT,bo (by omega)];rfl));refine aC ea (k:=0) rfl (by omega) (ae (e 0 (by omega)) ?_);have j:(xs.take 1).foldl (fun x y=>if y>x then y else x) (xs.getD 0 0)=xs.getD 0 0:=by
  cases xs with
  |nil=>rfl
  |cons x r=>show(if x>x then x else x)=x;rw[if_neg (by omega)]
 refine aO (fun m s f=>f=g∧ ∃i:Nat,s=((p,l,c),(xs.take i).foldl (fun x y=>if y>x then y else x) (xs.getD 0 0),(i:Int),())∧1≤i∧i≤l∧m=l-i) (l-1) ⟨rfl,1,by rw[j];rfl,by omega,by omega,rfl⟩ ?_;rintro m s f ⟨rfl,i,rfl,u,hi,rfl⟩;dsimp only;refine aq (fun w=> ?_) (fun t=> ?_)
 ·refine aC ea (k:=i) rfl (by omega) ?_;simp only[hC,VO];refine ae (e i (by omega)) ?_;rw[al (n:=(i:Int)+1) (by omega)];refine⟨l-(i+1),by omega,by trivial,i+1,?_,by omega,by omega,rfl⟩;have b:i<xs.length:=by omega
  have o:xs.getD i 0=xs[i]:=by rw[VT,bo b];rfl
  rw[gD b,V7,o];rfl
 ·rw[py (by omega)];exact⟨rfl,by trivial⟩
end
end
section
section
variable {h:ah} {gv:Gv} {W R Lo Hi:Int→Int} {pos:Int→Nat} {b1 b3 b5 b10:Nat} {r:Sl}
structure UR (gv:Gv) (W:Int→Int) (k i:Nat) (nv:Nv):Prop where
 ok:nv.ok
 rows:nv.rows∈gv.ns.map Nv.rows
 sz:nv.inn.l<2 ^ 20∧nv.weights.l<2 ^ 40∧nv.bias.l<2 ^ 40
 at_:gv.gr.nodes[i]? =some nv.nd
 lt:i<gv.l
 l12:gv.l≤12
 ilen:nv.inn.xs.length=nv.inn.l
 i1:1≤nv.inn.l
 i4:nv.inn.l≤4
 chk:nv.nd.chk (nv.nd.inn.map W)=0
 bnd: ∀j∈nv.inn.xs,0≤j∧j≤(gv.l:Int)
 pk: ∀V:Int→Int,bQ (vals gv.l V (0::(bK gv.gr.nodes).take k)) nv.inn.xs=nv.inn.xs.map V
 tk:(0::(bK gv.gr.nodes).take (k+1):List Int)=(0::(bK gv.gr.nodes).take k)++[(i:Int)+1]
 fst: ∃x0:Nat,nv.inn.xs[0]? =some (x0:Int)∧x0≤gv.l∧ ∀V:Int→Int,(nv.nd.inn.map V).getD 0 0=V x0
theorem TC(e:gv.ok)(u:gv.sizes)(rt:bW gv.gr W R pos){k i:Nat}{nv:Nv}(y:k<gv.l)(q:(bK gv.gr.nodes)[k]? =some ((i:Int)+1))(g:gv.ns[i]? =some nv):UR gv W k i nv:=by
 have m:=e.1;have n:gv.gr.nodes.length=gv.l:=by rw[←m];simp[Gv.gr]
 have c:=VL g;have o:i<gv.l:=by have:=(R8.1 g).1;omega
 have a:gv.gr.nodes[i]? =some nv.nd:=by show(gv.ns.map Nv.nd)[i]? =_;rw[VP,g];rfl
 obtain⟨t,v,x,w,b⟩:=rt.node a;rw[n]at b;have d:=(R8.1 q).1;have s:=(R8.1 q).2;have f:=e.2.2 nv c;have ilen:nv.inn.xs.length=nv.inn.l:=f.1.1;refine⟨f,V1 c,u.2 nv c,a,o,by have:=(bX rt.first).2.1;omega,ilen,by rw[←ilen];exact t,by rw[←ilen];exact v,rt.chk i _ a,b,fun V=>mB fun j p=>⟨Ac rt.ordered d s a p,b j p⟩,by rw[gD d,s];rfl,?_⟩;have h0:0<nv.inn.xs.length:=t;have p:=b _ (VN h0);refine⟨(nv.inn.xs[0]'h0).toNat,by rw[bo h0];congr 1;omega,by omega,fun V=> ?_⟩;show(nv.inn.xs.map V).getD 0 0=_;rw[VT,VP,bo h0,show(((nv.inn.xs[0]'h0).toNat:Nat):Int)=nv.inn.xs[0]'h0 by omega];rfl
theorem Gg{n:Nd}{ws:List Int}(h:n.chk ws=0):(gc n).1=n.leftN:=by
 have c:=(gZ h).1;unfold gc Nd.leftN;by_cases b:dp n.kind
 ·rw[if_pos b,if_neg (by rcases b with h|h|h|h<;>omega),if_pos b]
 ·rw[if_neg b,if_neg b];by_cases a:n.kind=12
  ·rw[if_pos a,if_pos a];exact al (by omega)
  ·rw[if_neg a,if_neg a]
def VF(gv:Gv)(R Lo Hi:Int→Int):Prop:= ∀x,0≤x→x≤(gv.l:Int)→(-2 ^ 40≤Lo x∧Lo x≤2 ^ 40)∧(-2 ^ 40≤Hi x∧Hi x≤2 ^ 40)∧(0≤R x∧R x≤2 ^ 30)
theorem LG(d:gv.ok)(rt:bW gv.gr W R pos)(rc:Reach gv.gr.nodes R Lo Hi):VF gv R Lo Hi:=by
 have b:=d.1;have c:gv.gr.nodes.length=gv.l:=by rw[←b];simp[Gv.gr]
 have e:gv.gr.nodes.length≤12:=(bX rt.first).2.1;intro x h0 a;rw[←c]at a;have b1:=Ed rt.posG _ x rfl h0 a;have g:=Ju rt.posG rc _ x rfl h0 a;have f:posG gv.gr.nodes x≤12:=by have:=Cc gv.gr.nodes x;omega
 have b3:=yD f;refine⟨by omega,by omega,by omega,by omega⟩
abbrev VR(gv:Gv)(Lo Hi:Int→Int)(b1 b3 b5 b10 bL bH:Nat)(r:Sl)(k:Nat):List bc:=
 [aJ b1 gv.cells,aJ b3 [.slice (some ⟨bL,0,none⟩) (gv.l+1) (gv.l+1)],aJ b5 [.slice (some ⟨bH,0,none⟩) (gv.l+1) (gv.l+1)],own 1 r.p r.l r.c (az r.xs),aJ b10 [r.v],
  aJ bL (az (vals gv.l Lo (0::(bK gv.gr.nodes).take k))),aJ bH (az (vals gv.l Hi (0::(bK gv.gr.nodes).take k)))]
def Qt(gv:Gv)(Lo Hi:Int→Int)(h:ah)(v:Value)(c:ah):Prop:=
 ∃b a,v= .tuple #[.slice (some ⟨b,0,none⟩) (gv.l+1) (gv.l+1),.slice (some ⟨a,0,none⟩) (gv.l+1) (gv.l+1)]∧aG h no c [aJ b (az ((List.range (gv.l+1)).map fun x:Nat=>Lo x)),aJ a (az ((List.range (gv.l+1)).map fun x:Nat=>Hi x))] []
theorem Jw(s:gv.ok)(hs:gv.sizes)(rt:bW gv.gr W R pos)(rc:Reach gv.gr.nodes R Lo Hi)(N:r.ok)(er:r.xs=(List.range (gv.l+1)).map fun x:Nat=>R x){bL bH:Nat}{g:ah}(S:aG h no g (VR gv Lo Hi b1 b3 b5 b10 bL bH r 0) (R3 gv)):
 ul (Qt gv Lo Hi h) ⟨b1,0,none⟩ ⟨b3,0,none⟩ ⟨b5,0,none⟩ ⟨b10,0,none⟩ g:=by
 have ab:=s.1;have M:gv.gr.nodes.length=gv.l:=by rw[←ab];simp[Gv.gr]
 have P:=LG s rt rc;have ag:r.l=gv.l+1:=by rw[←N.1,er];simp
 refine aL S 0 rfl (x:=gv.t) rfl ?_;refine(LF gv).mono ?_;rintro _ g1 ⟨bg,rfl,z⟩;replace S:=S.add z fun _ _ h=>h;refine⟨_,rfl,?_⟩;refine xp (VR gv Lo Hi b1 b3 b5 b10 bL bH r) s hs rt (S.pw [7,0,1,2,3,4,5,6]) (fun k i b D l a2 u o g Rr hk ek en S H=> ?_) (fun D l ao o g S=> ?_)
 ·have A:=TC s hs rt hk ek en;obtain⟨f,Y,ad,K⟩:=A.fst;have d:=gZ A.chk;have B: -2 ^ 20≤b.size∧b.size≤2 ^ 20:=by have O:0≤b.size∧b.size≤8:=d.1;omega
  have L: -2 ^ 20≤b.gap∧b.gap≤2 ^ 20:=by have O:0≤b.gap∧b.gap≤4:=d.2.1;omega
  have ay:=A.lt;have ilen:=A.ilen;have i1:=A.i1;have i4:=A.i4;dsimp only[Yg,Yh]at S H;rw[A.tk]at H;refine aA S fun ai g2 _ S=> ?_;refine bP S 11 rfl rfl (aW rfl) fun g3 _ S=> ?_;refine⟨S.w 9 _ rfl,?_⟩;replace S:=gY S 9 u rfl;generalize Array.setIfInBounds g3 l u=g4 at S;have rrow: ∀{g:ah}{C:List bc},aG h no g C (R3 gv)→C[4]? =some (own 1 r.p r.l r.c (az r.xs))→ ∀x:Nat,x≤gv.l→ ∃a,r.p=some a∧aB g (a.add x)=some (.int .i64 (R x)):=by
   intro g C S e x hx;have ro:=(S.own 4 e).row;obtain⟨a,ea⟩:=ro.some_of (by rw[av,N.1];omega);rw[ea]at ro;exact⟨a,ea,ro.cell (aF (by rw[er,VP,Wa (by omega)];rfl))⟩
  have m: ∀{g:ah}{C:List bc},aG h no g C (R3 gv)→bD g b.inn.p (az b.inn.xs):=fun S=>S.r 2 _ rfl b.rows A.rows b.inn.row (by simp);refine ak (p:=r.p) (l:=r.l) (c:=r.c) (S.c 5) ?_;obtain⟨ra,X,cr⟩:=rrow S rfl (i+1) (by omega);refine aC X (k:=i+1) rfl (by omega) ?_;simp only[show((i:Int)+1).toNat=i+1 by omega,VO];refine ae cr (aH (fun hz=> ?_) (fun hz=> ?_))
  ·have a0:R ((i:Int)+1)=0:=hz;have aa:Lo ((i:Int)+1)=0:=by rw[rc.lo i _ A.at_,if_neg (by omega)]
   have Z:Hi ((i:Int)+1)=0:=by rw[rc.hi i _ A.at_,if_neg (by omega)]
   refine H _ ?_;rw[vu aa,vu Z];exact S.pw [0,1,2,3,4,5,6,7,8,9,10]
  ·have ax:=(P ((i:Int)+1) (by omega) (by omega)).2.2;have y:0<R ((i:Int)+1):=by have:R ((i:Int)+1)≠0:=hz;omega
   have q:=(P (f:Int) (by omega) (by omega)).2.2;have J:Lo ((i:Int)+1)=nC (b.nd.inn.map Lo)-R (f:Int)*b.nd.leftN:=by rw[rc.lo i _ A.at_,if_pos y,K]
   have I:Hi ((i:Int)+1)=iO (b.nd.inn.map Hi)+R (f:Int)*(b.nd.span-1-b.nd.leftN):=by rw[rc.hi i _ A.at_,if_pos y,K]
   have an:=(P ((i:Int)+1) (by omega) (by omega)).1;have aj:=(P ((i:Int)+1) (by omega) (by omega)).2.1;have m1:0≤R (f:Int)*b.nd.leftN∧R (f:Int)*b.nd.leftN≤2 ^ 30*31:=⟨WA q.1 d.2.2.1.1,Wo q.2 d.2.2.1.2 d.2.2.1.1 (by omega)⟩;have m2:0≤R (f:Int)*(b.nd.span-1-b.nd.leftN)∧R (f:Int)*(b.nd.span-1-b.nd.leftN)≤2 ^ 30*31:=⟨WA q.1 d.2.2.2.1.1,Wo q.2 d.2.2.2.1.2 d.2.2.2.1.1 (by omega)⟩;refine ak (p:=r.p) (l:=r.l) (c:=r.c) (S.c 5) (ak (p:=b.inn.p) (l:=b.inn.l) (c:=b.inn.c) (S.c 11) ?_);have ir:=m S;obtain⟨ia,E⟩:=ir.some_of (by rw[av];omega);rw[E]at ir;refine aC E (k:=0) rfl (by omega) (ae (ir.cell (aF Y)) ?_);obtain⟨a1,G,Q⟩:=rrow S rfl f ad;refine aC G (k:=f) rfl (by omega) ?_;refine ae Q (aL S 11 rfl (x:=b.t) rfl ?_);refine(Ml b (S.r 0 _ rfl)).mono ?_;rintro _ g5 ⟨rfl,F⟩;replace S:=S.fra0 F;rw[Gg A.chk];refine⟨_,_,rfl,?_⟩;refine ak (S.c 2) (ak (S.c 2) (ak (p:=b.inn.p) (l:=b.inn.l) (c:=b.inn.c) (S.c 11) ?_));refine(Eg (bD.of_at (S.at 6 rfl)) (cZ _ _ _) (m S) ilen (by omega) (fun j hj=>by have:=A.bnd j hj;omega)).mono ?_;rintro _ g6 ⟨bp,rfl,z⟩;rw[A.pk]at z;replace S:=S.add z fun _ _ h=>h;refine⟨_,_,_,rfl,aX (S.c 2) ?_⟩;refine(TB (bD.of_at (S.at 12 rfl)) (by rw[Ug];exact ilen) i1 (by omega)).mono ?_;rintro _ g7 ⟨rfl,U⟩;subst U;refine⟨_,rfl,aX (S.c 2) (aX (S.c 2) ?_)⟩;refine aC rfl (k:=i+1) rfl (by omega) ?_;simp only[aR,SN,show((i:Int)+1).toNat=i+1 by omega,VO];rw[al (n:=R (f:Int)*b.nd.leftN) (by omega),show nC (b.inn.xs.map Lo)-R (f:Int)*b.nd.leftN=Lo ((i:Int)+1) from J.symm,al (n:=Lo ((i:Int)+1)) (by omega)];refine be S 6 rfl (by rw[av,cZ];omega) fun g8 _ S=> ?_;rw[bB,kZ (V:=Lo) (i:=i) (by omega) rfl]at S;refine ak (S.c 3) (ak (S.c 3) (ak (p:=b.inn.p) (l:=b.inn.l) (c:=b.inn.c) (S.c 11) ?_));refine aL S 11 rfl (x:=b.t) rfl ?_;refine(Eg (bD.of_at (S.at 7 rfl)) (cZ _ _ _) (m S) ilen (by omega) (fun j hj=>by have:=A.bnd j hj;omega)).mono ?_;rintro _ g9 ⟨bq,rfl,z⟩;rw[A.pk]at z;replace S:=S.add z fun _ _ h=>h;refine⟨_,_,_,rfl,da S 11 rfl rfl (aX (S.c 3) ?_)⟩;refine(Qs (bD.of_at (S.at 13 rfl)) (by rw[Ug];exact ilen) i1 (by omega)).mono ?_;rintro _ ap ⟨rfl,U⟩;subst U;refine⟨_,rfl,da S 11 rfl rfl (aX (S.c 11) (aX (S.c 3) (aX (S.c 3) ?_)))⟩;refine(yl b (S.r 0 _ rfl) B L).mono ?_;rintro _ ar ⟨rfl,F⟩;replace S:=S.fra0 F;refine⟨_,rfl,aX (S.c 11) (aX (S.c 3) (aX (S.c 3) ?_))⟩;refine aC rfl (k:=i+1) rfl (by omega) ?_;simp only[aR,SN,show((i:Int)+1).toNat=i+1 by omega,VO];rw[al (n:=b.nd.span-1) (by omega),al (n:=b.nd.span-1-b.nd.leftN) (by omega),al (n:=R (f:Int)*(b.nd.span-1-b.nd.leftN)) (by omega),show iO (b.inn.xs.map Hi)+R (f:Int)*(b.nd.span-1-b.nd.leftN)=Hi ((i:Int)+1) from I.symm,al (n:=Hi ((i:Int)+1)) (by omega)];refine be S 7 rfl (by rw[av,cZ];omega) fun aw _ S=> ?_;rw[bB,kZ (V:=Hi) (i:=i) (by omega) rfl]at S;exact H _ (S.pw [0,1,2,3,4,5,6,7,8,9,10])
 ·dsimp only[Yg,Yh]at S;refine ak (S.c 2) (ak (S.c 3) ?_);refine ck S 2 fun g2 _ S=> ?_;refine aX (S.c 3) ?_;refine ck S 3 fun g3 _ S=> ?_;refine⟨S.w 8 _ rfl,?_⟩;replace S:=gY S 8 (.deferred none) rfl;refine ak (S.c 2) (ak (S.c 3) ?_);have v: ∀V:Int→Int,vals gv.l V (0::(bK gv.gr.nodes).take gv.l)=(List.range (gv.l+1)).map fun x:Nat=>V x:=fun V=>by
   have O:=qb rt.ordered V;rw[M]at O;rw[py (by rw[rt.ordered];omega)];have h2:bM gv.gr.nodes gv.l=0::bK gv.gr.nodes:=by rw[←M];exact dr _ _
   rw[←h2];exact O
  rw[v,v]at S;exact⟨bL,bH,rfl,yy (S.pw [6,7])⟩
theorem Qu(i:gv.ok)(L:bD h gv.p (aD gv.ns))(M:(aM gv.ns).P h)(D:gv.sizes)(K:KT h)(rt:bW gv.gr W R pos)(rc:Reach gv.gr.nodes R Lo Hi):au P oM #[gv.v] h (Qt gv Lo Hi h):=by
 refine zx _ ?_;have u:=i.1;have w:gv.gr.nodes.length=gv.l:=by rw[←u];simp[Gv.gr]
 have C:gv.l≤12:=by have:=(bX rt.first).2.1;omega
 have S:=(((aG.start h no).read (aJ 0 (az bl)) K).read (row gv.p (aD gv.ns)) L).read (aM gv.ns) M;refine aA (cs:=gv.cells) S fun b1 q _ S=> ?_;refine aA S fun b3 q _ S=> ?_;refine aA S fun b5 q _ S=> ?_;refine aL S 0 rfl (x:=gv.t) rfl ?_;refine(IX i (S.ro 1) (S.rd 2) D (S.rd 0)).mono ?_;rintro _ Q ⟨r,rfl,j,n,F⟩;rw[rt.look,w]at n;replace S:=S.add F fun _ _ h=>h;refine⟨_,_,_,rfl,?_⟩;refine aA S fun b10 q _ S=> ?_;refine ck S 4 fun U _ S=> ?_;have k:r.l=gv.l+1:=by rw[←j.1,n];simp
 have a: ∀{g:ah}{y:List bc},aG h no g y (R3 gv)→y[4]? =some (aJ b10 [r.v])→aB g ⟨b10,0,none⟩=some (.slice r.p (gv.l+1) r.c):=fun S e=>by rw[←k];exact S.cell 4 e rfl
 refine ak (a S rfl) ?_;obtain⟨X,o⟩:=(S.ow 3).row.some_of (by rw[av,j.1];omega);refine bG (by rw[o];rfl) ?_;refine⟨fun s g=>s=(⟨b1,0,none⟩,⟨b3,0,none⟩,⟨b5,0,none⟩,⟨b10,0,none⟩,())∧ ∃d b,aG h no g (VR gv Lo Hi b1 b3 b5 b10 d b r 0) (R3 gv),?_,?_⟩
 ·rintro s g ⟨rfl,d,b,S⟩;exact Jw i D rt rc j n S
 ·refine ak (a S rfl) (ak (a S rfl) ?_);have E: ∀V:Int→Int,V 0=0→(List.replicate (gv.l+1) [Value.int .i64 0]).flatten=az (vals gv.l V (0::(bK gv.gr.nodes).take 0)):=fun V h0=>by
   rw[iG,WK,jK,h0,←Wp];simp[az]
  have O:=E Lo rc.l0;have N:=E Hi rc.h0;simp only[hC]
  have f: ∀{g:ah}{d b:Nat},aG h no g [aJ b1 gv.cells,aJ b3 [.slice (some ⟨d,0,none⟩) (gv.l+1) (gv.l+1)],aJ b5 [.slice (some ⟨b,0,none⟩) (gv.l+1) (gv.l+1)],own 1 r.p r.l r.c (az r.xs),aJ b10 [r.v],aJ d (List.replicate (gv.l+1) [Value.int .i64 0]).flatten,aJ b (List.replicate (gv.l+1) [Value.int .i64 0]).flatten] (R3 gv)→
   aG h no g (VR gv Lo Hi b1 b3 b5 b10 d b r 0) (R3 gv):=fun{g d b} S=>by
   unfold VR;rw[←O,←N];exact S
  refine⟨?_,?_⟩
  ·refine dM S (gv.l+1) rfl (zs:=[.int .i64 0]) rfl rfl (by decide) (by omega) (by omega) fun G J _ S=> ?_;refine aX (a S rfl) (aX (a S rfl) ⟨?_,?_⟩)
   ·refine dM S (gv.l+1) rfl (zs:=[.int .i64 0]) rfl rfl (by decide) (by omega) (by omega) fun m z _ S=> ?_;refine aX (a S rfl) (aX (a S rfl) ?_);refine ck S 1 fun A _ S=> ?_;refine aX (a S rfl) ?_;refine ck S 2 fun B _ S=> ?_;exact⟨trivial,_,_,f S⟩
   ·refine ck S 1 fun A _ S=> ?_;refine aX (a S rfl) ?_;refine dM S (gv.l+1) rfl (zs:=[.int .i64 0]) rfl rfl (by decide) (by omega) (by omega) fun m z _ S=> ?_;refine aX (a S rfl) (aX (a S rfl) ?_);refine ck S 2 fun B _ S=> ?_;exact⟨trivial,_,_,f S⟩
  ·refine dM S (gv.l+1) rfl (zs:=[.int .i64 0]) rfl rfl (by decide) (by omega) (by omega) fun H J _ S=> ?_;refine aX (a S rfl) (aX (a S rfl) ?_);refine dM S (gv.l+1) rfl (zs:=[.int .i64 0]) rfl rfl (by decide) (by omega) (by omega) fun I z _ S=> ?_;refine aX (a S rfl) (aX (a S rfl) ?_);refine ck S 1 fun A _ S=> ?_;refine aX (a S rfl) ?_;refine ck S 2 fun B _ S=> ?_;exact⟨trivial,_,_,f (S.pw [0,1,2,3,4,6,5])⟩
end
end
section
def sC(n:Nd)(a b:Int):Int:=if n.kind=7∨n.kind=8 then(if a=0 then 1 else cP (cP (Int.tdiv (cP (cP (b+a)-1)) a)+1)) else n.span
def kc(n:Nd)(a b:Int)(Hi:Int→Int)(o:List Int)(j:Int):List Int:=
 o.set j.toNat (if sC n a (cP (b-Hi j))>o.getD j.toNat 0 then sC n a (cP (b-Hi j)) else o.getD j.toNat 0)
def dU(ns:List Nd)(R Hi:Int→Int)(o:List Int)(x:Int):List Int:=
 match ns[x.toNat-1]? with
 |none=>o
 |some n=>n.inn.foldl (kc n (R x) (iO (n.inn.map Hi)) Hi) o
def gE(ns:List Nd)(R Hi:Int→Int)(k:Nat):List Int:=((bK ns).take k).foldl (dU ns R Hi) (List.replicate (ns.length+1) 1)
def Gr.rooms(g:Gr)(R Hi:Int→Int):List Int:=gE g.nodes R Hi g.nodes.length
theorem kK(n:Nd)(a b:Int)(Hi:Int→Int): ∀(l:List Int)(o:List Int),(l.foldl (kc n a b Hi) o).length=o.length
 |[],o=>rfl
 |j::r,o=>by rw[Wg,kK];unfold kc;rw[VU]
theorem lG(ns:List Nd)(R Hi:Int→Int): ∀(l:List Int)(o:List Int),(l.foldl (dU ns R Hi) o).length=o.length
 |[],o=>rfl
 |x::r,o=>by
  rw[Wg,lG];unfold dU;split
  ·rfl
  ·rw[kK]
theorem pg(ns:List Nd)(R Hi:Int→Int)(k:Nat):(gE ns R Hi k).length=ns.length+1:=by unfold gE;rw[lG,VQ]
def Eh(ns:List Nd)(k:Nat):Int:=((bK ns).take k).foldl (fun s x=>cP (s+(jO ns x:Int))) 0
def Gr.macs(g:Gr):Int:=Eh g.nodes g.nodes.length
section
variable {h:ah} {gv:Gv} {W R Lo Hi:Int→Int} {pos:Int→Nat} {r:Sl}
theorem Se(nv:Nv)(k:KT h)(m: -2 ^ 20≤nv.size∧nv.size≤2 ^ 20)(l: -2 ^ 20≤nv.gap∧nv.gap≤2 ^ 20)(a b:Int):au P qw #[nv.v,.int .i64 a,.int .i64 b] h fun v j=>v= .int .i64 (sC nv.nd a b)∧cd no h j:=by
 refine BX _ _ _ ?_;have S:=(aG.start h no).read (aJ 0 (az bl)) k;refine aA (cs:=nv.cells) S fun b1 o _ S=> ?_;have e:sC nv.nd a b=if nv.kind=7∨nv.kind=8 then(if a=0 then 1 else cP (cP (Int.tdiv (cP (cP (b+a)-1)) a)+1)) else nv.nd.span:=rfl
 rw[e];refine ae (n:=nv.kind) (S.c 0) (aH (fun f=> ?_) (fun f=>aH (fun i=> ?_) (fun i=> ?_)))
 ·rw[if_pos (.inl f)];exact aH (fun d=>by rw[if_pos d];exact⟨rfl,S.fra⟩) (fun d=>⟨d,by rw[if_neg d];exact⟨rfl,S.fra⟩⟩)
 ·rw[if_pos (.inr i)];exact aH (fun d=>by rw[if_pos d];exact⟨rfl,S.fra⟩) (fun d=>⟨d,by rw[if_neg d];exact⟨rfl,S.fra⟩⟩)
 ·rw[if_neg (by rintro(h|h);exact f h;exact i h)];refine aL S 0 rfl (x:=nv.t) rfl ?_;refine(yl nv (S.rd 0) m l).mono ?_;rintro _ g ⟨rfl,F⟩;exact⟨_,rfl,rfl,(S.fra0 F).fra⟩
abbrev VM(gv:Gv)(R Hi:Int→Int)(b1 e b a d bH:Nat)(r:Sl)(k:Nat):List bc:=
 [aJ b1 gv.cells,own 1 r.p r.l r.c (az r.xs),aJ e [r.v],aJ bH (az ((List.range (gv.l+1)).map fun x:Nat=>Hi x)),aJ b [.slice (some ⟨bH,0,none⟩) (gv.l+1) (gv.l+1)],
  aJ a (az (gE gv.gr.nodes R Hi k)),aJ d [.slice (some ⟨a,0,none⟩) (gv.l+1) (gv.l+1)]]
def Qv(gv:Gv)(R Hi:Int→Int)(h:ah)(v:Value)(a:ah):Prop:= ∃b,v= .slice (some ⟨b,0,none⟩) (gv.l+1) (gv.l+1)∧aG h no a [aJ b (az (gv.gr.rooms R Hi))] []
theorem HA(C:gv.ok)(hs:gv.sizes)(rt:bW gv.gr W R pos)(rc:Reach gv.gr.nodes R Lo Hi)(V:r.ok)(er:r.xs=(List.range (gv.l+1)).map fun x:Nat=>R x){b1 J d b f bH:Nat}{K1:(Addr×Addr×Addr×Addr×Int×Int×Unit)→ah→Prop}{g:ah}
 (S:aG h no g (VM gv R Hi b1 J d b f bH r 0) (R3 gv)):mU (Qv gv R Hi h) K1 ⟨b1,0,none⟩ ⟨J,0,none⟩ ⟨d,0,none⟩ ⟨f,0,none⟩ ((gv.l+1:Nat):Int) ((gv.l+1:Nat):Int) g:=by
 have ab:=C.1;have O:gv.gr.nodes.length=gv.l:=by rw[←ab];simp[Gv.gr]
 have ai:r.l=gv.l+1:=by rw[←V.1,er];simp
 refine bG (decide_eq_false (by omega)) ?_;refine aL S 0 rfl (x:=gv.t) rfl ?_;refine(LF gv).mono ?_;rintro _ g1 ⟨bg,rfl,X⟩;replace S:=S.add X fun _ _ h=>h;refine⟨_,rfl,?_⟩;refine xp (VM gv R Hi b1 J d b f bH r) C hs rt (S.pw [7,0,1,2,3,4,5,6]) (fun k i a D l ar q o g Rr hk ek en S H=> ?_) (fun D l aj o g S=> ?_)
 ·have A:=TC C hs rt hk ek en;have U:=gZ A.chk;have E: -2 ^ 20≤a.size∧a.size≤2 ^ 20:=by have h1:0≤a.size∧a.size≤8:=U.1;omega
  have N: -2 ^ 20≤a.gap∧a.gap≤2 ^ 20:=by have h1:0≤a.gap∧a.gap≤4:=U.2.1;omega
  have ao:=A.lt;have ilen:=A.ilen;have i1:=A.i1;have i4:=A.i4;dsimp only[Yg,Yh]at S H;have G:gE gv.gr.nodes R Hi (k+1)=a.inn.xs.foldl (kc a.nd (R ((i:Int)+1)) (iO (a.inn.xs.map Hi)) Hi) (gE gv.gr.nodes R Hi k):=by
   unfold gE;have ag:=(R8.1 ek).1;rw[gD ag,V7,(R8.1 ek).2];show dU _ _ _ _ _=_;unfold dU;rw[show((i:Int)+1).toNat-1=i by omega,A.at_];rfl
  rw[G]at H;have P:=pg gv.gr.nodes R Hi k;rw[O]at P;refine aA S fun I g2 _ S=> ?_;refine bP S 11 rfl rfl (aW rfl) fun g3 _ S=> ?_;refine⟨S.w 9 _ rfl,?_⟩;replace S:=gY S 9 q rfl;generalize Array.setIfInBounds g3 l q=g4 at S;have z: ∀{g:ah}{Y:List bc},aG h no g Y (R3 gv)→bD g a.inn.p (az a.inn.xs):=fun S=>S.r 2 _ rfl a.rows A.rows a.inn.row (by simp);refine ak (S.c 5) (ak (p:=a.inn.p) (l:=a.inn.l) (c:=a.inn.c) (S.c 11) ?_);refine(Eg (bD.of_at (S.at 4 rfl)) (by simp) (z S) ilen (by omega) (fun j Z=>by have:=A.bnd j Z;omega)).mono ?_;rintro _ g6 ⟨bp,rfl,X⟩;have aa:bQ ((List.range (gv.l+1)).map fun x:Nat=>Hi x) a.inn.xs=a.inn.xs.map Hi:=by
   refine Wf fun j Z=> ?_;have:=A.bnd j Z;rw[VT,VP,Wa (by omega)];show Hi ((j.toNat:Nat):Int)=_;rw[show((j.toNat:Nat):Int)=j by omega]
  rw[aa]at X;replace S:=S.add X fun _ _ h=>h;refine⟨_,_,_,rfl,?_⟩;refine(Qs (bD.of_at (S.at 12 rfl)) (by rw[Ug];exact ilen) i1 (by omega)).mono ?_;rintro _ g7 ⟨rfl,eg⟩;subst eg;refine⟨_,rfl,ak (p:=a.inn.p) (l:=a.inn.l) (c:=a.inn.c) (S.c 11) ?_⟩;obtain⟨y,M⟩: ∃y,iO (a.inn.xs.map Hi)=y:=⟨_,rfl⟩;rw[M]at H ⊢
  refine aO (fun m s g=> ∃j:Nat,s=(⟨J,0,none⟩,⟨d,0,none⟩,⟨f,0,none⟩,(i:Int)+1,⟨I,0,none⟩,y,(a.inn.p,a.inn.l,a.inn.c),(a.inn.l:Int),(j:Int),())∧j≤a.inn.l∧m=a.inn.l-j∧
   aG h no g [aJ bg gv.cells,aJ b1 gv.cells,own 1 r.p r.l r.c (az r.xs),aJ J [r.v],aJ bH (az ((List.range (gv.l+1)).map fun x:Nat=>Hi x)),aJ d [.slice (some ⟨bH,0,none⟩) (gv.l+1) (gv.l+1)],
    aJ b (az ((a.inn.xs.take j).foldl (kc a.nd (R ((i:Int)+1)) y Hi) (gE gv.gr.nodes R Hi k))),aJ f [.slice (some ⟨b,0,none⟩) (gv.l+1) (gv.l+1)],HS D (.deferred (some [])),HS l q,own 1 o.p o.l o.c (az o.xs),aJ I a.cells] (R3 gv)) a.inn.l ⟨0,rfl,by omega,rfl,S.pw [0,1,2,3,4,5,6,7,8,9,10,11]⟩ ?_
  rintro m s g ⟨j,rfl,Z,rfl,S⟩;dsimp only;refine aq (fun Q=> ?_) (fun an=> ?_)
  ·have Q:j<a.inn.l:=by omega
   have u:j<a.inn.xs.length:=by omega
   have ad:=A.bnd a.inn.xs[j] (VN u);obtain⟨x,ex⟩: ∃x:Nat,a.inn.xs[j]=x:=⟨a.inn.xs[j].toNat,by omega⟩;rw[ex]at ad;have ir:=z S;obtain⟨ia,K⟩:=ir.some_of (by rw[av];omega);rw[K]at ir;refine aC K (k:=j) rfl Q ?_;simp only[hC,VO];refine ae (n:=(x:Int)) (ir.cell (aF (by rw[bo u,ex]))) ?_;refine aL S 11 rfl (x:=a.t) rfl ?_;obtain⟨os,B⟩: ∃os,(a.inn.xs.take j).foldl (kc a.nd (R ((i:Int)+1)) y Hi) (gE gv.gr.nodes R Hi k)=os:=⟨_,rfl⟩;have ap:os.length=gv.l+1:=by rw[←B,kK,P]
   rw[B]at S;refine ak (S.c 7) (ak (S.c 7) (aC rfl (k:=x) rfl (by omega) ?_));simp only[aR,SN,hC];have cx: ∀{g:ah}{Y:List bc},aG h no g Y (R3 gv)→Y[6]? =some (aJ b (az os))→aB g ⟨b,x,none⟩=some (.int .i64 (os.getD x 0)):=fun S e=>S.cell 6 e (aF (by rw[VT,bo (by omega)];rfl));refine ae (cx S rfl) ?_;refine ak (p:=r.p) (l:=r.l) (c:=r.c) (S.c 3) ?_;have ro:=(S.own 2 rfl).row;obtain⟨ra,L⟩:=ro.some_of (by rw[av,V.1];omega);rw[L]at ro;refine aC L (k:=i+1) rfl (by omega) ?_;rw[show((i:Int)+1).toNat=i+1 by omega];refine ae (n:=R ((i:Int)+1)) (ro.cell (aF (by rw[er,VP,Wa (by omega)];rfl))) ?_;refine ak (S.c 5) (aC rfl (k:=x) rfl (by omega) ?_);simp only[aR,SN,hC];refine ae (n:=Hi (x:Int)) (S.cell 4 rfl (aF (by rw[VP,Wa (by omega)];rfl))) ?_;refine(Se a (S.r 0 _ rfl) E N _ _).mono ?_;rintro _ g2 ⟨rfl,F⟩;replace S:=S.fra0 F;refine⟨_,rfl,aX (S.c 3) (aX (cx S rfl) (aX (S.c 7) (aX (S.c 7) ?_)))⟩;refine aC rfl (k:=x) rfl (by omega) ?_;simp only[aR,SN,hC];refine be S 6 rfl (by rw[av];omega) fun g3 _ S=> ?_;rw[bB]at S;rw[al (n:=(j:Int)+1) (by omega)];refine⟨a.inn.l-(j+1),by omega,j+1,rfl,by omega,rfl,?_⟩;rw[gD u,V7,B,ex];exact S
  ·have:j=a.inn.l:=by omega
   subst this;rw[py (by omega)]at S;exact H _ (S.pw [0,1,2,3,4,5,6,7,8,9,10])
 ·dsimp only[Yg,Yh]at S;refine ak (S.c 7) ⟨S.w 8 _ rfl,?_⟩;replace S:=gY S 8 (.deferred none) rfl;refine⟨b,rfl,?_⟩;have e:gv.gr.rooms R Hi=gE gv.gr.nodes R Hi gv.l:=by unfold Gr.rooms;rw[O]
  rw[e];exact yy (S.pw [6])
theorem Qw(a:gv.ok)(J:bD h gv.p (aD gv.ns))(K:(aM gv.ns).P h)(B:gv.sizes)(I:KT h)(rt:bW gv.gr W R pos)(rc:Reach gv.gr.nodes R Lo Hi):au P kC #[gv.v] h (Qv gv R Hi h):=by
 refine zy _ ?_;have A:=a.1;have j:gv.gr.nodes.length=gv.l:=by rw[←A];simp[Gv.gr]
 have E:gv.l≤12:=by have:=(bX rt.first).2.1;omega
 have S:=(((aG.start h no).read (aJ 0 (az bl)) I).read (row gv.p (aD gv.ns)) J).read (aM gv.ns) K;refine aA (cs:=gv.cells) S fun b1 z _ S=> ?_;refine aL S 0 rfl (x:=gv.t) rfl ?_;refine(IX a (S.ro 1) (S.rd 2) B (S.rd 0)).mono ?_;rintro _ L ⟨r,rfl,u,y,w⟩;rw[rt.look,j]at y;replace S:=S.add w fun _ _ h=>h;have q:r.l=gv.l+1:=by rw[←u.1,y];simp
 refine⟨_,_,_,rfl,?_⟩;refine aA S fun C z _ S=> ?_;dsimp only[Yh,Yg]at S;refine ck S 2 fun H _ S=> ?_;dsimp only[List.set]at S;refine aL S 0 rfl (x:=gv.t) rfl ?_;refine(Qu a (S.ro 1) (S.rd 2) B (S.rd 0) rt rc).mono ?_;rintro _ M ⟨F,D,rfl,w⟩;replace S:=S.add w fun _ _ h=>h;refine⟨_,_,_,_,_,_,rfl,?_⟩;refine aA S fun b z _ S=> ?_;dsimp only[Yh,Yg]at S;refine ck S 5 fun N _ S=> ?_;dsimp only[List.set]at S;refine ak (p:=r.p) (l:=gv.l+1) (c:=r.c) (by rw[←q];exact S.c 2) ?_;refine dM S (gv.l+1) rfl (zs:=[.int .i64 0]) rfl rfl (by decide) (by omega) (by omega) fun d O _ S=> ?_;rw[iG,show List.replicate (gv.l+1) (Value.int .i64 0)=az (List.replicate (gv.l+1) 0) by simp[az]]at S;refine aA S fun f z _ S=> ?_;dsimp only[Yh,Yg]at S;refine ck S 7 fun Q _ S=> ?_;dsimp only[List.set]at S;refine ak (S.c 7) ?_
 refine aO (fun m s g=> ∃i:Nat,s=(⟨b1,0,none⟩,⟨C,0,none⟩,⟨b,0,none⟩,⟨f,0,none⟩,((gv.l+1:Nat):Int),(i:Int),())∧i≤gv.l+1∧m=gv.l+1-i∧
  aG h no g [aJ b1 gv.cells,own 1 r.p r.l r.c (az r.xs),aJ C [r.v],aJ F (az ((List.range (gv.l+1)).map fun x:Nat=>Lo x)),aJ D (az ((List.range (gv.l+1)).map fun x:Nat=>Hi x)),aJ b [.slice (some ⟨D,0,none⟩) (gv.l+1) (gv.l+1)],
   aJ d (az (List.replicate i 1++List.replicate (gv.l+1-i) 0)),aJ f [.slice (some ⟨d,0,none⟩) (gv.l+1) (gv.l+1)]] (R3 gv)) (gv.l+1) ⟨0,rfl,by omega,rfl,S⟩ ?_
 rintro m s g ⟨i,rfl,hi,rfl,S⟩;dsimp only;by_cases o:i<gv.l+1
 ·unfold mU;refine cC (decide_eq_true (by omega)) ?_;refine ak (S.c 7) (aC rfl (k:=i) rfl o ?_);simp only[aR,SN,hC,VO];refine be S 6 rfl (by rw[av,Tz,VQ,VQ];omega) fun H _ S=> ?_;rw[bB,uC (VQ ..) o]at S;rw[al (n:=(i:Int)+1) (by omega)];have e:(List.replicate i (1:Int))++[1]=List.replicate (i+1) 1:=by rw[List.replicate_succ']
  rw[e]at S;exact⟨gv.l+1-(i+1),by omega,i+1,rfl,by omega,rfl,S⟩
 ·have:i=gv.l+1:=by omega
  subst this;rw[WD,Xp,Wd]at S;have G:List.replicate (gv.l+1) (1:Int)=gE gv.gr.nodes R Hi 0:=by unfold gE;rw[j];rfl
  rw[G]at S;exact HA a B rt rc u y (S.pw [0,1,2,4,5,6,7])
theorem Sf{nv:Nv}(b:nv.ok)(y:nv.rows.P h)(q:KT h)(hi:nv.inn.l<2 ^ 20)(H:nv.weights.l<2 ^ 40)(G:nv.bias.l<2 ^ 40){w:Int}(s:gq nv.kind→nv.nd.chk [w]=0):au P oN #[nv.v,.int .i64 w] h fun v m=>v= .int .i64 (nv.nd.cost:Int)∧cd no h m:=by
 refine zz _ _ ?_;have S:=((aG.start h no).read (aJ 0 (az bl)) q).read nv.rows y;refine aA (cs:=nv.cells) S fun b1 i _ S=> ?_;have k:(nv.nd.cost:Int)=if gq nv.kind then(nv.weights.l:Int) else 0:=by
  show((if gq nv.kind then nv.weights.xs.length else 0:Nat):Int)=_;rw[b.2.1.1];split<;>rfl
 rw[k];have a:gq nv.kind→aT A1 i ⟨b1,0,none⟩ fun B=>aP i (.cells #[(.int .i64 w)] 3 (0,0)) fun b5 o=>aE P .i64 fP #[(bA A1 B),(.slice (some ⟨b5,0,none⟩) 1 1)] o fun A d=>
  aI (A==(0:Int)) (am d ⟨b1,8,none⟩ fun I z C=>Value.int .i64 ((z:Nat):Int)= .int .i64 (if gq nv.kind then(nv.weights.l:Int) else 0)∧cd no h d) (Value.int .i64 0= .int .i64 (if gq nv.kind then(nv.weights.l:Int) else 0)∧cd no h d):=by
  intro j;refine aL S 0 rfl (x:=nv.t) rfl ?_;refine aA (cs:=az [w]) S fun b5 D _ S=> ?_;refine(DL b (S.rd 1) (by omega) (by omega) (by omega) (S.rd 0) (bD.of_at (S.ap 1)) (l:=1) rfl (by decide)).mono ?_;rintro _ E ⟨rfl,F⟩;replace S:=S.fra0 F;refine⟨_,rfl,aH (fun _=> ?_) (fun u=>absurd (s j) u)⟩;refine ak (p:=nv.weights.p) (l:=nv.weights.l) (c:=nv.weights.c) (S.c 0) ⟨by rw[if_pos j],S.fra⟩
 refine ae (n:=nv.kind) (S.c 0) (aH (fun e=>a (.inl e)) (fun e=>aH (fun f=>a (.inr (.inl f))) (fun f=>aH (fun g=>a (.inr (.inr g))) (fun g=> ?_))));exact⟨by rw[if_neg (by rintro(h|h|h);exact e h;exact f h;exact g h)],S.fra⟩
theorem Sg(b:gv.ok)(hn:bD h gv.p (aD gv.ns))(hr:(aM gv.ns).P h)(O:gv.sizes)(hT:KT h)(rt:bW gv.gr W R pos):au P qx #[gv.v] h fun v h'=>v= .int .i64 gv.gr.macs∧cd no h h':=by
 refine B0 _ ?_;have L:=b.1;have s:gv.gr.nodes.length=gv.l:=by rw[←L];simp[Gv.gr]
 have S:=(((aG.start h no).read (aJ 0 (az bl)) hT).read (row gv.p (aD gv.ns)) hn).read (aM gv.ns) hr;refine aA (cs:=gv.cells) S fun b1 Y _ S=> ?_;refine aL S 0 rfl (x:=gv.t) rfl ?_;refine(zS b (S.row 1 rfl) (S.r 2 _ rfl) O (S.r 0 _ rfl)).mono ?_;rintro _ g2 ⟨w,rfl,u,E,B⟩;rw[rt.look,s]at E;replace S:=S.add B fun _ _ h=>h;have aa:w.l=gv.l+1:=by rw[←u.1,E];simp
 refine⟨_,_,_,rfl,?_⟩;refine aA S fun b6 Y _ S=> ?_;refine ck S 2 fun X _ S=> ?_;refine aA S fun b9 Y _ S=> ?_;refine ck S 3 fun I _ S=> ?_;refine aL S 0 rfl (x:=gv.t) rfl ?_;refine(LF gv).mono ?_;rintro _ g5 ⟨bg,rfl,B⟩;replace S:=S.add B fun _ _ h=>h;refine⟨_,rfl,?_⟩;refine xp (fun k=>[aJ b1 gv.cells,own 1 w.p w.l w.c (az w.xs),aJ b6 [w.v],aJ b9 [.int .i64 (Eh gv.gr.nodes k)]]) b O rt (S.pw [4,0,1,2,3]) (fun k i a D l ai d o g Rr M C en S H=> ?_) (fun D l ad o g S=> ?_)
 ·have A:=TC b O rt M C en;obtain⟨z,G,ag,J⟩:=A.fst;have ilen:=A.ilen;have i1:=A.i1;have j:Eh gv.gr.nodes (k+1)=IntKind.wrap .i64 (Eh gv.gr.nodes k+(a.nd.cost:Int)):=by
   unfold Eh;have N:=(R8.1 C).1;rw[gD N,V7,(R8.1 C).2,←Ee A.at_];rfl
  rw[j]at H;refine aA S fun ab g2 _ S=> ?_;refine bP S 8 rfl rfl (aW rfl) fun X _ S=> ?_;refine⟨S.w 6 _ rfl,?_⟩;replace S:=gY S 6 d rfl;generalize Array.setIfInBounds X l d=I at S;refine aL S 8 rfl (x:=a.t) rfl (ae (S.c 4) ?_);refine ak (p:=w.p) (l:=w.l) (c:=w.c) (S.c 3) (ak (p:=a.inn.p) (l:=a.inn.l) (c:=a.inn.c) (S.c 8) ?_);have nr:a.rows.P I:=S.r 2 _ rfl a.rows A.rows;have U:bD I a.inn.p (az a.inn.xs):=nr a.inn.row (by simp);obtain⟨ia,m⟩:=U.some_of (by rw[av];omega);rw[m]at U;refine aC m (k:=0) rfl (by omega) (ae (U.cell (aF G)) ?_);have wr:=(S.own 2 rfl).row;obtain⟨wa,q⟩:=wr.some_of (by rw[av,u.1];omega);rw[q]at wr;refine aC q (k:=z) rfl (by omega) ?_;simp only[hC,VO];refine ae (n:=W (z:Int)) (wr.cell (aF (by rw[E,VP,Wa (by omega)];rfl))) ?_;have K:gq a.kind→a.nd.chk [W (z:Int)]=0:=fun Q=>by
   have f:a.nd.inn.length=1:=by
    have:=(fD A.chk).2.2.2.2.2.2.1 (by
     have M:a.nd.kind=a.kind:=rfl;rw[M];rintro(h|h)<;>rcases Q with Z|Z|Z<;>omega)
    rw[Ug]at this;exact this
   obtain⟨y,hy⟩:=Xu.1 f;have V:=J W;have hc:=A.chk;rw[hy]at V hc;have e3:W y=W (z:Int):=V;rw[←e3];exact hc
  refine(Sf A.ok nr (S.r 0 _ rfl) A.sz.1 A.sz.2.1 A.sz.2.2 K).mono ?_;rintro _ g5 ⟨rfl,F⟩;replace S:=S.fra0 F;refine⟨_,rfl,aX (S.c 3) (aX (S.c 4) ?_)⟩;refine ck S 4 fun g6 _ S=> ?_;exact H _ (S.pw [0,1,2,3,4,5,6,7])
 ·dsimp only[Yg,Yh]at S;refine ae (S.c 4) ⟨S.w 5 _ rfl,?_⟩;replace S:=gY S 5 (.deferred none) rfl;have e:gv.gr.macs=Eh gv.gr.nodes gv.l:=by unfold Gr.macs;rw[s]
  rw[e];exact⟨rfl,S.fra⟩
