/- CAll CFld CFld2, in one text. -/
import Derived.Test.YtdhpmegbmjoekaaGreatDoorCRng2
import Derived.Test.YtdhpmegbmjoekaaGreatDoorCReachV
import Derived.Test.YtdhpmegbmjoekaaGreatDoorShRg
set_option linter.unusedVariables false
set_option linter.unusedSimpArgs false
namespace Go.Proofs.YtdhpmegbmjoekaaGreatDoor.G
open Go Go.Sh
section
theorem bM.posG {g:Gr} {W R:Int→Int} {pos:Int→Nat} (r:bM g W R pos):bM g W R (Go.Proofs.YtdhpmegbmjoekaaGreatDoor.G.posG g.nodes):=
 {r with rank:=fun i n en j a _=>kN r.ordered en a}
section
variable {h0 h:af} {T:Nat→Prop} {gv:Gv} {W R:Int→Int} {pos:Int→Nat} {bg:Nat}
theorem Km {y:Value} (J:Sl→Nat→af→Prop) (w:gv.ok) (Z:gv.sizes) (rt:bM gv.gr W R pos) (V:bI h gv.p (aF gv.ns)) (Y:(aU gv.ns).P h) (O:KT h) (C: ∀j v,gv.cells[j]? =some v→aD h ⟨bg,j,none⟩=some v)
 (N: ∀o k g,J o k g→bI g o.p (az o.xs)∧bI g gv.p (aF gv.ns)∧aD g ⟨bg,3,none⟩=some (.slice gv.p gv.l gv.c))
 (h0: ∀(o:Sl) A,o.ok→o.xs=cC gv.gr.nodes→aJ h no A [own 1 o.p o.l o.c (az o.xs)] []→J o 0 A)
 (hy: ∀(o:Sl) (k i:Nat) (B:Nv) g,k<gv.l→(cC gv.gr.nodes)[k]? =some ((i:Int)+1)→gv.ns[i]? =some B→J o k g→gV P y [.int .i64 ((i:Int)+1),B.v] g fun v g'=>v= .bool true∧J o (k+1) g'):
 au P jq #[y,.pointer (some ⟨bg,0,none⟩)] h fun v A=> ∃o,J o gv.l A:=by
 have D:=w.1;have u:gv.gr.nodes.length=gv.l:=by rw[←D];simp[Gv.gr]
 have L:gv.l≤12:=by have:=(bR rt.first).2.1;omega
 refine AP _ _ ?_;unfold BQ;refine H2 (x:=gv.t) (fun j v hv=>by rw[aQ,SI];exact C j v hv) ?_;refine(Dg w V Y Z O).mono ?_;rintro _ g1 ⟨o,rfl,d,a,M⟩;have a:o.xs=cC gv.gr.nodes:=by rw[a,rt.look]
 refine⟨_,_,_,rfl,?_⟩;have X:o.l=gv.l:=by rw[←d.1,a,rt.ordered,u]
 refine aP (fun m s g=> ∃k:Nat,s=(y,⟨bg,0,none⟩,(o.p,o.l,o.c),(o.l:Int),(k:Int),())∧k≤gv.l∧m=gv.l-k∧J o k g) gv.l ⟨0,rfl,by omega,rfl,h0 o _ d a M⟩ ?_;rintro m s g ⟨k,rfl,hk,rfl,F⟩;unfold u6;dsimp only;simp only[aQ,SI,oe,US];obtain⟨I,H,Q⟩:=N o k g F;refine am (fun U=> ?_) (fun S=> ?_)
 ·have b:k<o.xs.length:=by rw[d.1];omega
  have z:=fJ gv.gr.nodes gv.gr.nodes.length o.xs[k] (by rw[a] at b;simp only[a];exact UU b);obtain⟨i,K⟩: ∃i:Nat,o.xs[k]=(i:Int)+1:=⟨(o.xs[k]-1).toNat,by have:=z.1;omega⟩;rw[K,u] at z;have E:i<gv.l:=by omega
  obtain⟨B,en⟩: ∃n,gv.ns[i]? =some n:=⟨_,aO (by omega)⟩;obtain⟨ao,f⟩:=I.some_of (by rw[av];omega);rw[f] at I;obtain⟨an,e⟩:=H.some_of (by rw[bW];omega);rw[e] at H;have q:o.xs[k]? =some ((i:Int)+1):=by rw[aO b,K]
  refine aB f (k:=k) rfl (by omega) (ae (I.cell (aI q)) ?_);refine ak Q ?_;rw[al (n:=(i:Int)+1-1) (by omega),show(i:Int)+1-1=(i:Int) by omega];refine aB e (k:=i) rfl E ?_;simp only[oe];refine jd H en ?_;refine z4 (hy o k i B g (by omega) (by rw[←a];exact q) en F) ?_;rintro _ g2 ⟨rfl,G⟩;refine⟨_,rfl,bQ rfl ?_⟩;rw[al (n:=(k:Int)+1) (by omega)];exact⟨gv.l-(k+1),by omega,k+1,rfl,by omega,rfl,G⟩
 ·have:k=gv.l:=by omega
  subst this;exact⟨o,F⟩
theorem LL {α:Type} (f a b d c:α) (l:List α):(f::(l++[a,b,c])).set (l.length+2) d=f::(l++[a,d,c]):=by
 rw[show l.length+2=(l.length+1)+1 from rfl,List.set_cons_succ,List.set_append,if_neg (by omega),WT];rfl
theorem Db {α:Type} (f a b c:α) (l:List α):(f::(l++[a,b,c]))[l.length+2]? =some b:=by
 rw[show l.length+2=(l.length+1)+1 from rfl,List.getElem?_cons_succ,Vp (by omega),WT];rfl
theorem RN {α:Type} (f a b c:α) (l:List α):(f::(l++[a,b,c]))[l.length+3]? =some c:=by
 rw[show l.length+3=(l.length+2)+1 from rfl,List.getElem?_cons_succ,Vp (by omega),WT];rfl
abbrev R3 (gv:Gv):List aY:=[blk 0 (az bo),row gv.p (aF gv.ns),aU gv.ns]
theorem xD {round:Obj→Obj→Nat→Qd [.sc (.int .i64),.ag cS]→(af→Prop)→af→Prop} {K:Nat→af→Prop} (V:Nat→List aY) (n:gv.ok) (C:gv.sizes) (rt:bM gv.gr W R pos) (S:aJ h0 T h (blk bg gv.cells::V 0) (R3 gv))
 (F: ∀(k i:Nat) (f:Nv) (D l:Nat) (b a:Obj) (o:Sl) (g:af) (Rr:af→Prop),k<gv.l→(cC gv.gr.nodes)[k]? =some ((i:Int)+1)→gv.ns[i]? =some f→
  aJ h0 T g (blk bg gv.cells::(V k++[IB D (.deferred (some [])),IB l b,own 1 o.p o.l o.c (az o.xs)])) (R3 gv)→
  (∀m,aJ h0 T m (blk bg gv.cells::(V (k+1)++[IB D (.deferred (some [])),IB l a,own 1 o.p o.l o.c (az o.xs)])) (R3 gv)→Rr m)→round b a l (((i:Int)+1:Int),f.t,()) Rr g)
 (A: ∀(D l:Nat) (d:Obj) (o:Sl) (g:af),aJ h0 T g (blk bg gv.cells::(V gv.l++[IB D (.deferred (some [])),IB l d,own 1 o.p o.l o.c (az o.xs)])) (R3 gv)→K D g):
 yd P (.func (.func jq) #[] #[.pointer (some ⟨bg,0,none⟩)]) [.sc (.int .i64),.ag cS] round h K:=by
 refine JK S fun D lp b a d z S q=> ?_;have I:=Km (y:= .func (.yield lp) #[] #[]) (bg:=bg) (h:=z) (fun o k g=>aJ h0 T g (blk bg gv.cells::(V k++[IB D (.deferred (some [])),IB lp b,own 1 o.p o.l o.c (az o.xs)])) (R3 gv)) n C rt (S.row 1 rfl) (S.r 2 _ rfl) (S.r 0 _ rfl)
  (fun j v E=>S.cell 0 rfl E) (fun o k g S=>⟨(S.own ((V k).length+3) (RN _ _ _ _ _)).row,S.row 1 rfl,S.cell 0 rfl rfl⟩)
  (fun o G _ _ u=> ?_) (fun o k i f g B x en S=> ?_)
 ·refine au.mono I ?_;rintro _ g ⟨o,S⟩;refine⟨S.w _ _ (Db _ _ _ _ _),?_⟩;have e:=ij S _ d (Db _ _ _ _ _);rw[LL] at e;exact A D lp d o _ e
 ·have e:=S.add u fun _ _ h=>h;simp only[Xi,U6,Xj,Vh] at e;exact e
 ·refine q (((i:Int)+1:Int),f.t,()) g _ (S.w _ _ (Db _ _ _ _ _)) ?_;refine F k i f D lp b a o g _ B x en S fun m S3=> ?_;refine⟨S3.w _ _ (Db _ _ _ _ _),rfl,?_⟩;have s:=ij S3 _ b (Db _ _ _ _ _);rw[LL] at s;exact s
theorem Kn (gv:Gv):au P lu #[gv.v] h fun v a=> ∃bg,v= .func (.func jq) #[] #[.pointer (some ⟨bg,0,none⟩)]∧aJ h no a [blk bg gv.cells] []:=by
 refine Ev _ ?_;unfold GO;exact aA (cs:=gv.cells) (aJ.start h no) fun b1 b _ S=>⟨b1,rfl,S⟩
theorem Dc {p q:Option Addr} {l c m d:Nat} {xs js:List Int} (J:bI h p (az xs)) (N:xs.length=l) (I:bI h q (az js)) (M:js.length=m) (L:m<2 ^ 40) (H: ∀j∈js,0≤j∧j<(l:Int)):
 au P kc #[.slice p l c,.slice q m d] h fun v F=> ∃b,v= .slice (some ⟨b,0,none⟩) m m∧aJ h no F [blk b (az (bZ xs js))] []:=by
 refine CO _ _ _ _ _ _ ?_;unfold Ew;have S:=((aJ.start h no).read (row p (az xs)) J).read (row q (az js)) I;refine dQ S m rfl (zs:=[.int .i64 0]) rfl rfl (by decide) (by omega) (by omega) fun b1 K _ S=> ?_;dsimp only[Xj,Xi] at S;simp only[oe];rw[ib,show List.replicate m (Value.int .i64 0)=az (List.replicate m 0) by simp[az]] at S;refine aP (fun z s g=> ∃i:Nat,s=((p,l,c),(some ⟨b1,0,none⟩,m,m),(q,m,d),(m:Int),(i:Int),())∧i≤m∧z=m-i∧aJ h no g [blk b1 (az (bZ xs (js.take i)++List.replicate (m-i) 0))] [row p (az xs),row q (az js)]) m ⟨0,rfl,by omega,rfl,S⟩ ?_;clear S;rintro z s g ⟨i,rfl,hi,rfl,S⟩;unfold xx;dsimp only;refine am (fun e=> ?_) (fun G=> ?_)
 ·have e:i<m:=by omega
  have a:i<js.length:=by omega
  obtain⟨A,o⟩:=(S.row 1 rfl).some_of (by rw[av];omega);have w:=H js[i] (UU a);obtain⟨x,u⟩: ∃x:Nat,js[i]=x:=⟨js[i].toNat,by omega⟩;rw[u] at w;obtain⟨B,t⟩:=(S.row 0 rfl).some_of (by rw[av];omega);have C:aD g (A.add i)=some (.int .i64 (x:Int)):=by
   have:=S.row 1 rfl;rw[o] at this;exact this.cell (aI (by rw[aO a,u]))
  have D:aD g (B.add x)=some (.int .i64 (xs.getD x 0)):=by
   have:=S.row 0 rfl;rw[t] at this;exact this.cell (aI (by rw[UV,aO (by omega)];rfl))
  refine aB o (k:=i) rfl e ?_;simp only[oe,US];refine ae C (aB t (k:=x) rfl (by omega) ?_);simp only[oe];refine ae D (aB rfl (k:=i) rfl e ?_);simp only[aQ,SI];have f:(bZ xs (js.take i)).length=i:=by unfold bZ;rw[UT,U0];omega
  refine aE S 0 rfl (by rw[av,Rb,f,UZ];omega) fun _ _ S=> ?_;dsimp only[List.set] at S;rw[bA,tL f e] at S;have y:=wB (fun j:Int=>xs.getD j.toNat 0) a;rw[u,oe] at y;have E:bZ xs (js.take (i+1))=bZ xs (js.take i)++[xs.getD x 0]:=y;rw[←E] at S;rw[al (n:=(i:Int)+1) (by omega)];exact⟨m-(i+1),by omega,i+1,rfl,by omega,rfl,S⟩
 ·have:i=m:=by omega
  subst this;rw[N6 (by omega),VJ,Wt,Vh] at S;exact⟨b1,rfl,yu S⟩
theorem RO {p:Option Addr} {l c:Nat} {xs:List Int} (d:bI h p (az xs)) (B:xs.length=l) (z:1≤l) (A:l<2 ^ 40):au P iO #[.slice p l c] h fun v q=>v= .int .i64 (cL xs)∧q=h:=by
 refine qk _ _ _ ?_;unfold nC;refine⟨fun s g=>s=((p,l,c),())∧g=h,?_,bQ (decide_eq_false (by show ¬((l:Nat):Int)<1;omega)) ⟨rfl,rfl⟩⟩;rintro s g ⟨rfl,rfl⟩;unfold kB;dsimp only;obtain⟨a,ea⟩:=d.some_of (by rw[av];omega);rw[ea] at d;have e: ∀i,i<l→aD g (a.add i)=some (.int .i64 (xs.getD i 0)):=fun i hi=>d.cell (aI (by rw[UV,aO (by omega)];rfl));refine aB ea (k:=0) rfl (by omega) (ae (e 0 (by omega)) ?_);have j:(xs.take 1).foldl (fun x y=>if y<x then y else x) (xs.getD 0 0)=xs.getD 0 0:=by
  cases xs with
  |nil=>rfl
  |cons x r=>show(if x<x then x else x)=x;rw[if_neg (by omega)]
 refine aP (fun m s f=>f=g∧ ∃i:Nat,s=((p,l,c),(xs.take i).foldl (fun x y=>if y<x then y else x) (xs.getD 0 0),(i:Int),())∧1≤i∧i≤l∧m=l-i) (l-1) ⟨rfl,1,by rw[j];rfl,by omega,by omega,rfl⟩ ?_;rintro m s f ⟨rfl,i,rfl,u,hi,rfl⟩;unfold kA;dsimp only;refine am (fun w=> ?_) (fun t=> ?_)
 ·refine aB ea (k:=i) rfl (by omega) ?_;simp only[oe,US];refine ae (e i (by omega)) ?_;rw[al (n:=(i:Int)+1) (by omega)];refine⟨l-(i+1),by omega,by trivial,i+1,?_,by omega,by omega,rfl⟩;have b:i<xs.length:=by omega
  have o:xs.getD i 0=xs[i]:=by rw[UV,aO b];rfl
  rw[py b,Vk,o];rfl
 ·rw[N6 (by omega)];exact⟨rfl,by trivial⟩
theorem Od {p:Option Addr} {l c:Nat} {xs:List Int} (d:bI h p (az xs)) (B:xs.length=l) (z:1≤l) (A:l<2 ^ 40):au P gd #[.slice p l c] h fun v q=>v= .int .i64 (qI xs)∧q=h:=by
 refine ql _ _ _ ?_;unfold nD;refine⟨fun s g=>s=((p,l,c),())∧g=h,?_,bQ (decide_eq_false (by show ¬((l:Nat):Int)<1;omega)) ⟨rfl,rfl⟩⟩;rintro s g ⟨rfl,rfl⟩;unfold kD;dsimp only;obtain⟨a,ea⟩:=d.some_of (by rw[av];omega);rw[ea] at d;have e: ∀i,i<l→aD g (a.add i)=some (.int .i64 (xs.getD i 0)):=fun i hi=>d.cell (aI (by rw[UV,aO (by omega)];rfl));refine aB ea (k:=0) rfl (by omega) (ae (e 0 (by omega)) ?_);have j:(xs.take 1).foldl (fun x y=>if y>x then y else x) (xs.getD 0 0)=xs.getD 0 0:=by
  cases xs with
  |nil=>rfl
  |cons x r=>show(if x>x then x else x)=x;rw[if_neg (by omega)]
 refine aP (fun m s f=>f=g∧ ∃i:Nat,s=((p,l,c),(xs.take i).foldl (fun x y=>if y>x then y else x) (xs.getD 0 0),(i:Int),())∧1≤i∧i≤l∧m=l-i) (l-1) ⟨rfl,1,by rw[j];rfl,by omega,by omega,rfl⟩ ?_;rintro m s f ⟨rfl,i,rfl,u,hi,rfl⟩;unfold kC;dsimp only;refine am (fun w=> ?_) (fun t=> ?_)
 ·refine aB ea (k:=i) rfl (by omega) ?_;simp only[oe,US];refine ae (e i (by omega)) ?_;rw[al (n:=(i:Int)+1) (by omega)];refine⟨l-(i+1),by omega,by trivial,i+1,?_,by omega,by omega,rfl⟩;have b:i<xs.length:=by omega
  have o:xs.getD i 0=xs[i]:=by rw[UV,aO b];rfl
  rw[py b,Vk,o];rfl
 ·rw[N6 (by omega)];exact⟨rfl,by trivial⟩
end
end
section
section
variable {h:af} {gv:Gv} {W R Lo Hi:Int→Int} {pos:Int→Nat} {b1 b3 b5 b10:Nat} {r:Sl}
structure TI (gv:Gv) (W:Int→Int) (k i:Nat) (nv:Nv):Prop where
 ok:nv.ok
 rows:nv.rows∈gv.ns.map Nv.rows
 sz:nv.inn.l<2 ^ 20∧nv.weights.l<2 ^ 40∧nv.bias.l<2 ^ 40
 at_:gv.gr.nodes[i]? =some nv.nd
 lt:i<gv.l
 l12:gv.l≤12
 ilen:nv.inn.xs.length=nv.inn.l
 i1:1≤nv.inn.l
 i4:nv.inn.l≤4
 chk:nv.nd.chk (nv.nd.inn.map W)=0
 bnd: ∀j∈nv.inn.xs,0≤j∧j≤(gv.l:Int)
 pk: ∀V:Int→Int,bZ (vals gv.l V (0::(cC gv.gr.nodes).take k)) nv.inn.xs=nv.inn.xs.map V
 tk:(0::(cC gv.gr.nodes).take (k+1):List Int)=(0::(cC gv.gr.nodes).take k)++[(i:Int)+1]
 fst: ∃x0:Nat,nv.inn.xs[0]? =some (x0:Int)∧x0≤gv.l∧ ∀V:Int→Int,(nv.nd.inn.map V).getD 0 0=V x0
theorem RP (e:gv.ok) (t:gv.sizes) (rt:bM gv.gr W R pos) {k i:Nat} {nv:Nv} (x:k<gv.l) (p:(cC gv.gr.nodes)[k]? =some ((i:Int)+1)) (en:gv.ns[i]? =some nv):TI gv W k i nv:=by
 have g:=e.1;have m:gv.gr.nodes.length=gv.l:=by rw[←g];simp[Gv.gr]
 have c:=UR en;have n:i<gv.l:=by have:=(Pt.1 en).1;omega
 have a:gv.gr.nodes[i]? =some nv.nd:=by show(gv.ns.map Nv.nd)[i]? =_;rw[UW,en];rfl
 obtain⟨s,u,w,v,b⟩:=rt.node a;rw[m] at b;have d:=(Pt.1 p).1;have q:=(Pt.1 p).2;have f:=e.2.2 nv c;have ilen:nv.inn.xs.length=nv.inn.l:=f.1.1;refine⟨f,U2 c,t.2 nv c,a,n,by have:=(bR rt.first).2.1;omega,ilen,by rw[←ilen];exact s,by rw[←ilen];exact u,rt.chk i _ a,b,fun V=>qD fun j o=>⟨Bd rt.ordered d q a o,b j o⟩,by rw[py d,q];rfl,?_⟩;have h0:0<nv.inn.xs.length:=s;have o:=b _ (UU h0);refine⟨(nv.inn.xs[0]'h0).toNat,by rw[aO h0];congr 1;omega,by omega,fun V=> ?_⟩;show(nv.inn.xs.map V).getD 0 0=_;rw[UV,UW,aO h0,show(((nv.inn.xs[0]'h0).toNat:Nat):Int)=nv.inn.xs[0]'h0 by omega];rfl
theorem ML {n:Nd} {ws:List Int} (h:n.chk ws=0):(hD n).1=n.leftN:=by
 have c:=(eQ h).1;unfold hD Nd.leftN;by_cases b:dA n.kind
 ·rw[if_pos b,if_neg (by rcases b with h|h|h|h<;>omega),if_pos b]
 ·rw[if_neg b,if_neg b];by_cases a:n.kind=12
  ·rw[if_pos a,if_pos a];exact al (by omega)
  ·rw[if_neg a,if_neg a]
def UD (gv:Gv) (R Lo Hi:Int→Int):Prop:= ∀x,0≤x→x≤(gv.l:Int)→(-2 ^ 40≤Lo x∧Lo x≤2 ^ 40)∧(-2 ^ 40≤Hi x∧Hi x≤2 ^ 40)∧(0≤R x∧R x≤2 ^ 30)
theorem Ko (d:gv.ok) (rt:bM gv.gr W R pos) (rc:Reach gv.gr.nodes R Lo Hi):UD gv R Lo Hi:=by
 have b:=d.1;have c:gv.gr.nodes.length=gv.l:=by rw[←b];simp[Gv.gr]
 have e:gv.gr.nodes.length≤12:=(bR rt.first).2.1;intro x h0 a;rw[←c] at a;have b1:=Fj rt.posG _ x rfl h0 a;have i:=JQ rt.posG rc _ x rfl h0 a;have f:posG gv.gr.nodes x≤12:=by have:=vQ gv.gr.nodes x;omega
 have b3:=z6 f;have g:((posG gv.gr.nodes x:Nat):Int)*2 ^ 30≤12*2 ^ 30:=Int.mul_le_mul_of_nonneg_right (by omega) (by decide);refine⟨by omega,by omega,by omega,by omega⟩
abbrev VR (gv:Gv) (Lo Hi:Int→Int) (b1 b3 b5 b10 b a:Nat) (r:Sl) (k:Nat):List aY:=
 [blk b1 gv.cells,blk b3 [.slice (some ⟨b,0,none⟩) (gv.l+1) (gv.l+1)],blk b5 [.slice (some ⟨a,0,none⟩) (gv.l+1) (gv.l+1)],own 1 r.p r.l r.c (az r.xs),blk b10 [r.v],
  blk b (az (vals gv.l Lo (0::(cC gv.gr.nodes).take k))),blk a (az (vals gv.l Hi (0::(cC gv.gr.nodes).take k)))]
def Oe (gv:Gv) (Lo Hi:Int→Int) (h:af) (v:Value) (c:af):Prop:=
 ∃b a,v= .tuple #[.slice (some ⟨b,0,none⟩) (gv.l+1) (gv.l+1),.slice (some ⟨a,0,none⟩) (gv.l+1) (gv.l+1)]∧aJ h no c [blk b (az ((List.range (gv.l+1)).map fun x:Nat=>Lo x)),blk a (az ((List.range (gv.l+1)).map fun x:Nat=>Hi x))] []
theorem IF (s:gv.ok) (hs:gv.sizes) (rt:bM gv.gr W R pos) (rc:Reach gv.gr.nodes R Lo Hi) (N:r.ok) (er:r.xs=(List.range (gv.l+1)).map fun x:Nat=>R x) {U Q:Nat} {g:af} (S:aJ h no g (VR gv Lo Hi b1 b3 b5 b10 U Q r 0) (R3 gv)):
 nE (Oe gv Lo Hi h) ⟨b1,0,none⟩ ⟨b3,0,none⟩ ⟨b5,0,none⟩ ⟨b10,0,none⟩ g:=by
 have ag:=s.1;have M:gv.gr.nodes.length=gv.l:=by rw[←ag];simp[Gv.gr]
 have P:=Ko s rt rc;have aj:r.l=gv.l+1:=by rw[←N.1,er];simp
 unfold nE;refine aN S 0 rfl (x:=gv.t) rfl ?_;refine(Kn gv).mono ?_;rintro _ g1 ⟨bg,rfl,z⟩;replace S:=S.add z fun _ _ h=>h;dsimp only[Xi,Xj] at S;refine⟨_,rfl,?_⟩;refine xD (VR gv Lo Hi b1 b3 b5 b10 U Q r) s hs rt (S.pw [7,0,1,2,3,4,5,6]) (fun k i b D l a5 u o g Rr hk ek en S H=> ?_) (fun D l ar o g S=> ?_)
 ·have A:=RP s hs rt hk ek en;obtain⟨f,aa,ai,K⟩:=A.fst;have d:=eQ A.chk;have B: -2 ^ 20≤b.size∧b.size≤2 ^ 20:=by have O:0≤b.size∧b.size≤8:=d.1;omega
  have L: -2 ^ 20≤b.gap∧b.gap≤2 ^ 20:=by have O:0≤b.gap∧b.gap≤4:=d.2.1;omega
  have a0:=A.lt;have ilen:=A.ilen;have i1:=A.i1;have i4:=A.i4;dsimp only[Xi,Xj] at S H;rw[A.tk] at H;refine aA S fun an g2 _ S=> ?_;dsimp only[Xi,Xj] at S;refine cA S 11 rfl rfl (bu rfl) fun g3 _ S=> ?_;dsimp only[List.set] at S;refine⟨S.w 9 _ rfl,?_⟩;replace S:=ij S 9 u rfl;dsimp only[List.set] at S;generalize Array.setIfInBounds g3 l u=g4 at S;have rrow: ∀{g:af} {C:List aY},aJ h no g C (R3 gv)→C[4]? =some (own 1 r.p r.l r.c (az r.xs))→ ∀x:Nat,x≤gv.l→ ∃a,r.p=some a∧aD g (a.add x)=some (.int .i64 (R x)):=by
   intro g C S e x hx;have ro:=(S.own 4 e).row;obtain⟨a,ea⟩:=ro.some_of (by rw[av,N.1];omega);rw[ea] at ro;exact⟨a,ea,ro.cell (aI (by rw[er,UW,Vj (by omega)];rfl))⟩
  have m: ∀{g:af} {C:List aY},aJ h no g C (R3 gv)→bI g b.inn.p (az b.inn.xs):=fun S=>S.r 2 _ rfl b.rows A.rows b.inn.row (by simp);refine ak (p:=r.p) (l:=r.l) (c:=r.c) (S.cell 5 rfl rfl) ?_;obtain⟨ra,Z,cr⟩:=rrow S rfl (i+1) (by omega);refine aB Z (k:=i+1) rfl (by omega) ?_;simp only[show((i:Int)+1).toNat=i+1 by omega,US];refine ae cr (aH (fun hz=> ?_) (fun hz=> ?_))
  ·have a3:R ((i:Int)+1)=0:=hz;have ad:Lo ((i:Int)+1)=0:=by rw[rc.lo i _ A.at_,if_neg (by omega)]
   have ab:Hi ((i:Int)+1)=0:=by rw[rc.hi i _ A.at_,if_neg (by omega)]
   refine H _ ?_;rw[Hm ad,Hm ab];exact S.pw [0,1,2,3,4,5,6,7,8,9,10]
  ·have aO:=(P ((i:Int)+1) (by omega) (by omega)).2.2;have y:0<R ((i:Int)+1):=by have:R ((i:Int)+1)≠0:=hz;omega
   have q:=(P (f:Int) (by omega) (by omega)).2.2;have J:Lo ((i:Int)+1)=cL (b.nd.inn.map Lo)-R (f:Int)*b.nd.leftN:=by rw[rc.lo i _ A.at_,if_pos y,K]
   have I:Hi ((i:Int)+1)=qI (b.nd.inn.map Hi)+R (f:Int)*(b.nd.span-1-b.nd.leftN):=by rw[rc.hi i _ A.at_,if_pos y,K]
   have ap:=(P ((i:Int)+1) (by omega) (by omega)).1;have ao:=(P ((i:Int)+1) (by omega) (by omega)).2.1;have m1:0≤R (f:Int)*b.nd.leftN∧R (f:Int)*b.nd.leftN≤2 ^ 30*31:=⟨Vw q.1 d.2.2.1.1,Vv q.2 d.2.2.1.2 d.2.2.1.1 (by omega)⟩;have m2:0≤R (f:Int)*(b.nd.span-1-b.nd.leftN)∧R (f:Int)*(b.nd.span-1-b.nd.leftN)≤2 ^ 30*31:=⟨Vw q.1 d.2.2.2.1.1,Vv q.2 d.2.2.2.1.2 d.2.2.2.1.1 (by omega)⟩;refine ak (p:=r.p) (l:=r.l) (c:=r.c) (S.cell 5 rfl rfl) (ak (p:=b.inn.p) (l:=b.inn.l) (c:=b.inn.c) (S.cell 11 rfl rfl) ?_);have ir:=m S;obtain⟨ia,E⟩:=ir.some_of (by rw[av];omega);rw[E] at ir;refine aB E (k:=0) rfl (by omega) (ae (ir.cell (aI aa)) ?_);obtain⟨a4,G,X⟩:=rrow S rfl f ai;refine aB G (k:=f) rfl (by omega) ?_;simp only[oe];refine ae X (aN S 11 rfl (x:=b.t) rfl ?_);refine(LO b (S.r 0 _ rfl)).mono ?_;rintro _ g5 ⟨rfl,F⟩;replace S:=S.fra0 F;rw[ML A.chk];refine⟨_,_,rfl,?_⟩;refine ak (S.cell 2 rfl rfl) (ak (S.cell 2 rfl rfl) (ak (p:=b.inn.p) (l:=b.inn.l) (c:=b.inn.c) (S.cell 11 rfl rfl) ?_));refine(Dc (bI.of_at (S.at 6 rfl)) (fm _ _ _) (m S) ilen (by omega) (fun j hj=>by have:=A.bnd j hj;omega)).mono ?_;rintro _ g6 ⟨bp,rfl,z⟩;rw[A.pk] at z;replace S:=S.add z fun _ _ h=>h;dsimp only[Xi,Xj] at S;refine⟨_,_,_,rfl,aX (S.cell 2 rfl rfl) ?_⟩;refine(RO (bI.of_at (S.at 12 rfl)) (by rw[UT];exact ilen) i1 (by omega)).mono ?_;rintro _ g7 ⟨rfl,Y⟩;subst Y;refine⟨_,rfl,aX (S.cell 2 rfl rfl) (aX (S.cell 2 rfl rfl) ?_)⟩;refine aB rfl (k:=i+1) rfl (by omega) ?_;simp only[aQ,SI,show((i:Int)+1).toNat=i+1 by omega,US];rw[al (n:=R (f:Int)*b.nd.leftN) (by omega),show cL (b.inn.xs.map Lo)-R (f:Int)*b.nd.leftN=Lo ((i:Int)+1) from J.symm,al (n:=Lo ((i:Int)+1)) (by omega)];refine aE S 6 rfl (by rw[av,fm];omega) fun g8 _ S=> ?_;dsimp only[List.set] at S;rw[bA,qE (V:=Lo) (i:=i) (by omega) rfl] at S;refine ak (S.cell 3 rfl rfl) (ak (S.cell 3 rfl rfl) (ak (p:=b.inn.p) (l:=b.inn.l) (c:=b.inn.c) (S.cell 11 rfl rfl) ?_));refine aN S 11 rfl (x:=b.t) rfl ?_;refine(Dc (bI.of_at (S.at 7 rfl)) (fm _ _ _) (m S) ilen (by omega) (fun j hj=>by have:=A.bnd j hj;omega)).mono ?_;rintro _ g9 ⟨bq,rfl,z⟩;rw[A.pk] at z;replace S:=S.add z fun _ _ h=>h;dsimp only[Xi,Xj] at S;refine⟨_,_,_,rfl,cR S 11 rfl rfl (aX (S.cell 3 rfl rfl) ?_)⟩;refine(Od (bI.of_at (S.at 13 rfl)) (by rw[UT];exact ilen) i1 (by omega)).mono ?_;rintro _ aw ⟨rfl,Y⟩;subst Y;refine⟨_,rfl,cR S 11 rfl rfl (aX (S.cell 11 rfl rfl) (aX (S.cell 3 rfl rfl) (aX (S.cell 3 rfl rfl) ?_)))⟩;refine(zR b (S.r 0 _ rfl) B L).mono ?_;rintro _ ax ⟨rfl,F⟩;replace S:=S.fra0 F;refine⟨_,rfl,aX (S.cell 11 rfl rfl) (aX (S.cell 3 rfl rfl) (aX (S.cell 3 rfl rfl) ?_))⟩;refine aB rfl (k:=i+1) rfl (by omega) ?_;simp only[aQ,SI,show((i:Int)+1).toNat=i+1 by omega,US];have a2:=d.2.2.2.2.1;have a1:=d.2.2.1;rw[al (n:=b.nd.span-1) (by omega),al (n:=b.nd.span-1-b.nd.leftN) (by omega),al (n:=R (f:Int)*(b.nd.span-1-b.nd.leftN)) (by omega),show qI (b.inn.xs.map Hi)+R (f:Int)*(b.nd.span-1-b.nd.leftN)=Hi ((i:Int)+1) from I.symm,al (n:=Hi ((i:Int)+1)) (by omega)];refine aE S 7 rfl (by rw[av,fm];omega) fun ay _ S=> ?_;dsimp only[List.set] at S;rw[bA,qE (V:=Hi) (i:=i) (by omega) rfl] at S;exact H _ (S.pw [0,1,2,3,4,5,6,7,8,9,10])
 ·dsimp only[Xi,Xj] at S;refine ak (S.cell 2 rfl rfl) (ak (S.cell 3 rfl rfl) ?_);refine aE S 2 rfl (jb rfl) fun g2 _ S=> ?_;dsimp only[List.set] at S;refine aX (S.cell 3 rfl rfl) ?_;refine aE S 3 rfl (jb rfl) fun g3 _ S=> ?_;dsimp only[List.set] at S;refine⟨S.w 8 _ rfl,?_⟩;replace S:=ij S 8 (.deferred none) rfl;dsimp only[List.set] at S;refine ak (S.cell 2 rfl rfl) (ak (S.cell 3 rfl rfl) ?_);have v: ∀V:Int→Int,vals gv.l V (0::(cC gv.gr.nodes).take gv.l)=(List.range (gv.l+1)).map fun x:Nat=>V x:=fun V=>by
   have O:=zU rt.ordered V;rw[M] at O;rw[N6 (by rw[rt.ordered];omega)];have h2:bK gv.gr.nodes gv.l=0::cC gv.gr.nodes:=by rw[←M];exact dM _ _
   rw[←h2];exact O
  rw[v,v] at S;exact⟨U,Q,rfl,yu (S.pw [6,7])⟩
theorem Of (i:gv.ok) (L:bI h gv.p (aF gv.ns)) (M:(aU gv.ns).P h) (D:gv.sizes) (K:KT h) (rt:bM gv.gr W R pos) (rc:Reach gv.gr.nodes R Lo Hi):au P pc #[gv.v] h (Oe gv Lo Hi h):=by
 refine AQ _ ?_;unfold BR;have u:=i.1;have w:gv.gr.nodes.length=gv.l:=by rw[←u];simp[Gv.gr]
 have C:gv.l≤12:=by have:=(bR rt.first).2.1;omega
 have S:=(((aJ.start h no).read (blk 0 (az bo)) K).read (row gv.p (aF gv.ns)) L).read (aU gv.ns) M;refine aA (cs:=gv.cells) S fun b1 q _ S=> ?_;dsimp only[Xj,Xi] at S;refine aA S fun b3 q _ S=> ?_;dsimp only[Xj,Xi] at S;refine aA S fun b5 q _ S=> ?_;dsimp only[Xj,Xi] at S;refine aN S 0 rfl (x:=gv.t) rfl ?_;refine(II i (S.row 1 rfl) (S.r 2 _ rfl) D (S.r 0 _ rfl)).mono ?_;rintro _ Q ⟨r,rfl,j,n,F⟩;rw[rt.look,w] at n;replace S:=S.add F fun _ _ h=>h;dsimp only[Xi,Xj] at S;refine⟨_,_,_,rfl,?_⟩;refine aA S fun b10 q _ S=> ?_;dsimp only[Xj,Xi] at S;refine aE S 4 rfl (jb rfl) fun U _ S=> ?_;dsimp only[List.set] at S;have k:r.l=gv.l+1:=by rw[←j.1,n];simp
 have a: ∀{g:af} {y:List aY},aJ h no g y (R3 gv)→y[4]? =some (blk b10 [r.v])→aD g ⟨b10,0,none⟩=some (.slice r.p (gv.l+1) r.c):=fun S e=>by rw[←k];exact S.cell 4 e rfl
 refine ak (a S rfl) ?_;obtain⟨X,o⟩:=(S.own 3 rfl).row.some_of (by rw[av,j.1];omega);refine bQ (by rw[o];rfl) ?_;refine⟨fun s g=>s=(⟨b1,0,none⟩,⟨b3,0,none⟩,⟨b5,0,none⟩,⟨b10,0,none⟩,())∧ ∃d b,aJ h no g (VR gv Lo Hi b1 b3 b5 b10 d b r 0) (R3 gv),?_,?_⟩
 ·rintro s g ⟨rfl,d,b,S⟩;exact IF i D rt rc j n S
 ·refine ak (a S rfl) (ak (a S rfl) ?_);have E: ∀V:Int→Int,V 0=0→(List.replicate (gv.l+1) [Value.int .i64 0]).flatten=az (vals gv.l V (0::(cC gv.gr.nodes).take 0)):=fun V h0=>by
   rw[ib,Wf,mO,h0,←VO];simp[az]
  have O:=E Lo rc.l0;have N:=E Hi rc.h0;simp only[oe]
  have f: ∀{g:af} {d b:Nat},aJ h no g [blk b1 gv.cells,blk b3 [.slice (some ⟨d,0,none⟩) (gv.l+1) (gv.l+1)],blk b5 [.slice (some ⟨b,0,none⟩) (gv.l+1) (gv.l+1)],own 1 r.p r.l r.c (az r.xs),blk b10 [r.v],blk d (List.replicate (gv.l+1) [Value.int .i64 0]).flatten,blk b (List.replicate (gv.l+1) [Value.int .i64 0]).flatten] (R3 gv)→
   aJ h no g (VR gv Lo Hi b1 b3 b5 b10 d b r 0) (R3 gv):=fun{g d b} S=>by
   unfold VR;rw[←O,←N];exact S
  refine⟨?_,?_⟩
  ·refine dQ S (gv.l+1) rfl (zs:=[.int .i64 0]) rfl rfl (by decide) (by omega) (by omega) fun G J _ S=> ?_;dsimp only[Xj,Xi] at S;refine aX (a S rfl) (aX (a S rfl) ⟨?_,?_⟩)
   ·refine dQ S (gv.l+1) rfl (zs:=[.int .i64 0]) rfl rfl (by decide) (by omega) (by omega) fun m z _ S=> ?_;dsimp only[Xj,Xi] at S;refine aX (a S rfl) (aX (a S rfl) ?_);refine aE S 1 rfl (jb rfl) fun A _ S=> ?_;dsimp only[List.set] at S;refine aX (a S rfl) ?_;refine aE S 2 rfl (jb rfl) fun B _ S=> ?_;dsimp only[List.set] at S;exact⟨trivial,_,_,f S⟩
   ·refine aE S 1 rfl (jb rfl) fun A _ S=> ?_;dsimp only[List.set] at S;refine aX (a S rfl) ?_;refine dQ S (gv.l+1) rfl (zs:=[.int .i64 0]) rfl rfl (by decide) (by omega) (by omega) fun m z _ S=> ?_;dsimp only[Xj,Xi] at S;refine aX (a S rfl) (aX (a S rfl) ?_);refine aE S 2 rfl (jb rfl) fun B _ S=> ?_;dsimp only[List.set] at S;exact⟨trivial,_,_,f S⟩
  ·refine dQ S (gv.l+1) rfl (zs:=[.int .i64 0]) rfl rfl (by decide) (by omega) (by omega) fun H J _ S=> ?_;dsimp only[Xj,Xi] at S;refine aX (a S rfl) (aX (a S rfl) ?_);refine dQ S (gv.l+1) rfl (zs:=[.int .i64 0]) rfl rfl (by decide) (by omega) (by omega) fun I z _ S=> ?_;dsimp only[Xj,Xi] at S;refine aX (a S rfl) (aX (a S rfl) ?_);refine aE S 1 rfl (jb rfl) fun A _ S=> ?_;dsimp only[List.set] at S;refine aX (a S rfl) ?_;refine aE S 2 rfl (jb rfl) fun B _ S=> ?_;dsimp only[List.set] at S;exact⟨trivial,_,_,f (S.pw [0,1,2,3,4,6,5])⟩
end
end
section
def Dd (n:Nd) (a ahead:Int):Int:=if n.kind=7∨n.kind=8 then(if a=0 then 1 else dV (dV (Int.tdiv (dV (dV (ahead+a)-1)) a)+1)) else n.span
def qO (n:Nd) (a b:Int) (Hi:Int→Int) (o:List Int) (j:Int):List Int:=
 o.set j.toNat (if Dd n a (dV (b-Hi j))>o.getD j.toNat 0 then Dd n a (dV (b-Hi j)) else o.getD j.toNat 0)
def mU (ns:List Nd) (R Hi:Int→Int) (o:List Int) (x:Int):List Int:=
 match ns[x.toNat-1]? with
 |none=>o
 |some n=>n.inn.foldl (qO n (R x) (qI (n.inn.map Hi)) Hi) o
def gK (ns:List Nd) (R Hi:Int→Int) (k:Nat):List Int:=((cC ns).take k).foldl (mU ns R Hi) (List.replicate (ns.length+1) 1)
def Gr.rooms (g:Gr) (R Hi:Int→Int):List Int:=gK g.nodes R Hi g.nodes.length
theorem o0 (n:Nd) (a b:Int) (Hi:Int→Int): ∀(l:List Int) (o:List Int),(l.foldl (qO n a b Hi) o).length=o.length
 |[],o=>rfl
 |j::r,o=>by rw[Wb,o0];unfold qO;rw[U1]
theorem su (ns:List Nd) (R Hi:Int→Int): ∀(l:List Int) (o:List Int),(l.foldl (mU ns R Hi) o).length=o.length
 |[],o=>rfl
 |x::r,o=>by
  rw[Wb,su];unfold mU;split
  ·rfl
  ·rw[o0]
theorem o6 (ns:List Nd) (R Hi:Int→Int) (k:Nat):(gK ns R Hi k).length=ns.length+1:=by unfold gK;rw[su,UZ]
def Gc (ns:List Nd) (k:Nat):Int:=((cC ns).take k).foldl (fun s x=>dV (s+(Px ns x:Int))) 0
def Gr.macs (g:Gr):Int:=Gc g.nodes g.nodes.length
section
variable {h:af} {gv:Gv} {W R Lo Hi:Int→Int} {pos:Int→Nat} {r:Sl}
theorem Qg (nv:Nv) (i:KT h) (k: -2 ^ 20≤nv.size∧nv.size≤2 ^ 20) (j: -2 ^ 20≤nv.gap∧nv.gap≤2 ^ 20) (a ahead:Int):au P q6 #[nv.v,.int .i64 a,.int .i64 ahead] h fun v f=>v= .int .i64 (Dd nv.nd a ahead)∧cp no h f:=by
 refine CP _ _ _ ?_;unfold Ex;have S:=(aJ.start h no).read (blk 0 (az bo)) i;refine aA (cs:=nv.cells) S fun b1 l _ S=> ?_;dsimp only[Xi,Xj] at S;have e:Dd nv.nd a ahead=if nv.kind=7∨nv.kind=8 then(if a=0 then 1 else dV (dV (Int.tdiv (dV (dV (ahead+a)-1)) a)+1)) else nv.nd.span:=rfl
 rw[e];refine ae (n:=nv.kind) (S.cell 0 rfl rfl) (aH (fun c=> ?_) (fun c=>aH (fun d=> ?_) (fun d=> ?_)))
 ·rw[if_pos (.inl c)];exact aH (fun b=>by rw[if_pos b];exact⟨rfl,S.fra⟩) (fun b=>⟨b,by rw[if_neg b];exact⟨rfl,S.fra⟩⟩)
 ·rw[if_pos (.inr d)];exact aH (fun b=>by rw[if_pos b];exact⟨rfl,S.fra⟩) (fun b=>⟨b,by rw[if_neg b];exact⟨rfl,S.fra⟩⟩)
 ·rw[if_neg (by rintro(h|h);exact c h;exact d h)];refine aN S 0 rfl (x:=nv.t) rfl ?_;refine(zR nv (S.r 0 _ rfl) k j).mono ?_;rintro _ g ⟨rfl,F⟩;exact⟨_,rfl,rfl,(S.fra0 F).fra⟩
abbrev VM (gv:Gv) (R Hi:Int→Int) (b1 f b a d e:Nat) (r:Sl) (k:Nat):List aY:=
 [blk b1 gv.cells,own 1 r.p r.l r.c (az r.xs),blk f [r.v],blk e (az ((List.range (gv.l+1)).map fun x:Nat=>Hi x)),blk b [.slice (some ⟨e,0,none⟩) (gv.l+1) (gv.l+1)],
  blk a (az (gK gv.gr.nodes R Hi k)),blk d [.slice (some ⟨a,0,none⟩) (gv.l+1) (gv.l+1)]]
def Og (gv:Gv) (R Hi:Int→Int) (h:af) (v:Value) (a:af):Prop:= ∃b,v= .slice (some ⟨b,0,none⟩) (gv.l+1) (gv.l+1)∧aJ h no a [blk b (az (gv.gr.rooms R Hi))] []
theorem HD (z:gv.ok) (hs:gv.sizes) (rt:bM gv.gr W R pos) (rc:Reach gv.gr.nodes R Lo Hi) (X:r.ok) (er:r.xs=(List.range (gv.l+1)).map fun x:Nat=>R x) {b1 K d b f Z:Nat} {K1:(Addr×Addr×Addr×Addr×Int×Int×Unit)→af→Prop} {g:af}
 (S:aJ h no g (VM gv R Hi b1 K d b f Z r 0) (R3 gv)):kh (Og gv R Hi h) K1 ⟨b1,0,none⟩ ⟨K,0,none⟩ ⟨d,0,none⟩ ⟨f,0,none⟩ ((gv.l+1:Nat):Int) ((gv.l+1:Nat):Int) g:=by
 have ab:=z.1;have P:gv.gr.nodes.length=gv.l:=by rw[←ab];simp[Gv.gr]
 have hb:=Ko z rt rc;have ai:r.l=gv.l+1:=by rw[←X.1,er];simp
 unfold kh;refine bQ (decide_eq_false (by omega)) ?_;refine aN S 0 rfl (x:=gv.t) rfl ?_;refine(Kn gv).mono ?_;rintro _ g1 ⟨bg,rfl,I⟩;replace S:=S.add I fun _ _ h=>h;dsimp only[Xi,Xj] at S;refine⟨_,rfl,?_⟩;refine xD (VM gv R Hi b1 K d b f Z r) z hs rt (S.pw [7,0,1,2,3,4,5,6]) (fun k i a D l ar q o g Rr hk ek en S H=> ?_) (fun D l aj o g S=> ?_)
 ·have A:=RP z hs rt hk ek en;have V:=eQ A.chk;have E: -2 ^ 20≤a.size∧a.size≤2 ^ 20:=by have h1:0≤a.size∧a.size≤8:=V.1;omega
  have O: -2 ^ 20≤a.gap∧a.gap≤2 ^ 20:=by have h1:0≤a.gap∧a.gap≤4:=V.2.1;omega
  have ao:=A.lt;have ilen:=A.ilen;have i1:=A.i1;have i4:=A.i4;dsimp only[Xi,Xj] at S H;have G:gK gv.gr.nodes R Hi (k+1)=a.inn.xs.foldl (qO a.nd (R ((i:Int)+1)) (qI (a.inn.xs.map Hi)) Hi) (gK gv.gr.nodes R Hi k):=by
   unfold gK;have ag:=(Pt.1 ek).1;rw[py ag,Vk,(Pt.1 ek).2];show mU _ _ _ _ _=_;unfold mU;rw[show((i:Int)+1).toNat-1=i by omega,A.at_];rfl
  rw[G] at H;have Q:=o6 gv.gr.nodes R Hi k;rw[P] at Q;refine aA S fun J g2 _ S=> ?_;dsimp only[Xi,Xj] at S;refine cA S 11 rfl rfl (bu rfl) fun g3 _ S=> ?_;dsimp only[List.set] at S;refine⟨S.w 9 _ rfl,?_⟩;replace S:=ij S 9 q rfl;dsimp only[List.set] at S;generalize Array.setIfInBounds g3 l q=g4 at S;have B: ∀{g:af} {Y:List aY},aJ h no g Y (R3 gv)→bI g a.inn.p (az a.inn.xs):=fun S=>S.r 2 _ rfl a.rows A.rows a.inn.row (by simp);refine ak (S.cell 5 rfl rfl) (ak (p:=a.inn.p) (l:=a.inn.l) (c:=a.inn.c) (S.cell 11 rfl rfl) ?_);refine(Dc (bI.of_at (S.at 4 rfl)) (by simp) (B S) ilen (by omega) (fun j hj=>by have:=A.bnd j hj;omega)).mono ?_;rintro _ g6 ⟨bp,rfl,I⟩;have aa:bZ ((List.range (gv.l+1)).map fun x:Nat=>Hi x) a.inn.xs=a.inn.xs.map Hi:=by
   refine U8 fun j hj=> ?_;have:=A.bnd j hj;rw[UV,UW,Vj (by omega)];show Hi ((j.toNat:Nat):Int)=_;rw[show((j.toNat:Nat):Int)=j by omega]
  rw[aa] at I;replace S:=S.add I fun _ _ h=>h;dsimp only[Xi,Xj] at S;refine⟨_,_,_,rfl,?_⟩;refine(Od (bI.of_at (S.at 12 rfl)) (by rw[UT];exact ilen) i1 (by omega)).mono ?_;rintro _ g7 ⟨rfl,eg⟩;subst eg;refine⟨_,rfl,ak (p:=a.inn.p) (l:=a.inn.l) (c:=a.inn.c) (S.cell 11 rfl rfl) ?_⟩;obtain⟨y,N⟩: ∃y,qI (a.inn.xs.map Hi)=y:=⟨_,rfl⟩;rw[N] at H ⊢
  refine aP (fun m s g=> ∃j:Nat,s=(⟨K,0,none⟩,⟨d,0,none⟩,⟨f,0,none⟩,(i:Int)+1,⟨J,0,none⟩,y,(a.inn.p,a.inn.l,a.inn.c),(a.inn.l:Int),(j:Int),())∧j≤a.inn.l∧m=a.inn.l-j∧
   aJ h no g [blk bg gv.cells,blk b1 gv.cells,own 1 r.p r.l r.c (az r.xs),blk K [r.v],blk Z (az ((List.range (gv.l+1)).map fun x:Nat=>Hi x)),blk d [.slice (some ⟨Z,0,none⟩) (gv.l+1) (gv.l+1)],
    blk b (az ((a.inn.xs.take j).foldl (qO a.nd (R ((i:Int)+1)) y Hi) (gK gv.gr.nodes R Hi k))),blk f [.slice (some ⟨b,0,none⟩) (gv.l+1) (gv.l+1)],IB D (.deferred (some [])),IB l q,own 1 o.p o.l o.c (az o.xs),blk J a.cells] (R3 gv)) a.inn.l ⟨0,rfl,by omega,rfl,S.pw [0,1,2,3,4,5,6,7,8,9,10,11]⟩ ?_
  clear S I;rintro m s g ⟨j,rfl,hj,rfl,S⟩;unfold tg;dsimp only;refine am (fun U=> ?_) (fun an=> ?_)
  ·have U:j<a.inn.l:=by omega
   have u:j<a.inn.xs.length:=by omega
   have ad:=A.bnd a.inn.xs[j] (UU u);obtain⟨x,ex⟩: ∃x:Nat,a.inn.xs[j]=x:=⟨a.inn.xs[j].toNat,by omega⟩;rw[ex] at ad;have ir:=B S;obtain⟨ia,L⟩:=ir.some_of (by rw[av];omega);rw[L] at ir;refine aB L (k:=j) rfl U ?_;simp only[oe,US];refine ae (n:=(x:Int)) (ir.cell (aI (by rw[aO u,ex]))) ?_;refine aN S 11 rfl (x:=a.t) rfl ?_;obtain⟨os,C⟩: ∃os,(a.inn.xs.take j).foldl (qO a.nd (R ((i:Int)+1)) y Hi) (gK gv.gr.nodes R Hi k)=os:=⟨_,rfl⟩;have ap:os.length=gv.l+1:=by rw[←C,o0,Q]
   rw[C] at S;refine ak (S.cell 7 rfl rfl) (ak (S.cell 7 rfl rfl) (aB rfl (k:=x) rfl (by omega) ?_));simp only[aQ,SI,oe];have cx: ∀{g:af} {Y:List aY},aJ h no g Y (R3 gv)→Y[6]? =some (blk b (az os))→aD g ⟨b,x,none⟩=some (.int .i64 (os.getD x 0)):=fun S e=>S.cell 6 e (aI (by rw[UV,aO (by omega)];rfl));refine ae (cx S rfl) ?_;refine ak (p:=r.p) (l:=r.l) (c:=r.c) (S.cell 3 rfl rfl) ?_;have ro:=(S.own 2 rfl).row;obtain⟨ra,M⟩:=ro.some_of (by rw[av,X.1];omega);rw[M] at ro;refine aB M (k:=i+1) rfl (by omega) ?_;rw[show((i:Int)+1).toNat=i+1 by omega];refine ae (n:=R ((i:Int)+1)) (ro.cell (aI (by rw[er,UW,Vj (by omega)];rfl))) ?_;refine ak (S.cell 5 rfl rfl) (aB rfl (k:=x) rfl (by omega) ?_);simp only[aQ,SI,oe];refine ae (n:=Hi (x:Int)) (S.cell 4 rfl (aI (by rw[UW,Vj (by omega)];rfl))) ?_;refine(Qg a (S.r 0 _ rfl) E O _ _).mono ?_;rintro _ g2 ⟨rfl,F⟩;replace S:=S.fra0 F;refine⟨_,rfl,aX (S.cell 3 rfl rfl) (aX (cx S rfl) (aX (S.cell 7 rfl rfl) (aX (S.cell 7 rfl rfl) ?_)))⟩;refine aB rfl (k:=x) rfl (by omega) ?_;simp only[aQ,SI,oe];refine aE S 6 rfl (by rw[av];omega) fun g3 _ S=> ?_;dsimp only[List.set] at S;rw[bA] at S;rw[al (n:=(j:Int)+1) (by omega)];refine⟨a.inn.l-(j+1),by omega,j+1,rfl,by omega,rfl,?_⟩;rw[py u,Vk,C,ex];exact S
  ·have:j=a.inn.l:=by omega
   subst this;rw[N6 (by omega)] at S;exact H _ (S.pw [0,1,2,3,4,5,6,7,8,9,10])
 ·dsimp only[Xi,Xj] at S;refine ak (S.cell 7 rfl rfl) ⟨S.w 8 _ rfl,?_⟩;replace S:=ij S 8 (.deferred none) rfl;dsimp only[List.set] at S;refine⟨b,rfl,?_⟩;have e:gv.gr.rooms R Hi=gK gv.gr.nodes R Hi gv.l:=by unfold Gr.rooms;rw[P]
  rw[e];exact yu (S.pw [6])
theorem Oh (a:gv.ok) (J:bI h gv.p (aF gv.ns)) (K:(aU gv.ns).P h) (B:gv.sizes) (I:KT h) (rt:bM gv.gr W R pos) (rc:Reach gv.gr.nodes R Lo Hi):au P kS #[gv.v] h (Og gv R Hi h):=by
 refine AR _ ?_;unfold BS;have A:=a.1;have j:gv.gr.nodes.length=gv.l:=by rw[←A];simp[Gv.gr]
 have E:gv.l≤12:=by have:=(bR rt.first).2.1;omega
 have S:=(((aJ.start h no).read (blk 0 (az bo)) I).read (row gv.p (aF gv.ns)) J).read (aU gv.ns) K;refine aA (cs:=gv.cells) S fun b1 z _ S=> ?_;dsimp only[Xj,Xi] at S;refine aN S 0 rfl (x:=gv.t) rfl ?_;refine(II a (S.row 1 rfl) (S.r 2 _ rfl) B (S.r 0 _ rfl)).mono ?_;rintro _ L ⟨r,rfl,u,y,w⟩;rw[rt.look,j] at y;replace S:=S.add w fun _ _ h=>h;dsimp only[Xi,Xj] at S;have q:r.l=gv.l+1:=by rw[←u.1,y];simp
 refine⟨_,_,_,rfl,?_⟩;refine aA S fun C z _ S=> ?_;dsimp only[Xj,Xi] at S;refine aE S 2 rfl (jb rfl) fun H _ S=> ?_;dsimp only[List.set] at S;refine aN S 0 rfl (x:=gv.t) rfl ?_;refine(Of a (S.row 1 rfl) (S.r 2 _ rfl) B (S.r 0 _ rfl) rt rc).mono ?_;rintro _ M ⟨F,D,rfl,w⟩;replace S:=S.add w fun _ _ h=>h;dsimp only[Xi,Xj] at S;refine⟨_,_,_,_,_,_,rfl,?_⟩;refine aA S fun b z _ S=> ?_;dsimp only[Xj,Xi] at S;refine aE S 5 rfl (jb rfl) fun N _ S=> ?_;dsimp only[List.set] at S;refine ak (p:=r.p) (l:=gv.l+1) (c:=r.c) (by rw[←q];exact S.cell 2 rfl rfl) ?_;refine dQ S (gv.l+1) rfl (zs:=[.int .i64 0]) rfl rfl (by decide) (by omega) (by omega) fun d O _ S=> ?_;dsimp only[Xj,Xi] at S;rw[ib,show List.replicate (gv.l+1) (Value.int .i64 0)=az (List.replicate (gv.l+1) 0) by simp[az]] at S;simp only[oe];refine aA S fun f z _ S=> ?_;dsimp only[Xj,Xi] at S;refine aE S 7 rfl (jb rfl) fun Q _ S=> ?_;dsimp only[List.set] at S;refine ak (S.cell 7 rfl rfl) ?_
 refine aP (fun m s g=> ∃i:Nat,s=(⟨b1,0,none⟩,⟨C,0,none⟩,⟨b,0,none⟩,⟨f,0,none⟩,((gv.l+1:Nat):Int),(i:Int),())∧i≤gv.l+1∧m=gv.l+1-i∧
  aJ h no g [blk b1 gv.cells,own 1 r.p r.l r.c (az r.xs),blk C [r.v],blk F (az ((List.range (gv.l+1)).map fun x:Nat=>Lo x)),blk D (az ((List.range (gv.l+1)).map fun x:Nat=>Hi x)),blk b [.slice (some ⟨D,0,none⟩) (gv.l+1) (gv.l+1)],
   blk d (az (List.replicate i 1++List.replicate (gv.l+1-i) 0)),blk f [.slice (some ⟨d,0,none⟩) (gv.l+1) (gv.l+1)]] (R3 gv)) (gv.l+1) ⟨0,rfl,by omega,rfl,S⟩ ?_
 clear S;rintro m s g ⟨i,rfl,hi,rfl,S⟩;dsimp only;by_cases o:i<gv.l+1
 ·unfold kh;refine cI (decide_eq_true (by omega)) ?_;refine ak (S.cell 7 rfl rfl) (aB rfl (k:=i) rfl o ?_);simp only[aQ,SI,oe,US];refine aE S 6 rfl (by rw[av,Rb,UZ,UZ];omega) fun H _ S=> ?_;dsimp only[List.set] at S;rw[bA,tL (UZ ..) o] at S;rw[al (n:=(i:Int)+1) (by omega)];have e:(List.replicate i (1:Int))++[1]=List.replicate (i+1) 1:=by rw[List.replicate_succ']
  rw[e] at S;exact⟨gv.l+1-(i+1),by omega,i+1,rfl,by omega,rfl,S⟩
 ·have:i=gv.l+1:=by omega
  subst this;rw[VJ,Wt,Vh] at S;have G:List.replicate (gv.l+1) (1:Int)=gK gv.gr.nodes R Hi 0:=by unfold gK;rw[j];rfl
  rw[G] at S;exact HD a B rt rc u y (S.pw [0,1,2,4,5,6,7])
theorem Qh {nv:Nv} (b:nv.ok) (y:nv.rows.P h) (q:KT h) (hi:nv.inn.l<2 ^ 20) (H:nv.weights.l<2 ^ 40) (G:nv.bias.l<2 ^ 40) {w:Int} (s:gY nv.kind→nv.nd.chk [w]=0):au P pd #[nv.v,.int .i64 w] h fun v m=>v= .int .i64 (nv.nd.cost:Int)∧cp no h m:=by
 refine AU _ _ ?_;unfold BT;have S:=((aJ.start h no).read (blk 0 (az bo)) q).read nv.rows y;refine aA (cs:=nv.cells) S fun b1 i _ S=> ?_;dsimp only[Xi,Xj] at S;have k:(nv.nd.cost:Int)=if gY nv.kind then(nv.weights.l:Int) else 0:=by
  unfold Nd.cost;show((if gY nv.kind then nv.weights.xs.length else 0:Nat):Int)=_;rw[b.2.1.1];split<;>rfl
 rw[k];have a:gY nv.kind→aT A1 i ⟨b1,0,none⟩ fun B=>aR i (.cells #[(.int .i64 w)] 3 (0,0)) fun b5 o=>aC P .i64 fZ #[(bB A1 B),(.slice (some ⟨b5,0,none⟩) 1 1)] o fun A d=>
  aG (A==(0:Int)) (aq d ⟨b1,8,none⟩ fun I z C=>Value.int .i64 ((z:Nat):Int)= .int .i64 (if gY nv.kind then(nv.weights.l:Int) else 0)∧cp no h d) (Value.int .i64 0= .int .i64 (if gY nv.kind then(nv.weights.l:Int) else 0)∧cp no h d):=by
  intro j;refine aN S 0 rfl (x:=nv.t) rfl ?_;refine aA (cs:=az [w]) S fun b5 D _ S=> ?_;dsimp only[Xi,Xj] at S;refine(ER b (S.r 1 _ rfl) (by omega) (by omega) (by omega) (S.r 0 _ rfl) (bI.of_at (S.at 1 rfl)) (l:=1) rfl (by decide)).mono ?_;rintro _ E ⟨rfl,F⟩;replace S:=S.fra0 F;refine⟨_,rfl,aH (fun _=> ?_) (fun u=>absurd (s j) u)⟩;refine ak (p:=nv.weights.p) (l:=nv.weights.l) (c:=nv.weights.c) (S.cell 0 rfl rfl) ⟨by rw[if_pos j],S.fra⟩
 refine ae (n:=nv.kind) (S.cell 0 rfl rfl) (aH (fun e=>a (.inl e)) (fun e=>aH (fun f=>a (.inr (.inl f))) (fun f=>aH (fun g=>a (.inr (.inr g))) (fun g=> ?_))));exact⟨by rw[if_neg (by rintro(h|h|h);exact e h;exact f h;exact g h)],S.fra⟩
theorem Qi (b:gv.ok) (hn:bI h gv.p (aF gv.ns)) (hr:(aU gv.ns).P h) (O:gv.sizes) (hT:KT h) (rt:bM gv.gr W R pos):au P q7 #[gv.v] h fun v h'=>v= .int .i64 gv.gr.macs∧cp no h h':=by
 refine CQ _ ?_;unfold Ey;have L:=b.1;have s:gv.gr.nodes.length=gv.l:=by rw[←L];simp[Gv.gr]
 have S:=(((aJ.start h no).read (blk 0 (az bo)) hT).read (row gv.p (aF gv.ns)) hn).read (aU gv.ns) hr;refine aA (cs:=gv.cells) S fun b1 Y _ S=> ?_;dsimp only[Xj,Xi] at S;refine aN S 0 rfl (x:=gv.t) rfl ?_;refine(Ai b (S.row 1 rfl) (S.r 2 _ rfl) O (S.r 0 _ rfl)).mono ?_;rintro _ g2 ⟨w,rfl,u,E,B⟩;rw[rt.look,s] at E;replace S:=S.add B fun _ _ h=>h;dsimp only[Xi,Xj] at S;have aa:w.l=gv.l+1:=by rw[←u.1,E];simp
 refine⟨_,_,_,rfl,?_⟩;refine aA S fun b6 Y _ S=> ?_;dsimp only[Xj,Xi] at S;refine aE S 2 rfl (jb rfl) fun X _ S=> ?_;dsimp only[List.set] at S;refine aA S fun b9 Y _ S=> ?_;dsimp only[Xj,Xi] at S;refine aE S 3 rfl (jb rfl) fun I _ S=> ?_;dsimp only[List.set] at S;refine aN S 0 rfl (x:=gv.t) rfl ?_;refine(Kn gv).mono ?_;rintro _ g5 ⟨bg,rfl,B⟩;replace S:=S.add B fun _ _ h=>h;dsimp only[Xi,Xj] at S;refine⟨_,rfl,?_⟩;refine xD (fun k=>[blk b1 gv.cells,own 1 w.p w.l w.c (az w.xs),blk b6 [w.v],blk b9 [.int .i64 (Gc gv.gr.nodes k)]]) b O rt (S.pw [4,0,1,2,3]) (fun k i a D l ai d o g Rr M C en S H=> ?_) (fun D l ad o g S=> ?_)
 ·have A:=RP b O rt M C en;obtain⟨z,G,ag,J⟩:=A.fst;have ilen:=A.ilen;have i1:=A.i1;dsimp only[Xi,Xj] at S H;have j:Gc gv.gr.nodes (k+1)=IntKind.wrap .i64 (Gc gv.gr.nodes k+(a.nd.cost:Int)):=by
   unfold Gc;have N:=(Pt.1 C).1;rw[py N,Vk,(Pt.1 C).2,←Py A.at_];rfl
  rw[j] at H;refine aA S fun ab g2 _ S=> ?_;dsimp only[Xi,Xj] at S;refine cA S 8 rfl rfl (bu rfl) fun X _ S=> ?_;dsimp only[List.set] at S;refine⟨S.w 6 _ rfl,?_⟩;replace S:=ij S 6 d rfl;dsimp only[List.set] at S;generalize Array.setIfInBounds X l d=I at S;refine aN S 8 rfl (x:=a.t) rfl (ae (S.cell 4 rfl rfl) ?_);refine ak (p:=w.p) (l:=w.l) (c:=w.c) (S.cell 3 rfl rfl) (ak (p:=a.inn.p) (l:=a.inn.l) (c:=a.inn.c) (S.cell 8 rfl rfl) ?_);have nr:a.rows.P I:=S.r 2 _ rfl a.rows A.rows;have U:bI I a.inn.p (az a.inn.xs):=nr a.inn.row (by simp);obtain⟨ia,m⟩:=U.some_of (by rw[av];omega);rw[m] at U;refine aB m (k:=0) rfl (by omega) (ae (U.cell (aI G)) ?_);have wr:=(S.own 2 rfl).row;obtain⟨wa,q⟩:=wr.some_of (by rw[av,u.1];omega);rw[q] at wr;refine aB q (k:=z) rfl (by omega) ?_;simp only[oe,US];refine ae (n:=W (z:Int)) (wr.cell (aI (by rw[E,UW,Vj (by omega)];rfl))) ?_;have K:gY a.kind→a.nd.chk [W (z:Int)]=0:=fun Q=>by
   have f:a.nd.inn.length=1:=by
    have:=(dc A.chk).2.2.2.2.2.2.1 (by
     have M:a.nd.kind=a.kind:=rfl;rw[M];rintro(h|h)<;>rcases Q with Z|Z|Z<;>omega)
    rw[UT] at this;exact this
   obtain⟨y,hy⟩:=WH.1 f;have V:=J W;have hc:=A.chk;rw[hy] at V hc;have e3:W y=W (z:Int):=V;rw[←e3];exact hc
  refine(Qh A.ok nr (S.r 0 _ rfl) A.sz.1 A.sz.2.1 A.sz.2.2 K).mono ?_;rintro _ g5 ⟨rfl,F⟩;replace S:=S.fra0 F;refine⟨_,rfl,aX (S.cell 3 rfl rfl) (aX (S.cell 4 rfl rfl) ?_)⟩;refine aE S 4 rfl (jb rfl) fun g6 _ S=> ?_;dsimp only[List.set] at S;exact H _ (S.pw [0,1,2,3,4,5,6,7])
 ·dsimp only[Xi,Xj] at S;refine ae (S.cell 4 rfl rfl) ⟨S.w 5 _ rfl,?_⟩;replace S:=ij S 5 (.deferred none) rfl;have e:gv.gr.macs=Gc gv.gr.nodes gv.l:=by unfold Gr.macs;rw[s]
  rw[e];exact⟨rfl,S.fra⟩
end
end
end Go.Proofs.YtdhpmegbmjoekaaGreatDoor.G

