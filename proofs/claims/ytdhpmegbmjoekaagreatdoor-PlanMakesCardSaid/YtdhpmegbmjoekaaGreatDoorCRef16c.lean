/- CRef16 CRef16b CRef16c, in one text. -/
import Derived.Test.YtdhpmegbmjoekaaGreatDoorCGraph5
set_option linter.unusedVariables false
set_option linter.unusedSimpArgs false
namespace Go.Proofs.YtdhpmegbmjoekaaGreatDoor.G
open Go Go.Sh
open Go.IntKind renaming wrap→kn
section
section
variable {h:ah}
theorem JA{p:Option Addr}{l c:Nat}{xs:List Int}(f:bD h p (az xs))(t:xs.length=l)(n:l<2 ^ 62)(v:Int):
 au P nW #[.slice p l c,.int .i64 v] h fun r j=>r= .bool (decide (v∈xs))∧j=h:=by
 refine Cr _ _ _ _ ?_;unfold Ft;refine aO (fun m s g=>g=h∧ ∃i:Nat,s=((p,l,c),v,(i:Int),())∧i≤l∧m=l-i∧v∉xs.take i) l ⟨rfl,0,rfl,by omega,rfl,by simp⟩ ?_;rintro m s g ⟨rfl,i,rfl,hi,rfl,a⟩;unfold xD;dsimp only;refine aq (fun o=> ?_) (fun k=> ?_)
 ·have b:i<xs.length:=by omega
  obtain⟨q,rfl⟩:=f.some_of (by rw[av];omega);refine aC rfl rfl (by omega) ?_;simp only[hC,VO];refine ae (f.cell (aF (bo b))) ?_;refine aH (fun e=>⟨by rw[decide_eq_true (by rw[←e];exact VN b)],by trivial⟩) (fun e=> ?_);rw[al (by omega)];refine⟨l-(i+1),by omega,by trivial,i+1,rfl,by omega,rfl,fun d=> ?_⟩;rw[gD b]at d;rcases VW.1 d with d|d
  ·exact a d
  ·simp only[VK]at d;exact e d.symm
 ·rw[py (by omega)]at a;exact⟨by rw[decide_eq_false a],rfl⟩
theorem LI{gv:Gv}(I:gv.ok)(hn:bD h gv.p (aD gv.ns))(hr:(aM gv.ns).P h)(hl:gv.l<2 ^ 56)(hs: ∀n∈gv.ns,n.inn.l<2 ^ 62):au P oR #[gv.v] h fun v h'=>v= .int .i64 gv.gr.first∧cd no h h':=by
 refine yW _ ?_;unfold As;have O:=I.1;have t:gv.gr.nodes.length=gv.l:=by rw[←O];simp[Gv.gr]
 have S:=((aG.start h no).read (row gv.p (aD gv.ns)) hn).read (aM gv.ns) hr;refine aA (cs:=gv.cells) S fun o h1 _ S=> ?_;dsimp only[Yh,Yg]at S;refine ak (p:=gv.p) (l:=gv.l) (c:=gv.c) (S.c 0) ?_;have E:(gv.gr.nodes.length<1∨12<gv.gr.nodes.length)→ ∀g,aG h no g [aJ o gv.cells] [row gv.p (aD gv.ns),aM gv.ns]→Value.int .i64 22= .int .i64 gv.gr.first∧cd no h g:=fun Q g S=>⟨by unfold Gr.first;rw[if_pos Q],S.fra⟩;refine⟨fun s g=>s=(⟨o,0,none⟩,(gv.l:Int),())∧ ¬(gv.gr.nodes.length<1∨12<gv.gr.nodes.length)∧aG h no g [aJ o gv.cells] [row gv.p (aD gv.ns),aM gv.ns],?_,aq (fun h1=>E (by omega) _ S) fun h1=>aq (fun h2=>E (by omega) _ S) fun h2=>⟨rfl,by omega,S⟩⟩;clear S E;rintro s g ⟨rfl,T,S⟩;unfold tr;simp only[aR,SN];have D:(gv.width<1∨16<gv.width∨gv.low>gv.high∨gv.low< -32768∨gv.high>32767∨gv.out<1∨gv.out>(gv.gr.nodes.length:Int))→ ∀g,aG h no g [aJ o gv.cells] [row gv.p (aD gv.ns),aM gv.ns]→Value.int .i64 1= .int .i64 gv.gr.first∧cd no h g:=
  fun Q g S=>⟨by unfold Gr.first;rw[if_neg T];exact congrArg _ (if_pos Q).symm,S.fra⟩
 refine⟨fun s g=>s=(⟨o,0,none⟩,(gv.l:Int),())∧ ¬(gv.width<1∨16<gv.width∨gv.low>gv.high∨gv.low< -32768∨gv.high>32767∨gv.out<1∨gv.out>(gv.gr.nodes.length:Int))∧aG h no g [aJ o gv.cells] [row gv.p (aD gv.ns),aM gv.ns],?_,?_⟩
 ·rintro s g ⟨rfl,n2,S⟩;unfold tq;dsimp only;have M: ∀g,aG h no g [aJ o gv.cells] [row gv.p (aD gv.ns),aM gv.ns]→(∀n∈gv.ns,bv 0 (gv.l:Int) n.inn.xs)→Value.int .i64 0= .int .i64 gv.gr.first∧cd no h g:=fun g S d=>⟨by
   have: ∀n∈gv.gr.nodes,bv 0 (gv.gr.nodes.length:Int) n.inn:=fun n e=>by
    obtain⟨m,R,rfl⟩:=VZ.1 e;rw[t];exact d m R
   unfold Gr.first;rw[if_neg T];exact congrArg _ (((if_neg n2).trans (if_pos this)).symm),S.fra⟩
  have F: ∀g,aG h no g [aJ o gv.cells] [row gv.p (aD gv.ns),aM gv.ns]→(∃n∈gv.ns,¬bv 0 (gv.l:Int) n.inn.xs)→Value.int .i64 1= .int .i64 gv.gr.first∧cd no h g:=fun g S ⟨m,R,hb⟩=>⟨by
   have: ¬ ∀n∈gv.gr.nodes,bv 0 (gv.gr.nodes.length:Int) n.inn:=fun d=>by
    have:=d m.nd (V1 R);rw[t]at this;exact hb this
   unfold Gr.first;rw[if_neg T];exact congrArg _ (((if_neg n2).trans (if_neg this)).symm),S.fra⟩
  refine aO (fun m s g=> ∃i:Nat,s=(⟨o,0,none⟩,(gv.l:Int),(i:Int),())∧i≤gv.l∧m=gv.l-i∧(∀n∈gv.ns.take i,bv 0 (gv.l:Int) n.inn.xs)∧aG h no g [aJ o gv.cells] [row gv.p (aD gv.ns),aM gv.ns]) gv.l ⟨0,rfl,by omega,rfl,by simp,S⟩ ?_;clear S;rintro m s g ⟨i,rfl,hi,rfl,d,S⟩;unfold tp;dsimp only;refine aq (fun ai=> ?_) (fun ag=> ?_)
  ·have z:i<gv.ns.length:=by omega
   obtain⟨b,K⟩: ∃n,gv.ns[i]? =some n:=⟨_,bo z⟩;have L:gv.ns[i]=b:=by rw[bo z]at K;exact Option.some.inj K
   have f:=VL K;have U:=I.2.2 b f;have ilen:b.inn.xs.length=b.inn.l:=U.1.1;have aj:=hs b f;refine aO (fun m s g=> ∃j:Nat,s=(⟨o,0,none⟩,(gv.l:Int),(i:Int),(j:Int),())∧j≤b.inn.l∧m=b.inn.l-j∧bv 0 (gv.l:Int) (b.inn.xs.take j)∧aG h no g [aJ o gv.cells] [row gv.p (aD gv.ns),aM gv.ns]) b.inn.l ⟨0,rfl,by omega,rfl,by rw[WK];exact cK _ _,S⟩ ?_;clear S;rintro m s g ⟨j,rfl,hj,rfl,q,S⟩;unfold r5;simp only[aR,SN];have C:aB g ⟨o,3,none⟩=some (.slice gv.p gv.l gv.c):=S.c 0;obtain⟨a,ea⟩:=(S.row 0 rfl).some_of (by rw[bE];omega);have J:bD g (some a) (aD gv.ns):=by rw[←ea];exact S.row 0 rfl
   have k:aB g ((a.add (i*15)).add 1)=some b.inn.v:=by
    have:=J.cell (i:=i*15+1) (v:=b.inn.v) (by rw[iu K (by decide)];rfl);rw[mh _ _ (by decide)];exact this
   refine ak (p:=gv.p) (l:=gv.l) (c:=gv.c) C (aC ea rfl (by omega) ?_);simp only[hC];refine ak (p:=b.inn.p) (l:=b.inn.l) (c:=b.inn.c) k ?_;refine aq (fun ad=> ?_) (fun ab=> ?_)
   ·have u:j<b.inn.xs.length:=by omega
    refine ak (p:=gv.p) (l:=gv.l) (c:=gv.c) C (aC ea rfl (by omega) ?_);refine ak (p:=b.inn.p) (l:=b.inn.l) (c:=b.inn.c) k ?_;have w:bD g b.inn.p (az b.inn.xs):=S.r 1 _ rfl _ (V1 f) b.inn.row (by simp);obtain⟨aa,y⟩:=w.some_of (by rw[av];omega);have B:bD g (some aa) (az b.inn.xs):=by rw[←y];exact w
    refine aC y rfl (by omega) ?_;simp only[hC,VO];have lx:=B.cell (aF (bo u));refine ae lx (aq (fun H=>F g S ⟨b,f,fun N=> ?_⟩) (fun H=> ?_))
    ·have:=N _ (VN u);omega
    refine ak (p:=gv.p) (l:=gv.l) (c:=gv.c) C (aC ea rfl (by omega) ?_);refine ak (p:=b.inn.p) (l:=b.inn.l) (c:=b.inn.c) k (aC y rfl (by omega) ?_);refine ae lx (aq (fun G=>F g S ⟨b,f,fun N=> ?_⟩) (fun G=> ?_))
    ·have:=N _ (VN u);omega
    rw[al (by omega)];refine⟨b.inn.l-(j+1),by omega,j+1,rfl,by omega,rfl,fun x A=> ?_,S⟩;rw[gD u]at A;rcases VW.1 A with A|A
    ·exact q x A
    ·simp only[VK]at A;subst A;omega
   ·rw[al (by omega)];refine⟨gv.l-(i+1),by omega,i+1,rfl,by omega,rfl,fun n e=> ?_,S⟩;rw[gD z,L]at e;rcases VW.1 e with e|e
    ·exact d n e
    ·simp only[VK]at e;subst e;rw[py (by omega)]at q;exact q
  ·rw[py (by omega)]at d;exact M g S d
 ·refine ae (n:=gv.width) (S.c 0) (aq (fun V=>D (.inl V) _ S) fun V=> ?_);refine ae (n:=gv.width) (S.c 0) (aq (fun c2=>D (.inr (.inl (by omega))) _ S) fun c2=> ?_);refine ae (n:=gv.low) (S.c 0) (ae (n:=gv.high) (S.c 0) (aq (fun W=>D (.inr (.inr (.inl W))) _ S) fun W=> ?_));refine ae (n:=gv.low) (S.c 0) (aq (fun X=>D (.inr (.inr (.inr (.inl X)))) _ S) fun X=> ?_);refine ae (n:=gv.high) (S.c 0) (aq (fun Y=>D (.inr (.inr (.inr (.inr (.inl Y))))) _ S) fun Y=> ?_);refine ae (n:=gv.out) (S.c 0) (aq (fun Z=>D (.inr (.inr (.inr (.inr (.inr (.inl Z)))))) _ S) fun Z=> ?_);refine ae (n:=gv.out) (S.c 0) (aq (fun c7=>D (.inr (.inr (.inr (.inr (.inr (.inr (by rw[t];exact c7))))))) _ S) fun c7=>⟨rfl,?_,S⟩);rw[t];omega
theorem LJ{gv:Gv}(Z:gv.ok)(hn:bD h gv.p (aD gv.ns))(hr:(aM gv.ns).P h)(hl:gv.l≤2 ^ 20)(hs: ∀n∈gv.ns,n.inn.l<2 ^ 62):
 au P oS #[gv.v] h fun v h'=> ∃(q:Option Addr)(m d:Nat),v= .slice q m d∧m≤d∧(bK gv.gr.nodes).length=m∧aG h no h' [row q (az (bK gv.gr.nodes))] []:=by
 refine yX _ ?_;unfold Au;have ag:=Z.1;have S:=((aG.start h no).read (row gv.p (aD gv.ns)) hn).read (aM gv.ns) hr;refine aA (cs:=gv.cells) S fun T h1 _ S=> ?_;dsimp only[Yh,Yg]at S;refine aA (cs:=[.int .i64 0]) S fun b3 h2 _ S=> ?_;dsimp only[Yh,Yg]at S;obtain⟨f,H⟩: ∃f,gv.gr.nodes=f:=⟨_,rfl⟩;have B:gv.ns.map Nv.nd=f:=H;have a6:f.length=gv.l:=by rw[←B,Ug,ag]
 rw[H];replace S:=S.toOwn 1 1 1 1 rfl (VX _)
 refine aO (fun L s g=> ∃(k:Nat)(q:Option Addr)(m d:Nat),s=(⟨T,0,none⟩,(q,m,d),(k:Int),())∧k≤gv.l∧L=gv.l-k∧(bM f k).length=m∧
  aG h no g [aJ T gv.cells,own 1 q m d (az (bM f k))] [row gv.p (aD gv.ns),aM gv.ns]) gv.l ⟨0,_,1,1,rfl,by omega,rfl,rfl,S⟩ ?_
 clear S;rintro L s g ⟨k,q,m,d,rfl,hk,rfl,I,S⟩;have a5:m≤k+1:=by
  have:=lh f k;rw[XA]at this;omega
 unfold tw;simp only[aR,SN];refine ak (p:=gv.p) (l:=gv.l) (c:=gv.c) (S.c 0) ?_;have ek:kn .i64 ((k:Int)+1)=((k+1:Nat):Int):=by rw[al (by omega)];rfl
 refine aq (fun a3=> ?_) (fun a2=> ?_)
 ·refine aO (fun L s g=> ∃t:Nat,s=(⟨T,0,none⟩,(q,m,d),(k:Int),(t:Int)+1,())∧t≤gv.l∧L=gv.l-t∧jr (bM f k) (f.drop t) t=jr (bM f k) f 0∧
   aG h no g [aJ T gv.cells,own 1 q m d (az (bM f k))] [row gv.p (aD gv.ns),aM gv.ns]) gv.l ⟨0,rfl,by omega,rfl,by rw[Xb],S⟩ ?_
  clear S;rintro L s g ⟨t,rfl,ht,rfl,E,S⟩;unfold tu;simp only[aR,SN];refine ak (p:=gv.p) (l:=gv.l) (c:=gv.c) (S.c 0) ?_;refine aq (fun aw=> ?_) (fun ap=> ?_)
  ·have an:t<gv.ns.length:=by omega
   have Q:t<f.length:=by omega
   obtain⟨u,en⟩: ∃n,gv.ns[t]? =some n:=⟨_,bo an⟩;have D:=VL en;have ao:=Z.2.2 u D;have ilen:u.inn.xs.length=u.inn.l:=ao.1.1;have a7:=hs u D;have V:f[t]=u.nd:=by
    have:f[t]? =some u.nd:=by rw[←B,VP,en];rfl
    rw[bo Q]at this;exact Option.some.inj this
   refine(JA (S.own 1 rfl).row I (by omega) ((t:Int)+1)).mono ?_;rintro _ g1 ⟨rfl,hg⟩;subst g1;refine⟨_,rfl,?_⟩;refine ak (p:=gv.p) (l:=gv.l) (c:=gv.c) (S.c 0) ?_;have et:kn .i64 ((t:Int)+1-1)=(t:Int):=by rw[al (by omega)];omega
   rw[et];obtain⟨a,ea⟩:=(S.row 0 rfl).some_of (by rw[bE];omega);have J:bD g (some a) (aD gv.ns):=by rw[←ea];exact S.row 0 rfl
   have C:aB g ((a.add (t*15)).add 1)=some u.inn.v:=by
    have:=J.cell (i:=t*15+1) (v:=u.inn.v) (by rw[iu en (by decide)];rfl);rw[mh _ _ (by decide)];exact this
   refine aC ea rfl (by omega) ?_;simp only[hC];refine ak (p:=u.inn.p) (l:=u.inn.l) (c:=u.inn.c) C ?_
   refine aO (fun L s g=> ∃(j:Nat)(R:Bool),s=(⟨T,0,none⟩,(q,m,d),(k:Int),(t:Int)+1,R,(u.inn.p,u.inn.l,u.inn.c),(j:Int),())∧j≤u.inn.l∧L=u.inn.l-j∧(R=true↔((t:Int)+1)∉bM f k∧ ∀x∈u.inn.xs.take j,x∈bM f k)∧
    aG h no g [aJ T gv.cells,own 1 q m d (az (bM f k))] [row gv.p (aD gv.ns),aM gv.ns]) u.inn.l ⟨0,_,rfl,by omega,rfl,by simp,S⟩ ?_
   clear S J C;rintro L s g ⟨j,R,rfl,hj,rfl,z,S⟩;unfold r7;dsimp only;have ej:kn .i64 ((j:Int)+1)=((j+1:Nat):Int):=by rw[al (by omega)];rfl
   rw[ej];refine aq (fun ax=> ?_) (fun ar=> ?_)
   ·have Y:j<u.inn.xs.length:=by omega
    have ab:u.inn.xs.take (j+1)=u.inn.xs.take j++[u.inn.xs[j]]:=gD Y;refine cX (fun A=> ?_) (fun A=> ?_)
    ·have F:bD g u.inn.p (az u.inn.xs):=S.r 1 _ rfl _ (V1 D) u.inn.row (by simp);obtain⟨aa,U⟩:=F.some_of (by rw[av];omega);rw[U]at F;refine aC U rfl (by omega) ?_;simp only[hC,VO];refine ae (F.cell (aF (bo Y))) ?_;refine(JA (S.own 1 rfl).row I (by omega) u.inn.xs[j]).mono ?_;rintro _ _ ⟨rfl,rfl⟩;refine⟨_,rfl,u.inn.l-(j+1),by omega,j+1,_,rfl,by omega,rfl,?_,S⟩;rw[ab,decide_eq_true_iff];have:=z.1 A;constructor
     ·intro hx;refine⟨this.1,fun y K=> ?_⟩;rcases VW.1 K with K|K
      ·exact this.2 y K
      ·simp only[VK]at K;subst K;exact hx
     ·intro G;exact G.2 _ (WP _ (VK.2 rfl))
    ·refine⟨u.inn.l-(j+1),by omega,j+1,false,rfl,by omega,rfl,?_,S⟩;rw[ab];constructor
     ·intro h;cases h
     ·intro G;have:=z.2 ⟨G.1,fun y K=>G.2 y (Wt _ K)⟩;rw[A]at this;cases this
   ·rw[py (by omega)]at z;have X:f[t].inn=u.inn.xs:=by rw[V];rfl
    refine cX (fun A=> ?_) (fun A=> ?_)
    ·have hc:=z.1 A;have N:=D6 Q (by rw[X];exact hc);rw[N]at E;have w:bM f (k+1)=bM f k++[(t:Int)+1]:=by
      show j9 f (bM f k)=_;unfold j9;rw[←E]
     refine aA (cs:=[.int .i64 ((t:Int)+1)]) S fun ay a1 _ S=> ?_;dsimp only[Yg,Yh]at S;refine cI S 1 (ys:=az [(t:Int)+1]) rfl rfl (by decide) (by omega) (bD.of_at (S.at 2 rfl)) rfl dc fun p2 l2 c2 h9 ai S=> ?_;dsimp only[List.set]at S;rw[ek];refine⟨gv.l-(k+1),by omega,k+1,p2,l2,c2,rfl,by omega,rfl,by rw[w,Tz,I];exact ai.symm,?_⟩;have e:az (bM f k)++az [(t:Int)+1]=az (bM f (k+1)):=by rw[w];simp only[az,V2,Wc,WZ]
     rw[e]at S;exact S.pw [0,1]
    ·have aj: ¬(((t:Int)+1)∉bM f k∧ ∀j∈f[t].inn,j∈bM f k):=fun G=>by
      rw[X]at G;have:=z.2 G;rw[A]at this;cases this
     have ew:kn .i64 ((t:Int)+1+1)=((t+1:Nat):Int)+1:=by rw[al (by omega)];omega
     rw[ew];exact⟨gv.l-(t+1),by omega,t+1,rfl,by omega,rfl,by rw[D5 Q aj];exact E,S⟩
  ·have:t=f.length:=by omega
   subst this;rw[List.drop_length]at E;have O:jr (bM f k) f 0=none:=E.symm;have w:bM f (k+1)=bM f k:=by
    show j9 f (bM f k)=_;unfold j9;rw[O]
   rw[ek];refine⟨gv.l-(k+1),by omega,k+1,q,m,d,rfl,by omega,rfl,by rw[w];exact I,?_⟩;rw[w];exact S
 ·have:k=f.length:=by omega
  subst this;have M:=dr f f.length;have ad:1≤m:=by rw[←I,M];simp
  have o:=S.own 1 rfl;have a4:=o.2.1;refine iH (n:=1) rfl ad ?_;refine⟨_,_,_,rfl,by omega,by unfold bK;rw[XA,I],?_⟩;have S2:=S.turn 1 rfl (row (if d=1 then q else Option.map (fun a=>a.add (1*1)) q) (az (bK f))) (fun G=> ?_) (fun b A=> ?_)
  ·exact yy (S2.pw [1])
  ·have r:=m8.row G;have e:(az (bM f f.length)).drop 1=az (bK f):=by rw[NC];unfold bK;rw[List.drop_one]
   by_cases W:d=1
   ·rw[if_pos W];have:bK f=[]:=by
     have:(bK f).length=0:=by unfold bK;rw[XA,I];omega
     exact Wn.1 this
    show bD _ _ _;rw[this];exact bD.nil _ _
   ·rw[if_neg W];have:=r.drop' 1 (by rw[av,I];omega);rw[e]at this;exact this
  ·by_cases W:d=1
   ·rw[if_pos W]at A;exact A.2
   ·rw[if_neg W]at A;obtain⟨_,a,ha,A⟩:=A;obtain⟨a0,e0,rfl⟩:=WM.1 ha;exact⟨a0,e0,A⟩
theorem Oj{nv:Nv}{p:Option Addr}{l c:Nat}{rs:List Int}(y:bD h p (az rs))(T:rs.length=l)(G:1≤l)(J:l<2 ^ 56)(C:0≤rs.getD 0 0∧rs.getD 0 0≤2 ^ 30)(M:dp nv.kind→0≤nv.step∧nv.step≤2 ^ 20):
 au P qG #[nv.v,.slice p l c] h fun v E=>v= .int .i64 (cf nv.nd rs)∧cd no h E:=by
 refine Bk _ _ _ _ ?_;unfold Cs;have S:=(aG.start h no).read (row p (az rs)) y;refine aA (cs:=nv.cells) S fun z R _ S=> ?_;dsimp only[Yh,Yg]at S;have u:=S.ro 0;obtain⟨O,d⟩:=u.some_of (by rw[av];omega);rw[d]at u;refine aC d (k:=0) rfl (by omega) ?_;refine ae (n:=rs.getD 0 0) (u.cell (i:=0) (aF (by rw[bo (by omega),cA (by omega)]))) ?_;generalize D:rs.getD 0 0=r at C ⊢;have e:cf nv.nd rs=if ¬ ∀x∈rs,x=r then-1 else if r=0∧(iK nv.kind∨nv.kind=5) then-1 else if nv.kind=5 then 0 else r*dv nv.kind nv.step:=by
  unfold cf;rw[D];rfl
 refine aO (fun m s g=> ∃i:Nat,s=((p,l,c),⟨z,0,none⟩,r,(i:Int),())∧i≤l∧m=l-i∧(∀x∈rs.take i,x=r)∧aG h no g [aJ z nv.cells] [row p (az rs)]) l ⟨0,rfl,by omega,rfl,by simp,S⟩ ?_;clear S u;rintro m s g ⟨i,rfl,hi,rfl,b,S⟩;unfold vR;dsimp only;refine aq (fun K=> ?_) (fun I=> ?_)
 ·have o:i<rs.length:=by omega
  have u:=S.ro 0;rw[d]at u;refine aC d rfl (by omega) ?_;simp only[hC,VO];refine ae (u.cell (aF (bo o))) (bh (fun B=>⟨?_,S.fra⟩) (fun H=> ?_))
  ·rw[e,if_pos (fun w=>B (w _ (VN o)))]
  ·rw[al (by omega)];refine⟨l-(i+1),by omega,i+1,rfl,by omega,rfl,fun x a=> ?_,S⟩;rw[gD o]at a;rcases VW.1 a with a|a
   ·exact b x a
   ·simp only[VK]at a;subst a;exact H
 ·rw[py (by omega)]at b;have N: ¬ ¬ ∀x∈rs,x=r:=fun h=>h b;rw[if_neg N]at e;have q:0≤dv nv.kind nv.step∧dv nv.kind nv.step≤2 ^ 20:=by
   unfold dv;split
   ·rename_i h;exact M h
   ·decide
  have U:0≤r*dv nv.kind nv.step∧r*dv nv.kind nv.step≤2 ^ 50:=by
   refine⟨WA C.1 q.1,?_⟩;have:=Wo C.2 q.2 q.1 (by decide);omega
  have f: ¬(r=0∧(iK nv.kind∨nv.kind=5))→af .i64 g ⟨z,0,none⟩ fun n=>aI (n==(5:Int)) (Value.int .i64 0= .int .i64 (cf nv.nd rs)∧cd no h g) (aT cJ g ⟨z,0,none⟩ fun x=>aE P .i64 fU #[bA cJ x] g fun n A=>Value.int .i64 (kn .i64 (r*n))= .int .i64 (cf nv.nd rs)∧cd no h A):=fun L=>by
   rw[if_neg L]at e;refine ae (n:=nv.kind) (S.c 0) (aH (fun j=>⟨by rw[e,if_pos j],S.fra⟩) (fun j=> ?_));rw[if_neg j]at e;refine aL S 0 rfl (x:=nv.t) rfl ?_;refine(FU nv).mono ?_;rintro _ Q ⟨rfl,F⟩;refine⟨_,rfl,?_,S.fra.trans F⟩;rw[al (by omega),e]
  refine ae (n:=nv.kind) (S.c 0) ?_;refine(mi nv.kind).mono ?_;rintro _ _ ⟨rfl,rfl⟩;refine⟨_,rfl,?_⟩;refine aH (fun h0=> ?_) (fun h0=>f fun w=>h0 w.1);refine aq (fun y=>⟨by rw[e,if_pos ⟨h0,.inl y⟩],S.fra⟩) (fun y=> ?_);refine ae (n:=nv.kind) (S.c 0) (aH (fun j=>⟨by rw[e,if_pos ⟨h0,.inr j⟩],S.fra⟩) (fun j=> ?_));exact f fun w=>w.2.elim y j
end
end
section
def AR(k:Jo)(h:ah)(v:Value)(a:ah):Prop:=
 ∃o w r:Sl,v= .agg #[o.v,w.v,r.v,.int .i64 k.e]∧o.xs=k.order∧w.xs=k.widths∧r.xs=k.rates∧o.ok∧w.ok∧r.ok∧aG h no a [row o.p (az o.xs),row w.p (az w.xs),row r.p (az r.xs)] []
theorem HF{h0 h:ah}{T:Nat→Prop}{W:List bc}(S:aG h0 T h W [])(p:Option Addr):aG h0 T h (W++[row p []]) []:=by
 have:=S.add (W1:=[row p []]) (R1:=[]) (U:=no) (aG.one (cd.refl _ _) (bD.nil _ _) fun b a c=>absurd rfl a.1) fun b a d=>d;exact this
theorem AR.err{k:Jo}{h a:ah}{W R:List bc}(S:aG h no a W R){e:Int}(b:k=⟨e,[],[],[]⟩):AR k h (.agg #[.slice none 0 0,.slice none 0 0,.slice none 0 0,.int .i64 e]) a:=by
 subst b;refine⟨Sl.nil,Sl.nil,Sl.nil,rfl,rfl,rfl,rfl,⟨rfl,VX _⟩,⟨rfl,VX _⟩,⟨rfl,VX _⟩,?_⟩;exact HF (HF (HF (yy (S.pw [])) none) none) none
section
variable {h:ah}
theorem hD{b1 b3 B E C:Nat}{gv:Gv}{q:Option Addr}{m d:Nat}{g:ah}(ay:gv.ok)(A:gv.gr.first=0)(hs: ∀n∈gv.ns,n.inn.l<2 ^ 40∧n.weights.l<2 ^ 62∧n.bias.l<2 ^ 62)(ho:(bK gv.gr.nodes).length=gv.gr.nodes.length)(hm:(bK gv.gr.nodes).length=m)(bs:m≤d)
 (S:aG h no g [aJ b1 gv.cells,aJ b3 [.slice none 0 0,.slice none 0 0,.slice none 0 0,.int .i64 0],aJ B [.slice q m d,.slice (some ⟨E,0,none⟩) (gv.l+1) (gv.l+1),.slice (some ⟨C,0,none⟩) (gv.l+1) (gv.l+1),.int .i64 0],row q (az (bK gv.gr.nodes)),
  aJ E (az (gv.width::List.replicate gv.gr.nodes.length 0)),aJ C (az (1::List.replicate gv.gr.nodes.length 0))] [row gv.p (aD gv.ns),aM gv.ns]):
 bf (S:=(Addr×Addr×(Option Addr×Nat×Nat)×Addr×Int×Unit)) (fun K1 s h'=>dR (AR gv.gr.look h) K1 s.1 s.2.1 s.2.2.1.1 s.2.2.1.2.1 s.2.2.1.2.2 s.2.2.2.1 s.2.2.2.2.1 h') (⟨b1,0,none⟩,⟨b3,0,none⟩,(q,m,d),⟨B,0,none⟩,(0:Int),()) g:=by
 have bp:=ay.1;have ad:gv.gr.nodes.length=gv.l:=by rw[←bp];simp[Gv.gr]
 obtain⟨_,bg,_,_,_,U⟩:=bX A;obtain⟨o,G⟩: ∃o,gv.gr.nodes=o:=⟨_,rfl⟩;obtain⟨u,H⟩: ∃u,bK o=u:=⟨_,rfl⟩;have ai: ∀x∈u,1≤x∧x≤(o.length:Int):=fun x O=>ft o o.length x (by rw[←H]at O;exact O);rw[G]at S U bg ad ho hm;rw[H]at S ho hm;have z: ∀r,dk o u (gv.width::List.replicate o.length 0) (1::List.replicate o.length 0)=r→gv.gr.look=if r.1≠0 then⟨r.1,[],[],[]⟩ else⟨0,u,r.2.1,r.2.2⟩:=by
  intro r hr;unfold Gr.look;rw[if_neg (by rw[A];simp),G,H,if_neg (by rw[ho];simp)];have:gv.gr.width=gv.width:=rfl;rw[this,hr]
 have T: ∀{e:Int}{g:ah}{W R:List bc},aG h no g (aJ b1 gv.cells::aJ b3 [.slice none 0 0,.slice none 0 0,.slice none 0 0,.int .i64 0]::W) R→gv.gr.look=⟨e,[],[],[]⟩→
  aQ g ⟨b3,0,none⟩ (.slice none 0 0) fun bk=>aQ bk ⟨b3,1,none⟩ (.slice none 0 0) fun bm=>aQ bm ⟨b3,2,none⟩ (.slice none 0 0) fun bn=>aQ bn ⟨b3,3,none⟩ (.int .i64 e) fun J=>
   am J ⟨b3,0,none⟩ fun b7 bT a8=>am J ⟨b3,1,none⟩ fun b8 b0 a9=>am J ⟨b3,2,none⟩ fun b9 b2 ba=>af .i64 J ⟨b3,3,none⟩ fun b4=>
   AR gv.gr.look h (.agg #[(.slice b7 bT a8),(.slice b8 b0 a9),(.slice b9 b2 ba),(.int .i64 b4)]) J:=by
  intro e g W R S M;refine ck S 1 fun _ _ S=> ?_;dsimp only[List.set]at S;refine ck S 1 fun _ _ S=> ?_;dsimp only[List.set]at S;refine ck S 1 fun _ _ S=> ?_;dsimp only[List.set]at S;refine ck S 1 fun _ _ S=> ?_;dsimp only[List.set]at S;refine ak (p:=none) (l:=0) (c:=0) (S.c 1) (ak (p:=none) (l:=0) (c:=0) (S.c 1) (ak (p:=none) (l:=0) (c:=0) (S.c 1) (ae (n:=e) (S.c 1) ?_)));exact AR.err S M
 refine aO (fun mm s g=> ∃(i:Nat)(ws rs:List Int),s=(⟨b1,0,none⟩,⟨b3,0,none⟩,(q,m,d),⟨B,0,none⟩,(i:Int),())∧i≤m∧mm=m-i∧ws.length=gv.l+1∧rs.length=gv.l+1∧(∀x∈rs,0≤x∧x≤((4 ^ i:Nat):Int))∧
  dk o (u.drop i) ws rs=dk o u (gv.width::List.replicate o.length 0) (1::List.replicate o.length 0)∧
  aG h no g [aJ b1 gv.cells,aJ b3 [.slice none 0 0,.slice none 0 0,.slice none 0 0,.int .i64 0],aJ B [.slice q m d,.slice (some ⟨E,0,none⟩) (gv.l+1) (gv.l+1),.slice (some ⟨C,0,none⟩) (gv.l+1) (gv.l+1),.int .i64 0],row q (az u),
   aJ E (az ws),aJ C (az rs)] [row gv.p (aD gv.ns),aM gv.ns]) m
  ⟨0,_,_,rfl,by omega,rfl,by simp[ad],by simp[ad],?_,by rw[Xb],S⟩ ?_
 ·intro x O;simp only[V5,List.mem_replicate]at O;rcases O with rfl|⟨_,rfl⟩
  ·decide
  ·decide
 clear S;rintro mm s g ⟨i,ws,rs,rfl,hi,rfl,a3,a0,a1,v,S⟩;unfold dR;simp only[aR,SN];refine aq (fun d7=> ?_) (fun d2=> ?_)
 ·have ag:i<u.length:=by omega
  have ci:i<12:=by omega
  have rq:bD g q (az u):=S.w 3 _ rfl;obtain⟨qa,I⟩:=rq.some_of (by rw[av];omega);have hq: ∀{g:ah},bD g q (az u)→bD g (some qa) (az u):=fun r=>by rw[←I];exact r
  have d8:=ai _ (VN ag);obtain⟨k,ek⟩: ∃k:Nat,u[i]=((k+1:Nat):Int):=⟨(u[i]-1).toNat,by omega⟩;rw[V6 ag,ek]at v;have d6:k<o.length:=by omega
  have bq:k<gv.ns.length:=by omega
  obtain⟨nv,en⟩: ∃n,gv.ns[k]? =some n:=⟨_,bo bq⟩;have K:=VL en;have an:=ay.2.2 nv K;have N:=hs nv K;have Q:o[k]? =some nv.nd:=by rw[←G];simp[Gv.gr,en]
  have ax:nv.nd∈o:=VL Q;have ar:=U nv.nd ax;have D: ∀{g:ah},bD g q (az u)→aB g (qa.add i)=some (.int .i64 ((k+1:Nat):Int)):=fun r=>(hq r).cell (aF (by rw[bo ag,ek]));refine aC I rfl (by omega) ?_;simp only[hC,VO];refine ak (p:=gv.p) (l:=gv.l) (c:=gv.c) (S.c 0) ?_;refine ae (n:=((k+1:Nat):Int)) (D rq) ?_;have bd:kn .i64 (((k+1:Nat):Int)-1)=(k:Int):=by rw[al (by omega)];omega
  rw[bd];obtain⟨a,ea⟩:=(S.row 0 rfl).some_of (by rw[bE];omega);have V:bD g (some a) (aD gv.ns):=by rw[←ea];exact S.row 0 rfl
  refine aC ea rfl (by omega) ?_;simp only[hC];refine gi V en ?_;refine aA S fun ap g2 _ S=> ?_;dsimp only[Yg,Yh]at S;refine bP S 6 rfl rfl (aW rfl) fun g3 _ S=> ?_;dsimp only[List.set]at S;have L: ∀{g:ah}{W:List bc},aG h no g W [row gv.p (aD gv.ns),aM gv.ns]→nv.rows.P g:=fun S=>S.r 1 _ rfl _ (V1 K);have Y: ∀{g:ah}{W:List bc},aG h no g W [row gv.p (aD gv.ns),aM gv.ns]→bD g nv.inn.p (az nv.inn.xs):=fun S=>L S nv.inn.row (by simp);have ilen:nv.inn.xs.length=nv.inn.l:=an.1.1;have bH:(bQ ws nv.inn.xs).length=nv.inn.l:=by unfold bQ;rw[Ug,ilen]
  have cs:(bQ rs nv.inn.xs).length=nv.inn.l:=by unfold bQ;rw[Ug,ilen]
  have fw:nv.cells=nv.cells:=rfl;replace S:=(S.nil 1).nil 1;dsimp only[Yg,Yh]at S
  refine aO (fun mm s g=> ∃(j:Nat)(pw pr:Option Addr)(lw cw lr cr:Nat),s=(⟨b1,0,none⟩,⟨b3,0,none⟩,(q,m,d),⟨B,0,none⟩,(i:Int),⟨ap,0,none⟩,(pw,lw,cw),(pr,lr,cr),(j:Int),())∧j≤nv.inn.l∧mm=nv.inn.l-j∧lw=j∧lr=j∧
   aG h no g [aJ b1 gv.cells,aJ b3 [.slice none 0 0,.slice none 0 0,.slice none 0 0,.int .i64 0],aJ B [.slice q m d,.slice (some ⟨E,0,none⟩) (gv.l+1) (gv.l+1),.slice (some ⟨C,0,none⟩) (gv.l+1) (gv.l+1),.int .i64 0],row q (az u),
    aJ E (az ws),aJ C (az rs),aJ ap nv.cells,own 1 pw lw cw (az ((bQ ws nv.inn.xs).take j)),own 1 pr lr cr (az ((bQ rs nv.inn.xs).take j))] [row gv.p (aD gv.ns),aM gv.ns]) nv.inn.l
   ⟨0,none,none,0,0,0,0,rfl,by omega,rfl,rfl,rfl,S⟩ ?_
  clear S rq V;rintro mm s g ⟨j,pw,pr,lw,cw,lr,cr,rfl,hj,rfl,c0,cy,S⟩;unfold tx;simp only[aR,SN];refine ak (p:=nv.inn.p) (l:=nv.inn.l) (c:=nv.inn.c) (S.c 6) ?_;refine aq (fun co=> ?_) (fun ch=> ?_)
  ·have aw:j<nv.inn.xs.length:=by omega
   have a4:=ar _ (VN aw);have a4:0≤nv.inn.xs[j]∧nv.inn.xs[j]≤(o.length:Int):=a4;obtain⟨x,ex⟩: ∃x:Nat,nv.inn.xs[j]=(x:Int):=⟨nv.inn.xs[j].toNat,by omega⟩;obtain⟨aa,Z⟩:=(Y S).some_of (by rw[av];omega);have lx: ∀{g:ah}{W:List bc},aG h no g W [row gv.p (aD gv.ns),aM gv.ns]→aB g (aa.add j)=some (.int .i64 (x:Int)):=fun S=>by
    have:=Y S;rw[Z]at this;exact this.cell (aF (by rw[bo aw,ex]))
   have cb:(bQ ws nv.inn.xs).take (j+1)=(bQ ws nv.inn.xs).take j++[ws.getD x 0]:=by
    rw[gD (by omega)];congr 2;simp only[bQ,XJ,ex,hC]
   have ca:(bQ rs nv.inn.xs).take (j+1)=(bQ rs nv.inn.xs).take j++[rs.getD x 0]:=by
    rw[gD (by omega)];congr 2;simp only[bQ,XJ,ex,hC]
   refine ak (p:=some ⟨E,0,none⟩) (l:=gv.l+1) (c:=gv.l+1) (S.c 2) (ak (p:=nv.inn.p) (l:=nv.inn.l) (c:=nv.inn.c) (S.c 6) ?_);refine aC Z rfl (by omega) ?_;simp only[hC,VO];refine ae (lx S) (aC rfl rfl (by omega) ?_);simp only[hC,VO,aR,SN];refine ae (n:=ws.getD x 0) (S.cell 4 rfl (aF (by rw[bo (by omega),cA (by omega)]))) ?_;refine aA S fun ct dd _ S=> ?_;dsimp only[Yg,Yh]at S;refine cI S 7 (ys:=az [ws.getD x 0]) rfl rfl (by decide) (by omega) (bD.of_at (S.at 9 rfl)) rfl dc fun b5 bR a6 ds cj S=> ?_;dsimp only[List.set]at S;refine aX (S.c 2) ?_;refine ak (p:=some ⟨C,0,none⟩) (l:=gv.l+1) (c:=gv.l+1) (S.c 2) (ak (p:=nv.inn.p) (l:=nv.inn.l) (c:=nv.inn.c) (S.c 6) ?_);refine aC Z rfl (by omega) ?_
   try simp only[hC,VO]
   refine ae (lx S) (aC rfl rfl (by omega) ?_)
   try simp only[hC,VO,aR,SN]
   refine ae (n:=rs.getD x 0) (S.cell 5 rfl (aF (by rw[bo (by omega),cA (by omega)]))) ?_;refine aA S fun cx d0 _ S=> ?_;dsimp only[Yg,Yh]at S;refine cI S 8 (ys:=az [rs.getD x 0]) rfl rfl (by decide) (by omega) (bD.of_at (S.at 10 rfl)) rfl dc fun b6 bS a7 d1 cm S=> ?_;dsimp only[List.set]at S;refine aX (S.c 2) ?_;rw[al (n:=(j:Int)+1) (by omega)];refine⟨nv.inn.l-(j+1),by omega,j+1,b5,b6,bR,a6,bS,a7,rfl,by omega,rfl,by omega,by omega,?_⟩;rw[cb,ca];have e1: ∀(l:List Int)(y:Int),az (l++[y])=az l++az [y]:=fun l y=>by simp only[az,V2,Wc,WZ]
   rw[e1,e1];exact S.pw [0,1,2,3,4,5,6,7,8]
  ·rw[py (by omega),py (by omega)]at S;have d5:j=nv.inn.l:=by omega
   have ao: ∀{g:ah}{W R:List bc}{pp:Option Addr}{ll cc:Nat}{xs:List Value}(i:Nat),aG h no g W R→W[i]? =some (own 1 pp ll cc xs)→bD g pp xs:=fun i S e=>(S.own i e).row;refine aL S 6 rfl (x:=nv.t) rfl ?_;refine(xi an (L S) (by omega) N.2.1 N.2.2 (ao 7 S rfl) (by omega) (by omega)).mono ?_;rintro _ g4 ⟨rfl,F⟩;replace S:=S.fra0 F;refine⟨_,rfl,?_⟩
   have ab:dk o (((k+1:Nat):Int)::u.drop (i+1)) ws rs=if nv.nd.chk (bQ ws nv.inn.xs)≠0 then(nv.nd.chk (bQ ws nv.inn.xs),ws,rs) else if cf nv.nd (bQ rs nv.inn.xs)<0 then(15,ws,rs)
    else dk o (u.drop (i+1)) (ws.set (k+1) (nv.nd.wid (bQ ws nv.inn.xs))) (rs.set (k+1) (cf nv.nd (bQ rs nv.inn.xs))):=by
    conv=>lhs;unfold dk
    rw[show(((k+1:Nat):Int)).toNat=k+1 from rfl,Nat.add_sub_cancel,Q];rfl
   rw[ab]at v;refine bh (fun hc=> ?_) (fun hc=> ?_)
   ·rw[if_pos hc]at v;have M:=z _ v.symm;rw[if_pos hc]at M;exact T S M
   ·rw[if_neg (fun h=>h hc)]at v;obtain⟨c1,c2,c3,c4,c5,c6,c7,c8,c9,a5,_⟩:=fD hc;have d3:1≤nv.inn.l:=by have:(bQ ws nv.nd.inn).length=nv.inn.l:=bH;omega
    have bb:=(vg nv _).1 a5;have db:(4 ^ i:Nat)≤4 ^ 12:=WG (by decide) (by omega);have bL:=F9 (js:=nv.inn.xs) a1 (Int.natCast_nonneg _);have X:dp nv.kind→1≤nv.step∧nv.step≤4:=fun f=>(bb.2.1 f).1;refine aC I rfl (by omega) ?_
    try simp only[hC,VO]
    refine aL S 6 rfl (x:=nv.t) rfl ?_;refine ak (p:=some ⟨E,0,none⟩) (l:=gv.l+1) (c:=gv.l+1) (S.c 2) (ae (n:=((k+1:Nat):Int)) (D (S.w 3 _ rfl)) ?_);refine(DI an (L S) (by omega) N.2.1 N.2.2 (ao 7 S rfl) (by omega) (by omega)).mono ?_;rintro _ g5 ⟨rfl,F⟩;replace S:=S.fra0 F;refine⟨_,rfl,?_⟩;refine aX (D (S.w 3 _ rfl)) (aX (S.c 2) (aC rfl (k:=k+1) rfl (by omega) ?_));simp only[hC,VO,aR,SN];refine be S 4 rfl (by rw[av];omega) fun g6 _ S=> ?_;rw[bB]at S;dsimp only[List.set]at S;refine aC I rfl (by omega) ?_
    try simp only[hC,VO]
    refine aL S 6 rfl (x:=nv.t) rfl ?_;refine ak (p:=some ⟨C,0,none⟩) (l:=gv.l+1) (c:=gv.l+1) (S.c 2) (ae (n:=((k+1:Nat):Int)) (D (S.w 3 _ rfl)) ?_);refine(Oj (nv:=nv) (ao 8 S rfl) (by omega) (by omega) (by omega) (by omega) (fun f=>by have:=X f;omega)).mono ?_;rintro _ g7 ⟨rfl,F⟩;replace S:=S.fra0 F;refine⟨_,rfl,?_⟩;refine aX (D (S.w 3 _ rfl)) (aX (S.c 2) (aC rfl (k:=k+1) rfl (by omega) ?_));simp only[hC,VO,aR,SN];refine be S 5 rfl (by rw[av];omega) fun g8 _ S=> ?_;rw[bB]at S;dsimp only[List.set]at S;refine aC I rfl (by omega) ?_
    try simp only[hC,VO]
    refine ak (p:=some ⟨C,0,none⟩) (l:=gv.l+1) (c:=gv.l+1) (S.c 2) (ae (n:=((k+1:Nat):Int)) (D (S.w 3 _ rfl)) (aC rfl (k:=k+1) rfl (by omega) ?_));simp only[hC,VO,aR,SN];refine ae (n:=cf nv.nd (bQ rs nv.inn.xs)) (S.cell 5 rfl (aF (by rw[V4 (by omega)]))) ?_;refine aq (fun aj=> ?_) (fun aj=> ?_)
    ·rw[if_pos aj]at v;have M:=z _ v.symm;rw[if_pos (by show(15:Int)≠0;decide)]at M;exact T S M
    ·rw[if_neg aj]at v;rw[al (by omega)];refine⟨m-(i+1),by omega,i+1,_,_,rfl,by omega,rfl,by rw[VU];exact a3,by rw[VU];exact a0,fun x O=> ?_,v,S.pw [0,1,2,3,4,5]⟩;have e4:((4 ^ (i+1):Nat):Int)=4*((4 ^ i:Nat):Int):=by rw[Nat.pow_succ];omega
     rcases Xe O with O|rfl
     ·have:=a1 x O;omega
     ·refine⟨by omega,?_⟩;unfold cf;split
      ·omega
      split
      ·omega
      split
      ·omega
      ·have a2:0≤dv nv.nd.kind nv.nd.step∧dv nv.nd.kind nv.nd.step≤4:=by
        unfold dv;split
        ·rename_i h;have:=X h;exact⟨by show 0≤nv.step;omega,by show nv.step≤4;omega⟩
        ·decide
       have:=Wo bL.2 a2.2 a2.1 (by omega);omega
 ·have d4:i=m:=by omega
  rw[Wj (by omega)]at v;have M:=z _ v.symm;simp only[dk,ne_eq,not_true_eq_false,if_false]at M;refine ak (p:=q) (l:=m) (c:=d) (S.c 2) (ak (p:=some ⟨E,0,none⟩) (l:=gv.l+1) (c:=gv.l+1) (S.c 2) (ak (p:=some ⟨C,0,none⟩) (l:=gv.l+1) (c:=gv.l+1) (S.c 2) (ae (n:=0) (S.c 2) ?_)));refine ck S 1 fun _ _ S=> ?_;dsimp only[List.set]at S;refine ck S 1 fun _ _ S=> ?_;dsimp only[List.set]at S;refine ck S 1 fun _ _ S=> ?_;dsimp only[List.set]at S;refine ck S 1 fun _ _ S=> ?_;dsimp only[List.set]at S;refine ak (p:=q) (l:=m) (c:=d) (S.c 1) (ak (p:=some ⟨E,0,none⟩) (l:=gv.l+1) (c:=gv.l+1) (S.c 1) (ak (p:=some ⟨C,0,none⟩) (l:=gv.l+1) (c:=gv.l+1) (S.c 1) (ae (n:=0) (S.c 1) ?_)));rw[M];have S2:=S.turn 4 rfl (row (some ⟨E,0,none⟩) (az ws)) (fun hh=>bD.of_at hh) (fun b hb=>by obtain⟨_,a,ha,hb⟩:=hb;cases ha;exact hb.symm);dsimp only[List.set]at S2;have S3:=S2.turn 5 rfl (row (some ⟨C,0,none⟩) (az rs)) (fun hh=>bD.of_at hh) (fun b hb=>by obtain⟨_,a,ha,hb⟩:=hb;cases ha;exact hb.symm);dsimp only[List.set]at S3;exact⟨⟨q,m,d,u⟩,⟨some ⟨E,0,none⟩,gv.l+1,gv.l+1,ws⟩,⟨some ⟨C,0,none⟩,gv.l+1,gv.l+1,rs⟩,rfl,rfl,rfl,rfl,⟨hm,bs⟩,⟨a3,VX _⟩,⟨a0,VX _⟩,yy (S3.pw [3,4,5])⟩
end
end
section
section
variable {h:ah}
theorem qi{gv:Gv}(f:gv.ok)(C:bD h gv.p (aD gv.ns))(hr:(aM gv.ns).P h)(hl:gv.l<2 ^ 20)(z: ∀n∈gv.ns,n.inn.l<2 ^ 40∧n.weights.l<2 ^ 62∧n.bias.l<2 ^ 62):
 au P iT #[gv.v] h (AR gv.gr.look h):=by
 refine Bl _ ?_;unfold Ct;have L:=f.1;have M:gv.gr.nodes.length=gv.l:=by rw[←L];simp[Gv.gr]
 have S:=((aG.start h no).read (row gv.p (aD gv.ns)) C).read (aM gv.ns) hr;refine aA (cs:=gv.cells) S fun b1 h1 _ S=> ?_;dsimp only[Yh,Yg]at S;refine aA (cs:=[.slice none 0 0,.slice none 0 0,.slice none 0 0,.int .i64 0]) S fun u h2 _ S=> ?_;dsimp only[Yh,Yg]at S;refine aL S 0 rfl (x:=gv.t) rfl ?_;refine(LI f (S.ro 0) (S.rd 1) (by omega) (fun n C=>by have:=(z n C).1;omega)).mono ?_;rintro _ h3 ⟨rfl,F⟩;replace S:=S.fra0 F;refine⟨_,rfl,?_⟩
 have w: ∀{e:Int}{g:ah}{W R:List bc},aG h no g (aJ b1 gv.cells::aJ u [.slice none 0 0,.slice none 0 0,.slice none 0 0,.int .i64 0]::W) R→gv.gr.look=⟨e,[],[],[]⟩→
  aQ g ⟨u,0,none⟩ (.slice none 0 0) fun I=>aQ I ⟨u,1,none⟩ (.slice none 0 0) fun J=>aQ J ⟨u,2,none⟩ (.slice none 0 0) fun K=>aQ K ⟨u,3,none⟩ (.int .i64 e) fun j=>
   am j ⟨u,0,none⟩ fun V O E=>am j ⟨u,1,none⟩ fun X Q G=>am j ⟨u,2,none⟩ fun Y T H=>af .i64 j ⟨u,3,none⟩ fun U=>
   AR gv.gr.look h (.agg #[(.slice V O E),(.slice X Q G),(.slice Y T H),(.int .i64 U)]) j:=by
  intro e g W R S el;refine ck S 1 fun _ _ S=> ?_;dsimp only[List.set]at S;refine ck S 1 fun _ _ S=> ?_;dsimp only[List.set]at S;refine ck S 1 fun _ _ S=> ?_;dsimp only[List.set]at S;refine ck S 1 fun _ _ S=> ?_;dsimp only[List.set]at S;refine ak (p:=none) (l:=0) (c:=0) (S.c 1) (ak (p:=none) (l:=0) (c:=0) (S.c 1) (ak (p:=none) (l:=0) (c:=0) (S.c 1) (ae (n:=e) (S.c 1) ?_)));exact AR.err S el
 refine bh (fun s=>w S (by unfold Gr.look;rw[if_pos s])) (fun s=> ?_);have nf: ¬gv.gr.first≠0:=fun h=>h s;refine aL S 0 rfl (x:=gv.t) rfl ?_;refine(LJ f (S.ro 0) (S.rd 1) (by omega) (fun n C=>by have:=(z n C).1;omega)).mono ?_;rintro _ g3 ⟨q,m,d,rfl,i,A,Z⟩;replace S:=S.add Z fun _ _ h=>h;dsimp only[Yg,Yh]at S;refine⟨_,_,_,rfl,?_⟩;refine ak (p:=gv.p) (l:=gv.l) (c:=gv.c) (S.c 0) ?_;have y:=lh gv.gr.nodes gv.gr.nodes.length;have y:(bK gv.gr.nodes).length≤gv.gr.nodes.length:=y;refine aq (fun N=>w S (by unfold Gr.look;rw[if_neg nf,if_pos (by omega)])) (fun N=> ?_);have B:(bK gv.gr.nodes).length=gv.gr.nodes.length:=by omega
 refine ak (p:=gv.p) (l:=gv.l) (c:=gv.c) (S.c 0) (ak (p:=gv.p) (l:=gv.l) (c:=gv.c) (S.c 0) ?_);have ew:kn .i64 ((gv.l:Int)+1)=((gv.l+1:Nat):Int):=by rw[al (by omega)];omega
 rw[ew];simp only[hC];have b: ∀x:Int,(List.replicate (gv.l+1) (0:Int)).set 0 x=x::List.replicate gv.gr.nodes.length 0:=fun x=>by rw[M,Wp];rfl
 have a:(List.replicate (gv.l+1) [Value.int .i64 0]).flatten=az (List.replicate (gv.l+1) 0):=by rw[iG];simp[az]
 have aa:=(bX s).2.1;refine⟨?_,?_,?_⟩
 ·refine dM S (gv.l+1) rfl rfl rfl (by decide) (by omega) (by omega) fun r _ _ S=> ?_;rw[a]at S;dsimp only[Yg,Yh]at S;refine aX (S.c 0) (aX (S.c 0) ?_);refine⟨?_,?_⟩
  ·refine dM S (gv.l+1) rfl rfl rfl (by decide) (by omega) (by omega) fun o _ _ S=> ?_;rw[a]at S;dsimp only[Yg,Yh]at S;refine aX (S.c 0) (aX (S.c 0) ?_);refine aA (cs:=[.slice none 0 0,.slice none 0 0,.slice none 0 0,.int .i64 0]) S fun D _ _ S=> ?_;dsimp only[Yg,Yh]at S;refine ck S 5 fun _ _ S=> ?_;dsimp only[List.set]at S;refine ck S 5 fun _ _ S=> ?_;dsimp only[List.set]at S;refine ck S 5 fun _ _ S=> ?_;dsimp only[List.set]at S;refine ck S 5 fun _ _ S=> ?_;dsimp only[List.set]at S;refine ak (p:=some ⟨r,0,none⟩) (l:=gv.l+1) (c:=gv.l+1) (S.c 5) (ae (n:=gv.width) (S.c 0) (aC rfl (k:=0) rfl (by omega) ?_));simp only[WC,WH,aR,We];refine be S 3 rfl (by rw[av,VQ];omega) fun _ _ S=> ?_;rw[bB,b]at S;dsimp only[List.set]at S;refine ak (p:=some ⟨o,0,none⟩) (l:=gv.l+1) (c:=gv.l+1) (S.c 5) (aC rfl (k:=0) rfl (by omega) ?_);simp only[WC,WH,aR,We];refine be S 4 rfl (by rw[av,VQ];omega) fun _ _ S=> ?_;rw[bB,b]at S;dsimp only[List.set]at S;exact hD f s z B A i (S.pw [0,1,5,2,3,4])
  ·refine aA (cs:=[.slice none 0 0,.slice none 0 0,.slice none 0 0,.int .i64 0]) S fun D _ _ S=> ?_;dsimp only[Yg,Yh]at S;refine dM S (gv.l+1) rfl rfl rfl (by decide) (by omega) (by omega) fun o _ _ S=> ?_;rw[a]at S;dsimp only[Yg,Yh]at S;refine aX (S.c 0) (aX (S.c 0) ?_);refine ck S 4 fun _ _ S=> ?_;dsimp only[List.set]at S;refine ck S 4 fun _ _ S=> ?_;dsimp only[List.set]at S;refine ck S 4 fun _ _ S=> ?_;dsimp only[List.set]at S;refine ck S 4 fun _ _ S=> ?_;dsimp only[List.set]at S;refine ak (p:=some ⟨r,0,none⟩) (l:=gv.l+1) (c:=gv.l+1) (S.c 4) (ae (n:=gv.width) (S.c 0) (aC rfl (k:=0) rfl (by omega) ?_));simp only[WC,WH,aR,We];refine be S 3 rfl (by rw[av,VQ];omega) fun _ _ S=> ?_;rw[bB,b]at S;dsimp only[List.set]at S;refine ak (p:=some ⟨o,0,none⟩) (l:=gv.l+1) (c:=gv.l+1) (S.c 4) (aC rfl (k:=0) rfl (by omega) ?_);simp only[WC,WH,aR,We];refine be S 5 rfl (by rw[av,VQ];omega) fun _ _ S=> ?_;rw[bB,b]at S;dsimp only[List.set]at S;exact hD f s z B A i (S.pw [0,1,4,2,3,5])
 ·refine dM S (gv.l+1) rfl rfl rfl (by decide) (by omega) (by omega) fun o _ _ S=> ?_;rw[a]at S;dsimp only[Yg,Yh]at S;refine aX (S.c 0) (aX (S.c 0) ?_);refine⟨?_,?_⟩
  ·refine dM S (gv.l+1) rfl rfl rfl (by decide) (by omega) (by omega) fun r _ _ S=> ?_;rw[a]at S;dsimp only[Yg,Yh]at S;refine aX (S.c 0) (aX (S.c 0) ?_);refine aA (cs:=[.slice none 0 0,.slice none 0 0,.slice none 0 0,.int .i64 0]) S fun D _ _ S=> ?_;dsimp only[Yg,Yh]at S;refine ck S 5 fun _ _ S=> ?_;dsimp only[List.set]at S;refine ck S 5 fun _ _ S=> ?_;dsimp only[List.set]at S;refine ck S 5 fun _ _ S=> ?_;dsimp only[List.set]at S;refine ck S 5 fun _ _ S=> ?_;dsimp only[List.set]at S;refine ak (p:=some ⟨r,0,none⟩) (l:=gv.l+1) (c:=gv.l+1) (S.c 5) (ae (n:=gv.width) (S.c 0) (aC rfl (k:=0) rfl (by omega) ?_));simp only[WC,WH,aR,We];refine be S 4 rfl (by rw[av,VQ];omega) fun _ _ S=> ?_;rw[bB,b]at S;dsimp only[List.set]at S;refine ak (p:=some ⟨o,0,none⟩) (l:=gv.l+1) (c:=gv.l+1) (S.c 5) (aC rfl (k:=0) rfl (by omega) ?_);simp only[WC,WH,aR,We];refine be S 3 rfl (by rw[av,VQ];omega) fun _ _ S=> ?_;rw[bB,b]at S;dsimp only[List.set]at S;exact hD f s z B A i (S.pw [0,1,5,2,4,3])
  ·refine aA (cs:=[.slice none 0 0,.slice none 0 0,.slice none 0 0,.int .i64 0]) S fun D _ _ S=> ?_;dsimp only[Yg,Yh]at S;refine dM S (gv.l+1) rfl rfl rfl (by decide) (by omega) (by omega) fun r _ _ S=> ?_;rw[a]at S;dsimp only[Yg,Yh]at S;refine aX (S.c 0) (aX (S.c 0) ?_);refine ck S 4 fun _ _ S=> ?_;dsimp only[List.set]at S;refine ck S 4 fun _ _ S=> ?_;dsimp only[List.set]at S;refine ck S 4 fun _ _ S=> ?_;dsimp only[List.set]at S;refine ck S 4 fun _ _ S=> ?_;dsimp only[List.set]at S;refine ak (p:=some ⟨r,0,none⟩) (l:=gv.l+1) (c:=gv.l+1) (S.c 4) (ae (n:=gv.width) (S.c 0) (aC rfl (k:=0) rfl (by omega) ?_));simp only[WC,WH,aR,We];refine be S 5 rfl (by rw[av,VQ];omega) fun _ _ S=> ?_;rw[bB,b]at S;dsimp only[List.set]at S;refine ak (p:=some ⟨o,0,none⟩) (l:=gv.l+1) (c:=gv.l+1) (S.c 4) (aC rfl (k:=0) rfl (by omega) ?_);simp only[WC,WH,aR,We];refine be S 3 rfl (by rw[av,VQ];omega) fun _ _ S=> ?_;rw[bB,b]at S;dsimp only[List.set]at S;exact hD f s z B A i (S.pw [0,1,4,2,5,3])
 ·refine aA (cs:=[.slice none 0 0,.slice none 0 0,.slice none 0 0,.int .i64 0]) S fun D _ _ S=> ?_;dsimp only[Yg,Yh]at S;refine⟨?_,?_⟩
  ·refine dM S (gv.l+1) rfl rfl rfl (by decide) (by omega) (by omega) fun r _ _ S=> ?_;rw[a]at S;dsimp only[Yg,Yh]at S;refine aX (S.c 0) (aX (S.c 0) ?_);refine dM S (gv.l+1) rfl rfl rfl (by decide) (by omega) (by omega) fun o _ _ S=> ?_;rw[a]at S;dsimp only[Yg,Yh]at S;refine aX (S.c 0) (aX (S.c 0) ?_);refine ck S 3 fun _ _ S=> ?_;dsimp only[List.set]at S;refine ck S 3 fun _ _ S=> ?_;dsimp only[List.set]at S;refine ck S 3 fun _ _ S=> ?_;dsimp only[List.set]at S;refine ck S 3 fun _ _ S=> ?_;dsimp only[List.set]at S;refine ak (p:=some ⟨r,0,none⟩) (l:=gv.l+1) (c:=gv.l+1) (S.c 3) (ae (n:=gv.width) (S.c 0) (aC rfl (k:=0) rfl (by omega) ?_));simp only[WC,WH,aR,We];refine be S 4 rfl (by rw[av,VQ];omega) fun _ _ S=> ?_;rw[bB,b]at S;dsimp only[List.set]at S;refine ak (p:=some ⟨o,0,none⟩) (l:=gv.l+1) (c:=gv.l+1) (S.c 3) (aC rfl (k:=0) rfl (by omega) ?_);simp only[WC,WH,aR,We];refine be S 5 rfl (by rw[av,VQ];omega) fun _ _ S=> ?_;rw[bB,b]at S;dsimp only[List.set]at S;exact hD f s z B A i (S.pw [0,1,3,2,4,5])
  ·refine dM S (gv.l+1) rfl rfl rfl (by decide) (by omega) (by omega) fun o _ _ S=> ?_;rw[a]at S;dsimp only[Yg,Yh]at S;refine aX (S.c 0) (aX (S.c 0) ?_);refine dM S (gv.l+1) rfl rfl rfl (by decide) (by omega) (by omega) fun r _ _ S=> ?_;rw[a]at S;dsimp only[Yg,Yh]at S;refine aX (S.c 0) (aX (S.c 0) ?_);refine ck S 3 fun _ _ S=> ?_;dsimp only[List.set]at S;refine ck S 3 fun _ _ S=> ?_;dsimp only[List.set]at S;refine ck S 3 fun _ _ S=> ?_;dsimp only[List.set]at S;refine ck S 3 fun _ _ S=> ?_;dsimp only[List.set]at S;refine ak (p:=some ⟨r,0,none⟩) (l:=gv.l+1) (c:=gv.l+1) (S.c 3) (ae (n:=gv.width) (S.c 0) (aC rfl (k:=0) rfl (by omega) ?_));simp only[WC,WH,aR,We];refine be S 5 rfl (by rw[av,VQ];omega) fun _ _ S=> ?_;rw[bB,b]at S;dsimp only[List.set]at S;refine ak (p:=some ⟨o,0,none⟩) (l:=gv.l+1) (c:=gv.l+1) (S.c 3) (aC rfl (k:=0) rfl (by omega) ?_);simp only[WC,WH,aR,We];refine be S 4 rfl (by rw[av,VQ];omega) fun _ _ S=> ?_;rw[bB,b]at S;dsimp only[List.set]at S;exact hD f s z B A i (S.pw [0,1,3,2,5,4])
