/- CRef16 CRef16b CRef16c, in one text. -/
import Derived.Test.YtdhpmegbmjoekaaGreatDoorCGraph5
set_option linter.unusedVariables false
set_option linter.unusedSimpArgs false
namespace Go.Proofs.YtdhpmegbmjoekaaGreatDoor.G
open Go Go.Sh
section
section
variable {h:af}
theorem Kh {p:Option Addr} {l c:Nat} {xs:List Int} (f:bI h p (az xs)) (t:xs.length=l) (n:l<2 ^ 62) (v:Int):
 au P oF #[.slice p l c,.int .i64 v] h fun r j=>r= .bool (decide (v∈xs))∧j=h:=by
 refine DC _ _ _ _ ?_;unfold Gn;refine aP (fun m s g=>g=h∧ ∃i:Nat,s=((p,l,c),v,(i:Int),())∧i≤l∧m=l-i∧v∉xs.take i) l ⟨rfl,0,rfl,by omega,rfl,by simp⟩ ?_;rintro m s g ⟨rfl,i,rfl,hi,rfl,a⟩;unfold yT;dsimp only;refine am (fun o=> ?_) (fun k=> ?_)
 ·have b:i<xs.length:=by omega
  obtain⟨q,rfl⟩:=f.some_of (by rw[av];omega);refine aB rfl rfl (by omega) ?_;simp only[oe,US];refine ae (f.cell (aI (aO b))) ?_;refine aH (fun e=>⟨by rw[decide_eq_true (by rw[←e];exact UU b)],by trivial⟩) (fun e=> ?_);rw[al (by omega)];refine⟨l-(i+1),by omega,by trivial,i+1,rfl,by omega,rfl,fun d=> ?_⟩;rw[py b] at d;rcases UX.1 d with d|d
  ·exact a d
  ·simp only[SH] at d;exact e d.symm
 ·rw[N6 (by omega)] at a;exact⟨by rw[decide_eq_false a],rfl⟩
theorem LE {gv:Gv} (I:gv.ok) (hn:bI h gv.p (aF gv.ns)) (hr:(aU gv.ns).P h) (hl:gv.l<2 ^ 56) (hs: ∀n∈gv.ns,n.inn.l<2 ^ 62):au P pj #[gv.v] h fun v h'=>v= .int .i64 gv.gr.first∧cp no h h':=by
 refine As _ ?_;unfold Bu;have N:=I.1;have t:gv.gr.nodes.length=gv.l:=by rw[←N];simp[Gv.gr]
 have S:=((aJ.start h no).read (row gv.p (aF gv.ns)) hn).read (aU gv.ns) hr;refine aA (cs:=gv.cells) S fun o h1 _ S=> ?_;dsimp only[Xj,Xi] at S;refine ak (p:=gv.p) (l:=gv.l) (c:=gv.c) (S.cell 0 rfl rfl) ?_;have E:(gv.gr.nodes.length<1∨12<gv.gr.nodes.length)→ ∀g,aJ h no g [blk o gv.cells] [row gv.p (aF gv.ns),aU gv.ns]→Value.int .i64 22= .int .i64 gv.gr.first∧cp no h g:=fun O g S=>⟨by unfold Gr.first;rw[if_pos O],S.fra⟩;refine⟨fun s g=>s=(⟨o,0,none⟩,(gv.l:Int),())∧ ¬(gv.gr.nodes.length<1∨12<gv.gr.nodes.length)∧aJ h no g [blk o gv.cells] [row gv.p (aF gv.ns),aU gv.ns],?_,am (fun h1=>E (by omega) _ S) fun h1=>am (fun h2=>E (by omega) _ S) fun h2=>⟨rfl,by omega,S⟩⟩;clear S E;rintro s g ⟨rfl,R,S⟩;unfold uj;simp only[aQ,SI];have D:(gv.width<1∨16<gv.width∨gv.low>gv.high∨gv.low< -32768∨gv.high>32767∨gv.out<1∨gv.out>(gv.gr.nodes.length:Int))→ ∀g,aJ h no g [blk o gv.cells] [row gv.p (aF gv.ns),aU gv.ns]→Value.int .i64 1= .int .i64 gv.gr.first∧cp no h g:=
  fun O g S=>⟨by unfold Gr.first;rw[if_neg R];exact congrArg _ (if_pos O).symm,S.fra⟩
 refine⟨fun s g=>s=(⟨o,0,none⟩,(gv.l:Int),())∧ ¬(gv.width<1∨16<gv.width∨gv.low>gv.high∨gv.low< -32768∨gv.high>32767∨gv.out<1∨gv.out>(gv.gr.nodes.length:Int))∧aJ h no g [blk o gv.cells] [row gv.p (aF gv.ns),aU gv.ns],?_,?_⟩
 ·rintro s g ⟨rfl,n2,S⟩;unfold ui;dsimp only;have L: ∀g,aJ h no g [blk o gv.cells] [row gv.p (aF gv.ns),aU gv.ns]→(∀n∈gv.ns,bv 0 (gv.l:Int) n.inn.xs)→Value.int .i64 0= .int .i64 gv.gr.first∧cp no h g:=fun g S d=>⟨by
   have: ∀n∈gv.gr.nodes,bv 0 (gv.gr.nodes.length:Int) n.inn:=fun n e=>by
    obtain⟨m,Q,rfl⟩:=U5.1 e;rw[t];exact d m Q
   unfold Gr.first;rw[if_neg R];exact congrArg _ (((if_neg n2).trans (if_pos this)).symm),S.fra⟩
  have F: ∀g,aJ h no g [blk o gv.cells] [row gv.p (aF gv.ns),aU gv.ns]→(∃n∈gv.ns,¬bv 0 (gv.l:Int) n.inn.xs)→Value.int .i64 1= .int .i64 gv.gr.first∧cp no h g:=fun g S ⟨m,Q,hb⟩=>⟨by
   have: ¬ ∀n∈gv.gr.nodes,bv 0 (gv.gr.nodes.length:Int) n.inn:=fun d=>by
    have:=d m.nd (U2 Q);rw[t] at this;exact hb this
   unfold Gr.first;rw[if_neg R];exact congrArg _ (((if_neg n2).trans (if_neg this)).symm),S.fra⟩
  refine aP (fun m s g=> ∃i:Nat,s=(⟨o,0,none⟩,(gv.l:Int),(i:Int),())∧i≤gv.l∧m=gv.l-i∧(∀n∈gv.ns.take i,bv 0 (gv.l:Int) n.inn.xs)∧aJ h no g [blk o gv.cells] [row gv.p (aF gv.ns),aU gv.ns]) gv.l ⟨0,rfl,by omega,rfl,by simp,S⟩ ?_;clear S;rintro m s g ⟨i,rfl,hi,rfl,d,S⟩;unfold uh;dsimp only;refine am (fun ai=> ?_) (fun ag=> ?_)
  ·have z:i<gv.ns.length:=by omega
   obtain⟨b,en⟩: ∃n,gv.ns[i]? =some n:=⟨_,aO z⟩;have K:gv.ns[i]=b:=by rw[aO z] at en;exact Option.some.inj en
   have f:=UR en;have T:=I.2.2 b f;have ilen:b.inn.xs.length=b.inn.l:=T.1.1;have aj:=hs b f;refine aP (fun m s g=> ∃j:Nat,s=(⟨o,0,none⟩,(gv.l:Int),(i:Int),(j:Int),())∧j≤b.inn.l∧m=b.inn.l-j∧bv 0 (gv.l:Int) (b.inn.xs.take j)∧aJ h no g [blk o gv.cells] [row gv.p (aF gv.ns),aU gv.ns]) b.inn.l ⟨0,rfl,by omega,rfl,by rw[Wf];exact dO _ _,S⟩ ?_;clear S;rintro m s g ⟨j,rfl,hj,rfl,q,S⟩;unfold sO;simp only[aQ,SI];have C:aD g ⟨o,3,none⟩=some (.slice gv.p gv.l gv.c):=S.cell 0 rfl rfl;obtain⟨a,ea⟩:=(S.row 0 rfl).some_of (by rw[bW];omega);have J:bI g (some a) (aF gv.ns):=by rw[←ea];exact S.row 0 rfl
   have k:aD g ((a.add (i*15)).add 1)=some b.inn.v:=by
    have:=J.cell (i:=i*15+1) (v:=b.inn.v) (by rw[lm en (by decide)];rfl);rw[rW _ _ (by decide)];exact this
   refine ak (p:=gv.p) (l:=gv.l) (c:=gv.c) C (aB ea rfl (by omega) ?_);simp only[oe];refine ak (p:=b.inn.p) (l:=b.inn.l) (c:=b.inn.c) k ?_;refine am (fun ad=> ?_) (fun ab=> ?_)
   ·have u:j<b.inn.xs.length:=by omega
    refine ak (p:=gv.p) (l:=gv.l) (c:=gv.c) C (aB ea rfl (by omega) ?_);refine ak (p:=b.inn.p) (l:=b.inn.l) (c:=b.inn.c) k ?_;have w:bI g b.inn.p (az b.inn.xs):=S.r 1 _ rfl _ (U2 f) b.inn.row (by simp);obtain⟨aa,y⟩:=w.some_of (by rw[av];omega);have B:bI g (some aa) (az b.inn.xs):=by rw[←y];exact w
    refine aB y rfl (by omega) ?_;simp only[oe,US];have lx:=B.cell (aI (aO u));refine ae lx (am (fun H=>F g S ⟨b,f,fun M=> ?_⟩) (fun H=> ?_))
    ·have:=M _ (UU u);omega
    refine ak (p:=gv.p) (l:=gv.l) (c:=gv.c) C (aB ea rfl (by omega) ?_);refine ak (p:=b.inn.p) (l:=b.inn.l) (c:=b.inn.c) k (aB y rfl (by omega) ?_);refine ae lx (am (fun G=>F g S ⟨b,f,fun M=> ?_⟩) (fun G=> ?_))
    ·have:=M _ (UU u);omega
    rw[al (by omega)];refine⟨b.inn.l-(j+1),by omega,j+1,rfl,by omega,rfl,fun x A=> ?_,S⟩;rw[py u] at A;rcases UX.1 A with A|A
    ·exact q x A
    ·simp only[SH] at A;subst A;omega
   ·rw[al (by omega)];refine⟨gv.l-(i+1),by omega,i+1,rfl,by omega,rfl,fun n e=> ?_,S⟩;rw[py z,K] at e;rcases UX.1 e with e|e
    ·exact d n e
    ·simp only[SH] at e;subst e;rw[N6 (by omega)] at q;exact q
  ·rw[N6 (by omega)] at d;exact L g S d
 ·refine ae (n:=gv.width) (S.cell 0 rfl rfl) (am (fun U=>D (.inl U) _ S) fun U=> ?_);refine ae (n:=gv.width) (S.cell 0 rfl rfl) (am (fun c2=>D (.inr (.inl (by omega))) _ S) fun c2=> ?_);refine ae (n:=gv.low) (S.cell 0 rfl rfl) (ae (n:=gv.high) (S.cell 0 rfl rfl) (am (fun V=>D (.inr (.inr (.inl V))) _ S) fun V=> ?_));refine ae (n:=gv.low) (S.cell 0 rfl rfl) (am (fun W=>D (.inr (.inr (.inr (.inl W)))) _ S) fun W=> ?_);refine ae (n:=gv.high) (S.cell 0 rfl rfl) (am (fun X=>D (.inr (.inr (.inr (.inr (.inl X))))) _ S) fun X=> ?_);refine ae (n:=gv.out) (S.cell 0 rfl rfl) (am (fun Y=>D (.inr (.inr (.inr (.inr (.inr (.inl Y)))))) _ S) fun Y=> ?_);refine ae (n:=gv.out) (S.cell 0 rfl rfl) (am (fun Z=>D (.inr (.inr (.inr (.inr (.inr (.inr (by rw[t];exact Z))))))) _ S) fun Z=>⟨rfl,?_,S⟩);rw[t];omega
theorem LF {gv:Gv} (Z:gv.ok) (hn:bI h gv.p (aF gv.ns)) (hr:(aU gv.ns).P h) (hl:gv.l≤2 ^ 20) (hs: ∀n∈gv.ns,n.inn.l<2 ^ 62):
 au P pm #[gv.v] h fun v h'=> ∃(q:Option Addr) (m d:Nat),v= .slice q m d∧m≤d∧(cC gv.gr.nodes).length=m∧aJ h no h' [row q (az (cC gv.gr.nodes))] []:=by
 refine Au _ ?_;unfold Bv;have ag:=Z.1;have S:=((aJ.start h no).read (row gv.p (aF gv.ns)) hn).read (aU gv.ns) hr;refine aA (cs:=gv.cells) S fun T h1 _ S=> ?_;dsimp only[Xj,Xi] at S;refine aA (cs:=[.int .i64 0]) S fun b3 h2 _ S=> ?_;dsimp only[Xj,Xi] at S;obtain⟨f,H⟩: ∃f,gv.gr.nodes=f:=⟨_,rfl⟩;have B:gv.ns.map Nv.nd=f:=H;have a6:f.length=gv.l:=by rw[←B,UT,ag]
 rw[H];replace S:=S.toOwn 1 1 1 1 rfl (U3 _)
 refine aP (fun L s g=> ∃(k:Nat) (q:Option Addr) (m d:Nat),s=(⟨T,0,none⟩,(q,m,d),(k:Int),())∧k≤gv.l∧L=gv.l-k∧(bK f k).length=m∧
  aJ h no g [blk T gv.cells,own 1 q m d (az (bK f k))] [row gv.p (aF gv.ns),aU gv.ns]) gv.l ⟨0,_,1,1,rfl,by omega,rfl,rfl,S⟩ ?_
 clear S;rintro L s g ⟨k,q,m,d,rfl,hk,rfl,I,S⟩;have a5:m≤k+1:=by
  have:=lQ f k;rw[WA] at this;omega
 unfold ul;simp only[aQ,SI];refine ak (p:=gv.p) (l:=gv.l) (c:=gv.c) (S.cell 0 rfl rfl) ?_;have ek:IntKind.wrap .i64 ((k:Int)+1)=((k+1:Nat):Int):=by rw[al (by omega)];rfl
 refine am (fun a3=> ?_) (fun a2=> ?_)
 ·refine aP (fun L s g=> ∃t:Nat,s=(⟨T,0,none⟩,(q,m,d),(k:Int),(t:Int)+1,())∧t≤gv.l∧L=gv.l-t∧jC (bK f k) (f.drop t) t=jC (bK f k) f 0∧
   aJ h no g [blk T gv.cells,own 1 q m d (az (bK f k))] [row gv.p (aF gv.ns),aU gv.ns]) gv.l ⟨0,rfl,by omega,rfl,by rw[Wg],S⟩ ?_
  clear S;rintro L s g ⟨t,rfl,ht,rfl,E,S⟩;unfold uk;simp only[aQ,SI];refine ak (p:=gv.p) (l:=gv.l) (c:=gv.c) (S.cell 0 rfl rfl) ?_;refine am (fun aw=> ?_) (fun ap=> ?_)
  ·have an:t<gv.ns.length:=by omega
   have Q:t<f.length:=by omega
   obtain⟨u,en⟩: ∃n,gv.ns[t]? =some n:=⟨_,aO an⟩;have D:=UR en;have ao:=Z.2.2 u D;have ilen:u.inn.xs.length=u.inn.l:=ao.1.1;have a7:=hs u D;have V:f[t]=u.nd:=by
    have:f[t]? =some u.nd:=by rw[←B,UW,en];rfl
    rw[aO Q] at this;exact Option.some.inj this
   refine(Kh (S.own 1 rfl).row I (by omega) ((t:Int)+1)).mono ?_;rintro _ g1 ⟨rfl,hg⟩;subst g1;refine⟨_,rfl,?_⟩;refine ak (p:=gv.p) (l:=gv.l) (c:=gv.c) (S.cell 0 rfl rfl) ?_;have et:IntKind.wrap .i64 ((t:Int)+1-1)=(t:Int):=by rw[al (by omega)];omega
   rw[et];obtain⟨a,ea⟩:=(S.row 0 rfl).some_of (by rw[bW];omega);have J:bI g (some a) (aF gv.ns):=by rw[←ea];exact S.row 0 rfl
   have C:aD g ((a.add (t*15)).add 1)=some u.inn.v:=by
    have:=J.cell (i:=t*15+1) (v:=u.inn.v) (by rw[lm en (by decide)];rfl);rw[rW _ _ (by decide)];exact this
   refine aB ea rfl (by omega) ?_;simp only[oe];refine ak (p:=u.inn.p) (l:=u.inn.l) (c:=u.inn.c) C ?_
   refine aP (fun L s g=> ∃(j:Nat) (R:Bool),s=(⟨T,0,none⟩,(q,m,d),(k:Int),(t:Int)+1,R,(u.inn.p,u.inn.l,u.inn.c),(j:Int),())∧j≤u.inn.l∧L=u.inn.l-j∧(R=true↔((t:Int)+1)∉bK f k∧ ∀x∈u.inn.xs.take j,x∈bK f k)∧
    aJ h no g [blk T gv.cells,own 1 q m d (az (bK f k))] [row gv.p (aF gv.ns),aU gv.ns]) u.inn.l ⟨0,_,rfl,by omega,rfl,by simp,S⟩ ?_
   clear S J C;rintro L s g ⟨j,R,rfl,hj,rfl,z,S⟩;unfold sP;dsimp only;have ej:IntKind.wrap .i64 ((j:Int)+1)=((j+1:Nat):Int):=by rw[al (by omega)];rfl
   rw[ej];refine am (fun ax=> ?_) (fun ar=> ?_)
   ·have Y:j<u.inn.xs.length:=by omega
    have ab:u.inn.xs.take (j+1)=u.inn.xs.take j++[u.inn.xs[j]]:=py Y;refine eD (fun A=> ?_) (fun A=> ?_)
    ·have F:bI g u.inn.p (az u.inn.xs):=S.r 1 _ rfl _ (U2 D) u.inn.row (by simp);obtain⟨aa,U⟩:=F.some_of (by rw[av];omega);rw[U] at F;refine aB U rfl (by omega) ?_;simp only[oe,US];refine ae (F.cell (aI (aO Y))) ?_;refine(Kh (S.own 1 rfl).row I (by omega) u.inn.xs[j]).mono ?_;rintro _ _ ⟨rfl,rfl⟩;refine⟨_,rfl,u.inn.l-(j+1),by omega,j+1,_,rfl,by omega,rfl,?_,S⟩;rw[ab,decide_eq_true_iff];have:=z.1 A;constructor
     ·intro hx;refine⟨this.1,fun y K=> ?_⟩;rcases UX.1 K with K|K
      ·exact this.2 y K
      ·simp only[SH] at K;subst K;exact hx
     ·intro G;exact G.2 _ (VV _ (SH.2 rfl))
    ·refine⟨u.inn.l-(j+1),by omega,j+1,false,rfl,by omega,rfl,?_,S⟩;rw[ab];constructor
     ·intro h;cases h
     ·intro G;have:=z.2 ⟨G.1,fun y K=>G.2 y (Vu _ K)⟩;rw[A] at this;cases this
   ·rw[N6 (by omega)] at z;have X:f[t].inn=u.inn.xs:=by rw[V];rfl
    refine eD (fun A=> ?_) (fun A=> ?_)
    ·have hc:=z.1 A;have N:=Fd Q (by rw[X];exact hc);rw[N] at E;have w:bK f (k+1)=bK f k++[(t:Int)+1]:=by
      show kr f (bK f k)=_;unfold kr;rw[←E]
     refine aA (cs:=[.int .i64 ((t:Int)+1)]) S fun ay a1 _ S=> ?_;dsimp only[Xi,Xj] at S;refine cK S 1 (ys:=az [(t:Int)+1]) rfl rfl (by decide) (by omega) (bI.of_at (S.at 2 rfl)) rfl cX fun p2 l2 c2 h9 ai S=> ?_;dsimp only[List.set] at S;rw[ek];refine⟨gv.l-(k+1),by omega,k+1,p2,l2,c2,rfl,by omega,rfl,by rw[w,Rb,I];exact ai.symm,?_⟩;have e:az (bK f k)++az [(t:Int)+1]=az (bK f (k+1)):=by rw[w];simp only[az,U4,Vg,Vz]
     rw[e] at S;exact S.pw [0,1]
    ·have aj: ¬(((t:Int)+1)∉bK f k∧ ∀j∈f[t].inn,j∈bK f k):=fun G=>by
      rw[X] at G;have:=z.2 G;rw[A] at this;cases this
     have ew:IntKind.wrap .i64 ((t:Int)+1+1)=((t+1:Nat):Int)+1:=by rw[al (by omega)];omega
     rw[ew];exact⟨gv.l-(t+1),by omega,t+1,rfl,by omega,rfl,by rw[Fc Q aj];exact E,S⟩
  ·have:t=f.length:=by omega
   subst this;rw[List.drop_length] at E;have O:jC (bK f k) f 0=none:=E.symm;have w:bK f (k+1)=bK f k:=by
    show kr f (bK f k)=_;unfold kr;rw[O]
   rw[ek];refine⟨gv.l-(k+1),by omega,k+1,q,m,d,rfl,by omega,rfl,by rw[w];exact I,?_⟩;rw[w];exact S
 ·have:k=f.length:=by omega
  subst this;have M:=dM f f.length;have ad:1≤m:=by rw[←I,M];simp
  have o:=S.own 1 rfl;have a4:=o.2.1;refine ko (n:=1) rfl ad ?_;refine⟨_,_,_,rfl,by omega,by unfold cC;rw[WA,I],?_⟩;have S2:=S.turn 1 rfl (row (if d=1 then q else Option.map (fun a=>a.add (1*1)) q) (az (cC f))) (fun G=> ?_) (fun b A=> ?_)
  ·exact yu (S2.pw [1])
  ·have r:=qB.row G;have e:(az (bK f f.length)).drop 1=az (cC f):=by rw[M7];unfold cC;rw[List.drop_one]
   by_cases W:d=1
   ·rw[if_pos W];have:cC f=[]:=by
     have:(cC f).length=0:=by unfold cC;rw[WA,I];omega
     exact Vm.1 this
    show bI _ _ _;rw[this];exact bI.nil _ _
   ·rw[if_neg W];have:=r.drop' 1 (by rw[av,I];omega);rw[e] at this;exact this
  ·by_cases W:d=1
   ·rw[if_pos W] at A;exact A.2
   ·rw[if_neg W] at A;obtain⟨_,a,ha,A⟩:=A;obtain⟨a0,e0,rfl⟩:=V8.1 ha;exact⟨a0,e0,A⟩
theorem NW {nv:Nv} {p:Option Addr} {l c:Nat} {rs:List Int} (y:bI h p (az rs)) (T:rs.length=l) (G:1≤l) (J:l<2 ^ 56) (C:0≤rs.getD 0 0∧rs.getD 0 0≤2 ^ 30) (M:dA nv.kind→0≤nv.step∧nv.step≤2 ^ 20):
 au P rz #[nv.v,.slice p l c] h fun v E=>v= .int .i64 (bY nv.nd rs)∧cp no h E:=by
 refine Cl _ _ _ _ ?_;unfold DD;have S:=(aJ.start h no).read (row p (az rs)) y;refine aA (cs:=nv.cells) S fun z R _ S=> ?_;dsimp only[Xj,Xi] at S;have u:=S.row 0 rfl;obtain⟨O,d⟩:=u.some_of (by rw[av];omega);rw[d] at u;refine aB d (k:=0) rfl (by omega) ?_;refine ae (n:=rs.getD 0 0) (u.cell (i:=0) (aI (by rw[aO (by omega),cH (by omega)]))) ?_;generalize D:rs.getD 0 0=r at C ⊢;have e:bY nv.nd rs=if ¬ ∀x∈rs,x=r then-1 else if r=0∧(dW nv.kind∨nv.kind=5) then-1 else if nv.kind=5 then 0 else r*cE nv.kind nv.step:=by
  unfold bY;rw[D];rfl
 refine aP (fun m s g=> ∃i:Nat,s=((p,l,c),⟨z,0,none⟩,r,(i:Int),())∧i≤l∧m=l-i∧(∀x∈rs.take i,x=r)∧aJ h no g [blk z nv.cells] [row p (az rs)]) l ⟨0,rfl,by omega,rfl,by simp,S⟩ ?_;clear S u;rintro m s g ⟨i,rfl,hi,rfl,b,S⟩;unfold wQ;dsimp only;refine am (fun K=> ?_) (fun I=> ?_)
 ·have o:i<rs.length:=by omega
  have u:=S.row 0 rfl;rw[d] at u;refine aB d rfl (by omega) ?_;simp only[oe,US];refine ae (u.cell (aI (aO o))) (bh (fun B=>⟨?_,S.fra⟩) (fun H=> ?_))
  ·rw[e,if_pos (fun w=>B (w _ (UU o)))]
  ·rw[al (by omega)];refine⟨l-(i+1),by omega,i+1,rfl,by omega,rfl,fun x a=> ?_,S⟩;rw[py o] at a;rcases UX.1 a with a|a
   ·exact b x a
   ·simp only[SH] at a;subst a;exact H
 ·rw[N6 (by omega)] at b;have N: ¬ ¬ ∀x∈rs,x=r:=fun h=>h b;rw[if_neg N] at e;have q:0≤cE nv.kind nv.step∧cE nv.kind nv.step≤2 ^ 20:=by
   unfold cE;split
   ·rename_i h;exact M h
   ·decide
  have U:0≤r*cE nv.kind nv.step∧r*cE nv.kind nv.step≤2 ^ 50:=by
   refine⟨Vw C.1 q.1,?_⟩;have:=Vv C.2 q.2 q.1 (by decide);omega
  have f: ¬(r=0∧(dW nv.kind∨nv.kind=5))→ah .i64 g ⟨z,0,none⟩ fun n=>aG (n==(5:Int)) (Value.int .i64 0= .int .i64 (bY nv.nd rs)∧cp no h g) (aT cS g ⟨z,0,none⟩ fun x=>aC P .i64 dT #[bB cS x] g fun n A=>Value.int .i64 (IntKind.wrap .i64 (r*n))= .int .i64 (bY nv.nd rs)∧cp no h A):=fun L=>by
   rw[if_neg L] at e;refine ae (n:=nv.kind) (S.cell 0 rfl rfl) (aH (fun j=>⟨by rw[e,if_pos j],S.fra⟩) (fun j=> ?_));rw[if_neg j] at e;refine aN S 0 rfl (x:=nv.t) rfl ?_;refine(vA nv).mono ?_;rintro _ Q ⟨rfl,F⟩;refine⟨_,rfl,?_,S.fra.trans F⟩;rw[al (by omega),e]
  refine ae (n:=nv.kind) (S.cell 0 rfl rfl) ?_;refine(gM nv.kind).mono ?_;rintro _ _ ⟨rfl,rfl⟩;refine⟨_,rfl,?_⟩;refine aH (fun h0=> ?_) (fun h0=>f fun w=>h0 w.1);refine am (fun y=>⟨by rw[e,if_pos ⟨h0,.inl y⟩],S.fra⟩) (fun y=> ?_);refine ae (n:=nv.kind) (S.cell 0 rfl rfl) (aH (fun j=>⟨by rw[e,if_pos ⟨h0,.inr j⟩],S.fra⟩) (fun j=> ?_));exact f fun w=>w.2.elim y j
end
end
section
def B5 (k:JJ) (h:af) (v:Value) (a:af):Prop:=
 ∃o w r:Sl,v= .agg #[o.v,w.v,r.v,.int .i64 k.e]∧o.xs=k.order∧w.xs=k.widths∧r.xs=k.rates∧o.ok∧w.ok∧r.ok∧aJ h no a [row o.p (az o.xs),row w.p (az w.xs),row r.p (az r.xs)] []
theorem Iy {h0 h:af} {T:Nat→Prop} {W:List aY} (S:aJ h0 T h W []) (p:Option Addr):aJ h0 T h (W++[row p []]) []:=by
 have:=S.add (W1:=[row p []]) (R1:=[]) (U:=no) (aJ.one (cp.refl _ _) (bI.nil _ _) fun b a c=>absurd rfl a.1) fun b a d=>d;exact this
theorem B5.err {k:JJ} {h a:af} {W R:List aY} (S:aJ h no a W R) {e:Int} (b:k=⟨e,[],[],[]⟩):B5 k h (.agg #[.slice none 0 0,.slice none 0 0,.slice none 0 0,.int .i64 e]) a:=by
 subst b;refine⟨Sl.nil,Sl.nil,Sl.nil,rfl,rfl,rfl,rfl,⟨rfl,U3 _⟩,⟨rfl,U3 _⟩,⟨rfl,U3 _⟩,?_⟩;exact Iy (Iy (Iy (yu (S.pw [])) none) none) none
section
variable {h:af}
theorem io {Z v B E C:Nat} {gv:Gv} {q:Option Addr} {m d:Nat} {g:af} (a0:gv.ok) (A:gv.gr.first=0) (hs: ∀n∈gv.ns,n.inn.l<2 ^ 40∧n.weights.l<2 ^ 62∧n.bias.l<2 ^ 62) (ho:(cC gv.gr.nodes).length=gv.gr.nodes.length) (hm:(cC gv.gr.nodes).length=m) (bs:m≤d)
 (S:aJ h no g [blk Z gv.cells,blk v [.slice none 0 0,.slice none 0 0,.slice none 0 0,.int .i64 0],blk B [.slice q m d,.slice (some ⟨E,0,none⟩) (gv.l+1) (gv.l+1),.slice (some ⟨C,0,none⟩) (gv.l+1) (gv.l+1),.int .i64 0],row q (az (cC gv.gr.nodes)),
  blk E (az (gv.width::List.replicate gv.gr.nodes.length 0)),blk C (az (1::List.replicate gv.gr.nodes.length 0))] [row gv.p (aF gv.ns),aU gv.ns]):
 aZ (S:=(Addr×Addr×(Option Addr×Nat×Nat)×Addr×Int×Unit)) (fun K1 s h'=>dX (B5 gv.gr.look h) K1 s.1 s.2.1 s.2.2.1.1 s.2.2.1.2.1 s.2.2.1.2.2 s.2.2.2.1 s.2.2.2.2.1 h') (⟨Z,0,none⟩,⟨v,0,none⟩,(q,m,d),⟨B,0,none⟩,(0:Int),()) g:=by
 have bp:=a0.1;have ag:gv.gr.nodes.length=gv.l:=by rw[←bp];simp[Gv.gr]
 obtain⟨_,bk,_,_,_,U⟩:=bR A;obtain⟨o,G⟩: ∃o,gv.gr.nodes=o:=⟨_,rfl⟩;obtain⟨ord,H⟩: ∃ord,cC o=ord:=⟨_,rfl⟩;have aj: ∀x∈ord,1≤x∧x≤(o.length:Int):=fun x O=>fJ o o.length x (by rw[←H] at O;exact O);rw[G] at S U bk ag ho hm;rw[H] at S ho hm;have z: ∀r,dq o ord (gv.width::List.replicate o.length 0) (1::List.replicate o.length 0)=r→gv.gr.look=if r.1≠0 then⟨r.1,[],[],[]⟩ else⟨0,ord,r.2.1,r.2.2⟩:=by
  intro r hr;unfold Gr.look;rw[if_neg (by rw[A];simp),G,H,if_neg (by rw[ho];simp)];have:gv.gr.width=gv.width:=rfl;rw[this,hr]
 have T: ∀{e:Int} {g:af} {W R:List aY},aJ h no g (blk Z gv.cells::blk v [.slice none 0 0,.slice none 0 0,.slice none 0 0,.int .i64 0]::W) R→gv.gr.look=⟨e,[],[],[]⟩→
  aW g ⟨v,0,none⟩ (.slice none 0 0) fun bl=>aW bl ⟨v,1,none⟩ (.slice none 0 0) fun bm=>aW bm ⟨v,2,none⟩ (.slice none 0 0) fun bn=>aW bn ⟨v,3,none⟩ (.int .i64 e) fun J=>
   aq J ⟨v,0,none⟩ fun b7 bS a9=>aq J ⟨v,1,none⟩ fun b8 b0 ba=>aq J ⟨v,2,none⟩ fun b9 b2 bb=>ah .i64 J ⟨v,3,none⟩ fun b4=>
   B5 gv.gr.look h (.agg #[(.slice b7 bS a9),(.slice b8 b0 ba),(.slice b9 b2 bb),(.int .i64 b4)]) J:=by
  intro e g W R S M;refine aE S 1 rfl (jb rfl) fun _ _ S=> ?_;dsimp only[List.set] at S;refine aE S 1 rfl (jb rfl) fun _ _ S=> ?_;dsimp only[List.set] at S;refine aE S 1 rfl (jb rfl) fun _ _ S=> ?_;dsimp only[List.set] at S;refine aE S 1 rfl (jb rfl) fun _ _ S=> ?_;dsimp only[List.set] at S;refine ak (p:=none) (l:=0) (c:=0) (S.cell 1 rfl rfl) (ak (p:=none) (l:=0) (c:=0) (S.cell 1 rfl rfl) (ak (p:=none) (l:=0) (c:=0) (S.cell 1 rfl rfl) (ae (n:=e) (S.cell 1 rfl rfl) ?_)));exact B5.err S M
 refine aP (fun mm s g=> ∃(i:Nat) (ws rs:List Int),s=(⟨Z,0,none⟩,⟨v,0,none⟩,(q,m,d),⟨B,0,none⟩,(i:Int),())∧i≤m∧mm=m-i∧ws.length=gv.l+1∧rs.length=gv.l+1∧(∀x∈rs,0≤x∧x≤((4 ^ i:Nat):Int))∧
  dq o (ord.drop i) ws rs=dq o ord (gv.width::List.replicate o.length 0) (1::List.replicate o.length 0)∧
  aJ h no g [blk Z gv.cells,blk v [.slice none 0 0,.slice none 0 0,.slice none 0 0,.int .i64 0],blk B [.slice q m d,.slice (some ⟨E,0,none⟩) (gv.l+1) (gv.l+1),.slice (some ⟨C,0,none⟩) (gv.l+1) (gv.l+1),.int .i64 0],row q (az ord),
   blk E (az ws),blk C (az rs)] [row gv.p (aF gv.ns),aU gv.ns]) m
  ⟨0,_,_,rfl,by omega,rfl,by simp[ag],by simp[ag],?_,by rw[Wg],S⟩ ?_
 ·intro x O;simp only[U7,List.mem_replicate] at O;rcases O with rfl|⟨_,rfl⟩
  ·decide
  ·decide
 clear S;rintro mm s g ⟨i,ws,rs,rfl,hi,rfl,a4,a1,a2,u,S⟩;unfold dX;simp only[aQ,SI];refine am (fun d3=> ?_) (fun dl=> ?_)
 ·have ai:i<ord.length:=by omega
  have ch:i<12:=by omega
  have rq:bI g q (az ord):=S.w 3 _ rfl;obtain⟨qa,I⟩:=rq.some_of (by rw[av];omega);have hq: ∀{g:af},bI g q (az ord)→bI g (some qa) (az ord):=fun r=>by rw[←I];exact r
  have d4:=aj _ (UU ai);obtain⟨k,ek⟩: ∃k:Nat,ord[i]=((k+1:Nat):Int):=⟨(ord[i]-1).toNat,by omega⟩;rw[Vb ai,ek] at u;have d2:k<o.length:=by omega
  have bq:k<gv.ns.length:=by omega
  obtain⟨nv,en⟩: ∃n,gv.ns[k]? =some n:=⟨_,aO bq⟩;have K:=UR en;have ao:=a0.2.2 nv K;have N:=hs nv K;have Q:o[k]? =some nv.nd:=by rw[←G];simp[Gv.gr,en]
  have ay:nv.nd∈o:=UR Q;have aw:=U nv.nd ay;have D: ∀{g:af},bI g q (az ord)→aD g (qa.add i)=some (.int .i64 ((k+1:Nat):Int)):=fun r=>(hq r).cell (aI (by rw[aO ai,ek]));refine aB I rfl (by omega) ?_;simp only[oe,US];refine ak (p:=gv.p) (l:=gv.l) (c:=gv.c) (S.cell 0 rfl rfl) ?_;refine ae (n:=((k+1:Nat):Int)) (D rq) ?_;have bg:IntKind.wrap .i64 (((k+1:Nat):Int)-1)=(k:Int):=by rw[al (by omega)];omega
  rw[bg];obtain⟨a,ea⟩:=(S.row 0 rfl).some_of (by rw[bW];omega);have V:bI g (some a) (aF gv.ns):=by rw[←ea];exact S.row 0 rfl
  refine aB ea rfl (by omega) ?_;simp only[oe];refine jd V en ?_;refine aA S fun ar g2 _ S=> ?_;dsimp only[Xi,Xj] at S;refine cA S 6 rfl rfl (bu rfl) fun g3 _ S=> ?_;dsimp only[List.set] at S;have L: ∀{g:af} {W:List aY},aJ h no g W [row gv.p (aF gv.ns),aU gv.ns]→nv.rows.P g:=fun S=>S.r 1 _ rfl _ (U2 K);have Y: ∀{g:af} {W:List aY},aJ h no g W [row gv.p (aF gv.ns),aU gv.ns]→bI g nv.inn.p (az nv.inn.xs):=fun S=>L S nv.inn.row (by simp);have ilen:nv.inn.xs.length=nv.inn.l:=ao.1.1;have bx:(bZ ws nv.inn.xs).length=nv.inn.l:=by unfold bZ;rw[UT,ilen]
  have co:(bZ rs nv.inn.xs).length=nv.inn.l:=by unfold bZ;rw[UT,ilen]
  have fw:nv.cells=nv.cells:=rfl;replace S:=(S.nil 1).nil 1;dsimp only[Xi,Xj] at S
  refine aP (fun mm s g=> ∃(j:Nat) (pw pr:Option Addr) (lw cw lr cr:Nat),s=(⟨Z,0,none⟩,⟨v,0,none⟩,(q,m,d),⟨B,0,none⟩,(i:Int),⟨ar,0,none⟩,(pw,lw,cw),(pr,lr,cr),(j:Int),())∧j≤nv.inn.l∧mm=nv.inn.l-j∧lw=j∧lr=j∧
   aJ h no g [blk Z gv.cells,blk v [.slice none 0 0,.slice none 0 0,.slice none 0 0,.int .i64 0],blk B [.slice q m d,.slice (some ⟨E,0,none⟩) (gv.l+1) (gv.l+1),.slice (some ⟨C,0,none⟩) (gv.l+1) (gv.l+1),.int .i64 0],row q (az ord),
    blk E (az ws),blk C (az rs),blk ar nv.cells,own 1 pw lw cw (az ((bZ ws nv.inn.xs).take j)),own 1 pr lr cr (az ((bZ rs nv.inn.xs).take j))] [row gv.p (aF gv.ns),aU gv.ns]) nv.inn.l
   ⟨0,none,none,0,0,0,0,rfl,by omega,rfl,rfl,rfl,S⟩ ?_
  clear S rq V;rintro mm s g ⟨j,pw,pr,lw,cw,lr,cr,rfl,hj,rfl,cx,ct,S⟩;unfold um;simp only[aQ,SI];refine ak (p:=nv.inn.p) (l:=nv.inn.l) (c:=nv.inn.c) (S.cell 6 rfl rfl) ?_;refine am (fun cm=> ?_) (fun cd=> ?_)
  ·have ax:j<nv.inn.xs.length:=by omega
   have a5:=aw _ (UU ax);have a5:0≤nv.inn.xs[j]∧nv.inn.xs[j]≤(o.length:Int):=a5;obtain⟨x,ex⟩: ∃x:Nat,nv.inn.xs[j]=(x:Int):=⟨nv.inn.xs[j].toNat,by omega⟩;obtain⟨aa,ab⟩:=(Y S).some_of (by rw[av];omega);have lx: ∀{g:af} {W:List aY},aJ h no g W [row gv.p (aF gv.ns),aU gv.ns]→aD g (aa.add j)=some (.int .i64 (x:Int)):=fun S=>by
    have:=Y S;rw[ab] at this;exact this.cell (aI (by rw[aO ax,ex]))
   have cb:(bZ ws nv.inn.xs).take (j+1)=(bZ ws nv.inn.xs).take j++[ws.getD x 0]:=by
    rw[py (by omega)];congr 2;simp only[bZ,WY,ex,oe]
   have ca:(bZ rs nv.inn.xs).take (j+1)=(bZ rs nv.inn.xs).take j++[rs.getD x 0]:=by
    rw[py (by omega)];congr 2;simp only[bZ,WY,ex,oe]
   refine ak (p:=some ⟨E,0,none⟩) (l:=gv.l+1) (c:=gv.l+1) (S.cell 2 rfl rfl) (ak (p:=nv.inn.p) (l:=nv.inn.l) (c:=nv.inn.c) (S.cell 6 rfl rfl) ?_);refine aB ab rfl (by omega) ?_;simp only[oe,US];refine ae (lx S) (aB rfl rfl (by omega) ?_);simp only[oe,US,aQ,SI];refine ae (n:=ws.getD x 0) (S.cell 4 rfl (aI (by rw[aO (by omega),cH (by omega)]))) ?_;refine aA S fun cq cz _ S=> ?_;dsimp only[Xi,Xj] at S;refine cK S 7 (ys:=az [ws.getD x 0]) rfl rfl (by decide) (by omega) (bI.of_at (S.at 9 rfl)) rfl cX fun b5 bL a7 c0 ci S=> ?_;dsimp only[List.set] at S;refine aX (S.cell 2 rfl rfl) ?_;refine ak (p:=some ⟨C,0,none⟩) (l:=gv.l+1) (c:=gv.l+1) (S.cell 2 rfl rfl) (ak (p:=nv.inn.p) (l:=nv.inn.l) (c:=nv.inn.c) (S.cell 6 rfl rfl) ?_);refine aB ab rfl (by omega) ?_
   try simp only[oe,US]
   refine ae (lx S) (aB rfl rfl (by omega) ?_)
   try simp only[oe,US,aQ,SI]
   refine ae (n:=rs.getD x 0) (S.cell 5 rfl (aI (by rw[aO (by omega),cH (by omega)]))) ?_;refine aA S fun cs db _ S=> ?_;dsimp only[Xi,Xj] at S;refine cK S 8 (ys:=az [rs.getD x 0]) rfl rfl (by decide) (by omega) (bI.of_at (S.at 10 rfl)) rfl cX fun b6 bO a8 dd cj S=> ?_;dsimp only[List.set] at S;refine aX (S.cell 2 rfl rfl) ?_;rw[al (n:=(j:Int)+1) (by omega)];refine⟨nv.inn.l-(j+1),by omega,j+1,b5,b6,bL,a7,bO,a8,rfl,by omega,rfl,by omega,by omega,?_⟩;rw[cb,ca];have e1: ∀(l:List Int) (y:Int),az (l++[y])=az l++az [y]:=fun l y=>by simp only[az,U4,Vg,Vz]
   rw[e1,e1];exact S.pw [0,1,2,3,4,5,6,7,8]
  ·rw[N6 (by omega),N6 (by omega)] at S;have d1:j=nv.inn.l:=by omega
   have ap: ∀{g:af} {W R:List aY} {pp:Option Addr} {ll cc:Nat} {xs:List Value} (i:Nat),aJ h no g W R→W[i]? =some (own 1 pp ll cc xs)→bI g pp xs:=fun i S e=>(S.own i e).row;refine aN S 6 rfl (x:=nv.t) rfl ?_;refine(xE ao (L S) (by omega) N.2.1 N.2.2 (ap 7 S rfl) (by omega) (by omega)).mono ?_;rintro _ g4 ⟨rfl,F⟩;replace S:=S.fra0 F;refine⟨_,rfl,?_⟩
   have ad:dq o (((k+1:Nat):Int)::ord.drop (i+1)) ws rs=if nv.nd.chk (bZ ws nv.inn.xs)≠0 then(nv.nd.chk (bZ ws nv.inn.xs),ws,rs) else if bY nv.nd (bZ rs nv.inn.xs)<0 then(15,ws,rs)
    else dq o (ord.drop (i+1)) (ws.set (k+1) (nv.nd.wid (bZ ws nv.inn.xs))) (rs.set (k+1) (bY nv.nd (bZ rs nv.inn.xs))):=by
    conv=>lhs;unfold dq
    rw[show(((k+1:Nat):Int)).toNat=k+1 from rfl,Nat.add_sub_cancel,Q];rfl
   rw[ad] at u;refine bh (fun hc=> ?_) (fun hc=> ?_)
   ·rw[if_pos hc] at u;have M:=z _ u.symm;rw[if_pos hc] at M;exact T S M
   ·rw[if_neg (fun h=>h hc)] at u;obtain⟨c1,c2,c3,c4,c5,c6,c7,c8,c9,a6,_⟩:=dc hc;have ds:1≤nv.inn.l:=by have:(bZ ws nv.nd.inn).length=nv.inn.l:=bx;omega
    have bd:=(vB nv _).1 a6;have cy:(4 ^ i:Nat)≤4 ^ 12:=VT (by decide) (by omega);have bH:=Hc (js:=nv.inn.xs) a2 (Int.natCast_nonneg _);have X:dA nv.kind→1≤nv.step∧nv.step≤4:=fun f=>(bd.2.1 f).1;refine aB I rfl (by omega) ?_
    try simp only[oe,US]
    refine aN S 6 rfl (x:=nv.t) rfl ?_;refine ak (p:=some ⟨E,0,none⟩) (l:=gv.l+1) (c:=gv.l+1) (S.cell 2 rfl rfl) (ae (n:=((k+1:Nat):Int)) (D (S.w 3 _ rfl)) ?_);refine(Dk ao (L S) (by omega) N.2.1 N.2.2 (ap 7 S rfl) (by omega) (by omega)).mono ?_;rintro _ g5 ⟨rfl,F⟩;replace S:=S.fra0 F;refine⟨_,rfl,?_⟩;refine aX (D (S.w 3 _ rfl)) (aX (S.cell 2 rfl rfl) (aB rfl (k:=k+1) rfl (by omega) ?_));simp only[oe,US,aQ,SI];refine aE S 4 rfl (by rw[av];omega) fun g6 _ S=> ?_;rw[bA] at S;dsimp only[List.set] at S;refine aB I rfl (by omega) ?_
    try simp only[oe,US]
    refine aN S 6 rfl (x:=nv.t) rfl ?_;refine ak (p:=some ⟨C,0,none⟩) (l:=gv.l+1) (c:=gv.l+1) (S.cell 2 rfl rfl) (ae (n:=((k+1:Nat):Int)) (D (S.w 3 _ rfl)) ?_);refine(NW (nv:=nv) (ap 8 S rfl) (by omega) (by omega) (by omega) (by omega) (fun f=>by have:=X f;omega)).mono ?_;rintro _ g7 ⟨rfl,F⟩;replace S:=S.fra0 F;refine⟨_,rfl,?_⟩;refine aX (D (S.w 3 _ rfl)) (aX (S.cell 2 rfl rfl) (aB rfl (k:=k+1) rfl (by omega) ?_));simp only[oe,US,aQ,SI];refine aE S 5 rfl (by rw[av];omega) fun g8 _ S=> ?_;rw[bA] at S;dsimp only[List.set] at S;refine aB I rfl (by omega) ?_
    try simp only[oe,US]
    refine ak (p:=some ⟨C,0,none⟩) (l:=gv.l+1) (c:=gv.l+1) (S.cell 2 rfl rfl) (ae (n:=((k+1:Nat):Int)) (D (S.w 3 _ rfl)) (aB rfl (k:=k+1) rfl (by omega) ?_));simp only[oe,US,aQ,SI];refine ae (n:=bY nv.nd (bZ rs nv.inn.xs)) (S.cell 5 rfl (aI (by rw[Ve (by omega)]))) ?_;refine am (fun an=> ?_) (fun an=> ?_)
    ·rw[if_pos an] at u;have M:=z _ u.symm;rw[if_pos (by show(15:Int)≠0;decide)] at M;exact T S M
    ·rw[if_neg an] at u;rw[al (by omega)];refine⟨m-(i+1),by omega,i+1,_,_,rfl,by omega,rfl,by rw[U1];exact a4,by rw[U1];exact a1,fun x O=> ?_,u,S.pw [0,1,2,3,4,5]⟩;have e4:((4 ^ (i+1):Nat):Int)=4*((4 ^ i:Nat):Int):=by rw[Nat.pow_succ];omega
     rcases Wc O with O|rfl
     ·have:=a2 x O;omega
     ·refine⟨by omega,?_⟩;unfold bY;split
      ·omega
      split
      ·omega
      split
      ·omega
      ·have a3:0≤cE nv.nd.kind nv.nd.step∧cE nv.nd.kind nv.nd.step≤4:=by
        unfold cE;split
        ·rename_i h;have:=X h;exact⟨by show 0≤nv.step;omega,by show nv.step≤4;omega⟩
        ·decide
       have:=Vv bH.2 a3.2 a3.1 (by omega);omega
 ·have d0:i=m:=by omega
  rw[Vq (by omega)] at u;have M:=z _ u.symm;simp only[dq,ne_eq,not_true_eq_false,if_false] at M;refine ak (p:=q) (l:=m) (c:=d) (S.cell 2 rfl rfl) (ak (p:=some ⟨E,0,none⟩) (l:=gv.l+1) (c:=gv.l+1) (S.cell 2 rfl rfl) (ak (p:=some ⟨C,0,none⟩) (l:=gv.l+1) (c:=gv.l+1) (S.cell 2 rfl rfl) (ae (n:=0) (S.cell 2 rfl rfl) ?_)));refine aE S 1 rfl (jb rfl) fun _ _ S=> ?_;dsimp only[List.set] at S;refine aE S 1 rfl (jb rfl) fun _ _ S=> ?_;dsimp only[List.set] at S;refine aE S 1 rfl (jb rfl) fun _ _ S=> ?_;dsimp only[List.set] at S;refine aE S 1 rfl (jb rfl) fun _ _ S=> ?_;dsimp only[List.set] at S;refine ak (p:=q) (l:=m) (c:=d) (S.cell 1 rfl rfl) (ak (p:=some ⟨E,0,none⟩) (l:=gv.l+1) (c:=gv.l+1) (S.cell 1 rfl rfl) (ak (p:=some ⟨C,0,none⟩) (l:=gv.l+1) (c:=gv.l+1) (S.cell 1 rfl rfl) (ae (n:=0) (S.cell 1 rfl rfl) ?_)));rw[M];have S2:=S.turn 4 rfl (row (some ⟨E,0,none⟩) (az ws)) (fun hh=>bI.of_at hh) (fun b hb=>by obtain⟨_,a,ha,hb⟩:=hb;cases ha;exact hb.symm);dsimp only[List.set] at S2;have S3:=S2.turn 5 rfl (row (some ⟨C,0,none⟩) (az rs)) (fun hh=>bI.of_at hh) (fun b hb=>by obtain⟨_,a,ha,hb⟩:=hb;cases ha;exact hb.symm);dsimp only[List.set] at S3;exact⟨⟨q,m,d,ord⟩,⟨some ⟨E,0,none⟩,gv.l+1,gv.l+1,ws⟩,⟨some ⟨C,0,none⟩,gv.l+1,gv.l+1,rs⟩,rfl,rfl,rfl,rfl,⟨hm,bs⟩,⟨a4,U3 _⟩,⟨a1,U3 _⟩,yu (S3.pw [3,4,5])⟩
end
end
section
section
variable {h:af}
theorem Hy {gv:Gv} (f:gv.ok) (D:bI h gv.p (aF gv.ns)) (hr:(aU gv.ns).P h) (hl:gv.l<2 ^ 20) (A: ∀n∈gv.ns,n.inn.l<2 ^ 40∧n.weights.l<2 ^ 62∧n.bias.l<2 ^ 62):
 au P mA #[gv.v] h (B5 gv.gr.look h):=by
 refine Cm _ ?_;unfold DE;have M:=f.1;have N:gv.gr.nodes.length=gv.l:=by rw[←M];simp[Gv.gr]
 have S:=((aJ.start h no).read (row gv.p (aF gv.ns)) D).read (aU gv.ns) hr;refine aA (cs:=gv.cells) S fun b1 h1 _ S=> ?_;dsimp only[Xj,Xi] at S;refine aA (cs:=[.slice none 0 0,.slice none 0 0,.slice none 0 0,.int .i64 0]) S fun w h2 _ S=> ?_;dsimp only[Xj,Xi] at S;refine aN S 0 rfl (x:=gv.t) rfl ?_;refine(LE f (S.row 0 rfl) (S.r 1 _ rfl) (by omega) (fun n D=>by have:=(A n D).1;omega)).mono ?_;rintro _ h3 ⟨rfl,F⟩;replace S:=S.fra0 F;refine⟨_,rfl,?_⟩
 have y: ∀{e:Int} {g:af} {W R:List aY},aJ h no g (blk b1 gv.cells::blk w [.slice none 0 0,.slice none 0 0,.slice none 0 0,.int .i64 0]::W) R→gv.gr.look=⟨e,[],[],[]⟩→
  aW g ⟨w,0,none⟩ (.slice none 0 0) fun J=>aW J ⟨w,1,none⟩ (.slice none 0 0) fun K=>aW K ⟨w,2,none⟩ (.slice none 0 0) fun L=>aW L ⟨w,3,none⟩ (.int .i64 e) fun j=>
   aq j ⟨w,0,none⟩ fun X Q G=>aq j ⟨w,1,none⟩ fun Y T H=>aq j ⟨w,2,none⟩ fun Z U I=>ah .i64 j ⟨w,3,none⟩ fun V=>
   B5 gv.gr.look h (.agg #[(.slice X Q G),(.slice Y T H),(.slice Z U I),(.int .i64 V)]) j:=by
  intro e g W R S el;refine aE S 1 rfl (jb rfl) fun _ _ S=> ?_;dsimp only[List.set] at S;refine aE S 1 rfl (jb rfl) fun _ _ S=> ?_;dsimp only[List.set] at S;refine aE S 1 rfl (jb rfl) fun _ _ S=> ?_;dsimp only[List.set] at S;refine aE S 1 rfl (jb rfl) fun _ _ S=> ?_;dsimp only[List.set] at S;refine ak (p:=none) (l:=0) (c:=0) (S.cell 1 rfl rfl) (ak (p:=none) (l:=0) (c:=0) (S.cell 1 rfl rfl) (ak (p:=none) (l:=0) (c:=0) (S.cell 1 rfl rfl) (ae (n:=e) (S.cell 1 rfl rfl) ?_)));exact B5.err S el
 refine bh (fun u=>y S (by unfold Gr.look;rw[if_pos u])) (fun u=> ?_);have nf: ¬gv.gr.first≠0:=fun h=>h u;refine aN S 0 rfl (x:=gv.t) rfl ?_;refine(LF f (S.row 0 rfl) (S.r 1 _ rfl) (by omega) (fun n D=>by have:=(A n D).1;omega)).mono ?_;rintro _ g3 ⟨q,m,d,rfl,i,B,S1⟩;replace S:=S.add S1 fun _ _ h=>h;dsimp only[Xi,Xj] at S;refine⟨_,_,_,rfl,?_⟩;refine ak (p:=gv.p) (l:=gv.l) (c:=gv.c) (S.cell 0 rfl rfl) ?_;have z:=lQ gv.gr.nodes gv.gr.nodes.length;have z:(cC gv.gr.nodes).length≤gv.gr.nodes.length:=z;refine am (fun O=>y S (by unfold Gr.look;rw[if_neg nf,if_pos (by omega)])) (fun O=> ?_);have C:(cC gv.gr.nodes).length=gv.gr.nodes.length:=by omega
 refine ak (p:=gv.p) (l:=gv.l) (c:=gv.c) (S.cell 0 rfl rfl) (ak (p:=gv.p) (l:=gv.l) (c:=gv.c) (S.cell 0 rfl rfl) ?_);have ew:IntKind.wrap .i64 ((gv.l:Int)+1)=((gv.l+1:Nat):Int):=by rw[al (by omega)];omega
 rw[ew];simp only[oe];have b: ∀x:Int,(List.replicate (gv.l+1) (0:Int)).set 0 x=x::List.replicate gv.gr.nodes.length 0:=fun x=>by rw[N,VO];rfl
 have a:(List.replicate (gv.l+1) [Value.int .i64 0]).flatten=az (List.replicate (gv.l+1) 0):=by rw[ib];simp[az]
 have aa:=(bR u).2.1;refine⟨?_,?_,?_⟩
 ·refine dQ S (gv.l+1) rfl rfl rfl (by decide) (by omega) (by omega) fun s _ _ S=> ?_;rw[a] at S;dsimp only[Xi,Xj] at S;refine aX (S.cell 0 rfl rfl) (aX (S.cell 0 rfl rfl) ?_);refine⟨?_,?_⟩
  ·refine dQ S (gv.l+1) rfl rfl rfl (by decide) (by omega) (by omega) fun o _ _ S=> ?_;rw[a] at S;dsimp only[Xi,Xj] at S;refine aX (S.cell 0 rfl rfl) (aX (S.cell 0 rfl rfl) ?_);refine aA (cs:=[.slice none 0 0,.slice none 0 0,.slice none 0 0,.int .i64 0]) S fun E _ _ S=> ?_;dsimp only[Xi,Xj] at S;refine aE S 5 rfl (jb rfl) fun _ _ S=> ?_;dsimp only[List.set] at S;refine aE S 5 rfl (jb rfl) fun _ _ S=> ?_;dsimp only[List.set] at S;refine aE S 5 rfl (jb rfl) fun _ _ S=> ?_;dsimp only[List.set] at S;refine aE S 5 rfl (jb rfl) fun _ _ S=> ?_;dsimp only[List.set] at S;refine ak (p:=some ⟨s,0,none⟩) (l:=gv.l+1) (c:=gv.l+1) (S.cell 5 rfl rfl) (ae (n:=gv.width) (S.cell 0 rfl rfl) (aB rfl (k:=0) rfl (by omega) ?_));simp only[Vi,Nat.zero_mul,aQ,Va];refine aE S 3 rfl (by rw[av,UZ];omega) fun _ _ S=> ?_;rw[bA,b] at S;dsimp only[List.set] at S;refine ak (p:=some ⟨o,0,none⟩) (l:=gv.l+1) (c:=gv.l+1) (S.cell 5 rfl rfl) (aB rfl (k:=0) rfl (by omega) ?_);simp only[Vi,Nat.zero_mul,aQ,Va];refine aE S 4 rfl (by rw[av,UZ];omega) fun _ _ S=> ?_;rw[bA,b] at S;dsimp only[List.set] at S;exact io f u A C B i (S.pw [0,1,5,2,3,4])
  ·refine aA (cs:=[.slice none 0 0,.slice none 0 0,.slice none 0 0,.int .i64 0]) S fun E _ _ S=> ?_;dsimp only[Xi,Xj] at S;refine dQ S (gv.l+1) rfl rfl rfl (by decide) (by omega) (by omega) fun o _ _ S=> ?_;rw[a] at S;dsimp only[Xi,Xj] at S;refine aX (S.cell 0 rfl rfl) (aX (S.cell 0 rfl rfl) ?_);refine aE S 4 rfl (jb rfl) fun _ _ S=> ?_;dsimp only[List.set] at S;refine aE S 4 rfl (jb rfl) fun _ _ S=> ?_;dsimp only[List.set] at S;refine aE S 4 rfl (jb rfl) fun _ _ S=> ?_;dsimp only[List.set] at S;refine aE S 4 rfl (jb rfl) fun _ _ S=> ?_;dsimp only[List.set] at S;refine ak (p:=some ⟨s,0,none⟩) (l:=gv.l+1) (c:=gv.l+1) (S.cell 4 rfl rfl) (ae (n:=gv.width) (S.cell 0 rfl rfl) (aB rfl (k:=0) rfl (by omega) ?_));simp only[Vi,Nat.zero_mul,aQ,Va];refine aE S 3 rfl (by rw[av,UZ];omega) fun _ _ S=> ?_;rw[bA,b] at S;dsimp only[List.set] at S;refine ak (p:=some ⟨o,0,none⟩) (l:=gv.l+1) (c:=gv.l+1) (S.cell 4 rfl rfl) (aB rfl (k:=0) rfl (by omega) ?_);simp only[Vi,Nat.zero_mul,aQ,Va];refine aE S 5 rfl (by rw[av,UZ];omega) fun _ _ S=> ?_;rw[bA,b] at S;dsimp only[List.set] at S;exact io f u A C B i (S.pw [0,1,4,2,3,5])
 ·refine dQ S (gv.l+1) rfl rfl rfl (by decide) (by omega) (by omega) fun o _ _ S=> ?_;rw[a] at S;dsimp only[Xi,Xj] at S;refine aX (S.cell 0 rfl rfl) (aX (S.cell 0 rfl rfl) ?_);refine⟨?_,?_⟩
  ·refine dQ S (gv.l+1) rfl rfl rfl (by decide) (by omega) (by omega) fun s _ _ S=> ?_;rw[a] at S;dsimp only[Xi,Xj] at S;refine aX (S.cell 0 rfl rfl) (aX (S.cell 0 rfl rfl) ?_);refine aA (cs:=[.slice none 0 0,.slice none 0 0,.slice none 0 0,.int .i64 0]) S fun E _ _ S=> ?_;dsimp only[Xi,Xj] at S;refine aE S 5 rfl (jb rfl) fun _ _ S=> ?_;dsimp only[List.set] at S;refine aE S 5 rfl (jb rfl) fun _ _ S=> ?_;dsimp only[List.set] at S;refine aE S 5 rfl (jb rfl) fun _ _ S=> ?_;dsimp only[List.set] at S;refine aE S 5 rfl (jb rfl) fun _ _ S=> ?_;dsimp only[List.set] at S;refine ak (p:=some ⟨s,0,none⟩) (l:=gv.l+1) (c:=gv.l+1) (S.cell 5 rfl rfl) (ae (n:=gv.width) (S.cell 0 rfl rfl) (aB rfl (k:=0) rfl (by omega) ?_));simp only[Vi,Nat.zero_mul,aQ,Va];refine aE S 4 rfl (by rw[av,UZ];omega) fun _ _ S=> ?_;rw[bA,b] at S;dsimp only[List.set] at S;refine ak (p:=some ⟨o,0,none⟩) (l:=gv.l+1) (c:=gv.l+1) (S.cell 5 rfl rfl) (aB rfl (k:=0) rfl (by omega) ?_);simp only[Vi,Nat.zero_mul,aQ,Va];refine aE S 3 rfl (by rw[av,UZ];omega) fun _ _ S=> ?_;rw[bA,b] at S;dsimp only[List.set] at S;exact io f u A C B i (S.pw [0,1,5,2,4,3])
  ·refine aA (cs:=[.slice none 0 0,.slice none 0 0,.slice none 0 0,.int .i64 0]) S fun E _ _ S=> ?_;dsimp only[Xi,Xj] at S;refine dQ S (gv.l+1) rfl rfl rfl (by decide) (by omega) (by omega) fun s _ _ S=> ?_;rw[a] at S;dsimp only[Xi,Xj] at S;refine aX (S.cell 0 rfl rfl) (aX (S.cell 0 rfl rfl) ?_);refine aE S 4 rfl (jb rfl) fun _ _ S=> ?_;dsimp only[List.set] at S;refine aE S 4 rfl (jb rfl) fun _ _ S=> ?_;dsimp only[List.set] at S;refine aE S 4 rfl (jb rfl) fun _ _ S=> ?_;dsimp only[List.set] at S;refine aE S 4 rfl (jb rfl) fun _ _ S=> ?_;dsimp only[List.set] at S;refine ak (p:=some ⟨s,0,none⟩) (l:=gv.l+1) (c:=gv.l+1) (S.cell 4 rfl rfl) (ae (n:=gv.width) (S.cell 0 rfl rfl) (aB rfl (k:=0) rfl (by omega) ?_));simp only[Vi,Nat.zero_mul,aQ,Va];refine aE S 5 rfl (by rw[av,UZ];omega) fun _ _ S=> ?_;rw[bA,b] at S;dsimp only[List.set] at S;refine ak (p:=some ⟨o,0,none⟩) (l:=gv.l+1) (c:=gv.l+1) (S.cell 4 rfl rfl) (aB rfl (k:=0) rfl (by omega) ?_);simp only[Vi,Nat.zero_mul,aQ,Va];refine aE S 3 rfl (by rw[av,UZ];omega) fun _ _ S=> ?_;rw[bA,b] at S;dsimp only[List.set] at S;exact io f u A C B i (S.pw [0,1,4,2,5,3])
 ·refine aA (cs:=[.slice none 0 0,.slice none 0 0,.slice none 0 0,.int .i64 0]) S fun E _ _ S=> ?_;dsimp only[Xi,Xj] at S;refine⟨?_,?_⟩
  ·refine dQ S (gv.l+1) rfl rfl rfl (by decide) (by omega) (by omega) fun s _ _ S=> ?_;rw[a] at S;dsimp only[Xi,Xj] at S;refine aX (S.cell 0 rfl rfl) (aX (S.cell 0 rfl rfl) ?_);refine dQ S (gv.l+1) rfl rfl rfl (by decide) (by omega) (by omega) fun o _ _ S=> ?_;rw[a] at S;dsimp only[Xi,Xj] at S;refine aX (S.cell 0 rfl rfl) (aX (S.cell 0 rfl rfl) ?_);refine aE S 3 rfl (jb rfl) fun _ _ S=> ?_;dsimp only[List.set] at S;refine aE S 3 rfl (jb rfl) fun _ _ S=> ?_;dsimp only[List.set] at S;refine aE S 3 rfl (jb rfl) fun _ _ S=> ?_;dsimp only[List.set] at S;refine aE S 3 rfl (jb rfl) fun _ _ S=> ?_;dsimp only[List.set] at S;refine ak (p:=some ⟨s,0,none⟩) (l:=gv.l+1) (c:=gv.l+1) (S.cell 3 rfl rfl) (ae (n:=gv.width) (S.cell 0 rfl rfl) (aB rfl (k:=0) rfl (by omega) ?_));simp only[Vi,Nat.zero_mul,aQ,Va];refine aE S 4 rfl (by rw[av,UZ];omega) fun _ _ S=> ?_;rw[bA,b] at S;dsimp only[List.set] at S;refine ak (p:=some ⟨o,0,none⟩) (l:=gv.l+1) (c:=gv.l+1) (S.cell 3 rfl rfl) (aB rfl (k:=0) rfl (by omega) ?_);simp only[Vi,Nat.zero_mul,aQ,Va];refine aE S 5 rfl (by rw[av,UZ];omega) fun _ _ S=> ?_;rw[bA,b] at S;dsimp only[List.set] at S;exact io f u A C B i (S.pw [0,1,3,2,4,5])
  ·refine dQ S (gv.l+1) rfl rfl rfl (by decide) (by omega) (by omega) fun o _ _ S=> ?_;rw[a] at S;dsimp only[Xi,Xj] at S;refine aX (S.cell 0 rfl rfl) (aX (S.cell 0 rfl rfl) ?_);refine dQ S (gv.l+1) rfl rfl rfl (by decide) (by omega) (by omega) fun s _ _ S=> ?_;rw[a] at S;dsimp only[Xi,Xj] at S;refine aX (S.cell 0 rfl rfl) (aX (S.cell 0 rfl rfl) ?_);refine aE S 3 rfl (jb rfl) fun _ _ S=> ?_;dsimp only[List.set] at S;refine aE S 3 rfl (jb rfl) fun _ _ S=> ?_;dsimp only[List.set] at S;refine aE S 3 rfl (jb rfl) fun _ _ S=> ?_;dsimp only[List.set] at S;refine aE S 3 rfl (jb rfl) fun _ _ S=> ?_;dsimp only[List.set] at S;refine ak (p:=some ⟨s,0,none⟩) (l:=gv.l+1) (c:=gv.l+1) (S.cell 3 rfl rfl) (ae (n:=gv.width) (S.cell 0 rfl rfl) (aB rfl (k:=0) rfl (by omega) ?_));simp only[Vi,Nat.zero_mul,aQ,Va];refine aE S 5 rfl (by rw[av,UZ];omega) fun _ _ S=> ?_;rw[bA,b] at S;dsimp only[List.set] at S;refine ak (p:=some ⟨o,0,none⟩) (l:=gv.l+1) (c:=gv.l+1) (S.cell 3 rfl rfl) (aB rfl (k:=0) rfl (by omega) ?_);simp only[Vi,Nat.zero_mul,aQ,Va];refine aE S 4 rfl (by rw[av,UZ];omega) fun _ _ S=> ?_;rw[bA,b] at S;dsimp only[List.set] at S;exact io f u A C B i (S.pw [0,1,3,2,5,4])
end
end
end Go.Proofs.YtdhpmegbmjoekaaGreatDoor.G

