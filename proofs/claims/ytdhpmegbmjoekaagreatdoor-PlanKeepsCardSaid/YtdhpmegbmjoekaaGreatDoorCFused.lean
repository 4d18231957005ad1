/- CRenum CFused, in one text. -/
import Derived.Test.YtdhpmegbmjoekaaGreatDoorCLv4
set_option linter.unusedVariables false
set_option linter.unusedSimpArgs false
namespace Go.Proofs.YtdhpmegbmjoekaaGreatDoor.G
open Go Go.Sh
section
def kp (N:LM) (k:Int):Int:=(N k).getD 0
def Nd.ren (N:LM) (n:Nd):Nd:={n with inn:=n.inn.map (kp N)}
def df (ns:List Nd) (M:LM):Nat→List Nd×LM
 |0=>([],wy (fun _=>none) 0 0)
 |i+1=>match ns[i]? with
  |some n=>if(M ((i:Int)+1)).isSome then((df ns M i).1++[n],wy (df ns M i).2 ((i:Int)+1) (((df ns M i).1.length+1:Nat):Int)) else df ns M i
  |none=>df ns M i
def fp (g:Gr) (st:CU):Gr:={g with nodes:=(df st.1 st.2.2 st.1.length).1.map (Nd.ren (df st.1 st.2.2 st.1.length).2),out:=kp (df st.1 st.2.2 st.1.length).2 st.2.1}
def Gr.none0:Gr:=⟨0,0,0,[],0⟩
def cF (g:Gr):Gr:=if g.look.e=0 then fp g (de (g.nodes.length+1) (g.nodes,g.out,lP g.nodes g.out)) else Gr.none0
def Nv.ren (N:LM) (n:Nv):Nv:={n with inn:={n.inn with xs:=n.inn.xs.map (kp N)}}
def nN (ns:List Nv) (M:LM):Nat→List Nv
 |0=>[]
 |i+1=>match ns[i]? with
  |some n=>if(M ((i:Int)+1)).isSome then nN ns M i++[n] else nN ns M i
  |none=>nN ns M i
theorem H5 (ns:List Nv) (M:LM): ∀i,(nN ns M i).map Nv.nd=(df (ns.map Nv.nd) M i).1
 |0=>rfl
 |i+1=>by
  have a:=H5 ns M i;unfold nN df;rw[UW];cases ns[i]? with
  |none=>exact a
  |some n=>
   dsimp only[Option.map_some];split
   ·rw[U4,a];rfl
   ·exact a
theorem Jw (ns:List Nv) (M:LM) (i:Nat):(nN ns M i).length=(df (ns.map Nv.nd) M i).1.length:=by rw[←H5,UT]
theorem E2 (ns:List Nv) (M:LM): ∀i,(nN ns M i).Sublist (ns.take i)
 |0=>List.nil_sublist _
 |i+1=>by
  have a:=E2 ns M i;unfold nN;cases e:ns[i]? with
  |none=>
   dsimp only;have:ns.take (i+1)=ns.take i:=by
    have:=WP.1 e;rw[N6 (by omega),N6 (by omega)]
   rw[this];exact a
  |some n=>
   have hi:=(Pt.1 e).1;have en:ns[i]=n:=by rw[aO hi] at e;exact Option.some.inj e
   dsimp only;rw[py hi,en];split
   ·exact a.append (List.Sublist.refl _)
   ·exact a.trans (List.sublist_append_left _ _)
theorem QL (ns:List Nv) (M:LM) (i:Nat):(nN ns M i).length≤i:=by
 have:=(E2 ns M i).length_le;rw[U0] at this;omega
def H6 (N:LM) (xs:List Int) (m:Nat):List Int:=(xs.take m).map (kp N)++xs.drop m
theorem E3 (N:LM) (xs:List Int) (m:Nat):(H6 N xs m).length=xs.length:=by unfold H6;simp;omega
theorem QM (N:LM) {xs:List Int} {m:Nat} (a:m<xs.length):(H6 N xs m)[m]? =some xs[m]:=by
 unfold H6;rw[Vp (by simp;omega),VI];simp only[UT,U0];rw[show m+(m-min m xs.length)=m by omega,aO a]
theorem QN (N:LM) {xs:List Int} {m:Nat} (a:m<xs.length):(H6 N xs m).set m (kp N xs[m])=H6 N xs (m+1):=by
 unfold H6;rw[VB _ _ (by simp;omega),UT,U0,VY (by omega),VJ,Vb a,Wk,py a,U4,U6];rfl
theorem QO (N:LM) (xs:List Int):H6 N xs xs.length=xs.map (kp N):=by unfold H6;simp
def tJ (N:LM) (t:Nat) (L:List Nv):List Nv:=(L.take t).map (Nv.ren N)++L.drop t
theorem Nc (N:LM) (L:List Nv):tJ N 0 L=L:=by simp[tJ]
theorem Pe (N:LM) (L:List Nv):tJ N L.length L=L.map (Nv.ren N):=by simp[tJ]
theorem Jx (N:LM) (t:Nat) (L:List Nv):(tJ N t L).length=L.length:=by unfold tJ;simp;omega
theorem Pf (N:LM) {t:Nat} {L:List Nv} (a:t<L.length):(tJ N t L)[t]? =some L[t]:=by
 unfold tJ;rw[Vp (by simp;omega),VI];simp only[UT,U0];rw[show t+(t-min t L.length)=t by omega,aO a]
theorem Nf (N:LM) {t:Nat} {L:List Nv} (a:t<L.length):(tJ N (t+1) L).map Nv.inn=((tJ N t L).map Nv.inn).set t {L[t].inn with xs:=H6 N L[t].inn.xs L[t].inn.xs.length}:=by
 rw[QO];unfold tJ;rw[py a,U4,U4,U4,U4,Vb a];rw[VB _ _ (by simp;omega)];simp only[UT,U0];rw[show t-min t L.length=0 by omega,U6];rfl
theorem Ng (N:LM) (L:List Nv):aF (L.map (Nv.ren N))=aF L:=by
 unfold aF;congr 1;rw[VP];refine U8 fun n _=> ?_;show(n.ren N).cells=n.cells;rw[dz,dz];rfl
theorem QP (N:LM) (L:List Nv):vT (L.map (Nv.ren N))=vT L:=by unfold vT;rw[List.flatMap_map];rfl
section
variable {h0 h:af} {T:Nat→Prop} {R:List aY}
theorem QQ {gv:Gv} {L:List Nv} {lp:Option Addr} {b d:Nat} (hL:L.length=b) (hl:b<2 ^ 20) (Z: ∀n∈L,n.inn.xs.length=n.inn.l∧n.inn.l<2 ^ 40) {j k r:Nat} {N:LM} {X:aY} {Q:Value→af→Prop} {K M}
 (S:aJ h0 T h [blk j gv.cells,blk k (aL bT (zT bT)),own 15 lp b d (aF L),fy (L.map Nv.inn),yr r N,X] R)
 (H: ∀h',aJ h0 T h' [blk j (⟨gv.width,gv.low,gv.high,lp,b,d,kp N gv.out,L.map (Nv.ren N)⟩:Gv).cells,blk k (⟨gv.width,gv.low,gv.high,lp,b,d,kp N gv.out,L.map (Nv.ren N)⟩:Gv).cells,own 15 lp b d (aF (L.map (Nv.ren N))),fy ((L.map (Nv.ren N)).map Nv.inn),yr r N,X] R→Q (⟨gv.width,gv.low,gv.high,lp,b,d,kp N gv.out,L.map (Nv.ren N)⟩:Gv).v h'):
 aZ (S:=(Addr×Addr×Option Nat×(Option Addr×Nat×Nat)×(Option Addr×Nat×Nat)×Int×Int×Unit)) (fun O s h=>pC Q K M O s.1 s.2.1 s.2.2.1 s.2.2.2.1.1 s.2.2.2.1.2.1 s.2.2.2.1.2.2 s.2.2.2.2.1.1 s.2.2.2.2.1.2.1 s.2.2.2.2.1.2.2 s.2.2.2.2.2.1 s.2.2.2.2.2.2.1 h) (⟨j,0,none⟩,⟨k,0,none⟩,some r,(lp,b,d),(lp,b,d),((b:Nat):Int),(0:Int),()) h:=by
 refine aP (fun C s g=> ∃t:Nat,s=(⟨j,0,none⟩,⟨k,0,none⟩,some r,(lp,b,d),(lp,b,d),(b:Int),(t:Int),())∧t≤b∧C=b-t∧
  aJ h0 T g [blk j gv.cells,blk k (aL bT (zT bT)),own 15 lp b d (aF L),fy ((tJ N t L).map Nv.inn),yr r N,X] R) b ⟨0,rfl,by omega,rfl,by rw[Nc];exact S⟩ ?_
 clear S;rintro C s g ⟨t,rfl,ht,rfl,S⟩;unfold pC;simp only[aQ,SI];refine am (fun Y=> ?_) (fun W=> ?_)
 ·have f:t<L.length:=by omega
  obtain⟨n,en⟩: ∃n,L[t]? =some n:=⟨_,aO f⟩;have y:L[t]=n:=by rw[aO f] at en;exact Option.some.inj en
  obtain⟨aa,ab⟩:=Z n (UR en);have D:=(S.own 2 rfl).row;obtain⟨a,ea⟩:=D.some_of (by rw[bW];omega);rw[ea] at D;refine aB ea rfl (by omega) ?_;simp only[oe];refine jd D en ?_;refine aA S fun u F _ S=> ?_;dsimp only[Xi,Xj] at S;refine cA S 6 rfl rfl (bu rfl) fun G _ S=> ?_;dsimp only[List.set] at S;refine ak (p:=n.inn.p) (l:=n.inn.l) (c:=n.inn.c) (S.cell 6 rfl rfl) ?_;have B:t<((tJ N t L).map Nv.inn).length:=by rw[UT,Jx];exact f
  have A:((tJ N t L).map Nv.inn)[t]? =some n.inn:=by rw[UW,Pf N f,y];rfl
  have E:((tJ N t L).map Nv.inn).set t n.inn=(tJ N t L).map Nv.inn:=by
   rw[aO B] at A;rw[←Option.some.inj A,V4]
  refine aP (fun C s g=> ∃m:Nat,s=(⟨j,0,none⟩,⟨k,0,none⟩,some r,(lp,b,d),⟨u,0,none⟩,(lp,b,d),(b:Int),(t:Int),(n.inn.p,n.inn.l,n.inn.c),(n.inn.l:Int),(m:Int),())∧m≤n.inn.l∧C=n.inn.l-m∧
   aJ h0 T g [blk j gv.cells,blk k (aL bT (zT bT)),own 15 lp b d (aF L),fy (((tJ N t L).map Nv.inn).set t {n.inn with xs:=H6 N n.inn.xs m}),yr r N,X,blk u n.cells] R) n.inn.l
   ⟨0,rfl,by omega,rfl,by
     have:H6 N n.inn.xs 0=n.inn.xs:=by simp[H6]
     rw[this];show aJ h0 T G [_,_,_,fy (List.set _ t n.inn),_,_,_] R;rw[E];exact S⟩ ?_
  clear S;rintro C s g ⟨m,rfl,hm,rfl,S⟩;unfold xw;simp only[aQ,SI];have P:IntKind.wrap .i64 ((m:Int)+1)=((m+1:Nat):Int):=by rw[al (by omega)];rfl
  have U:IntKind.wrap .i64 ((t:Int)+1)=((t+1:Nat):Int):=by rw[al (by omega)];rfl
  have z:(((tJ N t L).map Nv.inn).set t {n.inn with xs:=H6 N n.inn.xs m})[t]? =some {n.inn with xs:=H6 N n.inn.xs m}:=by rw[Ve B]
  refine am (fun J=> ?_) (fun I=> ?_)
  ·have o:m<n.inn.xs.length:=by omega
   have i:bI g n.inn.p (az (H6 N n.inn.xs m)):=zY (S.w 3 _ rfl) (UR z);obtain⟨a,ea⟩:=i.some_of (by rw[av,E3];omega);have q:bI g (some a) (az (H6 N n.inn.xs m)):=by rw[←ea];exact i
   refine aB ea rfl (by omega) ?_;simp only[oe,US];refine ae (n:=n.inn.xs[m]) (q.cell (aI (QM _ o))) ?_;refine ak (p:=n.inn.p) (l:=n.inn.l) (c:=n.inn.c) (S.cell 6 rfl rfl) ?_;refine iX (S.w 4 _ rfl) ⟨_,rfl,?_⟩;refine aB ea rfl (by omega) ?_;rw[P];refine Pl S 3 rfl z ea (by rw[E3];exact o) fun F S=> ?_;dsimp only[List.set] at S;rw[V7] at S;have e:(H6 N n.inn.xs m).set m ((N n.inn.xs[m]).getD 0)=H6 N n.inn.xs (m+1):=QN N o;rw[e] at S;exact⟨n.inn.l-(m+1),by omega,m+1,rfl,by omega,rfl,S⟩
  ·have:m=n.inn.xs.length:=by omega
   subst this;rw[U];refine⟨b-(t+1),by omega,t+1,rfl,by omega,rfl,?_⟩;have e:=Nf N f;rw[y] at e;rw[e];exact S.pw [0,1,2,3,4,5]
 ·have:t=L.length:=by omega
  subst this;rw[Pe] at S;rw[←Ng N L] at S;refine ae (n:=gv.out) (S.cell 0 rfl rfl) ?_;refine iX (S.w 4 _ rfl) ⟨_,rfl,?_⟩;refine aE S 0 rfl (jb rfl) fun F _ S=> ?_;dsimp only[List.set] at S;refine aE S 0 rfl (jb rfl) fun G _ S=> ?_;dsimp only[List.set] at S;refine aN S 0 rfl (x:=(⟨gv.width,gv.low,gv.high,lp,b,d,kp N gv.out,L.map (Nv.ren N)⟩:Gv).t) rfl ?_;refine cA S 1 rfl rfl (bu rfl) fun V _ S=> ?_;dsimp only[List.set] at S;refine aN S 1 rfl (x:=(⟨gv.width,gv.low,gv.high,lp,b,d,kp N gv.out,L.map (Nv.ren N)⟩:Gv).t) rfl ?_;exact H V S
end
end
section
theorem H7 {h:af} {ns:List Nv} (o:(fy (ns.map Nv.inn)).P h) (w:(bP (vT ns)).P h):(aU ns).P h:=by
 rintro f a;obtain⟨n,b,rfl⟩:=U5.1 a;have c: ∀f∈[n.weights.own,n.bias.own],f.P h:=fun f a=>w f (List.mem_flatMap.2 ⟨n,b,a⟩);rintro f a;simp only[U7,VU,or_false] at a;rcases a with rfl|rfl|rfl
 ·exact zY o (U2 b)
 ·exact Sl.own_row (c _ (by simp))
 ·exact Sl.own_row (c _ (by simp))
theorem QR {a b:List Nv} (h:a.Sublist b): ∀f∈vT a,f∈vT b:=fun f c=>by
 obtain⟨n,d,c⟩:=List.mem_flatMap.1 c;exact List.mem_flatMap.2 ⟨n,h.subset d,c⟩
section
variable {h0 h:af} {T:Nat→Prop} {R:List aY}
theorem Nh {W:List aY} (S:aJ h0 T h W R) (i:Nat) {ss d:List Sl} (e:W[i]? =some (fy ss)) (c:d.Sublist ss):aJ h0 T h (W.set i (fy d)) R:=
 S.turn i e _ (fun⟨f,g⟩=>⟨fun s a=>f s (c.subset a),g.sublist c⟩) fun b ⟨s,a,j⟩=>⟨s,c.subset a,j⟩
theorem K8 {W:List aY} (S:aJ h0 T h W R) (i:Nat) {A B:List aY} (e:W[i]? =some (bP A)) (c: ∀f∈B,f∈A):aJ h0 T h (W.set i (bP B)) R:=
 S.turn i e _ (fun H f a=>H f (c f a)) fun b ⟨f,a,d⟩=>⟨f,c f a,d⟩
def RH (b:Gr) (T:Nat→Prop) (h0:af) (R:List aY) (v:Value) (d:af):Prop:=
 ∃a:Gv,v=a.v∧a.gr=b∧a.ok∧aJ h0 T d [own 15 a.p a.l a.c (aF a.ns),fy (a.ns.map Nv.inn),bP (vT a.ns)] R
theorem Ni {gv:Gv} (E:gv.ok) (hl:gv.l<2 ^ 20) (hs: ∀n∈gv.ns,n.inn.l<2 ^ 40) {u y r:Nat} {M:LM} {K1}
 (S:aJ h0 T h [blk u gv.cells,blk y (aL bT (zT bT)),own 15 gv.p gv.l gv.c (aF gv.ns),fy (gv.ns.map Nv.inn),bP (vT gv.ns),yr r M] R):
 aR h (.map #[] 0) fun f K=>updB .i64 (some f) (0:Int) (.int .i64 (0:Int)) K fun A=>aq A (Addr.add ⟨u,0,none⟩ 3) fun V F I=>
  aZ (S:=(Addr×Addr×Option Nat×Option Nat×(Option Addr×Nat×Nat)×(Option Addr×Nat×Nat)×Int×Int×Unit)) (fun K2 s h=>rN (RH (fp gv.gr (gv.gr.nodes,gv.out,M)) T h0 R) K1 K2 s.1 s.2.1 s.2.2.1 s.2.2.2.1 s.2.2.2.2.1.1 s.2.2.2.2.1.2.1 s.2.2.2.2.1.2.2 s.2.2.2.2.2.1.1 s.2.2.2.2.2.1.2.1 s.2.2.2.2.2.1.2.2 s.2.2.2.2.2.2.1 s.2.2.2.2.2.2.2.1 h) (⟨u,0,none⟩,⟨y,0,none⟩,some r,(some f),(none,0,0),(V,F,I),((F:Nat):Int),(0:Int),()) A:=by
 have o:=E.1;refine Le .i64 S fun f g2 _ S=> ?_;rw[Ia] at S;dsimp only[Xi,Xj] at S;refine vu S 6 rfl fun g3 S=> ?_;rw[vt] at S;dsimp only[List.set] at S;simp only[aQ,SI];refine ak (p:=gv.p) (l:=gv.l) (c:=gv.c) (S.cell 0 rfl rfl) ?_;replace S:=S.nil 15;dsimp only[Xi,Xj] at S;obtain⟨b,d⟩: ∃b,gv.ns.map Nv.nd=b:=⟨_,rfl⟩
 refine aP (fun Z s g=> ∃(i:Nat) (lp:Option Addr) (v H:Nat),s=(⟨u,0,none⟩,⟨y,0,none⟩,some r,some f,(lp,v,H),(gv.p,gv.l,gv.c),(gv.l:Int),(i:Int),())∧i≤gv.l∧Z=gv.l-i∧v=(nN gv.ns M i).length∧
  aJ h0 T g [blk u gv.cells,blk y (aL bT (zT bT)),own 15 gv.p gv.l gv.c (aF gv.ns),fy (gv.ns.map Nv.inn),bP (vT gv.ns),yr r M,yr f (df b M i).2,own 15 lp v H (aF (nN gv.ns M i))] R) gv.l ⟨0,none,0,0,rfl,by omega,rfl,rfl,S⟩ ?_
 clear S;rintro Z s g ⟨i,lp,v,H,rfl,hi,rfl,j,S⟩;have ad:=QL gv.ns M i;have B:=Jw gv.ns M i;rw[d] at B;unfold rN;simp only[aQ,SI];refine am (fun ai=> ?_) (fun ag=> ?_)
 ·have L:i<gv.ns.length:=by omega
  obtain⟨n,en⟩: ∃n,gv.ns[i]? =some n:=⟨_,aO L⟩;have k:b[i]? =some n.nd:=by rw[←d,UW,en];rfl
  have U:=(S.own 2 rfl).row;obtain⟨a,ea⟩:=U.some_of (by rw[bW];omega);rw[ea] at U;refine aB ea rfl (by omega) ?_;simp only[oe];refine jd U en ?_;refine aA S fun aa g4 _ S=> ?_;dsimp only[Xi,Xj] at S;refine cA S 8 rfl rfl (bu rfl) fun g5 _ S=> ?_;dsimp only[List.set] at S;have ei:IntKind.wrap .i64 ((i:Int)+1)=((i+1:Nat):Int):=by rw[al (by omega)];rfl
  rw[ei];refine iX (S.w 5 _ rfl) ⟨_,_,rfl,?_⟩;have G:(((i+1:Nat):Int))=(i:Int)+1:=rfl;refine eD (fun C=> ?_) (fun C=> ?_)
  ·have J:df b M (i+1)=((df b M i).1++[n.nd],wy (df b M i).2 ((i:Int)+1) (((df b M i).1.length+1:Nat):Int)):=by
    conv=>lhs;unfold df
    rw[k];dsimp only;rw[if_pos (by rw[←G];exact C)]
   have z:nN gv.ns M (i+1)=nN gv.ns M i++[n]:=by
    conv=>lhs;unfold nN
    rw[en];dsimp only;rw[if_pos (by rw[←G];exact C)]
   refine aN S 8 rfl (x:=n.t) rfl ?_;refine aA S fun ab g6 _ S=> ?_;dsimp only[Xi,Xj] at S;refine cK S 7 (ys:=n.cells) rfl rfl (by decide) (by omega) (bI.of_at (S.at 9 rfl)) rfl (bu rfl) fun p' Y W g7 D S=> ?_;dsimp only[List.set] at S;refine vu S 6 rfl fun g8 S=> ?_;rw[vt] at S;dsimp only[List.set] at S;have S':aJ h0 T g8 [blk u gv.cells,blk y (aL bT (zT bT)),own 15 gv.p gv.l gv.c (aF gv.ns),fy (gv.ns.map Nv.inn),bP (vT gv.ns),yr r M,yr f (df b M (i+1)).2,own 15 p' Y W (aF (nN gv.ns M (i+1)))] R:=by
    rw[J,z,iZ,←B,←j,←D];have:aF [n]=n.cells:=by simp[aF]
    rw[this];exact S.pw [0,1,2,3,4,5,6,7]
   exact⟨gv.l-(i+1),by omega,i+1,p',Y,W,rfl,by omega,rfl,by rw[z,Rb,←j];exact D,S'⟩
  ·have J:df b M (i+1)=df b M i:=by
    conv=>lhs;unfold df
    rw[k];dsimp only;rw[if_neg (by rw[←G,C];simp)]
   have z:nN gv.ns M (i+1)=nN gv.ns M i:=by
    conv=>lhs;unfold nN
    rw[en];dsimp only;rw[if_neg (by rw[←G,C];simp)]
   refine⟨gv.l-(i+1),by omega,i+1,lp,v,H,rfl,by omega,rfl,by rw[z];exact j,?_⟩;rw[J,z];exact S.pw [0,1,2,3,4,5,6,7]
 ·have N:i=gv.l:=by omega
  subst N;have e:(nN gv.ns M gv.l).Sublist gv.ns:=by
   have:=E2 gv.ns M gv.l;rw[←o,Wv] at this;rw[←o];exact this
  replace S:=Nh S 3 rfl (e.map Nv.inn);dsimp only[List.set] at S;replace S:=K8 S 4 rfl (QR e);dsimp only[List.set] at S;have O: ∀n∈nN gv.ns M gv.l,n.ok∧n.inn.l<2 ^ 40:=fun n q=>⟨E.2.2 n (e.subset q),hs n (e.subset q)⟩;refine QQ (X:=bP (vT (nN gv.ns M gv.l))) j.symm (by omega) (fun n q=>⟨(O n q).1.1.1,(O n q).2⟩) (S.pw [0,1,7,3,6,4]) fun g9 S=> ?_;have Q:b.length=gv.l:=by rw[←d,UT,o]
  refine⟨_,rfl,?_,⟨?_,(S.own 2 rfl).2.1,?_⟩,?_⟩
  ·show Gr.mk _ _ _ (((nN gv.ns M gv.l).map (Nv.ren (df b M gv.l).2)).map Nv.nd) _=fp gv.gr (gv.gr.nodes,gv.out,M);have e2:gv.gr.nodes=b:=d;unfold fp;rw[e2,Q,←d,←H5 gv.ns M gv.l,VP,VP];rfl
  ·show((nN gv.ns M gv.l).map _).length=v;rw[UT];exact j.symm
  ·intro n q;obtain⟨m,P,rfl⟩:=U5.1 q;have:=(O m P).1;exact⟨⟨by show(m.inn.xs.map _).length=_;rw[UT];exact this.1.1,this.1.2⟩,this.2⟩
  ·dsimp only;rw[QP];exact S.pw [2,3,5]
theorem QS (hS:se) {gv:Gv} (H:gv.ok) (k:bI h gv.p (aF gv.ns)) (hr:(aU gv.ns).P h) (hl:gv.l<2 ^ 20) (hs: ∀n∈gv.ns,n.inn.l<2 ^ 40∧n.weights.l<2 ^ 40∧n.bias.l<2 ^ 40) (hT:KT h):
 au P uF #[gv.v] h (RH (cF gv.gr) no h []):=by
 refine Eu _ ?_;unfold GN;have S:=(((aJ.start h no).read (blk 0 (az bo)) hT).read (row gv.p (aF gv.ns)) k).read (aU gv.ns) hr;refine aA (cs:=gv.cells) S fun b1 h1 _ S=> ?_;dsimp only[Xj,Xi] at S;refine aA (cs:=aL bT (zT bT)) S fun b3 h2 _ S=> ?_;dsimp only[Xj,Xi] at S;refine aN S 0 rfl (x:=gv.t) rfl ?_;refine(Hd H (S.row 1 rfl) (S.r 2 _ rfl) hl (fun n k=>by have:=hs n k;omega) (S.r 0 _ rfl)).mono ?_;rintro _ h3 ⟨rfl,F⟩;replace S:=S.fra0 F;refine⟨_,rfl,bh (fun j=> ?_) (fun j=> ?_)⟩
 ·refine cA S 1 rfl rfl (by decide) fun h4 _ S=> ?_;dsimp only[List.set] at S;refine aN S 1 rfl (x:=(⟨0,0,0,none,0,0,0,[]⟩:Gv).t) rfl ?_;refine⟨(⟨0,0,0,none,0,0,0,[]⟩:Gv),rfl,by unfold cF;rw[if_neg j];rfl,⟨rfl,U3 _,by intro n k;cases k⟩,?_⟩;have U:=(((yu (S.pw [])).nil 15));have S3:=(Mn U).reads0;exact S3
 ·have L:gv.gr.look.e=0:=j;refine aN S 0 rfl (x:=gv.t) rfl ?_;refine(Sq H (S.row 1 rfl) (S.r 2 _ rfl) hl hs).mono ?_;rintro _ h4 ⟨a,rfl,E,q,ad,C⟩;replace S:=S.add C fun _ _ h=>h;dsimp only[Xi,Xj] at S;refine iU a.t ⟨rfl,?_⟩;refine cA S 0 rfl rfl (bu rfl) fun h5 _ S=> ?_;dsimp only[List.set] at S;refine aN S 0 rfl (x:=a.t) rfl ?_;obtain⟨rk,o1,o2,n1,ab,one,_⟩:=JD L;rw[←E] at rk o1 o2 n1 ab one L;have Z:a.gr.nodes.length=a.l:=by rw[←q.1];simp[Gv.gr]
  have o: ∀n∈a.ns,n.inn.l<2 ^ 40:=fun n k=>by
   have h1:=(q.2.2 n k).1.1;obtain⟨i,en⟩:=VN.1 k;have:=(rk i n.nd (by show(a.ns.map Nv.nd)[i]? =_;rw[UW,en];rfl)).1;have e:n.nd.inn=n.inn.xs:=rfl;rw[e] at this;omega
  have z:a.l<2 ^ 20:=by omega
  refine(Q2 hS q (S.own 2 rfl).row (H7 (S.w 3 _ rfl) (S.w 4 _ rfl)) z rk (vQ _) ⟨o1,by rw[←Z];exact o2⟩).mono ?_;rintro _ h6 ⟨r,rfl,C⟩;replace S:=S.add C fun _ _ h=>h;dsimp only[Xi,Xj] at S;refine⟨_,rfl,?_⟩;have Q:=vR L;have A:=E6 (a.gr.nodes.length+1) (a.gr.nodes,a.gr.out,lP a.gr.nodes a.gr.out) Q (Nat.lt_succ_of_le (Ml _ _));have V:cF gv.gr=fp a.gr (de (a.gr.nodes.length+1) (a.gr.nodes,a.gr.out,lP a.gr.nodes a.gr.out)):=by
   rw[←E];unfold cF;rw[if_pos L]
  rw[V];generalize de (a.gr.nodes.length+1) (a.gr.nodes,a.gr.out,lP a.gr.nodes a.gr.out)=F at A
  refine aP (fun mm s g=> ∃(ns:List Nv) (out:Int) (M:LM),s=(⟨b1,0,none⟩,⟨b3,0,none⟩,some r,())∧mm=keys a.l M∧gw (ns.map Nv.nd) out M (posG a.gr.nodes)∧E5 (ns.map Nv.nd,out,M) F∧({a with ns:=ns,out:=out}:Gv).ok∧(∀n∈ns,n.inn.l<2 ^ 40)∧
   aJ h no g [blk b1 ({a with ns:=ns,out:=out}:Gv).cells,blk b3 (aL bT (zT bT)),own 15 a.p a.l a.c (aF ns),fy (ns.map Nv.inn),bP (vT ns),yr r M] [blk 0 (az bo),row gv.p (aF gv.ns),aU gv.ns])
   (keys a.l (lP a.gr.nodes a.gr.out)) ⟨a.ns,a.out,_,rfl,rfl,Q,A,q,o,S⟩ ?_
  clear S C A Q;rintro mm s g ⟨ns,out,M,rfl,rfl,I,A,K,o,S⟩;unfold zz;dsimp only;have C:=S.into [0,2,3,5] [] [];refine(Sm (gv:={a with ns:=ns,out:=out}) K z o I.hasUser C).mono ?_;rintro _ g2 ⟨f,d,B,rfl,b,y,G,X,U⟩;replace S:=S.back [0,2,3,5] U;dsimp only[bE,List.set,Xi,Xj] at S;rw[←X] at S;refine⟨_,rfl,?_⟩;have aa:(ns.map Nv.nd).length=a.l:=by rw[UT];exact K.1
  have u: ∀n∈f,n.inn.l<2 ^ 40:=fun n k=>by
   have:n.inn.l∈f.map fun n=>n.inn.l:=U2 k;rw[G] at this;obtain⟨m,hm,e⟩:=U5.1 this;rw[←e];exact o m hm
  refine eD (fun D=> ?_) (fun D=> ?_)
  ·obtain⟨t,N⟩:=We.1 D;obtain⟨i,w,na,nu,a',s,_⟩:=mR I N;rw[N] at b;have b:(f.map Nv.nd,d,B)=t:=b;cases A with
   |done O=>
    have O:ig (ns.map Nv.nd) out M=none:=O;have:(some t:Option CU)=none:=by rw[←N];exact O
    cases this
   | @more _ t' _ j Y=>
     have j:ig (ns.map Nv.nd) out M=some t':=j;have W:t'=t:=by
      have:(some t':Option CU)=some t:=by rw[←j];exact N
      exact Option.some.inj this
     subst W;have J:=s.inv I;have key:=s.keys I;rw[aa] at key;rw[←b] at J key Y;exact⟨keys a.l B,key,f,d,B,rfl,rfl,J,Y,y,u,S⟩
  ·have hN:ig (ns.map Nv.nd) out M=none:=by
    cases h:ig (ns.map Nv.nd) out M with
    |none=>rfl
    |some x=>
     have D:(ig (ns.map Nv.nd) out M).isSome=false:=D;rw[h] at D;cases D
   have b:(f.map Nv.nd,d,B)=(ig (ns.map Nv.nd) out M).getD (ns.map Nv.nd,out,M):=b;rw[hN] at b;have b:(f.map Nv.nd,d,B)=(ns.map Nv.nd,out,M):=b;have eF:F=(f.map Nv.nd,d,B):=by
    cases A with
    |done O=>exact b.symm
    |more j Y=>
     have j:ig (ns.map Nv.nd) out M=some _:=j;rw[hN] at j;cases j
   rw[eF];refine Ni (gv:={a with ns:=f,out:=d}) y z u (yu S)
end
end
end Go.Proofs.YtdhpmegbmjoekaaGreatDoor.G

