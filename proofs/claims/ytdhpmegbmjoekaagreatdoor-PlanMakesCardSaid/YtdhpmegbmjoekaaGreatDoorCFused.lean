/- CRenum CFused, in one text. -/
import Derived.Test.YtdhpmegbmjoekaaGreatDoorCLv4
set_option linter.unusedVariables false
set_option linter.unusedSimpArgs false
namespace Go.Proofs.YtdhpmegbmjoekaaGreatDoor.G
open Go Go.Sh
section
def dL(N:LM)(k:Int):Int:=(N k).getD 0
def Nd.ren(N:LM)(n:Nd):Nd:={n with inn:=n.inn.map (dL N)}
def cL(ns:List Nd)(M:LM):Nat→List Nd×LM
 |0=>([],qh (fun _=>none) 0 0)
 |i+1=>match ns[i]? with
  |some n=>if(M ((i:Int)+1)).isSome then((cL ns M i).1++[n],qh (cL ns M i).2 ((i:Int)+1) (((cL ns M i).1.length+1:Nat):Int)) else cL ns M i
  |none=>cL ns M i
def dP(g:Gr)(st:Cd):Gr:={g with nodes:=(cL st.1 st.2.2 st.1.length).1.map (Nd.ren (cL st.1 st.2.2 st.1.length).2),out:=dL (cL st.1 st.2.2 st.1.length).2 st.2.1}
def Gr.none0:Gr:=⟨0,0,0,[],0⟩
def dC(g:Gr):Gr:=if g.look.e=0 then dP g (eM (g.nodes.length+1) (g.nodes,g.out,ko g.nodes g.out)) else Gr.none0
def Nv.ren(N:LM)(n:Nv):Nv:={n with inn:={n.inn with xs:=n.inn.xs.map (dL N)}}
def np(ns:List Nv)(M:LM):Nat→List Nv
 |0=>[]
 |i+1=>match ns[i]? with
  |some n=>if(M ((i:Int)+1)).isSome then np ns M i++[n] else np ns M i
  |none=>np ns M i
theorem Hn(ns:List Nv)(M:LM): ∀i,(np ns M i).map Nv.nd=(cL (ns.map Nv.nd) M i).1
 |0=>rfl
 |i+1=>by
  have a:=Hn ns M i;unfold np cL;rw[VP];cases ns[i]? with
  |none=>exact a
  |some n=>
   dsimp only[Option.map_some];split
   ·rw[V2,a];rfl
   ·exact a
theorem AN(ns:List Nv)(M:LM)(i:Nat):(np ns M i).length=(cL (ns.map Nv.nd) M i).1.length:=by rw[←Hn,Ug]
theorem DW(ns:List Nv)(M:LM): ∀i,(np ns M i).Sublist (ns.take i)
 |0=>List.nil_sublist _
 |i+1=>by
  have a:=DW ns M i;unfold np;cases e:ns[i]? with
  |none=>
   have:ns.take (i+1)=ns.take i:=by
    have:=XU.1 e;rw[py (by omega),py (by omega)]
   rw[this];exact a
  |some n=>
   have hi:=(R8.1 e).1;have b:ns[i]=n:=by rw[bo hi]at e;exact Option.some.inj e
   dsimp only;rw[gD hi,b];split
   ·exact a.append (List.Sublist.refl _)
   ·exact a.trans (List.sublist_append_left _ _)
theorem My(ns:List Nv)(M:LM)(i:Nat):(np ns M i).length≤i:=by
 have:=(DW ns M i).length_le;rw[VV]at this;omega
def Ho(N:LM)(xs:List Int)(m:Nat):List Int:=(xs.take m).map (dL N)++xs.drop m
theorem DX(N:LM)(xs:List Int)(m:Nat):(Ho N xs m).length=xs.length:=by unfold Ho;simp;omega
theorem RI(N:LM){xs:List Int}{m:Nat}(a:m<xs.length):(Ho N xs m)[m]? =some xs[m]:=by
 unfold Ho;rw[Wl (by simp;omega),Wz];simp only[Ug,VV];rw[show m+(m-min m xs.length)=m by omega,bo a]
theorem RJ(N:LM){xs:List Int}{m:Nat}(a:m<xs.length):(Ho N xs m).set m (dL N xs[m])=Ho N xs (m+1):=by
 unfold Ho;rw[Wy _ _ (by simp;omega),Ug,VV,Xd (by omega),WD,V6 a,WW,gD a,V2,VY];rfl
theorem RK(N:LM)(xs:List Int):Ho N xs xs.length=xs.map (dL N):=by unfold Ho;simp
def sV(N:LM)(t:Nat)(L:List Nv):List Nv:=(L.take t).map (Nv.ren N)++L.drop t
theorem NQ(N:LM)(L:List Nv):sV N 0 L=L:=by simp[sV]
theorem P9(N:LM)(L:List Nv):sV N L.length L=L.map (Nv.ren N):=by simp[sV]
theorem Jb(N:LM)(t:Nat)(L:List Nv):(sV N t L).length=L.length:=by unfold sV;simp;omega
theorem Qa(N:LM){t:Nat}{L:List Nv}(a:t<L.length):(sV N t L)[t]? =some L[t]:=by
 unfold sV;rw[Wl (by simp;omega),Wz];simp only[Ug,VV];rw[show t+(t-min t L.length)=t by omega,bo a]
theorem NR(N:LM){t:Nat}{L:List Nv}(a:t<L.length):(sV N (t+1) L).map Nv.inn=((sV N t L).map Nv.inn).set t {L[t].inn with xs:=Ho N L[t].inn.xs L[t].inn.xs.length}:=by
 rw[RK];unfold sV;rw[gD a,V2,V2,V2,V2,V6 a];rw[Wy _ _ (by simp;omega)];simp only[Ug,VV];rw[show t-min t L.length=0 by omega,VY];rfl
theorem NS(N:LM)(L:List Nv):aD (L.map (Nv.ren N))=aD L:=by
 unfold aD;congr 1;rw[Xa];refine Wf fun n _=> ?_;show(n.ren N).cells=n.cells;rw[dq,dq];rfl
theorem RL(N:LM)(L:List Nv):vG (L.map (Nv.ren N))=vG L:=by unfold vG;rw[List.flatMap_map];rfl
section
variable {h0 h:ah} {T:Nat→Prop} {R:List bc}
theorem RM{gv:Gv}{L:List Nv}{lp:Option Addr}{b d:Nat}(hL:L.length=b)(hl:b<2 ^ 20)(W: ∀n∈L,n.inn.xs.length=n.inn.l∧n.inn.l<2 ^ 40){b1 b3 r:Nat}{N:LM}{X:bc}{Q:Value→ah→Prop}{I J}
 (S:aG h0 T h [aJ b1 gv.cells,aJ b3 (aK bz (zT bz)),own 15 lp b d (aD L),dw (L.map Nv.inn),xm r N,X] R)
 (H: ∀h',aG h0 T h' [aJ b1 (⟨gv.width,gv.low,gv.high,lp,b,d,dL N gv.out,L.map (Nv.ren N)⟩:Gv).cells,aJ b3 (⟨gv.width,gv.low,gv.high,lp,b,d,dL N gv.out,L.map (Nv.ren N)⟩:Gv).cells,own 15 lp b d (aD (L.map (Nv.ren N))),dw ((L.map (Nv.ren N)).map Nv.inn),xm r N,X] R→Q (⟨gv.width,gv.low,gv.high,lp,b,d,dL N gv.out,L.map (Nv.ren N)⟩:Gv).v h'):
 bf (S:=(Addr×Addr×Option Nat×(Option Addr×Nat×Nat)×(Option Addr×Nat×Nat)×Int×Int×Unit)) (fun K s h=>wi Q I J K s.1 s.2.1 s.2.2.1 s.2.2.2.1.1 s.2.2.2.1.2.1 s.2.2.2.1.2.2 s.2.2.2.2.1.1 s.2.2.2.2.1.2.1 s.2.2.2.2.1.2.2 s.2.2.2.2.2.1 s.2.2.2.2.2.2.1 h) (⟨b1,0,none⟩,⟨b3,0,none⟩,some r,(lp,b,d),(lp,b,d),((b:Nat):Int),(0:Int),()) h:=by
 refine aO (fun z s g=> ∃t:Nat,s=(⟨b1,0,none⟩,⟨b3,0,none⟩,some r,(lp,b,d),(lp,b,d),(b:Int),(t:Int),())∧t≤b∧z=b-t∧
  aG h0 T g [aJ b1 gv.cells,aJ b3 (aK bz (zT bz)),own 15 lp b d (aD L),dw ((sV N t L).map Nv.inn),xm r N,X] R) b ⟨0,rfl,by omega,rfl,by rw[NQ];exact S⟩ ?_
 rintro z s g ⟨t,rfl,ht,rfl,S⟩;simp only[aR,SN];refine aq (fun V=> ?_) (fun U=> ?_)
 ·have f:t<L.length:=by omega
  obtain⟨n,A⟩: ∃n,L[t]? =some n:=⟨_,bo f⟩;have q:L[t]=n:=by rw[bo f]at A;exact Option.some.inj A
  obtain⟨Y,Z⟩:=W n (VL A);have B:=(S.ow 2).row;obtain⟨a,ea⟩:=B.some_of (by rw[bE];omega);rw[ea]at B;refine aC ea rfl (by omega) ?_;refine gi B A ?_;refine aA S fun o D _ S=> ?_;refine bP S 6 rfl rfl (aW rfl) fun E _ S=> ?_;refine ak (p:=n.inn.p) (l:=n.inn.l) (c:=n.inn.c) (S.c 6) ?_;have y:t<((sV N t L).map Nv.inn).length:=by rw[Ug,Jb];exact f
  have w:((sV N t L).map Nv.inn)[t]? =some n.inn:=by rw[VP,Qa N f,q];rfl
  have C:((sV N t L).map Nv.inn).set t n.inn=(sV N t L).map Nv.inn:=by
   rw[bo y]at w;rw[←Option.some.inj w,WJ]
  refine aO (fun z s g=> ∃m:Nat,s=(⟨b1,0,none⟩,⟨b3,0,none⟩,some r,(lp,b,d),⟨o,0,none⟩,(lp,b,d),(b:Int),(t:Int),(n.inn.p,n.inn.l,n.inn.c),(n.inn.l:Int),(m:Int),())∧m≤n.inn.l∧z=n.inn.l-m∧
   aG h0 T g [aJ b1 gv.cells,aJ b3 (aK bz (zT bz)),own 15 lp b d (aD L),dw (((sV N t L).map Nv.inn).set t {n.inn with xs:=Ho N n.inn.xs m}),xm r N,X,aJ o n.cells] R) n.inn.l
   ⟨0,rfl,by omega,rfl,by
     have:Ho N n.inn.xs 0=n.inn.xs:=by simp[Ho]
     rw[this];show aG h0 T E [_,_,_,dw (List.set _ t n.inn),_,_,_] R;rw[C];exact S⟩ ?_
  rintro z s g ⟨m,rfl,hm,rfl,S⟩;simp only[aR,SN];have M:IntKind.wrap .i64 ((m:Int)+1)=((m+1:Nat):Int):=by rw[al (by omega)];rfl
  have O:IntKind.wrap .i64 ((t:Int)+1)=((t+1:Nat):Int):=by rw[al (by omega)];rfl
  have u:(((sV N t L).map Nv.inn).set t {n.inn with xs:=Ho N n.inn.xs m})[t]? =some {n.inn with xs:=Ho N n.inn.xs m}:=by rw[V4 y]
  refine aq (fun G=> ?_) (fun F=> ?_)
  ·have j:m<n.inn.xs.length:=by omega
   have i:bD g n.inn.p (az (Ho N n.inn.xs m)):=qf (S.wd 3) (VL u);obtain⟨a,ea⟩:=i.some_of (by rw[av,DX];omega);have k:bD g (some a) (az (Ho N n.inn.xs m)):=by rw[←ea];exact i
   refine aC ea rfl (by omega) ?_;simp only[hC,VO];refine ae (n:=n.inn.xs[m]) (k.cell (aF (RI _ j))) ?_;refine ak (p:=n.inn.p) (l:=n.inn.l) (c:=n.inn.c) (S.c 6) ?_;refine iN (S.wd 4) ⟨_,rfl,?_⟩;refine aC ea rfl (by omega) ?_;rw[M];refine Qf S 3 rfl u ea (by rw[DX];exact j) fun D S=> ?_;rw[Xc]at S;have e:(Ho N n.inn.xs m).set m ((N n.inn.xs[m]).getD 0)=Ho N n.inn.xs (m+1):=RJ N j;rw[e]at S;exact⟨n.inn.l-(m+1),by omega,m+1,rfl,by omega,rfl,S⟩
  ·have:m=n.inn.xs.length:=by omega
   subst this;rw[O];refine⟨b-(t+1),by omega,t+1,rfl,by omega,rfl,?_⟩;have e:=NR N f;rw[q]at e;rw[e];exact S.pw [0,1,2,3,4,5]
 ·have:t=L.length:=by omega
  subst this;rw[P9]at S;rw[←NS N L]at S;refine ae (n:=gv.out) (S.c 0) ?_;refine iN (S.wd 4) ⟨_,rfl,?_⟩;refine ck S 0 fun D _ S=> ?_;refine ck S 0 fun E _ S=> ?_;refine aL S 0 rfl (x:=(⟨gv.width,gv.low,gv.high,lp,b,d,dL N gv.out,L.map (Nv.ren N)⟩:Gv).t) rfl ?_;refine bP S 1 rfl rfl (aW rfl) fun P _ S=> ?_;refine aL S 1 rfl (x:=(⟨gv.width,gv.low,gv.high,lp,b,d,dL N gv.out,L.map (Nv.ren N)⟩:Gv).t) rfl ?_;exact H P S
end
end
section
theorem Lq{h:ah}{ns:List Nv}(o:(dw (ns.map Nv.inn)).P h)(w:(cM (vG ns)).P h):(aM ns).P h:=by
 rintro f a;obtain⟨n,b,rfl⟩:=VZ.1 a;have c: ∀f∈[n.weights.own,n.bias.own],f.P h:=fun f a=>w f (List.mem_flatMap.2 ⟨n,b,a⟩);rintro f a;simp only[V5,WO,or_false]at a;rcases a with rfl|rfl|rfl
 ·exact qf o (V1 b)
 ·exact Sl.own_row (c _ (by simp))
 ·exact Sl.own_row (c _ (by simp))
theorem RN{a b:List Nv}(h:a.Sublist b): ∀f∈vG a,f∈vG b:=fun f c=>by
 obtain⟨n,d,c⟩:=List.mem_flatMap.1 c;exact List.mem_flatMap.2 ⟨n,h.subset d,c⟩
section
variable {h0 h:ah} {T:Nat→Prop} {R:List bc}
theorem NT{W:List bc}(S:aG h0 T h W R)(i:Nat){ss d:List Sl}(e:W[i]? =some (dw ss))(c:d.Sublist ss):aG h0 T h (W.set i (dw d)) R:=
 S.turn i e _ (fun⟨f,g⟩=>⟨fun s a=>f s (c.subset a),g.sublist c⟩) fun b ⟨s,a,j⟩=>⟨s,c.subset a,j⟩
theorem Lr{W:List bc}(S:aG h0 T h W R)(i:Nat){A B:List bc}(e:W[i]? =some (cM A))(c: ∀f∈B,f∈A):aG h0 T h (W.set i (cM B)) R:=
 S.turn i e _ (fun H f a=>H f (c f a)) fun b ⟨f,a,d⟩=>⟨f,c f a,d⟩
def SH(b:Gr)(T:Nat→Prop)(h0:ah)(R:List bc)(v:Value)(d:ah):Prop:=
 ∃a:Gv,v=a.v∧a.gr=b∧a.ok∧aG h0 T d [own 15 a.p a.l a.c (aD a.ns),dw (a.ns.map Nv.inn),cM (vG a.ns)] R
theorem NU{gv:Gv}(B:gv.ok)(hl:gv.l<2 ^ 20)(hs: ∀n∈gv.ns,n.inn.l<2 ^ 40){b1 b3 r:Nat}{M:LM}{Z}
 (S:aG h0 T h [aJ b1 gv.cells,aJ b3 (aK bz (zT bz)),own 15 gv.p gv.l gv.c (aD gv.ns),dw (gv.ns.map Nv.inn),cM (vG gv.ns),xm r M] R):
 aP h (.map #[] 0) fun f I=>updB .i64 (some f) (0:Int) (.int .i64 (0:Int)) I fun w=>am w (Addr.add ⟨b1,0,none⟩ 3) fun Q C G=>
  bf (S:=(Addr×Addr×Option Nat×Option Nat×(Option Addr×Nat×Nat)×(Option Addr×Nat×Nat)×Int×Int×Unit)) (fun K2 s h=>xS (SH (dP gv.gr (gv.gr.nodes,gv.out,M)) T h0 R) Z K2 s.1 s.2.1 s.2.2.1 s.2.2.2.1 s.2.2.2.2.1.1 s.2.2.2.2.1.2.1 s.2.2.2.2.1.2.2 s.2.2.2.2.2.1.1 s.2.2.2.2.2.1.2.1 s.2.2.2.2.2.1.2.2 s.2.2.2.2.2.2.1 s.2.2.2.2.2.2.2.1 h) (⟨b1,0,none⟩,⟨b3,0,none⟩,some r,(some f),(none,0,0),(Q,C,G),((C:Nat):Int),(0:Int),()) w:=by
 have o:=B.1;refine Ly .i64 S fun f g2 _ S=> ?_;rw[Ht]at S;refine uQ S 6 rfl fun g3 S=> ?_;rw[uP]at S;refine ak (p:=gv.p) (l:=gv.l) (c:=gv.c) (S.c 0) ?_;replace S:=S.nil 15;obtain⟨b,d⟩: ∃b,gv.ns.map Nv.nd=b:=⟨_,rfl⟩
 refine aO (fun W s g=> ∃(i:Nat)(lp:Option Addr)(u F:Nat),s=(⟨b1,0,none⟩,⟨b3,0,none⟩,some r,some f,(lp,u,F),(gv.p,gv.l,gv.c),(gv.l:Int),(i:Int),())∧i≤gv.l∧W=gv.l-i∧u=(np gv.ns M i).length∧
  aG h0 T g [aJ b1 gv.cells,aJ b3 (aK bz (zT bz)),own 15 gv.p gv.l gv.c (aD gv.ns),dw (gv.ns.map Nv.inn),cM (vG gv.ns),xm r M,xm f (cL b M i).2,own 15 lp u F (aD (np gv.ns M i))] R) gv.l ⟨0,none,0,0,rfl,by omega,rfl,rfl,S⟩ ?_
 rintro W s g ⟨i,lp,u,F,rfl,hi,rfl,j,S⟩;have ad:=My gv.ns M i;have y:=AN gv.ns M i;rw[d]at y;simp only[aR,SN];refine aq (fun ai=> ?_) (fun ag=> ?_)
 ·have J:i<gv.ns.length:=by omega
  obtain⟨n,E⟩: ∃n,gv.ns[i]? =some n:=⟨_,bo J⟩;have k:b[i]? =some n.nd:=by rw[←d,VP,E];rfl
  have P:=(S.ow 2).row;obtain⟨a,ea⟩:=P.some_of (by rw[bE];omega);rw[ea]at P;refine aC ea rfl (by omega) ?_;refine gi P E ?_;refine aA S fun aa g4 _ S=> ?_;refine bP S 8 rfl rfl (aW rfl) fun g5 _ S=> ?_;have ei:IntKind.wrap .i64 ((i:Int)+1)=((i+1:Nat):Int):=by rw[al (by omega)];rfl
  rw[ei];refine iN (S.wd 5) ⟨_,_,rfl,?_⟩;have D:(((i+1:Nat):Int))=(i:Int)+1:=rfl;refine cX (fun z=> ?_) (fun z=> ?_)
  ·have H:cL b M (i+1)=((cL b M i).1++[n.nd],qh (cL b M i).2 ((i:Int)+1) (((cL b M i).1.length+1:Nat):Int)):=by
    conv=>lhs;unfold cL
    rw[k];dsimp only;rw[if_pos (by rw[←D];exact z)]
   have v:np gv.ns M (i+1)=np gv.ns M i++[n]:=by
    conv=>lhs;unfold np
    rw[E];dsimp only;rw[if_pos (by rw[←D];exact z)]
   refine aL S 8 rfl (x:=n.t) rfl ?_;refine aA S fun ab g6 _ S=> ?_;refine cI S 7 (ys:=n.cells) rfl rfl (by decide) (by omega) (bD.of_at (S.ap 9)) rfl (aW rfl) fun Y V U g7 A S=> ?_;refine uQ S 6 rfl fun g8 S=> ?_;rw[uP]at S;have S':aG h0 T g8 [aJ b1 gv.cells,aJ b3 (aK bz (zT bz)),own 15 gv.p gv.l gv.c (aD gv.ns),dw (gv.ns.map Nv.inn),cM (vG gv.ns),xm r M,xm f (cL b M (i+1)).2,own 15 Y V U (aD (np gv.ns M (i+1)))] R:=by
    rw[H,v,fK,←y,←j,←A];have:aD [n]=n.cells:=by simp[aD]
    rw[this];exact S.pw [0,1,2,3,4,5,6,7]
   exact⟨gv.l-(i+1),by omega,i+1,Y,V,U,rfl,by omega,rfl,by rw[v,Tz,←j];exact A,S'⟩
  ·have H:cL b M (i+1)=cL b M i:=by
    conv=>lhs;unfold cL
    rw[k];dsimp only;rw[if_neg (by rw[←D,z];simp)]
   have v:np gv.ns M (i+1)=np gv.ns M i:=by
    conv=>lhs;unfold np
    rw[E];dsimp only;rw[if_neg (by rw[←D,z];simp)]
   refine⟨gv.l-(i+1),by omega,i+1,lp,u,F,rfl,by omega,rfl,by rw[v];exact j,?_⟩;rw[H,v];exact S.pw [0,1,2,3,4,5,6,7]
 ·have K:i=gv.l:=by omega
  subst K;have e:(np gv.ns M gv.l).Sublist gv.ns:=by
   have:=DW gv.ns M gv.l;rw[←o,Xr]at this;rw[←o];exact this
  replace S:=NT S 3 rfl (e.map Nv.inn);replace S:=Lr S 4 rfl (RN e);have L: ∀n∈np gv.ns M gv.l,n.ok∧n.inn.l<2 ^ 40:=fun n q=>⟨B.2.2 n (e.subset q),hs n (e.subset q)⟩;refine RM (X:=cM (vG (np gv.ns M gv.l))) j.symm (by omega) (fun n q=>⟨(L n q).1.1.1,(L n q).2⟩) (S.pw [0,1,7,3,6,4]) fun g9 S=> ?_;have O:b.length=gv.l:=by rw[←d,Ug,o]
  refine⟨_,rfl,?_,⟨?_,(S.ow 2).2.1,?_⟩,?_⟩
  ·show Gr.mk _ _ _ (((np gv.ns M gv.l).map (Nv.ren (cL b M gv.l).2)).map Nv.nd) _=dP gv.gr (gv.gr.nodes,gv.out,M);have e2:gv.gr.nodes=b:=d;unfold dP;rw[e2,O,←d,←Hn gv.ns M gv.l,Xa,Xa];rfl
  ·show((np gv.ns M gv.l).map _).length=u;rw[Ug];exact j.symm
  ·intro n q;obtain⟨m,N,rfl⟩:=VZ.1 q;have:=(L m N).1;exact⟨⟨by show(m.inn.xs.map _).length=_;rw[Ug];exact this.1.1,this.1.2⟩,this.2⟩
  ·dsimp only;rw[RL];exact S.pw [2,3,5]
theorem RO(hS:rE){gv:Gv}(H:gv.ok)(k:bD h gv.p (aD gv.ns))(hr:(aM gv.ns).P h)(hl:gv.l<2 ^ 20)(hs: ∀n∈gv.ns,n.inn.l<2 ^ 40∧n.weights.l<2 ^ 40∧n.bias.l<2 ^ 40)(hT:KT h):
 au P tR #[gv.v] h (SH (dC gv.gr) no h []):=by
 refine Dc _ ?_;have S:=(((aG.start h no).read (aJ 0 (az bl)) hT).read (row gv.p (aD gv.ns)) k).read (aM gv.ns) hr;refine aA (cs:=gv.cells) S fun b1 h1 _ S=> ?_;refine aA (cs:=aK bz (zT bz)) S fun b3 h2 _ S=> ?_;refine aL S 0 rfl (x:=gv.t) rfl ?_;refine(Aa H (S.ro 1) (S.rd 2) hl (fun n k=>by have:=hs n k;omega) (S.rd 0)).mono ?_;rintro _ h3 ⟨rfl,F⟩;replace S:=S.fra0 F;refine⟨_,rfl,bh (fun j=> ?_) (fun j=> ?_)⟩
 ·refine bP S 1 rfl rfl (by decide) fun h4 _ S=> ?_;refine aL S 1 rfl (x:=(⟨0,0,0,none,0,0,0,[]⟩:Gv).t) rfl ?_;refine⟨(⟨0,0,0,none,0,0,0,[]⟩:Gv),rfl,by unfold dC;rw[if_neg j];rfl,⟨rfl,VX _,by intro n k;cases k⟩,?_⟩;have Q:=(((yy (S.pw [])).nil 15));have S3:=(yw Q).reads0;exact S3
 ·have L:gv.gr.look.e=0:=j;refine aL S 0 rfl (x:=gv.t) rfl ?_;refine(Tw H (S.ro 1) (S.rd 2) hl hs).mono ?_;rintro _ h4 ⟨a,rfl,E,q,ab,D⟩;replace S:=S.add D fun _ _ h=>h;refine fy a.t ⟨rfl,?_⟩;refine bP S 0 rfl rfl (aW rfl) fun h5 _ S=> ?_;refine aL S 0 rfl (x:=a.t) rfl ?_;obtain⟨rk,o1,o2,n1,aa,one,_⟩:=Jh L;rw[←E]at rk o1 o2 n1 aa one L;have Y:a.gr.nodes.length=a.l:=by rw[←q.1];simp[Gv.gr]
  have o: ∀n∈a.ns,n.inn.l<2 ^ 40:=fun n k=>by
   have h1:=(q.2.2 n k).1.1;obtain⟨i,en⟩:=Wx.1 k;have:=(rk i n.nd (by show(a.ns.map Nv.nd)[i]? =_;rw[VP,en];rfl)).1;have e:n.nd.inn=n.inn.xs:=rfl;rw[e]at this;omega
  have z:a.l<2 ^ 20:=by omega
  refine(RZ hS q (S.ow 2).row (Lq (S.wd 3) (S.wd 4)) z rk (Cc _) ⟨o1,by rw[←Y];exact o2⟩).mono ?_;rintro _ h6 ⟨r,rfl,D⟩;replace S:=S.add D fun _ _ h=>h;refine⟨_,rfl,?_⟩;have I0:=vl L;have C:=yt (a.gr.nodes.length+1) (a.gr.nodes,a.gr.out,ko a.gr.nodes a.gr.out) I0 (Nat.lt_succ_of_le (Cb _ _));have U:dC gv.gr=dP a.gr (eM (a.gr.nodes.length+1) (a.gr.nodes,a.gr.out,ko a.gr.nodes a.gr.out)):=by
   rw[←E];unfold dC;rw[if_pos L]
  rw[U];generalize eM (a.gr.nodes.length+1) (a.gr.nodes,a.gr.out,ko a.gr.nodes a.gr.out)=F at C
  refine aO (fun mm s g=> ∃(ns:List Nv)(out:Int)(M:LM),s=(⟨b1,0,none⟩,⟨b3,0,none⟩,some r,())∧mm=keys a.l M∧gm (ns.map Nv.nd) out M (posG a.gr.nodes)∧yr (ns.map Nv.nd,out,M) F∧({a with ns:=ns,out:=out}:Gv).ok∧(∀n∈ns,n.inn.l<2 ^ 40)∧
   aG h no g [aJ b1 ({a with ns:=ns,out:=out}:Gv).cells,aJ b3 (aK bz (zT bz)),own 15 a.p a.l a.c (aD ns),dw (ns.map Nv.inn),cM (vG ns),xm r M] [aJ 0 (az bl),row gv.p (aD gv.ns),aM gv.ns])
   (keys a.l (ko a.gr.nodes a.gr.out)) ⟨a.ns,a.out,_,rfl,rfl,I0,C,q,o,S⟩ ?_
  rintro mm s g ⟨ns,out,M,rfl,rfl,I,C,K,o,S⟩;unfold xT;have D:=S.into [0,2,3,5] [] [];refine(Tt (gv:={a with ns:=ns,out:=out}) K z o I.hasUser D).mono ?_;rintro _ g2 ⟨f,d,A,rfl,b,y,G,W,Q⟩;replace S:=S.back [0,2,3,5] Q;rw[←W]at S;refine⟨_,rfl,?_⟩;have Z:(ns.map Nv.nd).length=a.l:=by rw[Ug];exact K.1
  have u: ∀n∈f,n.inn.l<2 ^ 40:=fun n k=>by
   have:n.inn.l∈f.map fun n=>n.inn.l:=V1 k;rw[G]at this;obtain⟨m,hm,e⟩:=VZ.1 this;rw[←e];exact o m hm
  refine cX (fun B=> ?_) (fun B=> ?_)
  ·obtain⟨t,N⟩:=W8.1 B;obtain⟨i,w,na,nu,a',s,_⟩:=vk I N;rw[N]at b;have b:(f.map Nv.nd,d,A)=t:=b;cases C with
   |done O=>
    have O:fd (ns.map Nv.nd) out M=none:=O;have:(some t:Option Cd)=none:=by rw[←N];exact O
    cases this
   | @more _ t' _ j X=>
     have j:fd (ns.map Nv.nd) out M=some t':=j;have V:t'=t:=by
      have:(some t':Option Cd)=some t:=by rw[←j];exact N
      exact Option.some.inj this
     subst V;have J:=s.inv I;have key:=s.keys I;rw[Z]at key;rw[←b]at J key X;exact⟨keys a.l A,key,f,d,A,rfl,rfl,J,X,y,u,S⟩
  ·have hN:fd (ns.map Nv.nd) out M=none:=by
    cases h:fd (ns.map Nv.nd) out M with
    |none=>rfl
    |some x=>
     have B:(fd (ns.map Nv.nd) out M).isSome=false:=B;rw[h]at B;cases B
   have b:(f.map Nv.nd,d,A)=(fd (ns.map Nv.nd) out M).getD (ns.map Nv.nd,out,M):=b;rw[hN]at b;have b:(f.map Nv.nd,d,A)=(ns.map Nv.nd,out,M):=b;have eF:F=(f.map Nv.nd,d,A):=by
    cases C with
    |done O=>exact b.symm
    |more j X=>
     have j:fd (ns.map Nv.nd) out M=some _:=j;rw[hN]at j;cases j
   rw[eF];refine NU (gv:={a with ns:=f,out:=d}) y z u (yy S)
