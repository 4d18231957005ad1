/- CPlan CPlan2 CPlan3, in one text. -/
import Derived.Test.YtdhpmegbmjoekaaGreatDoorCFld2
import Derived.Test.YtdhpmegbmjoekaaGreatDoorCCrc
import Derived.Test.YtdhpmegbmjoekaaGreatDoorCFitR
import Derived.Test.YtdhpmegbmjoekaaGreatDoorCFused
import Derived.Test.YtdhpmegbmjoekaaGreatDoorCSorted
import Derived.Test.YtdhpmegbmjoekaaGreatDoorCLayout
import Derived.Test.YtdhpmegbmjoekaaGreatDoorCDec3
import Derived.Test.YtdhpmegbmjoekaaGreatDoorCReachV
import Derived.Test.YtdhpmegbmjoekaaGreatDoorCModelR2
set_option linter.unusedVariables false
set_option linter.unusedSimpArgs false
namespace Go.Proofs.YtdhpmegbmjoekaaGreatDoor.G
open Go Go.Sh
section
structure Rn where
 pos:Int
 width:Int
 room:Int
def Rn.cells (r:Rn):List Value:=[.int .i64 r.pos,.int .i64 r.width,.int .i64 r.room]
def Rn.zero:Rn:=⟨0,0,0⟩
def gZ (rs:List Rn):List Value:=(rs.map Rn.cells).flatten
theorem mq (rs:List Rn):(gZ rs).length=rs.length*3:=qA Rn.cells 3 (fun _=>rfl) rs
theorem tK {rs:List Rn} {i j:Nat} {x:Rn} (h:rs[i]? =some x) (a:j<3):(gZ rs)[i*3+j]? =x.cells[j]? :=vM Rn.cells 3 (fun _=>rfl) rs i j x h a
theorem ME (n:Nat):(List.replicate n Rn.zero.cells).flatten=gZ (List.replicate n .zero):=by unfold gZ;rw[List.map_replicate]
theorem Gb {rs:List Rn} {i:Nat} (hi:i<rs.length) (x:Rn):((((gZ rs).set (i*3) (.int .i64 x.pos)).set (i*3+1) (.int .i64 x.width)).set (i*3+2) (.int .i64 x.room))=gZ (rs.set i x):=
 De Rn.cells 3 (fun _=>rfl) (by decide) x hi
theorem IE {α:Type} {l:List α} {i:Nat} {v:α} (h:l[i]? =some v):l.set i v=l:=by
 obtain⟨hi,e⟩:=Pt.1 h;rw[←e,V4]
theorem MF {rs:List Rn} {i:Nat} {x:Rn} (e:rs[i]? =some x) (y:Int):(gZ rs).set (i*3) (.int .i64 y)=gZ (rs.set i {x with pos:=y}):=by
 have hi:=(Pt.1 e).1;rw[←Gb hi {x with pos:=y}];have a:((gZ rs).set (i*3) (.int .i64 y)).set (i*3+1) (.int .i64 x.width)=(gZ rs).set (i*3) (.int .i64 y):=by
  refine IE ?_;rw[VS (by omega),tK e (by decide)];rfl
 have b:((gZ rs).set (i*3) (.int .i64 y)).set (i*3+2) (.int .i64 x.room)=(gZ rs).set (i*3) (.int .i64 y):=by
  refine IE ?_;rw[VS (by omega),tK e (by decide)];rfl
 dsimp only;rw[a,b]
structure Pv where
 g:Gv
 o:Sl
 rp:Option Addr
 rl:Nat
 rc:Nat
 rs:List Rn
 words:Int
 macs:Int
 hash:Int
abbrev RL:List Sc:=[.int .i64,.int .i64,.int .i64,.slice,.int .i64,.slice,.slice,.int .i64,.int .i64,.int .u32]
def Pv.t (p:Pv):TS RL:=(p.g.width,p.g.low,p.g.high,(p.g.p,p.g.l,p.g.c),p.g.out,(p.o.p,p.o.l,p.o.c),(p.rp,p.rl,p.rc),p.words,p.macs,p.hash,())
def Pv.cells (p:Pv):List Value:=aL RL p.t
abbrev Pv.v (p:Pv):Value:=bB RL p.t
def Pv.zero:Pv:=⟨⟨0,0,0,none,0,0,0,[]⟩,⟨none,0,0,[]⟩,none,0,0,[],0,0,0⟩
theorem Oa (a b:Int):(Int.tdiv a b).natAbs≤a.natAbs:=by rw[Int.natAbs_tdiv];exact Nat.div_le_self _ _
theorem Da {n:Nd} {a b B:Int} {Hi:Int→Int}: ∀(l o:List Int),(∀j∈l,j.toNat<o.length)→(∀j∈l,Dd n a (dV (b-Hi j))≤B)→(∀y∈o,1≤y∧y≤B)→ ∀y∈l.foldl (qO n a b Hi) o,1≤y∧y≤B
 |[],o,_,_,ho=>ho
 |j::r,o,hl,hb,ho=>by
  rw[Wb];refine Da r _ (fun x c=>by unfold qO;rw[U1];exact hl x (Vd _ c)) (fun x c=>hb x (Vd _ c)) fun y d=> ?_;unfold qO at d;have e:=hl j VG;have g:=hb j VG;have f:o.getD j.toNat 0∈o:=by rw[cH e];exact UU _
  have i:=ho _ f;rcases Wc d with h|h
  ·exact ho y h
  ·rw[h];split<;>omega
section
variable {gv:Gv} {W R Lo Hi:Int→Int} {pos:Int→Nat}
theorem MG (d:gv.ok) (rt:bM gv.gr W R pos) (rc:Reach gv.gr.nodes R Lo Hi) {i:Nat} {n:Nd} (en:gv.gr.nodes[i]? =some n) {j:Int} (p:j∈n.inn):Dd n (R ((i:Int)+1)) (dV (qI (n.inn.map Hi)-Hi j))≤2 ^ 43:=by
 have f:=d.1;have g:gv.gr.nodes.length=gv.l:=by rw[←f];simp[Gv.gr]
 have e:=Ko d rt rc;have k:=(Pt.1 en).1;have a:=rt.node en;rw[g] at a k;have u:=eQ (rt.chk i n en);have v:=(e ((i:Int)+1) (by omega) (by omega)).2.2;have b:=a.2.2.2.2 j p;have x:=(e j b.1 b.2).2.1;obtain⟨m,r,o⟩:=U5.1 (Hl (l:=n.inn.map Hi) (by rw[UT];exact a.1));have c:=a.2.2.2.2 m r;have y:=(e m c.1 c.2).2.1;rw[←o];unfold Dd;have w: ∀{n:Int},-9223372036854775808≤n∧n≤9223372036854775807→dV n=n:=fun h=>al (by omega);rw[w (n:=Hi m-Hi j) (by omega)];split
 ·split
  ·decide
  ·rw[w (n:=Hi m-Hi j+R ((i:Int)+1)) (by omega),w (n:=Hi m-Hi j+R ((i:Int)+1)-1) (by omega)];have t:=Oa (Hi m-Hi j+R ((i:Int)+1)-1) (R ((i:Int)+1));generalize Int.tdiv (Hi m-Hi j+R ((i:Int)+1)-1) (R ((i:Int)+1))=q at t;rw[w (n:=q) (by omega),w (n:=q+1) (by omega)];omega
 ·have:=u.2.2.2.2.1;omega
theorem MH (a:gv.ok) (rt:bM gv.gr W R pos) (rc:Reach gv.gr.nodes R Lo Hi):(gv.gr.rooms R Hi).length=gv.l+1∧ ∀y∈gv.gr.rooms R Hi,1≤y∧y≤2 ^ 43:=by
 have b:=a.1;have c:gv.gr.nodes.length=gv.l:=by rw[←b];simp[Gv.gr]
 refine⟨by unfold Gr.rooms;rw[o6,c],?_⟩;have key: ∀k,∀y∈gK gv.gr.nodes R Hi k,1≤y∧y≤2 ^ 43:=by
  intro k
  induction k with
  |zero=>intro y g;unfold gK at g;rw[Wf] at g;have:=List.eq_of_mem_replicate g;rw[this];decide
  |succ k m=>
   by_cases o:k<(cC gv.gr.nodes).length
   ·unfold gK;rw[py o,Vk];show ∀y∈mU _ _ _ (gK gv.gr.nodes R Hi k) _,_;have f:=fJ gv.gr.nodes gv.gr.nodes.length _ (UU o);obtain⟨i,p⟩: ∃i:Nat,(cC gv.gr.nodes)[k]=(i:Int)+1:=⟨((cC gv.gr.nodes)[k]-1).toNat,by have:1≤(cC gv.gr.nodes)[k]:=f.1;omega⟩;rw[p];unfold mU;rw[show((i:Int)+1).toNat-1=i by omega];split
    ·exact m
    ·rename_i n en;have e:=rt.node en;refine Da _ _ (fun j d=> ?_) (fun j d=>MG a rt rc en d) m;have:=e.2.2.2.2 j d;rw[o6];omega
   ·have:gK gv.gr.nodes R Hi (k+1)=gK gv.gr.nodes R Hi k:=by unfold gK;rw[N6 (by omega),N6 (by omega)]
    rw[this];exact m
 exact key _
end
def Gr.sizesF (g:Gr) (W R Hi:Int→Int):List Int:=(List.range (g.nodes.length+1)).map fun x:Nat=>(g.rooms R Hi).getD x 0*W x
def Gr.rings (g:Gr) (W R Hi:Int→Int) (a:List Int):List Rn:=(List.range (g.nodes.length+1)).map fun x:Nat=>⟨a.getD x 0,W x,(g.rooms R Hi).getD x 0⟩
section
variable {h:af} {s:List UInt8}
theorem qB.sep {h d:af} {sz:Nat} {p:Option Addr} {l c:Nat} {xs:List Value} (F:cp no h d) (o:qB d h.size sz p l c xs):aJ h no d [own sz p l c xs] []:=by
 refine aJ.one F (o.mono (V1 _)) fun b g f=> ?_;obtain⟨a,ea,rfl⟩:=g;obtain⟨_,_,⟨e,_⟩|⟨b,i,e,g,_⟩⟩:=o
 ·rw[e] at ea;cases ea
 ·rw[e] at ea;cases ea;exact absurd f (by show ¬b<h.size;omega)
theorem Ob (m:s.length<2 ^ 60) (e:(Fq s).2≠0):au P iP #[.string (str s)] h fun v d=>v= .tuple #[Pv.zero.v,.int .i64 (Fq s).2]∧cp no h d:=by
 refine tT _ ?_;unfold Al;have S:=aJ.start h no;refine aA (cs:=Pv.zero.cells) S (fun f _ _ S=> ?_);dsimp only[Xj,Xi] at S;refine(JT (by omega)).mono ?_;rintro _ i ⟨gv,rfl,c,b,a⟩;replace S:=S.add a fun _ _ h=>h;dsimp only[Xi,Xj] at S;refine iU gv.t ⟨_,rfl,?_⟩;refine aA (cs:=aL bT (zT bT)) S fun g j _ S=> ?_;dsimp only[Xi,Xj] at S;refine cA S 3 rfl rfl (bu rfl) fun k _ S=> ?_;dsimp only[List.set] at S;refine bh (fun _=> ?_) (fun h=>absurd h e);refine cA S 0 rfl rfl (show ∀y∈Pv.zero.cells,lK y=true from bu rfl) fun l _ S=> ?_;dsimp only[List.set] at S;exact aN S 0 rfl (x:=Pv.zero.t) rfl ⟨rfl,S.fra⟩
end
end
section
theorem LK: ∀(xs:List Int) (e:Int) (x:List Int×Int),CV xs e=some x→x.1.length=xs.length
 |[],e,x,h=>by cases h;rfl
 |n::r,e,x,h=>by
  unfold CV at h;split at h
  ·cases h
  ·obtain⟨y,a,rfl⟩:=V8.1 h;simp only[UY,LK r _ y a]
theorem Kl {xs:List Int} (h:(fL xs).2.2=0):(fL xs).1.length=xs.length:=by
 unfold fL at h ⊢;split at h
 ·exact absurd h (by decide)
 ·rename_i a;rw[if_neg a];cases hl:CV xs 0 with
  |none=>rw[hl] at h;exact absurd h (by decide)
  |some x=>exact LK xs 0 x hl
theorem MI {xs:List Int} (c: ∀n∈xs,0≤n) (h:(fL xs).2.2≠0):(fL xs).2.2=17:=by
 unfold fL at h ⊢;rw[if_neg (by rintro⟨n,b,a⟩;have:=c n b;omega)] at h ⊢;cases a:CV xs 0 with
 |none=>rfl
 |some x=>rw[a] at h;exact absurd rfl h
def RM (G:Gr) (W R Hi:Int→Int) (pv:Pv) (h b:af):Prop:=
 pv.g.gr=G∧pv.g.ok∧pv.o.ok∧pv.o.xs=cC G.nodes∧pv.rl=G.nodes.length+1∧pv.rs=G.rings W R Hi (fL (G.sizesF W R Hi)).1∧pv.words=(fL (G.sizesF W R Hi)).2.1∧pv.macs=G.macs∧pv.hash=G.hash∧(∀x:Nat,x≤G.nodes.length→(1≤W x∧W x≤16)∧(1≤(G.rooms R Hi).getD x 0∧(G.rooms R Hi).getD x 0≤2 ^ 43))∧
  ∃a,pv.rp=some ⟨a,0,none⟩∧aJ h no b [own 15 pv.g.p pv.g.l pv.g.c (aF pv.g.ns),fy (pv.g.ns.map Nv.inn),bP (vT pv.g.ns),own 1 pv.o.p pv.o.l pv.o.c (az pv.o.xs),blk a (gZ pv.rs)] []
def RB (G:Gr) (W R Hi:Int→Int) (h:af) (v:Value) (b:af):Prop:=
 ∃(a:Pv) (e:Int),v= .tuple #[a.v,.int .i64 e]∧cp no h b∧e=(fL (G.sizesF W R Hi)).2.2∧(e≠0→e=17∧a=Pv.zero)∧(e=0→RM G W R Hi a h b)
section
variable {h:af} {s:List UInt8} {gv:Gv} {W R Lo Hi:Int→Int} {pos:Int→Nat}
theorem MJ (q:gv.ok) (rt:bM gv.gr W R pos) (rc:Reach gv.gr.nodes R Lo Hi) {O I:Nat} {g:af} {Q:Value→af→Prop} (HQ: ∀v h',RB gv.gr W R Hi h v h'→Q v h')
 (S:aJ h no g [blk O Pv.zero.cells,blk I gv.cells,own 15 gv.p gv.l gv.c (aF gv.ns),fy (gv.ns.map Nv.inn),bP (vT gv.ns)] [blk 0 (az bo)]):
 aT bT g ⟨I,0,none⟩ fun a9=>bt P kS #[(bB bT a9)] g fun a5 u ap ay=>
  qM 52 3 24 (.agg #[(.int .i64 (0:Int)),(.int .i64 (0:Int)),(.int .i64 (0:Int))]) ((u:Nat):Int) ((u:Nat):Int) ay fun j a0=>
  qM 3 1 8 (.int .i64 (0:Int)) ((u:Nat):Int) ((u:Nat):Int) a0 fun B Z=>
  aT bT Z ⟨I,0,none⟩ fun ba=>bt P gA #[(bB bT ba)] Z fun a6 ad aw a1=>
  aZ (S:=Addr×Addr×Qc×Qc×Qc×Qc×Int×Int×Unit) (fun K1 s h'=>o7 Q K1 s.1 s.2.1 s.2.2.1.1 s.2.2.1.2.1 s.2.2.1.2.2 s.2.2.2.1.1 s.2.2.2.1.2.1 s.2.2.2.1.2.2 s.2.2.2.2.1.1 s.2.2.2.2.1.2.1 s.2.2.2.2.1.2.2 s.2.2.2.2.2.1.1 s.2.2.2.2.2.1.2.1 s.2.2.2.2.2.1.2.2 s.2.2.2.2.2.2.1 s.2.2.2.2.2.2.2.1 h')
   (⟨O,0,none⟩,⟨I,0,none⟩,(a5,u,ap),(some ⟨j,0,none⟩,((u:Nat):Int).toNat,((u:Nat):Int).toNat),(some ⟨B,0,none⟩,((u:Nat):Int).toNat,((u:Nat):Int).toNat),(a6,ad,aw),((ad:Nat):Int),(0:Int),()) a1:=by
 have a3:=q.1;have E:gv.gr.nodes.length=gv.l:=by rw[←a3];simp[Gv.gr]
 have bb:gv.l≤12:=by have:=(bR rt.first).2.1;omega
 have hs:=rt.sizes q;obtain⟨a7,ag⟩:=MH q rt rc;have nr: ∀{g:af} {W2:List aY},aJ h no g W2 [blk 0 (az bo)]→W2[3]? =some (fy (gv.ns.map Nv.inn))→W2[4]? =some (bP (vT gv.ns))→(aU gv.ns).P g:=fun S e3 e4=>H7 (S.w 3 _ e3) (S.w 4 _ e4);refine aN S 1 rfl (x:=gv.t) rfl ?_;refine(Oh q (S.own 2 rfl).row (nr S rfl rfl) hs (S.r 0 _ rfl) rt rc).mono ?_;rintro _ g1 ⟨bm,rfl,N⟩;replace S:=S.add N fun _ _ h=>h;dsimp only[Xi,Xj] at S;refine⟨_,_,_,rfl,?_⟩;refine dQ S (gv.l+1) rfl (zs:=Rn.zero.cells) rfl rfl (by decide) (by omega) (by omega) fun j g2 _ S=> ?_;dsimp only[Xi,Xj] at S;rw[ME] at S;refine dQ S (gv.l+1) rfl (zs:=[.int .i64 0]) rfl rfl (by decide) (by omega) (by omega) fun B g3 _ S=> ?_;dsimp only[Xi,Xj] at S;rw[ib,show List.replicate (gv.l+1) (Value.int .i64 0)=az (List.replicate (gv.l+1) 0) by simp[az]] at S;refine aN S 1 rfl (x:=gv.t) rfl ?_;refine(Ai q (S.own 2 rfl).row (nr S rfl rfl) hs (S.r 0 _ rfl)).mono ?_;rintro _ g4 ⟨w,rfl,ao,ew,N⟩;rw[rt.look,E] at ew;replace S:=S.add N fun _ _ h=>h;dsimp only[Xi,Xj] at S;have bd:w.l=gv.l+1:=by rw[←ao.1,ew];simp
 refine⟨_,_,_,rfl,?_⟩;simp only[oe];obtain⟨f,C⟩: ∃f,gv.gr.rooms R Hi=f:=⟨_,rfl⟩;rw[C] at S a7 ag;have M: ∀x,x<gv.l+1→f[x]? =some (f.getD x 0):=fun x z=>by rw[UV,aO (by omega)];rfl
 have ai: ∀x,x<gv.l+1→1≤f.getD x 0∧f.getD x 0≤2 ^ 43:=fun x z=>ag _ (UR (M x z));have aj: ∀x:Nat,x<gv.l+1→(1≤W x∧W x≤16):=fun x z=>rt.wide (by omega) (by omega);have A: ∀x:Nat,x<gv.l+1→0≤f.getD x 0*W x∧f.getD x 0*W x≤2 ^ 43*16:=fun x z=>by
  have a:=ai x z;have b:=aj x z;exact⟨Vw (by omega) (by omega),Vv a.2 b.2 (by omega) (by decide)⟩
 have D:gv.gr.sizesF W R Hi=(List.range (gv.l+1)).map fun x:Nat=>f.getD x 0*W x:=by unfold Gr.sizesF;rw[C,E]
 refine aP (fun m s g=> ∃i:Nat,s=(⟨O,0,none⟩,⟨I,0,none⟩,(some ⟨bm,0,none⟩,gv.l+1,gv.l+1),(some ⟨j,0,none⟩,gv.l+1,gv.l+1),(some ⟨B,0,none⟩,gv.l+1,gv.l+1),(w.p,w.l,w.c),(w.l:Int),(i:Int),())∧i≤gv.l+1∧m=gv.l+1-i∧
  aJ h no g [blk O Pv.zero.cells,blk I gv.cells,own 15 gv.p gv.l gv.c (aF gv.ns),fy (gv.ns.map Nv.inn),bP (vT gv.ns),blk bm (az f),blk j (gZ ((List.range i).map (fun x:Nat=>(⟨0,W x,f.getD x 0⟩:Rn))++List.replicate (gv.l+1-i) .zero)),
   blk B (az ((List.range i).map (fun x:Nat=>f.getD x 0*W x)++List.replicate (gv.l+1-i) 0)),own 1 w.p w.l w.c (az w.xs)] [blk 0 (az bo)]) (gv.l+1) ⟨0,rfl,by omega,rfl,S⟩ ?_
 clear S N;rintro m s g ⟨i,rfl,hi,rfl,S⟩;unfold o7;dsimp only;refine am (fun e=> ?_) (fun a2=> ?_)
 ·have e:i<gv.l+1:=by omega
  have wr:=(S.own 8 rfl).row;obtain⟨wa,Y⟩:=wr.some_of (by rw[av,ao.1];omega);rw[Y] at wr;refine aB Y (k:=i) rfl (by omega) ?_;simp only[oe,US];refine ae (n:=W (i:Int)) (wr.cell (aI (by rw[ew,UW,Vj (by omega)];rfl))) ?_;refine aB rfl (k:=i) rfl e ?_;simp only[aQ,SI];refine ae (S.cell 5 rfl (aI (M i e))) (aB rfl (k:=i) rfl e ?_);simp only[aQ,SI];have hA:((List.range i).map (fun x:Nat=>(⟨0,W x,f.getD x 0⟩:Rn))).length=i:=by rw[UT,V2]
  have hB:((List.range i).map (fun x:Nat=>f.getD x 0*W x)).length=i:=by rw[UT,V2]
  have bg:(gZ ((List.range i).map (fun x:Nat=>(⟨0,W x,f.getD x 0⟩:Rn))++List.replicate (gv.l+1-i) .zero)).length=(gv.l+1)*3:=by rw[mq,Rb,hA,UZ];congr 1;omega
  refine aE S 6 rfl (by omega) fun _ _ S=> ?_;dsimp only[List.set] at S;refine aE S 6 rfl (by rw[U1];omega) fun _ _ S=> ?_;dsimp only[List.set] at S;refine aE S 6 rfl (by rw[U1,U1];omega) fun _ _ S=> ?_;dsimp only[List.set] at S;rw[Gb (by rw[Rb,hA,UZ];omega) (⟨0,W (i:Int),f.getD i 0⟩:Rn),tL hA e] at S;refine aB rfl (k:=i) rfl e ?_;simp only[aQ,SI];refine ae (S.cell 5 rfl (aI (M i e))) (aB rfl (k:=i) rfl e ?_);simp only[aQ,SI];have hp:=A i e;rw[al (n:=f.getD i 0*W (i:Int)) (by omega),al (n:=(i:Int)+1) (by omega)];refine aE S 7 rfl (by rw[av,Rb,hB,UZ];omega) fun _ _ S=> ?_;dsimp only[List.set] at S;rw[bA,tL hB e] at S;refine⟨gv.l+1-(i+1),by omega,i+1,rfl,by omega,rfl,?_⟩;rw[Wy,U4,U4];exact S
 ·have ei:i=gv.l+1:=by omega
  subst ei;rw[VJ,Wt,Wt,Vh,Vh,←D] at S;have an:(gv.gr.sizesF W R Hi).length=gv.l+1:=by rw[D];simp
  have a8: ∀n∈gv.gr.sizesF W R Hi,-2 ^ 63≤n∧n<2 ^ 63:=fun n hn=>by
   rw[D] at hn;obtain⟨x,z,rfl⟩:=U5.1 hn;have:=A x (VD.1 z);omega
  refine(NL (bI.of_at (S.at 7 rfl)) an (by omega) a8).mono ?_;rintro _ g5 ⟨pa,la,ca,rfl,oA,F⟩;replace S:=S.add (qB.sep F oA) fun _ _ h=>h;dsimp only[Xi,Xj] at S;refine⟨_,_,_,_,_,rfl,bh (fun he=> ?_) (fun he=> ?_)⟩
  ·refine cA S 0 rfl rfl (show ∀y∈Pv.zero.cells,lK y=true from bu rfl) fun g6 _ S=> ?_;dsimp only[List.set] at S;refine aN S 0 rfl (x:=Pv.zero.t) rfl (HQ _ _ ⟨Pv.zero,_,rfl,S.fra,rfl,fun _=>⟨MI (fun n hn=> ?_) he,rfl⟩,fun h=>absurd h he⟩);rw[D] at hn;obtain⟨x,z,rfl⟩:=U5.1 hn;exact(A x (VD.1 z)).1
  ·obtain⟨d,J⟩: ∃d,(fL (gv.gr.sizesF W R Hi)).1=d:=⟨_,rfl⟩;have U:d.length=gv.l+1:=by rw[←J,Kl he,an]
   rw[J] at S;have bk:la=gv.l+1:=by
    have:=(S.own 9 rfl).1;rw[av,U,US] at this;exact this.symm
   have G: ∀i,i≤gv.l→((List.range (gv.l+1)).map (fun x:Nat=>(⟨if x<i then d.getD x 0 else 0,W x,f.getD x 0⟩:Rn))).set i {(⟨0,W (i:Int),f.getD i 0⟩:Rn) with pos:=d.getD i 0}=(List.range (gv.l+1)).map (fun x:Nat=>(⟨if x<i+1 then d.getD x 0 else 0,W x,f.getD x 0⟩:Rn)):=by
    intro i hi;apply Vo;intro x;by_cases z:x<gv.l+1
    ·by_cases ab:x=i
     ·subst ab;rw[Ve (by simp;omega),UW,Vj z];simp
     ·rw[VS (fun h=>ab h.symm),UW,UW,Vj z];have:(x<i)=(x<i+1):=by rw[eq_iff_iff];omega
      simp only[Option.map_some,this]
    ·rw[Vc (by simp;omega),Vc (by simp;omega)]
   have K:(List.range (gv.l+1)).map (fun x:Nat=>(⟨0,W x,f.getD x 0⟩:Rn))=(List.range (gv.l+1)).map (fun x:Nat=>(⟨if x<0 then d.getD x 0 else 0,W x,f.getD x 0⟩:Rn)):=U8 fun x _=>by rw[if_neg (W3 x)]
   rw[K] at S
   refine aP (fun m s g=> ∃i:Nat,s=(⟨O,0,none⟩,⟨I,0,none⟩,(some ⟨j,0,none⟩,gv.l+1,gv.l+1),(pa,la,ca),(fL (gv.gr.sizesF W R Hi)).2.1,((gv.l+1:Nat):Int),(i:Int),())∧i≤gv.l+1∧m=gv.l+1-i∧
    aJ h no g [blk O Pv.zero.cells,blk I gv.cells,own 15 gv.p gv.l gv.c (aF gv.ns),fy (gv.ns.map Nv.inn),bP (vT gv.ns),blk j (gZ ((List.range (gv.l+1)).map (fun x:Nat=>(⟨if x<i then d.getD x 0 else 0,W x,f.getD x 0⟩:Rn)))),own 1 pa la ca (az d)] [blk 0 (az bo)]) (gv.l+1) ⟨0,rfl,by omega,rfl,S.pw [0,1,2,3,4,6,9]⟩ ?_
   clear S oA F;rintro m s g ⟨i,rfl,hi,rfl,S⟩;unfold wC;dsimp only;refine am (fun e=> ?_) (fun a2=> ?_)
   ·have e:i<gv.l+1:=by omega
    have ar:=(S.own 6 rfl).row;obtain⟨aa,V⟩:=ar.some_of (by rw[av,U];omega);rw[V] at ar;refine aB V (k:=i) rfl (by omega) ?_;simp only[oe,US];refine ae (n:=d.getD i 0) (ar.cell (aI (by rw[UV,aO (by omega)];rfl))) (aB rfl (k:=i) rfl e ?_);simp only[aQ,SI];refine aE S 5 rfl (by rw[mq];simp only[UT,V2];omega) fun _ _ S=> ?_;dsimp only[List.set] at S;have ax:((List.range (gv.l+1)).map (fun x:Nat=>(⟨if x<i then d.getD x 0 else 0,W x,f.getD x 0⟩:Rn)))[i]? =some ⟨0,W (i:Int),f.getD i 0⟩:=by
     rw[UW,Vj e,Option.map_some,if_neg (Nat.lt_irrefl i)]
    rw[MF ax,G i (by omega)] at S;rw[al (n:=(i:Int)+1) (by omega)];exact⟨gv.l+1-(i+1),by omega,i+1,rfl,by omega,rfl,S⟩
   ·have ei:i=gv.l+1:=by omega
    subst ei;have L:(List.range (gv.l+1)).map (fun x:Nat=>(⟨if x<gv.l+1 then d.getD x 0 else 0,W x,f.getD x 0⟩:Rn))=gv.gr.rings W R Hi d:=by
     unfold Gr.rings;rw[E,C];exact U8 fun x z=>by rw[if_pos (VD.1 z)]
    rw[L] at S;refine aN S 1 rfl (x:=gv.t) rfl (aN S 1 rfl (x:=gv.t) rfl (aN S 1 rfl (x:=gv.t) rfl (aN S 1 rfl (x:=gv.t) rfl ?_)));refine(Dg q (S.own 2 rfl).row (nr S rfl rfl) hs (S.r 0 _ rfl)).mono ?_;rintro _ g6 ⟨o,rfl,a4,eo,N⟩;rw[rt.look] at eo;replace S:=S.add N fun _ _ h=>h;dsimp only[Xi,Xj] at S;refine⟨_,_,_,rfl,cR S 1 rfl rfl (cR S 1 rfl rfl (cR S 1 rfl rfl ?_))⟩;refine(Qi q (S.own 2 rfl).row (nr S rfl rfl) hs (S.r 0 _ rfl) rt).mono ?_;rintro _ g7 ⟨rfl,F⟩;replace S:=S.fra0 F;refine⟨_,rfl,cR S 1 rfl rfl (cR S 1 rfl rfl (cR S 1 rfl rfl ?_))⟩;refine(Rh (S.own 2 rfl).row (nr S rfl rfl) q rt.fits.2).mono ?_;rintro _ g8 ⟨rfl,F⟩;replace S:=S.fra0 F;refine⟨_,rfl,cR S 1 rfl rfl (cR S 1 rfl rfl (cR S 1 rfl rfl ?_))⟩;obtain⟨T,X⟩: ∃T:Pv,T=⟨gv,o,some ⟨j,0,none⟩,gv.l+1,gv.l+1,gv.gr.rings W R Hi d,(fL (gv.gr.sizesF W R Hi)).2.1,gv.gr.macs,gv.gr.hash⟩:=⟨_,rfl⟩;have ec:T.cells=[.int .i64 gv.width,.int .i64 gv.low,.int .i64 gv.high,.slice gv.p gv.l gv.c,.int .i64 gv.out,o.v,.slice (some ⟨j,0,none⟩) (gv.l+1) (gv.l+1),.int .i64 (fL (gv.gr.sizesF W R Hi)).2.1,.int .i64 gv.gr.macs,.int .u32 gv.gr.hash]:=by rw[X];rfl
    refine cA (vs:=T.cells) S 0 rfl rfl (bu rfl) ?_|>fun H=>(by rw[ec] at H;exact H)
    intro g9 _ S;dsimp only[List.set] at S;refine aN S 0 rfl (x:=T.t) rfl ?_;refine HQ _ _ ⟨T,_,rfl,S.fra,he.symm,fun h=>absurd rfl h,fun _=> ?_⟩;subst X;exact⟨rfl,q,a4,eo,by rw[E],by rw[J],rfl,rfl,rfl,fun x z=>⟨aj x (by omega),by rw[C];exact ai x (by omega)⟩,j,rfl,yu (S.pw [2,3,4,7,5])⟩
end
end
section
def Oc (g:Gr) (W W' R' Hi':Int→Int) (h:af) (v:Value) (a:af):Prop:=
 ((g.ranges W).isSome=false∧v= .tuple #[Pv.zero.v,.int .i64 16]∧cp no h a)∨((g.ranges W).isSome=true∧RB (cF g) W' R' Hi' h v a)
section
variable {h:af} {s:List UInt8} {W R W' R' Lo' Hi':Int→Int} {pos pos':Int→Nat}
theorem xC (J:s.length<2 ^ 60) (o:KT h) (p:(Fq s).2=0) (rt:bM (Fq s).1 W R pos) (e:bM (cF (Fq s).1) W' R' pos') (c:Reach (cF (Fq s).1).nodes R' Lo' Hi'):
 au P iP #[.string (str s)] h (Oc (Fq s).1 W W' R' Hi' h):=by
 refine tT _ ?_;unfold Al;have S:=(aJ.start h no).read (blk 0 (az bo)) o;refine aA (cs:=Pv.zero.cells) S (fun z _ _ S=> ?_);dsimp only[Xj,Xi] at S;refine(JT (by omega)).mono ?_;rintro _ B ⟨gv,rfl,b,g,f⟩;rw[←g] at rt e c ⊢;replace S:=S.add f fun _ _ h=>h;dsimp only[Xi,Xj] at S;refine iU gv.t ⟨_,rfl,?_⟩;refine aA (cs:=aL bT (zT bT)) S fun A C _ S=> ?_;dsimp only[Xi,Xj] at S;refine cA S 3 rfl rfl (bu rfl) fun D _ S=> ?_;dsimp only[List.set] at S;have i:=rt.sizes b;refine bh (fun h=>absurd p h) (fun _=> ?_);refine aN S 3 rfl (x:=gv.t) rfl ?_;refine(MM b (S.own 1 rfl).row (S.w 2 _ rfl) i (S.r 0 _ rfl) rt).mono ?_;rintro _ E ⟨⟨q,m,d,rfl⟩,F⟩;replace S:=S.fra0 F;refine⟨_,_,_,_,rfl,?_⟩;cases hb:(gv.gr.ranges W).isSome with
 |false=>
  refine bh (fun _=> ?_) (fun h=>absurd h (by decide));refine cA S 0 rfl rfl (show ∀y∈Pv.zero.cells,lK y=true from bu rfl) fun l _ S=> ?_;dsimp only[List.set] at S;exact aN S 0 rfl (x:=Pv.zero.t) rfl (.inl ⟨hb,rfl,S.fra⟩)
 |true=>
  refine bh (fun h=>absurd rfl h) (fun _=> ?_);refine aN S 3 rfl (x:=gv.t) rfl ?_;refine(QS JY b (S.own 1 rfl).row (S.w 2 _ rfl) i.1 (fun n u=>by have:=i.2 n u;omega) (S.r 0 _ rfl)).mono ?_;rintro _ l ⟨j,rfl,a,k,f⟩;replace S:=S.add f fun _ _ h=>h;dsimp only[Xi,Xj] at S;refine iU j.t ⟨rfl,?_⟩;refine cA S 3 rfl rfl (bu rfl) fun G _ S=> ?_;dsimp only[List.set] at S;rw[←a] at e c;exact MJ k e c (fun v I H=> .inr ⟨hb,by rw[a] at H;exact H⟩) (S.pw [0,3,4,5,6])
theorem MK {p:Option Addr} {l c:Nat} {L:List Int} (j:bI h p (az L)) (f:L.length=l) (b:l≤c) (i:l<2 ^ 62) (more:Int):
 au P ri #[.slice p l c,.int .i64 more] h fun v e=> ∃g:Gr,C2 g∧v= .string (str (fO++g.enc))∧cp no h e:=by
 refine Ch _ _ _ _ ?_;unfold Dy;refine(O9 j f b i more).mono ?_;rintro _ k ⟨gv,rfl,a,d,_,_,S⟩;obtain⟨W,R,pos,rt⟩:=d.right;refine iU gv.t ⟨rfl,?_⟩;refine(Bg (S.own 0 rfl).row (S.w 1 _ rfl) a rt.fits.2).mono ?_;rintro _ m ⟨rfl,F⟩;refine⟨_,_,rfl,gv.gr,d,?_,S.fra.trans F⟩;unfold Gr.out2;rw[if_pos rt.fits.1]
end
end
end Go.Proofs.YtdhpmegbmjoekaaGreatDoor.G

