/- CPlan CPlan2 CPlan3, in one text. -/
import Derived.Test.YtdhpmegbmjoekaaGreatDoorCFld2
import Derived.Test.YtdhpmegbmjoekaaGreatDoorCCrc
import Derived.Test.YtdhpmegbmjoekaaGreatDoorCFitR
import Derived.Test.YtdhpmegbmjoekaaGreatDoorCSorted
import Derived.Test.YtdhpmegbmjoekaaGreatDoorCLayout
import Derived.Test.YtdhpmegbmjoekaaGreatDoorCModelR2
set_option linter.unusedVariables false
set_option linter.unusedSimpArgs false
namespace Go.Proofs.YtdhpmegbmjoekaaGreatDoor.G
open Go Go.Sh
section
structure Rn where
 pos:Int
 width:Int
 room:Int
def Rn.cells(r:Rn):List Value:=[.int .i64 r.pos,.int .i64 r.width,.int .i64 r.room]
def Rn.zero:Rn:=⟨0,0,0⟩
def fu(rs:List Rn):List Value:=(rs.map Rn.cells).flatten
theorem mq(rs:List Rn):(fu rs).length=rs.length*3:=pT Rn.cells 3 (fun _=>rfl) rs
theorem uV{rs:List Rn}{i j:Nat}{x:Rn}(h:rs[i]? =some x)(a:j<3):(fu rs)[i*3+j]? =x.cells[j]? :=ve Rn.cells 3 (fun _=>rfl) rs i j x h a
theorem Ow(n:Nat):(List.replicate n Rn.zero.cells).flatten=fu (List.replicate n .zero):=by unfold fu;rw[List.map_replicate]
theorem Gm{rs:List Rn}{i:Nat}(hi:i<rs.length)(x:Rn):((((fu rs).set (i*3) (.int .i64 x.pos)).set (i*3+1) (.int .i64 x.width)).set (i*3+2) (.int .i64 x.room))=fu (rs.set i x):=
 DB Rn.cells 3 (fun _=>rfl) (by decide) x hi
theorem JH{α:Type}{l:List α}{i:Nat}{v:α}(h:l[i]? =some v):l.set i v=l:=by
 obtain⟨hi,e⟩:=R8.1 h;rw[←e,WJ]
theorem Ox{rs:List Rn}{i:Nat}{x:Rn}(e:rs[i]? =some x)(y:Int):(fu rs).set (i*3) (.int .i64 y)=fu (rs.set i {x with pos:=y}):=by
 have hi:=(R8.1 e).1;rw[←Gm hi {x with pos:=y}];have a:((fu rs).set (i*3) (.int .i64 y)).set (i*3+1) (.int .i64 x.width)=(fu rs).set (i*3) (.int .i64 y):=by
  refine JH ?_;rw[Wv (by omega),uV e (by decide)];rfl
 have b:((fu rs).set (i*3) (.int .i64 y)).set (i*3+2) (.int .i64 x.room)=(fu rs).set (i*3) (.int .i64 y):=by
  refine JH ?_;rw[Wv (by omega),uV e (by decide)];rfl
 rw[a,b]
structure Pv where
 g:Gv
 o:Sl
 rp:Option Addr
 rl:Nat
 rc:Nat
 rs:List Rn
 words:Int
 macs:Int
 hash:Int
abbrev TF:List Sc:=[.int .i64,.int .i64,.int .i64,.slice,.int .i64,.slice,.slice,.int .i64,.int .i64,.int .u32]
def Pv.t(p:Pv):TS TF:=(p.g.width,p.g.low,p.g.high,(p.g.p,p.g.l,p.g.c),p.g.out,(p.o.p,p.o.l,p.o.c),(p.rp,p.rl,p.rc),p.words,p.macs,p.hash,())
def Pv.cells(p:Pv):List Value:=aK TF p.t
abbrev Pv.v(p:Pv):Value:=bA TF p.t
def Pv.zero:Pv:=⟨⟨0,0,0,none,0,0,0,[]⟩,⟨none,0,0,[]⟩,none,0,0,[],0,0,0⟩
theorem QD(a b:Int):(Int.tdiv a b).natAbs≤a.natAbs:=by rw[Int.natAbs_tdiv];exact Nat.div_le_self _ _
theorem Eo{n:Nd}{a b B:Int}{Hi:Int→Int}: ∀(l o:List Int),(∀j∈l,j.toNat<o.length)→(∀j∈l,sC n a (cP (b-Hi j))≤B)→(∀y∈o,1≤y∧y≤B)→ ∀y∈l.foldl (kc n a b Hi) o,1≤y∧y≤B
 |[],o,_,_,ho=>ho
 |j::r,o,hl,hb,ho=>by
  rw[Wg];refine Eo r _ (fun x c=>by unfold kc;rw[VU];exact hl x (V0 _ c)) (fun x c=>hb x (V0 _ c)) fun y d=> ?_;unfold kc at d;have e:=hl j Wb;have g:=hb j Wb;have f:o.getD j.toNat 0∈o:=by rw[cA e];exact VN _
  have i:=ho _ f;rcases Xe d with h|h
  ·exact ho y h
  ·rw[h];split<;>omega
section
variable {gv:Gv} {W R Lo Hi:Int→Int} {pos:Int→Nat}
theorem Oy(d:gv.ok)(rt:bW gv.gr W R pos)(rc:Reach gv.gr.nodes R Lo Hi){i:Nat}{n:Nd}(e:gv.gr.nodes[i]? =some n){j:Int}(r:j∈n.inn):sC n (R ((i:Int)+1)) (cP (iO (n.inn.map Hi)-Hi j))≤2 ^ 43:=by
 have g:=d.1;have k:gv.gr.nodes.length=gv.l:=by rw[←g];simp[Gv.gr]
 have f:=LG d rt rc;have o:=(R8.1 e).1;have a:=rt.node e;rw[k]at a o;have v:=gZ (rt.chk i n e);have x:=(f ((i:Int)+1) (by omega) (by omega)).2.2;have b:=a.2.2.2.2 j r;have y:=(f j b.1 b.2).2.1;obtain⟨m,t,p⟩:=VZ.1 (Gf (l:=n.inn.map Hi) (by rw[Ug];exact a.1));have c:=a.2.2.2.2 m t;have z:=(f m c.1 c.2).2.1;rw[←p];unfold sC;have w: ∀{n:Int},-9223372036854775808≤n∧n≤9223372036854775807→cP n=n:=fun h=>al (by omega);rw[w (n:=Hi m-Hi j) (by omega)];split
 ·split
  ·decide
  ·rw[w (n:=Hi m-Hi j+R ((i:Int)+1)) (by omega),w (n:=Hi m-Hi j+R ((i:Int)+1)-1) (by omega)];have u:=QD (Hi m-Hi j+R ((i:Int)+1)-1) (R ((i:Int)+1));generalize Int.tdiv (Hi m-Hi j+R ((i:Int)+1)-1) (R ((i:Int)+1))=q at u;rw[w (n:=q) (by omega),w (n:=q+1) (by omega)];omega
 ·have:=v.2.2.2.2.1;omega
theorem Gn(a:gv.ok)(rt:bW gv.gr W R pos)(rc:Reach gv.gr.nodes R Lo Hi):(gv.gr.rooms R Hi).length=gv.l+1∧ ∀y∈gv.gr.rooms R Hi,1≤y∧y≤2 ^ 43:=by
 have b:=a.1;have c:gv.gr.nodes.length=gv.l:=by rw[←b];simp[Gv.gr]
 refine⟨by unfold Gr.rooms;rw[pg,c],?_⟩;have key: ∀k,∀y∈gE gv.gr.nodes R Hi k,1≤y∧y≤2 ^ 43:=by
  intro k
  induction k with
  |zero=>intro y g;unfold gE at g;rw[WK]at g;have:=List.eq_of_mem_replicate g;rw[this];decide
  |succ k m=>
   by_cases p:k<(bK gv.gr.nodes).length
   ·unfold gE;rw[gD p,V7];show ∀y∈dU _ _ _ (gE gv.gr.nodes R Hi k) _,_;have f:=ft gv.gr.nodes gv.gr.nodes.length _ (VN p);obtain⟨i,q⟩: ∃i:Nat,(bK gv.gr.nodes)[k]=(i:Int)+1:=⟨((bK gv.gr.nodes)[k]-1).toNat,by have:1≤(bK gv.gr.nodes)[k]:=f.1;omega⟩;rw[q];unfold dU;rw[show((i:Int)+1).toNat-1=i by omega];split
    ·exact m
    ·rename_i n o;have e:=rt.node o;refine Eo _ _ (fun j d=> ?_) (fun j d=>Oy a rt rc o d) m;have:=e.2.2.2.2 j d;rw[pg];omega
   ·have:gE gv.gr.nodes R Hi (k+1)=gE gv.gr.nodes R Hi k:=by unfold gE;rw[py (by omega),py (by omega)]
    rw[this];exact m
 exact key _
end
def Gr.sizesF(g:Gr)(W R Hi:Int→Int):List Int:=(List.range (g.nodes.length+1)).map fun x:Nat=>(g.rooms R Hi).getD x 0*W x
def Gr.rings(g:Gr)(W R Hi:Int→Int)(a:List Int):List Rn:=(List.range (g.nodes.length+1)).map fun x:Nat=>⟨a.getD x 0,W x,(g.rooms R Hi).getD x 0⟩
section
variable {h:ah} {s:List UInt8}
theorem m8.sep{h d:ah}{sz:Nat}{p:Option Addr}{l c:Nat}{xs:List Value}(F:cd no h d)(o:m8 d h.size sz p l c xs):aG h no d [own sz p l c xs] []:=by
 refine aG.one F (o.mono (WV _)) fun b g f=> ?_;obtain⟨a,ea,rfl⟩:=g;obtain⟨_,_,⟨e,_⟩|⟨b,i,e,g,_⟩⟩:=o
 ·rw[e]at ea;cases ea
 ·rw[e]at ea;cases ea;exact absurd f (by show ¬b<h.size;omega)
theorem JI(m:s.length<2 ^ 60)(e:(ki s).2≠0):au P gI #[.string (str s)] h fun v d=>v= .tuple #[Pv.zero.v,.int .i64 (ki s).2]∧cd no h d:=by
 refine mX _ ?_;have S:=aG.start h no;refine aA (cs:=Pv.zero.cells) S (fun f _ _ S=> ?_);refine(Et (by omega)).mono ?_;rintro _ i ⟨gv,rfl,c,b,a⟩;replace S:=S.add a fun _ _ h=>h;refine fy gv.t ⟨_,rfl,?_⟩;refine aA (cs:=aK bz (zT bz)) S fun g j _ S=> ?_;refine bP S 3 rfl rfl (aW rfl) fun k _ S=> ?_;refine bh (fun _=> ?_) (fun h=>absurd h e);refine bP S 0 rfl rfl (show ∀y∈Pv.zero.cells,ib y=true from aW rfl) fun l _ S=> ?_;exact aL S 0 rfl (x:=Pv.zero.t) rfl ⟨rfl,S.fra⟩
end
end
section
theorem MI: ∀(xs:List Int)(e:Int)(x:List Int×Int),yK xs e=some x→x.1.length=xs.length
 |[],e,x,h=>by cases h;rfl
 |n::r,e,x,h=>by
  unfold yK at h;split at h
  ·cases h
  ·obtain⟨y,a,rfl⟩:=WM.1 h;simp only[VS,MI r _ y a]
theorem Ep{xs:List Int}(h:(bU xs).2.2=0):(bU xs).1.length=xs.length:=by
 unfold bU at h ⊢;split at h
 ·exact absurd h (by decide)
 ·rename_i a;rw[if_neg a];cases hl:yK xs 0 with
  |none=>rw[hl]at h;exact absurd h (by decide)
  |some x=>exact MI xs 0 x hl
theorem Oz{xs:List Int}(c: ∀n∈xs,0≤n)(h:(bU xs).2.2≠0):(bU xs).2.2=17:=by
 unfold bU at h ⊢;rw[if_neg (by rintro⟨n,b,a⟩;have:=c n b;omega)]at h ⊢;cases a:yK xs 0 with
 |none=>rfl
 |some x=>rw[a]at h;exact absurd rfl h
def TG(G:Gr)(W R Hi:Int→Int)(pv:Pv)(h b:ah):Prop:=
 pv.g.gr=G∧pv.g.ok∧pv.o.ok∧pv.o.xs=bK G.nodes∧pv.rl=G.nodes.length+1∧pv.rs=G.rings W R Hi (bU (G.sizesF W R Hi)).1∧pv.words=(bU (G.sizesF W R Hi)).2.1∧pv.macs=G.macs∧pv.hash=G.hash∧(∀x:Nat,x≤G.nodes.length→(1≤W x∧W x≤16)∧(1≤(G.rooms R Hi).getD x 0∧(G.rooms R Hi).getD x 0≤2 ^ 43))∧
  ∃a,pv.rp=some ⟨a,0,none⟩∧aG h no b [own 15 pv.g.p pv.g.l pv.g.c (aD pv.g.ns),dw (pv.g.ns.map Nv.inn),cM (vG pv.g.ns),own 1 pv.o.p pv.o.l pv.o.c (az pv.o.xs),aJ a (fu pv.rs)] []
def SI(G:Gr)(W R Hi:Int→Int)(h:ah)(v:Value)(b:ah):Prop:=
 ∃(a:Pv)(e:Int),v= .tuple #[a.v,.int .i64 e]∧cd no h b∧e=(bU (G.sizesF W R Hi)).2.2∧(e≠0→e=17∧a=Pv.zero)∧(e=0→TG G W R Hi a h b)
section
variable {h:ah} {s:List UInt8} {gv:Gv} {W R Lo Hi:Int→Int} {pos:Int→Nat}
theorem OB(q:gv.ok)(rt:bW gv.gr W R pos)(rc:Reach gv.gr.nodes R Lo Hi){b1 G:Nat}{g:ah}{Q:Value→ah→Prop}(HQ: ∀v h',SI gv.gr W R Hi h v h'→Q v h')
 (S:aG h no g [aJ b1 Pv.zero.cells,aJ G gv.cells,own 15 gv.p gv.l gv.c (aD gv.ns),dw (gv.ns.map Nv.inn),cM (vG gv.ns)] [aJ 0 (az bl)]):
 aT bz g ⟨G,0,none⟩ fun ba=>bF P kC #[(bA bz ba)] g fun a6 r aw a0=>
  q6 52 3 24 (.agg #[(.int .i64 (0:Int)),(.int .i64 (0:Int)),(.int .i64 (0:Int))]) ((r:Nat):Int) ((r:Nat):Int) a0 fun j a1=>
  q6 3 1 8 (.int .i64 (0:Int)) ((r:Nat):Int) ((r:Nat):Int) a1 fun A X=>
  aT bz X ⟨G,0,none⟩ fun bb=>bF P gy #[(bA bz bb)] X fun a7 ad ax a2=>
  bf (S:=Addr×Addr×PP×PP×PP×PP×Int×Int×Unit) (fun K1 s h'=>wj Q K1 s.1 s.2.1 s.2.2.1.1 s.2.2.1.2.1 s.2.2.1.2.2 s.2.2.2.1.1 s.2.2.2.1.2.1 s.2.2.2.1.2.2 s.2.2.2.2.1.1 s.2.2.2.2.1.2.1 s.2.2.2.2.1.2.2 s.2.2.2.2.2.1.1 s.2.2.2.2.2.1.2.1 s.2.2.2.2.2.1.2.2 s.2.2.2.2.2.2.1 s.2.2.2.2.2.2.2.1 h')
   (⟨b1,0,none⟩,⟨G,0,none⟩,(a6,r,aw),(some ⟨j,0,none⟩,((r:Nat):Int).toNat,((r:Nat):Int).toNat),(some ⟨A,0,none⟩,((r:Nat):Int).toNat,((r:Nat):Int).toNat),(a7,ad,ax),((ad:Nat):Int),(0:Int),()) a2:=by
 have a4:=q.1;have D:gv.gr.nodes.length=gv.l:=by rw[←a4];simp[Gv.gr]
 have bd:gv.l≤12:=by have:=(bX rt.first).2.1;omega
 have hs:=rt.sizes q;obtain⟨a8,ag⟩:=Gn q rt rc;have nr: ∀{g:ah}{W2:List bc},aG h no g W2 [aJ 0 (az bl)]→W2[3]? =some (dw (gv.ns.map Nv.inn))→W2[4]? =some (cM (vG gv.ns))→(aM gv.ns).P g:=fun S e3 e4=>Lq (S.w 3 _ e3) (S.w 4 _ e4);refine aL S 1 rfl (x:=gv.t) rfl ?_;refine(Qw q (S.ow 2).row (nr S rfl rfl) hs (S.rd 0) rt rc).mono ?_;rintro _ g1 ⟨bm,rfl,N⟩;replace S:=S.add N fun _ _ h=>h;refine⟨_,_,_,rfl,?_⟩;refine dM S (gv.l+1) rfl (zs:=Rn.zero.cells) rfl rfl (by decide) (by omega) (by omega) fun j g2 _ S=> ?_;rw[Ow]at S;refine dM S (gv.l+1) rfl (zs:=[.int .i64 0]) rfl rfl (by decide) (by omega) (by omega) fun A g3 _ S=> ?_;rw[iG,show List.replicate (gv.l+1) (Value.int .i64 0)=az (List.replicate (gv.l+1) 0) by simp[az]]at S;refine aL S 1 rfl (x:=gv.t) rfl ?_;refine(zS q (S.ow 2).row (nr S rfl rfl) hs (S.rd 0)).mono ?_;rintro _ g4 ⟨w,rfl,ao,ew,N⟩;rw[rt.look,D]at ew;replace S:=S.add N fun _ _ h=>h;dsimp only[Yg,Yh]at S;have bg:w.l=gv.l+1:=by rw[←ao.1,ew];simp
 refine⟨_,_,_,rfl,?_⟩;obtain⟨f,B⟩: ∃f,gv.gr.rooms R Hi=f:=⟨_,rfl⟩;rw[B]at S a8 ag;have L: ∀x,x<gv.l+1→f[x]? =some (f.getD x 0):=fun x u=>by rw[VT,bo (by omega)];rfl
 have ai: ∀x,x<gv.l+1→1≤f.getD x 0∧f.getD x 0≤2 ^ 43:=fun x u=>ag _ (VL (L x u));have aj: ∀x:Nat,x<gv.l+1→(1≤W x∧W x≤16):=fun x u=>rt.wide (by omega) (by omega);have z: ∀x:Nat,x<gv.l+1→0≤f.getD x 0*W x∧f.getD x 0*W x≤2 ^ 43*16:=fun x u=>by
  have a:=ai x u;have b:=aj x u;exact⟨WA (by omega) (by omega),Wo a.2 b.2 (by omega) (by decide)⟩
 have C:gv.gr.sizesF W R Hi=(List.range (gv.l+1)).map fun x:Nat=>f.getD x 0*W x:=by unfold Gr.sizesF;rw[B,D]
 refine aO (fun m s g=> ∃i:Nat,s=(⟨b1,0,none⟩,⟨G,0,none⟩,(some ⟨bm,0,none⟩,gv.l+1,gv.l+1),(some ⟨j,0,none⟩,gv.l+1,gv.l+1),(some ⟨A,0,none⟩,gv.l+1,gv.l+1),(w.p,w.l,w.c),(w.l:Int),(i:Int),())∧i≤gv.l+1∧m=gv.l+1-i∧
  aG h no g [aJ b1 Pv.zero.cells,aJ G gv.cells,own 15 gv.p gv.l gv.c (aD gv.ns),dw (gv.ns.map Nv.inn),cM (vG gv.ns),aJ bm (az f),aJ j (fu ((List.range i).map (fun x:Nat=>(⟨0,W x,f.getD x 0⟩:Rn))++List.replicate (gv.l+1-i) .zero)),
   aJ A (az ((List.range i).map (fun x:Nat=>f.getD x 0*W x)++List.replicate (gv.l+1-i) 0)),own 1 w.p w.l w.c (az w.xs)] [aJ 0 (az bl)]) (gv.l+1) ⟨0,rfl,by omega,rfl,S⟩ ?_
 rintro m s g ⟨i,rfl,hi,rfl,S⟩;dsimp only;refine aq (fun e=> ?_) (fun a3=> ?_)
 ·have e:i<gv.l+1:=by omega
  have wr:=(S.ow 8).row;obtain⟨wa,V⟩:=wr.some_of (by rw[av,ao.1];omega);rw[V]at wr;refine aC V (k:=i) rfl (by omega) ?_;simp only[hC,VO];refine ae (n:=W (i:Int)) (wr.cell (aF (by rw[ew,VP,Wa (by omega)];rfl))) ?_;refine aC rfl (k:=i) rfl e ?_;simp only[aR,SN];refine ae (S.cell 5 rfl (aF (L i e))) (aC rfl (k:=i) rfl e ?_);simp only[aR,SN];have hA:((List.range i).map (fun x:Nat=>(⟨0,W x,f.getD x 0⟩:Rn))).length=i:=by rw[Ug,WT]
  have hB:((List.range i).map (fun x:Nat=>f.getD x 0*W x)).length=i:=by rw[Ug,WT]
  have bk:(fu ((List.range i).map (fun x:Nat=>(⟨0,W x,f.getD x 0⟩:Rn))++List.replicate (gv.l+1-i) .zero)).length=(gv.l+1)*3:=by rw[mq,Tz,hA,VQ];congr 1;omega
  refine be S 6 rfl (by omega) fun _ _ S=> ?_;refine be S 6 rfl (by rw[VU];omega) fun _ _ S=> ?_;refine be S 6 rfl (by rw[VU,VU];omega) fun _ _ S=> ?_;rw[Gm (by rw[Tz,hA,VQ];omega) (⟨0,W (i:Int),f.getD i 0⟩:Rn),uC hA e]at S;refine aC rfl (k:=i) rfl e ?_;simp only[aR,SN];refine ae (S.cell 5 rfl (aF (L i e))) (aC rfl (k:=i) rfl e ?_);simp only[aR,SN];have hp:=z i e;rw[al (n:=f.getD i 0*W (i:Int)) (by omega),al (n:=(i:Int)+1) (by omega)];refine be S 7 rfl (by rw[av,Tz,hB,VQ];omega) fun _ _ S=> ?_;rw[bB,uC hB e]at S;refine⟨gv.l+1-(i+1),by omega,i+1,rfl,by omega,rfl,?_⟩;rw[XE,V2,V2];exact S
 ·have ei:i=gv.l+1:=by omega
  subst ei;rw[WD,Xp,Xp,Wd,Wd,←C]at S;have an:(gv.gr.sizesF W R Hi).length=gv.l+1:=by rw[C];simp
  have a9: ∀n∈gv.gr.sizesF W R Hi,-2 ^ 63≤n∧n<2 ^ 63:=fun n Z=>by
   rw[C]at Z;obtain⟨x,u,rfl⟩:=VZ.1 Z;have:=z x (Wq.1 u);omega
  refine(OK (bD.of_at (S.ap 7)) an (by omega) a9).mono ?_;rintro _ g5 ⟨pa,la,ca,rfl,oA,F⟩;replace S:=S.add (m8.sep F oA) fun _ _ h=>h;refine⟨_,_,_,_,_,rfl,bh (fun Y=> ?_) (fun Y=> ?_)⟩
  ·refine bP S 0 rfl rfl (show ∀y∈Pv.zero.cells,ib y=true from aW rfl) fun g6 _ S=> ?_;refine aL S 0 rfl (x:=Pv.zero.t) rfl (HQ _ _ ⟨Pv.zero,_,rfl,S.fra,rfl,fun _=>⟨Oz (fun n Z=> ?_) Y,rfl⟩,fun h=>absurd h Y⟩);rw[C]at Z;obtain⟨x,u,rfl⟩:=VZ.1 Z;exact(z x (Wq.1 u)).1
  ·obtain⟨d,I⟩: ∃d,(bU (gv.gr.sizesF W R Hi)).1=d:=⟨_,rfl⟩;have O:d.length=gv.l+1:=by rw[←I,Ep Y,an]
   rw[I]at S;have bn:la=gv.l+1:=by
    have:=(S.ow 9).1;rw[av,O,VO]at this;exact this.symm
   have E: ∀i,i≤gv.l→((List.range (gv.l+1)).map (fun x:Nat=>(⟨if x<i then d.getD x 0 else 0,W x,f.getD x 0⟩:Rn))).set i {(⟨0,W (i:Int),f.getD i 0⟩:Rn) with pos:=d.getD i 0}=(List.range (gv.l+1)).map (fun x:Nat=>(⟨if x<i+1 then d.getD x 0 else 0,W x,f.getD x 0⟩:Rn)):=by
    intro i hi;apply Wk;intro x;by_cases u:x<gv.l+1
    ·by_cases ab:x=i
     ·subst ab;rw[V4 (by simp;omega),VP,Wa u];simp
     ·rw[Wv (fun h=>ab h.symm),VP,VP,Wa u];have:(x<i)=(x<i+1):=by rw[eq_iff_iff];omega
      simp only[Option.map_some,this]
    ·rw[V3 (by simp;omega),V3 (by simp;omega)]
   have J:(List.range (gv.l+1)).map (fun x:Nat=>(⟨0,W x,f.getD x 0⟩:Rn))=(List.range (gv.l+1)).map (fun x:Nat=>(⟨if x<0 then d.getD x 0 else 0,W x,f.getD x 0⟩:Rn)):=Wf fun x _=>by rw[if_neg (X7 x)]
   rw[J]at S
   refine aO (fun m s g=> ∃i:Nat,s=(⟨b1,0,none⟩,⟨G,0,none⟩,(some ⟨j,0,none⟩,gv.l+1,gv.l+1),(pa,la,ca),(bU (gv.gr.sizesF W R Hi)).2.1,((gv.l+1:Nat):Int),(i:Int),())∧i≤gv.l+1∧m=gv.l+1-i∧
    aG h no g [aJ b1 Pv.zero.cells,aJ G gv.cells,own 15 gv.p gv.l gv.c (aD gv.ns),dw (gv.ns.map Nv.inn),cM (vG gv.ns),aJ j (fu ((List.range (gv.l+1)).map (fun x:Nat=>(⟨if x<i then d.getD x 0 else 0,W x,f.getD x 0⟩:Rn)))),own 1 pa la ca (az d)] [aJ 0 (az bl)]) (gv.l+1) ⟨0,rfl,by omega,rfl,S.pw [0,1,2,3,4,6,9]⟩ ?_
   rintro m s g ⟨i,rfl,hi,rfl,S⟩;dsimp only;refine aq (fun e=> ?_) (fun a3=> ?_)
   ·have e:i<gv.l+1:=by omega
    have ar:=(S.ow 6).row;obtain⟨aa,T⟩:=ar.some_of (by rw[av,O];omega);rw[T]at ar;refine aC T (k:=i) rfl (by omega) ?_;simp only[hC,VO];refine ae (n:=d.getD i 0) (ar.cell (aF (by rw[VT,bo (by omega)];rfl))) (aC rfl (k:=i) rfl e ?_);simp only[aR,SN];refine be S 5 rfl (by rw[mq];simp only[Ug,WT];omega) fun _ _ S=> ?_;have ay:((List.range (gv.l+1)).map (fun x:Nat=>(⟨if x<i then d.getD x 0 else 0,W x,f.getD x 0⟩:Rn)))[i]? =some ⟨0,W (i:Int),f.getD i 0⟩:=by
     rw[VP,Wa e,Option.map_some,if_neg (Nat.lt_irrefl i)]
    rw[Ox ay,E i (by omega)]at S;rw[al (n:=(i:Int)+1) (by omega)];exact⟨gv.l+1-(i+1),by omega,i+1,rfl,by omega,rfl,S⟩
   ·have ei:i=gv.l+1:=by omega
    subst ei;have K:(List.range (gv.l+1)).map (fun x:Nat=>(⟨if x<gv.l+1 then d.getD x 0 else 0,W x,f.getD x 0⟩:Rn))=gv.gr.rings W R Hi d:=by
     unfold Gr.rings;rw[D,B];exact Wf fun x u=>by rw[if_pos (Wq.1 u)]
    rw[K]at S;refine aL S 1 rfl (x:=gv.t) rfl (aL S 1 rfl (x:=gv.t) rfl (aL S 1 rfl (x:=gv.t) rfl (aL S 1 rfl (x:=gv.t) rfl ?_)));refine(DD q (S.ow 2).row (nr S rfl rfl) hs (S.rd 0)).mono ?_;rintro _ g6 ⟨o,rfl,a5,eo,N⟩;rw[rt.look]at eo;replace S:=S.add N fun _ _ h=>h;refine⟨_,_,_,rfl,da S 1 rfl rfl (da S 1 rfl rfl (da S 1 rfl rfl ?_))⟩;refine(Sg q (S.ow 2).row (nr S rfl rfl) hs (S.rd 0) rt).mono ?_;rintro _ g7 ⟨rfl,F⟩;replace S:=S.fra0 F;refine⟨_,rfl,da S 1 rfl rfl (da S 1 rfl rfl (da S 1 rfl rfl ?_))⟩;refine(Q7 (S.ow 2).row (nr S rfl rfl) q rt.fits.2).mono ?_;rintro _ g8 ⟨rfl,F⟩;replace S:=S.fra0 F;refine⟨_,rfl,da S 1 rfl rfl (da S 1 rfl rfl (da S 1 rfl rfl ?_))⟩;obtain⟨M,U⟩: ∃M:Pv,M=⟨gv,o,some ⟨j,0,none⟩,gv.l+1,gv.l+1,gv.gr.rings W R Hi d,(bU (gv.gr.sizesF W R Hi)).2.1,gv.gr.macs,gv.gr.hash⟩:=⟨_,rfl⟩;have ec:M.cells=[.int .i64 gv.width,.int .i64 gv.low,.int .i64 gv.high,.slice gv.p gv.l gv.c,.int .i64 gv.out,o.v,.slice (some ⟨j,0,none⟩) (gv.l+1) (gv.l+1),.int .i64 (bU (gv.gr.sizesF W R Hi)).2.1,.int .i64 gv.gr.macs,.int .u32 gv.gr.hash]:=by rw[U];rfl
    refine bP (vs:=M.cells) S 0 rfl rfl (aW rfl) ?_|>fun H=>(by rw[ec]at H;exact H)
    intro g9 _ S;refine aL S 0 rfl (x:=M.t) rfl ?_;refine HQ _ _ ⟨M,_,rfl,S.fra,Y.symm,fun h=>absurd rfl h,fun _=> ?_⟩;subst U;exact⟨rfl,q,a5,eo,by rw[D],by rw[I],rfl,rfl,rfl,fun x u=>⟨aj x (by omega),by rw[B];exact ai x (by omega)⟩,j,rfl,yy (S.pw [2,3,4,7,5])⟩
end
end
section
def SJ(g:Gr)(W W' R' Hi':Int→Int)(h:ah)(v:Value)(a:ah):Prop:=
 ((g.ranges W).isSome=false∧v= .tuple #[Pv.zero.v,.int .i64 16]∧cd no h a)∨((g.ranges W).isSome=true∧SI (dC g) W' R' Hi' h v a)
section
variable {h:ah} {s:List UInt8} {W R W' R' Lo' Hi':Int→Int} {pos pos':Int→Nat}
theorem Er(G:s.length<2 ^ 60)(o:KT h)(p:(ki s).2=0)(rt:bW (ki s).1 W R pos)(e:bW (dC (ki s).1) W' R' pos')(c:Reach (dC (ki s).1).nodes R' Lo' Hi'):
 au P gI #[.string (str s)] h (SJ (ki s).1 W W' R' Hi' h):=by
 refine mX _ ?_;have S:=(aG.start h no).read (aJ 0 (az bl)) o;refine aA (cs:=Pv.zero.cells) S (fun u _ _ S=> ?_);refine(Et (by omega)).mono ?_;rintro _ z ⟨gv,rfl,b,g,f⟩;rw[←g]at rt e c ⊢;replace S:=S.add f fun _ _ h=>h;refine fy gv.t ⟨_,rfl,?_⟩;refine aA (cs:=aK bz (zT bz)) S fun w A _ S=> ?_;refine bP S 3 rfl rfl (aW rfl) fun B _ S=> ?_;have i:=rt.sizes b;refine bh (fun h=>absurd p h) (fun _=> ?_);refine aL S 3 rfl (x:=gv.t) rfl ?_;refine(NK b (S.ow 1).row (S.wd 2) i (S.rd 0) rt).mono ?_;rintro _ C ⟨⟨q,m,d,rfl⟩,F⟩;replace S:=S.fra0 F;refine⟨_,_,_,_,rfl,?_⟩;cases hb:(gv.gr.ranges W).isSome with
 |false=>
  refine bh (fun _=> ?_) (fun h=>absurd h (by decide));refine bP S 0 rfl rfl (show ∀y∈Pv.zero.cells,ib y=true from aW rfl) fun l _ S=> ?_;exact aL S 0 rfl (x:=Pv.zero.t) rfl (.inl ⟨hb,rfl,S.fra⟩)
 |true=>
  refine bh (fun h=>absurd rfl h) (fun _=> ?_);refine aL S 3 rfl (x:=gv.t) rfl ?_;refine(RO JS b (S.ow 1).row (S.wd 2) i.1 (fun n r=>by have:=i.2 n r;omega) (S.rd 0)).mono ?_;rintro _ l ⟨j,rfl,a,k,f⟩;replace S:=S.add f fun _ _ h=>h;refine fy j.t ⟨rfl,?_⟩;refine bP S 3 rfl rfl (aW rfl) fun D _ S=> ?_;rw[←a]at e c;exact OB k e c (fun v E H=> .inr ⟨hb,by rw[a]at H;exact H⟩) (S.pw [0,3,4,5,6])
