/- CReach CRoomP CLook19 CLook19b, in one text. -/
import Derived.Test.YtdhpmegbmjoekaaGreatDoorCRef16c
import Derived.Test.YtdhpmegbmjoekaaGreatDoorCFld2
set_option linter.unusedVariables false
set_option linter.unusedSimpArgs false
namespace Go.Proofs.YtdhpmegbmjoekaaGreatDoor.G
open Go Go.Sh
open Go.IntKind renaming wrap→kn
section
section
variable {h:ah}
theorem HB{lp n:Option Addr}{y B a A:Nat}{xs js:List Int}(K:bD h lp (az xs))(H:bD h n (az js))(V:xs.length=y)(G:js.length=a)(U:a<2 ^ 20)(J: ∀j∈js,0≤j∧j<(xs.length:Int)):
 au P mO #[.slice lp y B,.slice n a A] h fun v E=> ∃(p:Option Addr)(c:Nat),v= .slice p a c∧aG h no E [own 1 p a c (az (bQ xs js))] []:=by
 refine EI _ _ _ _ _ _ ?_;unfold H6;have S:=(((aG.start h no).read (row lp (az xs)) K).read (row n (az js)) H).nil 1;dsimp only[Yh,Yg]at S;refine aO (fun C s g=> ∃(t:Nat)(p:Option Addr)(l c:Nat),s=((lp,y,B),(n,a,A),(p,l,c),(t:Int),())∧t≤a∧C=a-t∧l=t∧aG h no g [own 1 p l c (az (bQ xs (js.take t)))] [row lp (az xs),row n (az js)]) a ⟨0,none,0,0,rfl,by omega,rfl,rfl,S⟩ ?_;clear S;rintro C s g ⟨t,p,l,c,rfl,X,rfl,rfl,S⟩;unfold Ay;dsimp only;refine aq (fun I=> ?_) (fun F=> ?_)
 ·have f:l<js.length:=by omega
  have b:=S.ro 1;obtain⟨Y,i⟩:=b.some_of (by rw[av];omega);rw[i]at b;refine aC i rfl (by omega) ?_;simp only[hC,VO];refine ae (b.cell (aF (bo f))) ?_;have q:=J _ (VN f);obtain⟨x,z⟩: ∃x:Nat,js[l]=(x:Int):=⟨js[l].toNat,by omega⟩;rw[z]at q ⊢;have d:=S.ro 0;obtain⟨Z,m⟩:=d.some_of (by rw[av];omega);rw[m]at d;refine aC m (k:=x) rfl (by omega) ?_;simp only[hC,VO];refine ae (d.cell (aF (bo (show x<xs.length by omega)))) ?_;refine aA (cs:=[.int .i64 xs[x]]) S fun N O _ S=> ?_;dsimp only[Yg,Yh]at S;refine cI S 0 (ys:=az [xs[x]]) rfl rfl (by decide) (by omega) (bD.of_at (S.ap 1)) rfl dc fun M L D T u S=> ?_;dsimp only[List.set]at S;have e:az (bQ xs (js.take l))++az [xs[x]]=az (bQ xs (js.take (l+1))):=by
   rw[gD f,z];have:bQ xs (js.take l++[(x:Int)])=bQ xs (js.take l)++[xs[x]]:=by
    unfold bQ;rw[V2,Wc,WZ,hC,cA (by omega)]
   rw[this];simp only[az,V2,Wc,WZ]
  rw[e]at S;rw[al (by omega)];exact⟨a-(l+1),by omega,l+1,M,L,D,rfl,by omega,rfl,u,S.pw [0]⟩
 ·have:l=a:=by omega
  subst this;rw[py (by omega)]at S;exact⟨p,c,rfl,yy S⟩
theorem LH{p:Option Addr}{l c:Nat}{xs:List Int}(d:bD h p (az xs))(z:xs.length=l)(q:1≤l)(u:l<2 ^ 40):au P oX #[.slice p l c] h fun v f=>v= .int .i64 (nC xs)∧f=h:=by
 refine zg _ _ _ ?_;unfold Az;obtain⟨a,ea⟩:=d.some_of (by rw[av];omega);subst ea;refine aC rfl (k:=0) rfl (by omega) ?_;refine ae (n:=xs.getD 0 0) (d.cell (i:=0) (aF (by rw[bo (by omega),cA (by omega)]))) ?_;refine aO (fun e s g=>g=h∧ ∃t:Nat,s=((some a,l,c),(xs.take t).foldl (fun x y=>if y<x then y else x) (xs.getD 0 0),(t:Int),())∧t≤l∧e=l-t) l ⟨rfl,0,rfl,by omega,rfl⟩ ?_;rintro e s g ⟨rfl,t,rfl,A,rfl⟩;unfold tF;dsimp only;refine aq (fun m=> ?_) (fun j=> ?_)
 ·have b:t<xs.length:=by omega
  refine aC rfl rfl (by omega) ?_;simp only[hC,VO];refine ae (d.cell (aF (bo b))) ?_;rw[al (by omega)];refine⟨l-(t+1),by omega,by trivial,t+1,?_,by omega,rfl⟩;rw[gD b,V7];rfl
 ·rw[py (by omega)];exact⟨rfl,rfl⟩
theorem Gh{p:Option Addr}{l c:Nat}{xs:List Int}(d:bD h p (az xs))(z:xs.length=l)(q:1≤l)(u:l<2 ^ 40):au P lV #[.slice p l c] h fun v f=>v= .int .i64 (iO xs)∧f=h:=by
 refine Bx _ _ _ ?_;unfold CO;obtain⟨a,ea⟩:=d.some_of (by rw[av];omega);subst ea;refine aC rfl (k:=0) rfl (by omega) ?_;refine ae (n:=xs.getD 0 0) (d.cell (i:=0) (aF (by rw[bo (by omega),cA (by omega)]))) ?_;refine aO (fun e s g=>g=h∧ ∃t:Nat,s=((some a,l,c),(xs.take t).foldl (fun x y=>if y>x then y else x) (xs.getD 0 0),(t:Int),())∧t≤l∧e=l-t) l ⟨rfl,0,rfl,by omega,rfl⟩ ?_;rintro e s g ⟨rfl,t,rfl,A,rfl⟩;unfold vX;dsimp only;refine aq (fun m=> ?_) (fun j=> ?_)
 ·have b:t<xs.length:=by omega
  refine aC rfl rfl (by omega) ?_;simp only[hC,VO];refine ae (d.cell (aF (bo b))) ?_;rw[al (by omega)];refine⟨l-(t+1),by omega,by trivial,t+1,?_,by omega,rfl⟩;rw[gD b,V7];rfl
 ·rw[py (by omega)];exact⟨rfl,rfl⟩
theorem Ad(nv:Nv)(i: -2 ^ 20≤nv.size∧nv.size≤2 ^ 20):au P jX #[nv.v] h fun v d=>v= .int .i64 nv.nd.leftN∧cd no h d:=by
 refine Bm _ ?_;unfold Cv;have S:=aG.start h no;refine aA (cs:=nv.cells) S fun b1 g _ S=> ?_;dsimp only[Yh]at S;have e:nv.nd.leftN=if nv.kind=12 then nv.size-1 else if dp nv.kind then nv.left else 0:=rfl
 rw[e];refine ae (n:=nv.kind) (S.c 0) (aH (fun a=> ?_) (fun a=> ?_))
 ·refine ae (n:=nv.size) (S.c 0) ?_;rw[al (by omega),if_pos a];exact⟨rfl,S.fra⟩
 ·rw[if_neg a];refine ae (n:=nv.kind) (S.c 0) ?_;refine(pZ nv.kind).mono ?_;rintro _ f ⟨rfl,rfl⟩;refine⟨_,rfl,aq (fun b=> ?_) (fun b=> ?_)⟩
  ·refine ae (n:=nv.left) (S.c 0) ?_;rw[if_pos b];exact⟨rfl,S.fra⟩
  ·rw[if_neg b];exact⟨rfl,S.fra⟩
theorem Od{nv:Nv}(b:nv.ok)(G:nv.rows.P h)(q:nv.inn.l<2 ^ 62)(s:nv.weights.l<2 ^ 62)(m:nv.bias.l<2 ^ 62){w:Int}(E:gq nv.kind→nv.nd.chk [w]=0):
 au P j0 #[nv.v,.int .i64 w] h fun v a=>v= .int .i64 (nv.nd.cost:Int)∧cd no h a:=by
 refine Bz _ _ ?_;unfold CP;have S:=(aG.start h no).read nv.rows G;refine aA (cs:=nv.cells) S fun b1 J _ S=> ?_;dsimp only[Yh]at S;have e:nv.nd.cost=if gq nv.kind then nv.weights.xs.length else 0:=rfl
 have wl:nv.weights.xs.length=nv.weights.l:=b.2.1.1;rw[wl]at e;rw[e];have j: ∀g,aG h no g [aJ b1 nv.cells] [nv.rows]→gq nv.kind→aT cJ g ⟨b1,0,none⟩ fun I=>aP g (.cells #[(.int .i64 w)] 3 (0,0)) fun i k=>aE P .i64 fa #[(bA cJ I),(.slice (some ⟨i,0,none⟩) 1 1)] k fun B f=>
  aI (B !=(0:Int)) ((fun v a=>v=Value.int .i64 ((if gq nv.kind then nv.weights.l else 0:Nat):Int)∧cd no h a) (.int .i64 (0:Int)) f) (am f ⟨b1,8,none⟩ fun H A D=>(fun v a=>v=Value.int .i64 ((if gq nv.kind then nv.weights.l else 0:Nat):Int)∧cd no h a) (.int .i64 ((A:Nat):Int)) f):=by
  intro g S C;refine aL S 0 rfl (x:=nv.t) rfl ?_;refine aA (cs:=[.int .i64 w]) S fun i k _ S=> ?_;dsimp only[Yg,Yh]at S;have d:bD k (some ⟨i,0,none⟩) (az [w]):=bD.of_at (S.ap 1);refine(xi b (S.rd 0) q s m d rfl (by show 1<2 ^ 56;decide)).mono ?_;rintro _ f ⟨rfl,F⟩;replace S:=S.fra0 F;rw[E C];refine⟨_,rfl,bG (by decide) ?_⟩;refine ak (p:=nv.weights.p) (l:=nv.weights.l) (c:=nv.weights.c) (S.c 0) ?_;rw[if_pos C];exact⟨rfl,S.fra⟩
 refine ae (n:=nv.kind) (S.c 0) (bh (fun u=> ?_) (fun u=>j _ S (.inl u)));refine ae (n:=nv.kind) (S.c 0) (bh (fun y=> ?_) (fun y=>j _ S (.inr (.inl y))));refine ae (n:=nv.kind) (S.c 0) (bh (fun z=> ?_) (fun z=>j _ S (.inr (.inr z))));rw[if_neg (by rintro(h|h|h);exact u h;exact y h;exact z h)];exact⟨rfl,S.fra⟩
end
end
section
theorem rF{o:List Int}{a b:Nat}{v:Int}:(o.set a v).getD b 0=if a=b∧a<o.length then v else o.getD b 0:=by
 rw[VT,VT,Xh];by_cases h:a=b
 ·subst h;by_cases c:a<o.length
  ·rw[if_pos rfl,if_pos c,if_pos ⟨rfl,c⟩];rfl
  ·rw[if_pos rfl,if_neg c,if_neg (fun h=>c h.2),V3 (by omega)]
 ·rw[if_neg h,if_neg (fun k=>h k.1)]
def Jx(o:List Int)(a:Nat)(v:Int):List Int:=o.set a (if v>o.getD a 0 then v else o.getD a 0)
theorem Ei(o:List Int)(a:Nat)(v:Int):(Jx o a v).length=o.length:=by unfold Jx;rw[VU]
theorem Si(o:List Int)(a b:Nat)(v:Int):(Jx o a v).getD b 0=if a=b∧a<o.length then(if v>o.getD b 0 then v else o.getD b 0) else o.getD b 0:=by
 unfold Jx;rw[rF];split
 ·rename_i h;obtain⟨rfl,_⟩:=h;rfl
 ·rfl
theorem Qx{l m:List Int}(h:l.length=m.length)(c: ∀i,l.getD i 0=m.getD i 0):l=m:=by
 refine List.ext_getElem h fun i a b=> ?_;have:=c i;rw[cA a,cA b]at this;exact this
theorem Qy(o:List Int)(a b:Nat)(v w:Int):Jx (Jx o a v) b w=Jx (Jx o b w) a v:=by
 refine Qx (by simp only[Ei]) fun i=> ?_;simp only[Si,Ei];by_cases d:a=i∧a<o.length
 ·by_cases c:b=i∧b<o.length
  ·simp only[if_pos d,if_pos c];split<;>split<;>(try split)<;>(try split)<;>omega
  ·simp only[if_pos d,if_neg c]
 ·by_cases c:b=i∧b<o.length
  ·simp only[if_neg d,if_pos c]
  ·simp only[if_neg d,if_neg c]
theorem Oe(l:List (Nat×Int)): ∀(o:List Int)(a:Nat)(v:Int),l.foldl (fun o x=>Jx o x.1 x.2) (Jx o a v)=Jx (l.foldl (fun o x=>Jx o x.1 x.2) o) a v:=by
 induction l with
 |nil=>intro o a v;rfl
 |cons x l b=>intro o a v;rw[Wg,Wg,Qy,b]
theorem Ej(l:List (Nat×Int)): ∀(m:List (Nat×Int))(o:List Int),l.foldl (fun o x=>Jx o x.1 x.2) (m.foldl (fun o x=>Jx o x.1 x.2) o)=m.foldl (fun o x=>Jx o x.1 x.2) (l.foldl (fun o x=>Jx o x.1 x.2) o)
 |[],o=>rfl
 |x::m,o=>by
  rw[Wg,Wg,Ej l m,Oe]
theorem AQ(ns:List Nd)(R Hi:Int→Int)(o:List Int)(x:Int): ∃l:List (Nat×Int),∀o,dU ns R Hi o x=l.foldl (fun o x=>Jx o x.1 x.2) o:=by
 cases e:ns[x.toNat-1]? with
 |none=>exact⟨[],fun o=>by unfold dU;rw[e];rfl⟩
 |some n=>
  refine⟨n.inn.map fun j=>(j.toNat,sC n (R x) (cP (iO (n.inn.map Hi)-Hi j))),fun o=> ?_⟩;unfold dU;rw[e,List.foldl_map];rfl
theorem Fi(ns:List Nd)(R Hi:Int→Int)(o:List Int)(x y:Int):dU ns R Hi (dU ns R Hi o x) y=dU ns R Hi (dU ns R Hi o y) x:=by
 obtain⟨l,a⟩:=AQ ns R Hi o x;obtain⟨m,b⟩:=AQ ns R Hi o y;rw[b,a,a,b,Ej]
def kx(ns:List Nd)(R Hi:Int→Int)(t:Nat):List Int:=((List.range t).map fun i:Nat=>(i:Int)+1).foldl (dU ns R Hi) (List.replicate (ns.length+1) 1)
theorem Fj(ns:List Nd)(R Hi:Int→Int)(t:Nat):(kx ns R Hi t).length=ns.length+1:=by unfold kx;rw[lG,VQ]
theorem Jy(ns:List Nd)(R Hi:Int→Int)(t:Nat):kx ns R Hi (t+1)=dU ns R Hi (kx ns R Hi t) ((t:Int)+1):=by
 unfold kx;rw[XE,V2,V7];rfl
theorem Of{g:Gr}(d:(bK g.nodes).length=g.nodes.length)(R Hi:Int→Int):kx g.nodes R Hi g.nodes.length=g.rooms R Hi:=by
 have b:(bK g.nodes).Nodup:=by
  have:=nt g.nodes g.nodes.length;rw[dr]at this;exact(WY.1 this).2
 have c:((List.range g.nodes.length).map fun i:Nat=>(i:Int)+1).Nodup:=by
  unfold List.Nodup;rw[XW];exact List.nodup_range.imp fun h e=>h (by omega)
 have f:((List.range g.nodes.length).map fun i:Nat=>(i:Int)+1).Perm (bK g.nodes):=by
  rw[List.perm_iff_count];intro a;rw[c.count,b.count];have:a∈((List.range g.nodes.length).map fun i:Nat=>(i:Int)+1)↔a∈bK g.nodes:=by
   constructor
   ·intro h;obtain⟨i,hi,rfl⟩:=VZ.1 h;rw[Wq]at hi;exact ny d (by omega) (by omega)
   ·intro h;have:=ft g.nodes g.nodes.length a h;rw[VZ];exact⟨(a-1).toNat,by rw[Wq];omega,by omega⟩
  simp only[this]
 unfold kx Gr.rooms gE;rw[py (by omega)];exact f.foldl_eq' (fun x _ y _ z=>Fi _ _ _ _ _ _) _
end
section
section
variable {h:ah}
theorem Og{bS:Nat}{cs:List Value}{nv:Nv}{s:Option Addr}{E J:Nat}{a:List Int}(hS:(aJ bS cs).P h)(f:cs[1]? =some (.slice s E J))(D:bD h s (az a))(L:a.length=E)(N:nv.ok)(hr:nv.rows.P h)(M:nv.inn.l<2 ^ 20)
 (B: ∀j∈nv.inn.xs,0≤j∧j<(a.length:Int)) (hs: -2 ^ 20≤nv.size∧nv.size≤2 ^ 20) (hg: -2 ^ 20≤nv.gap∧nv.gap≤2 ^ 20) {j:Nat} (hj:j<nv.inn.l) (b:Int):
 au P jz #[.pointer (some ⟨bS,0,none⟩),nv.v,.int .i64 (j:Int),.int .i64 b] h fun v Z=>v= .int .i64 (sC nv.nd b (cP (iO (bQ a nv.inn.xs)-a.getD (nv.inn.xs.getD j 0).toNat 0)))∧cd no h Z:=by
 have G: ∀A,sC nv.nd b A=if nv.kind=7∨nv.kind=8 then(if b=0 then 1 else cP (cP (Int.tdiv (cP (cP (A+b)-1)) b)+1)) else nv.nd.span:=fun A=>rfl
 refine sH _ _ _ _ ?_;unfold pz;have S:=(((aG.start h no).read (aJ bS cs) hS).read (row s (az a)) D).read nv.rows hr;refine aA (cs:=nv.cells) S fun b1 h1 _ S=> ?_;dsimp only[Yh,Yg]at S;refine ae (n:=nv.kind) (S.c 0) ?_;refine(mi nv.kind).mono ?_;rintro _ g2 ⟨rfl,rfl⟩;refine⟨_,rfl,cX (fun q=> ?_) (fun q=> ?_)⟩
 ·have q:=of_decide_eq_true q;have I: ¬(nv.kind=7∨nv.kind=8):=by rcases q with (h|h|h|h)|h<;>omega
  rw[G,if_neg I];refine aL S 0 rfl (x:=nv.t) rfl ?_;refine(mu nv hs hg).mono ?_;rintro _ Y ⟨rfl,F⟩;exact⟨_,rfl,rfl,(S.fra0 F).fra⟩
 ·have q:=of_decide_eq_false q;refine ae (n:=nv.kind) (S.c 0) ?_;refine(FT nv.kind).mono ?_;rintro _ Y ⟨rfl,rfl⟩;refine⟨_,rfl,cX (fun m=>⟨?_,S.fra⟩) (fun m=> ?_)⟩
  ·have m: ¬dm nv.kind:=of_decide_eq_false (by
    cases hb:decide (dm nv.kind) with
    |true=>rw[hb]at m;cases m
    |false=>rfl)
   rw[G,if_neg m];have:nv.nd.span=1:=by
    show wk nv.kind nv.size nv.gap=1;unfold wk;rw[if_neg (fun h=>q (.inr h)),if_neg (fun h=>q (.inl h))]
   rw[this]
  have m:dm nv.kind:=of_decide_eq_true (by
   cases hb:decide (dm nv.kind) with
   |true=>rfl
   |false=>rw[hb]at m;cases m)
  rw[G,if_pos m];refine aH (fun h0=>⟨by rw[if_pos h0],S.fra⟩) (fun C=>bx (bx ?_));rw[if_neg C];simp only[aR,SN];have ilen:nv.inn.xs.length=nv.inn.l:=N.1.1;have u:j<nv.inn.xs.length:=by omega
  refine ak (p:=s) (l:=E) (c:=J) (S.cellR 0 rfl f) (ak (p:=nv.inn.p) (l:=nv.inn.l) (c:=nv.inn.c) (S.c 0) (ak (p:=s) (l:=E) (c:=J) (S.cellR 0 rfl f) (ak (p:=nv.inn.p) (l:=nv.inn.l) (c:=nv.inn.c) (S.c 0) ?_)));have i: ∀{g:ah}{W:List bc},aG h no g W [aJ bS cs,row s (az a),nv.rows]→bD g nv.inn.p (az nv.inn.xs):=fun S=>S.r 2 _ rfl nv.inn.row (by simp);obtain⟨ia,z⟩:=(i S).some_of (by rw[av];omega);have d: ∀{g:ah}{W:List bc},aG h no g W [aJ bS cs,row s (az a),nv.rows]→aB g (ia.add j)=some (.int .i64 nv.inn.xs[j]):=fun S=>by
   have:=i S;rw[z]at this;exact this.cell (aF (bo u))
  have hx:=B _ (VN u);obtain⟨x,T⟩: ∃x:Nat,nv.inn.xs[j]=(x:Int):=⟨nv.inn.xs[j].toNat,by omega⟩;rw[T]at hx d;have X:nv.inn.xs.getD j 0=(x:Int):=by rw[cA u,T]
  have H:a.getD (nv.inn.xs.getD j 0).toNat 0=a[x]'(by omega):=by rw[X,hC,cA (by omega)]
  rw[H];refine aC z rfl (by omega) ?_;simp only[hC,VO];refine ae (d S) ?_;obtain⟨ha,y⟩:=(S.row 1 rfl).some_of (by rw[av];omega);have e: ∀{g:ah}{W:List bc},aG h no g W [aJ bS cs,row s (az a),nv.rows]→aB g (ha.add x)=some (.int .i64 a[x]):=fun S=>by
   have:=S.row 1 rfl;rw[y]at this;exact this.cell (aF (bo (by omega)))
  refine aC y (k:=x) rfl (by omega) ?_;simp only[hC,VO];refine ae (e S) ?_;refine(HB (S.row 1 rfl) (i S) L ilen M B).mono ?_;rintro _ g4 ⟨aa,V,rfl,U⟩;replace S:=S.add U fun _ _ h=>h;dsimp only[Yg,Yh]at S;refine⟨_,_,_,rfl,e S,d S,S.c 0,S.cellR 0 rfl f,?_⟩;have O:(bQ a nv.inn.xs).length=nv.inn.l:=by unfold bQ;rw[Ug,ilen]
  refine(Gh (S.own 1 rfl).row O (by omega) (by omega)).mono ?_;rintro _ g5 ⟨rfl,K⟩;subst K;exact⟨_,rfl,e S,d S,S.c 0,S.cellR 0 rfl f,S.c 0,S.cellR 0 rfl f,C,rfl,S.fra⟩
abbrev TD(gv:Gv)(b1 b3 b12 bS bL bH bR:Nat)(o w r:Sl)(lo hi b:List Int)(a:Int):List bc:=
 [aJ b1 gv.cells,aJ b3 [.slice none 0 0,.slice none 0 0,.slice none 0 0,.int .i64 0],row o.p (az o.xs),row w.p (az w.xs),row r.p (az r.xs),aJ b12 [o.v,w.v,r.v,.int .i64 0],
  aJ bS [.slice (some ⟨bL,0,none⟩) (gv.l+1) (gv.l+1),.slice (some ⟨bH,0,none⟩) (gv.l+1) (gv.l+1),.slice (some ⟨bR,0,none⟩) (gv.l+1) (gv.l+1),.int .i64 a],aJ bL (az lo),aJ bH (az hi),aJ bR (az b)]
variable {gv:Gv} {W R Lo Hi:Int→Int} {pos:Int→Nat} {b1 b3 b12 bS bL bH bR:Nat} {o w r:Sl} {Q:Value→ah→Prop} {K1:(Addr×Addr×Addr×Int×Addr×Int×Unit)→ah→Prop}
theorem HC(a7:gv.ok)(hs: ∀n∈gv.ns,n.inn.l<2 ^ 20∧n.weights.l<2 ^ 40∧n.bias.l<2 ^ 40)(rt:bW gv.gr W R pos)(rc:Reach gv.gr.nodes R Lo Hi)
 (hb: ∀x,0≤x→x≤(gv.l:Int)→(-2 ^ 40≤Lo x∧Lo x≤2 ^ 40)∧(-2 ^ 40≤Hi x∧Hi x≤2 ^ 40)∧(0≤R x∧R x≤2 ^ 30))
 (ho:o.xs=bK gv.gr.nodes) (hw:w.xs=(List.range (gv.gr.nodes.length+1)).map fun x:Nat=>W x) (hr:r.xs=(List.range (gv.gr.nodes.length+1)).map fun x:Nat=>R x) (ch:o.ok) (cm:w.ok) (cj:r.ok)
 {k:Nat} (hk:k<gv.l) {g:ah} {m:Nat} (ct:m≤k*2 ^ 40)
 (S:aG h no g (TD gv b1 b3 b12 bS bL bH bR o w r (vals gv.l Lo (0::(bK gv.gr.nodes).take k)) (vals gv.l Hi (0::(bK gv.gr.nodes).take k)) (vals gv.l (fun _=>1) (0::(bK gv.gr.nodes).take k)) (m:Int)) [row gv.p (aD gv.ns),aM gv.ns])
 (H: ∀g' (mac':Nat),mac'=m+((((bK gv.gr.nodes)[k]?).map (jO gv.gr.nodes)).getD 0)→mac'≤(k+1)*2 ^ 40→
  aG h no g' (TD gv b1 b3 b12 bS bL bH bR o w r (vals gv.l Lo (0::(bK gv.gr.nodes).take (k+1))) (vals gv.l Hi (0::(bK gv.gr.nodes).take (k+1))) (vals gv.l (fun _=>1) (0::(bK gv.gr.nodes).take (k+1))) (mac':Int)) [row gv.p (aD gv.ns),aM gv.ns]→
  K1 (⟨b1,0,none⟩,⟨b3,0,none⟩,⟨b12,0,none⟩,(gv.l:Int),⟨bS,0,none⟩,((k+1:Nat):Int),()) g'):
 kz Q K1 ⟨b1,0,none⟩ ⟨b3,0,none⟩ ⟨b12,0,none⟩ (gv.l:Int) ⟨bS,0,none⟩ (k:Int) g:=by
 have b4:=a7.1;have Y:gv.gr.nodes.length=gv.l:=by rw[←b4];simp[Gv.gr]
 have f:=bX rt.first;have cs:gv.l≤12:=by have:=f.2.1;omega
 have K:=rt.ordered;have I:k<(bK gv.gr.nodes).length:=by rw[K,Y];exact hk
 have ba:=ft gv.gr.nodes gv.gr.nodes.length _ (VN I);obtain⟨i,ex⟩: ∃i:Nat,(bK gv.gr.nodes)[k]=(i:Int)+1:=⟨((bK gv.gr.nodes)[k]-1).toNat,by have:1≤(bK gv.gr.nodes)[k]:=ba.1;omega⟩;have c7:i<gv.l:=by
  have h2:(bK gv.gr.nodes)[k]≤(gv.gr.nodes.length:Int):=ba.2;rw[ex]at h2;omega
 obtain⟨a,en⟩: ∃n,gv.ns[i]? =some n:=⟨_,bo (by omega)⟩;have J:=VL en;have aw:=a7.2.2 a J;have c9:=hs a J;have ilen:a.inn.xs.length=a.inn.l:=aw.1.1;have d:gv.gr.nodes[i]? =some a.nd:=by show(gv.ns.map Nv.nd)[i]? =_;rw[VP,en];rfl
 have v:=rt.chk i a.nd d;have s:=gZ v;have u: -2 ^ 20≤a.size∧a.size≤2 ^ 20:=by have h1:0≤a.size∧a.size≤8:=s.1;omega
 have a5: -2 ^ 20≤a.gap∧a.gap≤2 ^ 20:=by have h1:0≤a.gap∧a.gap≤4:=s.2.1;omega
 have z: ∀j∈a.inn.xs,0≤j∧j≤(gv.l:Int):=fun j C=>by have:=f.2.2.2.2.2 a.nd (VL d) j C;omega
 have U: ∀j∈a.inn.xs,j∈(0::(bK gv.gr.nodes).take k:List Int):=fun j C=>Ac K I ex d C;have c8:1≤a.inn.xs.length:=by have:=(fD v).2.1;rw[Ug]at this;exact this
 have L:(0::(bK gv.gr.nodes).take (k+1):List Int)=(0::(bK gv.gr.nodes).take k)++[(i:Int)+1]:=by rw[gD I,ex];rfl
 have aj:((((bK gv.gr.nodes)[k]?).map (jO gv.gr.nodes)).getD 0)=a.nd.cost:=by
  rw[bo I,ex];show jO _ _=_;exact Ee d
 have cr:a.nd.cost≤2 ^ 40:=by
  unfold Nd.cost;split
  ·have O:a.nd.weights.length=a.weights.l:=aw.2.1.1;omega
  ·omega
 rw[aj]at H;have a8: ∀V:Int→Int,bQ (vals gv.l V (0::(bK gv.gr.nodes).take k)) a.inn.xs=a.inn.xs.map V:=fun V=>mB fun j C=>⟨U j C,z j C⟩;have a6: ∀j∈a.inn.xs,0≤j∧j<(gv.l+1:Int):=fun j C=>by have:=z j C;omega
 obtain⟨b,a1,M⟩: ∃b:Nat,a.inn.xs[0]'(by omega)=(b:Int)∧(b:Int)∈a.inn.xs:=by
  have hm:=VN (l:=a.inn.xs) (n:=0) (by omega);have:=z _ hm;exact⟨(a.inn.xs[0]'(by omega)).toNat,by omega,by rw[show(((a.inn.xs[0]'(by omega)).toNat:Nat):Int)=a.inn.xs[0]'(by omega) by omega];exact hm⟩
 have b8:=z _ M;have rget: ∀(V:Int→Int)(x:Nat),x≤gv.l→((List.range (gv.gr.nodes.length+1)).map fun x:Nat=>V x)[x]? =some (V x):=fun V x hx=>by
  rw[VP,Wa (by omega)];rfl
 have an: ∀V:Int→Int,(a.nd.inn.map V).getD 0 0=V (b:Int):=fun V=>by
  have O:a.nd.inn=a.inn.xs:=rfl;rw[O,cA (by rw[Ug];omega),XJ,a1]
 have b0:gq a.kind→a.nd.chk [W (b:Int)]=0:=fun b7=>by
  have ao:a.inn.xs.length=1:=by
   have:=(fD v).2.2.2.2.2.2.1 (by
    have hk:a.nd.kind=a.kind:=rfl;rw[hk];rintro(h|h)<;>rcases b7 with h2|h2|h2<;>omega)
   rw[Ug]at this;exact this
  obtain⟨y,hy⟩:=Xu.1 ao;have O:a.nd.inn.map W=[W (b:Int)]:=by
   have e2:a.nd.inn=a.inn.xs:=rfl;have e3:(b:Int)=y:=by rw[hy]at M;simpa using M
   rw[e2,hy,e3];rfl
  rw[←O];exact v
 have lW:w.xs.length=w.l:=cm.1;have lR:r.xs.length=r.l:=cj.1;have lO:o.xs.length=o.l:=ch.1;have cy:w.l=gv.l+1:=by rw[←lW,hw];simp[Y]
 have cx:r.l=gv.l+1:=by rw[←lR,hr];simp[Y]
 have cw:o.l=gv.l:=by rw[←lO,ho,K,Y]
 unfold kz;simp only[aR,SN];refine cC (decide_eq_true (by omega)) ?_;refine ak (p:=o.p) (l:=o.l) (c:=o.c) (S.c 5) ?_;have N:bD g o.p (az o.xs):=S.w 2 _ rfl;obtain⟨oa,ay⟩:=N.some_of (by rw[av];omega);rw[ay]at N;refine aC ay rfl (by omega) ?_;simp only[hC,VO];refine ae (n:=(i:Int)+1) (N.cell (aF (by rw[ho,bo I,ex]))) ?_;have ei:kn .i64 ((i:Int)+1-1)=(i:Int):=by rw[al (by omega)];omega
 rw[ei];refine ak (p:=gv.p) (l:=gv.l) (c:=gv.c) (S.c 0) ?_;obtain⟨q,ea⟩:=(S.row 0 rfl).some_of (by rw[bE];omega);have a9:bD g (some q) (aD gv.ns):=by rw[←ea];exact S.row 0 rfl
 refine aC ea rfl (by omega) ?_;simp only[hC];refine gi a9 en ?_;refine aA S fun ad g2 _ S=> ?_;dsimp only[Yg,Yh]at S;refine bP S 10 rfl rfl (aW rfl) fun g3 _ S=> ?_;dsimp only[List.set]at S;refine ak (p:=some ⟨bR,0,none⟩) (l:=gv.l+1) (c:=gv.l+1) (S.c 6) ?_;refine aC rfl (k:=i+1) (by omega) (by omega) ?_;rw[show((i:Int)+1).toNat=i+1 by omega];simp only[aR,SN,VO];refine be S 9 rfl (by rw[av,cZ];omega) fun g4 _ S=> ?_;rw[bB,kZ (V:=fun _=>1) (by omega) rfl,←L]at S;dsimp only[List.set]at S;have aa: ∀{g:ah}{W:List bc},aG h no g W [row gv.p (aD gv.ns),aM gv.ns]→a.rows.P g:=fun S=>S.r 1 _ rfl _ (V1 J);have B: ∀{g:ah}{W:List bc},aG h no g W [row gv.p (aD gv.ns),aM gv.ns]→bD g a.inn.p (az a.inn.xs):=fun S=>aa S a.inn.row (by simp);obtain⟨ia,ag⟩:=(B S).some_of (by rw[av];omega);have Z: ∀{g:ah}{W:List bc},aG h no g W [row gv.p (aD gv.ns),aM gv.ns]→aB g (ia.add 0)=some (.int .i64 (b:Int)):=fun S=>by
  have:=B S;rw[ag]at this;exact this.cell (i:=0) (aF (by rw[bo (by omega),a1]))
 have ax:(0:Int).toNat=0:=rfl;refine ak (p:=r.p) (l:=r.l) (c:=r.c) (S.c 5) ?_;have rrow: ∀{g:ah}{X:List bc},aG h no g X [row gv.p (aD gv.ns),aM gv.ns]→X[4]? =some (row r.p (az r.xs))→bD g r.p (az r.xs):=fun S e=>S.w 4 _ e;have ab: ∀{g:ah}{X:List bc},aG h no g X [row gv.p (aD gv.ns),aM gv.ns]→X[3]? =some (row w.p (az w.xs))→bD g w.p (az w.xs):=fun S e=>S.w 3 _ e;obtain⟨ra,ai⟩:=(rrow S rfl).some_of (by rw[av];omega);obtain⟨wa,a0⟩:=(ab S rfl).some_of (by rw[av];omega);have bd: ∀{g:ah}{X:List bc}(x:Nat),x≤gv.l→aG h no g X [row gv.p (aD gv.ns),aM gv.ns]→X[4]? =some (row r.p (az r.xs))→aB g (ra.add x)=some (.int .i64 (R (x:Int))):=fun x hx S e=>by
  have:=rrow S e;rw[ai]at this;exact this.cell (aF (by rw[hr];exact rget R x hx))
 have ca: ∀{g:ah}{X:List bc}(x:Nat),x≤gv.l→aG h no g X [row gv.p (aD gv.ns),aM gv.ns]→X[3]? =some (row w.p (az w.xs))→aB g (wa.add x)=some (.int .i64 (W (x:Int))):=fun x hx S e=>by
  have:=ab S e;rw[a0]at this;exact this.cell (aF (by rw[hw];exact rget W x hx))
 refine aC ai (k:=i+1) (by omega) (by omega) ?_;refine ae (n:=R ((i:Int)+1)) (bd (i+1) (by omega) S rfl) ?_;have ek:kn .i64 ((k:Int)+1)=((k+1:Nat):Int):=by rw[al (by omega)];rfl
 have ew:kn .i64 ((m:Int)+(a.nd.cost:Int))=((m+a.nd.cost:Nat):Int):=by rw[al (by omega)];rfl
 have ap:m+a.nd.cost≤(k+1)*2 ^ 40:=by omega
 have a2: ∀{g:ah}{lo hi:List Int}{X:List bc},lo=vals gv.l Lo (0::(bK gv.gr.nodes).take (k+1))→hi=vals gv.l Hi (0::(bK gv.gr.nodes).take (k+1))→
  aG h no g (TD gv b1 b3 b12 bS bL bH bR o w r lo hi (vals gv.l (fun _=>1) (0::(bK gv.gr.nodes).take (k+1))) (m:Int)++(aJ ad a.cells::X)) [row gv.p (aD gv.ns),aM gv.ns]→
  aT cJ g ⟨ad,0,none⟩ fun co=>af .i64 g ⟨bS,3,none⟩ fun bk=>am g ⟨b12,1,none⟩ fun bn bb br=>am g ⟨ad,1,none⟩ fun ci b9 c2=>aS ci (0:Int) b9 fun bp=>af .i64 g (Addr.add bp ((0:Int).toNat)) fun bm=>
   aS bn bm bb fun bq=>af .i64 g (Addr.add bq bm.toNat) fun cb=>aE P .i64 j0 #[(bA cJ co),(.int .i64 cb)] g fun bg D=>
   aB D ⟨b12,1,none⟩=some (.slice bn bb br)∧aB D ⟨bS,3,none⟩=some (.int .i64 bk)∧aQ D ⟨bS,3,none⟩ (.int .i64 (kn .i64 (bk+bg))) fun a3=>
   K1 (⟨b1,0,none⟩,⟨b3,0,none⟩,⟨b12,0,none⟩,(gv.l:Int),⟨bS,0,none⟩,(kn .i64 ((k:Int)+(1:Int))),()) a3:=by
  intro g lo hi X O e2 S;subst O e2;dsimp only[Yg,Yh]at S;refine aL S 10 rfl (x:=a.t) rfl ?_;refine ae (n:=(m:Int)) (S.c 6) (ak (p:=w.p) (l:=w.l) (c:=w.c) (S.c 5) (ak (p:=a.inn.p) (l:=a.inn.l) (c:=a.inn.c) (S.c 10) (aC ag (k:=0) rfl (by omega) ?_)));rw[ax];refine ae (Z S) (aC a0 (k:=b) rfl (by omega) ?_);simp only[hC];refine ae (n:=W (b:Int)) (ca b (by omega) S rfl) ?_;refine(Od aw (aa S) (by omega) (by omega) (by omega) b0).mono ?_;rintro _ g5 ⟨rfl,F⟩;replace S:=S.fra0 F;refine⟨_,rfl,S.c 5,S.c 6,?_⟩;refine ck S 6 fun g6 _ S=> ?_;dsimp only[List.set]at S;rw[ew]at S;rw[ek];exact H g6 (m+a.nd.cost) rfl ap (S.pw [0,1,2,3,4,5,6,7,8,9])
 have G:=rc.lo i a.nd d;have E:=rc.hi i a.nd d;refine aq (fun A=> ?_) (fun A=> ?_)
 ·have A:0<R ((i:Int)+1):=A;rw[if_pos A,an R]at G E;have T:=(hb (b:Int) (by omega) b8.2).2.2;refine ak (p:=r.p) (l:=r.l) (c:=r.c) (S.c 5) (ak (p:=a.inn.p) (l:=a.inn.l) (c:=a.inn.c) (S.c 10) (aC ag (k:=0) rfl (by omega) ?_));rw[ax];refine ae (Z S) (aC ai (k:=b) rfl (by omega) ?_);simp only[hC];refine ae (n:=R (b:Int)) (bd b (by omega) S rfl) ?_;refine ak (p:=some ⟨bL,0,none⟩) (l:=gv.l+1) (c:=gv.l+1) (S.c 6) (ak (p:=some ⟨bL,0,none⟩) (l:=gv.l+1) (c:=gv.l+1) (S.c 6) (ak (p:=a.inn.p) (l:=a.inn.l) (c:=a.inn.c) (S.c 10) ?_));refine aL S 10 rfl (x:=a.t) rfl ?_;refine(HB (bD.of_at (S.at 7 rfl)) (B S) (cZ _ _ _) ilen (by omega) (fun j C=>by rw[cZ];exact a6 j C)).mono ?_;rintro _ g5 ⟨ds,c0,rfl,S1⟩;rw[a8 Lo]at S1;replace S:=S.add S1 fun _ _ h=>h;dsimp only[Yg,Yh]at S;refine⟨_,_,_,rfl,da S 10 rfl rfl ⟨S.c 6,?_⟩⟩;have b6:(a.inn.xs.map Lo).length=a.inn.l:=by rw[Ug,ilen]
  have b5:(a.inn.xs.map Hi).length=a.inn.l:=by rw[Ug,ilen]
  refine(LH (S.own 11 rfl).row b6 (by omega) (by omega)).mono ?_;rintro _ g6 ⟨rfl,b2⟩;subst b2;refine⟨_,rfl,da S 10 rfl rfl ⟨S.c 10,S.c 6,S.c 6,?_⟩⟩;refine(Ad a u).mono ?_;rintro _ g7 ⟨rfl,F⟩;replace S:=S.fra0 F;refine⟨_,rfl,S.c 10,S.c 6,S.c 6,?_⟩;have bw:kn .i64 (nC (a.inn.xs.map Lo)-kn .i64 (R (b:Int)*a.nd.leftN))=Lo ((i:Int)+1):=by
   have m1:0≤R (b:Int)*a.nd.leftN∧R (b:Int)*a.nd.leftN≤2 ^ 30*31:=⟨WA T.1 s.2.2.1.1,Wo T.2 s.2.2.1.2 s.2.2.1.1 (by omega)⟩;have bT:=(hb ((i:Int)+1) (by omega) (by omega)).1;have O:a.nd.inn=a.inn.xs:=rfl;rw[O]at G;rw[al (n:=R (b:Int)*a.nd.leftN) (by omega),←G,al (by omega)]
  rw[bw];refine aC rfl (k:=i+1) (by omega) (by omega) ?_;simp only[aR,SN];refine be S 7 rfl (by rw[av,cZ];omega) fun g8 _ S=> ?_;rw[bB,kZ (by omega) rfl,←L]at S;dsimp only[List.set]at S;refine ak (p:=some ⟨bH,0,none⟩) (l:=gv.l+1) (c:=gv.l+1) (S.c 6) (ak (p:=some ⟨bH,0,none⟩) (l:=gv.l+1) (c:=gv.l+1) (S.c 6) (ak (p:=a.inn.p) (l:=a.inn.l) (c:=a.inn.c) (S.c 10) ?_));refine aL S 10 rfl (x:=a.t) rfl ?_;refine aL S 10 rfl (x:=a.t) rfl ?_;refine(HB (bD.of_at (S.at 8 rfl)) (B S) (cZ _ _ _) ilen (by omega) (fun j C=>by rw[cZ];exact a6 j C)).mono ?_;rintro _ g9 ⟨d0,c1,rfl,S1⟩;rw[a8 Hi]at S1;replace S:=S.add S1 fun _ _ h=>h;dsimp only[Yg,Yh]at S;refine⟨_,_,_,rfl,da S 10 rfl rfl (da S 10 rfl rfl ⟨S.c 6,?_⟩)⟩;refine(Gh (S.own 12 rfl).row b5 (by omega) (by omega)).mono ?_;rintro _ c3 ⟨rfl,a4⟩;subst a4;refine⟨_,rfl,da S 10 rfl rfl (da S 10 rfl rfl ⟨S.c 10,S.c 6,S.c 6,?_⟩)⟩;refine(mu a u a5).mono ?_;rintro _ c4 ⟨rfl,F⟩;replace S:=S.fra0 F;refine⟨_,rfl,da S 10 rfl rfl ⟨S.c 10,S.c 6,S.c 6,?_⟩⟩;refine(Ad a u).mono ?_;rintro _ c5 ⟨rfl,F⟩;replace S:=S.fra0 F;refine⟨_,rfl,da S 10 rfl rfl ⟨S.c 10,S.c 6,S.c 6,?_⟩⟩;have bs:kn .i64 (iO (a.inn.xs.map Hi)+kn .i64 (R (b:Int)*kn .i64 (kn .i64 (a.nd.span-1)-a.nd.leftN)))=Hi ((i:Int)+1):=by
   have ar:=s.2.2.2.1;have dd:=s.2.2.2.2.1;have db:=s.2.2.1;have m1:0≤R (b:Int)*(a.nd.span-1-a.nd.leftN)∧R (b:Int)*(a.nd.span-1-a.nd.leftN)≤2 ^ 30*31:=⟨WA T.1 ar.1,Wo T.2 ar.2 ar.1 (by omega)⟩;have bT:=(hb ((i:Int)+1) (by omega) (by omega)).2.1;have O:a.nd.inn=a.inn.xs:=rfl;rw[O]at E;rw[al (n:=a.nd.span-1) (by omega),al (n:=a.nd.span-1-a.nd.leftN) (by omega),al (n:=R (b:Int)*(a.nd.span-1-a.nd.leftN)) (by omega),←E,al (by omega)]
  rw[bs];refine aC rfl (k:=i+1) (by omega) (by omega) ?_;simp only[aR,SN];refine be S 8 rfl (by rw[av,cZ];omega) fun c6 _ S=> ?_;rw[bB,kZ (by omega) rfl,←L]at S;dsimp only[List.set]at S;exact a2 (X:=_) rfl rfl S
 ·have hz:R ((i:Int)+1)=0:=by
   have:=(hb ((i:Int)+1) (by omega) (by omega)).2.2;omega
  rw[if_neg (by omega)]at G E;exact a2 (X:=[]) (by rw[L,vu G]) (by rw[L,vu E]) S
end
end
section
theorem Gi(c:Int→Nat): ∀(B:List Int)(x:Int),x∈B→(B.map c).sum=c x+((B.erase x).map c).sum
 |[],x,h=>by simp at h
 |y::r,x,h=>by
  by_cases e:y=x
  ·subst e;rw[List.erase_cons_head,Wc,WX]
  ·have a:x∈r:=by
    rcases V5.1 h with h|h
    ·exact absurd h.symm e
    ·exact h
   rw[List.erase_cons_tail (by simpa using e),Wc,Wc,WX,WX,Gi c r x a];omega
theorem Ae(c:Int→Nat): ∀(l B:List Int),l.Nodup→(∀x∈l,x∈B)→(l.map c).sum≤(B.map c).sum
 |[],_,_,_=>WV _
 |x::r,B,hn,hs=>by
  rw[WY]at hn;have:=Ae c r (B.erase x) hn.2 fun y b=>by
   have a:y≠x:=fun e=>hn.1 (e▸b);exact(List.mem_erase_of_ne a).2 (hs y (V0 _ b))
  rw[Gi c B x (hs x Wb),Wc,WX];omega
theorem Jz{ns:List Nd}(g:(bK ns).length=ns.length):((bK ns).map (jO ns)).sum=(ns.map Nd.cost).sum:=by
 have a:(bK ns).Nodup:=by
  have:=nt ns ns.length;rw[dr]at this;exact(WY.1 this).2
 have f:((List.range ns.length).map fun i:Nat=>(i:Int)+1).Nodup:=by
  unfold List.Nodup;rw[XW];exact List.nodup_range.imp fun h e=>h (by omega)
 have c:=Ae (jO ns) (bK ns) ((List.range ns.length).map fun i:Nat=>(i:Int)+1) a fun x b=>by
  have:=ft ns ns.length x b;rw[VZ];exact⟨(x-1).toNat,by rw[Wq];omega,by omega⟩
 have d:=Ae (jO ns) _ (bK ns) f fun x b=>by
  obtain⟨i,hi,rfl⟩:=VZ.1 b;rw[Wq]at hi;exact ny g (by omega) (by omega)
 have e:((List.range ns.length).map fun i:Nat=>(i:Int)+1).map (jO ns)=ns.map Nd.cost:=by
  rw[Xa];apply Wk;intro i;rw[VP,VP];by_cases hi:i<ns.length
  ·rw[Wa hi,bo hi];simp only[Option.map_some,Function.comp_apply];rw[Ee (bo hi)]
  ·rw[V3 (by rw[WT];omega),V3 (by omega)];rfl
 rw[e]at c d;omega
def HD(n:Nat)(Lo Hi:Int→Int)(c:List Int)(a:Nat)(h:ah)(v:Value)(b:ah):Prop:=
 ∃bL bH bR:Nat,v= .agg #[.slice (some ⟨bL,0,none⟩) (n+1) (n+1),.slice (some ⟨bH,0,none⟩) (n+1) (n+1),.slice (some ⟨bR,0,none⟩) (n+1) (n+1),.int .i64 (a:Int)]∧
  aG h no b [aJ bL (az ((List.range (n+1)).map fun x:Nat=>Lo x)),aJ bH (az ((List.range (n+1)).map fun x:Nat=>Hi x)),aJ bR (az c)] []
section
variable {h:ah} {gv:Gv} {W R Lo Hi:Int→Int} {pos:Int→Nat} {b1 b3 b12 bS bL bH bR:Nat} {o w r:Sl}
theorem cv{g:ah}{X d:List bc}{n:Nat}{K:Nat→ah→Prop}(S:aG h no g X d)(f:n<2 ^ 20)(H: ∀b c,aG h no c (X++[aJ b (az (List.replicate (n+1) 0))]) d→K b c):bC n g K:=by
 unfold bC;have e:kn .i64 ((n:Int)+1)=((n+1:Nat):Int):=by rw[al (by omega)];omega
 rw[e];refine dM S (n+1) rfl rfl rfl (by decide) (by omega) (by omega) fun b c _ S=> ?_;have a:(List.replicate (n+1) [Value.int .i64 0]).flatten=az (List.replicate (n+1) 0):=by rw[iG];simp[az]
 rw[a]at S;exact H b c S
theorem Oh(J:gv.ok)(hs: ∀n∈gv.ns,n.inn.l<2 ^ 20∧n.weights.l<2 ^ 40∧n.bias.l<2 ^ 40)(rt:bW gv.gr W R pos)(rc:Reach gv.gr.nodes R Lo Hi)
 (hb: ∀x,0≤x→x≤(gv.l:Int)→(-2 ^ 40≤Lo x∧Lo x≤2 ^ 40)∧(-2 ^ 40≤Hi x∧Hi x≤2 ^ 40)∧(0≤R x∧R x≤2 ^ 30))
 (ho:o.xs=bK gv.gr.nodes) (hw:w.xs=(List.range (gv.gr.nodes.length+1)).map fun x:Nat=>W x) (hr:r.xs=(List.range (gv.gr.nodes.length+1)).map fun x:Nat=>R x) (a3:o.ok) (a4:w.ok) (an:r.ok) {g:ah}
 (S:aG h no g [aJ b1 gv.cells,aJ b3 [.slice none 0 0,.slice none 0 0,.slice none 0 0,.int .i64 0],row o.p (az o.xs),row w.p (az w.xs),row r.p (az r.xs),aJ b12 [o.v,w.v,r.v,.int .i64 0],
  aJ bS [.slice none 0 0,.slice none 0 0,.slice none 0 0,.int .i64 0],aJ bL (az (List.replicate (gv.l+1) 0)),aJ bH (az (List.replicate (gv.l+1) 0)),aJ bR (az (List.replicate (gv.l+1) 0))] [row gv.p (aD gv.ns),aM gv.ns]):
 bu (HD gv.l Lo Hi (gv.gr.rooms R Hi) (gv.gr.nodes.map Nd.cost).sum h) b1 b3 b12 gv.l bS bL bH bR g:=by
 have aw:=J.1;have d:gv.gr.nodes.length=gv.l:=by rw[←aw];simp[Gv.gr]
 have f:=bX rt.first;have a6:gv.l≤12:=by have:=f.2.1;omega
 have b:=rt.ordered;have lR:r.xs.length=r.l:=an.1;have a8:r.l=gv.l+1:=by rw[←lR,hr];simp[d]
 unfold bu;have ew:kn .i64 ((gv.l:Int)+1)=((gv.l+1:Nat):Int):=by rw[al (by omega)];omega
 rw[ew];simp only[hC];refine ck S 6 fun _ _ S=> ?_;dsimp only[List.set]at S;refine ck S 6 fun _ _ S=> ?_;dsimp only[List.set]at S;refine ck S 6 fun _ _ S=> ?_;dsimp only[List.set]at S;refine ck S 6 fun g4 _ S=> ?_;dsimp only[List.set]at S;refine ak (p:=some ⟨bR,0,none⟩) (l:=gv.l+1) (c:=gv.l+1) (S.c 6) (aC rfl (k:=0) rfl (by omega) ?_);simp only[WC,WH,aR,We];refine be S 9 rfl (by rw[av,VQ];omega) fun g5 _ S=> ?_;rw[bB]at S;dsimp only[List.set]at S;have T:(List.replicate (gv.l+1) (0:Int)).set 0 1=vals gv.l (fun _=>1) (0::(bK gv.gr.nodes).take 0):=by rw[WK,jK,Wp];rfl
 have O:List.replicate (gv.l+1) (0:Int)=vals gv.l Lo (0::(bK gv.gr.nodes).take 0):=by rw[WK,jK,rc.l0,Wp]
 have N:List.replicate (gv.l+1) (0:Int)=vals gv.l Hi (0::(bK gv.gr.nodes).take 0):=by rw[WK,jK,rc.h0,Wp]
 have S0:aG h no g5 (TD gv b1 b3 b12 bS bL bH bR o w r (vals gv.l Lo (0::(bK gv.gr.nodes).take 0)) (vals gv.l Hi (0::(bK gv.gr.nodes).take 0)) (vals gv.l (fun _=>1) (0::(bK gv.gr.nodes).take 0)) ((0:Nat):Int)) [row gv.p (aD gv.ns),aM gv.ns]:=by
  rw[←O,←N,←T];exact S
 clear S O N T
 refine aO (fun G s g=> ∃(k:Nat)(B:Nat),s=(⟨b1,0,none⟩,⟨b3,0,none⟩,⟨b12,0,none⟩,(gv.l:Int),⟨bS,0,none⟩,(k:Int),())∧k≤gv.l∧G=gv.l-k∧B=(((bK gv.gr.nodes).take k).map (jO gv.gr.nodes)).sum∧B≤k*2 ^ 40∧
  aG h no g (TD gv b1 b3 b12 bS bL bH bR o w r (vals gv.l Lo (0::(bK gv.gr.nodes).take k)) (vals gv.l Hi (0::(bK gv.gr.nodes).take k)) (vals gv.l (fun _=>1) (0::(bK gv.gr.nodes).take k)) (B:Int)) [row gv.p (aD gv.ns),aM gv.ns]) gv.l
  ⟨0,0,rfl,by omega,rfl,rfl,by omega,S0⟩ ?_
 clear S0;rintro G s g ⟨k,B,rfl,hk,rfl,hm,E,S⟩;by_cases Z:k<gv.l
 ·refine HC J hs rt rc hb ho hw hr a3 a4 an Z E S fun g' ai h2 h3 S=> ?_;have aa:k<(bK gv.gr.nodes).length:=by rw[b,d];exact Z
  refine⟨gv.l-(k+1),by omega,k+1,ai,rfl,by omega,rfl,?_,h3,S⟩;rw[h2,hm,gD aa,V2,List.sum_append,bo aa];simp
 ·have ay:k=gv.l:=by omega
  subst ay;have a1:(bK gv.gr.nodes).take gv.l=bK gv.gr.nodes:=py (by rw[b,d];exact VX _);rw[a1]at hm S;rw[Jz b]at hm;have e:(0::bK gv.gr.nodes:List Int)=bM gv.gr.nodes gv.gr.nodes.length:=(dr _ _).symm;have O:vals gv.l Lo (0::bK gv.gr.nodes)=(List.range (gv.l+1)).map fun x:Nat=>Lo x:=by rw[e,←d];exact qb b Lo
  have N:vals gv.l Hi (0::bK gv.gr.nodes)=(List.range (gv.l+1)).map fun x:Nat=>Hi x:=by rw[e,←d];exact qb b Hi
  have T:vals gv.l (fun _=>1) (0::bK gv.gr.nodes)=kx gv.gr.nodes R Hi 0:=by
   rw[e,←d,qb b];exact List.map_const' .. |>.trans (by rw[WT];rfl)
  rw[O,N,T,hm]at S;clear hm E O N T;have ab: ∀js:List Int,(∀j∈js,0≤j∧j≤(gv.l:Int))→bQ ((List.range (gv.l+1)).map fun x:Nat=>Hi x) js=js.map Hi:=fun js M=>by
   unfold bQ;refine Wf fun j ax=> ?_;have:=M j ax;rw[VT,VP,Wa (by omega)];show Hi ((j.toNat:Nat):Int)=Hi j;rw[show((j.toNat:Nat):Int)=j by omega]
  have ad: ∀x:Nat,x≤gv.l→((List.range (gv.l+1)).map fun x:Nat=>Hi x).getD x 0=Hi x:=fun x hx=>by
   rw[VT,VP,Wa (by omega)];rfl
  have Y:((List.range (gv.l+1)).map fun x:Nat=>Hi x).length=gv.l+1:=by simp
  generalize ap:((List.range (gv.l+1)).map fun x:Nat=>Hi x)=his at S Y ab ad
  have eQ:HD gv.l Lo Hi (gv.gr.rooms R Hi) (gv.gr.nodes.map Nd.cost).sum h=fun v h'=> ∃bL bH bR:Nat,v= .agg #[.slice (some ⟨bL,0,none⟩) (gv.l+1) (gv.l+1),.slice (some ⟨bH,0,none⟩) (gv.l+1) (gv.l+1),.slice (some ⟨bR,0,none⟩) (gv.l+1) (gv.l+1),.int .i64 (((gv.gr.nodes.map Nd.cost).sum:Nat):Int)]∧
   aG h no h' [aJ bL (az ((List.range (gv.l+1)).map fun x:Nat=>Lo x)),aJ bH (az his),aJ bR (az (gv.gr.rooms R Hi))] []:=by rw[←ap];rfl
  rw[eQ];generalize (gv.gr.nodes.map Nd.cost).sum=mc at S;unfold kz;dsimp only;refine bG (decide_eq_false (by omega)) ?_
  refine aO (fun G s g=> ∃(t:Nat),s=(⟨b1,0,none⟩,⟨b3,0,none⟩,⟨b12,0,none⟩,(gv.l:Int),⟨bS,0,none⟩,(t:Int)+1,())∧t≤gv.l∧G=gv.l-t∧
   aG h no g (TD gv b1 b3 b12 bS bL bH bR o w r ((List.range (gv.l+1)).map fun x:Nat=>Lo x) his (kx gv.gr.nodes R Hi t) (mc:Int)) [row gv.p (aD gv.ns),aM gv.ns]) gv.l ⟨0,rfl,by omega,rfl,S⟩ ?_
  clear S;rintro G s g ⟨t,rfl,ht,rfl,S⟩;unfold tH;simp only[aR,SN];refine aq (fun ba=> ?_) (fun a9=> ?_)
  ·have bd:t<gv.l:=by omega
   obtain⟨a,en⟩: ∃n,gv.ns[t]? =some n:=⟨_,bo (by omega)⟩;have u:=VL en;have aj:=J.2.2 a u;have bb:=hs a u;have ilen:a.inn.xs.length=a.inn.l:=aj.1.1;have i:gv.gr.nodes[t]? =some a.nd:=by show(gv.ns.map Nv.nd)[t]? =_;rw[VP,en];rfl
   have V:=gZ (rt.chk t a.nd i);have K: -2 ^ 20≤a.size∧a.size≤2 ^ 20:=by have h1:0≤a.size∧a.size≤8:=V.1;omega
   have X: -2 ^ 20≤a.gap∧a.gap≤2 ^ 20:=by have h1:0≤a.gap∧a.gap≤4:=V.2.1;omega
   have m: ∀j∈a.inn.xs,0≤j∧j≤(gv.l:Int):=fun j M=>by have:=f.2.2.2.2.2 a.nd (VL i) j M;omega
   have et:kn .i64 ((t:Int)+1-1)=(t:Int):=by rw[al (by omega)];omega
   have ao:kn .i64 ((t:Int)+1+1)=((t+1:Nat):Int)+1:=by rw[al (by omega)];rfl
   rw[et];refine ak (p:=gv.p) (l:=gv.l) (c:=gv.c) (S.c 0) ?_;obtain⟨q,ea⟩:=(S.row 0 rfl).some_of (by rw[bE];omega);have ag:bD g (some q) (aD gv.ns):=by rw[←ea];exact S.row 0 rfl
   refine aC ea rfl (by omega) ?_;simp only[hC];refine gi ag en ?_;refine aA S fun D g2 _ S=> ?_;dsimp only[Yg,Yh]at S;refine bP S 10 rfl rfl (aW rfl) fun g3 _ S=> ?_;dsimp only[List.set]at S;have ar:R ((t+1:Nat):Int)=R ((t:Int)+1):=rfl
   refine aO (fun G s g=> ∃(j:Nat),s=(⟨b1,0,none⟩,⟨b3,0,none⟩,⟨b12,0,none⟩,(gv.l:Int),⟨bS,0,none⟩,(t:Int)+1,⟨D,0,none⟩,(j:Int),())∧j≤a.inn.l∧G=a.inn.l-j∧
    aG h no g (TD gv b1 b3 b12 bS bL bH bR o w r ((List.range (gv.l+1)).map fun x:Nat=>Lo x) his ((a.inn.xs.take j).foldl (kc a.nd (R ((t:Int)+1)) (iO (a.inn.xs.map Hi)) Hi) (kx gv.gr.nodes R Hi t)) (mc:Int)++[aJ D a.cells]) [row gv.p (aD gv.ns),aM gv.ns]) a.inn.l ⟨0,rfl,by omega,rfl,S⟩ ?_
   clear S;rintro G s g ⟨j,rfl,M,rfl,S⟩;have a0:((a.inn.xs.take j).foldl (kc a.nd (R ((t:Int)+1)) (iO (a.inn.xs.map Hi)) Hi) (kx gv.gr.nodes R Hi t)).length=gv.l+1:=by rw[kK,Fj,d]
   obtain⟨C,I⟩: ∃C,(a.inn.xs.take j).foldl (kc a.nd (R ((t:Int)+1)) (iO (a.inn.xs.map Hi)) Hi) (kx gv.gr.nodes R Hi t)=C:=⟨_,rfl⟩;rw[I]at S a0;dsimp only[Yg,Yh]at S;unfold tG;simp only[aR,SN];have ej:kn .i64 ((j:Int)+1)=((j+1:Nat):Int):=by rw[al (by omega)];rfl
   rw[ej];refine ak (p:=a.inn.p) (l:=a.inn.l) (c:=a.inn.c) (S.c 10) ?_;refine aq (fun a7=> ?_) (fun a5=> ?_)
   ·have A:j<a.inn.xs.length:=by omega
    refine aL S 10 rfl (x:=a.t) rfl ?_;have z: ∀{g:ah}{W:List bc},aG h no g W [row gv.p (aD gv.ns),aM gv.ns]→a.rows.P g:=fun S=>S.r 1 _ rfl _ (V1 u);obtain⟨ia,H⟩:=(z S a.inn.row (by simp):bD g a.inn.p (az a.inn.xs)).some_of (by rw[av];omega);have y: ∀{g:ah}{W:List bc},aG h no g W [row gv.p (aD gv.ns),aM gv.ns]→aB g (ia.add j)=some (.int .i64 a.inn.xs[j]):=fun S=>by
     have:bD _ a.inn.p (az a.inn.xs):=z S a.inn.row (by simp);rw[H]at this;exact this.cell (aF (bo A))
    have hx:=m _ (VN A);obtain⟨x,ex⟩: ∃x:Nat,a.inn.xs[j]=(x:Int):=⟨a.inn.xs[j].toNat,by omega⟩;rw[ex]at hx y;refine ak (p:=some ⟨bR,0,none⟩) (l:=gv.l+1) (c:=gv.l+1) (S.c 6) (ak (p:=a.inn.p) (l:=a.inn.l) (c:=a.inn.c) (S.c 10) (aC H rfl (by omega) ?_));simp only[hC,VO];refine ae (y S) ?_;refine ak (p:=some ⟨bR,0,none⟩) (l:=gv.l+1) (c:=gv.l+1) (S.c 6) (ak (p:=a.inn.p) (l:=a.inn.l) (c:=a.inn.c) (S.c 10) (aC H rfl (by omega) ?_));refine ae (y S) (aC rfl (k:=x) rfl (by omega) ?_);simp only[hC,aR,SN];have L:x<C.length:=by omega
    refine ae (n:=C[x]) (S.cell 9 rfl (aF (bo L))) ?_;refine ak (p:=r.p) (l:=r.l) (c:=r.c) (S.c 5) ?_;have rrow:bD g r.p (az r.xs):=S.w 4 _ rfl;obtain⟨ra,U⟩:=rrow.some_of (by rw[av];omega);rw[U]at rrow;refine aC U (k:=t+1) (by omega) (by omega) ?_;rw[show((t:Int)+1).toNat=t+1 by omega];refine ae (n:=R ((t+1:Nat):Int)) (rrow.cell (aF (by rw[hr,VP,Wa (by omega)];rfl))) ?_;refine(Og (S.w 6 _ rfl) rfl (bD.of_at (S.at 8 rfl)) Y aj (z S) (by omega) (fun j M=>by have:=m j M;omega) K X (show j<a.inn.l by omega) _).mono ?_;rintro _ g5 ⟨rfl,F⟩;rw[ab _ m,cA A,ex,hC,ad x (by omega),ar];replace S:=S.fra0 F;refine⟨_,rfl,S.cell 9 rfl (aF (bo L)),y S,S.c 10,S.c 6,y S,S.c 10,S.c 6,?_⟩;refine aC rfl (k:=x) rfl (by omega) ?_;simp only[aR,SN];refine be S 9 rfl (by rw[av];omega) fun g6 _ S=> ?_;rw[bB]at S;dsimp only[List.set]at S;refine⟨a.inn.l-(j+1),by omega,j+1,rfl,by omega,rfl,?_⟩;rw[gD A,V7,I,ex];have eS:[(x:Int)].foldl (kc a.nd (R ((t:Int)+1)) (iO (a.inn.xs.map Hi)) Hi) C=C.set x (if sC a.nd (R ((t:Int)+1)) (cP (iO (a.inn.xs.map Hi)-Hi (x:Int)))>C[x] then sC a.nd (R ((t:Int)+1)) (cP (iO (a.inn.xs.map Hi)-Hi (x:Int))) else C[x]):=by
     rw[Wg,List.foldl_nil];unfold kc;rw[hC,cA L]
    rw[eS];exact S
   ·rw[ao];refine⟨gv.l-(t+1),by omega,t+1,rfl,by omega,rfl,?_⟩;have eT:kx gv.gr.nodes R Hi (t+1)=C:=by
     rw[Jy,←I,py (by omega)];unfold dU;rw[show((t:Int)+1).toNat-1=t by omega,i];rfl
    rw[eT];exact S.pw [0,1,2,3,4,5,6,7,8,9]
  ·refine ak (p:=some ⟨bL,0,none⟩) (l:=gv.l+1) (c:=gv.l+1) (S.c 6) (ak (p:=some ⟨bH,0,none⟩) (l:=gv.l+1) (c:=gv.l+1) (S.c 6) (ak (p:=some ⟨bR,0,none⟩) (l:=gv.l+1) (c:=gv.l+1) (S.c 6) (ae (n:=(mc:Int)) (S.c 6) ?_)));refine ck S 1 fun _ _ S=> ?_;dsimp only[List.set]at S;refine ck S 1 fun _ _ S=> ?_;dsimp only[List.set]at S;refine ck S 1 fun _ _ S=> ?_;dsimp only[List.set]at S;refine ck S 1 fun g9 _ S=> ?_;dsimp only[List.set]at S;refine ak (p:=some ⟨bL,0,none⟩) (l:=gv.l+1) (c:=gv.l+1) (S.c 1) (ak (p:=some ⟨bH,0,none⟩) (l:=gv.l+1) (c:=gv.l+1) (S.c 1) (ak (p:=some ⟨bR,0,none⟩) (l:=gv.l+1) (c:=gv.l+1) (S.c 1) (ae (n:=(mc:Int)) (S.c 1) ?_)));have a2:t=gv.gr.nodes.length:=by omega
   rw[a2,Of b]at S;exact⟨bL,bH,bR,rfl,yy (S.pw [7,8,9])⟩
end
section
variable {h:ah}
theorem mn{h g:ah}{W R:List bc}(S:aG h no g W R)(a b c d:Nat)(e:[0,1,2,3,4,5,a,b,c,d].Nodup:=by decide):aG h no g (Sh.pick W [0,1,2,3,4,5,a,b,c,d]) R:=S.pw _ e
abbrev Z4:List Value:=[.slice none 0 0,.slice none 0 0,.slice none 0 0,.int .i64 0]
set_option maxHeartbeats 4000000 in
theorem Oi{gv:Gv}(a3:gv.ok)(hn:bD h gv.p (aD gv.ns))(bw:(aM gv.ns).P h)(hs: ∀n∈gv.ns,n.inn.l<2 ^ 20∧n.weights.l<2 ^ 40∧n.bias.l<2 ^ 40){W R Lo Hi:Int→Int}{pos:Int→Nat}(rt:bW gv.gr W R pos)(rc:Reach gv.gr.nodes R Lo Hi)
 (hb: ∀x,0≤x→x≤(gv.l:Int)→(-2 ^ 40≤Lo x∧Lo x≤2 ^ 40)∧(-2 ^ 40≤Hi x∧Hi x≤2 ^ 40)∧(0≤R x∧R x≤2 ^ 30)):
 au P qM #[gv.v] h (HD gv.l Lo Hi (gv.gr.rooms R Hi) (gv.gr.nodes.map Nd.cost).sum h):=by
 refine BA _ ?_;unfold CQ;have bs:=a3.1;have b5:gv.gr.nodes.length=gv.l:=by rw[←bs];simp[Gv.gr]
 have f:=bX rt.first;have a:gv.l<2 ^ 20:=by have:=f.2.1;omega
 have S:=((aG.start h no).read (row gv.p (aD gv.ns)) hn).read (aM gv.ns) bw;refine aA (cs:=gv.cells) S fun b1 h1 _ S=> ?_;dsimp only[Yh,Yg]at S;refine aA (cs:=[.slice none 0 0,.slice none 0 0,.slice none 0 0,.int .i64 0]) S fun b3 h2 _ S=> ?_;dsimp only[Yh,Yg]at S;refine aL S 0 rfl (x:=gv.t) rfl ?_;refine(qi a3 (S.ro 0) (S.rd 1) a (fun n hn=>by have:=hs n hn;omega)).mono ?_;rintro _ h3 ⟨o,w,r,rfl,ho,hw,hr,bT,b2,b0,S1⟩;rw[rt.look]at ho hw hr;have e0:gv.gr.look.e=0:=by rw[rt.look]
 rw[e0];replace S:=S.add S1 fun _ _ h=>h;dsimp only[Yg,Yh]at S;refine⟨_,_,_,_,_,_,_,_,_,_,rfl,?_⟩;refine aA (cs:=[.slice none 0 0,.slice none 0 0,.slice none 0 0,.int .i64 0]) S fun b12 _ _ S=> ?_;dsimp only[Yg,Yh]at S;refine ck S 5 fun _ _ S=> ?_;dsimp only[List.set]at S;refine ck S 5 fun _ _ S=> ?_;dsimp only[List.set]at S;refine ck S 5 fun _ _ S=> ?_;dsimp only[List.set]at S;refine ck S 5 fun b4 _ S=> ?_;dsimp only[List.set]at S;refine ae (n:=0) (S.c 5) (bG (by decide) ?_);refine ak (p:=gv.p) (l:=gv.l) (c:=gv.c) (S.c 0) ?_;have b:=fun(bS bL bH bR:Nat)(g:ah)=>Oh (h:=h) (g:=g) (b1:=b1) (b3:=b3) (b12:=b12) (bS:=bS) (bL:=bL) (bH:=bH) (bR:=bR) a3 hs rt rc hb ho hw hr bT b2 b0;clear S1;refine And.intro ?_ ?_
 ·refine cv S a fun k _ S=> ?_;refine And.intro ?_ ?_
  ·refine cv S a fun a8 _ S=> ?_;refine And.intro ?_ ?_
   ·refine cv S a fun bq _ S=> ?_;refine aA (cs:=Z4) S fun br _ _ S=> ?_;exact b br k a8 bq _ (mn S 9 6 7 8)
   ·refine aA (cs:=Z4) S fun a4 _ _ S=> ?_;refine cv S a fun a5 _ S=> ?_;exact b a4 k a8 a5 _ (mn S 8 6 7 9)
  ·refine And.intro ?_ ?_
   ·refine cv S a fun C _ S=> ?_;refine And.intro ?_ ?_
    ·refine cv S a fun a6 _ S=> ?_;refine aA (cs:=Z4) S fun a7 _ _ S=> ?_;exact b a7 k a6 C _ (mn S 9 6 8 7)
    ·refine aA (cs:=Z4) S fun a9 _ _ S=> ?_;refine cv S a fun ba _ S=> ?_;exact b a9 k ba C _ (mn S 8 6 9 7)
   ·refine aA (cs:=Z4) S fun D _ _ S=> ?_;refine And.intro ?_ ?_
    ·refine cv S a fun bb _ S=> ?_;refine cv S a fun bd _ S=> ?_;exact b D k bb bd _ (mn S 7 6 8 9)
    ·refine cv S a fun bg _ S=> ?_;refine cv S a fun bk _ S=> ?_;exact b D k bk bg _ (mn S 7 6 9 8)
 ·refine And.intro ?_ ?_
  ·refine cv S a fun j _ S=> ?_;refine And.intro ?_ ?_
   ·refine cv S a fun E _ S=> ?_;refine And.intro ?_ ?_
    ·refine cv S a fun bm _ S=> ?_;refine aA (cs:=Z4) S fun bn _ _ S=> ?_;exact b bn E j bm _ (mn S 9 7 6 8)
    ·refine aA (cs:=Z4) S fun bo _ _ S=> ?_;refine cv S a fun bp _ S=> ?_;exact b bo E j bp _ (mn S 8 7 6 9)
   ·refine And.intro ?_ ?_
    ·refine cv S a fun m _ S=> ?_;refine And.intro ?_ ?_
     ·refine cv S a fun F _ S=> ?_;refine aA (cs:=Z4) S fun G _ _ S=> ?_;exact b G F j m _ (mn S 9 8 6 7)
     ·refine aA (cs:=Z4) S fun H _ _ S=> ?_;refine cv S a fun I _ S=> ?_;exact b H I j m _ (mn S 8 9 6 7)
    ·refine aA (cs:=Z4) S fun q _ _ S=> ?_;refine And.intro ?_ ?_
     ·refine cv S a fun J _ S=> ?_;refine cv S a fun K _ S=> ?_;exact b q J j K _ (mn S 7 8 6 9)
     ·refine cv S a fun L _ S=> ?_;refine cv S a fun M _ S=> ?_;exact b q M j L _ (mn S 7 9 6 8)
  ·refine And.intro ?_ ?_
   ·refine cv S a fun d _ S=> ?_;refine And.intro ?_ ?_
    ·refine cv S a fun s _ S=> ?_;refine And.intro ?_ ?_
     ·refine cv S a fun N _ S=> ?_;refine aA (cs:=Z4) S fun O _ _ S=> ?_;exact b O s N d _ (mn S 9 7 8 6)
     ·refine aA (cs:=Z4) S fun T _ _ S=> ?_;refine cv S a fun U _ S=> ?_;exact b T s U d _ (mn S 8 7 9 6)
    ·refine And.intro ?_ ?_
     ·refine cv S a fun u _ S=> ?_;refine And.intro ?_ ?_
      ·refine cv S a fun V _ S=> ?_;refine aA (cs:=Z4) S fun X _ _ S=> ?_;exact b X V u d _ (mn S 9 8 7 6)
      ·refine aA (cs:=Z4) S fun Y _ _ S=> ?_;refine cv S a fun Z _ S=> ?_;exact b Y Z u d _ (mn S 8 9 7 6)
     ·refine aA (cs:=Z4) S fun y _ _ S=> ?_;refine And.intro ?_ ?_
      ·refine cv S a fun aa _ S=> ?_;refine cv S a fun ab _ S=> ?_;exact b y aa ab d _ (mn S 7 8 9 6)
      ·refine cv S a fun ad _ S=> ?_;refine cv S a fun ag _ S=> ?_;exact b y ag ad d _ (mn S 7 9 8 6)
   ·refine aA (cs:=Z4) S fun i _ _ S=> ?_;refine And.intro ?_ ?_
    ·refine cv S a fun z _ S=> ?_;refine And.intro ?_ ?_
     ·refine cv S a fun ai _ S=> ?_;refine cv S a fun aj _ S=> ?_;exact b i z ai aj _ (mn S 6 7 8 9)
     ·refine cv S a fun an _ S=> ?_;refine cv S a fun ao _ S=> ?_;exact b i z ao an _ (mn S 6 7 9 8)
    ·refine And.intro ?_ ?_
     ·refine cv S a fun A _ S=> ?_;refine And.intro ?_ ?_
      ·refine cv S a fun ap _ S=> ?_;refine cv S a fun ar _ S=> ?_;exact b i ap A ar _ (mn S 6 8 7 9)
      ·refine cv S a fun aw _ S=> ?_;refine cv S a fun ax _ S=> ?_;exact b i ax A aw _ (mn S 6 9 7 8)
     ·refine cv S a fun B _ S=> ?_;refine And.intro ?_ ?_
      ·refine cv S a fun ay _ S=> ?_;refine cv S a fun a0 _ S=> ?_;exact b i ay a0 B _ (mn S 6 8 9 7)
      ·refine cv S a fun a1 _ S=> ?_;refine cv S a fun a2 _ S=> ?_;exact b i a2 a1 B _ (mn S 6 9 8 7)
