/- Contracts: the document's plan of bytes (earshotref22.Make); it is the program's: law22.makes. -/
import Derived.Test.YtdhpmegbmjoekaaGreatDoorCOf22
import Derived.Test.YtdhpmegbmjoekaaGreatDoorCPMk
namespace Go.Proofs.YtdhpmegbmjoekaaGreatDoor.G
open Go Go.Sh
set_option linter.unusedVariables false
set_option linter.unusedSimpArgs false
section
variable {h:ah} {s:List UInt8}
theorem MR(n:s.length<2 ^ 60)(f:(ki s).2≠0):au P iU #[.string (str s)] h fun v e=>v= .tuple #[Pv.zero.v,.int .i64 (ki s).2]∧cd no h e:=by
 refine lq _ ?_;have S:=aG.start h no;refine aA (cs:=Pv.zero.cells) S (fun g _ _ S=> ?_);refine(Aj (by omega)).mono ?_;rintro _ j ⟨d,rfl,c,b,a⟩;replace S:=S.add a fun _ _ h=>h;refine fy d.t ⟨_,rfl,?_⟩;refine aA (cs:=aK bz (zT bz)) S fun i k _ S=> ?_;refine bP S 3 rfl rfl (aW rfl) fun l _ S=> ?_;refine bh (fun _=> ?_) (fun h=>absurd h f);refine bP S 0 rfl rfl (show ∀y∈Pv.zero.cells,ib y=true from aW rfl) fun m _ S=> ?_;exact aL S 0 rfl (x:=Pv.zero.t) rfl ⟨rfl,S.fra⟩
theorem Kb(M:s.length<2 ^ 60)(r:(ki s).2=0)(f:(ki s).1.look.e≠0):au P iU #[.string (str s)] h fun v p=>v= .tuple #[Pv.zero.v,.int .i64 (ki s).1.look.e]∧cd no h p:=by
 refine lq _ ?_;have S:=aG.start h no;refine aA (cs:=Pv.zero.cells) S (fun w _ _ S=> ?_);refine(Aj (by omega)).mono ?_;rintro _ A ⟨b,rfl,a,d,k⟩;replace S:=S.add k fun _ _ h=>h;refine fy b.t ⟨_,rfl,?_⟩;refine aA (cs:=aK bz (zT bz)) S fun z B _ S=> ?_;refine bP S 3 rfl rfl (aW rfl) fun C _ S=> ?_;have i:=JW s;rw[←d]at f i ⊢;have o:b.sizes:=by
  obtain⟨N,u⟩:=i;refine⟨?_,fun n j=> ?_⟩
  ·have:b.gr.nodes.length=b.l:=by rw[←a.1];simp[Gv.gr]
   omega
  ·have q:=u n.nd (VZ.2 ⟨n,j,rfl⟩);have g:=a.2.2 n j;have G:=g.1.1;have H:=g.2.1.1;have I:=g.2.2.1;have J:n.inn.xs.length≤65535:=q.1;have K:n.weights.xs.length≤65535:=q.2.1;have L:n.bias.xs.length≤65535:=q.2.2;exact⟨by omega,by omega,by omega⟩
 refine bh (fun h=>absurd r h) (fun _=> ?_);refine aL S 3 rfl (x:=b.t) rfl ?_;refine(Hf a (S.ow 1).row (S.wd 2) o f).mono ?_;rintro _ D ⟨rfl,F⟩;replace S:=S.fra0 F;refine⟨_,_,_,_,rfl,?_⟩;refine aA (cs:=[.slice none 0 0,.int .i64 0]) S fun m _ _ S=> ?_;refine ck S 4 fun _ _ S=> ?_;refine ck S 4 fun _ _ S=> ?_;refine ae (n:=b.gr.look.e) (S.c 4) (bh (fun _=> ?_) (fun h=>absurd h f));refine ae (n:=b.gr.look.e) (S.c 4) ?_;refine bP S 0 rfl rfl (show ∀y∈Pv.zero.cells,ib y=true from aW rfl) fun E _ S=> ?_;exact⟨S.c 4,aL S 0 rfl (x:=Pv.zero.t) rfl ⟨rfl,S.fra⟩⟩
def TR(G:Gr)(W R b:Int→Int)(pv:Pv)(h d:ah):Prop:=
 pv.g.gr=G∧pv.g.ok∧pv.o.ok∧pv.o.xs=bK G.nodes∧pv.rl=G.nodes.length+1∧pv.rs=G.rings W R b (bU (G.sizesF W R b)).1∧pv.words=(bU (G.sizesF W R b)).2.1∧pv.macs=G.macs∧pv.hash=G.hash∧
  ∃a:List Nv,WB a pv.g.ns∧aG h no d [own 15 pv.g.p pv.g.l pv.g.c (aD pv.g.ns),dw (pv.g.ns.map Nv.inn),aM a,row pv.o.p (az pv.o.xs),own 3 pv.rp pv.rl pv.rc (fu pv.rs)] []
theorem HU{W R W' R' p f:Int→Int}{pos pos':Int→Nat}(hs:s.length<2 ^ 60)(I:(ki s).2=0)(rt:bW (ki s).1 W R pos)(b:bW (dC (ki s).1) W' R' pos')(j:Reach (dC (ki s).1).nodes R' p f):
 au P iU #[.string (str s)] h fun v z=>(((ki s).1.ranges W).isSome=false∧v= .tuple #[Pv.zero.v,.int .i64 16]∧cd no h z)∨
  (((ki s).1.ranges W).isSome=true∧ ∃(a:Pv)(e:Int),v= .tuple #[a.v,.int .i64 e]∧cd no h z∧e=(bU ((dC (ki s).1).sizesF W' R' f)).2.2∧(e≠0→a=Pv.zero)∧(e=0→TR (dC (ki s).1) W' R' f a h z)):=by
 refine lq _ ?_;have S:=aG.start h no;refine aA (cs:=Pv.zero.cells) S (fun X _ _ S=> ?_);refine(Aj (by omega)).mono ?_;rintro _ Z ⟨o,rfl,g,r,k⟩;rw[←r]at rt b j ⊢;replace S:=S.add k fun _ _ h=>h;refine fy o.t ⟨_,rfl,?_⟩;refine aA (cs:=aK bz (zT bz)) S fun Y g2 _ S=> ?_;refine bP S 3 rfl rfl (aW rfl) fun g3 _ S=> ?_;have u:=rt.sizes g;refine bh (fun h=>absurd I h) (fun _=> ?_);refine aL S 3 rfl (x:=o.t) rfl ?_;refine(IU g (S.ow 1).row (S.wd 2) u rt).mono ?_;rintro _ g4 ⟨⟨q,m,d,rfl⟩,F⟩;replace S:=S.fra0 F;refine⟨_,_,_,_,rfl,?_⟩;refine aA (cs:=[.slice none 0 0,.int .i64 0]) S fun E _ _ S=> ?_;refine ck S 4 fun _ _ S=> ?_;refine ck S 4 fun _ _ S=> ?_;cases hb:(o.gr.ranges W).isSome with
 |false=>
  rw[hb]at S;refine ae (n:=16) (S.c 4) (bh (fun _=> ?_) (fun h=>absurd h (by decide)));refine ae (n:=16) (S.c 4) ?_;refine bP S 0 rfl rfl (show ∀y∈Pv.zero.cells,ib y=true from aW rfl) fun G _ S=> ?_;exact⟨S.c 4,aL S 0 rfl (x:=Pv.zero.t) rfl (.inl ⟨rfl,rfl,S.fra⟩)⟩
 |true=>
  rw[hb]at S;refine ae (n:=0) (S.c 4) (bh (fun h=>absurd rfl h) (fun _=> ?_));refine aL S 3 rfl (x:=o.t) rfl ?_;have h1:=u.1;refine(Oq g (S.ow 1).row (S.wd 2) (by omega) (fun n J=>by have:=u.2 n J;omega)).mono ?_;rintro _ G ⟨w,rfl,l,i,D,k⟩;replace S:=S.add k fun _ _ h=>h;refine fy w.t ⟨rfl,?_⟩;rw[←l]at b j ⊢;refine(Q6 i (S.ow 5).row (MH (S.wd 6) (S.wd 2) D) (b.sizes i) b j).mono ?_;rintro _ g6 ⟨a,e,rfl,F,B,C,K⟩;refine fy a.t ⟨_,rfl,?_⟩;by_cases A:e=0
  ·obtain⟨L,M,N,O,Q,T,U,V,k⟩:=K A;replace S:=S.add k fun _ _ h=>h;refine bP S 0 rfl rfl (aW rfl) fun H _ S=> ?_;refine aL S 0 rfl (x:=a.t) rfl (.inr ⟨rfl,a,e,rfl,S.fra,B,C,fun _=> ?_⟩);subst L;exact⟨rfl,i,M,N,O,Q,T,U,V,o.ns,D,S.pw [5,6,2,7,8]⟩
  ·replace S:=S.fra0 F;refine bP S 0 rfl rfl (aW rfl) fun H _ S=> ?_;exact aL S 0 rfl (x:=a.t) rfl (.inr ⟨rfl,a,e,rfl,S.fra,B,C,fun h=>absurd h A⟩)
theorem qk{e:Int}(i:au P gI #[.string (str s)] h fun v a=>v= .tuple #[Pv.zero.v,.int .i64 e]∧cd no h a)(j: ∀g,au P iU #[.string (str s)] g fun v a=>v= .tuple #[Pv.zero.v,.int .i64 e]∧cd no g a):
 au P fb #[.string (str s)] h fun v a=>v= .bool true∧cd no h a:=by
 refine pA _ ?_;have S:=aG.start h no;refine i.mono ?_;rintro _ r ⟨rfl,F⟩;replace S:=S.fra0 F;refine fy Pv.zero.t ⟨_,rfl,?_⟩;refine aA (cs:=Pv.zero.cells) S fun q u _ S=> ?_;refine bP S 0 rfl rfl (show ∀y∈Pv.zero.cells,ib y=true from aW rfl) fun o _ S=> ?_;refine(j o).mono ?_;rintro _ w ⟨rfl,F⟩;replace S:=S.fra0 F;refine fy Pv.zero.t ⟨_,rfl,?_⟩;refine aA (cs:=Pv.zero.cells) S fun k l _ S=> ?_;refine bP S 1 rfl rfl (show ∀y∈Pv.zero.cells,ib y=true from aW rfl) fun c _ S=> ?_;refine aL S 0 rfl (x:=Pv.zero.t) rfl (aL S 1 rfl (x:=Pv.zero.t) rfl ?_);have z:=SP (h:=c);refine au.mono (Sx (pv:=Pv.zero) z.1 z.2.2.2 z.2.2.1 (by decide) (fun n f=>by cases f) ⟨rfl,VX _⟩ (by decide) (bD.nil _ _) (.inl rfl)) ?_;rintro _ m ⟨b,rfl,p,F⟩;have d:b=true:=p.2 rfl;subst d;exact⟨_,rfl,aH (fun _=>⟨rfl,(S.fra0 F).fra⟩) (fun f=>absurd rfl f)⟩
theorem mG(d:s.length<2 ^ 60)(W:KT h):au P fb #[.string (str s)] h fun v h'=>v= .bool true∧cd no h h':=by
 by_cases c:(ki s).2=0
 case neg=>exact qk (JI d c) fun g=>MR d c
 by_cases I:(ki s).1.look.e=0
 case neg=>exact qk (OL d W c I) fun g=>Kb d c I
 obtain⟨y,w,rt⟩:=Ll I;obtain⟨Lo,T,rc⟩:=Qr rt.ordered w;obtain⟨φ,p,b,r,_⟩:=Oc rt rc;have B:=Er (h:=h) d W c rt b r;have C:=fun g=>HU (h:=g) d c rt b r;cases hf:((ki s).1.ranges y).isSome with
 |false=>
  refine qk (e:=16) (B.mono ?_) fun g=>(C g).mono ?_
  ·rintro v A (⟨_,rfl,F⟩|⟨a,_⟩)
   ·exact⟨rfl,F⟩
   ·rw[hf]at a;cases a
  ·rintro v A (⟨_,rfl,F⟩|⟨a,_⟩)
   ·exact⟨rfl,F⟩
   ·rw[hf]at a;cases a
 |true=>
  by_cases z:(bU ((dC (ki s).1).sizesF (y ∘ φ) (w ∘ φ) (T ∘ φ))).2.2=0
  case neg=>
   refine qk (e:=(bU ((dC (ki s).1).sizesF (y ∘ φ) (w ∘ φ) (T ∘ φ))).2.2) (B.mono ?_) fun g=>(C g).mono ?_
   ·rintro v A (⟨a,_⟩|⟨_,pv,e,rfl,F,rfl,K,_⟩)
    ·rw[hf]at a;cases a
    ·rw[(K z).2];exact⟨rfl,F⟩
   ·rintro v A (⟨a,_⟩|⟨_,pv,e,rfl,F,rfl,K,_⟩)
    ·rw[hf]at a;cases a
    ·rw[K z];exact⟨rfl,F⟩
  refine pA _ ?_;have S:=aG.start h no;refine B.mono ?_;rintro _ A (⟨a,_⟩|⟨_,pv,e,rfl,F,rfl,_,hp⟩)
  ·rw[hf]at a;cases a
  obtain⟨U,k,m,V,f,i,H,E,D,bnd,br,G,X⟩:=hp z;replace S:=S.add X fun _ _ h=>h;refine fy pv.t ⟨_,rfl,?_⟩;refine aA (cs:=Pv.zero.cells) S fun b5 h6 _ S=> ?_;refine bP S 5 rfl rfl (aW rfl) fun h7 _ S=> ?_;refine(C h7).mono ?_;rintro _ h8 (⟨a,_⟩|⟨_,qv,e,rfl,F,rfl,_,hq⟩)
  ·rw[hf]at a;cases a
  obtain⟨qg,N,q,qo,O,Q,R,M,L,aj,wb,Y⟩:=hq z;replace S:=S.add Y fun _ _ h=>h;refine fy qv.t ⟨_,rfl,?_⟩;refine aA (cs:=Pv.zero.cells) S fun Z aa _ S=> ?_;refine bP S 11 rfl rfl (aW rfl) fun ab _ S=> ?_;refine aL S 5 rfl (x:=pv.t) rfl (aL S 11 rfl (x:=qv.t) rfl ?_);have u:bW pv.g.gr (y ∘ φ) (w ∘ φ) p:=by rw[U];exact b
  have j:=u.sizes k;have ag:pv.o.l=(dC (ki s).1).nodes.length:=by rw[←m.1,V,b.ordered]
  have ai:(dC (ki s).1).nodes.length≤12:=(bX b.first).2.1
  refine au.mono (OP (pv:=pv) (qv:=qv) k N (S.ow 0).row (Lq (S.wd 1) (S.wd 2)) (S.ow 6).row (MH (S.wd 7) (S.wd 8) wb) (by have:=j.1;omega) (fun n J=>by have:=j.2 n J;exact⟨by omega,by omega,by omega⟩) m q (by omega) (S.ow 3).row (S.wd 9)
   (by rw[G];exact bD.of_at (S.ap 4)) (S.ow 10).row (by rw[U,qg]) (by rw[V,qo]) (by rw[i,Q]) (by rw[f,O]) (by rw[i,f];simp[Gr.rings]) (by omega) (by rw[H,R]) (by rw[E,M]) (by rw[D,L])) ?_
  rintro _ ad ⟨rfl,F⟩;exact⟨_,rfl,aH (fun _=>⟨rfl,(S.fra0 F).fra⟩) (fun J=>absurd rfl J)⟩
