/- PlanKeeps: the plan's graph tells the same frames; as bytes it makes the same plan: the law over heaps. -/
import Derived.Test.YtdhpmegbmjoekaaGreatDoorCPSame
import Derived.Test.YtdhpmegbmjoekaaGreatDoorCLaw22
import Derived.Test.YtdhpmegbmjoekaaGreatDoorCRngV
import Derived.Test.YtdhpmegbmjoekaaGreatDoorCKeep10
import Derived.Test.YtdhpmegbmjoekaaGreatDoorCKeep13
namespace Go.Proofs.YtdhpmegbmjoekaaGreatDoor.G
open Go Go.Sh
set_option linter.unusedVariables false
set_option linter.unusedSimpArgs false
theorem Ga {h a:af} (f:aY) (k:cp no h a) (c:f.P h):f.P a:=f.loc c k.size fun b d=>k.same b (f.lt c d) fun h=>h
theorem MC {g:Gr} (h:g.look.e=0):(cF g).width=g.width∧(cF g).low=g.low∧(cF g).high=g.high:=by
 unfold cF;rw[if_pos h];exact⟨rfl,rfl,rfl⟩
theorem HB {h:af} (hT:KT h) {p:Option Addr} {l c:Nat} {L:List Int} (hx:bI h p (az L)) (hL:L.length=l) (cj:l≤c) (hl:l<2 ^ 62) (more:Int) {vp:Option Addr} {vl vc:Nat} {xs:List Int} (k:bI h vp (az xs)) (cm:xs.length=vl) (bd:vl<2 ^ 62):
 au P oH #[.slice p l c,.int .i64 more,.slice vp vl vc] h fun v h'=>v= .bool true∧cp no h h':=by
 refine uw _ _ _ _ _ _ _ ?_;unfold sW;have S:=(((aJ.start h no).read (row p (az L)) hx).read (blk 0 (az bo)) hT).read (row vp (az xs)) k;refine(Lu (S.r 1 _ rfl)).mono ?_;rintro _ d ⟨rfl,F⟩;replace S:=S.fra0 F;refine⟨_,rfl,?_⟩;refine(MK (S.row 0 rfl) hL cj hl more).mono ?_;rintro _ h2 ⟨g,mg,rfl,F⟩;replace S:=S.fra0 F;refine⟨_,rfl,?_⟩;obtain⟨Wm,Rm,c4,J⟩:=mg.right;have e0:g.look.e=0:=by rw[J.look]
 have db:Fq (fO++g.enc)=(g,0):=Fp J.fits.1;have a9:(fO++g.enc).length<2 ^ 60:=by
  have:=vx J.fits.2;unfold Gr.out2 at this;rw[if_pos J.fits.1] at this;exact this
 obtain⟨W,R,rt⟩:=KY e0;refine(NH (by omega)).mono ?_;rintro _ h5 ⟨b,rfl,ok,D,S1⟩;rw[db] at D;dsimp only at D;replace S:=S.add S1 fun _ _ h=>h;dsimp only[Xi,Xj] at S;refine iU b.t ⟨_,rfl,?_⟩;refine aA (cs:=aL bT (zT bT)) S fun b9 c6 _ S=> ?_;dsimp only[Xi,Xj] at S;refine cA S 2 rfl rfl (bu rfl) fun b7 _ S=> ?_;dsimp only[List.set] at S;obtain⟨Lo,Hi,rc⟩:=JO rt.ordered R;obtain⟨ψ,co,Q,O,_,_,_,_,_,_,_,G,_⟩:=Hj rt rc;have M:=xC (h:=b7) (W:=W) (R:=R) a9 (S.r 1 _ rfl) (by rw[db]) (by rw[db];exact rt) (by rw[db];exact Q) (by rw[db];exact O);rw[db] at M;dsimp only at M;refine au.mono M ?_;rintro _ c7 (⟨_,rfl,F⟩|⟨a8,pv,e,rfl,F,he,hz,ho⟩)
 ·replace S:=S.fra0 F;refine iU Pv.zero.t ⟨_,rfl,?_⟩;refine aA (cs:=Pv.zero.cells) S fun an a3 _ S=> ?_;dsimp only[Xi,Xj] at S;refine cA S 3 rfl rfl (bu rfl) fun Z _ S=> ?_;exact bh (fun _=>cI rfl (aH (fun _=>⟨rfl,S.fra⟩) (fun h=>absurd rfl h))) (fun h=>absurd h (by decide))
 by_cases ez:e=0
 case neg=>
  obtain⟨bS,rfl⟩:=hz ez;rw[bS];replace S:=S.fra0 F;refine iU Pv.zero.t ⟨_,rfl,?_⟩;refine aA (cs:=Pv.zero.cells) S fun an a3 _ S=> ?_;dsimp only[Xi,Xj] at S;refine cA S 3 rfl rfl (bu rfl) fun Z _ S=> ?_;exact bh (fun _=>cI rfl (aH (fun h=>absurd h (by decide)) (fun _=>⟨rfl,S.fra⟩))) (fun h=>absurd h (by decide))
 have po:=ho ez;obtain⟨eg,q,bk,eo,aw,ax,b6,b3,b0,bnd,br,b5,S1⟩:=id po;rw[ez] at he ⊢;replace S:=S.add S1 fun _ _ h=>h;dsimp only[Xi,Xj] at S;refine iU pv.t ⟨_,rfl,?_⟩;refine aA (cs:=Pv.zero.cells) S fun an a3 _ S=> ?_;dsimp only[Xi,Xj] at S;refine cA S 8 rfl rfl (bu rfl) fun Z _ S=> ?_;dsimp only[List.set] at S;refine bh (fun h=>absurd rfl h) (fun _=> ?_);obtain⟨φ,bl,A,u⟩:=FB rt;have s:bM b.gr W R (posG b.gr.nodes):=by rw[D];exact rt
 have bb:=(s.sizes ok).2;have d1:b.gr.nodes.length=b.l:=by rw[←ok.1];simp[Gv.gr]
 have ff:=bR s.first;have d3:=ff.2.1;obtain⟨a5,a6,a7⟩:=MC e0;rw[←eg,←D] at a5 a6 a7;rw[←eg,←D] at u;have a:bM pv.g.gr (W ∘ φ) (R ∘ φ) bl:=by rw[eg];exact A
 have bn:=(a.sizes q).2;have c1:pv.g.gr.nodes.length=pv.g.l:=by rw[←q.1];simp[Gv.gr]
 have c2:=(bR a.first).2.1;refine aN S 2 rfl (x:=b.t) rfl ?_;obtain⟨m,em,hm⟩: ∃m:Nat,IntKind.wrap .i64 (12+cn .i64 (fu more 8) 7)=(m:Int)∧m≤19:=by
  have h7:cn .i64 (fu more 8) 7=fu more 8 % 8:=zO (fu more 8) 7 3 rfl (by decide);rw[h7];have d:=Wx (fu more 8) (show(8:Int)≠0 by decide);have h2:=WD (fu more 8) (show(0:Int)<8 by decide);generalize fu more 8 % 8=y at d h2;rw[al (by omega)];exact⟨(12+y).toNat,by omega,by omega⟩
 rw[em];refine(NX (h:=Z) ff.2.2.1 ff.2.2.2.1 (by omega) (S.row 2 rfl) cm bd).mono ?_;rintro _ b8 ⟨N,rfl,E,fl,S1⟩;replace S:=S.add S1 fun _ _ h=>h;dsimp only[Xi,Xj] at S;refine⟨_,_,_,rfl,?_⟩;obtain⟨V,K,hV⟩:=Bc s.ordered N.fr fun i n l=>jZ n l (W (n.inn.getD 0 0)).toNat;obtain⟨C,C0,hC⟩:=Bc s.ordered (N.l:Int) fun i n l=>iB n l;obtain⟨V',H,bw,aa⟩:=u LI V hV;obtain⟨C',ad,bp,a4⟩:=u N0 C hC;have z:N.fr.length=m:=by rw[Fm.len E,fl]
 have b1: ∀x,0≤x→x≤(b.l:Int)→(V x).length≤2 ^ 30∧0≤C x∧C x≤((V x).length:Int):=fun x h0 d=>by
  have:=Ki s (W':=W) hV (by rw[C0,K,z,fl]) hC _ x rfl h0 (by omega);have hp:=vQ b.gr.nodes x;rw[K,z] at this;omega
 have b2: ∀x,0≤x→x≤(pv.g.l:Int)→(V' x).length≤2 ^ 30∧0≤C' x∧C' x≤((V' x).length:Int):=fun x h0 d=>by
  have:=Ki a (W':=W ∘ φ) aa (by rw[ad,H,C0,K,z,fl]) a4 _ x rfl h0 (by omega);have hp:=vQ pv.g.gr.nodes x;rw[H,K,z] at this;omega
 have bg:N7 pv.g.gr N.fr↔N7 b.gr N.fr:=by unfold N7;rw[a5,a6,a7]
 have ev:nV b.gr N.fr V=nV pv.g.gr N.fr V':=by
  unfold nV;by_cases hf:N7 b.gr N.fr
  ·rw[if_pos hf,if_pos (bg.2 hf),bw]
  ·rw[if_neg hf,if_neg (fun h=>hf (bg.1 h))]
 have I: ∀{g:af} {X Y:List aY},aJ h no g X Y→X[4]? =some (fy (pv.g.ns.map Nv.inn))→X[5]? =some (bP (vT pv.g.ns))→(aU pv.g.ns).P g:=fun S e3 e4=>H7 (S.w 4 _ e3) (S.w 5 _ e4);refine aN S 2 rfl (x:=b.t) rfl (N9 (pv:=pv) (fun j v k=>S.cell 8 rfl k) ?_);refine(Bj (h:=b8) ok (S.own 0 rfl).row (S.w 1 _ rfl) bb s E (S.w 9 _ rfl) (by omega) K hV (fun x h0 d=>(b1 x h0 d).1)).mono ?_;rintro _ ca ⟨fa,rfl,U,T,bq,ay⟩;replace S:=S.fra0 bq;refine⟨_,_,_,rfl,HC (pv:=pv) (fun j v k=>S.cell 8 rfl k) ?_⟩;refine au.mono (Bj (h:=ca) q (S.own 3 rfl).row (I S rfl rfl) bn a E (S.w 9 _ rfl) (by omega) (H.trans K) aa (fun x h0 d=>(b2 x h0 d).1)) ?_;rintro _ cb ⟨fb,rfl,bH,bx,ag,aO⟩;replace S:=S.fra0 ag;refine⟨_,_,_,rfl,cR S 2 rfl rfl ?_⟩;have aj:fa.l<2 ^ 40:=by
  rw[←Fm.len U,T];unfold nV;split
  ·have:=(b1 b.out (by have:=ff.2.2.2.2.1;have h2:1≤b.out:=this.1;omega) (by have:=ff.2.2.2.2.1;have h2:b.out≤(b.gr.nodes.length:Int):=this.2;omega)).1;show(V b.out).length<_;omega
  ·decide
 refine(Hz (h:=cb) U bH (Ga fa.fact ag ay) aO aj (by rw[T,bx];exact ev)).mono ?_;rintro _ c8 ⟨rfl,hh⟩;subst hh;refine⟨_,rfl,HC (pv:=pv) (fun j v k=>S.cell 8 rfl k) (cR S 2 rfl rfl ?_)⟩;refine aN S 2 rfl (x:=b.t) rfl (N9 (pv:=pv) (fun j v k=>S.cell 8 rfl k) ?_);refine(FH (C:=C) ok (S.own 0 rfl).row (S.w 1 _ rfl) bb s E (S.w 9 _ rfl) (by omega) K hV (fun x h0 d=>(b1 x h0 d).1) C0 hC (fun x h0 d=>(b1 x h0 d).2)).mono ?_;rintro _ cd ⟨fc,rfl,ar,ao,bs,a0⟩;replace S:=S.fra0 bs;refine⟨_,_,_,rfl,HC (pv:=pv) (fun j v k=>S.cell 8 rfl k) ?_⟩;refine au.mono (FH (C:=C') (h:=cd) q (S.own 3 rfl).row (I S rfl rfl) bn a E (S.w 9 _ rfl) (by omega) (H.trans K) aa (fun x h0 d=>(b2 x h0 d).1) (ad.trans C0) a4 (fun x h0 d=>(b2 x h0 d).2)) ?_;rintro _ ch ⟨fd,rfl,bO,bL,ai,a1⟩;replace S:=S.fra0 ai;refine⟨_,_,_,rfl,cR S 2 rfl rfl ?_⟩;have ap:fc.l<2 ^ 40:=by
  have d:=Fm.len ar;have h2:=Fm.len U;rw[ao,U0,←T,h2] at d;omega
 refine(Hz (h:=ch) ar bO (Ga fc.fact ai a0) a1 ap (by
  rw[ao,bL,ev];have:C' pv.g.gr.out=C b.gr.out:=bp;show List.take (C b.gr.out).toNat _=List.take (C' pv.g.gr.out).toNat _;rw[this])).mono ?_
 rintro _ c9 ⟨rfl,hh⟩;subst hh;refine⟨_,rfl,HC (pv:=pv) (fun j v k=>S.cell 8 rfl k) (cR S 2 rfl rfl ?_)⟩;refine N9 (pv:=pv) (fun j v k=>S.cell 8 rfl k) ?_;refine au.mono (Bg (S.own 3 rfl).row (I S rfl rfl) q a.fits.2) ?_;rintro _ ci ⟨rfl,F⟩;replace S:=S.fra0 F;have b4:pv.g.gr.out2=(fO++(cF g).enc,0):=by
  unfold Gr.out2;rw[if_pos a.fits.1,eg]
 rw[b4];refine⟨_,_,rfl,?_⟩;have B:Fq (fO++(cF g).enc)=(cF g,0):=Fp A.fits.1;have ab:(fO++(cF g).enc).length<2 ^ 60:=by
  have:=vx A.fits.2;unfold Gr.out2 at this;rw[if_pos A.fits.1] at this;exact this
 obtain⟨W2,R2,c3,c0,a2⟩:=Iu rt a8;have M2:=xC (h:=ci) (W:=W2) (R:=R2) (W':=W ∘ ψ) (R':=R ∘ ψ) (Hi':=Hi ∘ ψ) (Lo':=Lo ∘ ψ) ab (S.r 1 _ rfl) (by rw[B]) (by rw[B];exact c0) (by rw[B,G];exact Q) (by rw[B,G];exact O);rw[B] at M2;dsimp only at M2;unfold Oc at M2;rw[G] at M2;refine au.mono M2 ?_;rintro _ dd (⟨hb,_⟩|⟨_,qv,f,rfl,F,hf,_,hq⟩)
 ·rw[a2] at hb;cases hb
 rw[←he] at hf;subst hf;obtain⟨qg,ct,bm,qo,cw,cy,cz,cr,cq,_,qr,cx,S2⟩:=hq rfl;replace S:=S.add S2 fun _ _ h=>h;dsimp only[Xi,Xj] at S;refine iU qv.t ⟨_,rfl,?_⟩;refine aA (cs:=Pv.zero.cells) S fun c5 dl _ S=> ?_;dsimp only[Xi,Xj] at S;refine cA S 15 rfl rfl (bu rfl) fun ds _ S=> ?_;dsimp only[List.set] at S;refine aN S 8 rfl (x:=pv.t) rfl (aN S 15 rfl (x:=qv.t) rfl ?_);have ba:=a.sizes q;have d2:pv.o.l=(cF g).nodes.length:=by rw[←bk.1,eo,A.ordered]
 have d4:(cF g).nodes.length≤12:=(bR A.first).2.1
 refine au.mono (MD (pv:=pv) (qv:=qv) q ct (S.own 3 rfl).row (I S rfl rfl) (S.own 10 rfl).row (H7 (S.w 11 _ rfl) (S.w 12 _ rfl)) (by have:=ba.1;omega) (fun n hn=>by have:=ba.2 n hn;exact⟨by omega,by omega,by omega⟩) bk bm (by omega) (S.own 6 rfl).row (S.own 13 rfl).row
  (by rw[b5];exact bI.of_at (S.at 7 rfl)) (by rw[cx];exact bI.of_at (S.at 14 rfl)) (by rw[eg,qg]) (by rw[eo,qo]) (by rw[ax,cy]) (by rw[aw,cw]) (by rw[ax,aw];simp[Gr.rings]) (by omega) (by rw[b6,cz]) (by rw[b3,cr]) (by rw[b0,cq])) ?_
 rintro _ d0 ⟨rfl,F⟩;exact⟨_,rfl,cI rfl (cI rfl (cI rfl (cI rfl ⟨rfl,(S.fra0 F).fra⟩)))⟩
end Go.Proofs.YtdhpmegbmjoekaaGreatDoor.G

