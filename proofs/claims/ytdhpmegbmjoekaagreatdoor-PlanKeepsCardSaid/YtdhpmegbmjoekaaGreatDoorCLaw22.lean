/- Contracts: chapter 22's laws: awake. -/
import Derived.Test.YtdhpmegbmjoekaaGreatDoorCPlan3
namespace Go.Proofs.YtdhpmegbmjoekaaGreatDoor.G
open Go Go.Sh
set_option linter.unusedVariables false
set_option linter.unusedSimpArgs false
def NM:Gr:=⟨2,0,9,[⟨3,[0],0,3,1,1,0,0,[],[],0,0,0,0,0⟩],1⟩
theorem Bh:cF NM=NM:=by kernel_rfl
theorem sj {a:Nat→Nd→Prop} (h:a 0 ⟨3,[0],0,3,1,1,0,0,[],[],0,0,0,0,0⟩): ∀(i:Nat) (n:Nd),NM.nodes[i]? =some n→a i n:=by
 intro i n e;cases i with
 |zero=>cases e;exact h
 |succ i=>cases e
theorem NN:bM NM (fun _=>2) (fun _=>1) (fun _=>0):=
 ⟨by decide+kernel,sj fun j a h0=>by simp at a;omega,rfl,rfl,sj (by decide+kernel),sj (by decide+kernel),sj (by decide+kernel),sj (by decide+kernel)⟩
theorem NO:Reach NM.nodes (fun _=>1) (fun _=>0) (fun x=>if x=0 then 0 else 2):=
 ⟨rfl,rfl,sj (by decide+kernel),sj (by decide+kernel)⟩
theorem Lt:(NM.ranges fun _=>2).isSome=true:=by decide+kernel
theorem My:fL (NM.sizesF (fun _=>2) (fun _=>1) fun x=>if x=0 then 0 else 2)=([0,8],12,0):=by decide+kernel
section
variable {h:af}
theorem Lu (Y:KT h):au P pf #[] h fun v V=>v= .bool true∧cp no h V:=by
 refine An ?_;unfold Bp;have S:=(aJ.start h no).read (blk 0 (az bo)) Y;have Q:ByteArray.mk #[]=str []:=rfl;have J:Fq []=(Gr.zero,10):=by unfold Fq;rw[if_neg (by decide)]
 rw[Q];refine(Ob (s:=[]) (by decide) (by rw[J];decide)).mono ?_;rintro _ h1 ⟨rfl,F⟩;rw[J];replace S:=S.fra0 F;refine iU Pv.zero.t ⟨_,rfl,?_⟩;refine aA (cs:=Pv.zero.cells) S fun b5 h2 _ S=> ?_;dsimp only[Xi,Xj] at S;refine cA S 0 rfl rfl (bu rfl) fun h3 _ S=> ?_;dsimp only[List.set] at S;refine aA (cs:=az [0]) S fun I h4 _ S=> ?_;dsimp only[Xi,Xj] at S;obtain⟨m,d⟩: ∃m:Nv,m=⟨3,⟨some ⟨I,0,none⟩,1,1,[0]⟩,0,3,1,1,0,0,Sl.nil,Sl.nil,0,0,0,0,0⟩:=⟨_,rfl⟩;refine aA (cs:=(⟨3,⟨some ⟨I,0,none⟩,1,1,[0]⟩,0,3,1,1,0,0,Sl.nil,Sl.nil,0,0,0,0,0⟩:Nv).cells) S fun o D _ S=> ?_;rw[←d] at S;dsimp only[Xi,Xj] at S;obtain⟨g,a⟩: ∃g:Gv,g=⟨2,0,9,some ⟨o,0,none⟩,1,1,1,[m]⟩:=⟨_,rfl⟩;have y:g.gr=NM:=by rw[a,d];rfl
 have H:g.ok:=by
  rw[a];refine⟨rfl,U3 _,fun n i=> ?_⟩;have:n=m:=by simpa using i
  rw[this,d];exact⟨⟨rfl,U3 _⟩,⟨rfl,U3 _⟩,⟨rfl,U3 _⟩⟩
 have z:bI D g.p (aF g.ns):=by
  rw[a];have:=bI.of_at (S.at 2 rfl);have e:aF [m]=m.cells:=by simp[aF]
  show bI D (some ⟨o,0,none⟩) (aF [m]);rw[e];exact this
 have G:(aU g.ns).P D:=by
  intro f A;obtain⟨n,i,rfl⟩:=U5.1 A;rw[a] at i;have:n=m:=by simpa using i
  rw[this,d];intro f A;simp only[U7,VU,or_false] at A;rcases A with rfl|rfl|rfl
  ·exact bI.of_at (S.at 1 rfl)
  ·exact bI.nil _ _
  ·exact bI.nil _ _
 have rt:=NN;have E:=Bg z G H (by rw[y];exact rt.fits.2);have U:g.gr.out2=(fO++NM.enc,0):=by rw[y];unfold Gr.out2;rw[if_pos rt.fits.1]
 rw[U] at E;rw[a] at E;refine au.mono E ?_;rintro _ X ⟨rfl,F⟩;replace S:=S.fra0 F;refine⟨_,_,rfl,?_⟩;have q:Fq (fO++NM.enc)=(NM,0):=Fp rt.fits.1;have Z:(fO++NM.enc).length<2 ^ 60:=by decide+kernel
 have M:=xC (h:=X) (W:=fun _=>2) (R:=fun _=>1) (W':=fun _=>2) (R':=fun _=>1) (pos:=fun _=>0) (pos':=fun _=>0) Z (S.r 0 _ rfl) (by rw[q]) (by rw[q];exact rt) (by rw[q,Bh];exact rt) (by rw[q,Bh];exact NO);rw[q] at M;dsimp only at M;unfold Oc at M;rw[Bh] at M;refine au.mono M ?_;rintro _ h7 (⟨K,_⟩|⟨_,b,e,rfl,F,L,_,ho⟩)
 ·rw[Lt] at K;cases K
 ·rw[My] at L;subst L;obtain⟨_,_,_,_,B,u,w,_,_,_,br,C,N⟩:=ho rfl;replace S:=S.add N fun _ _ h=>h;dsimp only[Xi,Xj] at S;refine iU b.t ⟨_,rfl,?_⟩;refine aA (cs:=Pv.zero.cells) S fun O h8 _ S=> ?_;dsimp only[Xi,Xj] at S;refine cA S 8 rfl rfl (bu rfl) fun h9 _ S=> ?_;dsimp only[List.set] at S;rw[My] at u w;refine cI rfl (cI rfl ?_);have l2:b.rl=2:=B;refine ak (p:=b.rp) (l:=b.rl) (c:=b.rc) (S.cell 8 rfl rfl) (aH (fun _=> ?_) (fun i=>absurd (by rw[l2];rfl) i));refine ak (p:=b.rp) (l:=b.rl) (c:=b.rc) (S.cell 8 rfl rfl) (aB C (k:=1) rfl (by omega) ?_);have T:b.rs[1]? =some ⟨8,2,(NM.rooms (fun _=>1) fun x=>if x=0 then 0 else 2).getD 1 0⟩:=by rw[u];rfl
  refine ae (n:=8) ?_ (aH (fun _=> ?_) (fun i=>absurd rfl i))
  ·have:=tK T (j:=0) (by decide);rw[show((1:Int).toNat*3)=1*3+0 from rfl,aQ,SI];exact S.cell 7 rfl this
  ·refine ae (n:=b.words) (S.cell 8 rfl rfl) ⟨by rw[w];rfl,S.fra⟩
end
end Go.Proofs.YtdhpmegbmjoekaaGreatDoor.G

