/- Contracts: chapter 22's laws: awake. -/
import Derived.Test.YtdhpmegbmjoekaaGreatDoorCPlan3
namespace Go.Proofs.YtdhpmegbmjoekaaGreatDoor.G
open Go Go.Sh
set_option linter.unusedVariables false
set_option linter.unusedSimpArgs false
def OM:Gr:=⟨2,0,9,[⟨3,[0],0,3,1,1,0,0,[],[],0,0,0,0,0⟩],1⟩
theorem Al:dC OM=OM:=by kernel_rfl
theorem rL{a:Nat→Nd→Prop}(h:a 0 ⟨3,[0],0,3,1,1,0,0,[],[],0,0,0,0,0⟩): ∀(i:Nat)(n:Nd),OM.nodes[i]? =some n→a i n:=by
 intro i n e;cases i with
 |zero=>cases e;exact h
 |succ i=>cases e
theorem ON:bW OM (fun _=>2) (fun _=>1) (fun _=>0):=
 ⟨by decide+kernel,rL fun j a h0=>by simp at a;omega,rfl,rfl,rL (by decide+kernel),rL (by decide+kernel),rL (by decide+kernel),rL (by decide+kernel)⟩
theorem OO:Reach OM.nodes (fun _=>1) (fun _=>0) (fun x=>if x=0 then 0 else 2):=
 ⟨rfl,rfl,rL (by decide+kernel),rL (by decide+kernel)⟩
theorem LY:(OM.ranges fun _=>2).isSome=true:=by decide+kernel
theorem MP:bU (OM.sizesF (fun _=>2) (fun _=>1) fun x=>if x=0 then 0 else 2)=([0,8],12,0):=by decide+kernel
section
variable {h:ah}
theorem LZ(X:KT h):au P oO #[] h fun v U=>v= .bool true∧cd no h U:=by
 refine yQ ?_;unfold An;have S:=(aG.start h no).read (aJ 0 (az bl)) X;have O:ByteArray.mk #[]=str []:=rfl;have I:ki []=(Gr.zero,10):=by unfold ki;rw[if_neg (by decide)]
 rw[O];refine(JI (s:=[]) (by decide) (by rw[I];decide)).mono ?_;rintro _ h1 ⟨rfl,F⟩;rw[I];replace S:=S.fra0 F;refine fy Pv.zero.t ⟨_,rfl,?_⟩;refine aA (cs:=Pv.zero.cells) S fun b5 h2 _ S=> ?_;refine bP S 0 rfl rfl (aW rfl) fun h3 _ S=> ?_;refine aA (cs:=az [0]) S fun H h4 _ S=> ?_;obtain⟨m,d⟩: ∃m:Nv,m=⟨3,⟨some ⟨H,0,none⟩,1,1,[0]⟩,0,3,1,1,0,0,Sl.nil,Sl.nil,0,0,0,0,0⟩:=⟨_,rfl⟩;refine aA (cs:=(⟨3,⟨some ⟨H,0,none⟩,1,1,[0]⟩,0,3,1,1,0,0,Sl.nil,Sl.nil,0,0,0,0,0⟩:Nv).cells) S fun o C _ S=> ?_;rw[←d]at S;obtain⟨g,a⟩: ∃g:Gv,g=⟨2,0,9,some ⟨o,0,none⟩,1,1,1,[m]⟩:=⟨_,rfl⟩;have w:g.gr=OM:=by rw[a,d];rfl
 have G:g.ok:=by
  rw[a];refine⟨rfl,VX _,fun n i=> ?_⟩;have:n=m:=by simpa using i
  rw[this,d];exact⟨⟨rfl,VX _⟩,⟨rfl,VX _⟩,⟨rfl,VX _⟩⟩
 have y:bD C g.p (aD g.ns):=by
  rw[a];have:=bD.of_at (S.ap 2);have e:aD [m]=m.cells:=by simp[aD]
  show bD C (some ⟨o,0,none⟩) (aD [m]);rw[e];exact this
 have D:(aM g.ns).P C:=by
  intro f z;obtain⟨n,i,rfl⟩:=VZ.1 z;rw[a]at i;have:n=m:=by simpa using i
  rw[this,d];intro f z;simp only[V5,WO,or_false]at z;rcases z with rfl|rfl|rfl
  ·exact bD.of_at (S.ap 1)
  ·exact bD.nil _ _
  ·exact bD.nil _ _
 have rt:=ON;have E:=Ak y D G (by rw[w];exact rt.fits.2);have T:g.gr.out2=(dV++OM.enc,0):=by rw[w];unfold Gr.out2;rw[if_pos rt.fits.1]
 rw[T]at E;rw[a]at E;refine au.mono E ?_;rintro _ V ⟨rfl,F⟩;replace S:=S.fra0 F;refine⟨_,_,rfl,?_⟩;have q:ki (dV++OM.enc)=(OM,0):=QH rt.fits.1;have Y:(dV++OM.enc).length<2 ^ 60:=by decide+kernel
 have M:=Er (h:=V) (W:=fun _=>2) (R:=fun _=>1) (W':=fun _=>2) (R':=fun _=>1) (pos:=fun _=>0) (pos':=fun _=>0) Y (S.rd 0) (by rw[q]) (by rw[q];exact rt) (by rw[q,Al];exact rt) (by rw[q,Al];exact OO);rw[q]at M;unfold SJ at M;rw[Al]at M;refine au.mono M ?_;rintro _ h7 (⟨J,_⟩|⟨_,b,e,rfl,F,K,_,Z⟩)
 ·rw[LY]at J;cases J
 ·rw[MP]at K;subst K;obtain⟨_,_,_,_,A,r,u,_,_,_,br,B,L⟩:=Z rfl;replace S:=S.add L fun _ _ h=>h;refine fy b.t ⟨_,rfl,?_⟩;refine aA (cs:=Pv.zero.cells) S fun N h8 _ S=> ?_;refine bP S 8 rfl rfl (aW rfl) fun h9 _ S=> ?_;rw[MP]at r u;refine cC rfl (cC rfl ?_);have l2:b.rl=2:=A;refine ak (p:=b.rp) (l:=b.rl) (c:=b.rc) (S.c 8) (aH (fun _=> ?_) (fun i=>absurd (by rw[l2];rfl) i));refine ak (p:=b.rp) (l:=b.rl) (c:=b.rc) (S.c 8) (aC B (k:=1) rfl (by omega) ?_);have Q:b.rs[1]? =some ⟨8,2,(OM.rooms (fun _=>1) fun x=>if x=0 then 0 else 2).getD 1 0⟩:=by rw[r];rfl
  refine ae (n:=8) ?_ (aH (fun _=> ?_) (fun i=>absurd rfl i))
  ·have:=uV Q (j:=0) (by decide);rw[show((1:Int).toNat*3)=1*3+0 from rfl,aR,SN];exact S.cell 7 rfl this
  ·refine ae (n:=b.words) (S.c 8) ⟨by rw[u];rfl,S.fra⟩
