/- Contracts: chapter 22's laws: awake. -/
import Derived.Test.YtdhpmegbmjoekaaGreatDoorCPlan3
namespace Go.Proofs.YtdhpmegbmjoekaaGreatDoor.G
open Go Go.Sh
set_option linter.unusedVariables false
set_option linter.unusedSimpArgs false
def L8:Gr:=⟨2,0,9,[⟨3,[0],0,3,1,1,0,0,[],[],0,0,0,0,0⟩],1⟩
theorem zx:cR L8=L8:=by kernel_rfl
theorem qT {P':Nat→Nd→Prop} (h:P' 0 ⟨3,[0],0,3,1,1,0,0,[],[],0,0,0,0,0⟩): ∀(i:Nat) (n:Nd),L8.nodes[i]? =some n→P' i n:=by
 intro i n e
 cases i with
 |zero=>cases e;exact h
 |succ i=>cases e
theorem L9:bJ L8 (fun _=>2) (fun _=>1) (fun _=>0):=
 ⟨by decide+kernel,qT fun j hj h0=>by simp at hj;omega,rfl,rfl,qT (by decide+kernel),qT (by decide+kernel),qT (by decide+kernel),qT (by decide+kernel)⟩
theorem Ma:Reach L8.nodes (fun _=>1) (fun _=>0) (fun x=>if x=0 then 0 else 2):=
 ⟨rfl,rfl,qT (by decide+kernel),qT (by decide+kernel)⟩
theorem JN:(L8.ranges fun _=>2).isSome=true:=by decide+kernel
theorem KN:cL (L8.sizesF (fun _=>2) (fun _=>1) fun x=>if x=0 then 0 else 2)=([0,8],12,0):=by decide+kernel
section
variable {h:ae}
theorem JO (hT:KT h):aq P kQ #[] h fun v h'=>v= .bool true∧cu no h h':=by
 refine yE ?_
 unfold zI
 have S:=(aK.start h no).read (blk 0 (az aS)) hT
 have e0:ByteArray.mk #[]=str []:=rfl
 have d0:tQ []=(Gr.zero,10):=by unfold tQ;rw[if_neg (by decide)]
 rw[e0]
 refine(Ie (s:=[]) (by decide) (by rw[d0];decide)).mono ?_
 rintro _ h1 ⟨rfl,F⟩
 rw[d0]
 replace S:=S.fra0 F
 refine jQ Pv.zero.t ⟨_,rfl,?_⟩
 refine aC (cs:=Pv.zero.cells) S fun b5 h2 _ S=> ?_
 dsimp only[List.cons_append,List.nil_append] at S
 refine cG S 0 rfl rfl (bC rfl) fun h3 _ S=> ?_
 dsimp only[List.set] at S
 refine aC (cs:=az [0]) S fun b8 h4 _ S=> ?_
 dsimp only[List.cons_append,List.nil_append] at S
 obtain⟨nv,env⟩: ∃nv:Nv,nv=⟨3,⟨some ⟨b8,0,none⟩,1,1,[0]⟩,0,3,1,1,0,0,Sl.nil,Sl.nil,0,0,0,0,0⟩:=⟨_,rfl⟩
 refine aC (cs:=(⟨3,⟨some ⟨b8,0,none⟩,1,1,[0]⟩,0,3,1,1,0,0,Sl.nil,Sl.nil,0,0,0,0,0⟩:Nv).cells) S fun b10 h5 _ S=> ?_
 rw[←env] at S
 dsimp only[List.cons_append,List.nil_append] at S
 obtain⟨gv,egv⟩: ∃gv:Gv,gv=⟨2,0,9,some ⟨b10,0,none⟩,1,1,1,[nv]⟩:=⟨_,rfl⟩
 have hgr:gv.gr=L8:=by rw[egv,env];rfl
 have hok:gv.ok:=by
  rw[egv]
  refine⟨rfl,Nat.le_refl _,fun n hn=> ?_⟩
  have:n=nv:=by simpa using hn
  rw[this,env]
  exact⟨⟨rfl,Nat.le_refl _⟩,⟨rfl,Nat.le_refl _⟩,⟨rfl,Nat.le_refl _⟩⟩
 have hrow:bT h5 gv.p (aF gv.ns):=by
  rw[egv]
  have:=bT.of_at (S.at 2 rfl)
  have e:aF [nv]=nv.cells:=by simp[aF]
  show bT h5 (some ⟨b10,0,none⟩) (aF [nv])
  rw[e];exact this
 have hnr:(aZ gv.ns).P h5:=by
  intro f hf
  obtain⟨n,hn,rfl⟩:=List.mem_map.1 hf
  rw[egv] at hn
  have:n=nv:=by simpa using hn
  rw[this,env]
  intro f hf
  simp only[List.mem_cons,List.not_mem_nil,or_false] at hf
  rcases hf with rfl|rfl|rfl
  ·exact bT.of_at (S.at 1 rfl)
  ·exact bT.nil _ _
  ·exact bT.nil _ _
 have rt:=L9
 have E:=FL hrow hnr hok (by rw[hgr];exact rt.fits.2)
 have eo:gv.gr.out2=(fi++L8.enc,0):=by rw[hgr];unfold Gr.out2;rw[if_pos rt.fits.1]
 rw[eo] at E
 rw[egv] at E
 refine aq.mono E ?_
 rintro _ h6 ⟨rfl,F⟩
 replace S:=S.fra0 F
 refine⟨_,_,rfl,?_⟩
 have db:tQ (fi++L8.enc)=(L8,0):=NP rt.fits.1
 have hl:(fi++L8.enc).length<2 ^ 60:=by decide+kernel
 have M:=DM (h:=h6) (W:=fun _=>2) (R:=fun _=>1) (W':=fun _=>2) (R':=fun _=>1) (pos:=fun _=>0) (pos':=fun _=>0) hl (S.r 0 _ rfl) (by rw[db]) (by rw[db];exact rt) (by rw[db,zx];exact rt) (by rw[db,zx];exact Ma)
 rw[db] at M
 dsimp only at M
 unfold PB at M
 rw[zx] at M
 refine aq.mono M ?_
 rintro _ h7 (⟨hb,_⟩|⟨_,pv,e,rfl,F,he,_,ho⟩)
 ·rw[JN] at hb;cases hb
 ·rw[KN] at he
  subst he
  obtain⟨_,_,_,_,erl,ers,ewd,_,_,_,br,erp,S1⟩:=ho rfl
  replace S:=S.add S1 fun _ _ h=>h
  dsimp only[List.cons_append,List.nil_append] at S
  refine jQ pv.t ⟨_,rfl,?_⟩
  refine aC (cs:=Pv.zero.cells) S fun b20 h8 _ S=> ?_
  dsimp only[List.cons_append,List.nil_append] at S
  refine cG S 8 rfl rfl (bC rfl) fun h9 _ S=> ?_
  dsimp only[List.set] at S
  rw[KN] at ers ewd
  refine cq rfl (cq rfl ?_)
  have l2:pv.rl=2:=erl
  refine am (p:=pv.rp) (l:=pv.rl) (c:=pv.rc) (S.cell 8 rfl rfl) (aO (fun _=> ?_) (fun hn=>absurd (by rw[l2];rfl) hn))
  refine am (p:=pv.rp) (l:=pv.rl) (c:=pv.rc) (S.cell 8 rfl rfl) (aG erp (k:=1) rfl (by omega) ?_)
  have e1:pv.rs[1]? =some ⟨8,2,(L8.rooms (fun _=>1) fun x=>if x=0 then 0 else 2).getD 1 0⟩:=by rw[ers];rfl
  refine af (n:=8) ?_ (aO (fun _=> ?_) (fun hn=>absurd rfl hn))
  ·have:=tO e1 (j:=0) (by decide)
   rw[show((1:Int).toNat*3)=1*3+0 from rfl,aY,Nat.zero_add]
   exact S.cell 7 rfl this
  ·refine af (n:=pv.words) (S.cell 8 rfl rfl) ⟨by rw[ewd];rfl,S.fra⟩
end
end Go.Proofs.YtdhpmegbmjoekaaGreatDoor.G
