/- Contracts: chapter 22's laws: awake. -/
import Derived.Test.YtdhpmegbmjoekaaGreatDoorCPlan3
namespace Go.Proofs.YtdhpmegbmjoekaaGreatDoor.G
open Go Go.Sh
set_option linter.unusedVariables false
set_option linter.unusedSimpArgs false
def awP:Gr:=⟨2,0,9,[⟨3,[0],0,3,1,1,0,0,[],[],0,0,0,0,0⟩],1⟩
theorem awP_fused:fuseG awP=awP:=by kernel_rfl
theorem awP_one {P':Nat→Nd→Prop} (h:P' 0 ⟨3,[0],0,3,1,1,0,0,[],[],0,0,0,0,0⟩): ∀(i:Nat) (n:Nd),awP.nodes[i]? =some n→P' i n:=by
 intro i n e
 cases i with
 |zero=>cases e;exact h
 |succ i=>cases e
theorem awP_right:Right awP (fun _=>2) (fun _=>1) (fun _=>0):=
 ⟨by decide+kernel,awP_one fun j hj h0=>by simp at hj;omega,rfl,rfl,awP_one (by decide+kernel),awP_one (by decide+kernel),awP_one (by decide+kernel),awP_one (by decide+kernel)⟩
theorem awP_reach:Reach awP.nodes (fun _=>1) (fun _=>0) (fun x=>if x=0 then 0 else 2):=
 ⟨rfl,rfl,awP_one (by decide+kernel),awP_one (by decide+kernel)⟩
theorem awP_ranges:(awP.ranges fun _=>2).isSome=true:=by decide+kernel
theorem awP_lay:layout (awP.sizesF (fun _=>2) (fun _=>1) fun x=>if x=0 then 0 else 2)=([0,8],12,0):=by decide+kernel
section
variable {h:Heap}
theorem awake22_ok (hT:KT h):callP P n_law22_awake #[] h fun v h'=>v= .bool true∧Fra no h h':=by
 refine call_law22_awake ?_
 unfold law22_awake
 have S:=(Sep.start h no).read (blk 0 (ints kindTab)) hT
 have e0:ByteArray.mk #[]=str []:=rfl
 have d0:dGr []=(Gr.zero,10):=by unfold dGr;rw[if_neg (by decide)]
 rw[e0]
 refine(Make_err (s:=[]) (by decide) (by rw[d0];decide)).mono ?_
 rintro _ h1 ⟨rfl,F⟩
 rw[d0]
 replace S:=S.fra0 F
 refine exS_i Pv.zero.t ⟨_,rfl,?_⟩
 refine newI_S (cs:=Pv.zero.cells) S fun b5 h2 _ S=> ?_
 dsimp only[List.cons_append,List.nil_append] at S
 refine stL_S S 0 rfl rfl (mkS_one rfl) fun h3 _ S=> ?_
 dsimp only[List.set] at S
 refine newI_S (cs:=ints [0]) S fun b8 h4 _ S=> ?_
 dsimp only[List.cons_append,List.nil_append] at S
 obtain⟨nv,env⟩: ∃nv:Nv,nv=⟨3,⟨some ⟨b8,0,none⟩,1,1,[0]⟩,0,3,1,1,0,0,Sl.nil,Sl.nil,0,0,0,0,0⟩:=⟨_,rfl⟩
 refine newI_S (cs:=(⟨3,⟨some ⟨b8,0,none⟩,1,1,[0]⟩,0,3,1,1,0,0,Sl.nil,Sl.nil,0,0,0,0,0⟩:Nv).cells) S fun b10 h5 _ S=> ?_
 rw[←env] at S
 dsimp only[List.cons_append,List.nil_append] at S
 obtain⟨gv,egv⟩: ∃gv:Gv,gv=⟨2,0,9,some ⟨b10,0,none⟩,1,1,1,[nv]⟩:=⟨_,rfl⟩
 have hgr:gv.gr=awP:=by rw[egv,env];rfl
 have hok:gv.ok:=by
  rw[egv]
  refine⟨rfl,Nat.le_refl _,fun n hn=> ?_⟩
  have:n=nv:=by simpa using hn
  rw[this,env]
  exact⟨⟨rfl,Nat.le_refl _⟩,⟨rfl,Nat.le_refl _⟩,⟨rfl,Nat.le_refl _⟩⟩
 have hrow:Row h5 gv.p (nflat gv.ns):=by
  rw[egv]
  have:=Row.of_at (S.at 2 rfl)
  have e:nflat [nv]=nv.cells:=by simp[nflat]
  show Row h5 (some ⟨b10,0,none⟩) (nflat [nv])
  rw[e];exact this
 have hnr:(nrows gv.ns).P h5:=by
  intro f hf
  obtain⟨n,hn,rfl⟩:=List.mem_map.1 hf
  rw[egv] at hn
  have:n=nv:=by simpa using hn
  rw[this,env]
  intro f hf
  simp only[List.mem_cons,List.not_mem_nil,or_false] at hf
  rcases hf with rfl|rfl|rfl
  ·exact Row.of_at (S.at 1 rfl)
  ·exact Row.nil _ _
  ·exact Row.nil _ _
 have rt:=awP_right
 have E:=REncode_S hrow hnr hok (by rw[hgr];exact rt.fits.2)
 have eo:gv.gr.out2=(magic++awP.enc,0):=by rw[hgr];unfold Gr.out2;rw[if_pos rt.fits.1]
 rw[eo] at E
 rw[egv] at E
 refine callP.mono E ?_
 rintro _ h6 ⟨rfl,F⟩
 replace S:=S.fra0 F
 refine⟨_,_,rfl,?_⟩
 have db:dGr (magic++awP.enc)=(awP,0):=dGr_back rt.fits.1
 have hl:(magic++awP.enc).length<2 ^ 60:=by decide+kernel
 have M:=Make_right (h:=h6) (W:=fun _=>2) (R:=fun _=>1) (W':=fun _=>2) (R':=fun _=>1) (pos:=fun _=>0) (pos':=fun _=>0) hl (S.r 0 _ rfl) (by rw[db]) (by rw[db];exact rt) (by rw[db,awP_fused];exact rt) (by rw[db,awP_fused];exact awP_reach)
 rw[db] at M
 dsimp only at M
 unfold MakeR at M
 rw[awP_fused] at M
 refine callP.mono M ?_
 rintro _ h7 (⟨hb,_⟩|⟨_,pv,e,rfl,F,he,_,ho⟩)
 ·rw[awP_ranges] at hb;cases hb
 ·rw[awP_lay] at he
  subst he
  obtain⟨_,_,_,_,erl,ers,ewd,_,_,_,br,erp,S1⟩:=ho rfl
  replace S:=S.add S1 fun _ _ h=>h
  dsimp only[List.cons_append,List.nil_append] at S
  refine exS_i pv.t ⟨_,rfl,?_⟩
  refine newI_S (cs:=Pv.zero.cells) S fun b20 h8 _ S=> ?_
  dsimp only[List.cons_append,List.nil_append] at S
  refine stL_S S 8 rfl rfl (mkS_one rfl) fun h9 _ S=> ?_
  dsimp only[List.set] at S
  rw[awP_lay] at ers ewd
  refine ifB_true rfl (ifB_true rfl ?_)
  have l2:pv.rl=2:=erl
  refine ldSlice_i (p:=pv.rp) (l:=pv.rl) (c:=pv.rc) (S.cell 8 rfl rfl) (ifB_beq (fun _=> ?_) (fun hn=>absurd (by rw[l2];rfl) hn))
  refine ldSlice_i (p:=pv.rp) (l:=pv.rl) (c:=pv.rc) (S.cell 8 rfl rfl) (idxI_i erp (k:=1) rfl (by omega) ?_)
  have e1:pv.rs[1]? =some ⟨8,2,(awP.rooms (fun _=>1) fun x=>if x=0 then 0 else 2).getD 1 0⟩:=by rw[ers];rfl
  refine ldInt_i (n:=8) ?_ (ifB_beq (fun _=> ?_) (fun hn=>absurd rfl hn))
  ·have:=ringF_at e1 (j:=0) (by decide)
   rw[show((1:Int).toNat*3)=1*3+0 from rfl,add_mk,Nat.zero_add]
   exact S.cell 7 rfl this
  ·refine ldInt_i (n:=pv.words) (S.cell 8 rfl rfl) ⟨by rw[ewd];rfl,S.fra⟩
end
end Go.Proofs.YtdhpmegbmjoekaaGreatDoor.G
