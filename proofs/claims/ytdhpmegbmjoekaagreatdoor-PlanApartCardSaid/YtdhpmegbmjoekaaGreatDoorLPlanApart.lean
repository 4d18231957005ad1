/- PlanApart: the rings of a plan that is made lie one behind the other: the law over heaps. -/
import Derived.Test.YtdhpmegbmjoekaaGreatDoorCLaw22
namespace Go.Proofs.YtdhpmegbmjoekaaGreatDoor.G
open Go Go.Sh
set_option linter.unusedVariables false
set_option linter.unusedSimpArgs false
theorem PlanApart_ok {h:Heap} (hT:KT h) {p:Option Addr} {l c:Nat} {L:List Int} (hx:Row h p (ints L)) (hL:L.length=l) (hlc:l≤c) (hl:l<2 ^ 62) (more:Int):
 callP P n_law22_PlanApart #[.slice p l c,.int .i64 more] h fun v h'=>v= .bool true∧Fra no h h':=by
 refine call_law22_PlanApart _ _ _ _ ?_
 unfold law22_PlanApart
 have S:=((Sep.start h no).read (row p (ints L)) hx).read (blk 0 (ints kindTab)) hT
 refine(awake22_ok (S.r 1 _ rfl)).mono ?_
 rintro _ h1 ⟨rfl,F⟩
 replace S:=S.fra0 F
 refine⟨_,rfl,?_⟩
 refine(Made22_ok (S.row 0 rfl) hL hlc hl more).mono ?_
 rintro _ h2 ⟨g,mg,rfl,F⟩
 replace S:=S.fra0 F
 refine⟨_,rfl,?_⟩
 obtain⟨W0,R0,pos0,rt0⟩:=mg.right
 have rt:=rt0.posG
 obtain⟨Lo,Hi,rc⟩:=reach_ex rt.ordered R0
 obtain⟨φ,pos1,rt1,rc1,_⟩:=fuse_good rt rc
 have db:dGr (magic++g.enc)=(g,0):=dGr_back rt.fits.1
 have hlen:(magic++g.enc).length<2 ^ 60:=by
  have:=out2_length rt.fits.2
  unfold Gr.out2 at this
  rw[if_pos rt.fits.1] at this
  exact this
 have M:=Make_right (h:=h2) (W:=W0) (R:=R0) hlen (S.r 1 _ rfl) (by rw[db]) (by rw[db];exact rt) (by rw[db];exact rt1) (by rw[db];exact rc1)
 rw[db] at M
 dsimp only at M
 refine callP.mono M ?_
 have bad: ∀{e:Int} {g:Heap} {b9:Nat} {K1},(e=16∨e=17)→Sep h no g [blk b9 Pv.zero.cells] [row p (ints L),blk 0 (ints kindTab)]→ifB (e !=0) (ifB true (ifB (e==16) (ldSlice g ⟨b9,6,none⟩ fun p12 l12 c12=>ldSlice g ⟨b9,5,none⟩ fun p13 l13 c13=>ldInt .i64 g ⟨b9,7,none⟩ fun n14=>(Value.bool ((IntKind.wrap .i64 ((IntKind.wrap .i64 (((l12:Nat):Int)+((l13:Nat):Int)))+n14))==(0:Int))= .bool true∧Fra no h g))
  (ifB (e==17) (ldSlice g ⟨b9,6,none⟩ fun p12 l12 c12=>ldSlice g ⟨b9,5,none⟩ fun p13 l13 c13=>ldInt .i64 g ⟨b9,7,none⟩ fun n14=>(Value.bool ((IntKind.wrap .i64 ((IntKind.wrap .i64 (((l12:Nat):Int)+((l13:Nat):Int)))+n14))==(0:Int))= .bool true∧Fra no h g)) (Value.bool false= .bool true∧Fra no h g))) (Value.bool false= .bool true∧Fra no h g)) K1:=by
  intro e g b9 K1 he S
  refine ifB_bne (fun _=> ?_) (fun h=>absurd h (by omega))
  refine ifB_true rfl (ifB_beq (fun _=> ?_) (fun h1=>ifB_beq (fun _=> ?_) (fun h2=>absurd he (by omega))))
  ·exact ldSlice_i (S.cell 0 rfl rfl) (ldSlice_i (S.cell 0 rfl rfl) (ldInt_i (S.cell 0 rfl rfl) ⟨rfl,S.fra⟩))
  ·exact ldSlice_i (S.cell 0 rfl rfl) (ldSlice_i (S.cell 0 rfl rfl) (ldInt_i (S.cell 0 rfl rfl) ⟨rfl,S.fra⟩))
 rintro _ h3 (⟨_,rfl,F⟩|⟨_,pv,e,rfl,F,he,hz,ho⟩)
 ·replace S:=S.fra0 F
  refine exS_i Pv.zero.t ⟨_,rfl,?_⟩
  refine newI_S (cs:=Pv.zero.cells) S fun b9 h4 _ S=> ?_
  dsimp only[List.cons_append,List.nil_append] at S
  refine stL_S S 0 rfl rfl (mkS_one rfl) fun h5 _ S=> ?_
  dsimp only[List.set] at S
  exact bad (.inl rfl) S
 ·by_cases e0:e=0
  ·obtain⟨_,ok,ook,eo,erl,ers,ewd,_,_,bnd,br,erp,S1⟩:=ho e0
   rename_i egr
   rw[e0] at he ⊢
   replace S:=S.add S1 fun _ _ h=>h
   dsimp only[List.cons_append,List.nil_append] at S
   refine exS_i pv.t ⟨_,rfl,?_⟩
   refine newI_S (cs:=Pv.zero.cells) S fun b9 h4 _ S=> ?_
   dsimp only[List.cons_append,List.nil_append] at S
   refine stL_S S 5 rfl rfl (mkS_one rfl) fun h5 _ S=> ?_
   dsimp only[List.set] at S
   refine ifB_bne (fun h=>absurd rfl h) (fun _=> ?_)
   obtain⟨sz,esz⟩: ∃sz,(fuseG g).sizesF (W0 ∘ φ) (R0 ∘ φ) (Hi ∘ φ)=sz:=⟨_,rfl⟩
   rw[esz] at he ers ewd
   obtain⟨hlay,hnn⟩:=layout_lay he.symm
   have G:=lay_get sz 0 _ hlay hnn (by decide) (by decide) (by decide)
   have lsz:sz.length=pv.rl:=by rw[←esz,erl];simp[Gr.sizesF]
   have lat:(layout sz).1.length=pv.rl:=by rw[layout_len he.symm,lsz]
   obtain⟨A,eA⟩: ∃A:Nat→Int,A=fun i=>((layout sz).1++[(layout sz).2.1]).getD i 0:=⟨_,rfl⟩
   have G: ∀i,i≤pv.rl→0≤A i∧A i≤4096∧A i % 4=0∧(i=0→A i=0)∧(i<pv.rl→A i+sz.getD i 0≤4096∧A (i+1)=(A i+sz.getD i 0+3) / 4*4):=fun i hi=>by rw[eA];rw[←lsz] at hi ⊢;exact G i hi
   have hrl:pv.rl≤13:=by have:=(first_ok rt1.first).2.1;omega
   have rget: ∀i,i<pv.rl→ ∃w r,pv.rs[i]? =some ⟨A i,w,r⟩∧1≤w∧1≤r∧sz.getD i 0=r*w:=by
    intro i hi
    have hb:=bnd i (by omega)
    refine⟨_,_,?_,hb.1.1,hb.2.1,?_⟩
    ·rw[ers]
     unfold Gr.rings
     rw[List.getElem?_map,List.getElem?_range (by omega),Option.map_some]
     congr 2
     rw[eA]
     show _=((layout sz).1++[(layout sz).2.1]).getD i 0
     rw[List.getD_eq_getElem?_getD,List.getD_eq_getElem?_getD,List.getElem?_append_left (by omega)]
    ·rw[←esz]
     unfold Gr.sizesF
     rw[List.getD_eq_getElem?_getD,List.getElem?_map,List.getElem?_range (by omega)];rfl
   have aw:A pv.rl=pv.words:=by
    rw[eA,ewd]
    show((layout sz).1++[(layout sz).2.1]).getD pv.rl 0=_
    rw[←lat,List.getD_eq_getElem?_getD,List.getElem?_append_right (Nat.le_refl _),Nat.sub_self];rfl
   refine LoopS_i (fun m s g=> ∃(i:Nat) (E:Int),s=(true,⟨b9,0,none⟩,E,(i:Int),())∧i≤pv.rl∧m=pv.rl-i∧0≤E∧E≤4096∧A i=(E+3) / 4*4∧
    Sep h no g [own 15 pv.g.p pv.g.l pv.g.c (nflat pv.g.ns),owns (pv.g.ns.map Nv.inn),reads (wbs pv.g.ns),own 1 pv.o.p pv.o.l pv.o.c (ints pv.o.xs),blk br (ringF pv.rs),blk b9 pv.cells] [row p (ints L),blk 0 (ints kindTab)]) pv.rl ⟨0,0,rfl,by omega,rfl,by decide,by decide,by rw[(G 0 (Nat.zero_le _)).2.2.2.1 rfl];rfl,S⟩ ?_
   clear S S1 F
   rintro m s g' ⟨i,E,rfl,hi,rfl,hE0,hE1,hA,S⟩
   unfold law22_PlanApart_l7
   dsimp only
   simp only[add_mk,Nat.zero_add]
   refine ldSlice_i (p:=pv.rp) (l:=pv.rl) (c:=pv.rc) (S.cell 5 rfl rfl) (ifB_dec (fun hlt=> ?_) (fun hge=> ?_))
   ·have hlt:i<pv.rl:=by omega
    obtain⟨w,r,er,hw,hr,esi⟩:=rget i hlt
    obtain⟨g1,g2,g3,_,g5⟩:=G i (by omega)
    obtain⟨g6,g7⟩:=g5 hlt
    rw[esi] at g6 g7
    have hwr:1≤r*w:=Int.le_trans (by decide) (Int.mul_le_mul hr hw (by decide) (by omega))
    refine ldSlice_i (p:=pv.rp) (l:=pv.rl) (c:=pv.rc) (S.cell 5 rfl rfl) (idxI_i erp (k:=i) rfl hlt ?_)
    simp only[add_mk,Nat.zero_add,Int.toNat_natCast]
    have rc: ∀{j:Nat} {v:Value},j<3→(⟨A i,w,r⟩:Rn).cells[j]? =some v→cellH g' ⟨br,i*3+j,none⟩=some v:=fun hj hv=>S.cell 4 rfl (by rw[ringF_at er hj];exact hv)
    refine ldInt_i (n:=A i) (rc (j:=0) (by decide) rfl) (ldInt_i (n:=w) (rc (j:=1) (by decide) rfl) (ldInt_i (n:=r) (rc (j:=2) (by decide) rfl) ?_))
    refine newI_S S fun b25 g2 _ S=> ?_
    dsimp only[List.cons_append,List.nil_append] at S
    refine stI_S S 6 rfl (Nat.le_of_ble_eq_true rfl) fun _ _ S=> ?_
    dsimp only[List.set] at S
    refine stI_S S 6 rfl (Nat.le_of_ble_eq_true rfl) fun _ _ S=> ?_
    dsimp only[List.set] at S
    refine stI_S S 6 rfl (Nat.le_of_ble_eq_true rfl) fun _ _ S=> ?_
    dsimp only[List.set] at S
    refine⟨fun s g=>s=(true,⟨b9,0,none⟩,(i:Int),⟨b25,0,none⟩,())∧Sep h no g [own 15 pv.g.p pv.g.l pv.g.c (nflat pv.g.ns),owns (pv.g.ns.map Nv.inn),reads (wbs pv.g.ns),own 1 pv.o.p pv.o.l pv.o.c (ints pv.o.xs),blk br (ringF pv.rs),blk b9 pv.cells,blk b25 [.int .i64 (A i),.int .i64 w,.int .i64 r]] [row p (ints L),blk 0 (ints kindTab)],?_,?_⟩
    ·clear S
     rintro s g ⟨rfl,S⟩
     unfold law22_PlanApart_j12
     dsimp only
     simp only[add_mk,Nat.zero_add]
     refine ldInt_i (S.cell 6 rfl rfl) (ldInt_i (S.cell 6 rfl rfl) (ldInt_i (S.cell 6 rfl rfl) ?_))
     rw[Int.mul_comm w r,wrap64_in (n:=r*w) (by omega),wrap64_in (n:=A i+r*w) (by omega),wrap64_in (n:=(i:Int)+1) (by omega)]
     exact⟨pv.rl-(i+1),by omega,i+1,A i+r*w,rfl,by omega,rfl,by omega,by omega,g7,S.pw [0,1,2,3,4,5]⟩
    ·have hm:Int.tmod (A i) 4=0:=by rw[Int.tmod_eq_emod_of_nonneg g1];exact g3
     refine ldInt_i (S.cell 6 rfl rfl) (ifB_bne (fun h=>absurd hm h) (fun _=> ?_))
     refine ldInt_i (S.cell 6 rfl rfl) (ifB_dec (fun h=>absurd h (by omega)) (fun _=> ?_))
     rw[wrap64_in (n:=E+3) (by omega)]
     refine ldInt_i (S.cell 6 rfl rfl) (ifB_dec (fun h=>absurd h (by omega)) (fun _=> ?_))
     refine ldInt_i (S.cell 6 rfl rfl) (ifB_dec (fun h=>absurd h (by omega)) (fun _=> ?_))
     refine ldInt_i (S.cell 6 rfl rfl) (ifB_dec (fun h=>absurd h (by omega)) (fun _=> ?_))
     exact⟨rfl,S⟩
   ·have ei:i=pv.rl:=by omega
    subst ei
    obtain⟨g1,g2,g3,_⟩:=G pv.rl (Nat.le_refl _)
    rw[aw] at g1 g2 g3 hA
    have cw: ∀{K:Int→Prop},K pv.words→ldInt .i64 g' ⟨b9,7,none⟩ K:=fun H=>ldInt_i (S.cell 5 rfl rfl) H
    have hm:Int.tmod pv.words 4=0:=by rw[Int.tmod_eq_emod_of_nonneg g1];exact g3
    have hgl:pv.g.l=(fuseG g).nodes.length:=by rw[←ok.1,←‹pv.g.gr=fuseG g›];simp[Gv.gr]
    have hol:pv.o.l=(fuseG g).nodes.length:=by rw[←ook.1,eo,rt1.ordered]
    refine ifB_true rfl (cw (ifB_dec (fun _=> ?_) (fun h=>absurd (show pv.words≥E by omega) h)))
    rw[wrap64_in (n:=E+3) (by omega)]
    refine cw (ifB_dec (fun _=> ?_) (fun h=>absurd (show pv.words≤E+3 by omega) h))
    refine cw (ifB_beq (fun _=> ?_) (fun h=>absurd hm h))
    refine cw (ifB_dec (fun _=> ?_) (fun h=>absurd g2 h))
    refine ldSlice_i (p:=pv.rp) (l:=pv.rl) (c:=pv.rc) (S.cell 5 rfl rfl) (ldSlice_i (p:=pv.g.p) (l:=pv.g.l) (c:=pv.g.c) (S.cell 5 rfl rfl) ?_)
    rw[wrap64_in (n:=(pv.g.l:Int)+1) (by omega)]
    refine ifB_beq (fun _=> ?_) (fun h=>absurd (by omega) h)
    refine ldSlice_i (p:=pv.o.p) (l:=pv.o.l) (c:=pv.o.c) (S.cell 5 rfl rfl) (ldSlice_i (p:=pv.g.p) (l:=pv.g.l) (c:=pv.g.c) (S.cell 5 rfl rfl) ⟨?_,S.fra⟩)
    rw[hol,hgl]
    simp
  ·obtain⟨e17,rfl⟩:=hz e0
   replace S:=S.fra0 F
   refine exS_i Pv.zero.t ⟨_,rfl,?_⟩
   refine newI_S (cs:=Pv.zero.cells) S fun b9 h4 _ S=> ?_
   dsimp only[List.cons_append,List.nil_append] at S
   refine stL_S S 0 rfl rfl (mkS_one rfl) fun h5 _ S=> ?_
   dsimp only[List.set] at S
   exact bad (.inr e17) S
end Go.Proofs.YtdhpmegbmjoekaaGreatDoor.G
