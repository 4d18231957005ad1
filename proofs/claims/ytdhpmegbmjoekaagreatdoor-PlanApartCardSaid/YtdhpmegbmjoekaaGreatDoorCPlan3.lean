/- CPlan CPlan2 CPlan3, in one text. -/
import Derived.Test.YtdhpmegbmjoekaaGreatDoorCFld2
import Derived.Test.YtdhpmegbmjoekaaGreatDoorCCrc
import Derived.Test.YtdhpmegbmjoekaaGreatDoorCFitR
import Derived.Test.YtdhpmegbmjoekaaGreatDoorCFused
import Derived.Test.YtdhpmegbmjoekaaGreatDoorCSorted
import Derived.Test.YtdhpmegbmjoekaaGreatDoorCLayout
import Derived.Test.YtdhpmegbmjoekaaGreatDoorCDec3
import Derived.Test.YtdhpmegbmjoekaaGreatDoorCGood2
import Derived.Test.YtdhpmegbmjoekaaGreatDoorCModelR2
section
namespace Go.Proofs.YtdhpmegbmjoekaaGreatDoor.G
open Go Go.Sh
set_option linter.unusedVariables false
set_option linter.unusedSimpArgs false
structure Rn where
 pos:Int
 width:Int
 room:Int
def Rn.cells (r:Rn):List Value:=[.int .i64 r.pos,.int .i64 r.width,.int .i64 r.room]
def Rn.zero:Rn:=⟨0,0,0⟩
def ringF (rs:List Rn):List Value:=(rs.map Rn.cells).flatten
theorem ringF_length (rs:List Rn):(ringF rs).length=rs.length*3:=flat_len Rn.cells 3 (fun _=>rfl) rs
theorem ringF_at {rs:List Rn} {i j:Nat} {x:Rn} (h:rs[i]? =some x) (hj:j<3):(ringF rs)[i*3+j]? =x.cells[j]? :=flat_at Rn.cells 3 (fun _=>rfl) rs i j x h hj
theorem ringF_rep (n:Nat):(List.replicate n Rn.zero.cells).flatten=ringF (List.replicate n .zero):=by unfold ringF;rw[List.map_replicate]
theorem ringF_set {rs:List Rn} {i:Nat} (hi:i<rs.length) (x:Rn):((((ringF rs).set (i*3) (.int .i64 x.pos)).set (i*3+1) (.int .i64 x.width)).set (i*3+2) (.int .i64 x.room))=ringF (rs.set i x):=
 flat_setAt Rn.cells 3 (fun _=>rfl) (by decide) x hi
theorem set_same {α:Type} {l:List α} {i:Nat} {v:α} (h:l[i]? =some v):l.set i v=l:=by
 obtain⟨hi,e⟩:=List.getElem?_eq_some_iff.1 h
 rw[←e,List.set_getElem_self]
theorem ringF_pos {rs:List Rn} {i:Nat} {x:Rn} (e:rs[i]? =some x) (y:Int):(ringF rs).set (i*3) (.int .i64 y)=ringF (rs.set i {x with pos:=y}):=by
 have hi:=(List.getElem?_eq_some_iff.1 e).1
 rw[←ringF_set hi {x with pos:=y}]
 have h1:((ringF rs).set (i*3) (.int .i64 y)).set (i*3+1) (.int .i64 x.width)=(ringF rs).set (i*3) (.int .i64 y):=by
  refine set_same ?_
  rw[List.getElem?_set_ne (by omega),ringF_at e (by decide)];rfl
 have h2:((ringF rs).set (i*3) (.int .i64 y)).set (i*3+2) (.int .i64 x.room)=(ringF rs).set (i*3) (.int .i64 y):=by
  refine set_same ?_
  rw[List.getElem?_set_ne (by omega),ringF_at e (by decide)];rfl
 dsimp only
 rw[h1,h2]
structure Pv where
 g:Gv
 o:Sl
 rp:Option Addr
 rl:Nat
 rc:Nat
 rs:List Rn
 words:Int
 macs:Int
 hash:Int
abbrev plSh:List Sc:=[.int .i64,.int .i64,.int .i64,.slice,.int .i64,.slice,.slice,.int .i64,.int .i64,.int .u32]
def Pv.t (p:Pv):TS plSh:=(p.g.width,p.g.low,p.g.high,(p.g.p,p.g.l,p.g.c),p.g.out,(p.o.p,p.o.l,p.o.c),(p.rp,p.rl,p.rc),p.words,p.macs,p.hash,())
def Pv.cells (p:Pv):List Value:=mkS' plSh p.t
abbrev Pv.v (p:Pv):Value:=agS plSh p.t
def Pv.zero:Pv:=⟨⟨0,0,0,none,0,0,0,[]⟩,⟨none,0,0,[]⟩,none,0,0,[],0,0,0⟩
theorem tdiv_abs (a b:Int):(Int.tdiv a b).natAbs≤a.natAbs:=by rw[Int.natAbs_tdiv];exact Nat.div_le_self _ _
theorem roomIn_bnd {n:Nd} {rate top B:Int} {Hi:Int→Int}: ∀(l o:List Int),(∀j∈l,j.toNat<o.length)→(∀j∈l,roomN n rate (w64 (top-Hi j))≤B)→(∀y∈o,1≤y∧y≤B)→ ∀y∈l.foldl (roomIn n rate top Hi) o,1≤y∧y≤B
 |[],o,_,_,ho=>ho
 |j::r,o,hl,hb,ho=>by
  rw[List.foldl_cons]
  refine roomIn_bnd r _ (fun x hx=>by unfold roomIn;rw[List.length_set];exact hl x (List.mem_cons_of_mem _ hx)) (fun x hx=>hb x (List.mem_cons_of_mem _ hx)) fun y hy=> ?_
  unfold roomIn at hy
  have h1:=hl j List.mem_cons_self
  have h2:=hb j List.mem_cons_self
  have h3:o.getD j.toNat 0∈o:=by rw[getD_eq h1];exact List.getElem_mem _
  have h4:=ho _ h3
  rcases List.mem_or_eq_of_mem_set hy with h|h
  ·exact ho y h
  ·rw[h];split<;>omega
section
variable {gv:Gv} {W R Lo Hi:Int→Int} {pos:Int→Nat}
theorem roomN_bnd (hok:gv.ok) (rt:Right gv.gr W R pos) (rc:Reach gv.gr.nodes R Lo Hi) {i:Nat} {n:Nd} (en:gv.gr.nodes[i]? =some n) {j:Int} (hj:j∈n.inn):roomN n (R ((i:Int)+1)) (w64 (mostL (n.inn.map Hi)-Hi j))≤2 ^ 43:=by
 have hgl:=hok.1
 have hgn:gv.gr.nodes.length=gv.l:=by rw[←hgl];simp[Gv.gr]
 have hb:=bnd_of hok rt rc
 have hil:=(List.getElem?_eq_some_iff.1 en).1
 have hnn:=rt.node en
 rw[hgn] at hnn hil
 have hz:=chk_size (rt.chk i n en)
 have b1:=(hb ((i:Int)+1) (by omega) (by omega)).2.2
 have hjr:=hnn.2.2.2.2 j hj
 have b2:=(hb j hjr.1 hjr.2).2.1
 obtain⟨m,hm,em⟩:=List.mem_map.1 (mostL_mem (l:=n.inn.map Hi) (by rw[List.length_map];exact hnn.1))
 have hmr:=hnn.2.2.2.2 m hm
 have b3:=(hb m hmr.1 hmr.2).2.1
 rw[←em]
 unfold roomN
 have w: ∀{n:Int},-9223372036854775808≤n∧n≤9223372036854775807→w64 n=n:=fun h=>wrap64_in (by omega)
 rw[w (n:=Hi m-Hi j) (by omega)]
 split
 ·split
  ·decide
  ·rw[w (n:=Hi m-Hi j+R ((i:Int)+1)) (by omega),w (n:=Hi m-Hi j+R ((i:Int)+1)-1) (by omega)]
   have ht:=tdiv_abs (Hi m-Hi j+R ((i:Int)+1)-1) (R ((i:Int)+1))
   generalize Int.tdiv (Hi m-Hi j+R ((i:Int)+1)-1) (R ((i:Int)+1))=q at ht
   rw[w (n:=q) (by omega),w (n:=q+1) (by omega)]
   omega
 ·have:=hz.2.2.2.2.1
  omega
theorem rooms_bnd (hok:gv.ok) (rt:Right gv.gr W R pos) (rc:Reach gv.gr.nodes R Lo Hi):(gv.gr.rooms R Hi).length=gv.l+1∧ ∀y∈gv.gr.rooms R Hi,1≤y∧y≤2 ^ 43:=by
 have hgl:=hok.1
 have hgn:gv.gr.nodes.length=gv.l:=by rw[←hgl];simp[Gv.gr]
 refine⟨by unfold Gr.rooms;rw[roomsK_length,hgn],?_⟩
 have key: ∀k,∀y∈roomsK gv.gr.nodes R Hi k,1≤y∧y≤2 ^ 43:=by
  intro k
  induction k with
  |zero=>intro y hy;unfold roomsK at hy;rw[List.take_zero] at hy;have:=List.eq_of_mem_replicate hy;rw[this];decide
  |succ k ih=>
   by_cases hk:k<(ordG gv.gr.nodes).length
   ·unfold roomsK
    rw[List.take_succ_eq_append_getElem hk,List.foldl_append]
    show ∀y∈roomStep _ _ _ (roomsK gv.gr.nodes R Hi k) _,_
    have hxm:=ordK_mem gv.gr.nodes gv.gr.nodes.length _ (List.getElem_mem hk)
    obtain⟨i,ex⟩: ∃i:Nat,(ordG gv.gr.nodes)[k]=(i:Int)+1:=⟨((ordG gv.gr.nodes)[k]-1).toNat,by have:1≤(ordG gv.gr.nodes)[k]:=hxm.1;omega⟩
    rw[ex]
    unfold roomStep
    rw[show((i:Int)+1).toNat-1=i by omega]
    split
    ·exact ih
    ·rename_i n en
     have hnn:=rt.node en
     refine roomIn_bnd _ _ (fun j hj=> ?_) (fun j hj=>roomN_bnd hok rt rc en hj) ih
     have:=hnn.2.2.2.2 j hj
     rw[roomsK_length];omega
   ·have:roomsK gv.gr.nodes R Hi (k+1)=roomsK gv.gr.nodes R Hi k:=by unfold roomsK;rw[List.take_of_length_le (by omega),List.take_of_length_le (by omega)]
    rw[this];exact ih
 exact key _
end
def Gr.sizesF (g:Gr) (W R Hi:Int→Int):List Int:=(List.range (g.nodes.length+1)).map fun x:Nat=>(g.rooms R Hi).getD x 0*W x
def Gr.rings (g:Gr) (W R Hi:Int→Int) (ats:List Int):List Rn:=(List.range (g.nodes.length+1)).map fun x:Nat=>⟨ats.getD x 0,W x,(g.rooms R Hi).getD x 0⟩
section
variable {h:Heap} {s:List UInt8}
theorem Own.sep {h h':Heap} {sz:Nat} {p:Option Addr} {l c:Nat} {xs:List Value} (F:Fra no h h') (o:Own h' h.size sz p l c xs):Sep h no h' [own sz p l c xs] []:=by
 refine Sep.one F (o.mono (Nat.zero_le _)) fun b hb hlt=> ?_
 obtain⟨a,ea,rfl⟩:=hb
 obtain⟨_,_,⟨e,_⟩|⟨b,cs,e,hb,_⟩⟩:=o
 ·rw[e] at ea;cases ea
 ·rw[e] at ea;cases ea;exact absurd hlt (by show ¬b<h.size;omega)
theorem Make_err (hs:s.length<2 ^ 60) (he:(dGr s).2≠0):callP P n_plan_Make #[.string (str s)] h fun v h'=>v= .tuple #[Pv.zero.v,.int .i64 (dGr s).2]∧Fra no h h':=by
 refine call_plan_Make _ ?_
 unfold plan_Make
 have S:=Sep.start h no
 refine newI_S (cs:=Pv.zero.cells) S (fun b1 _ _ S=> ?_)
 dsimp only[List.nil_append,List.cons_append] at S
 refine(Decode_S (by omega)).mono ?_
 rintro _ g1 ⟨gv,rfl,gok,egr,S1⟩
 replace S:=S.add S1 fun _ _ h=>h
 dsimp only[List.cons_append,List.nil_append] at S
 refine exS_i gv.t ⟨_,rfl,?_⟩
 refine newI_S (cs:=mkS' grSh (zT grSh)) S fun b7 g2 _ S=> ?_
 dsimp only[List.cons_append,List.nil_append] at S
 refine stL_S S 3 rfl rfl (mkS_one rfl) fun g3 _ S=> ?_
 dsimp only[List.set] at S
 refine ifB_bne (fun _=> ?_) (fun h=>absurd h he)
 refine stL_S S 0 rfl rfl (show ∀y∈Pv.zero.cells,one1 y=true from mkS_one rfl) fun g4 _ S=> ?_
 dsimp only[List.set] at S
 exact ldAg_S S 0 rfl (x:=Pv.zero.t) rfl ⟨rfl,S.fra⟩
end
end Go.Proofs.YtdhpmegbmjoekaaGreatDoor.G
end
section
namespace Go.Proofs.YtdhpmegbmjoekaaGreatDoor.G
open Go Go.Sh
set_option linter.unusedVariables false
set_option linter.unusedSimpArgs false
theorem lay_len: ∀(xs:List Int) (e:Int) (x:List Int×Int),lay xs e=some x→x.1.length=xs.length
 |[],e,x,h=>by cases h;rfl
 |n::r,e,x,h=>by
  unfold lay at h
  split at h
  ·cases h
  ·obtain⟨y,hy,rfl⟩:=Option.map_eq_some_iff.1 h
   simp only[List.length_cons,lay_len r _ y hy]
theorem layout_len {xs:List Int} (h:(layout xs).2.2=0):(layout xs).1.length=xs.length:=by
 unfold layout at h ⊢
 split at h
 ·exact absurd h (by decide)
 ·rename_i hn
  rw[if_neg hn]
  cases hl:lay xs 0 with
  |none=>rw[hl] at h;exact absurd h (by decide)
  |some x=>exact lay_len xs 0 x hl
theorem layout_17 {xs:List Int} (hn: ∀n∈xs,0≤n) (h:(layout xs).2.2≠0):(layout xs).2.2=17:=by
 unfold layout at h ⊢
 rw[if_neg (by rintro⟨n,hm,hl⟩;have:=hn n hm;omega)] at h ⊢
 cases hl:lay xs 0 with
 |none=>rfl
 |some x=>rw[hl] at h;exact absurd rfl h
theorem lay_get: ∀(xs:List Int) (e:Int) (x:List Int×Int),lay xs e=some x→(∀n∈xs,0≤n)→0≤e→e≤4096→e % 4=0→ ∀i,i≤xs.length→0≤(x.1++[x.2]).getD i 0∧(x.1++[x.2]).getD i 0≤4096∧(x.1++[x.2]).getD i 0 % 4=0∧(i=0→(x.1++[x.2]).getD i 0=e)∧
 (i<xs.length→(x.1++[x.2]).getD i 0+xs.getD i 0≤4096∧(x.1++[x.2]).getD (i+1) 0=((x.1++[x.2]).getD i 0+xs.getD i 0+3) / 4*4)
 |[],e,x,h,hn,h0,h1,h2,i,hi=>by
  cases h
  have:i=0:=by simpa using hi
  subst this
  exact⟨h0,h1,h2,fun _=>rfl,fun h=>absurd h (by simp)⟩
 |n::r,e,x,h,hn,h0,h1,h2,i,hi=>by
  unfold lay at h
  split at h
  ·cases h
  ·rename_i hle
   obtain⟨y,hy,rfl⟩:=Option.map_eq_some_iff.1 h
   have hn0:=hn n List.mem_cons_self
   have ih:=lay_get r _ y hy (fun m hm=>hn m (List.mem_cons_of_mem _ hm)) (by omega) (by omega) (by omega)
   cases i with
   |zero=>
    have i0:=ih 0 (Nat.zero_le _)
    refine⟨h0,h1,h2,fun _=>rfl,fun _=>⟨by show e+n≤4096;omega,?_⟩⟩
    exact i0.2.2.2.1 rfl
   |succ i=>
    have ii:=ih i (by simpa using hi)
    exact⟨ii.1,ii.2.1,ii.2.2.1,fun h=>absurd h (Nat.succ_ne_zero i),fun hlt=>ii.2.2.2.2 (by simpa using hlt)⟩
theorem layout_lay {xs:List Int} (h:(layout xs).2.2=0):lay xs 0=some ((layout xs).1,(layout xs).2.1)∧ ∀n∈xs,0≤n:=by
 unfold layout at h ⊢
 split at h
 ·exact absurd h (by decide)
 ·rename_i hn
  rw[if_neg hn]
  refine⟨?_,fun n hm=>Classical.byContradiction fun hl=>hn ⟨n,hm,by omega⟩⟩
  cases hl:lay xs 0 with
  |none=>rw[hl] at h;exact absurd h (by decide)
  |some x=>rfl
def PlanOk (G:Gr) (W R Hi:Int→Int) (pv:Pv) (h h':Heap):Prop:=
 pv.g.gr=G∧pv.g.ok∧pv.o.ok∧pv.o.xs=ordG G.nodes∧pv.rl=G.nodes.length+1∧pv.rs=G.rings W R Hi (layout (G.sizesF W R Hi)).1∧pv.words=(layout (G.sizesF W R Hi)).2.1∧pv.macs=G.macs∧pv.hash=G.hash∧(∀x:Nat,x≤G.nodes.length→(1≤W x∧W x≤16)∧(1≤(G.rooms R Hi).getD x 0∧(G.rooms R Hi).getD x 0≤2 ^ 43))∧
  ∃br,pv.rp=some ⟨br,0,none⟩∧Sep h no h' [own 15 pv.g.p pv.g.l pv.g.c (nflat pv.g.ns),owns (pv.g.ns.map Nv.inn),reads (wbs pv.g.ns),own 1 pv.o.p pv.o.l pv.o.c (ints pv.o.xs),blk br (ringF pv.rs)] []
def MakeP (G:Gr) (W R Hi:Int→Int) (h:Heap) (v:Value) (h':Heap):Prop:=
 ∃(pv:Pv) (e:Int),v= .tuple #[pv.v,.int .i64 e]∧Fra no h h'∧e=(layout (G.sizesF W R Hi)).2.2∧(e≠0→e=17∧pv=Pv.zero)∧(e=0→PlanOk G W R Hi pv h h')
section
variable {h:Heap} {s:List UInt8} {gv:Gv} {W R Lo Hi:Int→Int} {pos:Int→Nat}
theorem make_tail (hok:gv.ok) (rt:Right gv.gr W R pos) (rc:Reach gv.gr.nodes R Lo Hi) {b1 b7:Nat} {g:Heap} {Q:Value→Heap→Prop} (HQ: ∀v h',MakeP gv.gr W R Hi h v h'→Q v h')
 (S:Sep h no g [blk b1 Pv.zero.cells,blk b7 gv.cells,own 15 gv.p gv.l gv.c (nflat gv.ns),owns (gv.ns.map Nv.inn),reads (wbs gv.ns)] [blk 0 (ints kindTab)]):
 ldAg grSh g ⟨b7,0,none⟩ fun x24=>callSlice P n_field_Rooms #[(agS grSh x24)] g fun p26 l26 c26 h25=>
  mkI 52 3 24 (.agg #[(.int .i64 (0:Int)),(.int .i64 (0:Int)),(.int .i64 (0:Int))]) ((l26:Nat):Int) ((l26:Nat):Int) h25 fun b27 h28=>
  mkI 3 1 8 (.int .i64 (0:Int)) ((l26:Nat):Int) ((l26:Nat):Int) h28 fun b29 h30=>
  ldAg grSh h30 ⟨b7,0,none⟩ fun x31=>callSlice P n_graph_Widths #[(agS grSh x31)] h30 fun p33 l33 c33 h32=>
  LoopS (S:=Addr×Addr×Sl3×Sl3×Sl3×Sl3×Int×Int×Unit) (fun K1 s h'=>plan_Make_l12 Q K1 s.1 s.2.1 s.2.2.1.1 s.2.2.1.2.1 s.2.2.1.2.2 s.2.2.2.1.1 s.2.2.2.1.2.1 s.2.2.2.1.2.2 s.2.2.2.2.1.1 s.2.2.2.2.1.2.1 s.2.2.2.2.1.2.2 s.2.2.2.2.2.1.1 s.2.2.2.2.2.1.2.1 s.2.2.2.2.2.1.2.2 s.2.2.2.2.2.2.1 s.2.2.2.2.2.2.2.1 h')
   (⟨b1,0,none⟩,⟨b7,0,none⟩,(p26,l26,c26),(some ⟨b27,0,none⟩,((l26:Nat):Int).toNat,((l26:Nat):Int).toNat),(some ⟨b29,0,none⟩,((l26:Nat):Int).toNat,((l26:Nat):Int).toNat),(p33,l33,c33),((l33:Nat):Int),(0:Int),()) h32:=by
 have hgl:=hok.1
 have hgn:gv.gr.nodes.length=gv.l:=by rw[←hgl];simp[Gv.gr]
 have hl12:gv.l≤12:=by have:=(first_ok rt.first).2.1;omega
 have hs:=rt.sizes hok
 obtain⟨rml,rmb⟩:=rooms_bnd hok rt rc
 have nr: ∀{g:Heap} {W2:List Fact},Sep h no g W2 [blk 0 (ints kindTab)]→W2[3]? =some (owns (gv.ns.map Nv.inn))→W2[4]? =some (reads (wbs gv.ns))→(nrows gv.ns).P g:=fun S e3 e4=>nrowsO (S.w 3 _ e3) (S.w 4 _ e4)
 refine ldAg_S S 1 rfl (x:=gv.t) rfl ?_
 refine(Rooms_ok hok (S.own 2 rfl).row (nr S rfl rfl) hs (S.r 0 _ rfl) rt rc).mono ?_
 rintro _ g1 ⟨bm,rfl,S1⟩
 replace S:=S.add S1 fun _ _ h=>h
 dsimp only[List.cons_append,List.nil_append] at S
 refine⟨_,_,_,rfl,?_⟩
 refine mkI_S S (gv.l+1) rfl (zs:=Rn.zero.cells) rfl rfl (by decide) (by omega) (by omega) fun b27 g2 _ S=> ?_
 dsimp only[List.cons_append,List.nil_append] at S
 rw[ringF_rep] at S
 refine mkI_S S (gv.l+1) rfl (zs:=[.int .i64 0]) rfl rfl (by decide) (by omega) (by omega) fun b29 g3 _ S=> ?_
 dsimp only[List.cons_append,List.nil_append] at S
 rw[repl_one,show List.replicate (gv.l+1) (Value.int .i64 0)=ints (List.replicate (gv.l+1) 0) by simp[ints]] at S
 refine ldAg_S S 1 rfl (x:=gv.t) rfl ?_
 refine(Widths_ok hok (S.own 2 rfl).row (nr S rfl rfl) hs (S.r 0 _ rfl)).mono ?_
 rintro _ g4 ⟨w,rfl,wok,ew,S1⟩
 rw[rt.look,hgn] at ew
 replace S:=S.add S1 fun _ _ h=>h
 dsimp only[List.cons_append,List.nil_append] at S
 have lenW:w.l=gv.l+1:=by rw[←wok.1,ew];simp
 refine⟨_,_,_,rfl,?_⟩
 simp only[Int.toNat_natCast]
 obtain⟨rm,erm⟩: ∃rm,gv.gr.rooms R Hi=rm:=⟨_,rfl⟩
 rw[erm] at S rml rmb
 have rmg: ∀x,x<gv.l+1→rm[x]? =some (rm.getD x 0):=fun x hx=>by rw[List.getD_eq_getElem?_getD,List.getElem?_eq_getElem (by omega)];rfl
 have rmv: ∀x,x<gv.l+1→1≤rm.getD x 0∧rm.getD x 0≤2 ^ 43:=fun x hx=>rmb _ (List.mem_of_getElem? (rmg x hx))
 have rw1: ∀x:Nat,x<gv.l+1→(1≤W x∧W x≤16):=fun x hx=>rt.wide (by omega) (by omega)
 have prod: ∀x:Nat,x<gv.l+1→0≤rm.getD x 0*W x∧rm.getD x 0*W x≤2 ^ 43*16:=fun x hx=>by
  have a:=rmv x hx
  have b:=rw1 x hx
  exact⟨Int.mul_nonneg (by omega) (by omega),Int.mul_le_mul a.2 b.2 (by omega) (by decide)⟩
 have esz:gv.gr.sizesF W R Hi=(List.range (gv.l+1)).map fun x:Nat=>rm.getD x 0*W x:=by unfold Gr.sizesF;rw[erm,hgn]
 refine LoopS_i (fun m s g=> ∃i:Nat,s=(⟨b1,0,none⟩,⟨b7,0,none⟩,(some ⟨bm,0,none⟩,gv.l+1,gv.l+1),(some ⟨b27,0,none⟩,gv.l+1,gv.l+1),(some ⟨b29,0,none⟩,gv.l+1,gv.l+1),(w.p,w.l,w.c),(w.l:Int),(i:Int),())∧i≤gv.l+1∧m=gv.l+1-i∧
  Sep h no g [blk b1 Pv.zero.cells,blk b7 gv.cells,own 15 gv.p gv.l gv.c (nflat gv.ns),owns (gv.ns.map Nv.inn),reads (wbs gv.ns),blk bm (ints rm),blk b27 (ringF ((List.range i).map (fun x:Nat=>(⟨0,W x,rm.getD x 0⟩:Rn))++List.replicate (gv.l+1-i) .zero)),
   blk b29 (ints ((List.range i).map (fun x:Nat=>rm.getD x 0*W x)++List.replicate (gv.l+1-i) 0)),own 1 w.p w.l w.c (ints w.xs)] [blk 0 (ints kindTab)]) (gv.l+1) ⟨0,rfl,by omega,rfl,S⟩ ?_
 clear S S1
 rintro m s g ⟨i,rfl,hi,rfl,S⟩
 unfold plan_Make_l12
 dsimp only
 refine ifB_dec (fun hlt=> ?_) (fun hge=> ?_)
 ·have hlt:i<gv.l+1:=by omega
  have wr:=(S.own 8 rfl).row
  obtain⟨wa,ewa⟩:=wr.some_of (by rw[ints_length,wok.1];omega)
  rw[ewa] at wr
  refine idxI_i ewa (k:=i) rfl (by omega) ?_
  simp only[Int.toNat_natCast,Nat.mul_one]
  refine ldInt_i (n:=W (i:Int)) (wr.cell (ints_get (by rw[ew,List.getElem?_map,List.getElem?_range (by omega)];rfl))) ?_
  refine idxI_i rfl (k:=i) rfl hlt ?_
  simp only[add_mk,Nat.zero_add]
  refine ldInt_i (S.cell 5 rfl (ints_get (rmg i hlt))) (idxI_i rfl (k:=i) rfl hlt ?_)
  simp only[add_mk,Nat.zero_add]
  have hA:((List.range i).map (fun x:Nat=>(⟨0,W x,rm.getD x 0⟩:Rn))).length=i:=by rw[List.length_map,List.length_range]
  have hB:((List.range i).map (fun x:Nat=>rm.getD x 0*W x)).length=i:=by rw[List.length_map,List.length_range]
  have hfl:(ringF ((List.range i).map (fun x:Nat=>(⟨0,W x,rm.getD x 0⟩:Rn))++List.replicate (gv.l+1-i) .zero)).length=(gv.l+1)*3:=by rw[ringF_length,List.length_append,hA,List.length_replicate];congr 1;omega
  refine stI_S S 6 rfl (by omega) fun _ _ S=> ?_
  dsimp only[List.set] at S
  refine stI_S S 6 rfl (by rw[List.length_set];omega) fun _ _ S=> ?_
  dsimp only[List.set] at S
  refine stI_S S 6 rfl (by rw[List.length_set,List.length_set];omega) fun _ _ S=> ?_
  dsimp only[List.set] at S
  rw[ringF_set (by rw[List.length_append,hA,List.length_replicate];omega) (⟨0,W (i:Int),rm.getD i 0⟩:Rn),fill_set hA hlt] at S
  refine idxI_i rfl (k:=i) rfl hlt ?_
  simp only[add_mk,Nat.zero_add]
  refine ldInt_i (S.cell 5 rfl (ints_get (rmg i hlt))) (idxI_i rfl (k:=i) rfl hlt ?_)
  simp only[add_mk,Nat.zero_add]
  have hp:=prod i hlt
  rw[wrap64_in (n:=rm.getD i 0*W (i:Int)) (by omega),wrap64_in (n:=(i:Int)+1) (by omega)]
  refine stI_S S 7 rfl (by rw[ints_length,List.length_append,hB,List.length_replicate];omega) fun _ _ S=> ?_
  dsimp only[List.set] at S
  rw[ints_set',fill_set hB hlt] at S
  refine⟨gv.l+1-(i+1),by omega,i+1,rfl,by omega,rfl,?_⟩
  rw[List.range_succ,List.map_append,List.map_append]
  exact S
 ·have ei:i=gv.l+1:=by omega
  subst ei
  rw[Nat.sub_self,List.replicate_zero,List.replicate_zero,List.append_nil,List.append_nil,←esz] at S
  have szl:(gv.gr.sizesF W R Hi).length=gv.l+1:=by rw[esz];simp
  have szr: ∀n∈gv.gr.sizesF W R Hi,-2 ^ 63≤n∧n<2 ^ 63:=fun n hn=>by
   rw[esz] at hn
   obtain⟨x,hx,rfl⟩:=List.mem_map.1 hn
   have:=prod x (List.mem_range.1 hx)
   omega
  refine(layout_ok (Row.of_at (S.at 7 rfl)) szl (by omega) szr).mono ?_
  rintro _ g5 ⟨pa,la,ca,rfl,oA,F⟩
  replace S:=S.add (Own.sep F oA) fun _ _ h=>h
  dsimp only[List.cons_append,List.nil_append] at S
  refine⟨_,_,_,_,_,rfl,ifB_bne (fun he=> ?_) (fun he=> ?_)⟩
  ·refine stL_S S 0 rfl rfl (show ∀y∈Pv.zero.cells,one1 y=true from mkS_one rfl) fun g6 _ S=> ?_
   dsimp only[List.set] at S
   refine ldAg_S S 0 rfl (x:=Pv.zero.t) rfl (HQ _ _ ⟨Pv.zero,_,rfl,S.fra,rfl,fun _=>⟨layout_17 (fun n hn=> ?_) he,rfl⟩,fun h=>absurd h he⟩)
   rw[esz] at hn
   obtain⟨x,hx,rfl⟩:=List.mem_map.1 hn
   exact(prod x (List.mem_range.1 hx)).1
  ·obtain⟨ats,eat⟩: ∃ats,(layout (gv.gr.sizesF W R Hi)).1=ats:=⟨_,rfl⟩
   have atl:ats.length=gv.l+1:=by rw[←eat,layout_len he,szl]
   rw[eat] at S
   have hla:la=gv.l+1:=by
    have:=(S.own 9 rfl).1
    rw[ints_length,atl,Nat.mul_one] at this
    exact this.symm
   have ringsK: ∀i,i≤gv.l→((List.range (gv.l+1)).map (fun x:Nat=>(⟨if x<i then ats.getD x 0 else 0,W x,rm.getD x 0⟩:Rn))).set i {(⟨0,W (i:Int),rm.getD i 0⟩:Rn) with pos:=ats.getD i 0}=(List.range (gv.l+1)).map (fun x:Nat=>(⟨if x<i+1 then ats.getD x 0 else 0,W x,rm.getD x 0⟩:Rn)):=by
    intro i hi
    apply List.ext_getElem?
    intro x
    by_cases hx:x<gv.l+1
    ·by_cases hxi:x=i
     ·subst hxi
      rw[List.getElem?_set_self (by simp;omega),List.getElem?_map,List.getElem?_range hx]
      simp
     ·rw[List.getElem?_set_ne (fun h=>hxi h.symm),List.getElem?_map,List.getElem?_map,List.getElem?_range hx]
      have:(x<i)=(x<i+1):=by rw[eq_iff_iff];omega
      simp only[Option.map_some,this]
    ·rw[List.getElem?_eq_none (by simp;omega),List.getElem?_eq_none (by simp;omega)]
   have ring0:(List.range (gv.l+1)).map (fun x:Nat=>(⟨0,W x,rm.getD x 0⟩:Rn))=(List.range (gv.l+1)).map (fun x:Nat=>(⟨if x<0 then ats.getD x 0 else 0,W x,rm.getD x 0⟩:Rn)):=List.map_congr_left fun x _=>by rw[if_neg (Nat.not_lt_zero x)]
   rw[ring0] at S
   refine LoopS_i (fun m s g=> ∃i:Nat,s=(⟨b1,0,none⟩,⟨b7,0,none⟩,(some ⟨b27,0,none⟩,gv.l+1,gv.l+1),(pa,la,ca),(layout (gv.gr.sizesF W R Hi)).2.1,((gv.l+1:Nat):Int),(i:Int),())∧i≤gv.l+1∧m=gv.l+1-i∧
    Sep h no g [blk b1 Pv.zero.cells,blk b7 gv.cells,own 15 gv.p gv.l gv.c (nflat gv.ns),owns (gv.ns.map Nv.inn),reads (wbs gv.ns),blk b27 (ringF ((List.range (gv.l+1)).map (fun x:Nat=>(⟨if x<i then ats.getD x 0 else 0,W x,rm.getD x 0⟩:Rn)))),own 1 pa la ca (ints ats)] [blk 0 (ints kindTab)]) (gv.l+1) ⟨0,rfl,by omega,rfl,S.pw [0,1,2,3,4,6,9]⟩ ?_
   clear S oA F
   rintro m s g ⟨i,rfl,hi,rfl,S⟩
   unfold plan_Make_l21
   dsimp only
   refine ifB_dec (fun hlt=> ?_) (fun hge=> ?_)
   ·have hlt:i<gv.l+1:=by omega
    have ar:=(S.own 6 rfl).row
    obtain⟨aa,eaa⟩:=ar.some_of (by rw[ints_length,atl];omega)
    rw[eaa] at ar
    refine idxI_i eaa (k:=i) rfl (by omega) ?_
    simp only[Int.toNat_natCast,Nat.mul_one]
    refine ldInt_i (n:=ats.getD i 0) (ar.cell (ints_get (by rw[List.getD_eq_getElem?_getD,List.getElem?_eq_getElem (by omega)];rfl))) (idxI_i rfl (k:=i) rfl hlt ?_)
    simp only[add_mk,Nat.zero_add]
    refine stI_S S 5 rfl (by rw[ringF_length];simp only[List.length_map,List.length_range];omega) fun _ _ S=> ?_
    dsimp only[List.set] at S
    have eri:((List.range (gv.l+1)).map (fun x:Nat=>(⟨if x<i then ats.getD x 0 else 0,W x,rm.getD x 0⟩:Rn)))[i]? =some ⟨0,W (i:Int),rm.getD i 0⟩:=by
     rw[List.getElem?_map,List.getElem?_range hlt,Option.map_some,if_neg (Nat.lt_irrefl i)]
    rw[ringF_pos eri,ringsK i (by omega)] at S
    rw[wrap64_in (n:=(i:Int)+1) (by omega)]
    exact⟨gv.l+1-(i+1),by omega,i+1,rfl,by omega,rfl,S⟩
   ·have ei:i=gv.l+1:=by omega
    subst ei
    have ring1:(List.range (gv.l+1)).map (fun x:Nat=>(⟨if x<gv.l+1 then ats.getD x 0 else 0,W x,rm.getD x 0⟩:Rn))=gv.gr.rings W R Hi ats:=by
     unfold Gr.rings
     rw[hgn,erm]
     exact List.map_congr_left fun x hx=>by rw[if_pos (List.mem_range.1 hx)]
    rw[ring1] at S
    refine ldAg_S S 1 rfl (x:=gv.t) rfl (ldAg_S S 1 rfl (x:=gv.t) rfl (ldAg_S S 1 rfl (x:=gv.t) rfl (ldAg_S S 1 rfl (x:=gv.t) rfl ?_)))
    refine(Order_ok hok (S.own 2 rfl).row (nr S rfl rfl) hs (S.r 0 _ rfl)).mono ?_
    rintro _ g6 ⟨o,rfl,ook,eo,S1⟩
    rw[rt.look] at eo
    replace S:=S.add S1 fun _ _ h=>h
    dsimp only[List.cons_append,List.nil_append] at S
    refine⟨_,_,_,rfl,holdW_S S 1 rfl rfl (holdW_S S 1 rfl rfl (holdW_S S 1 rfl rfl ?_))⟩
    refine(Macs_ok hok (S.own 2 rfl).row (nr S rfl rfl) hs (S.r 0 _ rfl) rt).mono ?_
    rintro _ g7 ⟨rfl,F⟩
    replace S:=S.fra0 F
    refine⟨_,rfl,holdW_S S 1 rfl rfl (holdW_S S 1 rfl rfl (holdW_S S 1 rfl rfl ?_))⟩
    refine(hash_ok (S.own 2 rfl).row (nr S rfl rfl) hok rt.fits.2).mono ?_
    rintro _ g8 ⟨rfl,F⟩
    replace S:=S.fra0 F
    refine⟨_,rfl,holdW_S S 1 rfl rfl (holdW_S S 1 rfl rfl (holdW_S S 1 rfl rfl ?_))⟩
    obtain⟨pv,epv⟩: ∃pv:Pv,pv=⟨gv,o,some ⟨b27,0,none⟩,gv.l+1,gv.l+1,gv.gr.rings W R Hi ats,(layout (gv.gr.sizesF W R Hi)).2.1,gv.gr.macs,gv.gr.hash⟩:=⟨_,rfl⟩
    have ec:pv.cells=[.int .i64 gv.width,.int .i64 gv.low,.int .i64 gv.high,.slice gv.p gv.l gv.c,.int .i64 gv.out,o.v,.slice (some ⟨b27,0,none⟩) (gv.l+1) (gv.l+1),.int .i64 (layout (gv.gr.sizesF W R Hi)).2.1,.int .i64 gv.gr.macs,.int .u32 gv.gr.hash]:=by rw[epv];rfl
    refine stL_S (vs:=pv.cells) S 0 rfl rfl (mkS_one rfl) ?_|>fun H=>(by rw[ec] at H;exact H)
    intro g9 _ S
    dsimp only[List.set] at S
    refine ldAg_S S 0 rfl (x:=pv.t) rfl ?_
    refine HQ _ _ ⟨pv,_,rfl,S.fra,he.symm,fun h=>absurd rfl h,fun _=> ?_⟩
    subst epv
    exact⟨rfl,hok,ook,eo,by rw[hgn],by rw[eat],rfl,rfl,rfl,fun x hx=>⟨rw1 x (by omega),by rw[erm];exact rmv x (by omega)⟩,b27,rfl,noR (S.pw [2,3,4,7,5])⟩
end
end Go.Proofs.YtdhpmegbmjoekaaGreatDoor.G
end
section
namespace Go.Proofs.YtdhpmegbmjoekaaGreatDoor.G
open Go Go.Sh
set_option linter.unusedVariables false
set_option linter.unusedSimpArgs false
def MakeR (g:Gr) (W W' R' Hi':Int→Int) (h:Heap) (v:Value) (h':Heap):Prop:=
 ((g.ranges W).isSome=false∧v= .tuple #[Pv.zero.v,.int .i64 16]∧Fra no h h')∨((g.ranges W).isSome=true∧MakeP (fuseG g) W' R' Hi' h v h')
section
variable {h:Heap} {s:List UInt8} {W R W' R' Lo' Hi':Int→Int} {pos pos':Int→Nat}
theorem Make_right (hs:s.length<2 ^ 60) (hT:KT h) (he:(dGr s).2=0) (rt:Right (dGr s).1 W R pos) (rt':Right (fuseG (dGr s).1) W' R' pos') (rc':Reach (fuseG (dGr s).1).nodes R' Lo' Hi'):
 callP P n_plan_Make #[.string (str s)] h (MakeR (dGr s).1 W W' R' Hi' h):=by
 refine call_plan_Make _ ?_
 unfold plan_Make
 have S:=(Sep.start h no).read (blk 0 (ints kindTab)) hT
 refine newI_S (cs:=Pv.zero.cells) S (fun b1 _ _ S=> ?_)
 dsimp only[List.nil_append,List.cons_append] at S
 refine(Decode_S (by omega)).mono ?_
 rintro _ g1 ⟨gv,rfl,gok,egr,S1⟩
 rw[←egr] at rt rt' rc' ⊢
 replace S:=S.add S1 fun _ _ h=>h
 dsimp only[List.cons_append,List.nil_append] at S
 refine exS_i gv.t ⟨_,rfl,?_⟩
 refine newI_S (cs:=mkS' grSh (zT grSh)) S fun b7 g2 _ S=> ?_
 dsimp only[List.cons_append,List.nil_append] at S
 refine stL_S S 3 rfl rfl (mkS_one rfl) fun g3 _ S=> ?_
 dsimp only[List.set] at S
 have gs:=rt.sizes gok
 refine ifB_bne (fun h=>absurd he h) (fun _=> ?_)
 refine ldAg_S S 3 rfl (x:=gv.t) rfl ?_
 refine(Ranges_ok gok (S.own 1 rfl).row (S.w 2 _ rfl) gs (S.r 0 _ rfl) rt).mono ?_
 rintro _ g4 ⟨⟨q,m,d,rfl⟩,F⟩
 replace S:=S.fra0 F
 refine⟨_,_,_,_,rfl,?_⟩
 cases hb:(gv.gr.ranges W).isSome with
 |false=>
  refine ifB_bne (fun _=> ?_) (fun h=>absurd h (by decide))
  refine stL_S S 0 rfl rfl (show ∀y∈Pv.zero.cells,one1 y=true from mkS_one rfl) fun g5 _ S=> ?_
  dsimp only[List.set] at S
  exact ldAg_S S 0 rfl (x:=Pv.zero.t) rfl (.inl ⟨hb,rfl,S.fra⟩)
 |true=>
  refine ifB_bne (fun h=>absurd rfl h) (fun _=> ?_)
  refine ldAg_S S 3 rfl (x:=gv.t) rfl ?_
  refine(Fuse_ok sorted_spec gok (S.own 1 rfl).row (S.w 2 _ rfl) gs.1 (fun n hm=>by have:=gs.2 n hm;omega) (S.r 0 _ rfl)).mono ?_
  rintro _ g5 ⟨gv',rfl,egr',ok',S1⟩
  replace S:=S.add S1 fun _ _ h=>h
  dsimp only[List.cons_append,List.nil_append] at S
  refine exS_i gv'.t ⟨rfl,?_⟩
  refine stL_S S 3 rfl rfl (mkS_one rfl) fun g6 _ S=> ?_
  dsimp only[List.set] at S
  rw[←egr'] at rt' rc'
  exact make_tail ok' rt' rc' (fun v h' H=> .inr ⟨hb,by rw[egr'] at H;exact H⟩) (S.pw [0,3,4,5,6])
theorem Made22_ok {p:Option Addr} {l c:Nat} {L:List Int} (hx:Row h p (ints L)) (hL:L.length=l) (hlc:l≤c) (hl:l<2 ^ 62) (more:Int):
 callP P n_ref22_Made #[.slice p l c,.int .i64 more] h fun v h'=> ∃g:Gr,Made21G g∧v= .string (str (magic++g.enc))∧Fra no h h':=by
 refine call_ref22_Made _ _ _ _ ?_
 unfold ref22_Made
 refine(Made21_S hx hL hlc hl more).mono ?_
 rintro _ g1 ⟨gv,rfl,gok,mg,_,_,S⟩
 obtain⟨W,R,pos,rt⟩:=mg.right
 refine exS_i gv.t ⟨rfl,?_⟩
 refine(REncode_S (S.own 0 rfl).row (S.w 1 _ rfl) gok rt.fits.2).mono ?_
 rintro _ g2 ⟨rfl,F⟩
 refine⟨_,_,rfl,gv.gr,mg,?_,S.fra.trans F⟩
 unfold Gr.out2
 rw[if_pos rt.fits.1]
end
end Go.Proofs.YtdhpmegbmjoekaaGreatDoor.G
end
