/- CPlan CPlan2 CPlan3, in one text. -/
import Derived.Test.YtdhpmegbmjoekaaGreatDoorCFld2
import Derived.Test.YtdhpmegbmjoekaaGreatDoorCCrc
import Derived.Test.YtdhpmegbmjoekaaGreatDoorCFitR
import Derived.Test.YtdhpmegbmjoekaaGreatDoorCFused
import Derived.Test.YtdhpmegbmjoekaaGreatDoorCSorted
import Derived.Test.YtdhpmegbmjoekaaGreatDoorCLayout
import Derived.Test.YtdhpmegbmjoekaaGreatDoorCDec3
import Derived.Test.YtdhpmegbmjoekaaGreatDoorCGood2
import Derived.Test.YtdhpmegbmjoekaaGreatDoorCModelR2
section
namespace Go.Proofs.YtdhpmegbmjoekaaGreatDoor.G
open Go Go.Sh
set_option linter.unusedVariables false
set_option linter.unusedSimpArgs false
structure Rn where
 pos:Int
 width:Int
 room:Int
def Rn.cells (r:Rn):List Value:=[.int .i64 r.pos,.int .i64 r.width,.int .i64 r.room]
def Rn.zero:Rn:=⟨0,0,0⟩
def eP (rs:List Rn):List Value:=(rs.map Rn.cells).flatten
theorem mD (rs:List Rn):(eP rs).length=rs.length*3:=pL Rn.cells 3 (fun _=>rfl) rs
theorem tO {rs:List Rn} {i j:Nat} {x:Rn} (h:rs[i]? =some x) (hj:j<3):(eP rs)[i*3+j]? =x.cells[j]? :=ue Rn.cells 3 (fun _=>rfl) rs i j x h hj
theorem LQ (n:Nat):(List.replicate n Rn.zero.cells).flatten=eP (List.replicate n .zero):=by unfold eP;rw[List.map_replicate]
theorem FE {rs:List Rn} {i:Nat} (hi:i<rs.length) (x:Rn):((((eP rs).set (i*3) (.int .i64 x.pos)).set (i*3+1) (.int .i64 x.width)).set (i*3+2) (.int .i64 x.room))=eP (rs.set i x):=
 Bs Rn.cells 3 (fun _=>rfl) (by decide) x hi
theorem Id {α:Type} {l:List α} {i:Nat} {v:α} (h:l[i]? =some v):l.set i v=l:=by
 obtain⟨hi,e⟩:=List.getElem?_eq_some_iff.1 h
 rw[←e,List.set_getElem_self]
theorem LR {rs:List Rn} {i:Nat} {x:Rn} (e:rs[i]? =some x) (y:Int):(eP rs).set (i*3) (.int .i64 y)=eP (rs.set i {x with pos:=y}):=by
 have hi:=(List.getElem?_eq_some_iff.1 e).1
 rw[←FE hi {x with pos:=y}]
 have h1:((eP rs).set (i*3) (.int .i64 y)).set (i*3+1) (.int .i64 x.width)=(eP rs).set (i*3) (.int .i64 y):=by
  refine Id ?_
  rw[List.getElem?_set_ne (by omega),tO e (by decide)];rfl
 have h2:((eP rs).set (i*3) (.int .i64 y)).set (i*3+2) (.int .i64 x.room)=(eP rs).set (i*3) (.int .i64 y):=by
  refine Id ?_
  rw[List.getElem?_set_ne (by omega),tO e (by decide)];rfl
 dsimp only
 rw[h1,h2]
structure Pv where
 g:Gv
 o:Sl
 rp:Option Addr
 rl:Nat
 rc:Nat
 rs:List Rn
 words:Int
 macs:Int
 hash:Int
abbrev Qg:List Sc:=[.int .i64,.int .i64,.int .i64,.slice,.int .i64,.slice,.slice,.int .i64,.int .i64,.int .u32]
def Pv.t (p:Pv):TS Qg:=(p.g.width,p.g.low,p.g.high,(p.g.p,p.g.l,p.g.c),p.g.out,(p.o.p,p.o.l,p.o.c),(p.rp,p.rl,p.rc),p.words,p.macs,p.hash,())
def Pv.cells (p:Pv):List Value:=aP Qg p.t
abbrev Pv.v (p:Pv):Value:=bz Qg p.t
def Pv.zero:Pv:=⟨⟨0,0,0,none,0,0,0,[]⟩,⟨none,0,0,[]⟩,none,0,0,[],0,0,0⟩
theorem NK (a b:Int):(Int.tdiv a b).natAbs≤a.natAbs:=by rw[Int.natAbs_tdiv];exact Nat.div_le_self _ _
theorem DK {n:Nd} {rate top B:Int} {Hi:Int→Int}: ∀(l o:List Int),(∀j∈l,j.toNat<o.length)→(∀j∈l,DJ n rate (fc (top-Hi j))≤B)→(∀y∈o,1≤y∧y≤B)→ ∀y∈l.foldl (qP n rate top Hi) o,1≤y∧y≤B
 |[],o,_,_,ho=>ho
 |j::r,o,hl,hb,ho=>by
  rw[List.foldl_cons]
  refine DK r _ (fun x hx=>by unfold qP;rw[List.length_set];exact hl x (List.mem_cons_of_mem _ hx)) (fun x hx=>hb x (List.mem_cons_of_mem _ hx)) fun y hy=> ?_
  unfold qP at hy
  have h1:=hl j List.mem_cons_self
  have h2:=hb j List.mem_cons_self
  have h3:o.getD j.toNat 0∈o:=by rw[dK h1];exact List.getElem_mem _
  have h4:=ho _ h3
  rcases List.mem_or_eq_of_mem_set hy with h|h
  ·exact ho y h
  ·rw[h];split<;>omega
section
variable {gv:Gv} {W R Lo Hi:Int→Int} {pos:Int→Nat}
theorem LS (hok:gv.ok) (rt:bJ gv.gr W R pos) (rc:Reach gv.gr.nodes R Lo Hi) {i:Nat} {n:Nd} (en:gv.gr.nodes[i]? =some n) {j:Int} (hj:j∈n.inn):DJ n (R ((i:Int)+1)) (fc (pT (n.inn.map Hi)-Hi j))≤2 ^ 43:=by
 have hgl:=hok.1
 have hgn:gv.gr.nodes.length=gv.l:=by rw[←hgl];simp[Gv.gr]
 have hb:=JA hok rt rc
 have hil:=(List.getElem?_eq_some_iff.1 en).1
 have hnn:=rt.node en
 rw[hgn] at hnn hil
 have hz:=km (rt.chk i n en)
 have b1:=(hb ((i:Int)+1) (by omega) (by omega)).2.2
 have hjr:=hnn.2.2.2.2 j hj
 have b2:=(hb j hjr.1 hjr.2).2.1
 obtain⟨m,hm,em⟩:=List.mem_map.1 (Fv (l:=n.inn.map Hi) (by rw[List.length_map];exact hnn.1))
 have hmr:=hnn.2.2.2.2 m hm
 have b3:=(hb m hmr.1 hmr.2).2.1
 rw[←em]
 unfold DJ
 have w: ∀{n:Int},-9223372036854775808≤n∧n≤9223372036854775807→fc n=n:=fun h=>al (by omega)
 rw[w (n:=Hi m-Hi j) (by omega)]
 split
 ·split
  ·decide
  ·rw[w (n:=Hi m-Hi j+R ((i:Int)+1)) (by omega),w (n:=Hi m-Hi j+R ((i:Int)+1)-1) (by omega)]
   have ht:=NK (Hi m-Hi j+R ((i:Int)+1)-1) (R ((i:Int)+1))
   generalize Int.tdiv (Hi m-Hi j+R ((i:Int)+1)-1) (R ((i:Int)+1))=q at ht
   rw[w (n:=q) (by omega),w (n:=q+1) (by omega)]
   omega
 ·have:=hz.2.2.2.2.1
  omega
theorem FF (hok:gv.ok) (rt:bJ gv.gr W R pos) (rc:Reach gv.gr.nodes R Lo Hi):(gv.gr.rooms R Hi).length=gv.l+1∧ ∀y∈gv.gr.rooms R Hi,1≤y∧y≤2 ^ 43:=by
 have hgl:=hok.1
 have hgn:gv.gr.nodes.length=gv.l:=by rw[←hgl];simp[Gv.gr]
 refine⟨by unfold Gr.rooms;rw[oW,hgn],?_⟩
 have key: ∀k,∀y∈gL gv.gr.nodes R Hi k,1≤y∧y≤2 ^ 43:=by
  intro k
  induction k with
  |zero=>intro y hy;unfold gL at hy;rw[List.take_zero] at hy;have:=List.eq_of_mem_replicate hy;rw[this];decide
  |succ k ih=>
   by_cases hk:k<(cU gv.gr.nodes).length
   ·unfold gL
    rw[List.take_succ_eq_append_getElem hk,List.foldl_append]
    show ∀y∈nC _ _ _ (gL gv.gr.nodes R Hi k) _,_
    have hxm:=fT gv.gr.nodes gv.gr.nodes.length _ (List.getElem_mem hk)
    obtain⟨i,ex⟩: ∃i:Nat,(cU gv.gr.nodes)[k]=(i:Int)+1:=⟨((cU gv.gr.nodes)[k]-1).toNat,by have:1≤(cU gv.gr.nodes)[k]:=hxm.1;omega⟩
    rw[ex]
    unfold nC
    rw[show((i:Int)+1).toNat-1=i by omega]
    split
    ·exact ih
    ·rename_i n en
     have hnn:=rt.node en
     refine DK _ _ (fun j hj=> ?_) (fun j hj=>LS hok rt rc en hj) ih
     have:=hnn.2.2.2.2 j hj
     rw[oW];omega
   ·have:gL gv.gr.nodes R Hi (k+1)=gL gv.gr.nodes R Hi k:=by unfold gL;rw[List.take_of_length_le (by omega),List.take_of_length_le (by omega)]
    rw[this];exact ih
 exact key _
end
def Gr.sizesF (g:Gr) (W R Hi:Int→Int):List Int:=(List.range (g.nodes.length+1)).map fun x:Nat=>(g.rooms R Hi).getD x 0*W x
def Gr.rings (g:Gr) (W R Hi:Int→Int) (ats:List Int):List Rn:=(List.range (g.nodes.length+1)).map fun x:Nat=>⟨ats.getD x 0,W x,(g.rooms R Hi).getD x 0⟩
section
variable {h:ae} {s:List UInt8}
theorem qF.sep {h h':ae} {sz:Nat} {p:Option Addr} {l c:Nat} {xs:List Value} (F:cu no h h') (o:qF h' h.size sz p l c xs):aK h no h' [own sz p l c xs] []:=by
 refine aK.one F (o.mono (Nat.zero_le _)) fun b hb hlt=> ?_
 obtain⟨a,ea,rfl⟩:=hb
 obtain⟨_,_,⟨e,_⟩|⟨b,cs,e,hb,_⟩⟩:=o
 ·rw[e] at ea;cases ea
 ·rw[e] at ea;cases ea;exact absurd hlt (by show ¬b<h.size;omega)
theorem Ie (hs:s.length<2 ^ 60) (he:(tQ s).2≠0):aq P fO #[.string (str s)] h fun v h'=>v= .tuple #[Pv.zero.v,.int .i64 (tQ s).2]∧cu no h h':=by
 refine mV _ ?_
 unfold tT
 have S:=aK.start h no
 refine aC (cs:=Pv.zero.cells) S (fun b1 _ _ S=> ?_)
 dsimp only[List.nil_append,List.cons_append] at S
 refine(DP (by omega)).mono ?_
 rintro _ g1 ⟨gv,rfl,gok,egr,S1⟩
 replace S:=S.add S1 fun _ _ h=>h
 dsimp only[List.cons_append,List.nil_append] at S
 refine jQ gv.t ⟨_,rfl,?_⟩
 refine aC (cs:=aP bP (zT bP)) S fun b7 g2 _ S=> ?_
 dsimp only[List.cons_append,List.nil_append] at S
 refine cG S 3 rfl rfl (bC rfl) fun g3 _ S=> ?_
 dsimp only[List.set] at S
 refine bj (fun _=> ?_) (fun h=>absurd h he)
 refine cG S 0 rfl rfl (show ∀y∈Pv.zero.cells,mC y=true from bC rfl) fun g4 _ S=> ?_
 dsimp only[List.set] at S
 exact aQ S 0 rfl (x:=Pv.zero.t) rfl ⟨rfl,S.fra⟩
end
end Go.Proofs.YtdhpmegbmjoekaaGreatDoor.G
end
section
namespace Go.Proofs.YtdhpmegbmjoekaaGreatDoor.G
open Go Go.Sh
set_option linter.unusedVariables false
set_option linter.unusedSimpArgs false
theorem KD: ∀(xs:List Int) (e:Int) (x:List Int×Int),lay xs e=some x→x.1.length=xs.length
 |[],e,x,h=>by cases h;rfl
 |n::r,e,x,h=>by
  unfold lay at h
  split at h
  ·cases h
  ·obtain⟨y,hy,rfl⟩:=Option.map_eq_some_iff.1 h
   simp only[List.length_cons,KD r _ y hy]
theorem DL {xs:List Int} (h:(cL xs).2.2=0):(cL xs).1.length=xs.length:=by
 unfold cL at h ⊢
 split at h
 ·exact absurd h (by decide)
 ·rename_i hn
  rw[if_neg hn]
  cases hl:lay xs 0 with
  |none=>rw[hl] at h;exact absurd h (by decide)
  |some x=>exact KD xs 0 x hl
theorem LT {xs:List Int} (hn: ∀n∈xs,0≤n) (h:(cL xs).2.2≠0):(cL xs).2.2=17:=by
 unfold cL at h ⊢
 rw[if_neg (by rintro⟨n,hm,hl⟩;have:=hn n hm;omega)] at h ⊢
 cases hl:lay xs 0 with
 |none=>rfl
 |some x=>rw[hl] at h;exact absurd rfl h
theorem KE: ∀(xs:List Int) (e:Int) (x:List Int×Int),lay xs e=some x→(∀n∈xs,0≤n)→0≤e→e≤4096→e % 4=0→ ∀i,i≤xs.length→0≤(x.1++[x.2]).getD i 0∧(x.1++[x.2]).getD i 0≤4096∧(x.1++[x.2]).getD i 0 % 4=0∧(i=0→(x.1++[x.2]).getD i 0=e)∧
 (i<xs.length→(x.1++[x.2]).getD i 0+xs.getD i 0≤4096∧(x.1++[x.2]).getD (i+1) 0=((x.1++[x.2]).getD i 0+xs.getD i 0+3) / 4*4)
 |[],e,x,h,hn,h0,h1,h2,i,hi=>by
  cases h
  have:i=0:=by simpa using hi
  subst this
  exact⟨h0,h1,h2,fun _=>rfl,fun h=>absurd h (by simp)⟩
 |n::r,e,x,h,hn,h0,h1,h2,i,hi=>by
  unfold lay at h
  split at h
  ·cases h
  ·rename_i hle
   obtain⟨y,hy,rfl⟩:=Option.map_eq_some_iff.1 h
   have hn0:=hn n List.mem_cons_self
   have ih:=KE r _ y hy (fun m hm=>hn m (List.mem_cons_of_mem _ hm)) (by omega) (by omega) (by omega)
   cases i with
   |zero=>
    have i0:=ih 0 (Nat.zero_le _)
    refine⟨h0,h1,h2,fun _=>rfl,fun _=>⟨by show e+n≤4096;omega,?_⟩⟩
    exact i0.2.2.2.1 rfl
   |succ i=>
    have ii:=ih i (by simpa using hi)
    exact⟨ii.1,ii.2.1,ii.2.2.1,fun h=>absurd h (Nat.succ_ne_zero i),fun hlt=>ii.2.2.2.2 (by simpa using hlt)⟩
theorem JB {xs:List Int} (h:(cL xs).2.2=0):lay xs 0=some ((cL xs).1,(cL xs).2.1)∧ ∀n∈xs,0≤n:=by
 unfold cL at h ⊢
 split at h
 ·exact absurd h (by decide)
 ·rename_i hn
  rw[if_neg hn]
  refine⟨?_,fun n hm=>Classical.byContradiction fun hl=>hn ⟨n,hm,by omega⟩⟩
  cases hl:lay xs 0 with
  |none=>rw[hl] at h;exact absurd h (by decide)
  |some x=>rfl
def JC (G:Gr) (W R Hi:Int→Int) (pv:Pv) (h h':ae):Prop:=
 pv.g.gr=G∧pv.g.ok∧pv.o.ok∧pv.o.xs=cU G.nodes∧pv.rl=G.nodes.length+1∧pv.rs=G.rings W R Hi (cL (G.sizesF W R Hi)).1∧pv.words=(cL (G.sizesF W R Hi)).2.1∧pv.macs=G.macs∧pv.hash=G.hash∧(∀x:Nat,x≤G.nodes.length→(1≤W x∧W x≤16)∧(1≤(G.rooms R Hi).getD x 0∧(G.rooms R Hi).getD x 0≤2 ^ 43))∧
  ∃br,pv.rp=some ⟨br,0,none⟩∧aK h no h' [own 15 pv.g.p pv.g.l pv.g.c (aF pv.g.ns),fe (pv.g.ns.map Nv.inn),cA (ul pv.g.ns),own 1 pv.o.p pv.o.l pv.o.c (az pv.o.xs),blk br (eP pv.rs)] []
def PA (G:Gr) (W R Hi:Int→Int) (h:ae) (v:Value) (h':ae):Prop:=
 ∃(pv:Pv) (e:Int),v= .tuple #[pv.v,.int .i64 e]∧cu no h h'∧e=(cL (G.sizesF W R Hi)).2.2∧(e≠0→e=17∧pv=Pv.zero)∧(e=0→JC G W R Hi pv h h')
section
variable {h:ae} {s:List UInt8} {gv:Gv} {W R Lo Hi:Int→Int} {pos:Int→Nat}
theorem LU (hok:gv.ok) (rt:bJ gv.gr W R pos) (rc:Reach gv.gr.nodes R Lo Hi) {b1 b7:Nat} {g:ae} {Q:Value→ae→Prop} (HQ: ∀v h',PA gv.gr W R Hi h v h'→Q v h')
 (S:aK h no g [blk b1 Pv.zero.cells,blk b7 gv.cells,own 15 gv.p gv.l gv.c (aF gv.ns),fe (gv.ns.map Nv.inn),cA (ul gv.ns)] [blk 0 (az aS)]):
 aX bP g ⟨b7,0,none⟩ fun x24=>bM P hO #[(bz bP x24)] g fun p26 l26 c26 h25=>
  zW 52 3 24 (.agg #[(.int .i64 (0:Int)),(.int .i64 (0:Int)),(.int .i64 (0:Int))]) ((l26:Nat):Int) ((l26:Nat):Int) h25 fun b27 h28=>
  zW 3 1 8 (.int .i64 (0:Int)) ((l26:Nat):Int) ((l26:Nat):Int) h28 fun b29 h30=>
  aX bP h30 ⟨b7,0,none⟩ fun x31=>bM P dS #[(bz bP x31)] h30 fun p33 l33 c33 h32=>
  bB (S:=Addr×Addr×Oa×Oa×Oa×Oa×Int×Int×Unit) (fun K1 s h'=>oK Q K1 s.1 s.2.1 s.2.2.1.1 s.2.2.1.2.1 s.2.2.1.2.2 s.2.2.2.1.1 s.2.2.2.1.2.1 s.2.2.2.1.2.2 s.2.2.2.2.1.1 s.2.2.2.2.1.2.1 s.2.2.2.2.1.2.2 s.2.2.2.2.2.1.1 s.2.2.2.2.2.1.2.1 s.2.2.2.2.2.1.2.2 s.2.2.2.2.2.2.1 s.2.2.2.2.2.2.2.1 h')
   (⟨b1,0,none⟩,⟨b7,0,none⟩,(p26,l26,c26),(some ⟨b27,0,none⟩,((l26:Nat):Int).toNat,((l26:Nat):Int).toNat),(some ⟨b29,0,none⟩,((l26:Nat):Int).toNat,((l26:Nat):Int).toNat),(p33,l33,c33),((l33:Nat):Int),(0:Int),()) h32:=by
 have hgl:=hok.1
 have hgn:gv.gr.nodes.length=gv.l:=by rw[←hgl];simp[Gv.gr]
 have hl12:gv.l≤12:=by have:=(bW rt.first).2.1;omega
 have hs:=rt.sizes hok
 obtain⟨rml,rmb⟩:=FF hok rt rc
 have nr: ∀{g:ae} {W2:List bi},aK h no g W2 [blk 0 (az aS)]→W2[3]? =some (fe (gv.ns.map Nv.inn))→W2[4]? =some (cA (ul gv.ns))→(aZ gv.ns).P g:=fun S e3 e4=>JG (S.w 3 _ e3) (S.w 4 _ e4)
 refine aQ S 1 rfl (x:=gv.t) rfl ?_
 refine(Ic hok (S.own 2 rfl).row (nr S rfl rfl) hs (S.r 0 _ rfl) rt rc).mono ?_
 rintro _ g1 ⟨bm,rfl,S1⟩
 replace S:=S.add S1 fun _ _ h=>h
 dsimp only[List.cons_append,List.nil_append] at S
 refine⟨_,_,_,rfl,?_⟩
 refine iG S (gv.l+1) rfl (zs:=Rn.zero.cells) rfl rfl (by decide) (by omega) (by omega) fun b27 g2 _ S=> ?_
 dsimp only[List.cons_append,List.nil_append] at S
 rw[LQ] at S
 refine iG S (gv.l+1) rfl (zs:=[.int .i64 0]) rfl rfl (by decide) (by omega) (by omega) fun b29 g3 _ S=> ?_
 dsimp only[List.cons_append,List.nil_append] at S
 rw[lH,show List.replicate (gv.l+1) (Value.int .i64 0)=az (List.replicate (gv.l+1) 0) by simp[az]] at S
 refine aQ S 1 rfl (x:=gv.t) rfl ?_
 refine(tR hok (S.own 2 rfl).row (nr S rfl rfl) hs (S.r 0 _ rfl)).mono ?_
 rintro _ g4 ⟨w,rfl,wok,ew,S1⟩
 rw[rt.look,hgn] at ew
 replace S:=S.add S1 fun _ _ h=>h
 dsimp only[List.cons_append,List.nil_append] at S
 have lenW:w.l=gv.l+1:=by rw[←wok.1,ew];simp
 refine⟨_,_,_,rfl,?_⟩
 simp only[Int.toNat_natCast]
 obtain⟨rm,erm⟩: ∃rm,gv.gr.rooms R Hi=rm:=⟨_,rfl⟩
 rw[erm] at S rml rmb
 have rmg: ∀x,x<gv.l+1→rm[x]? =some (rm.getD x 0):=fun x hx=>by rw[List.getD_eq_getElem?_getD,List.getElem?_eq_getElem (by omega)];rfl
 have rmv: ∀x,x<gv.l+1→1≤rm.getD x 0∧rm.getD x 0≤2 ^ 43:=fun x hx=>rmb _ (List.mem_of_getElem? (rmg x hx))
 have rw1: ∀x:Nat,x<gv.l+1→(1≤W x∧W x≤16):=fun x hx=>rt.wide (by omega) (by omega)
 have prod: ∀x:Nat,x<gv.l+1→0≤rm.getD x 0*W x∧rm.getD x 0*W x≤2 ^ 43*16:=fun x hx=>by
  have a:=rmv x hx
  have b:=rw1 x hx
  exact⟨Int.mul_nonneg (by omega) (by omega),Int.mul_le_mul a.2 b.2 (by omega) (by decide)⟩
 have esz:gv.gr.sizesF W R Hi=(List.range (gv.l+1)).map fun x:Nat=>rm.getD x 0*W x:=by unfold Gr.sizesF;rw[erm,hgn]
 refine aT (fun m s g=> ∃i:Nat,s=(⟨b1,0,none⟩,⟨b7,0,none⟩,(some ⟨bm,0,none⟩,gv.l+1,gv.l+1),(some ⟨b27,0,none⟩,gv.l+1,gv.l+1),(some ⟨b29,0,none⟩,gv.l+1,gv.l+1),(w.p,w.l,w.c),(w.l:Int),(i:Int),())∧i≤gv.l+1∧m=gv.l+1-i∧
  aK h no g [blk b1 Pv.zero.cells,blk b7 gv.cells,own 15 gv.p gv.l gv.c (aF gv.ns),fe (gv.ns.map Nv.inn),cA (ul gv.ns),blk bm (az rm),blk b27 (eP ((List.range i).map (fun x:Nat=>(⟨0,W x,rm.getD x 0⟩:Rn))++List.replicate (gv.l+1-i) .zero)),
   blk b29 (az ((List.range i).map (fun x:Nat=>rm.getD x 0*W x)++List.replicate (gv.l+1-i) 0)),own 1 w.p w.l w.c (az w.xs)] [blk 0 (az aS)]) (gv.l+1) ⟨0,rfl,by omega,rfl,S⟩ ?_
 clear S S1
 rintro m s g ⟨i,rfl,hi,rfl,S⟩
 unfold oK
 dsimp only
 refine au (fun hlt=> ?_) (fun hge=> ?_)
 ·have hlt:i<gv.l+1:=by omega
  have wr:=(S.own 8 rfl).row
  obtain⟨wa,ewa⟩:=wr.some_of (by rw[aB,wok.1];omega)
  rw[ewa] at wr
  refine aG ewa (k:=i) rfl (by omega) ?_
  simp only[Int.toNat_natCast,Nat.mul_one]
  refine af (n:=W (i:Int)) (wr.cell (aN (by rw[ew,List.getElem?_map,List.getElem?_range (by omega)];rfl))) ?_
  refine aG rfl (k:=i) rfl hlt ?_
  simp only[aY,Nat.zero_add]
  refine af (S.cell 5 rfl (aN (rmg i hlt))) (aG rfl (k:=i) rfl hlt ?_)
  simp only[aY,Nat.zero_add]
  have hA:((List.range i).map (fun x:Nat=>(⟨0,W x,rm.getD x 0⟩:Rn))).length=i:=by rw[List.length_map,List.length_range]
  have hB:((List.range i).map (fun x:Nat=>rm.getD x 0*W x)).length=i:=by rw[List.length_map,List.length_range]
  have hfl:(eP ((List.range i).map (fun x:Nat=>(⟨0,W x,rm.getD x 0⟩:Rn))++List.replicate (gv.l+1-i) .zero)).length=(gv.l+1)*3:=by rw[mD,List.length_append,hA,List.length_replicate];congr 1;omega
  refine aJ S 6 rfl (by omega) fun _ _ S=> ?_
  dsimp only[List.set] at S
  refine aJ S 6 rfl (by rw[List.length_set];omega) fun _ _ S=> ?_
  dsimp only[List.set] at S
  refine aJ S 6 rfl (by rw[List.length_set,List.length_set];omega) fun _ _ S=> ?_
  dsimp only[List.set] at S
  rw[FE (by rw[List.length_append,hA,List.length_replicate];omega) (⟨0,W (i:Int),rm.getD i 0⟩:Rn),sk hA hlt] at S
  refine aG rfl (k:=i) rfl hlt ?_
  simp only[aY,Nat.zero_add]
  refine af (S.cell 5 rfl (aN (rmg i hlt))) (aG rfl (k:=i) rfl hlt ?_)
  simp only[aY,Nat.zero_add]
  have hp:=prod i hlt
  rw[al (n:=rm.getD i 0*W (i:Int)) (by omega),al (n:=(i:Int)+1) (by omega)]
  refine aJ S 7 rfl (by rw[aB,List.length_append,hB,List.length_replicate];omega) fun _ _ S=> ?_
  dsimp only[List.set] at S
  rw[ck,sk hB hlt] at S
  refine⟨gv.l+1-(i+1),by omega,i+1,rfl,by omega,rfl,?_⟩
  rw[List.range_succ,List.map_append,List.map_append]
  exact S
 ·have ei:i=gv.l+1:=by omega
  subst ei
  rw[Nat.sub_self,List.replicate_zero,List.replicate_zero,List.append_nil,List.append_nil,←esz] at S
  have szl:(gv.gr.sizesF W R Hi).length=gv.l+1:=by rw[esz];simp
  have szr: ∀n∈gv.gr.sizesF W R Hi,-2 ^ 63≤n∧n<2 ^ 63:=fun n hn=>by
   rw[esz] at hn
   obtain⟨x,hx,rfl⟩:=List.mem_map.1 hn
   have:=prod x (List.mem_range.1 hx)
   omega
  refine(L7 (bT.of_at (S.at 7 rfl)) szl (by omega) szr).mono ?_
  rintro _ g5 ⟨pa,la,ca,rfl,oA,F⟩
  replace S:=S.add (qF.sep F oA) fun _ _ h=>h
  dsimp only[List.cons_append,List.nil_append] at S
  refine⟨_,_,_,_,_,rfl,bj (fun he=> ?_) (fun he=> ?_)⟩
  ·refine cG S 0 rfl rfl (show ∀y∈Pv.zero.cells,mC y=true from bC rfl) fun g6 _ S=> ?_
   dsimp only[List.set] at S
   refine aQ S 0 rfl (x:=Pv.zero.t) rfl (HQ _ _ ⟨Pv.zero,_,rfl,S.fra,rfl,fun _=>⟨LT (fun n hn=> ?_) he,rfl⟩,fun h=>absurd h he⟩)
   rw[esz] at hn
   obtain⟨x,hx,rfl⟩:=List.mem_map.1 hn
   exact(prod x (List.mem_range.1 hx)).1
  ·obtain⟨ats,eat⟩: ∃ats,(cL (gv.gr.sizesF W R Hi)).1=ats:=⟨_,rfl⟩
   have atl:ats.length=gv.l+1:=by rw[←eat,DL he,szl]
   rw[eat] at S
   have hla:la=gv.l+1:=by
    have:=(S.own 9 rfl).1
    rw[aB,atl,Nat.mul_one] at this
    exact this.symm
   have ringsK: ∀i,i≤gv.l→((List.range (gv.l+1)).map (fun x:Nat=>(⟨if x<i then ats.getD x 0 else 0,W x,rm.getD x 0⟩:Rn))).set i {(⟨0,W (i:Int),rm.getD i 0⟩:Rn) with pos:=ats.getD i 0}=(List.range (gv.l+1)).map (fun x:Nat=>(⟨if x<i+1 then ats.getD x 0 else 0,W x,rm.getD x 0⟩:Rn)):=by
    intro i hi
    apply List.ext_getElem?
    intro x
    by_cases hx:x<gv.l+1
    ·by_cases hxi:x=i
     ·subst hxi
      rw[List.getElem?_set_self (by simp;omega),List.getElem?_map,List.getElem?_range hx]
      simp
     ·rw[List.getElem?_set_ne (fun h=>hxi h.symm),List.getElem?_map,List.getElem?_map,List.getElem?_range hx]
      have:(x<i)=(x<i+1):=by rw[eq_iff_iff];omega
      simp only[Option.map_some,this]
    ·rw[List.getElem?_eq_none (by simp;omega),List.getElem?_eq_none (by simp;omega)]
   have ring0:(List.range (gv.l+1)).map (fun x:Nat=>(⟨0,W x,rm.getD x 0⟩:Rn))=(List.range (gv.l+1)).map (fun x:Nat=>(⟨if x<0 then ats.getD x 0 else 0,W x,rm.getD x 0⟩:Rn)):=List.map_congr_left fun x _=>by rw[if_neg (Nat.not_lt_zero x)]
   rw[ring0] at S
   refine aT (fun m s g=> ∃i:Nat,s=(⟨b1,0,none⟩,⟨b7,0,none⟩,(some ⟨b27,0,none⟩,gv.l+1,gv.l+1),(pa,la,ca),(cL (gv.gr.sizesF W R Hi)).2.1,((gv.l+1:Nat):Int),(i:Int),())∧i≤gv.l+1∧m=gv.l+1-i∧
    aK h no g [blk b1 Pv.zero.cells,blk b7 gv.cells,own 15 gv.p gv.l gv.c (aF gv.ns),fe (gv.ns.map Nv.inn),cA (ul gv.ns),blk b27 (eP ((List.range (gv.l+1)).map (fun x:Nat=>(⟨if x<i then ats.getD x 0 else 0,W x,rm.getD x 0⟩:Rn)))),own 1 pa la ca (az ats)] [blk 0 (az aS)]) (gv.l+1) ⟨0,rfl,by omega,rfl,S.pw [0,1,2,3,4,6,9]⟩ ?_
   clear S oA F
   rintro m s g ⟨i,rfl,hi,rfl,S⟩
   unfold uW
   dsimp only
   refine au (fun hlt=> ?_) (fun hge=> ?_)
   ·have hlt:i<gv.l+1:=by omega
    have ar:=(S.own 6 rfl).row
    obtain⟨aa,eaa⟩:=ar.some_of (by rw[aB,atl];omega)
    rw[eaa] at ar
    refine aG eaa (k:=i) rfl (by omega) ?_
    simp only[Int.toNat_natCast,Nat.mul_one]
    refine af (n:=ats.getD i 0) (ar.cell (aN (by rw[List.getD_eq_getElem?_getD,List.getElem?_eq_getElem (by omega)];rfl))) (aG rfl (k:=i) rfl hlt ?_)
    simp only[aY,Nat.zero_add]
    refine aJ S 5 rfl (by rw[mD];simp only[List.length_map,List.length_range];omega) fun _ _ S=> ?_
    dsimp only[List.set] at S
    have eri:((List.range (gv.l+1)).map (fun x:Nat=>(⟨if x<i then ats.getD x 0 else 0,W x,rm.getD x 0⟩:Rn)))[i]? =some ⟨0,W (i:Int),rm.getD i 0⟩:=by
     rw[List.getElem?_map,List.getElem?_range hlt,Option.map_some,if_neg (Nat.lt_irrefl i)]
    rw[LR eri,ringsK i (by omega)] at S
    rw[al (n:=(i:Int)+1) (by omega)]
    exact⟨gv.l+1-(i+1),by omega,i+1,rfl,by omega,rfl,S⟩
   ·have ei:i=gv.l+1:=by omega
    subst ei
    have ring1:(List.range (gv.l+1)).map (fun x:Nat=>(⟨if x<gv.l+1 then ats.getD x 0 else 0,W x,rm.getD x 0⟩:Rn))=gv.gr.rings W R Hi ats:=by
     unfold Gr.rings
     rw[hgn,erm]
     exact List.map_congr_left fun x hx=>by rw[if_pos (List.mem_range.1 hx)]
    rw[ring1] at S
    refine aQ S 1 rfl (x:=gv.t) rfl (aQ S 1 rfl (x:=gv.t) rfl (aQ S 1 rfl (x:=gv.t) rfl (aQ S 1 rfl (x:=gv.t) rfl ?_)))
    refine(Bu hok (S.own 2 rfl).row (nr S rfl rfl) hs (S.r 0 _ rfl)).mono ?_
    rintro _ g6 ⟨o,rfl,ook,eo,S1⟩
    rw[rt.look] at eo
    replace S:=S.add S1 fun _ _ h=>h
    dsimp only[List.cons_append,List.nil_append] at S
    refine⟨_,_,_,rfl,eW S 1 rfl rfl (eW S 1 rfl rfl (eW S 1 rfl rfl ?_))⟩
    refine(KC hok (S.own 2 rfl).row (nr S rfl rfl) hs (S.r 0 _ rfl) rt).mono ?_
    rintro _ g7 ⟨rfl,F⟩
    replace S:=S.fra0 F
    refine⟨_,rfl,eW S 1 rfl rfl (eW S 1 rfl rfl (eW S 1 rfl rfl ?_))⟩
    refine(KF (S.own 2 rfl).row (nr S rfl rfl) hok rt.fits.2).mono ?_
    rintro _ g8 ⟨rfl,F⟩
    replace S:=S.fra0 F
    refine⟨_,rfl,eW S 1 rfl rfl (eW S 1 rfl rfl (eW S 1 rfl rfl ?_))⟩
    obtain⟨pv,epv⟩: ∃pv:Pv,pv=⟨gv,o,some ⟨b27,0,none⟩,gv.l+1,gv.l+1,gv.gr.rings W R Hi ats,(cL (gv.gr.sizesF W R Hi)).2.1,gv.gr.macs,gv.gr.hash⟩:=⟨_,rfl⟩
    have ec:pv.cells=[.int .i64 gv.width,.int .i64 gv.low,.int .i64 gv.high,.slice gv.p gv.l gv.c,.int .i64 gv.out,o.v,.slice (some ⟨b27,0,none⟩) (gv.l+1) (gv.l+1),.int .i64 (cL (gv.gr.sizesF W R Hi)).2.1,.int .i64 gv.gr.macs,.int .u32 gv.gr.hash]:=by rw[epv];rfl
    refine cG (vs:=pv.cells) S 0 rfl rfl (bC rfl) ?_|>fun H=>(by rw[ec] at H;exact H)
    intro g9 _ S
    dsimp only[List.set] at S
    refine aQ S 0 rfl (x:=pv.t) rfl ?_
    refine HQ _ _ ⟨pv,_,rfl,S.fra,he.symm,fun h=>absurd rfl h,fun _=> ?_⟩
    subst epv
    exact⟨rfl,hok,ook,eo,by rw[hgn],by rw[eat],rfl,rfl,rfl,fun x hx=>⟨rw1 x (by omega),by rw[erm];exact rmv x (by omega)⟩,b27,rfl,GQ (S.pw [2,3,4,7,5])⟩
end
end Go.Proofs.YtdhpmegbmjoekaaGreatDoor.G
end
section
namespace Go.Proofs.YtdhpmegbmjoekaaGreatDoor.G
open Go Go.Sh
set_option linter.unusedVariables false
set_option linter.unusedSimpArgs false
def PB (g:Gr) (W W' R' Hi':Int→Int) (h:ae) (v:Value) (h':ae):Prop:=
 ((g.ranges W).isSome=false∧v= .tuple #[Pv.zero.v,.int .i64 16]∧cu no h h')∨((g.ranges W).isSome=true∧PA (cR g) W' R' Hi' h v h')
section
variable {h:ae} {s:List UInt8} {W R W' R' Lo' Hi':Int→Int} {pos pos':Int→Nat}
theorem DM (hs:s.length<2 ^ 60) (hT:KT h) (he:(tQ s).2=0) (rt:bJ (tQ s).1 W R pos) (rt':bJ (cR (tQ s).1) W' R' pos') (rc':Reach (cR (tQ s).1).nodes R' Lo' Hi'):
 aq P fO #[.string (str s)] h (PB (tQ s).1 W W' R' Hi' h):=by
 refine mV _ ?_
 unfold tT
 have S:=(aK.start h no).read (blk 0 (az aS)) hT
 refine aC (cs:=Pv.zero.cells) S (fun b1 _ _ S=> ?_)
 dsimp only[List.nil_append,List.cons_append] at S
 refine(DP (by omega)).mono ?_
 rintro _ g1 ⟨gv,rfl,gok,egr,S1⟩
 rw[←egr] at rt rt' rc' ⊢
 replace S:=S.add S1 fun _ _ h=>h
 dsimp only[List.cons_append,List.nil_append] at S
 refine jQ gv.t ⟨_,rfl,?_⟩
 refine aC (cs:=aP bP (zT bP)) S fun b7 g2 _ S=> ?_
 dsimp only[List.cons_append,List.nil_append] at S
 refine cG S 3 rfl rfl (bC rfl) fun g3 _ S=> ?_
 dsimp only[List.set] at S
 have gs:=rt.sizes gok
 refine bj (fun h=>absurd he h) (fun _=> ?_)
 refine aQ S 3 rfl (x:=gv.t) rfl ?_
 refine(EG gok (S.own 1 rfl).row (S.w 2 _ rfl) gs (S.r 0 _ rfl) rt).mono ?_
 rintro _ g4 ⟨⟨q,m,d,rfl⟩,F⟩
 replace S:=S.fra0 F
 refine⟨_,_,_,_,rfl,?_⟩
 cases hb:(gv.gr.ranges W).isSome with
 |false=>
  refine bj (fun _=> ?_) (fun h=>absurd h (by decide))
  refine cG S 0 rfl rfl (show ∀y∈Pv.zero.cells,mC y=true from bC rfl) fun g5 _ S=> ?_
  dsimp only[List.set] at S
  exact aQ S 0 rfl (x:=Pv.zero.t) rfl (.inl ⟨hb,rfl,S.fra⟩)
 |true=>
  refine bj (fun h=>absurd rfl h) (fun _=> ?_)
  refine aQ S 3 rfl (x:=gv.t) rfl ?_
  refine(Pm Ip gok (S.own 1 rfl).row (S.w 2 _ rfl) gs.1 (fun n hm=>by have:=gs.2 n hm;omega) (S.r 0 _ rfl)).mono ?_
  rintro _ g5 ⟨gv',rfl,egr',ok',S1⟩
  replace S:=S.add S1 fun _ _ h=>h
  dsimp only[List.cons_append,List.nil_append] at S
  refine jQ gv'.t ⟨rfl,?_⟩
  refine cG S 3 rfl rfl (bC rfl) fun g6 _ S=> ?_
  dsimp only[List.set] at S
  rw[←egr'] at rt' rc'
  exact LU ok' rt' rc' (fun v h' H=> .inr ⟨hb,by rw[egr'] at H;exact H⟩) (S.pw [0,3,4,5,6])
theorem LV {p:Option Addr} {l c:Nat} {L:List Int} (hx:bT h p (az L)) (hL:L.length=l) (hlc:l≤c) (hl:l<2 ^ 62) (more:Int):
 aq P mj #[.slice p l c,.int .i64 more] h fun v h'=> ∃g:Gr,Bj g∧v= .string (str (fi++g.enc))∧cu no h h':=by
 refine AF _ _ _ _ ?_
 unfold B8
 refine(Nt hx hL hlc hl more).mono ?_
 rintro _ g1 ⟨gv,rfl,gok,mg,_,_,S⟩
 obtain⟨W,R,pos,rt⟩:=mg.right
 refine jQ gv.t ⟨rfl,?_⟩
 refine(FL (S.own 0 rfl).row (S.w 1 _ rfl) gok rt.fits.2).mono ?_
 rintro _ g2 ⟨rfl,F⟩
 refine⟨_,_,rfl,gv.gr,mg,?_,S.fra.trans F⟩
 unfold Gr.out2
 rw[if_pos rt.fits.1]
end
end Go.Proofs.YtdhpmegbmjoekaaGreatDoor.G
end
