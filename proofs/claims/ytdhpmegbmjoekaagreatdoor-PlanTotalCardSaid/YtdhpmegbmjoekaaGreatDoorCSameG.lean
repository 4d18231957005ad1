/- Contracts: nodes and graphs that are the same (earshotref14, earshotref15). -/
import Derived.Test.YtdhpmegbmjoekaaGreatDoorCKind14d
namespace Go.Proofs.YtdhpmegbmjoekaaGreatDoor.G
open Go Go.Sh
set_option linter.unusedVariables false
set_option linter.unusedSimpArgs false
section
variable {h:ae}
def Nv.sls (n:Nv):List Sl:=[n.inn,n.weights,n.bias]
def Nd.sls (n:Nd):List (List Int):=[n.inn,n.weights,n.bias]
theorem GL (n:Nv):n.sls.map Sl.xs=n.nd.sls:=rfl
def Nv.small (n:Nv):Prop:=n.inn.l<2 ^ 62∧n.weights.l<2 ^ 62∧n.bias.l<2 ^ 62
theorem L3 {na nb:Nv} (oka:na.ok) (okb:nb.ok) (ra:na.rows.P h) (rb:nb.rows.P h) (sa:na.small):
 aq P mo #[na.v,nb.v] h fun v h'=> ∃b:Bool,v= .bool b∧(b=true↔na.nd=nb.nd)∧cu no h h':=by
 refine AH _ _ ?_
 unfold Cf
 have S:=((aK.start h no).read na.rows ra).read nb.rows rb
 refine aC S fun b1 h1 _ S=> ?_
 refine aC S fun b3 h3 _ S=> ?_
 dsimp only[List.cons_append,List.nil_append] at S
 refine am (p:=na.inn.p) (l:=na.inn.l) (c:=na.inn.c) (S.cell 0 rfl rfl) ?_
 refine am (p:=nb.inn.p) (l:=nb.inn.l) (c:=nb.inn.c) (S.cell 1 rfl rfl) ?_
 refine am (p:=na.weights.p) (l:=na.weights.l) (c:=na.weights.c) (S.cell 0 rfl rfl) ?_
 refine am (p:=nb.weights.p) (l:=nb.weights.l) (c:=nb.weights.c) (S.cell 1 rfl rfl) ?_
 refine am (p:=na.bias.p) (l:=na.bias.l) (c:=na.bias.c) (S.cell 0 rfl rfl) ?_
 refine am (p:=nb.bias.p) (l:=nb.bias.l) (c:=nb.bias.c) (S.cell 1 rfl rfl) ?_
 refine aC S (fun b11 _ _ S=> ?_)
 refine cG S 2 rfl rfl (by intro y hy;simp at hy;rcases hy with rfl|rfl|rfl|rfl|rfl|rfl<;>rfl) fun h4 _ S=> ?_
 dsimp only[List.set,List.cons_append,List.nil_append] at S
 have hsame: ∀{x y:Sl} {i:Nat},na.sls[i]? =some x→nb.sls[i]? =some y→na.nd=nb.nd→x.xs=y.xs:=by
  intro x y i hx hy e
  have e1:na.sls.map Sl.xs=nb.sls.map Sl.xs:=by rw[GL,GL,e]
  have e2:=congrArg (fun l=>l[i]?) e1
  simp only[List.getElem?_map,hx,hy,Option.map_some] at e2
  exact Option.some.inj e2
 refine aT (fun m s' g=> ∃i:Nat,s'=(⟨b1,0,none⟩,⟨b3,0,none⟩,⟨b11,0,none⟩,(i:Int),())∧i≤3∧m=3-i∧(na.sls.map Sl.xs).take i=(nb.sls.map Sl.xs).take i∧
  aK h no g [blk b1 na.cells,blk b3 nb.cells,blk b11 [na.inn.v,nb.inn.v,na.weights.v,nb.weights.v,na.bias.v,nb.bias.v]] [na.rows,nb.rows]) 3 ⟨0,rfl,by omega,rfl,rfl,S⟩ ?_
 clear S
 rintro m s' g ⟨i,rfl,hi,rfl,heq,S⟩
 unfold ve
 dsimp only
 have bad: ∀{g':ae},cu no h g'→na.nd≠nb.nd→ ∃b:Bool,Value.bool false= .bool b∧(b=true↔na.nd=nb.nd)∧cu no h g':=fun F hn=>⟨false,rfl,⟨fun h=>Bool.noConfusion h,fun h=>absurd h hn⟩,F⟩
 refine au (fun hlt=> ?_) (fun hge=> ?_)
 ·have hc: ∃x y:Sl,x∈na.sls∧y∈nb.sls∧na.sls[i]? =some x∧nb.sls[i]? =some y∧x.ok∧y.ok∧x.l<2 ^ 62∧[na.inn.v,nb.inn.v,na.weights.v,nb.weights.v,na.bias.v,nb.bias.v][i*2]? =some x.v∧[na.inn.v,nb.inn.v,na.weights.v,nb.weights.v,na.bias.v,nb.bias.v][i*2+1]? =some y.v:=by
   have:i=0∨i=1∨i=2:=by omega
   rcases this with rfl|rfl|rfl
   ·exact⟨na.inn,nb.inn,by simp[Nv.sls],by simp[Nv.sls],rfl,rfl,oka.1,okb.1,sa.1,rfl,rfl⟩
   ·exact⟨na.weights,nb.weights,by simp[Nv.sls],by simp[Nv.sls],rfl,rfl,oka.2.1,okb.2.1,sa.2.1,rfl,rfl⟩
   ·exact⟨na.bias,nb.bias,by simp[Nv.sls],by simp[Nv.sls],rfl,rfl,oka.2.2,okb.2.2,sa.2.2,rfl,rfl⟩
  obtain⟨x,y,mx,my,ex,ey,okx,oky,sx,cx,cy⟩:=hc
  have rx:bT g x.p (az x.xs):=S.r 0 na.rows rfl x.row (List.mem_map_of_mem (f:=Sl.row) mx)
  have ry:bT g y.p (az y.xs):=S.r 1 nb.rows rfl y.row (List.mem_map_of_mem (f:=Sl.row) my)
  refine ig (by omega) (by omega) (ig (by decide) (by decide) ?_)
  simp only[Int.toNat_natCast,Int.toNat_zero,Int.toNat_one,Nat.zero_mul,Nat.one_mul,Nat.mul_one,aY,Nat.zero_add,Nat.add_zero]
  refine am (p:=x.p) (l:=x.l) (c:=x.c) (S.cell 2 rfl cx) (ig (by omega) (by omega) (ig (by decide) (by decide) ?_))
  refine am (p:=y.p) (l:=y.l) (c:=y.c) (S.cell 2 rfl cy) ?_
  refine bj (fun hne=>bad S.fra fun e=> ?_) (fun hll=> ?_)
  ·have:=congrArg List.length (hsame ex ey e)
   have h1:=okx.1
   have h2:=oky.1
   omega
  have h1:=okx.1
  have h2:=oky.1
  refine aT (fun m s' g'=>g'=g∧ ∃j:Nat,s'=(⟨b1,0,none⟩,⟨b3,0,none⟩,⟨b11,0,none⟩,(i:Int),(x.p,x.l,x.c),(y.p,y.l,y.c),(j:Int),())∧j≤x.l∧m=x.l-j∧x.xs.take j=y.xs.take j) x.l ⟨rfl,0,rfl,by omega,rfl,rfl⟩ ?_
  rintro m s' g' ⟨rfl,j,rfl,hj,rfl,hjeq⟩
  unfold sU
  dsimp only
  refine au (fun hjl=> ?_) (fun hjg=> ?_)
  ·have hjx:j<x.xs.length:=by omega
   have hjy:j<y.xs.length:=by omega
   obtain⟨ax,eax⟩:=rx.some_of (by rw[aB];omega)
   obtain⟨ay,eay⟩:=ry.some_of (by rw[aB];omega)
   have rx':=rx
   have ry':=ry
   rw[eax] at rx'
   rw[eay] at ry'
   refine aG eax rfl (by omega) (aG eay rfl (by omega) ?_)
   simp only[Int.toNat_natCast,Nat.mul_one]
   refine af (rx'.cell (aN (List.getElem?_eq_getElem hjx))) (af (ry'.cell (aN (List.getElem?_eq_getElem hjy))) ?_)
   refine bj (fun hne=>bad S.fra fun e=> ?_) (fun heq2=> ?_)
   ·have e1:=hsame ex ey e
    exact hne (by congr 1)
   ·rw[al (by omega)]
    refine⟨x.l-(j+1),by omega,by trivial,j+1,rfl,by omega,rfl,?_⟩
    rw[List.take_succ_eq_append_getElem hjx,List.take_succ_eq_append_getElem hjy,hjeq,heq2]
  ·rw[al (by omega)]
   refine⟨3-(i+1),by omega,i+1,rfl,by omega,rfl,?_,S⟩
   have hx3:i<(na.sls.map Sl.xs).length:=by show i<3;omega
   have hy3:i<(nb.sls.map Sl.xs).length:=by show i<3;omega
   rw[List.take_succ_eq_append_getElem hx3,List.take_succ_eq_append_getElem hy3,heq]
   have ej:x.xs=y.xs:=by
    rw[List.take_of_length_le (by omega),List.take_of_length_le (by omega)] at hjeq;exact hjeq
   have e1:(na.sls.map Sl.xs)[i]=x.xs:=by
    have:(na.sls.map Sl.xs)[i]? =some x.xs:=by rw[List.getElem?_map,ex];rfl
    exact(List.getElem?_eq_some_iff.1 this).2
   have e2:(nb.sls.map Sl.xs)[i]=y.xs:=by
    have:(nb.sls.map Sl.xs)[i]? =some y.xs:=by rw[List.getElem?_map,ey];rfl
    exact(List.getElem?_eq_some_iff.1 this).2
   exact congrArg (fun z=>List.take i (nb.sls.map Sl.xs)++[z]) (e1.trans (ej.trans e2.symm))
 ·have hi3:i=3:=by omega
  subst hi3
  have he:na.nd.sls=nb.nd.sls:=by
   rw[List.take_of_length_le (by exact Nat.le_refl 3),List.take_of_length_le (by exact Nat.le_refl 3)] at heq
   rw[←GL,←GL];exact heq
  unfold Nd.sls at he
  simp only[List.cons.injEq,and_true] at he
  obtain⟨ei,ew,eb⟩:=he
  refine af (n:=na.kind) (S.cell 0 rfl rfl) (af (n:=nb.kind) (S.cell 1 rfl rfl) (aO (fun e1=> ?_) (fun ne=>bad S.fra (fun e=>ne (congrArg Nd.kind e)))))
  refine af (n:=na.width) (S.cell 0 rfl rfl) (af (n:=nb.width) (S.cell 1 rfl rfl) (aO (fun e2=> ?_) (fun ne=>bad S.fra (fun e=>ne (congrArg Nd.width e)))))
  refine af (n:=na.size) (S.cell 0 rfl rfl) (af (n:=nb.size) (S.cell 1 rfl rfl) (aO (fun e3=> ?_) (fun ne=>bad S.fra (fun e=>ne (congrArg Nd.size e)))))
  refine af (n:=na.step) (S.cell 0 rfl rfl) (af (n:=nb.step) (S.cell 1 rfl rfl) (aO (fun e4=> ?_) (fun ne=>bad S.fra (fun e=>ne (congrArg Nd.step e)))))
  refine af (n:=na.gap) (S.cell 0 rfl rfl) (af (n:=nb.gap) (S.cell 1 rfl rfl) (aO (fun e5=> ?_) (fun ne=>bad S.fra (fun e=>ne (congrArg Nd.gap e)))))
  refine af (n:=na.left) (S.cell 0 rfl rfl) (af (n:=nb.left) (S.cell 1 rfl rfl) (aO (fun e6=> ?_) (fun ne=>bad S.fra (fun e=>ne (congrArg Nd.left e)))))
  refine af (n:=na.right) (S.cell 0 rfl rfl) (af (n:=nb.right) (S.cell 1 rfl rfl) (aO (fun e7=> ?_) (fun ne=>bad S.fra (fun e=>ne (congrArg Nd.right e)))))
  refine af (n:=na.mult) (S.cell 0 rfl rfl) (af (n:=nb.mult) (S.cell 1 rfl rfl) (aO (fun e8=> ?_) (fun ne=>bad S.fra (fun e=>ne (congrArg Nd.mult e)))))
  refine af (n:=na.shift) (S.cell 0 rfl rfl) (af (n:=nb.shift) (S.cell 1 rfl rfl) (aO (fun e9=> ?_) (fun ne=>bad S.fra (fun e=>ne (congrArg Nd.shift e)))))
  refine af (n:=na.low) (S.cell 0 rfl rfl) (af (n:=nb.low) (S.cell 1 rfl rfl) (aO (fun e10=> ?_) (fun ne=>bad S.fra (fun e=>ne (congrArg Nd.low e)))))
  refine af (n:=na.high) (S.cell 0 rfl rfl) (af (n:=nb.high) (S.cell 1 rfl rfl) (aO (fun e11=> ?_) (fun ne=>bad S.fra (fun e=>ne (congrArg Nd.high e)))))
  refine af (n:=na.post) (S.cell 0 rfl rfl) (af (n:=nb.post) (S.cell 1 rfl rfl) ?_)
  refine⟨_,rfl,?_,S.fra⟩
  rw[beq_iff_eq]
  exact⟨fun e12=>Nd.ext' e1 ei e2 e3 e4 e5 e6 e7 ew eb e8 e9 e10 e11 e12,fun e=>congrArg Nd.post e⟩
theorem L4 {ga gb:Gv} (oka:ga.ok) (okb:gb.ok) (ra:bT h ga.p (aF ga.ns)) (na:(aZ ga.ns).P h) (rb:bT h gb.p (aF gb.ns)) (nb:(aZ gb.ns).P h) (hl:ga.l<2 ^ 62) (sa: ∀n∈ga.ns,n.small):
 aq P mq #[ga.v,gb.v] h fun v h'=> ∃b:Bool,v= .bool b∧(b=true↔ga.gr=gb.gr)∧cu no h h':=by
 refine AJ _ _ ?_
 unfold Ch
 have S:=((((aK.start h no).read ga.nrow ra).read (aZ ga.ns) na).read gb.nrow rb).read (aZ gb.ns) nb
 refine aC S fun b1 h1 _ S=> ?_
 refine aC S fun b3 h3 _ S=> ?_
 dsimp only[List.cons_append,List.nil_append] at S
 have bad: ∀{g':ae},cu no h g'→ga.gr≠gb.gr→ ∃b:Bool,Value.bool false= .bool b∧(b=true↔ga.gr=gb.gr)∧cu no h g':=fun F hn=>⟨false,rfl,⟨fun h=>Bool.noConfusion h,fun h=>absurd h hn⟩,F⟩
 refine⟨fun s' g=>s'=(⟨b1,0,none⟩,⟨b3,0,none⟩,())∧(ga.width=gb.width∧ga.low=gb.low∧ga.high=gb.high∧ga.out=gb.out∧ga.l=gb.l)∧aK h no g [blk b1 ga.cells,blk b3 gb.cells] [ga.nrow,aZ ga.ns,gb.nrow,aZ gb.ns],?_,?_⟩
 ·clear S
  rintro s' g ⟨rfl,⟨ew,el,eh,eo,ell⟩,S⟩
  unfold vg
  dsimp only
  refine aT (fun m s' g=> ∃i:Nat,s'=(⟨b1,0,none⟩,⟨b3,0,none⟩,(i:Int),())∧i≤ga.l∧m=ga.l-i∧(ga.ns.map Nv.nd).take i=(gb.ns.map Nv.nd).take i∧
   aK h no g [blk b1 ga.cells,blk b3 gb.cells] [ga.nrow,aZ ga.ns,gb.nrow,aZ gb.ns]) ga.l ⟨0,rfl,by omega,rfl,rfl,S⟩ ?_
  clear S
  rintro m s' g ⟨i,rfl,hi,rfl,heq,S⟩
  unfold vf
  dsimp only
  have hla:=oka.1
  have hlb:=okb.1
  refine am (p:=ga.p) (l:=ga.l) (c:=ga.c) (S.cell 0 rfl rfl) ?_
  refine au (fun hlt=> ?_) (fun hge=> ?_)
  ·have hia:i<ga.ns.length:=by omega
   have hib:i<gb.ns.length:=by omega
   have rx:bT g ga.p (aF ga.ns):=S.r 0 _ rfl
   have ry:bT g gb.p (aF gb.ns):=S.r 2 _ rfl
   obtain⟨ax,eax⟩:=rx.some_of (by rw[bY];omega)
   obtain⟨ay,eay⟩:=ry.some_of (by rw[bY];omega)
   rw[eax] at rx
   rw[eay] at ry
   refine am (p:=ga.p) (l:=ga.l) (c:=ga.c) (S.cell 0 rfl rfl) (aG eax rfl (by omega) ?_)
   simp only[Int.toNat_natCast]
   refine kD rx (List.getElem?_eq_getElem hia) ?_
   refine am (p:=gb.p) (l:=gb.l) (c:=gb.c) (S.cell 1 rfl rfl) (aG eay rfl (by omega) (kD ry (List.getElem?_eq_getElem hib) ?_))
   have ma:=List.getElem_mem hia
   have mb:=List.getElem_mem hib
   refine(L3 (oka.2.2 _ ma) (okb.2.2 _ mb) (S.r 1 _ rfl _ (List.mem_map_of_mem (f:=Nv.rows) ma)) (S.r 3 _ rfl _ (List.mem_map_of_mem (f:=Nv.rows) mb)) (sa _ ma)).mono ?_
   rintro _ g2 ⟨b,rfl,hb,F⟩
   refine⟨_,rfl,?_⟩
   replace S:=S.fra0 F
   refine bf (S.cell 0 rfl rfl) ?_
   refine bN (tz (fun eb=> ?_) (fun eb=> ?_))
   ·rw[al (by omega)]
    refine⟨ga.l-(i+1),by omega,i+1,rfl,by omega,rfl,?_,S⟩
    rw[List.take_succ_eq_append_getElem (by rw[List.length_map];omega),List.take_succ_eq_append_getElem (by rw[List.length_map];omega),heq,List.getElem_map,List.getElem_map,hb.1 eb]
   ·refine bad S.fra fun e=> ?_
    have e1:=congrArg (fun g=>g.nodes[i]?) e
    simp only[Gv.gr,List.getElem?_map,List.getElem?_eq_getElem hia,List.getElem?_eq_getElem hib,Option.map_some,Option.some.injEq] at e1
    rw[hb.2 e1] at eb
    cases eb
  ·refine⟨true,rfl,⟨fun _=> ?_,fun _=>rfl⟩,S.fra⟩
   rw[List.take_of_length_le (by rw[List.length_map];omega),List.take_of_length_le (by rw[List.length_map];omega)] at heq
   unfold Gv.gr
   rw[ew,el,eh,eo,heq]
 ·refine af (n:=ga.width) (S.cell 0 rfl rfl) (af (n:=gb.width) (S.cell 1 rfl rfl) (bj (fun ne=>bad S.fra (fun e=>ne (congrArg Gr.width e))) (fun e1=> ?_)))
  refine af (n:=ga.low) (S.cell 0 rfl rfl) (af (n:=gb.low) (S.cell 1 rfl rfl) (bj (fun ne=>bad S.fra (fun e=>ne (congrArg Gr.low e))) (fun e2=> ?_)))
  refine af (n:=ga.high) (S.cell 0 rfl rfl) (af (n:=gb.high) (S.cell 1 rfl rfl) (bj (fun ne=>bad S.fra (fun e=>ne (congrArg Gr.high e))) (fun e3=> ?_)))
  refine af (n:=ga.out) (S.cell 0 rfl rfl) (af (n:=gb.out) (S.cell 1 rfl rfl) (bj (fun ne=>bad S.fra (fun e=>ne (congrArg Gr.out e))) (fun e4=> ?_)))
  refine am (p:=ga.p) (l:=ga.l) (c:=ga.c) (S.cell 0 rfl rfl) ?_
  refine am (p:=gb.p) (l:=gb.l) (c:=gb.c) (S.cell 1 rfl rfl) ?_
  refine bj (fun ne=>bad S.fra (fun e=>ne ?_)) (fun e5=>⟨rfl,⟨e1,e2,e3,e4,by omega⟩,S⟩)
  have e1:=congrArg (fun g=>g.nodes.length) e
  simp only[Gv.gr,List.length_map,oka.1,okb.1] at e1
  omega
end
end Go.Proofs.YtdhpmegbmjoekaaGreatDoor.G
