/- Contracts: a frame of a node, of frames (earshotref17): Frame. -/
import Derived.Test.YtbgplllcjhgdhaaGreatDoorCKeep3
namespace Go.Proofs.YtbgplllcjhgdhaaGreatDoor.G
open Go Go.Sh
set_option linter.unusedVariables false
set_option linter.unusedSimpArgs false
def SlQ (xs:List Int) (h:Heap) (v:Value) (h':Heap):Prop:= ∃s:Sl,v=s.v∧s.ok∧s.l<2 ^ 40∧s.xs=xs∧Sep h no h' [s.row] []
theorem SlQ.of_own {h h':Heap} {q:Option Addr} {m d:Nat} {xs:List Int} (S:Sep h no h' [own 1 q m d (ints xs)] []) (hm:xs.length=m) (hb:m<2 ^ 40):SlQ xs h (.slice q m d) h':=by
 have hd:=(S.own 0 rfl).2.1
 exact⟨⟨q,m,d,xs⟩,rfl,⟨hm,hd⟩,hb,rfl,S.turn 0 rfl _ (fun o=>Own.row o) fun b ⟨_,a,ha,hb⟩=>⟨a,ha,hb⟩⟩
theorem SlQ.nil {h h':Heap} {W R:List Fact} (S:Sep h no h' W R):SlQ [] h (.slice none 0 0) h':=by
 refine SlQ.of_own (m:=0) ?_ rfl (by decide)
 have:=(noR (S.pw [])).nil 1
 exact this
section
variable {h:Heap}
theorem Frame17_ok {nv:Nv} (hok:nv.ok) (hr:nv.rows.P h) (hli:nv.inn.l<2 ^ 62) (hlw:nv.weights.l<2 ^ 40) (hlb:nv.bias.l<2 ^ 40) {p:Option Addr} {l c:Nat} {ss:List Sl} (F:Frs h p l ss) (hl:l<2 ^ 40):
 callP P n_ref17_Frame #[nv.v,.slice p l c] h (SlQ (frameF nv.nd (fsOf ss)) h):=by
 refine call_ref17_Frame _ _ _ _ ?_
 unfold ref17_Frame
 have S:=(((Sep.start h no).read (row p (slv ss)) F.row).read (srows ss) F.rows).read nv.rows hr
 have hlen:=F.len
 have hfl:(fsOf ss).length=l:=by rw[fsOf_length];exact hlen
 have frs: ∀{g:Heap} {W:List Fact},Sep h no g W [row p (slv ss),srows ss,nv.rows]→Frs g p l ss:=fun S=>⟨S.row 0 rfl,S.r 1 _ rfl,hlen,F.ok⟩
 have nrow: ∀{g:Heap} {W:List Fact},Sep h no g W [row p (slv ss),srows ss,nv.rows]→nv.rows.P g:=fun S=>S.r 2 _ rfl
 refine newI_S (cs:=nv.cells) S fun b1 h1 _ S=> ?_
 dsimp only[List.nil_append,List.cons_append] at S
 refine ldAg_S S 0 rfl (x:=nv.t) rfl ?_
 refine(may17_ok hok (nrow S) hli (by omega) (by omega) (frs S) hl).mono ?_
 rintro _ h4 ⟨rfl,Fr⟩
 replace S:=S.fra0 Fr
 refine⟨_,rfl,ifB_not (ifB_dec (fun hm=> ?_) (fun hm=>by
  have e:frameF nv.nd (fsOf ss)=[]:=by unfold frameF;rw[if_neg hm]
  rw[e]
  exact SlQ.nil S))⟩
 have hk:nv.nd.kind=nv.kind:=rfl
 have hpos:=hm.2.2.2.1
 have hwd:=may_wide' hm
 obtain⟨s0,es0⟩: ∃s,ss[0]? =some s:=⟨_,List.getElem?_eq_getElem (by omega)⟩
 have s0mem:=List.mem_of_getElem? es0
 have s0ok:=F.ok s0 s0mem
 have s0len:s0.xs.length=s0.l:=s0ok.1.1
 have hg0:(fsOf ss).getD 0 []=s0.xs:=by rw[List.getD_eq_getElem?_getD,fsOf_get es0];rfl
 rw[hg0,s0len] at hwd
 have eF:frameF nv.nd (fsOf ss)=if wei nv.kind then weighedF nv.nd (fsOf ss) else if nv.kind=8 then(fsOf ss).flatten else if nv.kind=11 then[(mostI s0.xs:Int)] else eachF nv.nd (fsOf ss):=by
  unfold frameF;rw[if_pos hm,hg0,hk]
 have wei':wei nv.kind→ ∀{g:Heap},Sep h no g [blk b1 nv.cells] [row p (slv ss),srows ss,nv.rows]→ldAg A2 g ⟨b1,0,none⟩ fun x71=>callSlice P n_ref17_weighed #[(agS A2 x71),(.slice p l c)] g fun p73 l73 c73 h72=>SlQ (frameF nv.nd (fsOf ss)) h (.slice p73 l73 c73) h72:=by
  intro hw g S
  refine ldAg_S S 0 rfl (x:=nv.t) rfl ?_
  refine(weighed17_ok hok (nrow S) hlw hlb (frs S) hl hm hw).mono ?_
  rintro _ g2 ⟨q,m,d,rfl,hml,S1⟩
  refine⟨_,_,_,rfl,?_⟩
  rw[eF,if_pos hw]
  replace S:=S.add S1 fun _ _ h=>h
  dsimp only[List.cons_append,List.nil_append] at S
  have hbl:(weighedF nv.nd (fsOf ss)).length=nv.bias.l:=by
   have:nv.nd.bias.length=nv.bias.l:=hok.2.2.1
   unfold weighedF
   rw[List.length_map,List.length_range,this]
  exact SlQ.of_own (noR (S.pw [1])) hml.symm (by omega)
 refine⟨fun s g=>s=((p,l,c),⟨b1,0,none⟩,(none,0,0),())∧ ¬wei nv.kind∧nv.kind≠8∧nv.kind≠11∧Sep h no g [blk b1 nv.cells] [row p (slv ss),srows ss,nv.rows],?_,?_⟩
 ·clear S
  rintro s g ⟨rfl,nw,n8,n11,S⟩
  rw[if_neg nw,if_neg n8,if_neg n11] at eF
  rw[eF]
  have heq:=may_eq hm n8
  rw[hg0,s0len] at heq
  have hks: ∀s∈ss,s.l=s0.l:=fun s hs=>by
   have h1:=heq s.xs (List.mem_map_of_mem hs)
   have h2:=(F.ok s hs).1.1
   omega
  unfold ref17_Frame_j18
  have eE:eachF nv.nd (fsOf ss)=(List.range s0.l).map fun k=>eachI nv.nd ((fsOf ss).map fun f=>f.getD k 0):=by unfold eachF;rw[hg0,s0len]
  rw[eE]
  replace S:=S.nil 1
  dsimp only[List.nil_append,List.cons_append] at S
  refine LoopS_i (fun mm s g=> ∃(t:Nat) (q:Option Addr) (m d:Nat),s=((p,l,c),⟨b1,0,none⟩,(q,m,d),(t:Int),())∧t≤s0.l∧mm=s0.l-t∧m=t∧
   Sep h no g [blk b1 nv.cells,own 1 q m d (ints ((List.range t).map fun k=>eachI nv.nd ((fsOf ss).map fun f=>f.getD k 0)))] [row p (slv ss),srows ss,nv.rows]) s0.l ⟨0,none,0,0,rfl,by omega,rfl,rfl,S⟩ ?_
  clear S
  rintro mm s g ⟨t,q,m,d,rfl,ht,rfl,rfl,S⟩
  unfold ref17_Frame_l19
  simp only[add_mk,Nat.zero_add]
  obtain⟨a,ea⟩:=(S.row 0 rfl).some_of (by rw[slv_length];omega)
  have ld0:cellH g (a.add 0)=some s0.v:=by
   have:=S.row 0 rfl
   rw[ea] at this
   exact this.cell (slv_get es0)
  refine idxI_i ea (k:=0) rfl (by omega) (ldSlice_i (p:=s0.p) (l:=s0.l) (c:=s0.c) ld0 ?_)
  refine ifB_dec (fun hlt=> ?_) (fun hge=> ?_)
  ·have hms:m<s0.l:=by omega
   refine(column17_ok (frs S) hl (k:=m) (fun s hs=>by rw[hks s hs];exact hms)).mono ?_
   rintro _ g2 ⟨q2,d2,rfl,S1⟩
   replace S:=S.add S1 fun _ _ h=>h
   dsimp only[List.cons_append,List.nil_append] at S
   refine⟨_,_,_,rfl,?_⟩
   obtain⟨col,ecol⟩: ∃col,((fsOf ss).map fun f=>f.getD m 0)=col:=⟨_,rfl⟩
   rw[ecol] at S
   have hcl:col.length=l:=by rw[←ecol,List.length_map];exact hfl
   have hc0:0<col.length:=by omega
   have cr: ∀{g:Heap} {W:List Fact} {RR:List Fact},Sep h no g W RR→W[2]? =some (own 1 q2 l d2 (ints col))→Row g q2 (ints col):=fun S e=>(S.own 2 e).row
   obtain⟨ca,eca⟩:=(cr S rfl).some_of (by rw[ints_length];omega)
   refine idxI_i eca (k:=0) rfl (by omega) ?_
   have ldc: ∀{k:Nat},k<col.length→cellH g2 (ca.add k)=some (.int .i64 (col.getD k 0)):=fun hk=>by
    have:=cr S rfl
    rw[eca] at this
    exact this.cell (ints_get (by rw[List.getElem?_eq_getElem hk,getD_eq hk]))
   have e00:(0:Int).toNat=0:=rfl
   refine ldInt_i (n:=col.getD 0 0) (by have:=ldc (k:=0) hc0;simpa using this) ?_
   have put: ∀{g3:Heap} {x:Int},x=eachI nv.nd col→Sep h no g3 [blk b1 nv.cells,own 1 q m d (ints ((List.range m).map fun k=>eachI nv.nd ((fsOf ss).map fun f=>f.getD k 0))),own 1 q2 l d2 (ints col)] [row p (slv ss),srows ss,nv.rows]→
    newI g3 (.cells #[(.int .i64 x)] 3 (0,0)) fun b20 h21=>appI 3 1 8 (.int .i64 (0:Int)) q m d (some ⟨b20,0,none⟩) 1 h21 fun p22 l22 c22 h23=>
    ∃m',m'<s0.l-m∧ ∃(t:Nat) (q:Option Addr) (m2 d:Nat),(((p,l,c),⟨b1,0,none⟩,(p22,l22,c22),(IntKind.wrap .i64 ((m:Int)+(1:Int))),()):(Option Addr×Nat×Nat)×Addr×(Option Addr×Nat×Nat)×Int×Unit)=((p,l,c),⟨b1,0,none⟩,(q,m2,d),(t:Int),())∧t≤s0.l∧m'=s0.l-t∧m2=t∧
     Sep h no h23 [blk b1 nv.cells,own 1 q m2 d (ints ((List.range t).map fun k=>eachI nv.nd ((fsOf ss).map fun f=>f.getD k 0)))] [row p (slv ss),srows ss,nv.rows]:=by
    intro g3 x hx S
    subst hx
    refine newI_S (cs:=[.int .i64 (eachI nv.nd col)]) S fun b20 h21 _ S=> ?_
    dsimp only[List.cons_append,List.nil_append] at S
    refine appI_S S 1 (ys:=ints [eachI nv.nd col]) rfl rfl (by decide) (by omega) (Row.of_at (S.at 3 rfl)) rfl vals_one fun p2 l2 c2 g4 hl2 S=> ?_
    dsimp only[List.set] at S
    have e:ints ((List.range m).map fun k=>eachI nv.nd ((fsOf ss).map fun f=>f.getD k 0))++ints [eachI nv.nd col]=ints ((List.range (m+1)).map fun k=>eachI nv.nd ((fsOf ss).map fun f=>f.getD k 0)):=by
     rw[List.range_succ,List.map_append,←ecol]
     simp only[ints,List.map_append,List.map_cons,List.map_nil]
    rw[e] at S
    rw[wrap64_in (n:=(m:Int)+1) (by omega)]
    exact⟨s0.l-(m+1),by omega,m+1,p2,l2,c2,rfl,by omega,rfl,hl2,S.pw [0,1]⟩
   have ldk:cellH g2 ⟨b1,0,none⟩=some (.int .i64 nv.kind):=S.cell 0 rfl rfl
   have eI:eachI nv.nd col=if nv.kind=3 then col.getD (mostI col) 0 else if nv.kind=5 then col.getD (mostI col) 0 else if nv.kind=4 then meanI col else if nv.kind=12 then meanI col else if nv.kind=7 then addI col
    else if nv.kind=9 then clampI (col.getD 0 0) nv.low nv.high else if nv.kind=10 then scaleI (col.getD 0 0) nv.mult nv.shift else col.getD 0 0:=rfl
   refine ldInt_i ldk (ifB_beq (fun k3=> ?_) (fun k3=> ?_))
   ·refine(most17_ok (cr S rfl) hcl hl).mono ?_
    rintro _ g3 ⟨rfl,hg3,hmo⟩
    subst hg3
    refine⟨_,rfl,?_⟩
    have hmo:=hmo (by omega)
    refine idxI_i eca (k:=mostI col) rfl hmo ?_
    simp only[Int.toNat_natCast,Nat.mul_one]
    refine ldInt_i (ldc (by omega)) ?_
    exact put (by rw[eI,if_pos k3]) S
   refine ifB_beq (fun k5=> ?_) (fun k5=> ?_)
   ·refine(most17_ok (cr S rfl) hcl hl).mono ?_
    rintro _ g3 ⟨rfl,hg3,hmo⟩
    subst hg3
    refine⟨_,rfl,?_⟩
    have hmo:=hmo (by omega)
    refine idxI_i eca (k:=mostI col) rfl hmo ?_
    simp only[Int.toNat_natCast,Nat.mul_one]
    refine ldInt_i (ldc (by omega)) ?_
    exact put (by rw[eI,if_neg k3,if_pos k5]) S
   refine ifB_beq (fun k4=> ?_) (fun k4=> ?_)
   ·refine(Mean02_ok (cr S rfl) hcl hl).mono ?_
    rintro _ g3 ⟨rfl,F3⟩
    exact⟨_,rfl,put (by rw[eI,if_neg k3,if_neg k5,if_pos k4]) (S.fra0 F3)⟩
   refine ifB_beq (fun k12=> ?_) (fun k12=> ?_)
   ·refine(Mean02_ok (cr S rfl) hcl hl).mono ?_
    rintro _ g3 ⟨rfl,F3⟩
    exact⟨_,rfl,put (by rw[eI,if_neg k3,if_neg k5,if_neg k4,if_pos k12]) (S.fra0 F3)⟩
   refine ifB_beq (fun k7=> ?_) (fun k7=> ?_)
   ·refine(Add01_ok (cr S rfl) hcl hl).mono ?_
    rintro _ g3 ⟨rfl,hg3⟩
    subst hg3
    exact⟨_,rfl,put (by rw[eI,if_neg k3,if_neg k5,if_neg k4,if_neg k12,if_pos k7]) S⟩
   refine ifB_beq (fun k9=> ?_) (fun k9=> ?_)
   ·refine ldInt_i (n:=nv.low) (S.cell 0 rfl rfl) (ldInt_i (n:=nv.high) (S.cell 0 rfl rfl) ?_)
    refine(Clamp01_ok _ _ _).mono ?_
    rintro _ g3 ⟨rfl,hg3⟩
    subst hg3
    exact⟨_,rfl,put (by rw[eI,if_neg k3,if_neg k5,if_neg k4,if_neg k12,if_neg k7,if_pos k9]) S⟩
   refine ifB_beq (fun k10=> ?_) (fun k10=> ?_)
   ·refine ldInt_i (n:=nv.mult) (S.cell 0 rfl rfl) (ldInt_i (n:=nv.shift) (S.cell 0 rfl rfl) ?_)
    refine(Scale02_ok _ _ _).mono ?_
    rintro _ g3 ⟨rfl,F3⟩
    exact⟨_,rfl,put (by rw[eI,if_neg k3,if_neg k5,if_neg k4,if_neg k12,if_neg k7,if_neg k9,if_pos k10]) (S.fra0 F3)⟩
   ·exact put (by rw[eI,if_neg k3,if_neg k5,if_neg k4,if_neg k12,if_neg k7,if_neg k9,if_neg k10]) S
  ·have:m=s0.l:=by omega
   subst this
   exact SlQ.of_own (noR (S.pw [1])) (by simp) (by omega)
 ·have ldk:cellH h4 ⟨b1,0,none⟩=some (.int .i64 nv.kind):=S.cell 0 rfl rfl
  refine ldInt_i ldk (ifB_beq (fun k1=>wei' (.inl k1) S) (fun k1=> ?_))
  refine ifB_beq (fun k2=>wei' (.inr (.inl k2)) S) (fun k2=> ?_)
  refine ifB_beq (fun k6=>wei' (.inr (.inr k6)) S) (fun k6=> ?_)
  have nw: ¬wei nv.kind:=by rintro(h|h|h);exact k1 h;exact k2 h;exact k6 h
  rw[if_neg nw] at eF
  refine ifB_beq (fun k8=> ?_) (fun k8=> ?_)
  ·rw[if_pos k8] at eF
   rw[eF]
   replace S:=S.nil 1
   dsimp only[List.nil_append,List.cons_append] at S
   have hj:l=nv.inn.l∧l≤4:=by
    have h1:=hm.1.2.2.1 (.inr k8)
    have h2:=(chk_ok hm.2.2.2.2).2.2.2.2.2.1 (.inr k8)
    have h3:=(chk_ok hm.2.2.2.2).2.2.1
    have h4:nv.nd.inn.length=nv.inn.l:=hok.1.1
    rw[hfl] at h1
    omega
   have hsl: ∀s∈ss,s.l≤16:=fun s hs=>by
    have h1:=(chk_ok hm.2.2.2.2).1
    have hwf:widthsF nv.nd (fsOf ss)=(fsOf ss).map fun f=>(f.length:Int):=by unfold widthsF;rw[if_pos (.inr k8)]
    rw[hwf] at h1
    have h2:=h1 (s.xs.length:Int) (List.mem_map.2 ⟨s.xs,List.mem_map_of_mem hs,rfl⟩)
    have h3:=(F.ok s hs).1.1
    omega
   refine LoopS_i (fun mm s g=> ∃(t:Nat) (q:Option Addr) (m d:Nat),s=((p,l,c),(q,m,d),(t:Int),())∧t≤l∧mm=l-t∧m=((fsOf ss).take t).flatten.length∧m≤t*16∧
    Sep h no g [blk b1 nv.cells,own 1 q m d (ints ((fsOf ss).take t).flatten)] [row p (slv ss),srows ss,nv.rows]) l ⟨0,none,0,0,rfl,by omega,rfl,rfl,by omega,S⟩ ?_
   clear S ldk
   rintro mm s g ⟨t,q,m,d,rfl,ht,rfl,hmm,hm16,S⟩
   unfold ref17_Frame_l12
   dsimp only
   refine ifB_dec (fun hlt=> ?_) (fun hge=> ?_)
   ·obtain⟨s,es⟩: ∃s,ss[t]? =some s:=⟨_,List.getElem?_eq_getElem (by omega)⟩
    have hmem:=List.mem_of_getElem? es
    have slen:s.xs.length=s.l:=(F.ok s hmem).1.1
    have hs16:=hsl s hmem
    have htf:t<(fsOf ss).length:=by omega
    have hft:(fsOf ss)[t]=s.xs:=by
     have:=fsOf_get es
     rw[List.getElem?_eq_getElem htf] at this;exact Option.some.inj this
    have pr:=S.row 0 rfl
    obtain⟨a,ea⟩:=pr.some_of (by rw[slv_length];omega)
    rw[ea] at pr
    refine idxI_i ea rfl (by omega) ?_
    simp only[Int.toNat_natCast,Nat.mul_one]
    refine ldSlice_i (p:=s.p) (l:=s.l) (c:=s.c) (pr.cell (slv_get es)) ?_
    have sr:Row g s.p (ints s.xs):=S.r 1 _ rfl _ (List.mem_map_of_mem hmem)
    refine appI_S S 1 (ys:=ints s.xs) rfl rfl (by decide) (by omega) sr (by rw[ints_length];omega) vals_one fun p2 l2 c2 g4 hl2 S=> ?_
    dsimp only[List.set] at S
    have e0:((fsOf ss).take (t+1)).flatten=((fsOf ss).take t).flatten++s.xs:=by rw[List.take_succ_eq_append_getElem htf,hft,List.flatten_append];simp
    have e:ints ((fsOf ss).take t).flatten++ints s.xs=ints ((fsOf ss).take (t+1)).flatten:=by rw[e0];simp only[ints,List.map_append]
    rw[e] at S
    rw[wrap64_in (n:=(t:Int)+1) (by omega)]
    exact⟨l-(t+1),by omega,t+1,p2,l2,c2,rfl,by omega,rfl,by rw[e0,List.length_append];omega,by omega,S⟩
   ·have:t=l:=by omega
    subst this
    rw[List.take_of_length_le (by omega)] at S hmm
    exact SlQ.of_own (noR (S.pw [1])) hmm.symm (by omega)
  ·rw[if_neg k8] at eF
   refine ifB_beq (fun k11=> ?_) (fun k11=>⟨rfl,nw,k8,k11,S⟩)
   rw[if_pos k11] at eF
   rw[eF]
   obtain⟨a,ea⟩:=(S.row 0 rfl).some_of (by rw[slv_length];omega)
   have ld0:cellH h4 (a.add 0)=some s0.v:=by
    have:=S.row 0 rfl
    rw[ea] at this
    exact this.cell (slv_get es0)
   refine idxI_i ea (k:=0) rfl (by omega) (ldSlice_i (p:=s0.p) (l:=s0.l) (c:=s0.c) ld0 ?_)
   have sr:Row h4 s0.p (ints s0.xs):=S.r 1 _ rfl _ (List.mem_map_of_mem s0mem)
   refine(most17_ok sr s0len (by omega)).mono ?_
   rintro _ g3 ⟨rfl,hg3,_⟩
   subst hg3
   refine⟨_,rfl,?_⟩
   refine newI_S (cs:=[.int .i64 ((mostI s0.xs:Nat):Int)]) S fun b89 h90 _ S=> ?_
   dsimp only[List.cons_append,List.nil_append] at S
   have S2:=S.toOwn 1 1 1 1 rfl (Nat.le_refl _)
   dsimp only[List.set,List.take] at S2
   exact SlQ.of_own (noR (S2.pw [1])) rfl (by decide)
end
end Go.Proofs.YtbgplllcjhgdhaaGreatDoor.G
