/- Contracts: a frame of a node, of frames (earshotref17): weighed, Frame. -/
import Derived.Test.YtbgplllcjhgdhaaGreatDoorCKeep2
import Derived.Test.YtbgplllcjhgdhaaGreatDoorCKindP3
namespace Go.Proofs.YtbgplllcjhgdhaaGreatDoor.G
open Go Go.Sh
set_option linter.unusedVariables false
set_option linter.unusedSimpArgs false
def wk (n:Nd) (fs:List (List Int)) (m w c j:Nat) (x:Int):Nat→Int
 |0=>x
 |k+1=>if n.kind≠2 then w64 (wk n fs m w c j x k+w64 (n.weights.getD ((c*m+j)*w+k) 0*(fs.getD j []).getD k 0))
  else if(k:Int)=(c:Int) then w64 (wk n fs m w c j x k+w64 (n.weights.getD (c*m+j) 0*(fs.getD j []).getD k 0)) else wk n fs m w c j x k
def wj (n:Nd) (fs:List (List Int)) (m w c:Nat):Nat→Int
 |0=>n.bias.getD c 0
 |j+1=>wk n fs m w c j (wj n fs m w c j) w
def weighedF (n:Nd) (fs:List (List Int)):List Int:=(List.range n.bias.length).map fun c=>postI n (wj n fs fs.length (fs.getD 0 []).length c fs.length)
def eachI (n:Nd) (l:List Int):Int:=
 if n.kind=3 then l.getD (mostI l) 0 else if n.kind=5 then l.getD (mostI l) 0 else if n.kind=4 then meanI l else if n.kind=12 then meanI l else if n.kind=7 then addI l
 else if n.kind=9 then clampI (l.getD 0 0) n.low n.high else if n.kind=10 then scaleI (l.getD 0 0) n.mult n.shift else l.getD 0 0
def eachF (n:Nd) (fs:List (List Int)):List Int:=(List.range (fs.getD 0 []).length).map fun k=>eachI n (fs.map fun f=>f.getD k 0)
def frameF (n:Nd) (fs:List (List Int)):List Int:=
 if mayF n fs then if wei n.kind then weighedF n fs else if n.kind=8 then fs.flatten else if n.kind=11 then[(mostI (fs.getD 0 []):Int)] else eachF n fs else[]
theorem may_eq {n:Nd} {fs:List (List Int)} (h:mayF n fs) (h8:n.kind≠8): ∀f∈fs,f.length=(fs.getD 0 []).length:=by
 by_cases hm:many n.kind
 ·have h7:n.kind=7:=by rcases hm with h|h;exact h;exact absurd h h8
  obtain⟨_,_,_,hpos,hc⟩:=h
  have hw:widthsF n fs=fs.map fun f=>(f.length:Int):=by unfold widthsF;rw[if_pos hm]
  rw[hw] at hc
  have hall:=(chk_ok hc).2.2.2.2.2.2.2.2.2.2.1 h7
  have hd:(fs.map fun f=>(f.length:Int)).getD 0 0=((fs.getD 0 []).length:Int):=by
   cases fs with
   |nil=>simp at hpos
   |cons a r=>rfl
  intro f hf
  have:=hall (f.length:Int) (List.mem_map.2 ⟨f,hf,rfl⟩)
  rw[hd] at this
  omega
 ·exact h.2.2.1 hm
theorem may_wide {n:Nd} {fs:List (List Int)} (h:mayF n fs):(1≤(fs.getD 0 []).length∧(fs.getD 0 []).length≤16)∧fs.length≤2 ^ 40∨(1≤(fs.getD 0 []).length∧(fs.getD 0 []).length≤16):=by
 obtain⟨_,_,_,hpos,hc⟩:=h
 have hf:=(chk_ok hc).1
 right
 have hm:((fs.getD 0 []).length:Int)∈widthsF n fs:=by
  cases fs with
  |nil=>simp at hpos
  |cons a r=>
   unfold widthsF
   split
   ·simp
   ·simp
 have:=hf _ hm
 omega
theorem may_wide' {n:Nd} {fs:List (List Int)} (h:mayF n fs):1≤(fs.getD 0 []).length∧(fs.getD 0 []).length≤16:=by
 rcases may_wide h with h|h
 ·exact h.1
 ·exact h
theorem may_weights {n:Nd} {fs:List (List Int)} (h:mayF n fs) (hw:wei n.kind):(n.kind≠2→n.weights.length=n.bias.length*fs.length*(fs.getD 0 []).length)∧(n.kind=2→n.weights.length=n.bias.length*fs.length∧n.bias.length=(fs.getD 0 []).length):=by
 have hwd:=may_wide' h
 obtain⟨hcc,_,_,hpos,hc⟩:=h
 have nm: ¬many n.kind:=by rintro(h|h)<;>rcases hw with h2|h2|h2<;>omega
 have hwf:widthsF n fs=[((fs.getD 0 []).length:Int)]:=by
  unfold widthsF
  rw[if_neg nm]
  cases fs with
  |nil=>simp at hpos
  |cons a r=>rfl
 rw[hwf] at hc
 have hs:=(chk_ok hc).2.2.2.2.2.2.2.2.2.1.2.2.2.1 hw
 have hwi:=(chk_ok hc).2.2.2.2.2.2.2.2.2.1.2.2.1
 obtain⟨s1,s2,_⟩:=hs
 obtain⟨w,ew⟩: ∃w,(fs.getD 0 []).length=w:=⟨_,rfl⟩
 rw[ew] at s1 s2 hwd ⊢
 have e0:([(w:Int)]:List Int).getD 0 0=(w:Int):=rfl
 rw[e0] at s1 s2
 unfold Nd.wcount at s1
 rcases hw with k|k|k
 ·have hm:=hcc.1 (.inl (.inl k))
  rw[if_pos k] at s1
  rw[if_neg (by omega)] at s2
  refine⟨fun _=> ?_,fun h=>by omega⟩
  rw[←s2,←hm] at s1
  exact_mod_cast s1
 ·have hm:=hcc.1 (.inl (.inr (.inl k)))
  rw[if_neg (by omega),if_pos k] at s1
  rw[if_pos k] at s2
  refine⟨fun h=>absurd k h,fun _=> ?_⟩
  rw[←s2,←hm] at s1
  exact⟨by exact_mod_cast s1,by omega⟩
 ·have hm:=hcc.2.2.2 (by rintro(h|h);rcases h with h|h|h|h<;>omega;omega) nm (by omega)
  rw[if_neg (by omega),if_neg (by omega)] at s1
  rw[if_neg (by omega)] at s2
  refine⟨fun _=> ?_,fun h=>by omega⟩
  rw[hm,Nat.mul_one]
  rw[←s2] at s1
  exact_mod_cast s1
theorem idx_lt {c B j m k w:Nat} (hc:c<B) (hj:j<m) (hk:k<w):c*m+j<B*m∧(c*m+j)*w+k<B*m*w:=by
 have h1:c*m+j<B*m:=by
  have:(c+1)*m≤B*m:=Nat.mul_le_mul_right m hc
  rw[Nat.add_mul,Nat.one_mul] at this
  omega
 refine⟨h1,?_⟩
 have:(c*m+j+1)*w≤B*m*w:=Nat.mul_le_mul_right w h1
 rw[Nat.add_mul (c*m+j) 1 w,Nat.one_mul] at this
 omega
section
variable {h:Heap}
theorem weighed17_ok {nv:Nv} (hok:nv.ok) (hr:nv.rows.P h) (hlw:nv.weights.l<2 ^ 40) (hlb:nv.bias.l<2 ^ 40) {p:Option Addr} {l c:Nat} {ss:List Sl} (F:Frs h p l ss) (hl:l<2 ^ 40) (hm:mayF nv.nd (fsOf ss)) (hw:wei nv.kind):
 callP P n_ref17_weighed #[nv.v,.slice p l c] h fun v h'=> ∃(q:Option Addr) (m d:Nat),v= .slice q m d∧m=(weighedF nv.nd (fsOf ss)).length∧Sep h no h' [own 1 q m d (ints (weighedF nv.nd (fsOf ss)))] []:=by
 refine call_ref17_weighed _ _ _ _ ?_
 unfold ref17_weighed
 have S:=(((Sep.start h no).read (row p (slv ss)) F.row).read (srows ss) F.rows).read nv.rows hr
 have hlen:=F.len
 have hfl:(fsOf ss).length=l:=by rw[fsOf_length];exact hlen
 have hpos:=hm.2.2.2.1
 have heq:=may_eq hm (by rcases hw with h|h|h<;>(have:nv.nd.kind=nv.kind:=rfl)<;>omega)
 have hwt:=may_weights hm hw
 have hwd:=may_wide' hm
 obtain⟨s0,es0⟩: ∃s,ss[0]? =some s:=⟨_,List.getElem?_eq_getElem (by omega)⟩
 have s0ok:=F.ok s0 (List.mem_of_getElem? es0)
 have s0len:s0.xs.length=s0.l:=s0ok.1.1
 have hg0:(fsOf ss).getD 0 []=s0.xs:=by rw[List.getD_eq_getElem?_getD,fsOf_get es0];rfl
 rw[hg0,s0len] at heq hwd
 rw[hg0,s0len,hfl] at hwt
 have wl:nv.nd.weights.length=nv.weights.l:=hok.2.1.1
 have bl:nv.nd.bias.length=nv.bias.l:=hok.2.2.1
 have bxl:nv.bias.xs.length=nv.bias.l:=hok.2.2.1
 have wxl:nv.weights.xs.length=nv.weights.l:=hok.2.1.1
 rw[wl,bl] at hwt
 have hk:nv.nd.kind=nv.kind:=rfl
 rw[hk] at hwt
 have eW:weighedF nv.nd (fsOf ss)=(List.range nv.bias.l).map fun c=>postI nv.nd (wj nv.nd (fsOf ss) l s0.l c l):=by unfold weighedF;rw[hg0,s0len,hfl,bl]
 rw[eW]
 refine newI_S (cs:=nv.cells) S fun b1 h1 _ S=> ?_
 dsimp only[List.nil_append,List.cons_append] at S
 obtain⟨a,ea⟩:=(S.row 0 rfl).some_of (by rw[slv_length];omega)
 have lds: ∀{g:Heap} {W:List Fact} {t:Nat} {s:Sl},Sep h no g W [row p (slv ss),srows ss,nv.rows]→ss[t]? =some s→cellH g (a.add t)=some s.v:=fun S e=>by
  have:=S.row 0 rfl
  rw[ea] at this
  exact this.cell (slv_get e)
 refine idxI_i ea (k:=0) rfl (by omega) ?_
 refine ldSlice_i (p:=s0.p) (l:=s0.l) (c:=s0.c) (lds S es0) ?_
 replace S:=S.nil 1
 dsimp only[List.nil_append,List.cons_append] at S
 refine LoopS_i (fun mm s g=> ∃(t:Nat) (q:Option Addr) (m d:Nat),s=((p,l,c),⟨b1,0,none⟩,(s0.l:Int),(q,m,d),(t:Int),())∧t≤nv.bias.l∧mm=nv.bias.l-t∧m=t∧
  Sep h no g [blk b1 nv.cells,own 1 q m d (ints ((List.range t).map fun c=>postI nv.nd (wj nv.nd (fsOf ss) l s0.l c l)))] [row p (slv ss),srows ss,nv.rows]) nv.bias.l ⟨0,none,0,0,rfl,by omega,rfl,rfl,S⟩ ?_
 clear S
 rintro mm s g ⟨t,q,m,d,rfl,ht,rfl,rfl,S⟩
 unfold ref17_weighed_l4
 simp only[add_mk,Nat.zero_add]
 refine ldSlice_i (p:=nv.bias.p) (l:=nv.bias.l) (c:=nv.bias.c) (S.cell 0 rfl rfl) ?_
 refine ifB_dec (fun hlt=> ?_) (fun hge=> ?_)
 ·have hmb:m<nv.bias.xs.length:=by omega
  refine ldSlice_i (p:=nv.bias.p) (l:=nv.bias.l) (c:=nv.bias.c) (S.cell 0 rfl rfl) ?_
  have br:Row g nv.bias.p (ints nv.bias.xs):=S.r 2 _ rfl nv.bias.row (by simp)
  obtain⟨ba,eba⟩:=br.some_of (by rw[ints_length];omega)
  rw[eba] at br
  refine idxI_i eba rfl (by omega) ?_
  simp only[Int.toNat_natCast,Nat.mul_one]
  refine ldInt_i (n:=wj nv.nd (fsOf ss) l s0.l m 0) (br.cell (ints_get (by
   rw[List.getElem?_eq_getElem hmb]
   congr 1
   exact(getD_eq hmb).symm))) ?_
  refine LoopS_i (fun mm s g=> ∃j:Nat,s=((p,l,c),⟨b1,0,none⟩,(s0.l:Int),(q,m,d),(m:Int),wj nv.nd (fsOf ss) l s0.l m j,(j:Int),())∧j≤l∧mm=l-j∧
   Sep h no g [blk b1 nv.cells,own 1 q m d (ints ((List.range m).map fun c=>postI nv.nd (wj nv.nd (fsOf ss) l s0.l c l)))] [row p (slv ss),srows ss,nv.rows]) l ⟨0,rfl,by omega,rfl,S⟩ ?_
  clear S br
  rintro mm s g ⟨j,rfl,hj,rfl,S⟩
  unfold ref17_weighed_l8
  dsimp only
  refine ifB_dec (fun hlt2=> ?_) (fun hge2=> ?_)
  ·obtain⟨s,es⟩: ∃s,ss[j]? =some s:=⟨_,List.getElem?_eq_getElem (by omega)⟩
   have hmem:=List.mem_of_getElem? es
   have slen:s.xs.length=s.l:=(F.ok s hmem).1.1
   have hsl:s.l=s0.l:=by rw[←slen];exact heq s.xs (List.mem_map_of_mem hmem)
   have hgj:(fsOf ss).getD j []=s.xs:=by rw[List.getD_eq_getElem?_getD,fsOf_get es];rfl
   obtain⟨x0,ex0⟩: ∃x0,wj nv.nd (fsOf ss) l s0.l m j=x0:=⟨_,rfl⟩
   have ej1:wj nv.nd (fsOf ss) l s0.l m (j+1)=wk nv.nd (fsOf ss) l s0.l m j x0 s0.l:=by rw[←ex0];rfl
   rw[ex0]
   refine LoopS_i (fun mm z g=> ∃k:Nat,z=((p,l,c),⟨b1,0,none⟩,(s0.l:Int),(q,m,d),(m:Int),wk nv.nd (fsOf ss) l s0.l m j x0 k,(j:Int),(k:Int),())∧k≤s0.l∧mm=s0.l-k∧
    Sep h no g [blk b1 nv.cells,own 1 q m d (ints ((List.range m).map fun c=>postI nv.nd (wj nv.nd (fsOf ss) l s0.l c l)))] [row p (slv ss),srows ss,nv.rows]) s0.l ⟨0,rfl,by omega,rfl,S⟩ ?_
   clear S
   rintro mm z g ⟨k,rfl,hk2,rfl,S⟩
   unfold ref17_weighed_l11
   simp only[add_mk,Nat.zero_add]
   refine ifB_dec (fun hlt3=> ?_) (fun hge3=> ?_)
   ·have hks:k<s.xs.length:=by omega
    have hidx:=idx_lt (show m<nv.bias.l by omega) (show j<l by omega) (show k<s0.l by omega)
    have ek:IntKind.wrap .i64 ((k:Int)+1)=((k+1:Nat):Int):=by rw[wrap64_in (by omega)];rfl
    have ldf:cellH g (a.add j)=some s.v:=lds S es
    have sr:Row g s.p (ints s.xs):=S.r 1 _ rfl _ (List.mem_map_of_mem hmem)
    obtain⟨sa,esa⟩:=sr.some_of (by rw[ints_length];omega)
    rw[esa] at sr
    have wr:Row g nv.weights.p (ints nv.weights.xs):=S.r 2 _ rfl nv.weights.row (by simp)
    have hgk:(((fsOf ss).getD j []).getD k 0)=s.xs[k]:=by rw[hgj];exact getD_eq hks
    refine ldInt_i (n:=nv.kind) (S.cell 0 rfl rfl) (ifB_bne (fun h2=> ?_) (fun h2=> ?_))
    ·have hwl:=hwt.1 h2
     have hbnd:(m*l+j)*s0.l+k<nv.weights.xs.length:=by rw[wxl,hwl];exact hidx.2
     have hb2:nv.bias.l*l≤nv.weights.l:=by rw[hwl];exact Nat.le_mul_of_pos_right _ (by omega)
     have e1:IntKind.wrap .i64 ((m:Int)*(l:Int))=((m*l:Nat):Int):=by
      have:(m:Int)*(l:Int)=((m*l:Nat):Int):=by push_cast;rfl
      rw[this,wrap64_in (by omega)]
     have e2:IntKind.wrap .i64 (((m*l:Nat):Int)+(j:Int))=((m*l+j:Nat):Int):=by rw[wrap64_in (by omega)];rfl
     have e3:IntKind.wrap .i64 (((m*l+j:Nat):Int)*(s0.l:Int))=(((m*l+j)*s0.l:Nat):Int):=by
      have:((m*l+j:Nat):Int)*(s0.l:Int)=(((m*l+j)*s0.l:Nat):Int):=by push_cast;rfl
      rw[this,wrap64_in (by omega)]
     have e4:IntKind.wrap .i64 ((((m*l+j)*s0.l:Nat):Int)+(k:Int))=(((m*l+j)*s0.l+k:Nat):Int):=by rw[wrap64_in (by omega)];rfl
     rw[e1,e2,e3,e4]
     refine idxI_i ea rfl (by omega) (ldSlice_i (p:=nv.weights.p) (l:=nv.weights.l) (c:=nv.weights.c) (S.cell 0 rfl rfl) ?_)
     obtain⟨wa,ewa⟩:=wr.some_of (by rw[ints_length];omega)
     rw[ewa] at wr
     refine idxI_i ewa rfl (by omega) ?_
     simp only[Int.toNat_natCast,Nat.mul_one]
     refine ldInt_i (n:=nv.weights.xs[(m*l+j)*s0.l+k]) (wr.cell (ints_get (List.getElem?_eq_getElem hbnd))) ?_
     refine ldSlice_i (p:=s.p) (l:=s.l) (c:=s.c) ldf (idxI_i esa rfl (by omega) ?_)
     refine ldInt_i (n:=s.xs[k]) (sr.cell (ints_get (List.getElem?_eq_getElem hks))) ?_
     rw[ek]
     refine⟨s0.l-(k+1),by omega,k+1,?_,by omega,rfl,S⟩
     have e5:wk nv.nd (fsOf ss) l s0.l m j x0 (k+1)=IntKind.wrap .i64 (wk nv.nd (fsOf ss) l s0.l m j x0 k+IntKind.wrap .i64 (nv.weights.xs[(m*l+j)*s0.l+k]*s.xs[k])):=by
      conv=>lhs;unfold wk
      rw[if_pos (show nv.nd.kind≠2 from h2),hgk]
      have:nv.nd.weights.getD ((m*l+j)*s0.l+k) 0=nv.weights.xs[(m*l+j)*s0.l+k]:=getD_eq hbnd
      rw[this]
     rw[e5]
    ·have hwl:=hwt.2 h2
     have hbnd:m*l+j<nv.weights.xs.length:=by rw[wxl,hwl.1];exact hidx.1
     refine ifB_beq (fun hkc=> ?_) (fun hkc=> ?_)
     ·have e1:IntKind.wrap .i64 ((m:Int)*(l:Int))=((m*l:Nat):Int):=by
       have:(m:Int)*(l:Int)=((m*l:Nat):Int):=by push_cast;rfl
       rw[this,wrap64_in (by omega)]
      have e2:IntKind.wrap .i64 (((m*l:Nat):Int)+(j:Int))=((m*l+j:Nat):Int):=by rw[wrap64_in (by omega)];rfl
      rw[e1,e2]
      refine idxI_i ea rfl (by omega) (ldSlice_i (p:=nv.weights.p) (l:=nv.weights.l) (c:=nv.weights.c) (S.cell 0 rfl rfl) ?_)
      obtain⟨wa,ewa⟩:=wr.some_of (by rw[ints_length];omega)
      rw[ewa] at wr
      refine idxI_i ewa rfl (by omega) ?_
      simp only[Int.toNat_natCast,Nat.mul_one]
      refine ldInt_i (n:=nv.weights.xs[m*l+j]) (wr.cell (ints_get (List.getElem?_eq_getElem hbnd))) ?_
      refine ldSlice_i (p:=s.p) (l:=s.l) (c:=s.c) ldf (idxI_i esa rfl (by omega) ?_)
      refine ldInt_i (n:=s.xs[k]) (sr.cell (ints_get (List.getElem?_eq_getElem hks))) ?_
      rw[ek]
      refine⟨s0.l-(k+1),by omega,k+1,?_,by omega,rfl,S⟩
      have e5:wk nv.nd (fsOf ss) l s0.l m j x0 (k+1)=IntKind.wrap .i64 (wk nv.nd (fsOf ss) l s0.l m j x0 k+IntKind.wrap .i64 (nv.weights.xs[m*l+j]*s.xs[k])):=by
       conv=>lhs;unfold wk
       rw[if_neg (show ¬nv.nd.kind≠2 from fun h=>h h2),if_pos hkc,hgk]
       have:nv.nd.weights.getD (m*l+j) 0=nv.weights.xs[m*l+j]:=getD_eq hbnd
       rw[this]
      rw[e5]
     ·rw[ek]
      refine⟨s0.l-(k+1),by omega,k+1,?_,by omega,rfl,S⟩
      have e5:wk nv.nd (fsOf ss) l s0.l m j x0 (k+1)=wk nv.nd (fsOf ss) l s0.l m j x0 k:=by
       conv=>lhs;unfold wk
       rw[if_neg (show ¬nv.nd.kind≠2 from fun h=>h h2),if_neg hkc]
      rw[e5]
   ·have hkl:k=s0.l:=by omega
    subst hkl
    rw[wrap64_in (n:=(j:Int)+1) (by omega),←ej1]
    exact⟨l-(j+1),by omega,j+1,rfl,by omega,rfl,S⟩
  ·have hjl:j=l:=by omega
   subst hjl
   refine ldAg_S S 0 rfl (x:=nv.t) rfl ?_
   refine(post17_ok nv _).mono ?_
   rintro _ g2 ⟨rfl,Fr⟩
   replace S:=S.fra0 Fr
   refine⟨_,rfl,?_⟩
   refine newI_S (cs:=[.int .i64 (postI nv.nd (wj nv.nd (fsOf ss) j s0.l m j))]) S fun b30 g3 _ S=> ?_
   dsimp only[List.cons_append,List.nil_append] at S
   refine appI_S S 1 (ys:=ints [postI nv.nd (wj nv.nd (fsOf ss) j s0.l m j)]) rfl rfl (by decide) (by omega) (Row.of_at (S.at 2 rfl)) rfl vals_one fun p2 l2 c2 g4 hl2 S=> ?_
   dsimp only[List.set] at S
   have e:ints ((List.range m).map fun c=>postI nv.nd (wj nv.nd (fsOf ss) j s0.l c j))++ints [postI nv.nd (wj nv.nd (fsOf ss) j s0.l m j)]=ints ((List.range (m+1)).map fun c=>postI nv.nd (wj nv.nd (fsOf ss) j s0.l c j)):=by
    rw[List.range_succ,List.map_append]
    simp only[ints,List.map_append,List.map_cons,List.map_nil]
   rw[e] at S
   rw[wrap64_in (n:=(m:Int)+1) (by omega)]
   exact⟨nv.bias.l-(m+1),by omega,m+1,p2,l2,c2,rfl,by omega,rfl,hl2,S.pw [0,1]⟩
 ·have:m=nv.bias.l:=by omega
  subst this
  exact⟨q,nv.bias.l,d,rfl,by simp,noR (S.pw [1])⟩
end
end Go.Proofs.YtbgplllcjhgdhaaGreatDoor.G
