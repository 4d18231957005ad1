/- Contracts: the program's fuse: which nodes are live. -/
import Derived.Test.YtdhpmegbmjoekaaGreatDoorCFuse2
namespace Go.Proofs.YtdhpmegbmjoekaaGreatDoor.G
open Go Go.Sh
set_option linter.unusedVariables false
set_option linter.unusedSimpArgs false
def tF (x:Int):List Int→List Int
 |[]=>[x]
 |y::r=>if x≤y then x::y::r else y::tF x r
def kB (xs:List Int):List Int:=xs.foldr tF []
theorem Ab (x:Int): ∀l,(tF x l).length=l.length+1
 |[]=>rfl
 |y::r=>by unfold tF;split<;>simp[Ab x r]
theorem xW: ∀xs:List Int,(kB xs).length=xs.length
 |[]=>rfl
 |x::r=>by show(tF x (kB r)).length=_;rw[Ab,xW r];rfl
theorem xX (x y:Int): ∀l,y∈tF x l↔y=x∨y∈l
 |[]=>by simp[tF]
 |z::r=>by
  unfold tF
  split
  ·simp
  ·simp only[List.mem_cons,xX x y r]
   constructor
   ·rintro(h|h|h)
    ·exact .inr (.inl h)
    ·exact .inl h
    ·exact .inr (.inr h)
   ·rintro(h|h|h)
    ·exact .inr (.inl h)
    ·exact .inl h
    ·exact .inr (.inr h)
theorem Fm (y:Int): ∀xs:List Int,y∈kB xs↔y∈xs
 |[]=>by simp[kB]
 |x::r=>by show y∈tF x (kB r)↔_;rw[xX,Fm y r];simp
theorem Na (y:Int) (xs:List Int):y∈ny xs↔y∈xs:=by
 have key: ∀(l acc:List Int),y∈l.foldl ft acc↔y∈acc∨y∈l:=by
  intro l
  induction l with
  |nil=>intro acc;simp
  |cons x r ih=>
   intro acc
   rw[List.foldl_cons,ih]
   have:y∈ft acc x↔y∈acc∨y=x:=by
    unfold ft
    split
    ·rename_i h
     have hm:=List.mem_of_getLast? h
     constructor
     ·exact .inl
     ·rintro(h|rfl)
      ·exact h
      ·exact hm
    ·simp
   rw[this,List.mem_cons,or_assoc]
 rw[ny,key];simp
def sd (xs:List Int):List Int:=ny (kB xs)
theorem Jk (y:Int) (xs:List Int):y∈sd xs↔y∈xs:=by rw[sd,Na,Fm]
theorem Lt (xs:List Int):(sd xs).length≤xs.length:=by have:=HT (kB xs);rw[xW] at this;exact this
abbrev LM:=Int→Option Int
def nK (M:LM) (j:Int):LM:=tH M j (IntKind.wrap .i64 ((M j).getD 0+1))
def innOf (ns:List Nd) (i:Int):List Int:=
 match ns[(i-1).toNat]? with
 |some n=>n.inn
 |none=>[]
def tG (ns:List Nd):Nat→LM→Int→LM
 |0,M,_=>M
 |k+1,M,i=>(sd (innOf ns i)).foldl (fun M j=>if 0<j∧(nK M j j).getD 0=1 then tG ns k (nK M j) j else nK M j) M
def gK (ns:List Nd) (k:Nat) (M:LM) (l:List Int):LM:=l.foldl (fun M j=>if 0<j∧(nK M j j).getD 0=1 then tG ns k (nK M j) j else nK M j) M
theorem Dl (ns:List Nd) (k:Nat) (M:LM) (i:Int):tG ns (k+1) M i=gK ns k M (sd (innOf ns i)):=rfl
theorem HS (ns:List Nd) (k:Nat) (M:LM) {l:List Int} {t:Nat} (ht:t<l.length):gK ns k M (l.take (t+1))=if 0<l[t]∧(nK (gK ns k M (l.take t)) l[t] l[t]).getD 0=1 then tG ns k (nK (gK ns k M (l.take t)) l[t]) l[t] else nK (gK ns k M (l.take t)) l[t]:=by
 unfold gK
 rw[List.take_succ_eq_append_getElem ht,List.foldl_append];rfl
def kj (ns:List Nd) (out:Int):LM:=tG ns (ns.length+1) (tH (fun _=>none) out 0) out
def qJ:Prop:= ∀(h:ae) (bs:Nat) (p:Option Addr) (l c:Nat) (xs:List Int),aD h ⟨bs,0,none⟩=some (.slice p l c)→bT h p (az xs)→xs.length=l→l≤12→
 aq P gi #[.func (.func bX) #[] #[.pointer (some ⟨bs,0,none⟩)]] h fun v h'=> ∃p' c',v= .slice p' l c'∧aK h no h' [own 1 p' l c' (az (kB xs))] []
def nt (ns:List Nd) (pos:Int→Nat):Prop:= ∀(i:Nat) (n:Nd),ns[i]? =some n→n.inn.length≤12∧ ∀j∈n.inn,0≤j∧j≤(ns.length:Int)∧(0<j→pos j<pos ((i:Int)+1))
theorem RA {h0 h:ae} {T:Nat→Prop} {W R:List bi} (S:aK h0 T h W R) (R':List bi) (hR: ∀(j:Nat) (f:bi),R'[j]? =some f→ ∃i:Nat,R[i]? =some f):aK h0 T h W R':=
 ⟨S.fra,S.w,fun j f hf=>by obtain⟨i,hi⟩:=hR j f hf;exact S.r i f hi,S.ok,S.ww,fun i j f g hf hg=>by obtain⟨m,hm⟩:=hR j g hg;exact S.wr i m f g hf hm⟩
theorem zp {P:Program} {f:FuncId} {caps args:List Value} {h:ae} {K:Value→ae→Prop} (H:aq P f (args++caps).toArray h K):fw P (.func (.func f) #[] caps.toArray) args h K:=by
 unfold fw;simpa using H
section
theorem OR (hS:qJ) {gv:Gv} (hok:gv.ok) (hl:gv.l<2 ^ 20) {pos:Int→Nat} (hpos:nt gv.gr.nodes pos) {b1 b5 b8 r:Nat}: ∀(k:Nat) (M:LM) (i:Nat) (h0:ae) (T:Nat→Prop) (h:ae) (X:List bi),i<gv.ns.length→pos ((i:Int)+1)<k→
 aK h0 T h [um r M,blk b5 [.map (some r)],blk b8 [.func (.func dN) #[] #[.pointer (some ⟨b1,0,none⟩),.pointer (some ⟨b5,0,none⟩),.pointer (some ⟨b8,0,none⟩)]]] (blk b1 gv.cells::row gv.p (aF gv.ns)::aZ gv.ns::X)→
 aq P dN #[.int .i64 ((i:Int)+1),.pointer (some ⟨b1,0,none⟩),.pointer (some ⟨b5,0,none⟩),.pointer (some ⟨b8,0,none⟩)] h fun v h'=>v= .tuple #[]∧
  aK h0 T h' [um r (tG gv.gr.nodes k M ((i:Int)+1)),blk b5 [.map (some r)],blk b8 [.func (.func dN) #[] #[.pointer (some ⟨b1,0,none⟩),.pointer (some ⟨b5,0,none⟩),.pointer (some ⟨b8,0,none⟩)]]] (blk b1 gv.cells::row gv.p (aF gv.ns)::aZ gv.ns::X):=by
 have hgl:=hok.1
 have hgn:gv.gr.nodes.length=gv.ns.length:=by simp[Gv.gr]
 intro k
 induction k with
 |zero=>intro M i h0 T h X _ hp;omega
 |succ k ih=>
  intro M i h0 T h X hi hp S
  refine yu _ _ _ _ ?_
  unfold zA
  simp only[aY,Nat.zero_add]
  obtain⟨nv,en⟩: ∃n,gv.ns[i]? =some n:=⟨_,List.getElem?_eq_getElem hi⟩
  have hmem:=List.mem_of_getElem? en
  have nok:=hok.2.2 nv hmem
  have endn:gv.gr.nodes[i]? =some nv.nd:=by simp[Gv.gr,en]
  obtain⟨hin12,hrk⟩:=hpos i nv.nd endn
  have hin12:nv.inn.xs.length≤12:=hin12
  have einn:innOf gv.gr.nodes ((i:Int)+1)=nv.inn.xs:=by
   unfold innOf
   rw[show((i:Int)+1-1).toNat=i by omega,endn];rfl
  refine am (p:=gv.p) (l:=gv.l) (c:=gv.c) (S.cellR 0 rfl rfl) ?_
  have ew:IntKind.wrap .i64 ((i:Int)+1-1)=(i:Int):=by rw[al (by omega)];omega
  rw[ew]
  obtain⟨a,ea⟩:=(S.row 1 rfl).some_of (by rw[bY];omega)
  have hrow:bT h (some a) (aF gv.ns):=by rw[←ea];exact S.row 1 rfl
  refine aG ea rfl (by omega) ?_
  simp only[Int.toNat_natCast]
  have hcell:aD h ((a.add (i*15)).add 1)=some nv.inn.v:=by
   have:=hrow.cell (i:=i*15+1) (v:=nv.inn.v) (by rw[mN en (by decide)];rfl)
   rw[ug _ _ (by decide)];exact this
  refine am (p:=nv.inn.p) (l:=nv.inn.l) (c:=nv.inn.c) hcell ?_
  refine(Lw nv.inn.p nv.inn.l nv.inn.c).mono ?_
  rintro _ g1 ⟨bs,rfl,S1⟩
  replace S:=S.add S1 fun _ _ h=>h
  dsimp only[List.nil_append,List.cons_append] at S
  refine⟨_,rfl,?_⟩
  have ilen:nv.inn.xs.length=nv.inn.l:=nok.1.1
  refine(hS g1 bs nv.inn.p nv.inn.l nv.inn.c nv.inn.xs (S.cell 3 rfl rfl) (S.r 2 _ rfl _ (List.mem_map_of_mem hmem) nv.inn.row (by simp)) ilen (by omega)).mono ?_
  rintro _ g2 ⟨p8,c8,rfl,S1⟩
  replace S:=S.add S1 fun _ _ h=>h
  dsimp only[List.nil_append,List.cons_append] at S
  refine⟨_,_,_,rfl,?_⟩
  refine(Ly S 4 rfl (by omega)).mono ?_
  rintro _ g3 ⟨l10,rfl,S⟩
  dsimp only[List.set] at S
  refine⟨_,_,_,rfl,?_⟩
  have esd:ny (kB nv.inn.xs)=sd nv.inn.xs:=rfl
  rw[esd] at S
  rw[Dl,einn]
  have hl10:(sd nv.inn.xs).length=l10:=by have:=(S.own 4 rfl).1;rw[aB] at this;omega
  have hsl:=Lt nv.inn.xs
  refine aT (fun mm s g=> ∃(t:Nat),s=(⟨b5,0,none⟩,⟨b8,0,none⟩,(p8,l10,c8),(l10:Int),(t:Int),())∧t≤l10∧mm=l10-t∧
   aK h0 T g [um r (gK gv.gr.nodes k M ((sd nv.inn.xs).take t)),blk b5 [.map (some r)],blk b8 [.func (.func dN) #[] #[.pointer (some ⟨b1,0,none⟩),.pointer (some ⟨b5,0,none⟩),.pointer (some ⟨b8,0,none⟩)]],own 1 p8 l10 c8 (az (sd nv.inn.xs))] (blk b1 gv.cells::row gv.p (aF gv.ns)::aZ gv.ns::X)) l10
   ⟨0,rfl,by omega,rfl,S.pw [0,1,2,4]⟩ ?_
  clear S
  rintro mm s g ⟨t,rfl,ht,rfl,S⟩
  unfold sv
  dsimp only
  refine au (fun hlt=> ?_) (fun hge=> ?_)
  ·have htx:t<(sd nv.inn.xs).length:=by omega
   have esn:=HS gv.gr.nodes k M htx
   have hmemj:(sd nv.inn.xs)[t]∈nv.inn.xs:=(Jk _ _).1 (List.getElem_mem htx)
   have hj:=hrk _ hmemj
   generalize hjj:(sd nv.inn.xs)[t]=j at esn hj hmemj
   obtain⟨pa,epa⟩:=(S.own 3 rfl).row.some_of (by rw[aB];omega)
   have hp8:bT g (some pa) (az (sd nv.inn.xs)):=by rw[←epa];exact(S.own 3 rfl).row
   refine aG epa rfl (by omega) ?_
   simp only[Int.toNat_natCast,Nat.mul_one]
   refine af (n:=j) (hp8.cell (aN (by rw[List.getElem?_eq_getElem htx,hjj]))) ?_
   refine⟨some r,S.cell 1 rfl rfl,gy (S.w 0 _ rfl) ⟨_,rfl,oU S 0 rfl fun g4 S=> ?_⟩⟩
   rw[oT] at S
   dsimp only[List.set] at S
   have eb:tH (gK gv.gr.nodes k M ((sd nv.inn.xs).take t)) j (IntKind.wrap .i64 (((gK gv.gr.nodes k M ((sd nv.inn.xs).take t)) j).getD 0+1))=nK (gK gv.gr.nodes k M ((sd nv.inn.xs).take t)) j:=rfl
   rw[eb] at S
   rw[al (n:=(t:Int)+1) (by omega)]
   refine au (fun hj0=> ?_) (fun hj0=> ?_)
   ·refine⟨some r,S.cell 1 rfl rfl,gy (S.w 0 _ rfl) ⟨_,rfl,aO (fun h1=> ?_) (fun h1=> ?_)⟩⟩
    ·rw[if_pos ⟨hj0,h1⟩] at esn
     refine⟨_,S.cell 2 rfl rfl,?_⟩
     obtain⟨m,em⟩: ∃m:Nat,j=(m:Int)+1:=⟨(j-1).toNat,by omega⟩
     have S1:=RA (S.into [0,1,2] [3] [0,1,2]) (blk b1 gv.cells::row gv.p (aF gv.ns)::aZ gv.ns::[own 1 p8 l10 c8 (az (sd nv.inn.xs))]) (fun q f hf=>by
      match q,hf with
      |0,hf=>exact⟨1,hf⟩
      |1,hf=>exact⟨2,hf⟩
      |2,hf=>exact⟨3,hf⟩
      |3,hf=>exact⟨0,hf⟩
      |_+4,hf=>simp at hf)
     have hc:=ih (nK (gK gv.gr.nodes k M ((sd nv.inn.xs).take t)) j) m g4 _ g4 _ (by omega) (by rw[←em];have:=hj.2.2 hj0;omega) S1
     rw[←em] at hc
     refine zp (f:=dN) (args:=[.int .i64 j]) (caps:=[.pointer (some ⟨b1,0,none⟩),.pointer (some ⟨b5,0,none⟩),.pointer (some ⟨b8,0,none⟩)]) (aq.mono hc ?_)
     rintro _ g5 ⟨rfl,S2⟩
     replace S:=S.back [0,1,2] S2
     dsimp only[bO,List.set,List.cons_append,List.nil_append] at S
     rw[←esn] at S
     exact⟨rfl,l10-(t+1),by omega,t+1,rfl,by omega,rfl,S⟩
    ·rw[if_neg (fun h=>h1 h.2)] at esn
     rw[←esn] at S
     exact⟨l10-(t+1),by omega,t+1,rfl,by omega,rfl,S⟩
   ·rw[if_neg (fun h=>hj0 h.1)] at esn
    rw[←esn] at S
    exact⟨l10-(t+1),by omega,t+1,rfl,by omega,rfl,S⟩
  ·rw[List.take_of_length_le (by omega)] at S
   exact⟨rfl,S.pw [0,1,2]⟩
theorem OS {h:ae} (hS:qJ) {gv:Gv} (hok:gv.ok) (hn:bT h gv.p (aF gv.ns)) (hr:(aZ gv.ns).P h) (hl:gv.l<2 ^ 20) {pos:Int→Nat} (hpos:nt gv.gr.nodes pos) (hpb: ∀x,pos x≤gv.gr.nodes.length) (ho:1≤gv.out∧gv.out≤(gv.l:Int)):
 aq P oa #[gv.v] h fun v h'=> ∃r,v= .map (some r)∧aK h no h' [um r (kj gv.gr.nodes gv.out)] []:=by
 refine Bz _ ?_
 unfold EK
 have hgl:=hok.1
 have hgn:gv.gr.nodes.length=gv.ns.length:=by simp[Gv.gr]
 have S:=((aK.start h no).read (row gv.p (aF gv.ns)) hn).read (aZ gv.ns) hr
 refine aC (cs:=gv.cells) S fun b1 h1 _ S=> ?_
 dsimp only[List.nil_append,List.cons_append] at S
 refine Gw .i64 S fun r4 h2 _ S=> ?_
 rw[Bi] at S
 dsimp only[List.nil_append,List.cons_append] at S
 refine aC (cs:=[.map none]) S fun b5 h3 _ S=> ?_
 dsimp only[List.nil_append,List.cons_append] at S
 refine aJ S 2 rfl (Nat.le_of_ble_eq_true rfl) fun h4 _ S=> ?_
 dsimp only[List.set] at S
 refine aC (cs:=[.nilFunc]) S fun b8 h5 _ S=> ?_
 dsimp only[List.nil_append,List.cons_append] at S
 refine aJ S 3 rfl (Nat.le_of_ble_eq_true rfl) fun h6 _ S=> ?_
 dsimp only[List.set] at S
 refine⟨some r4,S.cell 2 rfl rfl,af (n:=gv.out) (S.cell 0 rfl rfl) (oU S 1 rfl fun h7 S=> ?_)⟩
 rw[oT] at S
 dsimp only[List.set] at S
 refine⟨_,S.cell 3 rfl rfl,af (n:=gv.out) (S.cell 0 rfl rfl) ?_⟩
 obtain⟨m,em⟩: ∃m:Nat,gv.out=(m:Int)+1:=⟨(gv.out-1).toNat,by omega⟩
 have S1:=S.into [1,2,3] [0] [0,1]
 have hc:=OR hS hok hl hpos (gv.gr.nodes.length+1) (tH (fun _=>none) gv.out 0) m h7 _ h7 [] (by omega) (by have:=hpb ((m:Int)+1);omega) S1
 rw[←em] at hc
 refine zp (f:=dN) (args:=[.int .i64 gv.out]) (caps:=[.pointer (some ⟨b1,0,none⟩),.pointer (some ⟨b5,0,none⟩),.pointer (some ⟨b8,0,none⟩)]) (aq.mono hc ?_)
 rintro _ h8 ⟨rfl,S2⟩
 replace S:=S.back [1,2,3] S2
 dsimp only[bO,List.set,List.cons_append,List.nil_append] at S
 refine⟨rfl,some r4,S.cell 2 rfl rfl,r4,rfl,GQ (S.pw [1])⟩
end
end Go.Proofs.YtdhpmegbmjoekaaGreatDoor.G
