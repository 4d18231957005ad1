/- Contracts: the program's fuse: which nodes are live. -/
import Derived.Test.YtdhpmegbmjoekaaGreatDoorCFuse2
namespace Go.Proofs.YtdhpmegbmjoekaaGreatDoor.G
open Go Go.Sh
set_option linter.unusedVariables false
set_option linter.unusedSimpArgs false
def insI (x:Int):List Int→List Int
 |[]=>[x]
 |y::r=>if x≤y then x::y::r else y::insI x r
def sortI (xs:List Int):List Int:=xs.foldr insI []
theorem insI_length (x:Int): ∀l,(insI x l).length=l.length+1
 |[]=>rfl
 |y::r=>by unfold insI;split<;>simp[insI_length x r]
theorem sortI_length: ∀xs:List Int,(sortI xs).length=xs.length
 |[]=>rfl
 |x::r=>by show(insI x (sortI r)).length=_;rw[insI_length,sortI_length r];rfl
theorem insI_mem (x y:Int): ∀l,y∈insI x l↔y=x∨y∈l
 |[]=>by simp[insI]
 |z::r=>by
  unfold insI
  split
  ·simp
  ·simp only[List.mem_cons,insI_mem x y r]
   constructor
   ·rintro(h|h|h)
    ·exact .inr (.inl h)
    ·exact .inl h
    ·exact .inr (.inr h)
   ·rintro(h|h|h)
    ·exact .inr (.inl h)
    ·exact .inl h
    ·exact .inr (.inr h)
theorem sortI_mem (y:Int): ∀xs:List Int,y∈sortI xs↔y∈xs
 |[]=>by simp[sortI]
 |x::r=>by show y∈insI x (sortI r)↔_;rw[insI_mem,sortI_mem y r];simp
theorem comp_mem (y:Int) (xs:List Int):y∈comp xs↔y∈xs:=by
 have key: ∀(l acc:List Int),y∈l.foldl compStep acc↔y∈acc∨y∈l:=by
  intro l
  induction l with
  |nil=>intro acc;simp
  |cons x r ih=>
   intro acc
   rw[List.foldl_cons,ih]
   have:y∈compStep acc x↔y∈acc∨y=x:=by
    unfold compStep
    split
    ·rename_i h
     have hm:=List.mem_of_getLast? h
     constructor
     ·exact .inl
     ·rintro(h|rfl)
      ·exact h
      ·exact hm
    ·simp
   rw[this,List.mem_cons,or_assoc]
 rw[comp,key];simp
def sd (xs:List Int):List Int:=comp (sortI xs)
theorem sd_mem (y:Int) (xs:List Int):y∈sd xs↔y∈xs:=by rw[sd,comp_mem,sortI_mem]
theorem sd_length (xs:List Int):(sd xs).length≤xs.length:=by have:=comp_length (sortI xs);rw[sortI_length] at this;exact this
abbrev LM:=Int→Option Int
def bump (M:LM) (j:Int):LM:=upM M j (IntKind.wrap .i64 ((M j).getD 0+1))
def innOf (ns:List Nd) (i:Int):List Int:=
 match ns[(i-1).toNat]? with
 |some n=>n.inn
 |none=>[]
def visit (ns:List Nd):Nat→LM→Int→LM
 |0,M,_=>M
 |k+1,M,i=>(sd (innOf ns i)).foldl (fun M j=>if 0<j∧(bump M j j).getD 0=1 then visit ns k (bump M j) j else bump M j) M
def visitL (ns:List Nd) (k:Nat) (M:LM) (l:List Int):LM:=l.foldl (fun M j=>if 0<j∧(bump M j j).getD 0=1 then visit ns k (bump M j) j else bump M j) M
theorem visit_succ (ns:List Nd) (k:Nat) (M:LM) (i:Int):visit ns (k+1) M i=visitL ns k M (sd (innOf ns i)):=rfl
theorem visitL_snoc (ns:List Nd) (k:Nat) (M:LM) {l:List Int} {t:Nat} (ht:t<l.length):visitL ns k M (l.take (t+1))=if 0<l[t]∧(bump (visitL ns k M (l.take t)) l[t] l[t]).getD 0=1 then visit ns k (bump (visitL ns k M (l.take t)) l[t]) l[t] else bump (visitL ns k M (l.take t)) l[t]:=by
 unfold visitL
 rw[List.take_succ_eq_append_getElem ht,List.foldl_append];rfl
def liveM (ns:List Nd) (out:Int):LM:=visit ns (ns.length+1) (upM (fun _=>none) out 0) out
def SortedSpec:Prop:= ∀(h:Heap) (bs:Nat) (p:Option Addr) (l c:Nat) (xs:List Int),cellH h ⟨bs,0,none⟩=some (.slice p l c)→Row h p (ints xs)→xs.length=l→l≤12→
 callP P n_slices_Sorted_int #[.func (.func n_slices_Values_int_int_1) #[] #[.pointer (some ⟨bs,0,none⟩)]] h fun v h'=> ∃p' c',v= .slice p' l c'∧Sep h no h' [own 1 p' l c' (ints (sortI xs))] []
def Ranked (ns:List Nd) (pos:Int→Nat):Prop:= ∀(i:Nat) (n:Nd),ns[i]? =some n→n.inn.length≤12∧ ∀j∈n.inn,0≤j∧j≤(ns.length:Int)∧(0<j→pos j<pos ((i:Int)+1))
theorem subR {h0 h:Heap} {T:Nat→Prop} {W R:List Fact} (S:Sep h0 T h W R) (R':List Fact) (hR: ∀(j:Nat) (f:Fact),R'[j]? =some f→ ∃i:Nat,R[i]? =some f):Sep h0 T h W R':=
 ⟨S.fra,S.w,fun j f hf=>by obtain⟨i,hi⟩:=hR j f hf;exact S.r i f hi,S.ok,S.ww,fun i j f g hf hg=>by obtain⟨m,hm⟩:=hR j g hg;exact S.wr i m f g hf hm⟩
theorem callAny_i {P:Program} {f:FuncId} {caps args:List Value} {h:Heap} {K:Value→Heap→Prop} (H:callP P f (args++caps).toArray h K):callAny P (.func (.func f) #[] caps.toArray) args h K:=by
 unfold callAny;simpa using H
section
theorem live1_S (hS:SortedSpec) {gv:Gv} (hok:gv.ok) (hl:gv.l<2 ^ 20) {pos:Int→Nat} (hpos:Ranked gv.gr.nodes pos) {b1 b5 b8 r:Nat}: ∀(k:Nat) (M:LM) (i:Nat) (h0:Heap) (T:Nat→Prop) (h:Heap) (X:List Fact),i<gv.ns.length→pos ((i:Int)+1)<k→
 Sep h0 T h [mpi r M,blk b5 [.map (some r)],blk b8 [.func (.func n_fuse_live_1) #[] #[.pointer (some ⟨b1,0,none⟩),.pointer (some ⟨b5,0,none⟩),.pointer (some ⟨b8,0,none⟩)]]] (blk b1 gv.cells::row gv.p (nflat gv.ns)::nrows gv.ns::X)→
 callP P n_fuse_live_1 #[.int .i64 ((i:Int)+1),.pointer (some ⟨b1,0,none⟩),.pointer (some ⟨b5,0,none⟩),.pointer (some ⟨b8,0,none⟩)] h fun v h'=>v= .tuple #[]∧
  Sep h0 T h' [mpi r (visit gv.gr.nodes k M ((i:Int)+1)),blk b5 [.map (some r)],blk b8 [.func (.func n_fuse_live_1) #[] #[.pointer (some ⟨b1,0,none⟩),.pointer (some ⟨b5,0,none⟩),.pointer (some ⟨b8,0,none⟩)]]] (blk b1 gv.cells::row gv.p (nflat gv.ns)::nrows gv.ns::X):=by
 have hgl:=hok.1
 have hgn:gv.gr.nodes.length=gv.ns.length:=by simp[Gv.gr]
 intro k
 induction k with
 |zero=>intro M i h0 T h X _ hp;omega
 |succ k ih=>
  intro M i h0 T h X hi hp S
  refine call_fuse_live_1 _ _ _ _ ?_
  unfold fuse_live_1
  simp only[add_mk,Nat.zero_add]
  obtain⟨nv,en⟩: ∃n,gv.ns[i]? =some n:=⟨_,List.getElem?_eq_getElem hi⟩
  have hmem:=List.mem_of_getElem? en
  have nok:=hok.2.2 nv hmem
  have endn:gv.gr.nodes[i]? =some nv.nd:=by simp[Gv.gr,en]
  obtain⟨hin12,hrk⟩:=hpos i nv.nd endn
  have hin12:nv.inn.xs.length≤12:=hin12
  have einn:innOf gv.gr.nodes ((i:Int)+1)=nv.inn.xs:=by
   unfold innOf
   rw[show((i:Int)+1-1).toNat=i by omega,endn];rfl
  refine ldSlice_i (p:=gv.p) (l:=gv.l) (c:=gv.c) (S.cellR 0 rfl rfl) ?_
  have ew:IntKind.wrap .i64 ((i:Int)+1-1)=(i:Int):=by rw[wrap64_in (by omega)];omega
  rw[ew]
  obtain⟨a,ea⟩:=(S.row 1 rfl).some_of (by rw[nflat_length];omega)
  have hrow:Row h (some a) (nflat gv.ns):=by rw[←ea];exact S.row 1 rfl
  refine idxI_i ea rfl (by omega) ?_
  simp only[Int.toNat_natCast]
  have hcell:cellH h ((a.add (i*15)).add 1)=some nv.inn.v:=by
   have:=hrow.cell (i:=i*15+1) (v:=nv.inn.v) (by rw[nflat_at en (by decide)];rfl)
   rw[add_add _ _ (by decide)];exact this
  refine ldSlice_i (p:=nv.inn.p) (l:=nv.inn.l) (c:=nv.inn.c) hcell ?_
  refine(Values_ok nv.inn.p nv.inn.l nv.inn.c).mono ?_
  rintro _ g1 ⟨bs,rfl,S1⟩
  replace S:=S.add S1 fun _ _ h=>h
  dsimp only[List.nil_append,List.cons_append] at S
  refine⟨_,rfl,?_⟩
  have ilen:nv.inn.xs.length=nv.inn.l:=nok.1.1
  refine(hS g1 bs nv.inn.p nv.inn.l nv.inn.c nv.inn.xs (S.cell 3 rfl rfl) (S.r 2 _ rfl _ (List.mem_map_of_mem hmem) nv.inn.row (by simp)) ilen (by omega)).mono ?_
  rintro _ g2 ⟨p8,c8,rfl,S1⟩
  replace S:=S.add S1 fun _ _ h=>h
  dsimp only[List.nil_append,List.cons_append] at S
  refine⟨_,_,_,rfl,?_⟩
  refine(Compact_S S 4 rfl (by omega)).mono ?_
  rintro _ g3 ⟨l10,rfl,S⟩
  dsimp only[List.set] at S
  refine⟨_,_,_,rfl,?_⟩
  have esd:comp (sortI nv.inn.xs)=sd nv.inn.xs:=rfl
  rw[esd] at S
  rw[visit_succ,einn]
  have hl10:(sd nv.inn.xs).length=l10:=by have:=(S.own 4 rfl).1;rw[ints_length] at this;omega
  have hsl:=sd_length nv.inn.xs
  refine LoopS_i (fun mm s g=> ∃(t:Nat),s=(⟨b5,0,none⟩,⟨b8,0,none⟩,(p8,l10,c8),(l10:Int),(t:Int),())∧t≤l10∧mm=l10-t∧
   Sep h0 T g [mpi r (visitL gv.gr.nodes k M ((sd nv.inn.xs).take t)),blk b5 [.map (some r)],blk b8 [.func (.func n_fuse_live_1) #[] #[.pointer (some ⟨b1,0,none⟩),.pointer (some ⟨b5,0,none⟩),.pointer (some ⟨b8,0,none⟩)]],own 1 p8 l10 c8 (ints (sd nv.inn.xs))] (blk b1 gv.cells::row gv.p (nflat gv.ns)::nrows gv.ns::X)) l10
   ⟨0,rfl,by omega,rfl,S.pw [0,1,2,4]⟩ ?_
  clear S
  rintro mm s g ⟨t,rfl,ht,rfl,S⟩
  unfold fuse_live_1_l1
  dsimp only
  refine ifB_dec (fun hlt=> ?_) (fun hge=> ?_)
  ·have htx:t<(sd nv.inn.xs).length:=by omega
   have esn:=visitL_snoc gv.gr.nodes k M htx
   have hmemj:(sd nv.inn.xs)[t]∈nv.inn.xs:=(sd_mem _ _).1 (List.getElem_mem htx)
   have hj:=hrk _ hmemj
   generalize hjj:(sd nv.inn.xs)[t]=j at esn hj hmemj
   obtain⟨pa,epa⟩:=(S.own 3 rfl).row.some_of (by rw[ints_length];omega)
   have hp8:Row g (some pa) (ints (sd nv.inn.xs)):=by rw[←epa];exact(S.own 3 rfl).row
   refine idxI_i epa rfl (by omega) ?_
   simp only[Int.toNat_natCast,Nat.mul_one]
   refine ldInt_i (n:=j) (hp8.cell (ints_get (by rw[List.getElem?_eq_getElem htx,hjj]))) ?_
   refine⟨some r,S.cell 1 rfl rfl,lookI_of (S.w 0 _ rfl) ⟨_,rfl,updB_S S 0 rfl fun g4 S=> ?_⟩⟩
   rw[upL_lM] at S
   dsimp only[List.set] at S
   have eb:upM (visitL gv.gr.nodes k M ((sd nv.inn.xs).take t)) j (IntKind.wrap .i64 (((visitL gv.gr.nodes k M ((sd nv.inn.xs).take t)) j).getD 0+1))=bump (visitL gv.gr.nodes k M ((sd nv.inn.xs).take t)) j:=rfl
   rw[eb] at S
   rw[wrap64_in (n:=(t:Int)+1) (by omega)]
   refine ifB_dec (fun hj0=> ?_) (fun hj0=> ?_)
   ·refine⟨some r,S.cell 1 rfl rfl,lookI_of (S.w 0 _ rfl) ⟨_,rfl,ifB_beq (fun h1=> ?_) (fun h1=> ?_)⟩⟩
    ·rw[if_pos ⟨hj0,h1⟩] at esn
     refine⟨_,S.cell 2 rfl rfl,?_⟩
     obtain⟨m,em⟩: ∃m:Nat,j=(m:Int)+1:=⟨(j-1).toNat,by omega⟩
     have S1:=subR (S.into [0,1,2] [3] [0,1,2]) (blk b1 gv.cells::row gv.p (nflat gv.ns)::nrows gv.ns::[own 1 p8 l10 c8 (ints (sd nv.inn.xs))]) (fun q f hf=>by
      match q,hf with
      |0,hf=>exact⟨1,hf⟩
      |1,hf=>exact⟨2,hf⟩
      |2,hf=>exact⟨3,hf⟩
      |3,hf=>exact⟨0,hf⟩
      |_+4,hf=>simp at hf)
     have hc:=ih (bump (visitL gv.gr.nodes k M ((sd nv.inn.xs).take t)) j) m g4 _ g4 _ (by omega) (by rw[←em];have:=hj.2.2 hj0;omega) S1
     rw[←em] at hc
     refine callAny_i (f:=n_fuse_live_1) (args:=[.int .i64 j]) (caps:=[.pointer (some ⟨b1,0,none⟩),.pointer (some ⟨b5,0,none⟩),.pointer (some ⟨b8,0,none⟩)]) (callP.mono hc ?_)
     rintro _ g5 ⟨rfl,S2⟩
     replace S:=S.back [0,1,2] S2
     dsimp only[merge,List.set,List.cons_append,List.nil_append] at S
     rw[←esn] at S
     exact⟨rfl,l10-(t+1),by omega,t+1,rfl,by omega,rfl,S⟩
    ·rw[if_neg (fun h=>h1 h.2)] at esn
     rw[←esn] at S
     exact⟨l10-(t+1),by omega,t+1,rfl,by omega,rfl,S⟩
   ·rw[if_neg (fun h=>hj0 h.1)] at esn
    rw[←esn] at S
    exact⟨l10-(t+1),by omega,t+1,rfl,by omega,rfl,S⟩
  ·rw[List.take_of_length_le (by omega)] at S
   exact⟨rfl,S.pw [0,1,2]⟩
theorem live_ok {h:Heap} (hS:SortedSpec) {gv:Gv} (hok:gv.ok) (hn:Row h gv.p (nflat gv.ns)) (hr:(nrows gv.ns).P h) (hl:gv.l<2 ^ 20) {pos:Int→Nat} (hpos:Ranked gv.gr.nodes pos) (hpb: ∀x,pos x≤gv.gr.nodes.length) (ho:1≤gv.out∧gv.out≤(gv.l:Int)):
 callP P n_fuse_live #[gv.v] h fun v h'=> ∃r,v= .map (some r)∧Sep h no h' [mpi r (liveM gv.gr.nodes gv.out)] []:=by
 refine call_fuse_live _ ?_
 unfold fuse_live
 have hgl:=hok.1
 have hgn:gv.gr.nodes.length=gv.ns.length:=by simp[Gv.gr]
 have S:=((Sep.start h no).read (row gv.p (nflat gv.ns)) hn).read (nrows gv.ns) hr
 refine newI_S (cs:=gv.cells) S fun b1 h1 _ S=> ?_
 dsimp only[List.nil_append,List.cons_append] at S
 refine newM_S .i64 S fun r4 h2 _ S=> ?_
 rw[lM_none] at S
 dsimp only[List.nil_append,List.cons_append] at S
 refine newI_S (cs:=[.map none]) S fun b5 h3 _ S=> ?_
 dsimp only[List.nil_append,List.cons_append] at S
 refine stI_S S 2 rfl (Nat.le_of_ble_eq_true rfl) fun h4 _ S=> ?_
 dsimp only[List.set] at S
 refine newI_S (cs:=[.nilFunc]) S fun b8 h5 _ S=> ?_
 dsimp only[List.nil_append,List.cons_append] at S
 refine stI_S S 3 rfl (Nat.le_of_ble_eq_true rfl) fun h6 _ S=> ?_
 dsimp only[List.set] at S
 refine⟨some r4,S.cell 2 rfl rfl,ldInt_i (n:=gv.out) (S.cell 0 rfl rfl) (updB_S S 1 rfl fun h7 S=> ?_)⟩
 rw[upL_lM] at S
 dsimp only[List.set] at S
 refine⟨_,S.cell 3 rfl rfl,ldInt_i (n:=gv.out) (S.cell 0 rfl rfl) ?_⟩
 obtain⟨m,em⟩: ∃m:Nat,gv.out=(m:Int)+1:=⟨(gv.out-1).toNat,by omega⟩
 have S1:=S.into [1,2,3] [0] [0,1]
 have hc:=live1_S hS hok hl hpos (gv.gr.nodes.length+1) (upM (fun _=>none) gv.out 0) m h7 _ h7 [] (by omega) (by have:=hpb ((m:Int)+1);omega) S1
 rw[←em] at hc
 refine callAny_i (f:=n_fuse_live_1) (args:=[.int .i64 gv.out]) (caps:=[.pointer (some ⟨b1,0,none⟩),.pointer (some ⟨b5,0,none⟩),.pointer (some ⟨b8,0,none⟩)]) (callP.mono hc ?_)
 rintro _ h8 ⟨rfl,S2⟩
 replace S:=S.back [1,2,3] S2
 dsimp only[merge,List.set,List.cons_append,List.nil_append] at S
 refine⟨rfl,some r4,S.cell 2 rfl rfl,r4,rfl,noR (S.pw [1])⟩
end
end Go.Proofs.YtdhpmegbmjoekaaGreatDoor.G
