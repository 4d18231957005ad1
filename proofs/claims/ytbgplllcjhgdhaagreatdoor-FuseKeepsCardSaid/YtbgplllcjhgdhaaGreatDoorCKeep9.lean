/- All frames of all nodes (earshotref18: Streams, Eval, Ready). -/
import Derived.Test.YtbgplllcjhgdhaaGreatDoorCKeep8
namespace Go.Proofs.YtbgplllcjhgdhaaGreatDoor.G
open Go Go.Sh
set_option linter.unusedVariables false
set_option linter.unusedSimpArgs false
def okF (g:Gr) (fs:List (List Int)):Prop:= ∀f∈fs,(f.length:Int)=g.width∧ ∀x∈f,g.low≤x∧x≤g.high
def Strm (ns:List Nd) (W:Int→Int) (V:Int→List (List Int)):Prop:= ∀(i:Nat) (n:Nd),ns[i]? =some n→V ((i:Int)+1)=nodeF n (n.inn.map V) (W (n.inn.getD 0 0)).toNat
def cellsK (n:Nat) (F:Int→Fm) (D:List Int):List Value:=(List.range (n+1)).map fun x:Nat=>if(x:Int)∈D then(F x).v else .slice none 0 0
theorem cellsK_length (n:Nat) (F:Int→Fm) (D:List Int):(cellsK n F D).length=n+1:=by simp[cellsK]
theorem cellsK_get {n:Nat} {F:Int→Fm} {D:List Int} {x:Nat} (h:x≤n) (hx:(x:Int)∈D):(cellsK n F D)[x]? =some (F x).v:=by
 unfold cellsK
 rw[List.getElem?_map,List.getElem?_range (by omega),Option.map_some,if_pos hx]
theorem cellsK_ext {n:Nat} {F F':Int→Fm} {D D':List Int} (h: ∀x:Nat,x≤n→(if(x:Int)∈D then(F x).v else .slice none 0 0)=if(x:Int)∈D' then(F' x).v else .slice none 0 0):cellsK n F D=cellsK n F' D':=
 List.map_congr_left fun x hx=>h x (by rw[List.mem_range] at hx;omega)
theorem cellsK_set {n:Nat} {F F':Int→Fm} {D:List Int} {i:Nat} (hi:i+1≤n) (hF: ∀x,x≠(i:Int)+1→F' x=F x):(cellsK n F D).set (i+1) (F' ((i:Int)+1)).v=cellsK n F' (D++[(i:Int)+1]):=by
 apply List.ext_getElem?
 intro x
 by_cases hx:x≤n
 ·rw[List.getElem?_set]
  by_cases he:i+1=x
  ·subst he
   rw[if_pos rfl,if_pos (by rw[cellsK_length];omega),cellsK_get hx (by simp)]
   rfl
  ·rw[if_neg he]
   unfold cellsK
   rw[List.getElem?_map,List.getElem?_map,List.getElem?_range (by omega),Option.map_some,Option.map_some,hF (x:Int) (by omega)]
   congr 1
   by_cases hd:(x:Int)∈D
   ·rw[if_pos hd,if_pos (by simp[hd])]
   ·rw[if_neg hd,if_neg (by
     rw[List.mem_append,List.mem_singleton]
     rintro(h|h)
     ·exact hd h
     ·omega)]
 ·rw[List.getElem?_eq_none (by rw[List.length_set,cellsK_length];omega),List.getElem?_eq_none (by rw[cellsK_length];omega)]
theorem cellsK_all {n:Nat} {F:Int→Fm} {D:List Int} (h: ∀x:Nat,x≤n→(x:Int)∈D):cellsK n F D=fmv ((List.range (n+1)).map fun x:Nat=>F x):=by
 unfold cellsK fmv
 rw[List.map_map]
 refine List.map_congr_left fun x hx=> ?_
 rw[List.mem_range] at hx
 rw[if_pos (h x (by omega))];rfl
def FmE (X:List (List Int)) (h:Heap) (v:Value) (h':Heap):Prop:= ∃f:Fm,v=f.v∧f.ok∧f.fr=X∧Fra no h h'∧f.fact.P h'
theorem FmE.nil {h h':Heap} (k:Fra no h h'):FmE [] h (.slice none 0 0) h':=⟨⟨none,0,0,[]⟩,rfl,⟨rfl,Nat.le_refl _,by simp⟩,rfl,k,fun x hx=>by
 simp only[List.mem_cons,List.not_mem_nil,or_false] at hx
 rcases hx with rfl|rfl
 ·exact Row.nil _ _
 ·intro f hf;simp at hf⟩
section
variable {h:Heap} {gv:Gv} {W R:Int→Int} {pos:Int→Nat} {V:Int→List (List Int)} {f0:Fm}
def StrQ (gv:Gv) (f0:Fm) (V:Int→List (List Int)) (h:Heap) (v:Value) (h':Heap):Prop:=
 Fra no h h'∧((okF gv.gr f0.fr∧ ∃(bS:Nat) (fs:List Fm),v= .agg #[.slice (some ⟨bS,0,none⟩) (gv.l+1) (gv.l+1),.int .i64 0]∧Row h' (some ⟨bS,0,none⟩) (fmv fs)∧fs.length=gv.l+1∧ ∀(x:Nat) (f:Fm),fs[x]? =some f→f.ok∧f.fr=V x∧f.fact.P h')∨
  (¬okF gv.gr f0.fr∧ ∃e:Int,e≠0∧v= .agg #[.slice none 0 0,.int .i64 e]))
abbrev FS (gv:Gv) (b1 b3 b12 bS:Nat) (o w r:Sl) (cs:List Value) (Z:List Fact):List Fact:=
 [blk b1 gv.cells,blk b3 [.slice none 0 0,.int .i64 0],row o.p (ints o.xs),row w.p (ints w.xs),row r.p (ints r.xs),blk b12 [o.v,w.v,r.v,.int .i64 0],blk bS cs,reads Z]
theorem streams_l17_ok (hok:gv.ok) (hs: ∀n∈gv.ns,n.inn.l<2 ^ 20∧n.weights.l<2 ^ 40∧n.bias.l<2 ^ 40) (rt:Right gv.gr W R pos) (fok:f0.ok) (hV0:V 0=f0.fr) (hV:Strm gv.gr.nodes W V) (hb: ∀x,0≤x→x≤(gv.l:Int)→(V x).length≤2 ^ 30)
 {b1 b3 b12 bS:Nat} {o w r:Sl} (ho:o.xs=ordG gv.gr.nodes) (hw:w.xs=(List.range (gv.gr.nodes.length+1)).map fun x:Nat=>W x) (ook:o.ok) (wok:w.ok) {Q:Value→Heap→Prop} {K1}
 (H: ∀(g:Heap) (F:Int→Fm) (Z:List Fact),(∀x:Nat,x≤gv.l→(F x).ok∧(F x).fr=V x∧(F x=f0∨Cov Z (F x).fact))→Sep h no g (FS gv b1 b3 b12 bS o w r (fmv ((List.range (gv.l+1)).map fun x:Nat=>F x)) Z) [row gv.p (nflat gv.ns),nrows gv.ns,f0.fact]→
  (stI g ⟨b3,0,none⟩ (.slice (some ⟨bS,0,none⟩) (gv.l+1) (gv.l+1)) fun h93=>stI h93 ⟨b3,1,none⟩ (.int .i64 0) fun h94=>ldSlice h94 ⟨b3,0,none⟩ fun p95 l95 c95=>ldInt .i64 h94 ⟨b3,1,none⟩ fun n96=>Q (.agg #[(.slice p95 l95 c95),(.int .i64 n96)]) h94))
 {g:Heap} {c0:List Value} (hc0:c0=cellsK gv.l (fun _=>f0) [0]) (S:Sep h no g (FS gv b1 b3 b12 bS o w r c0 []) [row gv.p (nflat gv.ns),nrows gv.ns,f0.fact]):
 LoopS (S:=(Addr×Addr×Addr×(Option Addr×Nat×Nat)×Int×Unit)) (fun K2 s g=>ref18_Streams_l17 Q K1 K2 s.1 s.2.1 s.2.2.1 s.2.2.2.1.1 s.2.2.2.1.2.1 s.2.2.2.1.2.2 s.2.2.2.2.1 g) (⟨b1,0,none⟩,⟨b3,0,none⟩,⟨b12,0,none⟩,(some ⟨bS,0,none⟩,gv.l+1,gv.l+1),0,()) g:=by
 have hgn:gv.gr.nodes.length=gv.l:=by rw[←hok.1];simp[Gv.gr]
 have f:=first_ok rt.first
 have hl12:gv.l≤12:=by have:=f.2.1;omega
 have lO:o.xs.length=o.l:=ook.1
 have lenO:o.l=gv.l:=by rw[←lO,ho,rt.ordered,hgn]
 have lW:w.xs.length=w.l:=wok.1
 have lenW:w.l=gv.l+1:=by rw[←lW,hw];simp[hgn]
 refine LoopS_i (fun mm s g=> ∃(k:Nat) (F:Int→Fm) (Z:List Fact),s=(⟨b1,0,none⟩,⟨b3,0,none⟩,⟨b12,0,none⟩,(some ⟨bS,0,none⟩,gv.l+1,gv.l+1),(k:Int),())∧k≤gv.l∧mm=gv.l-k∧
  (∀x∈ahead gv k,(F x).ok∧(F x).fr=V x∧(F x=f0∨Cov Z (F x).fact))∧Sep h no g (FS gv b1 b3 b12 bS o w r (cellsK gv.l F (ahead gv k)) Z) [row gv.p (nflat gv.ns),nrows gv.ns,f0.fact]) gv.l
  ⟨0,fun _=>f0,[],rfl,by omega,rfl,fun x hx=>by
    have hx:x∈([0]:List Int):=hx
    simp only[List.mem_singleton] at hx;subst hx
    exact⟨fok,hV0.symm,.inl rfl⟩,by rw[hc0] at S;exact S⟩ ?_
 clear S
 rintro mm s g ⟨k,F,Z,rfl,hk,rfl,hF,S⟩
 have fact: ∀{g:Heap} {cs:List Value} {W2:List Fact},Sep h no g (FS gv b1 b3 b12 bS o w r cs Z++W2) [row gv.p (nflat gv.ns),nrows gv.ns,f0.fact]→ ∀x∈ahead gv k,(F x).fact.P g:=fun{g cs W2} S x hx=>by
  rcases(hF x hx).2.2 with h|h
  ·rw[h];exact S.r 2 _ rfl
  ·exact h.1 g (S.w 7 _ rfl)
 unfold ref18_Streams_l17
 simp only[add_mk,Nat.zero_add]
 refine ldSlice_i (p:=o.p) (l:=o.l) (c:=o.c) (S.cell 5 rfl rfl) ?_
 refine ifB_dec (fun hlt=> ?_) (fun hge=> ?_)
 case refine_2=>
  have:k=gv.l:=by omega
  subst this
  have hall: ∀x:Nat,x≤gv.l→(x:Int)∈ahead gv gv.l:=fun x hx=>mem_ahead hok rt (by omega) (by omega)
  rw[cellsK_all hall] at S
  exact H g F Z (fun x hx=>hF x (hall x hx)) S
 have hkl:k<gv.l:=by omega
 obtain⟨i,nv,A⟩:=nat_at hok rt hkl
 have hil:=A.lt
 have hsz:=hs nv (List.mem_of_getElem? A.en)
 refine ldSlice_i (p:=gv.p) (l:=gv.l) (c:=gv.c) (S.cell 0 rfl rfl) ?_
 refine ldSlice_i (p:=o.p) (l:=o.l) (c:=o.c) (S.cell 5 rfl rfl) ?_
 have orow:Row g o.p (ints o.xs):=S.w 2 _ rfl
 obtain⟨oa,eoa⟩:=orow.some_of (by rw[ints_length];omega)
 have ldo: ∀{g:Heap} {cs:List Value} {W2:List Fact},Sep h no g (FS gv b1 b3 b12 bS o w r cs Z++W2) [row gv.p (nflat gv.ns),nrows gv.ns,f0.fact]→cellH g (oa.add k)=some (.int .i64 ((i:Int)+1)):=fun S=>by
  have this:Row _ o.p (ints o.xs):=S.w 2 (row o.p (ints o.xs)) rfl
  rw[eoa] at this
  exact this.cell (ints_get (by rw[ho];exact A.ord))
 refine idxI_i eoa rfl (by omega) ?_
 simp only[Int.toNat_natCast,Nat.mul_one]
 refine ldInt_i (n:=(i:Int)+1) (ldo (W2:=[]) S) ?_
 have ei:IntKind.wrap .i64 ((i:Int)+1-1)=(i:Int):=by rw[wrap64_in (by omega)];omega
 rw[ei]
 obtain⟨q,ea⟩:=(S.row 0 rfl).some_of (by rw[nflat_length,hok.1];omega)
 have hrow:Row g (some q) (nflat gv.ns):=by rw[←ea];exact S.row 0 rfl
 refine idxI_i ea rfl (by omega) ?_
 simp only[Int.toNat_natCast]
 refine ldNode hrow A.en ?_
 refine newI_S S fun bx g5 _ S=> ?_
 dsimp only[List.cons_append,List.nil_append] at S
 refine stL_S S 8 rfl rfl (mkS_one rfl) fun g6 _ S=> ?_
 dsimp only[List.set] at S
 replace S:=S.nil 1
 dsimp only[List.cons_append,List.nil_append] at S
 refine LoopS_i (fun mm s g=> ∃(t:Nat) (lp:Option Addr) (ld:Nat),s=(⟨b1,0,none⟩,⟨b3,0,none⟩,⟨b12,0,none⟩,(some ⟨bS,0,none⟩,gv.l+1,gv.l+1),(k:Int),⟨bx,0,none⟩,(lp,t,ld),(t:Int),())∧t≤nv.inn.l∧mm=nv.inn.l-t∧
  Sep h no g (FS gv b1 b3 b12 bS o w r (cellsK gv.l F (ahead gv k)) Z++[blk bx nv.cells,own 1 lp t ld (fmv ((nv.inn.xs.take t).map F))]) [row gv.p (nflat gv.ns),nrows gv.ns,f0.fact]) nv.inn.l ⟨0,none,0,rfl,by omega,rfl,S⟩ ?_
 clear S
 rintro mm s g ⟨t,lp,ld,rfl,ht,rfl,S⟩
 dsimp only[List.cons_append,List.nil_append] at S
 unfold ref18_Streams_l22
 simp only[add_mk,Nat.zero_add]
 have hmem:=List.mem_of_getElem? A.en
 have irow:Row g nv.inn.p (ints nv.inn.xs):=S.r 1 _ rfl nv.rows (List.mem_map_of_mem hmem) nv.inn.row (by simp)
 have h1:=A.one
 have hil2:=A.len
 obtain⟨ia,eia⟩:=irow.some_of (by rw[ints_length];omega)
 rw[eia] at irow
 refine ldSlice_i (p:=nv.inn.p) (l:=nv.inn.l) (c:=nv.inn.c) (S.cell 8 rfl rfl) ?_
 refine ifB_dec (fun hlt=> ?_) (fun hge=> ?_)
 ·refine ldSlice_i (p:=nv.inn.p) (l:=nv.inn.l) (c:=nv.inn.c) (S.cell 8 rfl rfl) ?_
  have htx:t<nv.inn.xs.length:=by omega
  refine idxI_i eia rfl (by omega) ?_
  simp only[Int.toNat_natCast,Nat.mul_one]
  refine ldInt_i (irow.cell (ints_get (List.getElem?_eq_getElem htx))) ?_
  have hj:=A.inn _ (List.getElem_mem htx)
  have hja:=A.ahead _ (List.getElem_mem htx)
  obtain⟨x,ex⟩: ∃x:Nat,nv.inn.xs[t]=(x:Int):=⟨nv.inn.xs[t].toNat,by omega⟩
  rw[ex] at hj hja ⊢
  refine idxI_i rfl (k:=x) rfl (by omega) ?_
  simp only[Int.toNat_natCast,add_mk,Nat.zero_add]
  refine ldSlice_i (p:=(F x).p) (l:=(F x).l) (c:=(F x).c) (S.cell 6 rfl (cellsK_get (by omega) hja)) ?_
  refine push_S S 9 rfl (by decide) (by omega) fun b q' d' g7 S=> ?_
  dsimp only[List.set,List.cons_append,List.nil_append] at S
  have e:fmv ((nv.inn.xs.take t).map F)++[.slice (F x).p (F x).l (F x).c]=fmv ((nv.inn.xs.take (t+1)).map F):=by
   rw[List.take_succ_eq_append_getElem htx,ex]
   simp only[fmv,List.map_append,List.map_cons,List.map_nil]
  rw[e] at S
  rw[wrap64_in (by omega)]
  exact⟨nv.inn.l-(t+1),by omega,t+1,q',d',rfl,by omega,rfl,S.pw [0,1,2,3,4,5,6,7,8,9]⟩
 ·have:t=nv.inn.l:=by omega
  subst this
  rw[List.take_of_length_le (by omega)] at S
  obtain⟨x0,ex0,hx0m⟩: ∃x0:Nat,nv.inn.xs[0]'(by omega)=(x0:Int)∧(x0:Int)∈nv.inn.xs:=by
   have hm:=List.getElem_mem (l:=nv.inn.xs) (n:=0) (by omega)
   have:=A.inn _ hm
   exact⟨(nv.inn.xs[0]'(by omega)).toNat,by omega,by rw[show(((nv.inn.xs[0]'(by omega)).toNat:Nat):Int)=nv.inn.xs[0]'(by omega) by omega];exact hm⟩
  have hx0:=A.inn _ hx0m
  have hwide:=rt.wide (x:=(x0:Int)) (by omega) (by omega)
  obtain⟨w0,ew0⟩: ∃w0:Nat,W (x0:Int)=(w0:Int):=⟨(W (x0:Int)).toNat,by have:1≤W (x0:Int):=hwide.1;omega⟩
  have hw0:w0≤16:=by have:W (x0:Int)≤16:=hwide.2;omega
  refine ldAg_S S 8 rfl (x:=nv.t) rfl (ldSlice_i (p:=o.p) (l:=o.l) (c:=o.c) (S.cell 5 rfl rfl) (idxI_i eoa rfl (by omega) ?_))
  simp only[Int.toNat_natCast,Nat.mul_one]
  refine ldInt_i (n:=(i:Int)+1) (ldo S) ?_
  refine ldSlice_i (p:=w.p) (l:=w.l) (c:=w.c) (S.cell 5 rfl rfl) (ldSlice_i (p:=nv.inn.p) (l:=nv.inn.l) (c:=nv.inn.c) (S.cell 8 rfl rfl) (idxI_i eia (k:=0) rfl (by omega) ?_))
  refine ldInt_i (n:=(x0:Int)) (irow.cell (i:=0) (ints_get (by rw[List.getElem?_eq_getElem (show 0<nv.inn.xs.length by omega),ex0]))) ?_
  have wrow:Row g w.p (ints w.xs):=S.w 3 _ rfl
  obtain⟨wa,ewa⟩:=wrow.some_of (by rw[ints_length];omega)
  rw[ewa] at wrow
  refine idxI_i ewa (k:=x0) rfl (by omega) ?_
  simp only[Int.toNat_natCast]
  refine ldInt_i (n:=(w0:Int)) (wrow.cell (ints_get (by rw[hw,List.getElem?_map,List.getElem?_range (by omega),Option.map_some,ew0]))) ?_
  have hins: ∀x∈nv.inn.xs.map F,x.fact.P g∧x.ok∧x.l≤2 ^ 30:=fun x hx=>by
   obtain⟨j,hj,rfl⟩:=List.mem_map.1 hx
   have h1:=hF j (A.ahead j hj)
   have h2:=A.inn j hj
   have h3:=hb j h2.1 h2.2
   rw[←h1.2.1,Fm.len h1.1] at h3
   exact⟨fact S j (A.ahead j hj),h1.1,h3⟩
  refine(Node18_ok A.ok (S.r 1 _ rfl nv.rows (List.mem_map_of_mem hmem)) (by omega) hsz.2.1 hsz.2.2 A.chk (S.own 9 rfl).row hins (by rw[List.length_map];exact hil2) h1.1 (by omega) (by omega)).mono ?_
  rintro _ g7 ⟨fn,rfl,fnok,fnfr,S1⟩
  replace S:=S.add S1 fun _ _ h=>h
  dsimp only[List.cons_append,List.nil_append] at S
  have efr:(nv.inn.xs.map F).map Fm.fr=nv.nd.inn.map V:=by
   rw[List.map_map]
   exact List.map_congr_left fun j hj=>(hF j (A.ahead j hj)).2.1
  have eW:(W (nv.nd.inn.getD 0 0)).toNat=w0:=by
   have:nv.nd.inn.getD 0 0=(x0:Int):=by
    show nv.inn.xs.getD 0 0=_
    rw[getD_eq (by omega),ex0]
   rw[this,ew0,Int.toNat_natCast]
  have eV:fn.fr=V ((i:Int)+1):=by rw[hV i nv.nd A.nd,eW,←efr];exact fnfr
  refine⟨_,_,_,rfl,S.cell 5 rfl rfl,ldo (W2:=[_,_,_]) S,S.cell 5 rfl rfl,idxI_i rfl (k:=i+1) (by omega) (by omega) ?_⟩
  rw[show((i:Int)+1).toNat=i+1 by omega]
  simp only[add_mk,Nat.zero_add,Nat.mul_one]
  refine stI_S S 6 rfl (by rw[cellsK_length];omega) fun g8 _ S=> ?_
  dsimp only[List.set] at S
  have S2:=S.joinR [0,1,2,3,4,5,6] 7 10 rfl rfl
  dsimp only[Sh.pick,List.cons_append,List.nil_append,List.getElem?_cons_zero,List.getElem?_cons_succ] at S2
  rw[wrap64_in (by omega)]
  refine⟨gv.l-(k+1),by omega,k+1,fun x=>if x=(i:Int)+1 then fn else F x,Z++[fn.fact],rfl,by omega,rfl,fun x hx=> ?_,?_⟩
  ·dsimp only
   rw[A.take] at hx
   by_cases hxi:x=(i:Int)+1
   ·rw[if_pos hxi,hxi]
    exact⟨fnok,eV,.inr Cov.last⟩
   ·rw[if_neg hxi]
    rcases List.mem_append.1 hx with hx|hx
    ·obtain⟨q1,q2,q3⟩:=hF x hx
     refine⟨q1,q2,?_⟩
     rcases q3 with h|h
     ·exact .inl h
     ·exact .inr h.left
    ·simp only[List.mem_singleton] at hx;exact absurd hx hxi
  ·have e:=cellsK_set (n:=gv.l) (F:=F) (F':=fun x=>if x=(i:Int)+1 then fn else F x) (D:=ahead gv k) (i:=i) (by omega) (fun x hx=>if_neg hx)
   rw[if_pos rfl] at e
   rw[A.take,←e]
   exact S2
end
end Go.Proofs.YtbgplllcjhgdhaaGreatDoor.G
