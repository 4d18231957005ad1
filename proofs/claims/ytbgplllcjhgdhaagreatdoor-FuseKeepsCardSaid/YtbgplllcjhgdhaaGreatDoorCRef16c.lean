/- CRef16 CRef16b CRef16c, in one text. -/
import Derived.Test.YtbgplllcjhgdhaaGreatDoorCGraph5
section
namespace Go.Proofs.YtbgplllcjhgdhaaGreatDoor.G
open Go Go.Sh
set_option linter.unusedVariables false
set_option linter.unusedSimpArgs false
section
variable {h:Heap}
theorem has16_ok {p:Option Addr} {l c:Nat} {xs:List Int} (hx:Row h p (ints xs)) (hl:xs.length=l) (hl2:l<2 ^ 62) (v:Int):
 callP P n_ref16_has #[.slice p l c,.int .i64 v] h fun r h'=>r= .bool (decide (v∈xs))∧h'=h:=by
 refine call_ref16_has _ _ _ _ ?_
 unfold ref16_has
 refine LoopS_i (fun m s g=>g=h∧ ∃i:Nat,s=((p,l,c),v,(i:Int),())∧i≤l∧m=l-i∧v∉xs.take i) l ⟨rfl,0,rfl,by omega,rfl,by simp⟩ ?_
 rintro m s g ⟨rfl,i,rfl,hi,rfl,hall⟩
 unfold ref16_has_l2
 dsimp only
 refine ifB_dec (fun hlt=> ?_) (fun hge=> ?_)
 ·have hix:i<xs.length:=by omega
  obtain⟨aa,rfl⟩:=hx.some_of (by rw[ints_length];omega)
  refine idxI_i rfl rfl (by omega) ?_
  simp only[Int.toNat_natCast,Nat.mul_one]
  refine ldInt_i (hx.cell (ints_get (List.getElem?_eq_getElem hix))) ?_
  refine ifB_beq (fun e=>⟨by rw[decide_eq_true (by rw[←e];exact List.getElem_mem hix)],by trivial⟩) (fun e=> ?_)
  rw[wrap64_in (by omega)]
  refine⟨l-(i+1),by omega,by trivial,i+1,rfl,by omega,rfl,fun hj=> ?_⟩
  rw[List.take_succ_eq_append_getElem hix] at hj
  rcases List.mem_append.1 hj with hj|hj
  ·exact hall hj
  ·simp only[List.mem_singleton] at hj;exact e hj.symm
 ·rw[List.take_of_length_le (by omega)] at hall
  exact⟨by rw[decide_eq_false hall],rfl⟩
theorem first16_ok {gv:Gv} (hok:gv.ok) (hn:Row h gv.p (nflat gv.ns)) (hr:(nrows gv.ns).P h) (hl:gv.l<2 ^ 56) (hs: ∀n∈gv.ns,n.inn.l<2 ^ 62):callP P n_ref16_first #[gv.v] h fun v h'=>v= .int .i64 gv.gr.first∧Fra no h h':=by
 refine call_ref16_first _ ?_
 unfold ref16_first
 have hgl:=hok.1
 have hgn:gv.gr.nodes.length=gv.l:=by rw[←hgl];simp[Gv.gr]
 have S:=((Sep.start h no).read (row gv.p (nflat gv.ns)) hn).read (nrows gv.ns) hr
 refine newI_S (cs:=gv.cells) S fun b1 h1 _ S=> ?_
 dsimp only[List.nil_append,List.cons_append] at S
 refine ldSlice_i (p:=gv.p) (l:=gv.l) (c:=gv.c) (S.cell 0 rfl rfl) ?_
 have r22:(gv.gr.nodes.length<1∨12<gv.gr.nodes.length)→ ∀g,Sep h no g [blk b1 gv.cells] [row gv.p (nflat gv.ns),nrows gv.ns]→Value.int .i64 22= .int .i64 gv.gr.first∧Fra no h g:=fun hh g S=>⟨by unfold Gr.first;rw[if_pos hh],S.fra⟩
 refine⟨fun s g=>s=(⟨b1,0,none⟩,(gv.l:Int),())∧ ¬(gv.gr.nodes.length<1∨12<gv.gr.nodes.length)∧Sep h no g [blk b1 gv.cells] [row gv.p (nflat gv.ns),nrows gv.ns],?_,ifB_dec (fun h1=>r22 (by omega) _ S) fun h1=>ifB_dec (fun h2=>r22 (by omega) _ S) fun h2=>⟨rfl,by omega,S⟩⟩
 clear S r22
 rintro s g ⟨rfl,n1,S⟩
 unfold ref16_first_j4
 simp only[add_mk,Nat.zero_add]
 have r1:(gv.width<1∨16<gv.width∨gv.low>gv.high∨gv.low< -32768∨gv.high>32767∨gv.out<1∨gv.out>(gv.gr.nodes.length:Int))→ ∀g,Sep h no g [blk b1 gv.cells] [row gv.p (nflat gv.ns),nrows gv.ns]→Value.int .i64 1= .int .i64 gv.gr.first∧Fra no h g:=
  fun hh g S=>⟨by unfold Gr.first;rw[if_neg n1];exact congrArg _ (if_pos hh).symm,S.fra⟩
 refine⟨fun s g=>s=(⟨b1,0,none⟩,(gv.l:Int),())∧ ¬(gv.width<1∨16<gv.width∨gv.low>gv.high∨gv.low< -32768∨gv.high>32767∨gv.out<1∨gv.out>(gv.gr.nodes.length:Int))∧Sep h no g [blk b1 gv.cells] [row gv.p (nflat gv.ns),nrows gv.ns],?_,?_⟩
 ·rintro s g ⟨rfl,n2,S⟩
  unfold ref16_first_j6
  dsimp only
  have fin: ∀g,Sep h no g [blk b1 gv.cells] [row gv.p (nflat gv.ns),nrows gv.ns]→(∀n∈gv.ns,fitR 0 (gv.l:Int) n.inn.xs)→Value.int .i64 0= .int .i64 gv.gr.first∧Fra no h g:=fun g S hall=>⟨by
   have: ∀n∈gv.gr.nodes,fitR 0 (gv.gr.nodes.length:Int) n.inn:=fun n hn'=>by
    obtain⟨m,hm,rfl⟩:=List.mem_map.1 hn'
    rw[hgn];exact hall m hm
   unfold Gr.first;rw[if_neg n1]
   exact congrArg _ (((if_neg n2).trans (if_pos this)).symm),S.fra⟩
  have bad: ∀g,Sep h no g [blk b1 gv.cells] [row gv.p (nflat gv.ns),nrows gv.ns]→(∃n∈gv.ns,¬fitR 0 (gv.l:Int) n.inn.xs)→Value.int .i64 1= .int .i64 gv.gr.first∧Fra no h g:=fun g S ⟨m,hm,hb⟩=>⟨by
   have: ¬ ∀n∈gv.gr.nodes,fitR 0 (gv.gr.nodes.length:Int) n.inn:=fun hall=>by
    have:=hall m.nd (List.mem_map_of_mem hm)
    rw[hgn] at this;exact hb this
   unfold Gr.first;rw[if_neg n1]
   exact congrArg _ (((if_neg n2).trans (if_neg this)).symm),S.fra⟩
  refine LoopS_i (fun m s g=> ∃i:Nat,s=(⟨b1,0,none⟩,(gv.l:Int),(i:Int),())∧i≤gv.l∧m=gv.l-i∧(∀n∈gv.ns.take i,fitR 0 (gv.l:Int) n.inn.xs)∧Sep h no g [blk b1 gv.cells] [row gv.p (nflat gv.ns),nrows gv.ns]) gv.l ⟨0,rfl,by omega,rfl,by simp,S⟩ ?_
  clear S
  rintro m s g ⟨i,rfl,hi,rfl,hall,S⟩
  unfold ref16_first_l7
  dsimp only
  refine ifB_dec (fun hlt=> ?_) (fun hge=> ?_)
  ·have hig:i<gv.ns.length:=by omega
   obtain⟨nv,en⟩: ∃n,gv.ns[i]? =some n:=⟨_,List.getElem?_eq_getElem hig⟩
   have en':gv.ns[i]=nv:=by rw[List.getElem?_eq_getElem hig] at en;exact Option.some.inj en
   have hmem:=List.mem_of_getElem? en
   have nok:=hok.2.2 nv hmem
   have ilen:nv.inn.xs.length=nv.inn.l:=nok.1.1
   have hsz:=hs nv hmem
   refine LoopS_i (fun m s g=> ∃j:Nat,s=(⟨b1,0,none⟩,(gv.l:Int),(i:Int),(j:Int),())∧j≤nv.inn.l∧m=nv.inn.l-j∧fitR 0 (gv.l:Int) (nv.inn.xs.take j)∧Sep h no g [blk b1 gv.cells] [row gv.p (nflat gv.ns),nrows gv.ns]) nv.inn.l ⟨0,rfl,by omega,rfl,by rw[List.take_zero];exact fitR_nil _ _,S⟩ ?_
   clear S
   rintro m s g ⟨j,rfl,hj,rfl,hfit,S⟩
   unfold ref16_first_l10
   simp only[add_mk,Nat.zero_add]
   have ldg:cellH g ⟨b1,3,none⟩=some (.slice gv.p gv.l gv.c):=S.cell 0 rfl rfl
   obtain⟨a,ea⟩:=(S.row 0 rfl).some_of (by rw[nflat_length];omega)
   have hrow:Row g (some a) (nflat gv.ns):=by rw[←ea];exact S.row 0 rfl
   have hcell:cellH g ((a.add (i*15)).add 1)=some nv.inn.v:=by
    have:=hrow.cell (i:=i*15+1) (v:=nv.inn.v) (by rw[nflat_at en (by decide)];rfl)
    rw[add_add _ _ (by decide)];exact this
   refine ldSlice_i (p:=gv.p) (l:=gv.l) (c:=gv.c) ldg (idxI_i ea rfl (by omega) ?_)
   simp only[Int.toNat_natCast]
   refine ldSlice_i (p:=nv.inn.p) (l:=nv.inn.l) (c:=nv.inn.c) hcell ?_
   refine ifB_dec (fun hlt2=> ?_) (fun hge2=> ?_)
   ·have hjx:j<nv.inn.xs.length:=by omega
    refine ldSlice_i (p:=gv.p) (l:=gv.l) (c:=gv.c) ldg (idxI_i ea rfl (by omega) ?_)
    refine ldSlice_i (p:=nv.inn.p) (l:=nv.inn.l) (c:=nv.inn.c) hcell ?_
    have irow:Row g nv.inn.p (ints nv.inn.xs):=S.r 1 _ rfl _ (List.mem_map_of_mem hmem) nv.inn.row (by simp)
    obtain⟨aa,eaa⟩:=irow.some_of (by rw[ints_length];omega)
    have irow2:Row g (some aa) (ints nv.inn.xs):=by rw[←eaa];exact irow
    refine idxI_i eaa rfl (by omega) ?_
    simp only[Int.toNat_natCast,Nat.mul_one]
    have lx:=irow2.cell (ints_get (List.getElem?_eq_getElem hjx))
    refine ldInt_i lx (ifB_dec (fun hneg=>bad g S ⟨nv,hmem,fun hf=> ?_⟩) (fun hneg=> ?_))
    ·have:=hf _ (List.getElem_mem hjx);omega
    refine ldSlice_i (p:=gv.p) (l:=gv.l) (c:=gv.c) ldg (idxI_i ea rfl (by omega) ?_)
    refine ldSlice_i (p:=nv.inn.p) (l:=nv.inn.l) (c:=nv.inn.c) hcell (idxI_i eaa rfl (by omega) ?_)
    refine ldInt_i lx (ifB_dec (fun hbig=>bad g S ⟨nv,hmem,fun hf=> ?_⟩) (fun hbig=> ?_))
    ·have:=hf _ (List.getElem_mem hjx);omega
    rw[wrap64_in (by omega)]
    refine⟨nv.inn.l-(j+1),by omega,j+1,rfl,by omega,rfl,fun x hx=> ?_,S⟩
    rw[List.take_succ_eq_append_getElem hjx] at hx
    rcases List.mem_append.1 hx with hx|hx
    ·exact hfit x hx
    ·simp only[List.mem_singleton] at hx;subst hx;omega
   ·rw[wrap64_in (by omega)]
    refine⟨gv.l-(i+1),by omega,i+1,rfl,by omega,rfl,fun n hn'=> ?_,S⟩
    rw[List.take_succ_eq_append_getElem hig,en'] at hn'
    rcases List.mem_append.1 hn' with hn'|hn'
    ·exact hall n hn'
    ·simp only[List.mem_singleton] at hn';subst hn'
     rw[List.take_of_length_le (by omega)] at hfit;exact hfit
  ·rw[List.take_of_length_le (by omega)] at hall
   exact fin g S hall
 ·refine ldInt_i (n:=gv.width) (S.cell 0 rfl rfl) (ifB_dec (fun c1=>r1 (.inl c1) _ S) fun c1=> ?_)
  refine ldInt_i (n:=gv.width) (S.cell 0 rfl rfl) (ifB_dec (fun c2=>r1 (.inr (.inl (by omega))) _ S) fun c2=> ?_)
  refine ldInt_i (n:=gv.low) (S.cell 0 rfl rfl) (ldInt_i (n:=gv.high) (S.cell 0 rfl rfl) (ifB_dec (fun c3=>r1 (.inr (.inr (.inl c3))) _ S) fun c3=> ?_))
  refine ldInt_i (n:=gv.low) (S.cell 0 rfl rfl) (ifB_dec (fun c4=>r1 (.inr (.inr (.inr (.inl c4)))) _ S) fun c4=> ?_)
  refine ldInt_i (n:=gv.high) (S.cell 0 rfl rfl) (ifB_dec (fun c5=>r1 (.inr (.inr (.inr (.inr (.inl c5))))) _ S) fun c5=> ?_)
  refine ldInt_i (n:=gv.out) (S.cell 0 rfl rfl) (ifB_dec (fun c6=>r1 (.inr (.inr (.inr (.inr (.inr (.inl c6)))))) _ S) fun c6=> ?_)
  refine ldInt_i (n:=gv.out) (S.cell 0 rfl rfl) (ifB_dec (fun c7=>r1 (.inr (.inr (.inr (.inr (.inr (.inr (by rw[hgn];exact c7))))))) _ S) fun c7=>⟨rfl,?_,S⟩)
  rw[hgn];omega
theorem order16_ok {gv:Gv} (hok:gv.ok) (hn:Row h gv.p (nflat gv.ns)) (hr:(nrows gv.ns).P h) (hl:gv.l≤2 ^ 20) (hs: ∀n∈gv.ns,n.inn.l<2 ^ 62):
 callP P n_ref16_order #[gv.v] h fun v h'=> ∃(q:Option Addr) (m d:Nat),v= .slice q m d∧m≤d∧(ordG gv.gr.nodes).length=m∧Sep h no h' [row q (ints (ordG gv.gr.nodes))] []:=by
 refine call_ref16_order _ ?_
 unfold ref16_order
 have hgl:=hok.1
 have S:=((Sep.start h no).read (row gv.p (nflat gv.ns)) hn).read (nrows gv.ns) hr
 refine newI_S (cs:=gv.cells) S fun b1 h1 _ S=> ?_
 dsimp only[List.nil_append,List.cons_append] at S
 refine newI_S (cs:=[.int .i64 0]) S fun b3 h2 _ S=> ?_
 dsimp only[List.nil_append,List.cons_append] at S
 obtain⟨nds,ends⟩: ∃nds,gv.gr.nodes=nds:=⟨_,rfl⟩
 have ends':gv.ns.map Nv.nd=nds:=ends
 have hnl:nds.length=gv.l:=by rw[←ends',List.length_map,hgl]
 rw[ends]
 replace S:=S.toOwn 1 1 1 1 rfl (Nat.le_refl _)
 refine LoopS_i (fun mm s g=> ∃(k:Nat) (q:Option Addr) (m d:Nat),s=(⟨b1,0,none⟩,(q,m,d),(k:Int),())∧k≤gv.l∧mm=gv.l-k∧(ordK nds k).length=m∧
  Sep h no g [blk b1 gv.cells,own 1 q m d (ints (ordK nds k))] [row gv.p (nflat gv.ns),nrows gv.ns]) gv.l ⟨0,_,1,1,rfl,by omega,rfl,rfl,S⟩ ?_
 clear S
 rintro mm s g ⟨k,q,m,d,rfl,hk,rfl,hm,S⟩
 have hmk:m≤k+1:=by
  have:=ordK_length nds k
  rw[List.length_tail] at this;omega
 unfold ref16_order_l3
 simp only[add_mk,Nat.zero_add]
 refine ldSlice_i (p:=gv.p) (l:=gv.l) (c:=gv.c) (S.cell 0 rfl rfl) ?_
 have ek:IntKind.wrap .i64 ((k:Int)+1)=((k+1:Nat):Int):=by rw[wrap64_in (by omega)];rfl
 refine ifB_dec (fun hlt=> ?_) (fun hge=> ?_)
 ·refine LoopS_i (fun mm s g=> ∃t:Nat,s=(⟨b1,0,none⟩,(q,m,d),(k:Int),(t:Int)+1,())∧t≤gv.l∧mm=gv.l-t∧nextO (ordK nds k) (nds.drop t) t=nextO (ordK nds k) nds 0∧
   Sep h no g [blk b1 gv.cells,own 1 q m d (ints (ordK nds k))] [row gv.p (nflat gv.ns),nrows gv.ns]) gv.l ⟨0,rfl,by omega,rfl,by rw[List.drop_zero],S⟩ ?_
  clear S
  rintro mm s g ⟨t,rfl,ht,rfl,hnx,S⟩
  unfold ref16_order_l6
  simp only[add_mk,Nat.zero_add]
  refine ldSlice_i (p:=gv.p) (l:=gv.l) (c:=gv.c) (S.cell 0 rfl rfl) ?_
  refine ifB_dec (fun hlt2=> ?_) (fun hge2=> ?_)
  ·have htg:t<gv.ns.length:=by omega
   have htd:t<nds.length:=by omega
   obtain⟨nv,en⟩: ∃n,gv.ns[t]? =some n:=⟨_,List.getElem?_eq_getElem htg⟩
   have hmem:=List.mem_of_getElem? en
   have nok:=hok.2.2 nv hmem
   have ilen:nv.inn.xs.length=nv.inn.l:=nok.1.1
   have hsz:=hs nv hmem
   have endt:nds[t]=nv.nd:=by
    have:nds[t]? =some nv.nd:=by rw[←ends',List.getElem?_map,en];rfl
    rw[List.getElem?_eq_getElem htd] at this;exact Option.some.inj this
   refine(has16_ok (S.own 1 rfl).row hm (by omega) ((t:Int)+1)).mono ?_
   rintro _ g1 ⟨rfl,hg⟩
   subst g1
   refine⟨_,rfl,?_⟩
   refine ldSlice_i (p:=gv.p) (l:=gv.l) (c:=gv.c) (S.cell 0 rfl rfl) ?_
   have et:IntKind.wrap .i64 ((t:Int)+1-1)=(t:Int):=by rw[wrap64_in (by omega)];omega
   rw[et]
   obtain⟨a,ea⟩:=(S.row 0 rfl).some_of (by rw[nflat_length];omega)
   have hrow:Row g (some a) (nflat gv.ns):=by rw[←ea];exact S.row 0 rfl
   have hcell:cellH g ((a.add (t*15)).add 1)=some nv.inn.v:=by
    have:=hrow.cell (i:=t*15+1) (v:=nv.inn.v) (by rw[nflat_at en (by decide)];rfl)
    rw[add_add _ _ (by decide)];exact this
   refine idxI_i ea rfl (by omega) ?_
   simp only[Int.toNat_natCast]
   refine ldSlice_i (p:=nv.inn.p) (l:=nv.inn.l) (c:=nv.inn.c) hcell ?_
   refine LoopS_i (fun mm s g=> ∃(j:Nat) (may:Bool),s=(⟨b1,0,none⟩,(q,m,d),(k:Int),(t:Int)+1,may,(nv.inn.p,nv.inn.l,nv.inn.c),(j:Int),())∧j≤nv.inn.l∧mm=nv.inn.l-j∧(may=true↔((t:Int)+1)∉ordK nds k∧ ∀x∈nv.inn.xs.take j,x∈ordK nds k)∧
    Sep h no g [blk b1 gv.cells,own 1 q m d (ints (ordK nds k))] [row gv.p (nflat gv.ns),nrows gv.ns]) nv.inn.l ⟨0,_,rfl,by omega,rfl,by simp,S⟩ ?_
   clear S hrow hcell
   rintro mm s g ⟨j,may,rfl,hj,rfl,hmay,S⟩
   unfold ref16_order_l11
   dsimp only
   have ej:IntKind.wrap .i64 ((j:Int)+1)=((j+1:Nat):Int):=by rw[wrap64_in (by omega)];rfl
   rw[ej]
   refine ifB_dec (fun hlt3=> ?_) (fun hge3=> ?_)
   ·have hjx:j<nv.inn.xs.length:=by omega
    have htk:nv.inn.xs.take (j+1)=nv.inn.xs.take j++[nv.inn.xs[j]]:=List.take_succ_eq_append_getElem hjx
    refine ifB_known (fun hb=> ?_) (fun hb=> ?_)
    ·have irow:Row g nv.inn.p (ints nv.inn.xs):=S.r 1 _ rfl _ (List.mem_map_of_mem hmem) nv.inn.row (by simp)
     obtain⟨aa,eaa⟩:=irow.some_of (by rw[ints_length];omega)
     rw[eaa] at irow
     refine idxI_i eaa rfl (by omega) ?_
     simp only[Int.toNat_natCast,Nat.mul_one]
     refine ldInt_i (irow.cell (ints_get (List.getElem?_eq_getElem hjx))) ?_
     refine(has16_ok (S.own 1 rfl).row hm (by omega) nv.inn.xs[j]).mono ?_
     rintro _ _ ⟨rfl,rfl⟩
     refine⟨_,rfl,nv.inn.l-(j+1),by omega,j+1,_,rfl,by omega,rfl,?_,S⟩
     rw[htk,decide_eq_true_iff]
     have:=hmay.1 hb
     constructor
     ·intro hx
      refine⟨this.1,fun y hy=> ?_⟩
      rcases List.mem_append.1 hy with hy|hy
      ·exact this.2 y hy
      ·simp only[List.mem_singleton] at hy;subst hy;exact hx
     ·intro hh;exact hh.2 _ (List.mem_append_right _ (List.mem_singleton.2 rfl))
    ·refine⟨nv.inn.l-(j+1),by omega,j+1,false,rfl,by omega,rfl,?_,S⟩
     rw[htk]
     constructor
     ·intro h;cases h
     ·intro hh
      have:=hmay.2 ⟨hh.1,fun y hy=>hh.2 y (List.mem_append_left _ hy)⟩
      rw[hb] at this;cases this
   ·rw[List.take_of_length_le (by omega)] at hmay
    have hin:nds[t].inn=nv.inn.xs:=by rw[endt];rfl
    refine ifB_known (fun hb=> ?_) (fun hb=> ?_)
    ·have hc:=hmay.1 hb
     have hhere:=nextO_here htd (by rw[hin];exact hc)
     rw[hhere] at hnx
     have hstep:ordK nds (k+1)=ordK nds k++[(t:Int)+1]:=by
      show stepO nds (ordK nds k)=_
      unfold stepO
      rw[←hnx]
     refine newI_S (cs:=[.int .i64 ((t:Int)+1)]) S fun b19 h20 _ S=> ?_
     dsimp only[List.cons_append,List.nil_append] at S
     refine appI_S S 1 (ys:=ints [(t:Int)+1]) rfl rfl (by decide) (by omega) (Row.of_at (S.at 2 rfl)) rfl vals_one fun p2 l2 c2 h9 hl2 S=> ?_
     dsimp only[List.set] at S
     rw[ek]
     refine⟨gv.l-(k+1),by omega,k+1,p2,l2,c2,rfl,by omega,rfl,by rw[hstep,List.length_append,hm];exact hl2.symm,?_⟩
     have e:ints (ordK nds k)++ints [(t:Int)+1]=ints (ordK nds (k+1)):=by rw[hstep];simp only[ints,List.map_append,List.map_cons,List.map_nil]
     rw[e] at S
     exact S.pw [0,1]
    ·have hnc: ¬(((t:Int)+1)∉ordK nds k∧ ∀j∈nds[t].inn,j∈ordK nds k):=fun hh=>by
      rw[hin] at hh
      have:=hmay.2 hh
      rw[hb] at this;cases this
     have ew:IntKind.wrap .i64 ((t:Int)+1+1)=((t+1:Nat):Int)+1:=by rw[wrap64_in (by omega)];omega
     rw[ew]
     exact⟨gv.l-(t+1),by omega,t+1,rfl,by omega,rfl,by rw[nextO_drop htd hnc];exact hnx,S⟩
  ·have:t=nds.length:=by omega
   subst this
   rw[List.drop_length] at hnx
   have hnone:nextO (ordK nds k) nds 0=none:=hnx.symm
   have hstep:ordK nds (k+1)=ordK nds k:=by
    show stepO nds (ordK nds k)=_
    unfold stepO
    rw[hnone]
   rw[ek]
   refine⟨gv.l-(k+1),by omega,k+1,q,m,d,rfl,by omega,rfl,by rw[hstep];exact hm,?_⟩
   rw[hstep];exact S
 ·have:k=nds.length:=by omega
  subst this
  have hcons:=ordK_cons nds nds.length
  have h1m:1≤m:=by rw[←hm,hcons];simp
  have o:=S.own 1 rfl
  have hmd:=o.2.1
  refine bndI_i (n:=1) rfl h1m ?_
  refine⟨_,_,_,rfl,by omega,by unfold ordG;rw[List.length_tail,hm],?_⟩
  have S2:=S.turn 1 rfl (row (if d=1 then q else Option.map (fun a=>a.add (1*1)) q) (ints (ordG nds))) (fun hh=> ?_) (fun b hb=> ?_)
  ·exact noR (S2.pw [1])
  ·have r:=Own.row hh
   have e:(ints (ordK nds nds.length)).drop 1=ints (ordG nds):=by rw[ints_drop];unfold ordG;rw[List.drop_one]
   by_cases hd:d=1
   ·rw[if_pos hd]
    have:ordG nds=[]:=by
     have:(ordG nds).length=0:=by unfold ordG;rw[List.length_tail,hm];omega
     exact List.length_eq_zero_iff.1 this
    show Row _ _ _
    rw[this];exact Row.nil _ _
   ·rw[if_neg hd]
    have:=r.drop' 1 (by rw[ints_length,hm];omega)
    rw[e] at this
    exact this
  ·by_cases hd:d=1
   ·rw[if_pos hd] at hb;exact hb.2
   ·rw[if_neg hd] at hb
    obtain⟨_,a,ha,hb⟩:=hb
    obtain⟨a0,e0,rfl⟩:=Option.map_eq_some_iff.1 ha
    exact⟨a0,e0,hb⟩
theorem rate16_ok {nv:Nv} {p:Option Addr} {l c:Nat} {rs:List Int} (hw:Row h p (ints rs)) (hl:rs.length=l) (h1l:1≤l) (hl2:l<2 ^ 56) (hr:0≤rs.getD 0 0∧rs.getD 0 0≤2 ^ 30) (hs:four nv.kind→0≤nv.step∧nv.step≤2 ^ 20):
 callP P n_ref16_rate #[nv.v,.slice p l c] h fun v h'=>v= .int .i64 (rateN nv.nd rs)∧Fra no h h':=by
 refine call_ref16_rate _ _ _ _ ?_
 unfold ref16_rate
 have S:=(Sep.start h no).read (row p (ints rs)) hw
 refine newI_S (cs:=nv.cells) S fun b1 h1 _ S=> ?_
 dsimp only[List.nil_append,List.cons_append] at S
 have hx:=S.row 0 rfl
 obtain⟨aa,epa⟩:=hx.some_of (by rw[ints_length];omega)
 rw[epa] at hx
 refine idxI_i epa (k:=0) rfl (by omega) ?_
 refine ldInt_i (n:=rs.getD 0 0) (hx.cell (i:=0) (ints_get (by rw[List.getElem?_eq_getElem (by omega),getD_eq (by omega)]))) ?_
 generalize hr0:rs.getD 0 0=r at hr ⊢
 have eR:rateN nv.nd rs=if ¬ ∀x∈rs,x=r then-1 else if r=0∧(wins nv.kind∨nv.kind=5) then-1 else if nv.kind=5 then 0 else r*stepN nv.kind nv.step:=by
  unfold rateN;rw[hr0];rfl
 refine LoopS_i (fun m s g=> ∃i:Nat,s=((p,l,c),⟨b1,0,none⟩,r,(i:Int),())∧i≤l∧m=l-i∧(∀x∈rs.take i,x=r)∧Sep h no g [blk b1 nv.cells] [row p (ints rs)]) l ⟨0,rfl,by omega,rfl,by simp,S⟩ ?_
 clear S hx
 rintro m s g ⟨i,rfl,hi,rfl,hall,S⟩
 unfold ref16_rate_l3
 dsimp only
 refine ifB_dec (fun hlt=> ?_) (fun hge=> ?_)
 ·have hix:i<rs.length:=by omega
  have hx:=S.row 0 rfl
  rw[epa] at hx
  refine idxI_i epa rfl (by omega) ?_
  simp only[Int.toNat_natCast,Nat.mul_one]
  refine ldInt_i (hx.cell (ints_get (List.getElem?_eq_getElem hix))) (ifB_bne (fun hne=>⟨?_,S.fra⟩) (fun he=> ?_))
  ·rw[eR,if_pos (fun hh=>hne (hh _ (List.getElem_mem hix)))]
  ·rw[wrap64_in (by omega)]
   refine⟨l-(i+1),by omega,i+1,rfl,by omega,rfl,fun x hx'=> ?_,S⟩
   rw[List.take_succ_eq_append_getElem hix] at hx'
   rcases List.mem_append.1 hx' with hx'|hx'
   ·exact hall x hx'
   ·simp only[List.mem_singleton] at hx';subst hx';exact he
 ·rw[List.take_of_length_le (by omega)] at hall
  have na: ¬ ¬ ∀x∈rs,x=r:=fun h=>h hall
  rw[if_neg na] at eR
  have hst:0≤stepN nv.kind nv.step∧stepN nv.kind nv.step≤2 ^ 20:=by
   unfold stepN;split
   ·rename_i h;exact hs h
   ·decide
  have hm:0≤r*stepN nv.kind nv.step∧r*stepN nv.kind nv.step≤2 ^ 50:=by
   refine⟨Int.mul_nonneg hr.1 hst.1,?_⟩
   have:=Int.mul_le_mul hr.2 hst.2 hst.1 (by decide)
   omega
  have tail: ¬(r=0∧(wins nv.kind∨nv.kind=5))→ldInt .i64 g ⟨b1,0,none⟩ fun n=>ifB (n==(5:Int)) (Value.int .i64 0= .int .i64 (rateN nv.nd rs)∧Fra no h g) (ldAg ndSh g ⟨b1,0,none⟩ fun x=>callInt P .i64 n_ref14_Step #[agS ndSh x] g fun n h14=>Value.int .i64 (IntKind.wrap .i64 (r*n))= .int .i64 (rateN nv.nd rs)∧Fra no h h14):=fun hn=>by
   rw[if_neg hn] at eR
   refine ldInt_i (n:=nv.kind) (S.cell 0 rfl rfl) (ifB_beq (fun h5=>⟨by rw[eR,if_pos h5],S.fra⟩) (fun h5=> ?_))
   rw[if_neg h5] at eR
   refine ldAg_S S 0 rfl (x:=nv.t) rfl ?_
   refine(Step14_ok nv).mono ?_
   rintro _ g2 ⟨rfl,F⟩
   refine⟨_,rfl,?_,S.fra.trans F⟩
   rw[wrap64_in (by omega),eR]
  refine ldInt_i (n:=nv.kind) (S.cell 0 rfl rfl) ?_
  refine(Windows14_ok nv.kind).mono ?_
  rintro _ _ ⟨rfl,rfl⟩
  refine⟨_,rfl,?_⟩
  refine ifB_beq (fun h0=> ?_) (fun h0=>tail fun hh=>h0 hh.1)
  refine ifB_dec (fun hw=>⟨by rw[eR,if_pos ⟨h0,.inl hw⟩],S.fra⟩) (fun hw=> ?_)
  refine ldInt_i (n:=nv.kind) (S.cell 0 rfl rfl) (ifB_beq (fun h5=>⟨by rw[eR,if_pos ⟨h0,.inr h5⟩],S.fra⟩) (fun h5=> ?_))
  exact tail fun hh=>hh.2.elim hw h5
end
end Go.Proofs.YtbgplllcjhgdhaaGreatDoor.G
end
section
namespace Go.Proofs.YtbgplllcjhgdhaaGreatDoor.G
open Go Go.Sh
set_option linter.unusedVariables false
set_option linter.unusedSimpArgs false
def LookR (k:Known) (h:Heap) (v:Value) (h':Heap):Prop:=
 ∃o w r:Sl,v= .agg #[o.v,w.v,r.v,.int .i64 k.e]∧o.xs=k.order∧w.xs=k.widths∧r.xs=k.rates∧o.ok∧w.ok∧r.ok∧Sep h no h' [row o.p (ints o.xs),row w.p (ints w.xs),row r.p (ints r.xs)] []
theorem pushRow {h0 h:Heap} {T:Nat→Prop} {W:List Fact} (S:Sep h0 T h W []) (p:Option Addr):Sep h0 T h (W++[row p []]) []:=by
 have:=S.add (W1:=[row p []]) (R1:=[]) (U:=no) (Sep.one (Fra.refl _ _) (Row.nil _ _) fun b hb hlt=>absurd rfl hb.1) fun b hb hu=>hu
 exact this
theorem LookR.err {k:Known} {h h':Heap} {W R:List Fact} (S:Sep h no h' W R) {e:Int} (hk:k=⟨e,[],[],[]⟩):LookR k h (.agg #[.slice none 0 0,.slice none 0 0,.slice none 0 0,.int .i64 e]) h':=by
 subst hk
 refine⟨Sl.nil,Sl.nil,Sl.nil,rfl,rfl,rfl,rfl,⟨rfl,Nat.le_refl _⟩,⟨rfl,Nat.le_refl _⟩,⟨rfl,Nat.le_refl _⟩,?_⟩
 exact pushRow (pushRow (pushRow (noR (S.pw [])) none) none) none
section
variable {h:Heap}
theorem look16_l11_ok {b1 b3 b31 bw br:Nat} {gv:Gv} {q:Option Addr} {m d:Nat} {g:Heap} (hok:gv.ok) (hfirst:gv.gr.first=0) (hs: ∀n∈gv.ns,n.inn.l<2 ^ 40∧n.weights.l<2 ^ 62∧n.bias.l<2 ^ 62) (ho:(ordG gv.gr.nodes).length=gv.gr.nodes.length) (hm:(ordG gv.gr.nodes).length=m) (hmd:m≤d)
 (S:Sep h no g [blk b1 gv.cells,blk b3 [.slice none 0 0,.slice none 0 0,.slice none 0 0,.int .i64 0],blk b31 [.slice q m d,.slice (some ⟨bw,0,none⟩) (gv.l+1) (gv.l+1),.slice (some ⟨br,0,none⟩) (gv.l+1) (gv.l+1),.int .i64 0],row q (ints (ordG gv.gr.nodes)),
  blk bw (ints (gv.width::List.replicate gv.gr.nodes.length 0)),blk br (ints (1::List.replicate gv.gr.nodes.length 0))] [row gv.p (nflat gv.ns),nrows gv.ns]):
 LoopS (S:=(Addr×Addr×(Option Addr×Nat×Nat)×Addr×Int×Unit)) (fun K1 s h'=>ref16_Look_l11 (LookR gv.gr.look h) K1 s.1 s.2.1 s.2.2.1.1 s.2.2.1.2.1 s.2.2.1.2.2 s.2.2.2.1 s.2.2.2.2.1 h') (⟨b1,0,none⟩,⟨b3,0,none⟩,(q,m,d),⟨b31,0,none⟩,(0:Int),()) g:=by
 have hgl:=hok.1
 have hgn:gv.gr.nodes.length=gv.l:=by rw[←hgl];simp[Gv.gr]
 obtain⟨_,h12,_,_,_,hins⟩:=first_ok hfirst
 obtain⟨nds,ends⟩: ∃nds,gv.gr.nodes=nds:=⟨_,rfl⟩
 obtain⟨ord,eord⟩: ∃ord,ordG nds=ord:=⟨_,rfl⟩
 have hordm: ∀x∈ord,1≤x∧x≤(nds.length:Int):=fun x hx=>ordK_mem nds nds.length x (by rw[←eord] at hx;exact hx)
 rw[ends] at S hins h12 hgn ho hm
 rw[eord] at S ho hm
 have elook: ∀r,lookL nds ord (gv.width::List.replicate nds.length 0) (1::List.replicate nds.length 0)=r→gv.gr.look=if r.1≠0 then⟨r.1,[],[],[]⟩ else⟨0,ord,r.2.1,r.2.2⟩:=by
  intro r hr
  unfold Gr.look
  rw[if_neg (by rw[hfirst];simp),ends,eord,if_neg (by rw[ho];simp)]
  have:gv.gr.width=gv.width:=rfl
  rw[this,hr]
 have errs: ∀{e:Int} {g:Heap} {W R:List Fact},Sep h no g (blk b1 gv.cells::blk b3 [.slice none 0 0,.slice none 0 0,.slice none 0 0,.int .i64 0]::W) R→gv.gr.look=⟨e,[],[],[]⟩→
  stI g ⟨b3,0,none⟩ (.slice none 0 0) fun h81=>stI h81 ⟨b3,1,none⟩ (.slice none 0 0) fun h82=>stI h82 ⟨b3,2,none⟩ (.slice none 0 0) fun h83=>stI h83 ⟨b3,3,none⟩ (.int .i64 e) fun h84=>
   ldSlice h84 ⟨b3,0,none⟩ fun p85 l85 c85=>ldSlice h84 ⟨b3,1,none⟩ fun p86 l86 c86=>ldSlice h84 ⟨b3,2,none⟩ fun p87 l87 c87=>ldInt .i64 h84 ⟨b3,3,none⟩ fun n88=>
   LookR gv.gr.look h (.agg #[(.slice p85 l85 c85),(.slice p86 l86 c86),(.slice p87 l87 c87),(.int .i64 n88)]) h84:=by
  intro e g W R S el
  refine stI_S S 1 rfl (Nat.le_of_ble_eq_true rfl) fun _ _ S=> ?_
  dsimp only[List.set] at S
  refine stI_S S 1 rfl (Nat.le_of_ble_eq_true rfl) fun _ _ S=> ?_
  dsimp only[List.set] at S
  refine stI_S S 1 rfl (Nat.le_of_ble_eq_true rfl) fun _ _ S=> ?_
  dsimp only[List.set] at S
  refine stI_S S 1 rfl (Nat.le_of_ble_eq_true rfl) fun _ _ S=> ?_
  dsimp only[List.set] at S
  refine ldSlice_i (p:=none) (l:=0) (c:=0) (S.cell 1 rfl rfl) (ldSlice_i (p:=none) (l:=0) (c:=0) (S.cell 1 rfl rfl) (ldSlice_i (p:=none) (l:=0) (c:=0) (S.cell 1 rfl rfl) (ldInt_i (n:=e) (S.cell 1 rfl rfl) ?_)))
  exact LookR.err S el
 refine LoopS_i (fun mm s g=> ∃(i:Nat) (ws rs:List Int),s=(⟨b1,0,none⟩,⟨b3,0,none⟩,(q,m,d),⟨b31,0,none⟩,(i:Int),())∧i≤m∧mm=m-i∧ws.length=gv.l+1∧rs.length=gv.l+1∧(∀x∈rs,0≤x∧x≤((4 ^ i:Nat):Int))∧
  lookL nds (ord.drop i) ws rs=lookL nds ord (gv.width::List.replicate nds.length 0) (1::List.replicate nds.length 0)∧
  Sep h no g [blk b1 gv.cells,blk b3 [.slice none 0 0,.slice none 0 0,.slice none 0 0,.int .i64 0],blk b31 [.slice q m d,.slice (some ⟨bw,0,none⟩) (gv.l+1) (gv.l+1),.slice (some ⟨br,0,none⟩) (gv.l+1) (gv.l+1),.int .i64 0],row q (ints ord),
   blk bw (ints ws),blk br (ints rs)] [row gv.p (nflat gv.ns),nrows gv.ns]) m
  ⟨0,_,_,rfl,by omega,rfl,by simp[hgn],by simp[hgn],?_,by rw[List.drop_zero],S⟩ ?_
 ·intro x hx
  simp only[List.mem_cons,List.mem_replicate] at hx
  rcases hx with rfl|⟨_,rfl⟩
  ·decide
  ·decide
 clear S
 rintro mm s g ⟨i,ws,rs,rfl,hi,rfl,hwl,hrl,hrs,hlk,S⟩
 unfold ref16_Look_l11
 simp only[add_mk,Nat.zero_add]
 refine ifB_dec (fun hlt=> ?_) (fun hge=> ?_)
 ·have hix:i<ord.length:=by omega
  have hi12:i<12:=by omega
  have rq:Row g q (ints ord):=S.w 3 _ rfl
  obtain⟨qa,eqa⟩:=rq.some_of (by rw[ints_length];omega)
  have hq: ∀{g:Heap},Row g q (ints ord)→Row g (some qa) (ints ord):=fun r=>by rw[←eqa];exact r
  have hxo:=hordm _ (List.getElem_mem hix)
  obtain⟨k,ek⟩: ∃k:Nat,ord[i]=((k+1:Nat):Int):=⟨(ord[i]-1).toNat,by omega⟩
  rw[List.drop_eq_getElem_cons hix,ek] at hlk
  have hkn:k<nds.length:=by omega
  have hkv:k<gv.ns.length:=by omega
  obtain⟨nv,en⟩: ∃n,gv.ns[k]? =some n:=⟨_,List.getElem?_eq_getElem hkv⟩
  have hmem:=List.mem_of_getElem? en
  have nok:=hok.2.2 nv hmem
  have hsz:=hs nv hmem
  have endk:nds[k]? =some nv.nd:=by rw[←ends];simp[Gv.gr,en]
  have hndm:nv.nd∈nds:=List.mem_of_getElem? endk
  have hinb:=hins nv.nd hndm
  have ldo: ∀{g:Heap},Row g q (ints ord)→cellH g (qa.add i)=some (.int .i64 ((k+1:Nat):Int)):=fun r=>(hq r).cell (ints_get (by rw[List.getElem?_eq_getElem hix,ek]))
  refine idxI_i eqa rfl (by omega) ?_
  simp only[Int.toNat_natCast,Nat.mul_one]
  refine ldSlice_i (p:=gv.p) (l:=gv.l) (c:=gv.c) (S.cell 0 rfl rfl) ?_
  refine ldInt_i (n:=((k+1:Nat):Int)) (ldo rq) ?_
  have ewr:IntKind.wrap .i64 (((k+1:Nat):Int)-1)=(k:Int):=by rw[wrap64_in (by omega)];omega
  rw[ewr]
  obtain⟨a,ea⟩:=(S.row 0 rfl).some_of (by rw[nflat_length];omega)
  have hrow:Row g (some a) (nflat gv.ns):=by rw[←ea];exact S.row 0 rfl
  refine idxI_i ea rfl (by omega) ?_
  simp only[Int.toNat_natCast]
  refine ldNode hrow en ?_
  refine newI_S S fun b49 g2 _ S=> ?_
  dsimp only[List.cons_append,List.nil_append] at S
  refine stL_S S 6 rfl rfl (mkS_one rfl) fun g3 _ S=> ?_
  dsimp only[List.set] at S
  have nrow: ∀{g:Heap} {W:List Fact},Sep h no g W [row gv.p (nflat gv.ns),nrows gv.ns]→nv.rows.P g:=fun S=>S.r 1 _ rfl _ (List.mem_map_of_mem hmem)
  have irow: ∀{g:Heap} {W:List Fact},Sep h no g W [row gv.p (nflat gv.ns),nrows gv.ns]→Row g nv.inn.p (ints nv.inn.xs):=fun S=>nrow S nv.inn.row (by simp)
  have ilen:nv.inn.xs.length=nv.inn.l:=nok.1.1
  have hpl:(pickG ws nv.inn.xs).length=nv.inn.l:=by unfold pickG;rw[List.length_map,ilen]
  have hpl2:(pickG rs nv.inn.xs).length=nv.inn.l:=by unfold pickG;rw[List.length_map,ilen]
  have fw:nv.cells=nv.cells:=rfl
  replace S:=(S.nil 1).nil 1
  dsimp only[List.cons_append,List.nil_append] at S
  refine LoopS_i (fun mm s g=> ∃(j:Nat) (pw pr:Option Addr) (lw cw lr cr:Nat),s=(⟨b1,0,none⟩,⟨b3,0,none⟩,(q,m,d),⟨b31,0,none⟩,(i:Int),⟨b49,0,none⟩,(pw,lw,cw),(pr,lr,cr),(j:Int),())∧j≤nv.inn.l∧mm=nv.inn.l-j∧lw=j∧lr=j∧
   Sep h no g [blk b1 gv.cells,blk b3 [.slice none 0 0,.slice none 0 0,.slice none 0 0,.int .i64 0],blk b31 [.slice q m d,.slice (some ⟨bw,0,none⟩) (gv.l+1) (gv.l+1),.slice (some ⟨br,0,none⟩) (gv.l+1) (gv.l+1),.int .i64 0],row q (ints ord),
    blk bw (ints ws),blk br (ints rs),blk b49 nv.cells,own 1 pw lw cw (ints ((pickG ws nv.inn.xs).take j)),own 1 pr lr cr (ints ((pickG rs nv.inn.xs).take j))] [row gv.p (nflat gv.ns),nrows gv.ns]) nv.inn.l
   ⟨0,none,none,0,0,0,0,rfl,by omega,rfl,rfl,rfl,S⟩ ?_
  clear S rq hrow
  rintro mm s g ⟨j,pw,pr,lw,cw,lr,cr,rfl,hj,rfl,elw,elr,S⟩
  unfold ref16_Look_l17
  simp only[add_mk,Nat.zero_add]
  refine ldSlice_i (p:=nv.inn.p) (l:=nv.inn.l) (c:=nv.inn.c) (S.cell 6 rfl rfl) ?_
  refine ifB_dec (fun hlt2=> ?_) (fun hge2=> ?_)
  ·have hjx:j<nv.inn.xs.length:=by omega
   have hxb:=hinb _ (List.getElem_mem hjx)
   have hxb:0≤nv.inn.xs[j]∧nv.inn.xs[j]≤(nds.length:Int):=hxb
   obtain⟨x,ex⟩: ∃x:Nat,nv.inn.xs[j]=(x:Int):=⟨nv.inn.xs[j].toNat,by omega⟩
   obtain⟨aa,eaa⟩:=(irow S).some_of (by rw[ints_length];omega)
   have lx: ∀{g:Heap} {W:List Fact},Sep h no g W [row gv.p (nflat gv.ns),nrows gv.ns]→cellH g (aa.add j)=some (.int .i64 (x:Int)):=fun S=>by
    have:=irow S
    rw[eaa] at this
    exact this.cell (ints_get (by rw[List.getElem?_eq_getElem hjx,ex]))
   have pw1:(pickG ws nv.inn.xs).take (j+1)=(pickG ws nv.inn.xs).take j++[ws.getD x 0]:=by
    rw[List.take_succ_eq_append_getElem (by omega)]
    congr 2
    simp only[pickG,List.getElem_map,ex,Int.toNat_natCast]
   have pr1:(pickG rs nv.inn.xs).take (j+1)=(pickG rs nv.inn.xs).take j++[rs.getD x 0]:=by
    rw[List.take_succ_eq_append_getElem (by omega)]
    congr 2
    simp only[pickG,List.getElem_map,ex,Int.toNat_natCast]
   refine ldSlice_i (p:=some ⟨bw,0,none⟩) (l:=gv.l+1) (c:=gv.l+1) (S.cell 2 rfl rfl) (ldSlice_i (p:=nv.inn.p) (l:=nv.inn.l) (c:=nv.inn.c) (S.cell 6 rfl rfl) ?_)
   refine idxI_i eaa rfl (by omega) ?_
   simp only[Int.toNat_natCast,Nat.mul_one]
   refine ldInt_i (lx S) (idxI_i rfl rfl (by omega) ?_)
   simp only[Int.toNat_natCast,Nat.mul_one,add_mk,Nat.zero_add]
   refine ldInt_i (n:=ws.getD x 0) (S.cell 4 rfl (ints_get (by rw[List.getElem?_eq_getElem (by omega),getD_eq (by omega)]))) ?_
   refine newI_S S fun b64 h65 _ S=> ?_
   dsimp only[List.cons_append,List.nil_append] at S
   refine appI_S S 7 (ys:=ints [ws.getD x 0]) rfl rfl (by decide) (by omega) (Row.of_at (S.at 9 rfl)) rfl vals_one fun p66 l66 c66 h67 hl66 S=> ?_
   dsimp only[List.set] at S
   refine and_i (S.cell 2 rfl rfl) ?_
   refine ldSlice_i (p:=some ⟨br,0,none⟩) (l:=gv.l+1) (c:=gv.l+1) (S.cell 2 rfl rfl) (ldSlice_i (p:=nv.inn.p) (l:=nv.inn.l) (c:=nv.inn.c) (S.cell 6 rfl rfl) ?_)
   refine idxI_i eaa rfl (by omega) ?_
   try simp only[Int.toNat_natCast,Nat.mul_one]
   refine ldInt_i (lx S) (idxI_i rfl rfl (by omega) ?_)
   try simp only[Int.toNat_natCast,Nat.mul_one,add_mk,Nat.zero_add]
   refine ldInt_i (n:=rs.getD x 0) (S.cell 5 rfl (ints_get (by rw[List.getElem?_eq_getElem (by omega),getD_eq (by omega)]))) ?_
   refine newI_S S fun b74 h75 _ S=> ?_
   dsimp only[List.cons_append,List.nil_append] at S
   refine appI_S S 8 (ys:=ints [rs.getD x 0]) rfl rfl (by decide) (by omega) (Row.of_at (S.at 10 rfl)) rfl vals_one fun p76 l76 c76 h77 hl76 S=> ?_
   dsimp only[List.set] at S
   refine and_i (S.cell 2 rfl rfl) ?_
   rw[wrap64_in (n:=(j:Int)+1) (by omega)]
   refine⟨nv.inn.l-(j+1),by omega,j+1,p66,p76,l66,c66,l76,c76,rfl,by omega,rfl,by omega,by omega,?_⟩
   rw[pw1,pr1]
   have e1: ∀(l:List Int) (y:Int),ints (l++[y])=ints l++ints [y]:=fun l y=>by simp only[ints,List.map_append,List.map_cons,List.map_nil]
   rw[e1,e1]
   exact S.pw [0,1,2,3,4,5,6,7,8]
  ·rw[List.take_of_length_le (by omega),List.take_of_length_le (by omega)] at S
   have hjl:j=nv.inn.l:=by omega
   have rw7: ∀{g:Heap} {W R:List Fact} {pp:Option Addr} {ll cc:Nat} {xs:List Value} (i:Nat),Sep h no g W R→W[i]? =some (own 1 pp ll cc xs)→Row g pp xs:=fun i S e=>(S.own i e).row
   refine ldAg_S S 6 rfl (x:=nv.t) rfl ?_
   refine(Check14_ok nok (nrow S) (by omega) hsz.2.1 hsz.2.2 (rw7 7 S rfl) (by omega) (by omega)).mono ?_
   rintro _ g4 ⟨rfl,F⟩
   replace S:=S.fra0 F
   refine⟨_,rfl,?_⟩
   have estep:lookL nds (((k+1:Nat):Int)::ord.drop (i+1)) ws rs=if nv.nd.chk (pickG ws nv.inn.xs)≠0 then(nv.nd.chk (pickG ws nv.inn.xs),ws,rs) else if rateN nv.nd (pickG rs nv.inn.xs)<0 then(15,ws,rs)
    else lookL nds (ord.drop (i+1)) (ws.set (k+1) (nv.nd.wid (pickG ws nv.inn.xs))) (rs.set (k+1) (rateN nv.nd (pickG rs nv.inn.xs))):=by
    conv=>lhs;unfold lookL
    rw[show(((k+1:Nat):Int)).toNat=k+1 from rfl,Nat.add_sub_cancel,endk]
    rfl
   rw[estep] at hlk
   refine ifB_bne (fun hc=> ?_) (fun hc=> ?_)
   ·rw[if_pos hc] at hlk
    have el:=elook _ hlk.symm
    rw[if_pos hc] at el
    exact errs S el
   ·rw[if_neg (fun h=>h hc)] at hlk
    obtain⟨c1,c2,c3,c4,c5,c6,c7,c8,c9,c10,_⟩:=chk_ok hc
    have hi1:1≤nv.inn.l:=by have:(pickG ws nv.nd.inn).length=nv.inn.l:=hpl;omega
    have csz:=(sized_iff nv _).1 c10
    have h4i:(4 ^ i:Nat)≤4 ^ 12:=Nat.pow_le_pow_right (by decide) (by omega)
    have hr0:=getD_pick (js:=nv.inn.xs) hrs (Int.natCast_nonneg _)
    have hstp:four nv.kind→1≤nv.step∧nv.step≤4:=fun f=>(csz.2.1 f).1
    refine idxI_i eqa rfl (by omega) ?_
    try simp only[Int.toNat_natCast,Nat.mul_one]
    refine ldAg_S S 6 rfl (x:=nv.t) rfl ?_
    refine ldSlice_i (p:=some ⟨bw,0,none⟩) (l:=gv.l+1) (c:=gv.l+1) (S.cell 2 rfl rfl) (ldInt_i (n:=((k+1:Nat):Int)) (ldo (S.w 3 _ rfl)) ?_)
    refine(Width14_ok nok (nrow S) (by omega) hsz.2.1 hsz.2.2 (rw7 7 S rfl) (by omega) (by omega)).mono ?_
    rintro _ g5 ⟨rfl,F⟩
    replace S:=S.fra0 F
    refine⟨_,rfl,?_⟩
    refine and_i (ldo (S.w 3 _ rfl)) (and_i (S.cell 2 rfl rfl) (idxI_i rfl (k:=k+1) rfl (by omega) ?_))
    simp only[Int.toNat_natCast,Nat.mul_one,add_mk,Nat.zero_add]
    refine stI_S S 4 rfl (by rw[ints_length];omega) fun g6 _ S=> ?_
    rw[ints_set'] at S
    dsimp only[List.set] at S
    refine idxI_i eqa rfl (by omega) ?_
    try simp only[Int.toNat_natCast,Nat.mul_one]
    refine ldAg_S S 6 rfl (x:=nv.t) rfl ?_
    refine ldSlice_i (p:=some ⟨br,0,none⟩) (l:=gv.l+1) (c:=gv.l+1) (S.cell 2 rfl rfl) (ldInt_i (n:=((k+1:Nat):Int)) (ldo (S.w 3 _ rfl)) ?_)
    refine(rate16_ok (nv:=nv) (rw7 8 S rfl) (by omega) (by omega) (by omega) (by omega) (fun f=>by have:=hstp f;omega)).mono ?_
    rintro _ g7 ⟨rfl,F⟩
    replace S:=S.fra0 F
    refine⟨_,rfl,?_⟩
    refine and_i (ldo (S.w 3 _ rfl)) (and_i (S.cell 2 rfl rfl) (idxI_i rfl (k:=k+1) rfl (by omega) ?_))
    simp only[Int.toNat_natCast,Nat.mul_one,add_mk,Nat.zero_add]
    refine stI_S S 5 rfl (by rw[ints_length];omega) fun g8 _ S=> ?_
    rw[ints_set'] at S
    dsimp only[List.set] at S
    refine idxI_i eqa rfl (by omega) ?_
    try simp only[Int.toNat_natCast,Nat.mul_one]
    refine ldSlice_i (p:=some ⟨br,0,none⟩) (l:=gv.l+1) (c:=gv.l+1) (S.cell 2 rfl rfl) (ldInt_i (n:=((k+1:Nat):Int)) (ldo (S.w 3 _ rfl)) (idxI_i rfl (k:=k+1) rfl (by omega) ?_))
    simp only[Int.toNat_natCast,Nat.mul_one,add_mk,Nat.zero_add]
    refine ldInt_i (n:=rateN nv.nd (pickG rs nv.inn.xs)) (S.cell 5 rfl (ints_get (by rw[List.getElem?_set_self (by omega)]))) ?_
    refine ifB_dec (fun hrn=> ?_) (fun hrn=> ?_)
    ·rw[if_pos hrn] at hlk
     have el:=elook _ hlk.symm
     rw[if_pos (by show(15:Int)≠0;decide)] at el
     exact errs S el
    ·rw[if_neg hrn] at hlk
     rw[wrap64_in (by omega)]
     refine⟨m-(i+1),by omega,i+1,_,_,rfl,by omega,rfl,by rw[List.length_set];exact hwl,by rw[List.length_set];exact hrl,fun x hx=> ?_,hlk,S.pw [0,1,2,3,4,5]⟩
     have e4:((4 ^ (i+1):Nat):Int)=4*((4 ^ i:Nat):Int):=by rw[Nat.pow_succ];omega
     rcases List.mem_or_eq_of_mem_set hx with hx|rfl
     ·have:=hrs x hx;omega
     ·refine⟨by omega,?_⟩
      unfold rateN
      split
      ·omega
      split
      ·omega
      split
      ·omega
      ·have hst:0≤stepN nv.nd.kind nv.nd.step∧stepN nv.nd.kind nv.nd.step≤4:=by
        unfold stepN;split
        ·rename_i h;have:=hstp h;exact⟨by show 0≤nv.step;omega,by show nv.step≤4;omega⟩
        ·decide
       have:=Int.mul_le_mul hr0.2 hst.2 hst.1 (by omega)
       omega
 ·have hil:i=m:=by omega
  rw[List.drop_of_length_le (by omega)] at hlk
  have el:=elook _ hlk.symm
  simp only[lookL,ne_eq,not_true_eq_false,if_false] at el
  refine ldSlice_i (p:=q) (l:=m) (c:=d) (S.cell 2 rfl rfl) (ldSlice_i (p:=some ⟨bw,0,none⟩) (l:=gv.l+1) (c:=gv.l+1) (S.cell 2 rfl rfl) (ldSlice_i (p:=some ⟨br,0,none⟩) (l:=gv.l+1) (c:=gv.l+1) (S.cell 2 rfl rfl) (ldInt_i (n:=0) (S.cell 2 rfl rfl) ?_)))
  refine stI_S S 1 rfl (Nat.le_of_ble_eq_true rfl) fun _ _ S=> ?_
  dsimp only[List.set] at S
  refine stI_S S 1 rfl (Nat.le_of_ble_eq_true rfl) fun _ _ S=> ?_
  dsimp only[List.set] at S
  refine stI_S S 1 rfl (Nat.le_of_ble_eq_true rfl) fun _ _ S=> ?_
  dsimp only[List.set] at S
  refine stI_S S 1 rfl (Nat.le_of_ble_eq_true rfl) fun _ _ S=> ?_
  dsimp only[List.set] at S
  refine ldSlice_i (p:=q) (l:=m) (c:=d) (S.cell 1 rfl rfl) (ldSlice_i (p:=some ⟨bw,0,none⟩) (l:=gv.l+1) (c:=gv.l+1) (S.cell 1 rfl rfl) (ldSlice_i (p:=some ⟨br,0,none⟩) (l:=gv.l+1) (c:=gv.l+1) (S.cell 1 rfl rfl) (ldInt_i (n:=0) (S.cell 1 rfl rfl) ?_)))
  rw[el]
  have S2:=S.turn 4 rfl (row (some ⟨bw,0,none⟩) (ints ws)) (fun hh=>Row.of_at hh) (fun b hb=>by obtain⟨_,a,ha,hb⟩:=hb;cases ha;exact hb.symm)
  dsimp only[List.set] at S2
  have S3:=S2.turn 5 rfl (row (some ⟨br,0,none⟩) (ints rs)) (fun hh=>Row.of_at hh) (fun b hb=>by obtain⟨_,a,ha,hb⟩:=hb;cases ha;exact hb.symm)
  dsimp only[List.set] at S3
  exact⟨⟨q,m,d,ord⟩,⟨some ⟨bw,0,none⟩,gv.l+1,gv.l+1,ws⟩,⟨some ⟨br,0,none⟩,gv.l+1,gv.l+1,rs⟩,rfl,rfl,rfl,rfl,⟨hm,hmd⟩,⟨hwl,Nat.le_refl _⟩,⟨hrl,Nat.le_refl _⟩,noR (S3.pw [3,4,5])⟩
end
end Go.Proofs.YtbgplllcjhgdhaaGreatDoor.G
end
section
namespace Go.Proofs.YtbgplllcjhgdhaaGreatDoor.G
open Go Go.Sh
set_option linter.unusedVariables false
set_option linter.unusedSimpArgs false
section
variable {h:Heap}
theorem Look16_ok {gv:Gv} (hok:gv.ok) (hn:Row h gv.p (nflat gv.ns)) (hr:(nrows gv.ns).P h) (hl:gv.l<2 ^ 20) (hs: ∀n∈gv.ns,n.inn.l<2 ^ 40∧n.weights.l<2 ^ 62∧n.bias.l<2 ^ 62):
 callP P n_ref16_Look #[gv.v] h (LookR gv.gr.look h):=by
 refine call_ref16_Look _ ?_
 unfold ref16_Look
 have hgl:=hok.1
 have hgn:gv.gr.nodes.length=gv.l:=by rw[←hgl];simp[Gv.gr]
 have S:=((Sep.start h no).read (row gv.p (nflat gv.ns)) hn).read (nrows gv.ns) hr
 refine newI_S (cs:=gv.cells) S fun b1 h1 _ S=> ?_
 dsimp only[List.nil_append,List.cons_append] at S
 refine newI_S (cs:=[.slice none 0 0,.slice none 0 0,.slice none 0 0,.int .i64 0]) S fun b3 h2 _ S=> ?_
 dsimp only[List.nil_append,List.cons_append] at S
 refine ldAg_S S 0 rfl (x:=gv.t) rfl ?_
 refine(first16_ok hok (S.row 0 rfl) (S.r 1 _ rfl) (by omega) (fun n hn=>by have:=(hs n hn).1;omega)).mono ?_
 rintro _ h3 ⟨rfl,F⟩
 replace S:=S.fra0 F
 refine⟨_,rfl,?_⟩
 have errs: ∀{e:Int} {g:Heap} {W R:List Fact},Sep h no g (blk b1 gv.cells::blk b3 [.slice none 0 0,.slice none 0 0,.slice none 0 0,.int .i64 0]::W) R→gv.gr.look=⟨e,[],[],[]⟩→
  stI g ⟨b3,0,none⟩ (.slice none 0 0) fun h81=>stI h81 ⟨b3,1,none⟩ (.slice none 0 0) fun h82=>stI h82 ⟨b3,2,none⟩ (.slice none 0 0) fun h83=>stI h83 ⟨b3,3,none⟩ (.int .i64 e) fun h84=>
   ldSlice h84 ⟨b3,0,none⟩ fun p85 l85 c85=>ldSlice h84 ⟨b3,1,none⟩ fun p86 l86 c86=>ldSlice h84 ⟨b3,2,none⟩ fun p87 l87 c87=>ldInt .i64 h84 ⟨b3,3,none⟩ fun n88=>
   LookR gv.gr.look h (.agg #[(.slice p85 l85 c85),(.slice p86 l86 c86),(.slice p87 l87 c87),(.int .i64 n88)]) h84:=by
  intro e g W R S el
  refine stI_S S 1 rfl (Nat.le_of_ble_eq_true rfl) fun _ _ S=> ?_
  dsimp only[List.set] at S
  refine stI_S S 1 rfl (Nat.le_of_ble_eq_true rfl) fun _ _ S=> ?_
  dsimp only[List.set] at S
  refine stI_S S 1 rfl (Nat.le_of_ble_eq_true rfl) fun _ _ S=> ?_
  dsimp only[List.set] at S
  refine stI_S S 1 rfl (Nat.le_of_ble_eq_true rfl) fun _ _ S=> ?_
  dsimp only[List.set] at S
  refine ldSlice_i (p:=none) (l:=0) (c:=0) (S.cell 1 rfl rfl) (ldSlice_i (p:=none) (l:=0) (c:=0) (S.cell 1 rfl rfl) (ldSlice_i (p:=none) (l:=0) (c:=0) (S.cell 1 rfl rfl) (ldInt_i (n:=e) (S.cell 1 rfl rfl) ?_)))
  exact LookR.err S el
 refine ifB_bne (fun hf=>errs S (by unfold Gr.look;rw[if_pos hf])) (fun hf=> ?_)
 have nf: ¬gv.gr.first≠0:=fun h=>h hf
 refine ldAg_S S 0 rfl (x:=gv.t) rfl ?_
 refine(order16_ok hok (S.row 0 rfl) (S.r 1 _ rfl) (by omega) (fun n hn=>by have:=(hs n hn).1;omega)).mono ?_
 rintro _ g3 ⟨q,m,d,rfl,hmd,hm,S1⟩
 replace S:=S.add S1 fun _ _ h=>h
 dsimp only[List.cons_append,List.nil_append] at S
 refine⟨_,_,_,rfl,?_⟩
 refine ldSlice_i (p:=gv.p) (l:=gv.l) (c:=gv.c) (S.cell 0 rfl rfl) ?_
 have hole:=ordK_length gv.gr.nodes gv.gr.nodes.length
 have hole:(ordG gv.gr.nodes).length≤gv.gr.nodes.length:=hole
 refine ifB_dec (fun hlt=>errs S (by unfold Gr.look;rw[if_neg nf,if_pos (by omega)])) (fun hlt=> ?_)
 have ho:(ordG gv.gr.nodes).length=gv.gr.nodes.length:=by omega
 refine ldSlice_i (p:=gv.p) (l:=gv.l) (c:=gv.c) (S.cell 0 rfl rfl) (ldSlice_i (p:=gv.p) (l:=gv.l) (c:=gv.c) (S.cell 0 rfl rfl) ?_)
 have ew:IntKind.wrap .i64 ((gv.l:Int)+1)=((gv.l+1:Nat):Int):=by rw[wrap64_in (by omega)];omega
 rw[ew]
 simp only[Int.toNat_natCast]
 have erep: ∀x:Int,(List.replicate (gv.l+1) (0:Int)).set 0 x=x::List.replicate gv.gr.nodes.length 0:=fun x=>by rw[hgn,List.replicate_succ];rfl
 have ezero:(List.replicate (gv.l+1) [Value.int .i64 0]).flatten=ints (List.replicate (gv.l+1) 0):=by rw[repl_one];simp[ints]
 have h12:=(first_ok hf).2.1
 refine⟨?_,?_,?_⟩
 ·refine mkI_S S (gv.l+1) rfl rfl rfl (by decide) (by omega) (by omega) fun bw _ _ S=> ?_
  rw[ezero] at S
  dsimp only[List.cons_append,List.nil_append] at S
  refine and_i (S.cell 0 rfl rfl) (and_i (S.cell 0 rfl rfl) ?_)
  refine⟨?_,?_⟩
  ·refine mkI_S S (gv.l+1) rfl rfl rfl (by decide) (by omega) (by omega) fun br _ _ S=> ?_
   rw[ezero] at S
   dsimp only[List.cons_append,List.nil_append] at S
   refine and_i (S.cell 0 rfl rfl) (and_i (S.cell 0 rfl rfl) ?_)
   refine newI_S (cs:=[.slice none 0 0,.slice none 0 0,.slice none 0 0,.int .i64 0]) S fun bk _ _ S=> ?_
   dsimp only[List.cons_append,List.nil_append] at S
   refine stI_S S 5 rfl (Nat.le_of_ble_eq_true rfl) fun _ _ S=> ?_
   dsimp only[List.set] at S
   refine stI_S S 5 rfl (Nat.le_of_ble_eq_true rfl) fun _ _ S=> ?_
   dsimp only[List.set] at S
   refine stI_S S 5 rfl (Nat.le_of_ble_eq_true rfl) fun _ _ S=> ?_
   dsimp only[List.set] at S
   refine stI_S S 5 rfl (Nat.le_of_ble_eq_true rfl) fun _ _ S=> ?_
   dsimp only[List.set] at S
   refine ldSlice_i (p:=some ⟨bw,0,none⟩) (l:=gv.l+1) (c:=gv.l+1) (S.cell 5 rfl rfl) (ldInt_i (n:=gv.width) (S.cell 0 rfl rfl) (idxI_i rfl (k:=0) rfl (by omega) ?_))
   simp only[Int.toNat_zero,Nat.zero_mul,add_mk,Nat.add_zero]
   refine stI_S S 3 rfl (by rw[ints_length,List.length_replicate];omega) fun _ _ S=> ?_
   rw[ints_set',erep] at S
   dsimp only[List.set] at S
   refine ldSlice_i (p:=some ⟨br,0,none⟩) (l:=gv.l+1) (c:=gv.l+1) (S.cell 5 rfl rfl) (idxI_i rfl (k:=0) rfl (by omega) ?_)
   simp only[Int.toNat_zero,Nat.zero_mul,add_mk,Nat.add_zero]
   refine stI_S S 4 rfl (by rw[ints_length,List.length_replicate];omega) fun _ _ S=> ?_
   rw[ints_set',erep] at S
   dsimp only[List.set] at S
   exact look16_l11_ok hok hf hs ho hm hmd (S.pw [0,1,5,2,3,4])
  ·refine newI_S (cs:=[.slice none 0 0,.slice none 0 0,.slice none 0 0,.int .i64 0]) S fun bk _ _ S=> ?_
   dsimp only[List.cons_append,List.nil_append] at S
   refine mkI_S S (gv.l+1) rfl rfl rfl (by decide) (by omega) (by omega) fun br _ _ S=> ?_
   rw[ezero] at S
   dsimp only[List.cons_append,List.nil_append] at S
   refine and_i (S.cell 0 rfl rfl) (and_i (S.cell 0 rfl rfl) ?_)
   refine stI_S S 4 rfl (Nat.le_of_ble_eq_true rfl) fun _ _ S=> ?_
   dsimp only[List.set] at S
   refine stI_S S 4 rfl (Nat.le_of_ble_eq_true rfl) fun _ _ S=> ?_
   dsimp only[List.set] at S
   refine stI_S S 4 rfl (Nat.le_of_ble_eq_true rfl) fun _ _ S=> ?_
   dsimp only[List.set] at S
   refine stI_S S 4 rfl (Nat.le_of_ble_eq_true rfl) fun _ _ S=> ?_
   dsimp only[List.set] at S
   refine ldSlice_i (p:=some ⟨bw,0,none⟩) (l:=gv.l+1) (c:=gv.l+1) (S.cell 4 rfl rfl) (ldInt_i (n:=gv.width) (S.cell 0 rfl rfl) (idxI_i rfl (k:=0) rfl (by omega) ?_))
   simp only[Int.toNat_zero,Nat.zero_mul,add_mk,Nat.add_zero]
   refine stI_S S 3 rfl (by rw[ints_length,List.length_replicate];omega) fun _ _ S=> ?_
   rw[ints_set',erep] at S
   dsimp only[List.set] at S
   refine ldSlice_i (p:=some ⟨br,0,none⟩) (l:=gv.l+1) (c:=gv.l+1) (S.cell 4 rfl rfl) (idxI_i rfl (k:=0) rfl (by omega) ?_)
   simp only[Int.toNat_zero,Nat.zero_mul,add_mk,Nat.add_zero]
   refine stI_S S 5 rfl (by rw[ints_length,List.length_replicate];omega) fun _ _ S=> ?_
   rw[ints_set',erep] at S
   dsimp only[List.set] at S
   exact look16_l11_ok hok hf hs ho hm hmd (S.pw [0,1,4,2,3,5])
 ·refine mkI_S S (gv.l+1) rfl rfl rfl (by decide) (by omega) (by omega) fun br _ _ S=> ?_
  rw[ezero] at S
  dsimp only[List.cons_append,List.nil_append] at S
  refine and_i (S.cell 0 rfl rfl) (and_i (S.cell 0 rfl rfl) ?_)
  refine⟨?_,?_⟩
  ·refine mkI_S S (gv.l+1) rfl rfl rfl (by decide) (by omega) (by omega) fun bw _ _ S=> ?_
   rw[ezero] at S
   dsimp only[List.cons_append,List.nil_append] at S
   refine and_i (S.cell 0 rfl rfl) (and_i (S.cell 0 rfl rfl) ?_)
   refine newI_S (cs:=[.slice none 0 0,.slice none 0 0,.slice none 0 0,.int .i64 0]) S fun bk _ _ S=> ?_
   dsimp only[List.cons_append,List.nil_append] at S
   refine stI_S S 5 rfl (Nat.le_of_ble_eq_true rfl) fun _ _ S=> ?_
   dsimp only[List.set] at S
   refine stI_S S 5 rfl (Nat.le_of_ble_eq_true rfl) fun _ _ S=> ?_
   dsimp only[List.set] at S
   refine stI_S S 5 rfl (Nat.le_of_ble_eq_true rfl) fun _ _ S=> ?_
   dsimp only[List.set] at S
   refine stI_S S 5 rfl (Nat.le_of_ble_eq_true rfl) fun _ _ S=> ?_
   dsimp only[List.set] at S
   refine ldSlice_i (p:=some ⟨bw,0,none⟩) (l:=gv.l+1) (c:=gv.l+1) (S.cell 5 rfl rfl) (ldInt_i (n:=gv.width) (S.cell 0 rfl rfl) (idxI_i rfl (k:=0) rfl (by omega) ?_))
   simp only[Int.toNat_zero,Nat.zero_mul,add_mk,Nat.add_zero]
   refine stI_S S 4 rfl (by rw[ints_length,List.length_replicate];omega) fun _ _ S=> ?_
   rw[ints_set',erep] at S
   dsimp only[List.set] at S
   refine ldSlice_i (p:=some ⟨br,0,none⟩) (l:=gv.l+1) (c:=gv.l+1) (S.cell 5 rfl rfl) (idxI_i rfl (k:=0) rfl (by omega) ?_)
   simp only[Int.toNat_zero,Nat.zero_mul,add_mk,Nat.add_zero]
   refine stI_S S 3 rfl (by rw[ints_length,List.length_replicate];omega) fun _ _ S=> ?_
   rw[ints_set',erep] at S
   dsimp only[List.set] at S
   exact look16_l11_ok hok hf hs ho hm hmd (S.pw [0,1,5,2,4,3])
  ·refine newI_S (cs:=[.slice none 0 0,.slice none 0 0,.slice none 0 0,.int .i64 0]) S fun bk _ _ S=> ?_
   dsimp only[List.cons_append,List.nil_append] at S
   refine mkI_S S (gv.l+1) rfl rfl rfl (by decide) (by omega) (by omega) fun bw _ _ S=> ?_
   rw[ezero] at S
   dsimp only[List.cons_append,List.nil_append] at S
   refine and_i (S.cell 0 rfl rfl) (and_i (S.cell 0 rfl rfl) ?_)
   refine stI_S S 4 rfl (Nat.le_of_ble_eq_true rfl) fun _ _ S=> ?_
   dsimp only[List.set] at S
   refine stI_S S 4 rfl (Nat.le_of_ble_eq_true rfl) fun _ _ S=> ?_
   dsimp only[List.set] at S
   refine stI_S S 4 rfl (Nat.le_of_ble_eq_true rfl) fun _ _ S=> ?_
   dsimp only[List.set] at S
   refine stI_S S 4 rfl (Nat.le_of_ble_eq_true rfl) fun _ _ S=> ?_
   dsimp only[List.set] at S
   refine ldSlice_i (p:=some ⟨bw,0,none⟩) (l:=gv.l+1) (c:=gv.l+1) (S.cell 4 rfl rfl) (ldInt_i (n:=gv.width) (S.cell 0 rfl rfl) (idxI_i rfl (k:=0) rfl (by omega) ?_))
   simp only[Int.toNat_zero,Nat.zero_mul,add_mk,Nat.add_zero]
   refine stI_S S 5 rfl (by rw[ints_length,List.length_replicate];omega) fun _ _ S=> ?_
   rw[ints_set',erep] at S
   dsimp only[List.set] at S
   refine ldSlice_i (p:=some ⟨br,0,none⟩) (l:=gv.l+1) (c:=gv.l+1) (S.cell 4 rfl rfl) (idxI_i rfl (k:=0) rfl (by omega) ?_)
   simp only[Int.toNat_zero,Nat.zero_mul,add_mk,Nat.add_zero]
   refine stI_S S 3 rfl (by rw[ints_length,List.length_replicate];omega) fun _ _ S=> ?_
   rw[ints_set',erep] at S
   dsimp only[List.set] at S
   exact look16_l11_ok hok hf hs ho hm hmd (S.pw [0,1,4,2,5,3])
 ·refine newI_S (cs:=[.slice none 0 0,.slice none 0 0,.slice none 0 0,.int .i64 0]) S fun bk _ _ S=> ?_
  dsimp only[List.cons_append,List.nil_append] at S
  refine⟨?_,?_⟩
  ·refine mkI_S S (gv.l+1) rfl rfl rfl (by decide) (by omega) (by omega) fun bw _ _ S=> ?_
   rw[ezero] at S
   dsimp only[List.cons_append,List.nil_append] at S
   refine and_i (S.cell 0 rfl rfl) (and_i (S.cell 0 rfl rfl) ?_)
   refine mkI_S S (gv.l+1) rfl rfl rfl (by decide) (by omega) (by omega) fun br _ _ S=> ?_
   rw[ezero] at S
   dsimp only[List.cons_append,List.nil_append] at S
   refine and_i (S.cell 0 rfl rfl) (and_i (S.cell 0 rfl rfl) ?_)
   refine stI_S S 3 rfl (Nat.le_of_ble_eq_true rfl) fun _ _ S=> ?_
   dsimp only[List.set] at S
   refine stI_S S 3 rfl (Nat.le_of_ble_eq_true rfl) fun _ _ S=> ?_
   dsimp only[List.set] at S
   refine stI_S S 3 rfl (Nat.le_of_ble_eq_true rfl) fun _ _ S=> ?_
   dsimp only[List.set] at S
   refine stI_S S 3 rfl (Nat.le_of_ble_eq_true rfl) fun _ _ S=> ?_
   dsimp only[List.set] at S
   refine ldSlice_i (p:=some ⟨bw,0,none⟩) (l:=gv.l+1) (c:=gv.l+1) (S.cell 3 rfl rfl) (ldInt_i (n:=gv.width) (S.cell 0 rfl rfl) (idxI_i rfl (k:=0) rfl (by omega) ?_))
   simp only[Int.toNat_zero,Nat.zero_mul,add_mk,Nat.add_zero]
   refine stI_S S 4 rfl (by rw[ints_length,List.length_replicate];omega) fun _ _ S=> ?_
   rw[ints_set',erep] at S
   dsimp only[List.set] at S
   refine ldSlice_i (p:=some ⟨br,0,none⟩) (l:=gv.l+1) (c:=gv.l+1) (S.cell 3 rfl rfl) (idxI_i rfl (k:=0) rfl (by omega) ?_)
   simp only[Int.toNat_zero,Nat.zero_mul,add_mk,Nat.add_zero]
   refine stI_S S 5 rfl (by rw[ints_length,List.length_replicate];omega) fun _ _ S=> ?_
   rw[ints_set',erep] at S
   dsimp only[List.set] at S
   exact look16_l11_ok hok hf hs ho hm hmd (S.pw [0,1,3,2,4,5])
  ·refine mkI_S S (gv.l+1) rfl rfl rfl (by decide) (by omega) (by omega) fun br _ _ S=> ?_
   rw[ezero] at S
   dsimp only[List.cons_append,List.nil_append] at S
   refine and_i (S.cell 0 rfl rfl) (and_i (S.cell 0 rfl rfl) ?_)
   refine mkI_S S (gv.l+1) rfl rfl rfl (by decide) (by omega) (by omega) fun bw _ _ S=> ?_
   rw[ezero] at S
   dsimp only[List.cons_append,List.nil_append] at S
   refine and_i (S.cell 0 rfl rfl) (and_i (S.cell 0 rfl rfl) ?_)
   refine stI_S S 3 rfl (Nat.le_of_ble_eq_true rfl) fun _ _ S=> ?_
   dsimp only[List.set] at S
   refine stI_S S 3 rfl (Nat.le_of_ble_eq_true rfl) fun _ _ S=> ?_
   dsimp only[List.set] at S
   refine stI_S S 3 rfl (Nat.le_of_ble_eq_true rfl) fun _ _ S=> ?_
   dsimp only[List.set] at S
   refine stI_S S 3 rfl (Nat.le_of_ble_eq_true rfl) fun _ _ S=> ?_
   dsimp only[List.set] at S
   refine ldSlice_i (p:=some ⟨bw,0,none⟩) (l:=gv.l+1) (c:=gv.l+1) (S.cell 3 rfl rfl) (ldInt_i (n:=gv.width) (S.cell 0 rfl rfl) (idxI_i rfl (k:=0) rfl (by omega) ?_))
   simp only[Int.toNat_zero,Nat.zero_mul,add_mk,Nat.add_zero]
   refine stI_S S 5 rfl (by rw[ints_length,List.length_replicate];omega) fun _ _ S=> ?_
   rw[ints_set',erep] at S
   dsimp only[List.set] at S
   refine ldSlice_i (p:=some ⟨br,0,none⟩) (l:=gv.l+1) (c:=gv.l+1) (S.cell 3 rfl rfl) (idxI_i rfl (k:=0) rfl (by omega) ?_)
   simp only[Int.toNat_zero,Nat.zero_mul,add_mk,Nat.add_zero]
   refine stI_S S 4 rfl (by rw[ints_length,List.length_replicate];omega) fun _ _ S=> ?_
   rw[ints_set',erep] at S
   dsimp only[List.set] at S
   exact look16_l11_ok hok hf hs ho hm hmd (S.pw [0,1,3,2,5,4])
end
end Go.Proofs.YtbgplllcjhgdhaaGreatDoor.G
end
