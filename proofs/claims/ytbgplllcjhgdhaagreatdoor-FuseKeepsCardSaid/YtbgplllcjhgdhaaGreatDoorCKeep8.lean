/- How many frames are ready (earshotref18: counts, Readies). -/
import Derived.Test.YtbgplllcjhgdhaaGreatDoorCKeep7
namespace Go.Proofs.YtbgplllcjhgdhaaGreatDoor.G
open Go Go.Sh
set_option linter.unusedVariables false
set_option linter.unusedSimpArgs false
theorem idxOf_take {l:List Int} {a:Int} {m:Nat} (ha:a∈l) (h:l.idxOf a<m):a∈l.take m:=by
 have h1:=List.idxOf_lt_length_of_mem ha
 have h2:l[l.idxOf a]=a:=List.getElem_idxOf h1
 rw[List.mem_iff_getElem]
 refine⟨l.idxOf a,by rw[List.length_take];omega,?_⟩
 rw[List.getElem_take];exact h2
theorem ord_ahead {ns:List Nd} (ho:(ordG ns).length=ns.length) {k:Nat} (hk:k<(ordG ns).length) {i:Nat} {n:Nd} (e:(ordG ns)[k]=(i:Int)+1) (en:ns[i]? =some n) {j:Int} (hj:j∈n.inn):j∈0::(ordG ns).take k:=by
 have hord:ordK ns ns.length=0::ordG ns:=ordK_cons ns ns.length
 have hnd:=ordK_nodup ns ns.length
 have hm:((i:Int)+1)∈ordK ns ns.length:=by rw[hord,←e];exact List.mem_cons_of_mem _ (List.getElem_mem hk)
 have hrk:=ordK_rank ns ns.length i n en hm j hj
 have hidx:(ordK ns ns.length).idxOf ((i:Int)+1)=k+1:=by
  have hlt:k+1<(ordK ns ns.length).length:=by rw[hord];simp only[List.length_cons];omega
  have:(ordK ns ns.length)[k+1]=(i:Int)+1:=by
   have h1:(ordK ns ns.length)[k+1]? =some ((i:Int)+1):=by rw[hord,List.getElem?_cons_succ,List.getElem?_eq_getElem hk,e]
   rw[List.getElem?_eq_getElem hlt] at h1
   exact Option.some.inj h1
  rw[←this]
  exact hnd.idxOf_getElem _ _
 rw[hidx] at hrk
 have:=idxOf_take hrk.1 hrk.2
 rw[hord,List.take_succ_cons] at this
 exact this
abbrev ahead (gv:Gv) (k:Nat):List Int:=0::(ordG gv.gr.nodes).take k
structure NAt (gv:Gv) (W:Int→Int) (k i:Nat) (nv:Nv):Prop where
 lt:i<gv.l
 ord:(ordG gv.gr.nodes)[k]? =some ((i:Int)+1)
 en:gv.ns[i]? =some nv
 nd:gv.gr.nodes[i]? =some nv.nd
 ok:nv.ok
 chk:nv.nd.chk (nv.nd.inn.map W)=0
 inn: ∀j∈nv.inn.xs,0≤j∧j≤(gv.l:Int)
 ahead: ∀j∈nv.inn.xs,j∈ahead gv k
 len:nv.inn.xs.length=nv.inn.l
 one:1≤nv.inn.l∧nv.inn.l≤4
 take:G.ahead gv (k+1)=G.ahead gv k++[(i:Int)+1]
theorem nat_at {gv:Gv} {W R:Int→Int} {pos:Int→Nat} (hok:gv.ok) (rt:Right gv.gr W R pos) {k:Nat} (hk:k<gv.l): ∃i nv,NAt gv W k i nv:=by
 have hgn:gv.gr.nodes.length=gv.l:=by rw[←hok.1];simp[Gv.gr]
 have f:=first_ok rt.first
 have hord:=rt.ordered
 have hkl:k<(ordG gv.gr.nodes).length:=by rw[hord,hgn];exact hk
 have hxm:=ordK_mem gv.gr.nodes gv.gr.nodes.length _ (List.getElem_mem hkl)
 obtain⟨i,ex⟩: ∃i:Nat,(ordG gv.gr.nodes)[k]=(i:Int)+1:=⟨((ordG gv.gr.nodes)[k]-1).toNat,by have:1≤(ordG gv.gr.nodes)[k]:=hxm.1;omega⟩
 have hil:i<gv.l:=by
  have h2:(ordG gv.gr.nodes)[k]≤(gv.gr.nodes.length:Int):=hxm.2
  rw[ex] at h2;omega
 obtain⟨nv,en⟩: ∃n,gv.ns[i]? =some n:=⟨_,List.getElem?_eq_getElem (by have:=hok.1;omega)⟩
 have nok:=hok.2.2 nv (List.mem_of_getElem? en)
 have endi:gv.gr.nodes[i]? =some nv.nd:=by show(gv.ns.map Nv.nd)[i]? =_;rw[List.getElem?_map,en];rfl
 have hchk:=rt.chk i nv.nd endi
 have ilen:nv.inn.xs.length=nv.inn.l:=nok.1.1
 have hl1:=(chk_ok hchk).2.1
 have hl2:(nv.nd.inn.map W).length≤4:=by
  by_cases hm:many nv.nd.kind
  ·exact((chk_ok hchk).2.2.2.2.2.1 hm).2
  ·have:=(chk_ok hchk).2.2.2.2.2.2.1 hm;omega
 rw[List.length_map] at hl1 hl2
 have en2:nv.nd.inn=nv.inn.xs:=rfl
 rw[en2,ilen] at hl1 hl2
 exact⟨i,nv,hil,by rw[List.getElem?_eq_getElem hkl,ex],en,endi,nok,hchk,fun j hj=>by have:=f.2.2.2.2.2 nv.nd (List.mem_of_getElem? endi) j hj;omega,
  fun j hj=>ord_ahead hord hkl ex endi hj,ilen,⟨hl1,hl2⟩,by show 0::_=_;rw[List.take_succ_eq_append_getElem hkl,ex];rfl⟩
theorem ahead_all {gv:Gv} {W R:Int→Int} {pos:Int→Nat} (hok:gv.ok) (rt:Right gv.gr W R pos):ahead gv gv.l=ordK gv.gr.nodes gv.gr.nodes.length:=by
 have hgn:gv.gr.nodes.length=gv.l:=by rw[←hok.1];simp[Gv.gr]
 rw[ordK_cons]
 show 0::(ordG gv.gr.nodes).take gv.l=0::ordG gv.gr.nodes
 rw[List.take_of_length_le (by rw[rt.ordered];omega)]
theorem mem_ahead {gv:Gv} {W R:Int→Int} {pos:Int→Nat} (hok:gv.ok) (rt:Right gv.gr W R pos) {x:Int} (h0:0≤x) (h1:x≤(gv.l:Int)):x∈ahead gv gv.l:=by
 have hgn:gv.gr.nodes.length=gv.l:=by rw[←hok.1];simp[Gv.gr]
 rw[ahead_all hok rt]
 by_cases hz:x=0
 ·subst hz;exact mem_zero _ _
 ·rw[ordK_cons]
  exact List.mem_cons_of_mem _ (ordG_all rt.ordered (by omega) (by omega))
section
variable {h:Heap} {gv:Gv} {W R:Int→Int} {pos:Int→Nat} {V:Int→Int}
theorem Readies18_ok (hok:gv.ok) (hn:Row h gv.p (nflat gv.ns)) (hr:(nrows gv.ns).P h) (hs: ∀n∈gv.ns,n.inn.l<2 ^ 20∧n.weights.l<2 ^ 40∧n.bias.l<2 ^ 40) (rt:Right gv.gr W R pos)
 (hV: ∀(i:Nat) (n:Nd),gv.gr.nodes[i]? =some n→V ((i:Int)+1)=readyN n (n.inn.map V)) (hb: ∀x,0≤x→x≤(gv.l:Int)→0≤V x∧V x≤2 ^ 50):
 callP P n_ref18_Readies #[gv.v,.int .i64 (V 0)] h fun v h'=> ∃b:Nat,v= .slice (some ⟨b,0,none⟩) (gv.l+1) (gv.l+1)∧Sep h no h' [blk b (ints ((List.range (gv.l+1)).map fun x:Nat=>V x))] []:=by
 refine call_ref18_Readies _ _ ?_
 unfold ref18_Readies
 have S:=((Sep.start h no).read (row gv.p (nflat gv.ns)) hn).read (nrows gv.ns) hr
 refine newI_S (cs:=gv.cells) S fun b0 _ _ S=> ?_
 dsimp only[List.nil_append,List.cons_append] at S
 refine ldAg_S S 0 rfl (x:=gv.t) rfl ?_
 suffices H: ∀g,Sep h no g [] [row gv.p (nflat gv.ns),nrows gv.ns]→callP P n_ref18_counts #[gv.v,.int .i64 (V 0),.bool true] g fun v h'=> ∃b:Nat,v= .slice (some ⟨b,0,none⟩) (gv.l+1) (gv.l+1)∧Sep h no h' [blk b (ints ((List.range (gv.l+1)).map fun x:Nat=>V x))] [] by
  refine(H _ (S.pw [])).mono ?_
  rintro _ g2 ⟨b,rfl,S1⟩
  exact⟨_,_,_,rfl,b,rfl,S1⟩
 clear S
 intro g S
 refine call_ref18_counts _ _ _ ?_
 unfold ref18_counts
 have hgn:gv.gr.nodes.length=gv.l:=by rw[←hok.1];simp[Gv.gr]
 have f:=first_ok rt.first
 have hl12:gv.l≤12:=by have:=f.2.1;omega
 refine newI_S (cs:=gv.cells) S fun b1 _ _ S=> ?_
 dsimp only[List.nil_append,List.cons_append] at S
 refine ldAg_S S 0 rfl (x:=gv.t) rfl ?_
 refine(Look16_ok hok (S.row 0 rfl) (S.r 1 _ rfl) (by omega) (fun n hn=>by have:=hs n hn;omega)).mono ?_
 rintro _ g2 ⟨o,w,r,rfl,ho,hw,hrr,ook,wok,rok,S1⟩
 have elk:=rt.look
 rw[elk] at ho hw hrr ⊢
 dsimp only at ho hw hrr ⊢
 replace S:=S.add S1 fun _ _ h=>h
 dsimp only[List.cons_append,List.nil_append] at S
 refine⟨_,_,_,_,_,_,_,_,_,_,rfl,?_⟩
 refine newI_S (cs:=[.slice none 0 0,.slice none 0 0,.slice none 0 0,.int .i64 0]) S fun b10 _ _ S=> ?_
 dsimp only[List.cons_append,List.nil_append] at S
 refine stI_S S 4 rfl (Nat.le_of_ble_eq_true rfl) fun _ _ S=> ?_
 dsimp only[List.set] at S
 refine stI_S S 4 rfl (Nat.le_of_ble_eq_true rfl) fun _ _ S=> ?_
 dsimp only[List.set] at S
 refine stI_S S 4 rfl (Nat.le_of_ble_eq_true rfl) fun _ _ S=> ?_
 dsimp only[List.set] at S
 refine stI_S S 4 rfl (Nat.le_of_ble_eq_true rfl) fun g3 _ S=> ?_
 dsimp only[List.set] at S
 have h00:=hb 0 (by omega) (by omega)
 have lO:o.xs.length=o.l:=ook.1
 have lenO:o.l=gv.l:=by rw[←lO,ho,rt.ordered,hgn]
 refine⟨fun s g=>s=(V 0,true,⟨b1,0,none⟩,⟨b10,0,none⟩,())∧Sep h no g [blk b1 gv.cells,row o.p (ints o.xs),row w.p (ints w.xs),row r.p (ints r.xs),blk b10 [o.v,w.v,r.v,.int .i64 0]] [row gv.p (nflat gv.ns),nrows gv.ns],?_,
  ldInt_i (n:=0) (S.cell 4 rfl rfl) (ifB_false rfl (ifB_false (decide_eq_false (by omega)) (ifB_false (decide_eq_false (by omega)) ⟨rfl,S⟩)))⟩
 clear S
 rintro s g ⟨rfl,S⟩
 unfold ref18_counts_j4
 simp only[add_mk,Nat.zero_add]
 refine ldSlice_i (p:=gv.p) (l:=gv.l) (c:=gv.c) (S.cell 0 rfl rfl) ?_
 have ew:IntKind.wrap .i64 ((gv.l:Int)+1)=((gv.l+1:Nat):Int):=by rw[wrap64_in (by omega)];omega
 rw[ew]
 simp only[Int.toNat_natCast]
 have ezero:(List.replicate (gv.l+1) [Value.int .i64 0]).flatten=ints (List.replicate (gv.l+1) 0):=by rw[repl_one];simp[ints]
 refine mkI_S S (gv.l+1) rfl rfl rfl (by decide) (by omega) (by omega) fun bO g4 _ S=> ?_
 rw[ezero] at S
 dsimp only[List.cons_append,List.nil_append] at S
 refine idxI_i rfl (k:=0) rfl (by omega) ?_
 simp only[Int.toNat_zero,Nat.zero_mul,add_mk,Nat.add_zero]
 refine stI_S S 5 rfl (by rw[ints_length,List.length_replicate];omega) fun _ _ S=> ?_
 rw[ints_set',show(List.replicate (gv.l+1) (0:Int)).set 0 (V 0)=vals gv.l V (ahead gv 0) by show _=vals gv.l V [0];rw[vals_zero,List.replicate_succ];rfl] at S
 dsimp only[List.set] at S
 refine LoopS_i (fun mm s g=> ∃k:Nat,s=(true,⟨b1,0,none⟩,⟨b10,0,none⟩,(some ⟨bO,0,none⟩,gv.l+1,gv.l+1),(k:Int),())∧k≤gv.l∧mm=gv.l-k∧
  Sep h no g [blk b1 gv.cells,row o.p (ints o.xs),row w.p (ints w.xs),row r.p (ints r.xs),blk b10 [o.v,w.v,r.v,.int .i64 0],blk bO (ints (vals gv.l V (ahead gv k)))] [row gv.p (nflat gv.ns),nrows gv.ns]) gv.l ⟨0,rfl,by omega,rfl,S⟩ ?_
 clear S
 rintro mm s g ⟨k,rfl,hk,rfl,S⟩
 unfold ref18_counts_l7
 simp only[add_mk,Nat.zero_add]
 refine ldSlice_i (p:=o.p) (l:=o.l) (c:=o.c) (S.cell 4 rfl rfl) ?_
 refine ifB_dec (fun hlt=> ?_) (fun hge=> ?_)
 case refine_2=>
  have:k=gv.l:=by omega
  subst this
  rw[ahead_all hok rt,←hgn,vals_all rt.ordered] at S
  rw[hgn] at S
  exact⟨bO,rfl,noR (S.pw [5])⟩
 have hkl:k<gv.l:=by omega
 obtain⟨i,nv,A⟩:=nat_at hok rt hkl
 have hil:=A.lt
 have hvi:=hb ((i:Int)+1) (by omega) (by omega)
 refine ldSlice_i (p:=gv.p) (l:=gv.l) (c:=gv.c) (S.cell 0 rfl rfl) ?_
 refine ldSlice_i (p:=o.p) (l:=o.l) (c:=o.c) (S.cell 4 rfl rfl) ?_
 have orow:Row g o.p (ints o.xs):=S.w 1 _ rfl
 obtain⟨oa,eoa⟩:=orow.some_of (by rw[ints_length];omega)
 have ldo: ∀{g:Heap} {W2:List Fact},Sep h no g (blk b1 gv.cells::row o.p (ints o.xs)::W2) [row gv.p (nflat gv.ns),nrows gv.ns]→cellH g (oa.add k)=some (.int .i64 ((i:Int)+1)):=fun S=>by
  have:=S.w 1 (row o.p (ints o.xs)) rfl
  have this:Row _ o.p (ints o.xs):=this
  rw[eoa] at this
  exact this.cell (ints_get (by rw[ho];exact A.ord))
 refine idxI_i eoa rfl (by omega) ?_
 simp only[Int.toNat_natCast,Nat.mul_one]
 refine ldInt_i (n:=(i:Int)+1) (ldo S) ?_
 have ei:IntKind.wrap .i64 ((i:Int)+1-1)=(i:Int):=by rw[wrap64_in (by omega)];omega
 rw[ei]
 obtain⟨q,ea⟩:=(S.row 0 rfl).some_of (by rw[nflat_length,hok.1];omega)
 have hrow:Row g (some q) (nflat gv.ns):=by rw[←ea];exact S.row 0 rfl
 refine idxI_i ea rfl (by omega) ?_
 simp only[Int.toNat_natCast]
 refine ldNode hrow A.en ?_
 refine newI_S S fun bx g5 _ S=> ?_
 dsimp only[List.cons_append,List.nil_append] at S
 refine stL_S S 6 rfl rfl (mkS_one rfl) fun g6 _ S=> ?_
 dsimp only[List.set] at S
 replace S:=S.nil 1
 dsimp only[List.cons_append,List.nil_append] at S
 refine LoopS_i (fun mm s g=> ∃(t:Nat) (lp:Option Addr) (ld:Nat),s=(true,⟨b1,0,none⟩,⟨b10,0,none⟩,(some ⟨bO,0,none⟩,gv.l+1,gv.l+1),(k:Int),⟨bx,0,none⟩,(lp,t,ld),(t:Int),())∧t≤nv.inn.l∧mm=nv.inn.l-t∧
  Sep h no g [blk b1 gv.cells,row o.p (ints o.xs),row w.p (ints w.xs),row r.p (ints r.xs),blk b10 [o.v,w.v,r.v,.int .i64 0],blk bO (ints (vals gv.l V (ahead gv k))),blk bx nv.cells,own 1 lp t ld (ints ((nv.inn.xs.take t).map V))] [row gv.p (nflat gv.ns),nrows gv.ns]) nv.inn.l ⟨0,none,0,rfl,by omega,rfl,S⟩ ?_
 clear S
 rintro mm s g ⟨t,lp,ld,rfl,ht,rfl,S⟩
 unfold ref18_counts_l12
 simp only[add_mk,Nat.zero_add]
 have hmem:=List.mem_of_getElem? A.en
 have irow:Row g nv.inn.p (ints nv.inn.xs):=S.r 1 _ rfl nv.rows (List.mem_map_of_mem hmem) nv.inn.row (by simp)
 have h1:=A.one
 have hil2:=A.len
 refine ldSlice_i (p:=nv.inn.p) (l:=nv.inn.l) (c:=nv.inn.c) (S.cell 6 rfl rfl) ?_
 refine ifB_dec (fun hlt=> ?_) (fun hge=> ?_)
 ·refine ldSlice_i (p:=nv.inn.p) (l:=nv.inn.l) (c:=nv.inn.c) (S.cell 6 rfl rfl) ?_
  have htx:t<nv.inn.xs.length:=by omega
  obtain⟨ia,eia⟩:=irow.some_of (by rw[ints_length];omega)
  rw[eia] at irow
  refine idxI_i eia rfl (by omega) ?_
  simp only[Int.toNat_natCast,Nat.mul_one]
  refine ldInt_i (irow.cell (ints_get (List.getElem?_eq_getElem htx))) ?_
  have hj:=A.inn _ (List.getElem_mem htx)
  have hja:=A.ahead _ (List.getElem_mem htx)
  obtain⟨x,ex⟩: ∃x:Nat,nv.inn.xs[t]=(x:Int):=⟨nv.inn.xs[t].toNat,by omega⟩
  rw[ex] at hj hja ⊢
  refine idxI_i rfl (k:=x) rfl (by omega) ?_
  simp only[Int.toNat_natCast,add_mk,Nat.zero_add]
  refine ldInt_i (n:=V x) (S.cell 5 rfl (ints_get (by rw[vals_get (by omega),if_pos hja]))) ?_
  refine newI_S (cs:=[.int .i64 (V x)]) S fun b6 g2 _ S=> ?_
  dsimp only[List.cons_append,List.nil_append] at S
  refine appI_S S 7 (ys:=ints [V x]) rfl rfl (by decide) (by omega) (Row.of_at (S.at 8 rfl)) rfl vals_one fun p2 l2 c2 g3 hl2 S=> ?_
  subst hl2
  dsimp only[List.set] at S
  have e:ints ((nv.inn.xs.take t).map V)++ints [V x]=ints ((nv.inn.xs.take (t+1)).map V):=by
   rw[List.take_succ_eq_append_getElem htx,ex]
   simp only[ints,List.map_append,List.map_cons,List.map_nil]
  rw[e] at S
  rw[wrap64_in (by omega)]
  exact⟨nv.inn.l-(t+1),by omega,t+1,p2,c2,rfl,by omega,rfl,S.pw [0,1,2,3,4,5,6,7]⟩
 ·have:t=nv.inn.l:=by omega
  subst this
  rw[List.take_of_length_le (by omega)] at S
  have hVx: ∀y∈nv.inn.xs.map V,0≤y∧y≤2 ^ 50:=fun y hy=>by
   obtain⟨j,hj,rfl⟩:=List.mem_map.1 hy
   have:=A.inn j hj
   exact hb j this.1 this.2
  have hvl:(nv.inn.xs.map V).length=nv.inn.l:=by rw[List.length_map];exact hil2
  have evi:V ((i:Int)+1)=readyN nv.nd (nv.inn.xs.map V):=hV i nv.nd A.nd
  refine ldAg_S S 6 rfl (x:=nv.t) rfl (ldSlice_i (p:=o.p) (l:=o.l) (c:=o.c) (S.cell 4 rfl rfl) (idxI_i eoa rfl (by omega) ?_))
  simp only[Int.toNat_natCast,Nat.mul_one]
  refine ldInt_i (n:=(i:Int)+1) (ldo S) ?_
  refine(Count14_ok A.chk (S.own 7 rfl).row hvl (by omega) hVx).mono ?_
  rintro _ g7 ⟨rfl,F⟩
  replace S:=S.fra0 F
  refine⟨_,rfl,ldo S,S.cell 4 rfl rfl,idxI_i rfl (k:=i+1) (by omega) (by omega) ?_⟩
  rw[show((i:Int)+1).toNat=i+1 by omega]
  simp only[add_mk,Nat.zero_add,Nat.mul_one]
  refine stI_S S 5 rfl (by rw[ints_length,vals_length];omega) fun g8 _ S=> ?_
  rw[ints_set'] at S
  dsimp only[List.set] at S
  refine ifB_true rfl ?_
  refine ldAg_S S 6 rfl (x:=nv.t) rfl (ldSlice_i (p:=o.p) (l:=o.l) (c:=o.c) (S.cell 4 rfl rfl) (idxI_i eoa rfl (by omega) ?_))
  refine ldInt_i (n:=(i:Int)+1) (ldo S) ?_
  refine(Ready14_ok A.chk (S.own 7 rfl).row hvl (by omega) hVx).mono ?_
  rintro _ g9 ⟨rfl,F⟩
  replace S:=S.fra0 F
  refine⟨_,rfl,ldo S,S.cell 4 rfl rfl,idxI_i rfl (k:=i+1) (by omega) (by omega) ?_⟩
  rw[show((i:Int)+1).toNat=i+1 by omega]
  simp only[add_mk,Nat.zero_add,Nat.mul_one]
  refine stI_S S 5 rfl (by rw[ints_length,List.length_set,vals_length];omega) fun g10 _ S=> ?_
  rw[ints_set',List.set_set,vals_set (by omega) evi.symm,←A.take] at S
  dsimp only[List.set] at S
  rw[wrap64_in (by omega)]
  exact⟨gv.l-(k+1),by omega,k+1,rfl,by omega,rfl,S.pw [0,1,2,3,4,5]⟩
end
end Go.Proofs.YtbgplllcjhgdhaaGreatDoor.G
