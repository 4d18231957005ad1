/- CAll CFld CFld2, in one text. -/
import Derived.Test.YtdhpmegbmjoekaaGreatDoorCRng2
import Derived.Test.YtdhpmegbmjoekaaGreatDoorCReachV
import Derived.Test.YtdhpmegbmjoekaaGreatDoorShRg
section
namespace Go.Proofs.YtdhpmegbmjoekaaGreatDoor.G
open Go Go.Sh
set_option linter.unusedVariables false
set_option linter.unusedSimpArgs false
theorem Right.posG {g:Gr} {W R:Int→Int} {pos:Int→Nat} (r:Right g W R pos):Right g W R (Go.Proofs.YtdhpmegbmjoekaaGreatDoor.G.posG g.nodes):=
 {r with rank:=fun i n en j hj _=>posG_rank r.ordered en hj}
section
variable {h0 h:Heap} {T:Nat→Prop} {gv:Gv} {W R:Int→Int} {pos:Int→Nat} {bg:Nat}
theorem AllIter_ok {y:Value} (J:Sl→Nat→Heap→Prop) (hok:gv.ok) (hs:gv.sizes) (rt:Right gv.gr W R pos) (hn:Row h gv.p (nflat gv.ns)) (hr:(nrows gv.ns).P h) (hT:KT h) (hbg: ∀j v,gv.cells[j]? =some v→cellH h ⟨bg,j,none⟩=some v)
 (hJ: ∀o k g,J o k g→Row g o.p (ints o.xs)∧Row g gv.p (nflat gv.ns)∧cellH g ⟨bg,3,none⟩=some (.slice gv.p gv.l gv.c))
 (h0: ∀(o:Sl) h',o.ok→o.xs=ordG gv.gr.nodes→Sep h no h' [own 1 o.p o.l o.c (ints o.xs)] []→J o 0 h')
 (hy: ∀(o:Sl) (k i:Nat) (nv:Nv) g,k<gv.l→(ordG gv.gr.nodes)[k]? =some ((i:Int)+1)→gv.ns[i]? =some nv→J o k g→callAny P y [.int .i64 ((i:Int)+1),nv.v] g fun v g'=>v= .bool true∧J o (k+1) g'):
 callP P n_field_all_1 #[y,.pointer (some ⟨bg,0,none⟩)] h fun v h'=> ∃o,J o gv.l h':=by
 have hgl:=hok.1
 have hgn:gv.gr.nodes.length=gv.l:=by rw[←hgl];simp[Gv.gr]
 have hl12:gv.l≤12:=by have:=(first_ok rt.first).2.1;omega
 refine call_field_all_1 _ _ ?_
 unfold field_all_1
 refine ldAg_i (x:=gv.t) (fun j v hv=>by rw[add_mk,Nat.zero_add];exact hbg j v hv) ?_
 refine(Order_ok hok hn hr hs hT).mono ?_
 rintro _ g1 ⟨o,rfl,ook,eo,S1⟩
 have eo:o.xs=ordG gv.gr.nodes:=by rw[eo,rt.look]
 refine⟨_,_,_,rfl,?_⟩
 have hol:o.l=gv.l:=by rw[←ook.1,eo,rt.ordered,hgn]
 refine LoopS_i (fun m s g=> ∃k:Nat,s=(y,⟨bg,0,none⟩,(o.p,o.l,o.c),(o.l:Int),(k:Int),())∧k≤gv.l∧m=gv.l-k∧J o k g) gv.l ⟨0,rfl,by omega,rfl,h0 o _ ook eo S1⟩ ?_
 rintro m s g ⟨k,rfl,hk,rfl,hj⟩
 unfold field_all_1_l1
 dsimp only
 simp only[add_mk,Nat.zero_add,Int.toNat_natCast,Nat.mul_one]
 obtain⟨ro,rn,hc⟩:=hJ o k g hj
 refine ifB_dec (fun hlt=> ?_) (fun hge=> ?_)
 ·have hkl:k<o.xs.length:=by rw[ook.1];omega
  have hxm:=ordK_mem gv.gr.nodes gv.gr.nodes.length o.xs[k] (by rw[eo] at hkl;simp only[eo];exact List.getElem_mem hkl)
  obtain⟨i,ex⟩: ∃i:Nat,o.xs[k]=(i:Int)+1:=⟨(o.xs[k]-1).toNat,by have:=hxm.1;omega⟩
  rw[ex,hgn] at hxm
  have hil:i<gv.l:=by omega
  obtain⟨nv,en⟩: ∃n,gv.ns[i]? =some n:=⟨_,List.getElem?_eq_getElem (by omega)⟩
  obtain⟨ao,eao⟩:=ro.some_of (by rw[ints_length];omega)
  rw[eao] at ro
  obtain⟨an,ean⟩:=rn.some_of (by rw[nflat_length];omega)
  rw[ean] at rn
  have eko:o.xs[k]? =some ((i:Int)+1):=by rw[List.getElem?_eq_getElem hkl,ex]
  refine idxI_i eao (k:=k) rfl (by omega) (ldInt_i (ro.cell (ints_get eko)) ?_)
  refine ldSlice_i hc ?_
  rw[wrap64_in (n:=(i:Int)+1-1) (by omega),show(i:Int)+1-1=(i:Int) by omega]
  refine idxI_i ean (k:=i) rfl hil ?_
  simp only[Int.toNat_natCast]
  refine ldNode rn en ?_
  refine callAny_mono (hy o k i nv g (by omega) (by rw[←eo];exact eko) en hj) ?_
  rintro _ g2 ⟨rfl,hj2⟩
  refine⟨_,rfl,ifB_false rfl ?_⟩
  rw[wrap64_in (n:=(k:Int)+1) (by omega)]
  exact⟨gv.l-(k+1),by omega,k+1,rfl,by omega,rfl,hj2⟩
 ·have:k=gv.l:=by omega
  subst this
  exact⟨o,hj⟩
theorem set_mid {α:Type} (f a b b' c:α) (l:List α):(f::(l++[a,b,c])).set (l.length+2) b'=f::(l++[a,b',c]):=by
 rw[show l.length+2=(l.length+1)+1 from rfl,List.set_cons_succ,List.set_append,if_neg (by omega),Nat.add_sub_cancel_left];rfl
theorem at_mid {α:Type} (f a b c:α) (l:List α):(f::(l++[a,b,c]))[l.length+2]? =some b:=by
 rw[show l.length+2=(l.length+1)+1 from rfl,List.getElem?_cons_succ,List.getElem?_append_right (by omega),Nat.add_sub_cancel_left];rfl
theorem at_end {α:Type} (f a b c:α) (l:List α):(f::(l++[a,b,c]))[l.length+3]? =some c:=by
 rw[show l.length+3=(l.length+2)+1 from rfl,List.getElem?_cons_succ,List.getElem?_append_right (by omega),Nat.add_sub_cancel_left];rfl
abbrev R3 (gv:Gv):List Fact:=[blk 0 (ints kindTab),row gv.p (nflat gv.ns),nrows gv.ns]
theorem rangeAll_S {round:Obj→Obj→Nat→TLs [.sc (.int .i64),.ag ndSh]→(Heap→Prop)→Heap→Prop} {K:Nat→Heap→Prop} (V:Nat→List Fact) (hok:gv.ok) (hs:gv.sizes) (rt:Right gv.gr W R pos) (S:Sep h0 T h (blk bg gv.cells::V 0) (R3 gv))
 (hy: ∀(k i:Nat) (nv:Nv) (D l:Nat) (rdy busy:Obj) (o:Sl) (g:Heap) (Rr:Heap→Prop),k<gv.l→(ordG gv.gr.nodes)[k]? =some ((i:Int)+1)→gv.ns[i]? =some nv→
  Sep h0 T g (blk bg gv.cells::(V k++[obj D (.deferred (some [])),obj l rdy,own 1 o.p o.l o.c (ints o.xs)])) (R3 gv)→
  (∀g3,Sep h0 T g3 (blk bg gv.cells::(V (k+1)++[obj D (.deferred (some [])),obj l busy,own 1 o.p o.l o.c (ints o.xs)])) (R3 gv)→Rr g3)→round rdy busy l (((i:Int)+1:Int),nv.t,()) Rr g)
 (hK: ∀(D l:Nat) (exh:Obj) (o:Sl) (g:Heap),Sep h0 T g (blk bg gv.cells::(V gv.l++[obj D (.deferred (some [])),obj l exh,own 1 o.p o.l o.c (ints o.xs)])) (R3 gv)→K D g):
 rangeP P (.func (.func n_field_all_1) #[] #[.pointer (some ⟨bg,0,none⟩)]) [.sc (.int .i64),.ag ndSh] round h K:=by
 refine rangeP_S S fun D lp rdy busy exh h2 S hyl=> ?_
 have I:=AllIter_ok (y:= .func (.yield lp) #[] #[]) (bg:=bg) (h:=h2) (fun o k g=>Sep h0 T g (blk bg gv.cells::(V k++[obj D (.deferred (some [])),obj lp rdy,own 1 o.p o.l o.c (ints o.xs)])) (R3 gv)) hok hs rt (S.row 1 rfl) (S.r 2 _ rfl) (S.r 0 _ rfl)
  (fun j v hv=>S.cell 0 rfl hv) (fun o k g S=>⟨(S.own ((V k).length+3) (at_end _ _ _ _ _)).row,S.row 1 rfl,S.cell 0 rfl rfl⟩)
  (fun o h' _ _ S1=> ?_) (fun o k i nv g hk ek en S=> ?_)
 ·refine callP.mono I ?_
  rintro _ g ⟨o,S⟩
  refine⟨S.w _ _ (at_mid _ _ _ _ _),?_⟩
  have S2:=setObj_S S _ exh (at_mid _ _ _ _ _)
  rw[set_mid] at S2
  exact hK D lp exh o _ S2
 ·have S2:=S.add S1 fun _ _ h=>h
  simp only[List.cons_append,List.append_assoc,List.nil_append,List.append_nil] at S2
  exact S2
 ·refine hyl (((i:Int)+1:Int),nv.t,()) g _ (S.w _ _ (at_mid _ _ _ _ _)) ?_
  refine hy k i nv D lp rdy busy o g _ hk ek en S fun g3 S3=> ?_
  refine⟨S3.w _ _ (at_mid _ _ _ _ _),rfl,?_⟩
  have S4:=setObj_S S3 _ rdy (at_mid _ _ _ _ _)
  rw[set_mid] at S4
  exact S4
theorem all_ok (gv:Gv):callP P n_field_all #[gv.v] h fun v h'=> ∃bg,v= .func (.func n_field_all_1) #[] #[.pointer (some ⟨bg,0,none⟩)]∧Sep h no h' [blk bg gv.cells] []:=by
 refine call_field_all _ ?_
 unfold field_all
 exact newI_S (cs:=gv.cells) (Sep.start h no) fun b1 h1 _ S=>⟨b1,rfl,S⟩
theorem fpick_ok {p q:Option Addr} {l c m d:Nat} {xs js:List Int} (rx:Row h p (ints xs)) (lx:xs.length=l) (rj:Row h q (ints js)) (lj:js.length=m) (hm:m<2 ^ 40) (hj: ∀j∈js,0≤j∧j<(l:Int)):
 callP P n_field_pick #[.slice p l c,.slice q m d] h fun v h'=> ∃b,v= .slice (some ⟨b,0,none⟩) m m∧Sep h no h' [blk b (ints (pickG xs js))] []:=by
 refine call_field_pick _ _ _ _ _ _ ?_
 unfold field_pick
 have S:=((Sep.start h no).read (row p (ints xs)) rx).read (row q (ints js)) rj
 refine mkI_S S m rfl (zs:=[.int .i64 0]) rfl rfl (by decide) (by omega) (by omega) fun b1 h1 _ S=> ?_
 dsimp only[List.nil_append,List.cons_append] at S
 simp only[Int.toNat_natCast]
 rw[repl_one,show List.replicate m (Value.int .i64 0)=ints (List.replicate m 0) by simp[ints]] at S
 refine LoopS_i (fun mm s g=> ∃i:Nat,s=((p,l,c),(some ⟨b1,0,none⟩,m,m),(q,m,d),(m:Int),(i:Int),())∧i≤m∧mm=m-i∧Sep h no g [blk b1 (ints (pickG xs (js.take i)++List.replicate (m-i) 0))] [row p (ints xs),row q (ints js)]) m ⟨0,rfl,by omega,rfl,S⟩ ?_
 clear S
 rintro mm s g ⟨i,rfl,hi,rfl,S⟩
 unfold field_pick_l3
 dsimp only
 refine ifB_dec (fun hlt=> ?_) (fun hge=> ?_)
 ·have hlt:i<m:=by omega
  have hlt':i<js.length:=by omega
  obtain⟨aj,eaj⟩:=(S.row 1 rfl).some_of (by rw[ints_length];omega)
  have hjr:=hj js[i] (List.getElem_mem hlt')
  obtain⟨x,ex⟩: ∃x:Nat,js[i]=x:=⟨js[i].toNat,by omega⟩
  rw[ex] at hjr
  obtain⟨ax,eax⟩:=(S.row 0 rfl).some_of (by rw[ints_length];omega)
  have cj:cellH g (aj.add i)=some (.int .i64 (x:Int)):=by
   have:=S.row 1 rfl
   rw[eaj] at this
   exact this.cell (ints_get (by rw[List.getElem?_eq_getElem hlt',ex]))
  have cx:cellH g (ax.add x)=some (.int .i64 (xs.getD x 0)):=by
   have:=S.row 0 rfl
   rw[eax] at this
   exact this.cell (ints_get (by rw[List.getD_eq_getElem?_getD,List.getElem?_eq_getElem (by omega)];rfl))
  refine idxI_i eaj (k:=i) rfl hlt ?_
  simp only[Int.toNat_natCast,Nat.mul_one]
  refine ldInt_i cj (idxI_i eax (k:=x) rfl (by omega) ?_)
  simp only[Int.toNat_natCast]
  refine ldInt_i cx (idxI_i rfl (k:=i) rfl hlt ?_)
  simp only[add_mk,Nat.zero_add]
  have hlen:(pickG xs (js.take i)).length=i:=by unfold pickG;rw[List.length_map,List.length_take];omega
  refine stI_S S 0 rfl (by rw[ints_length,List.length_append,hlen,List.length_replicate];omega) fun _ _ S=> ?_
  dsimp only[List.set] at S
  rw[ints_set',fill_set hlen hlt] at S
  have e2:=map_take_snoc (fun j:Int=>xs.getD j.toNat 0) hlt'
  rw[ex,Int.toNat_natCast] at e2
  have e3:pickG xs (js.take (i+1))=pickG xs (js.take i)++[xs.getD x 0]:=e2
  rw[←e3] at S
  rw[wrap64_in (n:=(i:Int)+1) (by omega)]
  exact⟨m-(i+1),by omega,i+1,rfl,by omega,rfl,S⟩
 ·have:i=m:=by omega
  subst this
  rw[List.take_of_length_le (by omega),Nat.sub_self,List.replicate_zero,List.append_nil] at S
  exact⟨b1,rfl,noR S⟩
theorem Min_ok {p:Option Addr} {l c:Nat} {xs:List Int} (rx:Row h p (ints xs)) (lx:xs.length=l) (h1:1≤l) (hl:l<2 ^ 40):callP P n_slices_Min_int_int #[.slice p l c] h fun v h'=>v= .int .i64 (leastL xs)∧h'=h:=by
 refine call_slices_Min_int_int _ _ _ ?_
 unfold slices_Min_int_int
 refine⟨fun s g=>s=((p,l,c),())∧g=h,?_,ifB_false (decide_eq_false (by show ¬((l:Nat):Int)<1;omega)) ⟨rfl,rfl⟩⟩
 rintro s g ⟨rfl,rfl⟩
 unfold slices_Min_int_int_j3
 dsimp only
 obtain⟨a,ea⟩:=rx.some_of (by rw[ints_length];omega)
 rw[ea] at rx
 have cx: ∀i,i<l→cellH g (a.add i)=some (.int .i64 (xs.getD i 0)):=fun i hi=>rx.cell (ints_get (by rw[List.getD_eq_getElem?_getD,List.getElem?_eq_getElem (by omega)];rfl))
 refine idxI_i ea (k:=0) rfl (by omega) (ldInt_i (cx 0 (by omega)) ?_)
 have e1:(xs.take 1).foldl (fun x y=>if y<x then y else x) (xs.getD 0 0)=xs.getD 0 0:=by
  cases xs with
  |nil=>rfl
  |cons x r=>show(if x<x then x else x)=x;rw[if_neg (by omega)]
 refine LoopS_i (fun m s g'=>g'=g∧ ∃i:Nat,s=((p,l,c),(xs.take i).foldl (fun x y=>if y<x then y else x) (xs.getD 0 0),(i:Int),())∧1≤i∧i≤l∧m=l-i) (l-1) ⟨rfl,1,by rw[e1];rfl,by omega,by omega,rfl⟩ ?_
 rintro m s g' ⟨rfl,i,rfl,hi0,hi,rfl⟩
 unfold slices_Min_int_int_l5
 dsimp only
 refine ifB_dec (fun hlt=> ?_) (fun hge=> ?_)
 ·refine idxI_i ea (k:=i) rfl (by omega) ?_
  simp only[Int.toNat_natCast,Nat.mul_one]
  refine ldInt_i (cx i (by omega)) ?_
  rw[wrap64_in (n:=(i:Int)+1) (by omega)]
  refine⟨l-(i+1),by omega,by trivial,i+1,?_,by omega,by omega,rfl⟩
  have hlt':i<xs.length:=by omega
  have eg:xs.getD i 0=xs[i]:=by rw[List.getD_eq_getElem?_getD,List.getElem?_eq_getElem hlt'];rfl
  rw[List.take_succ_eq_append_getElem hlt',List.foldl_append,eg];rfl
 ·rw[List.take_of_length_le (by omega)]
  exact⟨rfl,by trivial⟩
theorem Max_ok {p:Option Addr} {l c:Nat} {xs:List Int} (rx:Row h p (ints xs)) (lx:xs.length=l) (h1:1≤l) (hl:l<2 ^ 40):callP P n_slices_Max_int_int #[.slice p l c] h fun v h'=>v= .int .i64 (mostL xs)∧h'=h:=by
 refine call_slices_Max_int_int _ _ _ ?_
 unfold slices_Max_int_int
 refine⟨fun s g=>s=((p,l,c),())∧g=h,?_,ifB_false (decide_eq_false (by show ¬((l:Nat):Int)<1;omega)) ⟨rfl,rfl⟩⟩
 rintro s g ⟨rfl,rfl⟩
 unfold slices_Max_int_int_j3
 dsimp only
 obtain⟨a,ea⟩:=rx.some_of (by rw[ints_length];omega)
 rw[ea] at rx
 have cx: ∀i,i<l→cellH g (a.add i)=some (.int .i64 (xs.getD i 0)):=fun i hi=>rx.cell (ints_get (by rw[List.getD_eq_getElem?_getD,List.getElem?_eq_getElem (by omega)];rfl))
 refine idxI_i ea (k:=0) rfl (by omega) (ldInt_i (cx 0 (by omega)) ?_)
 have e1:(xs.take 1).foldl (fun x y=>if y>x then y else x) (xs.getD 0 0)=xs.getD 0 0:=by
  cases xs with
  |nil=>rfl
  |cons x r=>show(if x>x then x else x)=x;rw[if_neg (by omega)]
 refine LoopS_i (fun m s g'=>g'=g∧ ∃i:Nat,s=((p,l,c),(xs.take i).foldl (fun x y=>if y>x then y else x) (xs.getD 0 0),(i:Int),())∧1≤i∧i≤l∧m=l-i) (l-1) ⟨rfl,1,by rw[e1];rfl,by omega,by omega,rfl⟩ ?_
 rintro m s g' ⟨rfl,i,rfl,hi0,hi,rfl⟩
 unfold slices_Max_int_int_l5
 dsimp only
 refine ifB_dec (fun hlt=> ?_) (fun hge=> ?_)
 ·refine idxI_i ea (k:=i) rfl (by omega) ?_
  simp only[Int.toNat_natCast,Nat.mul_one]
  refine ldInt_i (cx i (by omega)) ?_
  rw[wrap64_in (n:=(i:Int)+1) (by omega)]
  refine⟨l-(i+1),by omega,by trivial,i+1,?_,by omega,by omega,rfl⟩
  have hlt':i<xs.length:=by omega
  have eg:xs.getD i 0=xs[i]:=by rw[List.getD_eq_getElem?_getD,List.getElem?_eq_getElem hlt'];rfl
  rw[List.take_succ_eq_append_getElem hlt',List.foldl_append,eg];rfl
 ·rw[List.take_of_length_le (by omega)]
  exact⟨rfl,by trivial⟩
end
end Go.Proofs.YtdhpmegbmjoekaaGreatDoor.G
end
section
namespace Go.Proofs.YtdhpmegbmjoekaaGreatDoor.G
open Go Go.Sh
set_option linter.unusedVariables false
set_option linter.unusedSimpArgs false
section
variable {h:Heap} {gv:Gv} {W R Lo Hi:Int→Int} {pos:Int→Nat} {b1 b3 b5 b10:Nat} {r:Sl}
structure At19 (gv:Gv) (W:Int→Int) (k i:Nat) (nv:Nv):Prop where
 ok:nv.ok
 rows:nv.rows∈gv.ns.map Nv.rows
 sz:nv.inn.l<2 ^ 20∧nv.weights.l<2 ^ 40∧nv.bias.l<2 ^ 40
 at_:gv.gr.nodes[i]? =some nv.nd
 lt:i<gv.l
 l12:gv.l≤12
 ilen:nv.inn.xs.length=nv.inn.l
 i1:1≤nv.inn.l
 i4:nv.inn.l≤4
 chk:nv.nd.chk (nv.nd.inn.map W)=0
 bnd: ∀j∈nv.inn.xs,0≤j∧j≤(gv.l:Int)
 pk: ∀V:Int→Int,pickG (vals gv.l V (0::(ordG gv.gr.nodes).take k)) nv.inn.xs=nv.inn.xs.map V
 tk:(0::(ordG gv.gr.nodes).take (k+1):List Int)=(0::(ordG gv.gr.nodes).take k)++[(i:Int)+1]
 fst: ∃x0:Nat,nv.inn.xs[0]? =some (x0:Int)∧x0≤gv.l∧ ∀V:Int→Int,(nv.nd.inn.map V).getD 0 0=V x0
theorem at19 (hok:gv.ok) (hs:gv.sizes) (rt:Right gv.gr W R pos) {k i:Nat} {nv:Nv} (hk:k<gv.l) (ek:(ordG gv.gr.nodes)[k]? =some ((i:Int)+1)) (en:gv.ns[i]? =some nv):At19 gv W k i nv:=by
 have hgl:=hok.1
 have hgn:gv.gr.nodes.length=gv.l:=by rw[←hgl];simp[Gv.gr]
 have hmem:=List.mem_of_getElem? en
 have hil:i<gv.l:=by have:=(List.getElem?_eq_some_iff.1 en).1;omega
 have endi:gv.gr.nodes[i]? =some nv.nd:=by show(gv.ns.map Nv.nd)[i]? =_;rw[List.getElem?_map,en];rfl
 obtain⟨n1,n4,nwe,nkd,ninn⟩:=rt.node endi
 rw[hgn] at ninn
 have hkl:=(List.getElem?_eq_some_iff.1 ek).1
 have ex:=(List.getElem?_eq_some_iff.1 ek).2
 have nok:=hok.2.2 nv hmem
 have ilen:nv.inn.xs.length=nv.inn.l:=nok.1.1
 refine⟨nok,List.mem_map_of_mem hmem,hs.2 nv hmem,endi,hil,by have:=(first_ok rt.first).2.1;omega,ilen,by rw[←ilen];exact n1,by rw[←ilen];exact n4,rt.chk i _ endi,ninn,fun V=>vals_pick fun j hj=>⟨ord_ahead rt.ordered hkl ex endi hj,ninn j hj⟩,by rw[List.take_succ_eq_append_getElem hkl,ex];rfl,?_⟩
 have h0:0<nv.inn.xs.length:=n1
 have hj:=ninn _ (List.getElem_mem h0)
 refine⟨(nv.inn.xs[0]'h0).toNat,by rw[List.getElem?_eq_getElem h0];congr 1;omega,by omega,fun V=> ?_⟩
 show(nv.inn.xs.map V).getD 0 0=_
 rw[List.getD_eq_getElem?_getD,List.getElem?_map,List.getElem?_eq_getElem h0,show(((nv.inn.xs[0]'h0).toNat:Nat):Int)=nv.inn.xs[0]'h0 by omega];rfl
theorem pads_left {n:Nd} {ws:List Int} (h:n.chk ws=0):(padsN n).1=n.leftN:=by
 have hz:=(chk_size h).1
 unfold padsN Nd.leftN
 by_cases h4:four n.kind
 ·rw[if_pos h4,if_neg (by rcases h4 with h|h|h|h<;>omega),if_pos h4]
 ·rw[if_neg h4,if_neg h4]
  by_cases h12:n.kind=12
  ·rw[if_pos h12,if_pos h12];exact wrap64_in (by omega)
  ·rw[if_neg h12,if_neg h12]
def Bnd (gv:Gv) (R Lo Hi:Int→Int):Prop:= ∀x,0≤x→x≤(gv.l:Int)→(-2 ^ 40≤Lo x∧Lo x≤2 ^ 40)∧(-2 ^ 40≤Hi x∧Hi x≤2 ^ 40)∧(0≤R x∧R x≤2 ^ 30)
theorem bnd_of (hok:gv.ok) (rt:Right gv.gr W R pos) (rc:Reach gv.gr.nodes R Lo Hi):Bnd gv R Lo Hi:=by
 have hgl:=hok.1
 have hgn:gv.gr.nodes.length=gv.l:=by rw[←hgl];simp[Gv.gr]
 have hl12:gv.gr.nodes.length≤12:=(first_ok rt.first).2.1
 intro x h0 h1
 rw[←hgn] at h1
 have b1:=right_rate rt.posG _ x rfl h0 h1
 have b2:=right_reach rt.posG rc _ x rfl h0 h1
 have hp:posG gv.gr.nodes x≤12:=by have:=posG_le gv.gr.nodes x;omega
 have b3:=pow4_le hp
 have hp2:((posG gv.gr.nodes x:Nat):Int)*2 ^ 30≤12*2 ^ 30:=Int.mul_le_mul_of_nonneg_right (by omega) (by decide)
 refine⟨by omega,by omega,by omega,by omega⟩
abbrev VR (gv:Gv) (Lo Hi:Int→Int) (b1 b3 b5 b10 bL bH:Nat) (r:Sl) (k:Nat):List Fact:=
 [blk b1 gv.cells,blk b3 [.slice (some ⟨bL,0,none⟩) (gv.l+1) (gv.l+1)],blk b5 [.slice (some ⟨bH,0,none⟩) (gv.l+1) (gv.l+1)],own 1 r.p r.l r.c (ints r.xs),blk b10 [r.v],
  blk bL (ints (vals gv.l Lo (0::(ordG gv.gr.nodes).take k))),blk bH (ints (vals gv.l Hi (0::(ordG gv.gr.nodes).take k)))]
def ReachQ (gv:Gv) (Lo Hi:Int→Int) (h:Heap) (v:Value) (h':Heap):Prop:=
 ∃bL bH,v= .tuple #[.slice (some ⟨bL,0,none⟩) (gv.l+1) (gv.l+1),.slice (some ⟨bH,0,none⟩) (gv.l+1) (gv.l+1)]∧Sep h no h' [blk bL (ints ((List.range (gv.l+1)).map fun x:Nat=>Lo x)),blk bH (ints ((List.range (gv.l+1)).map fun x:Nat=>Hi x))] []
theorem reach_j5_ok (hok:gv.ok) (hs:gv.sizes) (rt:Right gv.gr W R pos) (rc:Reach gv.gr.nodes R Lo Hi) (rok:r.ok) (er:r.xs=(List.range (gv.l+1)).map fun x:Nat=>R x) {bL bH:Nat} {g:Heap} (S:Sep h no g (VR gv Lo Hi b1 b3 b5 b10 bL bH r 0) (R3 gv)):
 field_Reach_j5 (ReachQ gv Lo Hi h) ⟨b1,0,none⟩ ⟨b3,0,none⟩ ⟨b5,0,none⟩ ⟨b10,0,none⟩ g:=by
 have hgl:=hok.1
 have hgn:gv.gr.nodes.length=gv.l:=by rw[←hgl];simp[Gv.gr]
 have hb:=bnd_of hok rt rc
 have lenR:r.l=gv.l+1:=by rw[←rok.1,er];simp
 unfold field_Reach_j5
 refine ldAg_S S 0 rfl (x:=gv.t) rfl ?_
 refine(all_ok gv).mono ?_
 rintro _ g1 ⟨bg,rfl,S1⟩
 replace S:=S.add S1 fun _ _ h=>h
 dsimp only[List.cons_append,List.nil_append] at S
 refine⟨_,rfl,?_⟩
 refine rangeAll_S (VR gv Lo Hi b1 b3 b5 b10 bL bH r) hok hs rt (S.pw [7,0,1,2,3,4,5,6]) (fun k i nv D l rdy busy o g Rr hk ek en S H=> ?_) (fun D l exh o g S=> ?_)
 ·have A:=at19 hok hs rt hk ek en
  obtain⟨x0,ex0,hx0,hV0⟩:=A.fst
  have hsz:=chk_size A.chk
  have hsize: -2 ^ 20≤nv.size∧nv.size≤2 ^ 20:=by have h1:0≤nv.size∧nv.size≤8:=hsz.1;omega
  have hgap: -2 ^ 20≤nv.gap∧nv.gap≤2 ^ 20:=by have h1:0≤nv.gap∧nv.gap≤4:=hsz.2.1;omega
  have hil:=A.lt
  have ilen:=A.ilen
  have i1:=A.i1
  have i4:=A.i4
  dsimp only[List.cons_append,List.nil_append] at S H
  rw[A.tk] at H
  refine newI_S S fun b32 g2 _ S=> ?_
  dsimp only[List.cons_append,List.nil_append] at S
  refine stL_S S 11 rfl rfl (mkS_one rfl) fun g3 _ S=> ?_
  dsimp only[List.set] at S
  refine⟨S.w 9 _ rfl,?_⟩
  replace S:=setObj_S S 9 busy rfl
  dsimp only[List.set] at S
  generalize Array.setIfInBounds g3 l busy=g4 at S
  have rrow: ∀{g:Heap} {W2:List Fact},Sep h no g W2 (R3 gv)→W2[4]? =some (own 1 r.p r.l r.c (ints r.xs))→ ∀x:Nat,x≤gv.l→ ∃a,r.p=some a∧cellH g (a.add x)=some (.int .i64 (R x)):=by
   intro g W2 S e x hx
   have ro:=(S.own 4 e).row
   obtain⟨a,ea⟩:=ro.some_of (by rw[ints_length,rok.1];omega)
   rw[ea] at ro
   exact⟨a,ea,ro.cell (ints_get (by rw[er,List.getElem?_map,List.getElem?_range (by omega)];rfl))⟩
  have irow: ∀{g:Heap} {W2:List Fact},Sep h no g W2 (R3 gv)→Row g nv.inn.p (ints nv.inn.xs):=fun S=>S.r 2 _ rfl nv.rows A.rows nv.inn.row (by simp)
  refine ldSlice_i (p:=r.p) (l:=r.l) (c:=r.c) (S.cell 5 rfl rfl) ?_
  obtain⟨ra,era,cr⟩:=rrow S rfl (i+1) (by omega)
  refine idxI_i era (k:=i+1) rfl (by omega) ?_
  simp only[show((i:Int)+1).toNat=i+1 by omega,Nat.mul_one]
  refine ldInt_i cr (ifB_beq (fun hz=> ?_) (fun hz=> ?_))
  ·have hz':R ((i:Int)+1)=0:=hz
   have hLo:Lo ((i:Int)+1)=0:=by rw[rc.lo i _ A.at_,if_neg (by omega)]
   have hHi:Hi ((i:Int)+1)=0:=by rw[rc.hi i _ A.at_,if_neg (by omega)]
   refine H _ ?_
   rw[vals_skip hLo,vals_skip hHi]
   exact S.pw [0,1,2,3,4,5,6,7,8,9,10]
  ·have hRi:=(hb ((i:Int)+1) (by omega) (by omega)).2.2
   have hpos:0<R ((i:Int)+1):=by have:R ((i:Int)+1)≠0:=hz;omega
   have hR0:=(hb (x0:Int) (by omega) (by omega)).2.2
   have hLoE:Lo ((i:Int)+1)=leastL (nv.nd.inn.map Lo)-R (x0:Int)*nv.nd.leftN:=by rw[rc.lo i _ A.at_,if_pos hpos,hV0]
   have hHiE:Hi ((i:Int)+1)=mostL (nv.nd.inn.map Hi)+R (x0:Int)*(nv.nd.span-1-nv.nd.leftN):=by rw[rc.hi i _ A.at_,if_pos hpos,hV0]
   have bLo:=(hb ((i:Int)+1) (by omega) (by omega)).1
   have bHi:=(hb ((i:Int)+1) (by omega) (by omega)).2.1
   have m1:0≤R (x0:Int)*nv.nd.leftN∧R (x0:Int)*nv.nd.leftN≤2 ^ 30*31:=⟨Int.mul_nonneg hR0.1 hsz.2.2.1.1,Int.mul_le_mul hR0.2 hsz.2.2.1.2 hsz.2.2.1.1 (by omega)⟩
   have m2:0≤R (x0:Int)*(nv.nd.span-1-nv.nd.leftN)∧R (x0:Int)*(nv.nd.span-1-nv.nd.leftN)≤2 ^ 30*31:=⟨Int.mul_nonneg hR0.1 hsz.2.2.2.1.1,Int.mul_le_mul hR0.2 hsz.2.2.2.1.2 hsz.2.2.2.1.1 (by omega)⟩
   refine ldSlice_i (p:=r.p) (l:=r.l) (c:=r.c) (S.cell 5 rfl rfl) (ldSlice_i (p:=nv.inn.p) (l:=nv.inn.l) (c:=nv.inn.c) (S.cell 11 rfl rfl) ?_)
   have ir:=irow S
   obtain⟨ia,eia⟩:=ir.some_of (by rw[ints_length];omega)
   rw[eia] at ir
   refine idxI_i eia (k:=0) rfl (by omega) (ldInt_i (ir.cell (ints_get ex0)) ?_)
   obtain⟨ra2,era2,cr2⟩:=rrow S rfl x0 hx0
   refine idxI_i era2 (k:=x0) rfl (by omega) ?_
   simp only[Int.toNat_natCast]
   refine ldInt_i cr2 (ldAg_S S 11 rfl (x:=nv.t) rfl ?_)
   refine(Pads_ok nv (S.r 0 _ rfl)).mono ?_
   rintro _ g5 ⟨rfl,F⟩
   replace S:=S.fra0 F
   rw[pads_left A.chk]
   refine⟨_,_,rfl,?_⟩
   refine ldSlice_i (S.cell 2 rfl rfl) (ldSlice_i (S.cell 2 rfl rfl) (ldSlice_i (p:=nv.inn.p) (l:=nv.inn.l) (c:=nv.inn.c) (S.cell 11 rfl rfl) ?_))
   refine(fpick_ok (Row.of_at (S.at 6 rfl)) (vals_length _ _ _) (irow S) ilen (by omega) (fun j hj=>by have:=A.bnd j hj;omega)).mono ?_
   rintro _ g6 ⟨bp,rfl,S1⟩
   rw[A.pk] at S1
   replace S:=S.add S1 fun _ _ h=>h
   dsimp only[List.cons_append,List.nil_append] at S
   refine⟨_,_,_,rfl,and_i (S.cell 2 rfl rfl) ?_⟩
   refine(Min_ok (Row.of_at (S.at 12 rfl)) (by rw[List.length_map];exact ilen) i1 (by omega)).mono ?_
   rintro _ g7 ⟨rfl,eg⟩
   subst eg
   refine⟨_,rfl,and_i (S.cell 2 rfl rfl) (and_i (S.cell 2 rfl rfl) ?_)⟩
   refine idxI_i rfl (k:=i+1) rfl (by omega) ?_
   simp only[add_mk,Nat.zero_add,show((i:Int)+1).toNat=i+1 by omega,Nat.mul_one]
   rw[wrap64_in (n:=R (x0:Int)*nv.nd.leftN) (by omega),show leastL (nv.inn.xs.map Lo)-R (x0:Int)*nv.nd.leftN=Lo ((i:Int)+1) from hLoE.symm,wrap64_in (n:=Lo ((i:Int)+1)) (by omega)]
   refine stI_S S 6 rfl (by rw[ints_length,vals_length];omega) fun g8 _ S=> ?_
   dsimp only[List.set] at S
   rw[ints_set',vals_set (V:=Lo) (i:=i) (by omega) rfl] at S
   refine ldSlice_i (S.cell 3 rfl rfl) (ldSlice_i (S.cell 3 rfl rfl) (ldSlice_i (p:=nv.inn.p) (l:=nv.inn.l) (c:=nv.inn.c) (S.cell 11 rfl rfl) ?_))
   refine ldAg_S S 11 rfl (x:=nv.t) rfl ?_
   refine(fpick_ok (Row.of_at (S.at 7 rfl)) (vals_length _ _ _) (irow S) ilen (by omega) (fun j hj=>by have:=A.bnd j hj;omega)).mono ?_
   rintro _ g9 ⟨bq,rfl,S1⟩
   rw[A.pk] at S1
   replace S:=S.add S1 fun _ _ h=>h
   dsimp only[List.cons_append,List.nil_append] at S
   refine⟨_,_,_,rfl,holdW_S S 11 rfl rfl (and_i (S.cell 3 rfl rfl) ?_)⟩
   refine(Max_ok (Row.of_at (S.at 13 rfl)) (by rw[List.length_map];exact ilen) i1 (by omega)).mono ?_
   rintro _ g10 ⟨rfl,eg⟩
   subst eg
   refine⟨_,rfl,holdW_S S 11 rfl rfl (and_i (S.cell 11 rfl rfl) (and_i (S.cell 3 rfl rfl) (and_i (S.cell 3 rfl rfl) ?_)))⟩
   refine(Span_ok nv (S.r 0 _ rfl) hsize hgap).mono ?_
   rintro _ g11 ⟨rfl,F⟩
   replace S:=S.fra0 F
   refine⟨_,rfl,and_i (S.cell 11 rfl rfl) (and_i (S.cell 3 rfl rfl) (and_i (S.cell 3 rfl rfl) ?_))⟩
   refine idxI_i rfl (k:=i+1) rfl (by omega) ?_
   simp only[add_mk,Nat.zero_add,show((i:Int)+1).toNat=i+1 by omega,Nat.mul_one]
   have hsp:=hsz.2.2.2.2.1
   have hle:=hsz.2.2.1
   rw[wrap64_in (n:=nv.nd.span-1) (by omega),wrap64_in (n:=nv.nd.span-1-nv.nd.leftN) (by omega),wrap64_in (n:=R (x0:Int)*(nv.nd.span-1-nv.nd.leftN)) (by omega),show mostL (nv.inn.xs.map Hi)+R (x0:Int)*(nv.nd.span-1-nv.nd.leftN)=Hi ((i:Int)+1) from hHiE.symm,wrap64_in (n:=Hi ((i:Int)+1)) (by omega)]
   refine stI_S S 7 rfl (by rw[ints_length,vals_length];omega) fun g12 _ S=> ?_
   dsimp only[List.set] at S
   rw[ints_set',vals_set (V:=Hi) (i:=i) (by omega) rfl] at S
   exact H _ (S.pw [0,1,2,3,4,5,6,7,8,9,10])
 ·dsimp only[List.cons_append,List.nil_append] at S
  refine ldSlice_i (S.cell 2 rfl rfl) (ldSlice_i (S.cell 3 rfl rfl) ?_)
  refine stI_S S 2 rfl (Nat.le_of_ble_eq_true rfl) fun g2 _ S=> ?_
  dsimp only[List.set] at S
  refine and_i (S.cell 3 rfl rfl) ?_
  refine stI_S S 3 rfl (Nat.le_of_ble_eq_true rfl) fun g3 _ S=> ?_
  dsimp only[List.set] at S
  refine⟨S.w 8 _ rfl,?_⟩
  replace S:=setObj_S S 8 (.deferred none) rfl
  dsimp only[List.set] at S
  refine ldSlice_i (S.cell 2 rfl rfl) (ldSlice_i (S.cell 3 rfl rfl) ?_)
  have hall: ∀V:Int→Int,vals gv.l V (0::(ordG gv.gr.nodes).take gv.l)=(List.range (gv.l+1)).map fun x:Nat=>V x:=fun V=>by
   have h1:=vals_all rt.ordered V
   rw[hgn] at h1
   rw[List.take_of_length_le (by rw[rt.ordered];omega)]
   have h2:ordK gv.gr.nodes gv.l=0::ordG gv.gr.nodes:=by rw[←hgn];exact ordK_cons _ _
   rw[←h2];exact h1
  rw[hall,hall] at S
  exact⟨bL,bH,rfl,noR (S.pw [6,7])⟩
theorem Reach_ok (hok:gv.ok) (hn:Row h gv.p (nflat gv.ns)) (hr:(nrows gv.ns).P h) (hs:gv.sizes) (hT:KT h) (rt:Right gv.gr W R pos) (rc:Reach gv.gr.nodes R Lo Hi):callP P n_field_Reach #[gv.v] h (ReachQ gv Lo Hi h):=by
 refine call_field_Reach _ ?_
 unfold field_Reach
 have hgl:=hok.1
 have hgn:gv.gr.nodes.length=gv.l:=by rw[←hgl];simp[Gv.gr]
 have hl12:gv.l≤12:=by have:=(first_ok rt.first).2.1;omega
 have S:=(((Sep.start h no).read (blk 0 (ints kindTab)) hT).read (row gv.p (nflat gv.ns)) hn).read (nrows gv.ns) hr
 refine newI_S (cs:=gv.cells) S fun b1 h1 _ S=> ?_
 dsimp only[List.nil_append,List.cons_append] at S
 refine newI_S S fun b3 h1 _ S=> ?_
 dsimp only[List.nil_append,List.cons_append] at S
 refine newI_S S fun b5 h1 _ S=> ?_
 dsimp only[List.nil_append,List.cons_append] at S
 refine ldAg_S S 0 rfl (x:=gv.t) rfl ?_
 refine(Rates_ok hok (S.row 1 rfl) (S.r 2 _ rfl) hs (S.r 0 _ rfl)).mono ?_
 rintro _ g2 ⟨r,rfl,rok,er,S1⟩
 rw[rt.look,hgn] at er
 replace S:=S.add S1 fun _ _ h=>h
 dsimp only[List.cons_append,List.nil_append] at S
 refine⟨_,_,_,rfl,?_⟩
 refine newI_S S fun b10 h1 _ S=> ?_
 dsimp only[List.nil_append,List.cons_append] at S
 refine stI_S S 4 rfl (Nat.le_of_ble_eq_true rfl) fun g3 _ S=> ?_
 dsimp only[List.set] at S
 have lenR:r.l=gv.l+1:=by rw[←rok.1,er];simp
 have rc10: ∀{g:Heap} {W2:List Fact},Sep h no g W2 (R3 gv)→W2[4]? =some (blk b10 [r.v])→cellH g ⟨b10,0,none⟩=some (.slice r.p (gv.l+1) r.c):=fun S e=>by rw[←lenR];exact S.cell 4 e rfl
 refine ldSlice_i (rc10 S rfl) ?_
 obtain⟨ra,era⟩:=(S.own 3 rfl).row.some_of (by rw[ints_length,rok.1];omega)
 refine ifB_false (by rw[era];rfl) ?_
 refine⟨fun s g=>s=(⟨b1,0,none⟩,⟨b3,0,none⟩,⟨b5,0,none⟩,⟨b10,0,none⟩,())∧ ∃bL bH,Sep h no g (VR gv Lo Hi b1 b3 b5 b10 bL bH r 0) (R3 gv),?_,?_⟩
 ·rintro s g ⟨rfl,bL,bH,S⟩
  exact reach_j5_ok hok hs rt rc rok er S
 ·refine ldSlice_i (rc10 S rfl) (ldSlice_i (rc10 S rfl) ?_)
  have z0: ∀V:Int→Int,V 0=0→(List.replicate (gv.l+1) [Value.int .i64 0]).flatten=ints (vals gv.l V (0::(ordG gv.gr.nodes).take 0)):=fun V h0=>by
   rw[repl_one,List.take_zero,vals_zero,h0,←List.replicate_succ];simp[ints]
  have zL:=z0 Lo rc.l0
  have zH:=z0 Hi rc.h0
  simp only[Int.toNat_natCast]
  have fin: ∀{g:Heap} {bL bH:Nat},Sep h no g [blk b1 gv.cells,blk b3 [.slice (some ⟨bL,0,none⟩) (gv.l+1) (gv.l+1)],blk b5 [.slice (some ⟨bH,0,none⟩) (gv.l+1) (gv.l+1)],own 1 r.p r.l r.c (ints r.xs),blk b10 [r.v],blk bL (List.replicate (gv.l+1) [Value.int .i64 0]).flatten,blk bH (List.replicate (gv.l+1) [Value.int .i64 0]).flatten] (R3 gv)→
   Sep h no g (VR gv Lo Hi b1 b3 b5 b10 bL bH r 0) (R3 gv):=fun{g bL bH} S=>by
   unfold VR
   rw[←zL,←zH];exact S
  refine⟨?_,?_⟩
  ·refine mkI_S S (gv.l+1) rfl (zs:=[.int .i64 0]) rfl rfl (by decide) (by omega) (by omega) fun b74 g4 _ S=> ?_
   dsimp only[List.nil_append,List.cons_append] at S
   refine and_i (rc10 S rfl) (and_i (rc10 S rfl) ⟨?_,?_⟩)
   ·refine mkI_S S (gv.l+1) rfl (zs:=[.int .i64 0]) rfl rfl (by decide) (by omega) (by omega) fun b76 g5 _ S=> ?_
    dsimp only[List.nil_append,List.cons_append] at S
    refine and_i (rc10 S rfl) (and_i (rc10 S rfl) ?_)
    refine stI_S S 1 rfl (Nat.le_of_ble_eq_true rfl) fun g6 _ S=> ?_
    dsimp only[List.set] at S
    refine and_i (rc10 S rfl) ?_
    refine stI_S S 2 rfl (Nat.le_of_ble_eq_true rfl) fun g7 _ S=> ?_
    dsimp only[List.set] at S
    exact⟨trivial,_,_,fin S⟩
   ·refine stI_S S 1 rfl (Nat.le_of_ble_eq_true rfl) fun g6 _ S=> ?_
    dsimp only[List.set] at S
    refine and_i (rc10 S rfl) ?_
    refine mkI_S S (gv.l+1) rfl (zs:=[.int .i64 0]) rfl rfl (by decide) (by omega) (by omega) fun b76 g5 _ S=> ?_
    dsimp only[List.nil_append,List.cons_append] at S
    refine and_i (rc10 S rfl) (and_i (rc10 S rfl) ?_)
    refine stI_S S 2 rfl (Nat.le_of_ble_eq_true rfl) fun g7 _ S=> ?_
    dsimp only[List.set] at S
    exact⟨trivial,_,_,fin S⟩
  ·refine mkI_S S (gv.l+1) rfl (zs:=[.int .i64 0]) rfl rfl (by decide) (by omega) (by omega) fun b84 g4 _ S=> ?_
   dsimp only[List.nil_append,List.cons_append] at S
   refine and_i (rc10 S rfl) (and_i (rc10 S rfl) ?_)
   refine mkI_S S (gv.l+1) rfl (zs:=[.int .i64 0]) rfl rfl (by decide) (by omega) (by omega) fun b86 g5 _ S=> ?_
   dsimp only[List.nil_append,List.cons_append] at S
   refine and_i (rc10 S rfl) (and_i (rc10 S rfl) ?_)
   refine stI_S S 1 rfl (Nat.le_of_ble_eq_true rfl) fun g6 _ S=> ?_
   dsimp only[List.set] at S
   refine and_i (rc10 S rfl) ?_
   refine stI_S S 2 rfl (Nat.le_of_ble_eq_true rfl) fun g7 _ S=> ?_
   dsimp only[List.set] at S
   exact⟨trivial,_,_,fin (S.pw [0,1,2,3,4,6,5])⟩
end
end Go.Proofs.YtdhpmegbmjoekaaGreatDoor.G
end
section
namespace Go.Proofs.YtdhpmegbmjoekaaGreatDoor.G
open Go Go.Sh
set_option linter.unusedVariables false
set_option linter.unusedSimpArgs false
def roomN (n:Nd) (rate ahead:Int):Int:=if n.kind=7∨n.kind=8 then(if rate=0 then 1 else w64 (w64 (Int.tdiv (w64 (w64 (ahead+rate)-1)) rate)+1)) else n.span
def roomIn (n:Nd) (rate top:Int) (Hi:Int→Int) (o:List Int) (j:Int):List Int:=
 o.set j.toNat (if roomN n rate (w64 (top-Hi j))>o.getD j.toNat 0 then roomN n rate (w64 (top-Hi j)) else o.getD j.toNat 0)
def roomStep (ns:List Nd) (R Hi:Int→Int) (o:List Int) (x:Int):List Int:=
 match ns[x.toNat-1]? with
 |none=>o
 |some n=>n.inn.foldl (roomIn n (R x) (mostL (n.inn.map Hi)) Hi) o
def roomsK (ns:List Nd) (R Hi:Int→Int) (k:Nat):List Int:=((ordG ns).take k).foldl (roomStep ns R Hi) (List.replicate (ns.length+1) 1)
def Gr.rooms (g:Gr) (R Hi:Int→Int):List Int:=roomsK g.nodes R Hi g.nodes.length
theorem roomIn_length (n:Nd) (rate top:Int) (Hi:Int→Int): ∀(l:List Int) (o:List Int),(l.foldl (roomIn n rate top Hi) o).length=o.length
 |[],o=>rfl
 |j::r,o=>by rw[List.foldl_cons,roomIn_length];unfold roomIn;rw[List.length_set]
theorem roomStep_length (ns:List Nd) (R Hi:Int→Int): ∀(l:List Int) (o:List Int),(l.foldl (roomStep ns R Hi) o).length=o.length
 |[],o=>rfl
 |x::r,o=>by
  rw[List.foldl_cons,roomStep_length]
  unfold roomStep
  split
  ·rfl
  ·rw[roomIn_length]
theorem roomsK_length (ns:List Nd) (R Hi:Int→Int) (k:Nat):(roomsK ns R Hi k).length=ns.length+1:=by unfold roomsK;rw[roomStep_length,List.length_replicate]
def macsK (ns:List Nd) (k:Nat):Int:=((ordG ns).take k).foldl (fun s x=>w64 (s+(costX ns x:Int))) 0
def Gr.macs (g:Gr):Int:=macsK g.nodes g.nodes.length
section
variable {h:Heap} {gv:Gv} {W R Lo Hi:Int→Int} {pos:Int→Nat} {r:Sl}
theorem room_ok (nv:Nv) (hT:KT h) (hs: -2 ^ 20≤nv.size∧nv.size≤2 ^ 20) (hg: -2 ^ 20≤nv.gap∧nv.gap≤2 ^ 20) (rate ahead:Int):callP P n_field_room #[nv.v,.int .i64 rate,.int .i64 ahead] h fun v h'=>v= .int .i64 (roomN nv.nd rate ahead)∧Fra no h h':=by
 refine call_field_room _ _ _ ?_
 unfold field_room
 have S:=(Sep.start h no).read (blk 0 (ints kindTab)) hT
 refine newI_S (cs:=nv.cells) S fun b1 h1 _ S=> ?_
 dsimp only[List.cons_append,List.nil_append] at S
 have e:roomN nv.nd rate ahead=if nv.kind=7∨nv.kind=8 then(if rate=0 then 1 else w64 (w64 (Int.tdiv (w64 (w64 (ahead+rate)-1)) rate)+1)) else nv.nd.span:=rfl
 rw[e]
 refine ldInt_i (n:=nv.kind) (S.cell 0 rfl rfl) (ifB_beq (fun k7=> ?_) (fun k7=>ifB_beq (fun k8=> ?_) (fun k8=> ?_)))
 ·rw[if_pos (.inl k7)]
  exact ifB_beq (fun hz=>by rw[if_pos hz];exact⟨rfl,S.fra⟩) (fun hz=>⟨hz,by rw[if_neg hz];exact⟨rfl,S.fra⟩⟩)
 ·rw[if_pos (.inr k8)]
  exact ifB_beq (fun hz=>by rw[if_pos hz];exact⟨rfl,S.fra⟩) (fun hz=>⟨hz,by rw[if_neg hz];exact⟨rfl,S.fra⟩⟩)
 ·rw[if_neg (by rintro(h|h);exact k7 h;exact k8 h)]
  refine ldAg_S S 0 rfl (x:=nv.t) rfl ?_
  refine(Span_ok nv (S.r 0 _ rfl) hs hg).mono ?_
  rintro _ g ⟨rfl,F⟩
  exact⟨_,rfl,rfl,(S.fra0 F).fra⟩
abbrev VM (gv:Gv) (R Hi:Int→Int) (b1 b6 b14 b18 b20 bH:Nat) (r:Sl) (k:Nat):List Fact:=
 [blk b1 gv.cells,own 1 r.p r.l r.c (ints r.xs),blk b6 [r.v],blk bH (ints ((List.range (gv.l+1)).map fun x:Nat=>Hi x)),blk b14 [.slice (some ⟨bH,0,none⟩) (gv.l+1) (gv.l+1)],
  blk b18 (ints (roomsK gv.gr.nodes R Hi k)),blk b20 [.slice (some ⟨b18,0,none⟩) (gv.l+1) (gv.l+1)]]
def RoomsQ (gv:Gv) (R Hi:Int→Int) (h:Heap) (v:Value) (h':Heap):Prop:= ∃b,v= .slice (some ⟨b,0,none⟩) (gv.l+1) (gv.l+1)∧Sep h no h' [blk b (ints (gv.gr.rooms R Hi))] []
theorem rooms_end_ok (hok:gv.ok) (hs:gv.sizes) (rt:Right gv.gr W R pos) (rc:Reach gv.gr.nodes R Lo Hi) (rok:r.ok) (er:r.xs=(List.range (gv.l+1)).map fun x:Nat=>R x) {b1 b6 b14 b18 b20 bH:Nat} {K1:(Addr×Addr×Addr×Addr×Int×Int×Unit)→Heap→Prop} {g:Heap}
 (S:Sep h no g (VM gv R Hi b1 b6 b14 b18 b20 bH r 0) (R3 gv)):field_Rooms_l5 (RoomsQ gv R Hi h) K1 ⟨b1,0,none⟩ ⟨b6,0,none⟩ ⟨b14,0,none⟩ ⟨b20,0,none⟩ ((gv.l+1:Nat):Int) ((gv.l+1:Nat):Int) g:=by
 have hgl:=hok.1
 have hgn:gv.gr.nodes.length=gv.l:=by rw[←hgl];simp[Gv.gr]
 have hb:=bnd_of hok rt rc
 have lenR:r.l=gv.l+1:=by rw[←rok.1,er];simp
 unfold field_Rooms_l5
 refine ifB_false (decide_eq_false (by omega)) ?_
 refine ldAg_S S 0 rfl (x:=gv.t) rfl ?_
 refine(all_ok gv).mono ?_
 rintro _ g1 ⟨bg,rfl,S1⟩
 replace S:=S.add S1 fun _ _ h=>h
 dsimp only[List.cons_append,List.nil_append] at S
 refine⟨_,rfl,?_⟩
 refine rangeAll_S (VM gv R Hi b1 b6 b14 b18 b20 bH r) hok hs rt (S.pw [7,0,1,2,3,4,5,6]) (fun k i nv D l rdy busy o g Rr hk ek en S H=> ?_) (fun D l exh o g S=> ?_)
 ·have A:=at19 hok hs rt hk ek en
  have hsz:=chk_size A.chk
  have hsize: -2 ^ 20≤nv.size∧nv.size≤2 ^ 20:=by have h1:0≤nv.size∧nv.size≤8:=hsz.1;omega
  have hgap: -2 ^ 20≤nv.gap∧nv.gap≤2 ^ 20:=by have h1:0≤nv.gap∧nv.gap≤4:=hsz.2.1;omega
  have hil:=A.lt
  have ilen:=A.ilen
  have i1:=A.i1
  have i4:=A.i4
  dsimp only[List.cons_append,List.nil_append] at S H
  have hstep:roomsK gv.gr.nodes R Hi (k+1)=nv.inn.xs.foldl (roomIn nv.nd (R ((i:Int)+1)) (mostL (nv.inn.xs.map Hi)) Hi) (roomsK gv.gr.nodes R Hi k):=by
   unfold roomsK
   have hkl:=(List.getElem?_eq_some_iff.1 ek).1
   rw[List.take_succ_eq_append_getElem hkl,List.foldl_append,(List.getElem?_eq_some_iff.1 ek).2]
   show roomStep _ _ _ _ _=_
   unfold roomStep
   rw[show((i:Int)+1).toNat-1=i by omega,A.at_];rfl
  rw[hstep] at H
  have hlK:=roomsK_length gv.gr.nodes R Hi k
  rw[hgn] at hlK
  refine newI_S S fun b34 g2 _ S=> ?_
  dsimp only[List.cons_append,List.nil_append] at S
  refine stL_S S 11 rfl rfl (mkS_one rfl) fun g3 _ S=> ?_
  dsimp only[List.set] at S
  refine⟨S.w 9 _ rfl,?_⟩
  replace S:=setObj_S S 9 busy rfl
  dsimp only[List.set] at S
  generalize Array.setIfInBounds g3 l busy=g4 at S
  have irow: ∀{g:Heap} {W2:List Fact},Sep h no g W2 (R3 gv)→Row g nv.inn.p (ints nv.inn.xs):=fun S=>S.r 2 _ rfl nv.rows A.rows nv.inn.row (by simp)
  refine ldSlice_i (S.cell 5 rfl rfl) (ldSlice_i (p:=nv.inn.p) (l:=nv.inn.l) (c:=nv.inn.c) (S.cell 11 rfl rfl) ?_)
  refine(fpick_ok (Row.of_at (S.at 4 rfl)) (by simp) (irow S) ilen (by omega) (fun j hj=>by have:=A.bnd j hj;omega)).mono ?_
  rintro _ g6 ⟨bp,rfl,S1⟩
  have epk:pickG ((List.range (gv.l+1)).map fun x:Nat=>Hi x) nv.inn.xs=nv.inn.xs.map Hi:=by
   refine List.map_congr_left fun j hj=> ?_
   have:=A.bnd j hj
   rw[List.getD_eq_getElem?_getD,List.getElem?_map,List.getElem?_range (by omega)]
   show Hi ((j.toNat:Nat):Int)=_
   rw[show((j.toNat:Nat):Int)=j by omega]
  rw[epk] at S1
  replace S:=S.add S1 fun _ _ h=>h
  dsimp only[List.cons_append,List.nil_append] at S
  refine⟨_,_,_,rfl,?_⟩
  refine(Max_ok (Row.of_at (S.at 12 rfl)) (by rw[List.length_map];exact ilen) i1 (by omega)).mono ?_
  rintro _ g7 ⟨rfl,eg⟩
  subst eg
  refine⟨_,rfl,ldSlice_i (p:=nv.inn.p) (l:=nv.inn.l) (c:=nv.inn.c) (S.cell 11 rfl rfl) ?_⟩
  obtain⟨top,etop⟩: ∃top,mostL (nv.inn.xs.map Hi)=top:=⟨_,rfl⟩
  rw[etop] at H ⊢
  refine LoopS_i (fun m s g=> ∃j:Nat,s=(⟨b6,0,none⟩,⟨b14,0,none⟩,⟨b20,0,none⟩,(i:Int)+1,⟨b34,0,none⟩,top,(nv.inn.p,nv.inn.l,nv.inn.c),(nv.inn.l:Int),(j:Int),())∧j≤nv.inn.l∧m=nv.inn.l-j∧
   Sep h no g [blk bg gv.cells,blk b1 gv.cells,own 1 r.p r.l r.c (ints r.xs),blk b6 [r.v],blk bH (ints ((List.range (gv.l+1)).map fun x:Nat=>Hi x)),blk b14 [.slice (some ⟨bH,0,none⟩) (gv.l+1) (gv.l+1)],
    blk b18 (ints ((nv.inn.xs.take j).foldl (roomIn nv.nd (R ((i:Int)+1)) top Hi) (roomsK gv.gr.nodes R Hi k))),blk b20 [.slice (some ⟨b18,0,none⟩) (gv.l+1) (gv.l+1)],obj D (.deferred (some [])),obj l busy,own 1 o.p o.l o.c (ints o.xs),blk b34 nv.cells] (R3 gv)) nv.inn.l ⟨0,rfl,by omega,rfl,S.pw [0,1,2,3,4,5,6,7,8,9,10,11]⟩ ?_
  clear S S1
  rintro m s g ⟨j,rfl,hj,rfl,S⟩
  unfold field_Rooms_l14
  dsimp only
  refine ifB_dec (fun hlt=> ?_) (fun hge=> ?_)
  ·have hlt:j<nv.inn.l:=by omega
   have hlt':j<nv.inn.xs.length:=by omega
   have hjr:=A.bnd nv.inn.xs[j] (List.getElem_mem hlt')
   obtain⟨x,ex⟩: ∃x:Nat,nv.inn.xs[j]=x:=⟨nv.inn.xs[j].toNat,by omega⟩
   rw[ex] at hjr
   have ir:=irow S
   obtain⟨ia,eia⟩:=ir.some_of (by rw[ints_length];omega)
   rw[eia] at ir
   refine idxI_i eia (k:=j) rfl hlt ?_
   simp only[Int.toNat_natCast,Nat.mul_one]
   refine ldInt_i (n:=(x:Int)) (ir.cell (ints_get (by rw[List.getElem?_eq_getElem hlt',ex]))) ?_
   refine ldAg_S S 11 rfl (x:=nv.t) rfl ?_
   obtain⟨os,eos⟩: ∃os,(nv.inn.xs.take j).foldl (roomIn nv.nd (R ((i:Int)+1)) top Hi) (roomsK gv.gr.nodes R Hi k)=os:=⟨_,rfl⟩
   have los:os.length=gv.l+1:=by rw[←eos,roomIn_length,hlK]
   rw[eos] at S
   refine ldSlice_i (S.cell 7 rfl rfl) (ldSlice_i (S.cell 7 rfl rfl) (idxI_i rfl (k:=x) rfl (by omega) ?_))
   simp only[add_mk,Nat.zero_add,Int.toNat_natCast]
   have cx: ∀{g:Heap} {W2:List Fact},Sep h no g W2 (R3 gv)→W2[6]? =some (blk b18 (ints os))→cellH g ⟨b18,x,none⟩=some (.int .i64 (os.getD x 0)):=fun S e=>S.cell 6 e (ints_get (by rw[List.getD_eq_getElem?_getD,List.getElem?_eq_getElem (by omega)];rfl))
   refine ldInt_i (cx S rfl) ?_
   refine ldSlice_i (p:=r.p) (l:=r.l) (c:=r.c) (S.cell 3 rfl rfl) ?_
   have ro:=(S.own 2 rfl).row
   obtain⟨ra,era⟩:=ro.some_of (by rw[ints_length,rok.1];omega)
   rw[era] at ro
   refine idxI_i era (k:=i+1) rfl (by omega) ?_
   rw[show((i:Int)+1).toNat=i+1 by omega]
   refine ldInt_i (n:=R ((i:Int)+1)) (ro.cell (ints_get (by rw[er,List.getElem?_map,List.getElem?_range (by omega)];rfl))) ?_
   refine ldSlice_i (S.cell 5 rfl rfl) (idxI_i rfl (k:=x) rfl (by omega) ?_)
   simp only[add_mk,Nat.zero_add,Int.toNat_natCast]
   refine ldInt_i (n:=Hi (x:Int)) (S.cell 4 rfl (ints_get (by rw[List.getElem?_map,List.getElem?_range (by omega)];rfl))) ?_
   refine(room_ok nv (S.r 0 _ rfl) hsize hgap _ _).mono ?_
   rintro _ g2 ⟨rfl,F⟩
   replace S:=S.fra0 F
   refine⟨_,rfl,and_i (S.cell 3 rfl rfl) (and_i (cx S rfl) (and_i (S.cell 7 rfl rfl) (and_i (S.cell 7 rfl rfl) ?_)))⟩
   refine idxI_i rfl (k:=x) rfl (by omega) ?_
   simp only[add_mk,Nat.zero_add,Int.toNat_natCast]
   refine stI_S S 6 rfl (by rw[ints_length];omega) fun g3 _ S=> ?_
   dsimp only[List.set] at S
   rw[ints_set'] at S
   rw[wrap64_in (n:=(j:Int)+1) (by omega)]
   refine⟨nv.inn.l-(j+1),by omega,j+1,rfl,by omega,rfl,?_⟩
   rw[List.take_succ_eq_append_getElem hlt',List.foldl_append,eos,ex]
   exact S
  ·have:j=nv.inn.l:=by omega
   subst this
   rw[List.take_of_length_le (by omega)] at S
   exact H _ (S.pw [0,1,2,3,4,5,6,7,8,9,10])
 ·dsimp only[List.cons_append,List.nil_append] at S
  refine ldSlice_i (S.cell 7 rfl rfl) ⟨S.w 8 _ rfl,?_⟩
  replace S:=setObj_S S 8 (.deferred none) rfl
  dsimp only[List.set] at S
  refine⟨b18,rfl,?_⟩
  have e:gv.gr.rooms R Hi=roomsK gv.gr.nodes R Hi gv.l:=by unfold Gr.rooms;rw[hgn]
  rw[e]
  exact noR (S.pw [6])
theorem Rooms_ok (hok:gv.ok) (hn:Row h gv.p (nflat gv.ns)) (hr:(nrows gv.ns).P h) (hs:gv.sizes) (hT:KT h) (rt:Right gv.gr W R pos) (rc:Reach gv.gr.nodes R Lo Hi):callP P n_field_Rooms #[gv.v] h (RoomsQ gv R Hi h):=by
 refine call_field_Rooms _ ?_
 unfold field_Rooms
 have hgl:=hok.1
 have hgn:gv.gr.nodes.length=gv.l:=by rw[←hgl];simp[Gv.gr]
 have hl12:gv.l≤12:=by have:=(first_ok rt.first).2.1;omega
 have S:=(((Sep.start h no).read (blk 0 (ints kindTab)) hT).read (row gv.p (nflat gv.ns)) hn).read (nrows gv.ns) hr
 refine newI_S (cs:=gv.cells) S fun b1 h1 _ S=> ?_
 dsimp only[List.nil_append,List.cons_append] at S
 refine ldAg_S S 0 rfl (x:=gv.t) rfl ?_
 refine(Rates_ok hok (S.row 1 rfl) (S.r 2 _ rfl) hs (S.r 0 _ rfl)).mono ?_
 rintro _ g2 ⟨r,rfl,rok,er,S1⟩
 rw[rt.look,hgn] at er
 replace S:=S.add S1 fun _ _ h=>h
 dsimp only[List.cons_append,List.nil_append] at S
 have lenR:r.l=gv.l+1:=by rw[←rok.1,er];simp
 refine⟨_,_,_,rfl,?_⟩
 refine newI_S S fun b6 h1 _ S=> ?_
 dsimp only[List.nil_append,List.cons_append] at S
 refine stI_S S 2 rfl (Nat.le_of_ble_eq_true rfl) fun g3 _ S=> ?_
 dsimp only[List.set] at S
 refine ldAg_S S 0 rfl (x:=gv.t) rfl ?_
 refine(Reach_ok hok (S.row 1 rfl) (S.r 2 _ rfl) hs (S.r 0 _ rfl) rt rc).mono ?_
 rintro _ g4 ⟨bL,bH,rfl,S1⟩
 replace S:=S.add S1 fun _ _ h=>h
 dsimp only[List.cons_append,List.nil_append] at S
 refine⟨_,_,_,_,_,_,rfl,?_⟩
 refine newI_S S fun b14 h1 _ S=> ?_
 dsimp only[List.nil_append,List.cons_append] at S
 refine stI_S S 5 rfl (Nat.le_of_ble_eq_true rfl) fun g5 _ S=> ?_
 dsimp only[List.set] at S
 refine ldSlice_i (p:=r.p) (l:=gv.l+1) (c:=r.c) (by rw[←lenR];exact S.cell 2 rfl rfl) ?_
 refine mkI_S S (gv.l+1) rfl (zs:=[.int .i64 0]) rfl rfl (by decide) (by omega) (by omega) fun b18 g6 _ S=> ?_
 dsimp only[List.nil_append,List.cons_append] at S
 rw[repl_one,show List.replicate (gv.l+1) (Value.int .i64 0)=ints (List.replicate (gv.l+1) 0) by simp[ints]] at S
 simp only[Int.toNat_natCast]
 refine newI_S S fun b20 h1 _ S=> ?_
 dsimp only[List.nil_append,List.cons_append] at S
 refine stI_S S 7 rfl (Nat.le_of_ble_eq_true rfl) fun g7 _ S=> ?_
 dsimp only[List.set] at S
 refine ldSlice_i (S.cell 7 rfl rfl) ?_
 refine LoopS_i (fun m s g=> ∃i:Nat,s=(⟨b1,0,none⟩,⟨b6,0,none⟩,⟨b14,0,none⟩,⟨b20,0,none⟩,((gv.l+1:Nat):Int),(i:Int),())∧i≤gv.l+1∧m=gv.l+1-i∧
  Sep h no g [blk b1 gv.cells,own 1 r.p r.l r.c (ints r.xs),blk b6 [r.v],blk bL (ints ((List.range (gv.l+1)).map fun x:Nat=>Lo x)),blk bH (ints ((List.range (gv.l+1)).map fun x:Nat=>Hi x)),blk b14 [.slice (some ⟨bH,0,none⟩) (gv.l+1) (gv.l+1)],
   blk b18 (ints (List.replicate i 1++List.replicate (gv.l+1-i) 0)),blk b20 [.slice (some ⟨b18,0,none⟩) (gv.l+1) (gv.l+1)]] (R3 gv)) (gv.l+1) ⟨0,rfl,by omega,rfl,S⟩ ?_
 clear S
 rintro m s g ⟨i,rfl,hi,rfl,S⟩
 dsimp only
 by_cases hlt:i<gv.l+1
 ·unfold field_Rooms_l5
  refine ifB_true (decide_eq_true (by omega)) ?_
  refine ldSlice_i (S.cell 7 rfl rfl) (idxI_i rfl (k:=i) rfl hlt ?_)
  simp only[add_mk,Nat.zero_add,Int.toNat_natCast,Nat.mul_one]
  refine stI_S S 6 rfl (by rw[ints_length,List.length_append,List.length_replicate,List.length_replicate];omega) fun g3 _ S=> ?_
  dsimp only[List.set] at S
  rw[ints_set',fill_set (List.length_replicate ..) hlt] at S
  rw[wrap64_in (n:=(i:Int)+1) (by omega)]
  have e:(List.replicate i (1:Int))++[1]=List.replicate (i+1) 1:=by rw[List.replicate_succ']
  rw[e] at S
  exact⟨gv.l+1-(i+1),by omega,i+1,rfl,by omega,rfl,S⟩
 ·have:i=gv.l+1:=by omega
  subst this
  rw[Nat.sub_self,List.replicate_zero,List.append_nil] at S
  have e0:List.replicate (gv.l+1) (1:Int)=roomsK gv.gr.nodes R Hi 0:=by unfold roomsK;rw[hgn];rfl
  rw[e0] at S
  exact rooms_end_ok hok hs rt rc rok er (S.pw [0,1,2,4,5,6,7])
theorem Cost_ok {nv:Nv} (hok:nv.ok) (hr:nv.rows.P h) (hT:KT h) (hi:nv.inn.l<2 ^ 20) (hw:nv.weights.l<2 ^ 40) (hb:nv.bias.l<2 ^ 40) {w:Int} (hc:wei nv.kind→nv.nd.chk [w]=0):callP P n_kernel_Cost #[nv.v,.int .i64 w] h fun v h'=>v= .int .i64 (nv.nd.cost:Int)∧Fra no h h':=by
 refine call_kernel_Cost _ _ ?_
 unfold kernel_Cost
 have S:=((Sep.start h no).read (blk 0 (ints kindTab)) hT).read nv.rows hr
 refine newI_S (cs:=nv.cells) S fun b1 h1 _ S=> ?_
 dsimp only[List.cons_append,List.nil_append] at S
 have ec:(nv.nd.cost:Int)=if wei nv.kind then(nv.weights.l:Int) else 0:=by
  unfold Nd.cost
  show((if wei nv.kind then nv.weights.xs.length else 0:Nat):Int)=_
  rw[hok.2.1.1]
  split<;>rfl
 rw[ec]
 have yes:wei nv.kind→ldAg A1 h1 ⟨b1,0,none⟩ fun x4=>newI h1 (.cells #[(.int .i64 w)] 3 (0,0)) fun b5 h6=>callInt P .i64 n_kind_Check #[(agS A1 x4),(.slice (some ⟨b5,0,none⟩) 1 1)] h6 fun n8 h7=>
  ifB (n8==(0:Int)) (ldSlice h7 ⟨b1,8,none⟩ fun p9 l9 c9=>Value.int .i64 ((l9:Nat):Int)= .int .i64 (if wei nv.kind then(nv.weights.l:Int) else 0)∧Fra no h h7) (Value.int .i64 0= .int .i64 (if wei nv.kind then(nv.weights.l:Int) else 0)∧Fra no h h7):=by
  intro hk
  refine ldAg_S S 0 rfl (x:=nv.t) rfl ?_
  refine newI_S (cs:=ints [w]) S fun b5 g2 _ S=> ?_
  dsimp only[List.cons_append,List.nil_append] at S
  refine(Check_ok hok (S.r 1 _ rfl) (by omega) (by omega) (by omega) (S.r 0 _ rfl) (Row.of_at (S.at 1 rfl)) (l:=1) rfl (by decide)).mono ?_
  rintro _ g3 ⟨rfl,F⟩
  replace S:=S.fra0 F
  refine⟨_,rfl,ifB_beq (fun _=> ?_) (fun hn=>absurd (hc hk) hn)⟩
  refine ldSlice_i (p:=nv.weights.p) (l:=nv.weights.l) (c:=nv.weights.c) (S.cell 0 rfl rfl) ⟨by rw[if_pos hk],S.fra⟩
 refine ldInt_i (n:=nv.kind) (S.cell 0 rfl rfl) (ifB_beq (fun k1=>yes (.inl k1)) (fun k1=>ifB_beq (fun k2=>yes (.inr (.inl k2))) (fun k2=>ifB_beq (fun k6=>yes (.inr (.inr k6))) (fun k6=> ?_))))
 exact⟨by rw[if_neg (by rintro(h|h|h);exact k1 h;exact k2 h;exact k6 h)],S.fra⟩
theorem Macs_ok (hok:gv.ok) (hn:Row h gv.p (nflat gv.ns)) (hr:(nrows gv.ns).P h) (hs:gv.sizes) (hT:KT h) (rt:Right gv.gr W R pos):callP P n_field_Macs #[gv.v] h fun v h'=>v= .int .i64 gv.gr.macs∧Fra no h h':=by
 refine call_field_Macs _ ?_
 unfold field_Macs
 have hgl:=hok.1
 have hgn:gv.gr.nodes.length=gv.l:=by rw[←hgl];simp[Gv.gr]
 have S:=(((Sep.start h no).read (blk 0 (ints kindTab)) hT).read (row gv.p (nflat gv.ns)) hn).read (nrows gv.ns) hr
 refine newI_S (cs:=gv.cells) S fun b1 h1 _ S=> ?_
 dsimp only[List.nil_append,List.cons_append] at S
 refine ldAg_S S 0 rfl (x:=gv.t) rfl ?_
 refine(Widths_ok hok (S.row 1 rfl) (S.r 2 _ rfl) hs (S.r 0 _ rfl)).mono ?_
 rintro _ g2 ⟨w,rfl,wok,ew,S1⟩
 rw[rt.look,hgn] at ew
 replace S:=S.add S1 fun _ _ h=>h
 dsimp only[List.cons_append,List.nil_append] at S
 have lenW:w.l=gv.l+1:=by rw[←wok.1,ew];simp
 refine⟨_,_,_,rfl,?_⟩
 refine newI_S S fun b6 h1 _ S=> ?_
 dsimp only[List.nil_append,List.cons_append] at S
 refine stI_S S 2 rfl (Nat.le_of_ble_eq_true rfl) fun g3 _ S=> ?_
 dsimp only[List.set] at S
 refine newI_S S fun b9 h1 _ S=> ?_
 dsimp only[List.nil_append,List.cons_append] at S
 refine stI_S S 3 rfl (Nat.le_of_ble_eq_true rfl) fun g4 _ S=> ?_
 dsimp only[List.set] at S
 refine ldAg_S S 0 rfl (x:=gv.t) rfl ?_
 refine(all_ok gv).mono ?_
 rintro _ g5 ⟨bg,rfl,S1⟩
 replace S:=S.add S1 fun _ _ h=>h
 dsimp only[List.cons_append,List.nil_append] at S
 refine⟨_,rfl,?_⟩
 refine rangeAll_S (fun k=>[blk b1 gv.cells,own 1 w.p w.l w.c (ints w.xs),blk b6 [w.v],blk b9 [.int .i64 (macsK gv.gr.nodes k)]]) hok hs rt (S.pw [4,0,1,2,3]) (fun k i nv D l rdy busy o g Rr hk ek en S H=> ?_) (fun D l exh o g S=> ?_)
 ·have A:=at19 hok hs rt hk ek en
  obtain⟨x0,ex0,hx0,hV0⟩:=A.fst
  have ilen:=A.ilen
  have i1:=A.i1
  dsimp only[List.cons_append,List.nil_append] at S H
  have hstep:macsK gv.gr.nodes (k+1)=IntKind.wrap .i64 (macsK gv.gr.nodes k+(nv.nd.cost:Int)):=by
   unfold macsK
   have hkl:=(List.getElem?_eq_some_iff.1 ek).1
   rw[List.take_succ_eq_append_getElem hkl,List.foldl_append,(List.getElem?_eq_some_iff.1 ek).2,←costX_at A.at_];rfl
  rw[hstep] at H
  refine newI_S S fun b18 g2 _ S=> ?_
  dsimp only[List.cons_append,List.nil_append] at S
  refine stL_S S 8 rfl rfl (mkS_one rfl) fun g3 _ S=> ?_
  dsimp only[List.set] at S
  refine⟨S.w 6 _ rfl,?_⟩
  replace S:=setObj_S S 6 busy rfl
  dsimp only[List.set] at S
  generalize Array.setIfInBounds g3 l busy=g4 at S
  refine ldAg_S S 8 rfl (x:=nv.t) rfl (ldInt_i (S.cell 4 rfl rfl) ?_)
  refine ldSlice_i (p:=w.p) (l:=w.l) (c:=w.c) (S.cell 3 rfl rfl) (ldSlice_i (p:=nv.inn.p) (l:=nv.inn.l) (c:=nv.inn.c) (S.cell 8 rfl rfl) ?_)
  have nr:nv.rows.P g4:=S.r 2 _ rfl nv.rows A.rows
  have ir:Row g4 nv.inn.p (ints nv.inn.xs):=nr nv.inn.row (by simp)
  obtain⟨ia,eia⟩:=ir.some_of (by rw[ints_length];omega)
  rw[eia] at ir
  refine idxI_i eia (k:=0) rfl (by omega) (ldInt_i (ir.cell (ints_get ex0)) ?_)
  have wr:=(S.own 2 rfl).row
  obtain⟨wa,ewa⟩:=wr.some_of (by rw[ints_length,wok.1];omega)
  rw[ewa] at wr
  refine idxI_i ewa (k:=x0) rfl (by omega) ?_
  simp only[Int.toNat_natCast,Nat.mul_one]
  refine ldInt_i (n:=W (x0:Int)) (wr.cell (ints_get (by rw[ew,List.getElem?_map,List.getElem?_range (by omega)];rfl))) ?_
  have hci:wei nv.kind→nv.nd.chk [W (x0:Int)]=0:=fun hwe=>by
   have hlen1:nv.nd.inn.length=1:=by
    have:=(chk_ok A.chk).2.2.2.2.2.2.1 (by
     have hk:nv.nd.kind=nv.kind:=rfl
     rw[hk]
     rintro(h|h)<;>rcases hwe with h2|h2|h2<;>omega)
    rw[List.length_map] at this;exact this
   obtain⟨y,hy⟩:=List.length_eq_one_iff.1 hlen1
   have e2:=hV0 W
   have hc:=A.chk
   rw[hy] at e2 hc
   have e3:W y=W (x0:Int):=e2
   rw[←e3];exact hc
  refine(Cost_ok A.ok nr (S.r 0 _ rfl) A.sz.1 A.sz.2.1 A.sz.2.2 hci).mono ?_
  rintro _ g5 ⟨rfl,F⟩
  replace S:=S.fra0 F
  refine⟨_,rfl,and_i (S.cell 3 rfl rfl) (and_i (S.cell 4 rfl rfl) ?_)⟩
  refine stI_S S 4 rfl (Nat.le_of_ble_eq_true rfl) fun g6 _ S=> ?_
  dsimp only[List.set] at S
  exact H _ (S.pw [0,1,2,3,4,5,6,7])
 ·dsimp only[List.cons_append,List.nil_append] at S
  refine ldInt_i (S.cell 4 rfl rfl) ⟨S.w 5 _ rfl,?_⟩
  replace S:=setObj_S S 5 (.deferred none) rfl
  have e:gv.gr.macs=macsK gv.gr.nodes gv.l:=by unfold Gr.macs;rw[hgn]
  rw[e]
  exact⟨rfl,S.fra⟩
end
end Go.Proofs.YtdhpmegbmjoekaaGreatDoor.G
end
