/- CAll CFld CFld2, in one text. -/
import Derived.Test.YtdhpmegbmjoekaaGreatDoorCRng2
import Derived.Test.YtdhpmegbmjoekaaGreatDoorCReachV
import Derived.Test.YtdhpmegbmjoekaaGreatDoorShRg
section
namespace Go.Proofs.YtdhpmegbmjoekaaGreatDoor.G
open Go Go.Sh
set_option linter.unusedVariables false
set_option linter.unusedSimpArgs false
theorem bJ.posG {g:Gr} {W R:Int→Int} {pos:Int→Nat} (r:bJ g W R pos):bJ g W R (Go.Proofs.YtdhpmegbmjoekaaGreatDoor.G.posG g.nodes):=
 {r with rank:=fun i n en j hj _=>mH r.ordered en hj}
section
variable {h0 h:ae} {T:Nat→Prop} {gv:Gv} {W R:Int→Int} {pos:Int→Nat} {bg:Nat}
theorem Jy {y:Value} (J:Sl→Nat→ae→Prop) (hok:gv.ok) (hs:gv.sizes) (rt:bJ gv.gr W R pos) (hn:bT h gv.p (aF gv.ns)) (hr:(aZ gv.ns).P h) (hT:KT h) (hbg: ∀j v,gv.cells[j]? =some v→aD h ⟨bg,j,none⟩=some v)
 (hJ: ∀o k g,J o k g→bT g o.p (az o.xs)∧bT g gv.p (aF gv.ns)∧aD g ⟨bg,3,none⟩=some (.slice gv.p gv.l gv.c))
 (h0: ∀(o:Sl) h',o.ok→o.xs=cU gv.gr.nodes→aK h no h' [own 1 o.p o.l o.c (az o.xs)] []→J o 0 h')
 (hy: ∀(o:Sl) (k i:Nat) (nv:Nv) g,k<gv.l→(cU gv.gr.nodes)[k]? =some ((i:Int)+1)→gv.ns[i]? =some nv→J o k g→fw P y [.int .i64 ((i:Int)+1),nv.v] g fun v g'=>v= .bool true∧J o (k+1) g'):
 aq P hG #[y,.pointer (some ⟨bg,0,none⟩)] h fun v h'=> ∃o,J o gv.l h':=by
 have hgl:=hok.1
 have hgn:gv.gr.nodes.length=gv.l:=by rw[←hgl];simp[Gv.gr]
 have hl12:gv.l≤12:=by have:=(bW rt.first).2.1;omega
 refine yw _ _ ?_
 unfold zC
 refine Gk (x:=gv.t) (fun j v hv=>by rw[aY,Nat.zero_add];exact hbg j v hv) ?_
 refine(Bu hok hn hr hs hT).mono ?_
 rintro _ g1 ⟨o,rfl,ook,eo,S1⟩
 have eo:o.xs=cU gv.gr.nodes:=by rw[eo,rt.look]
 refine⟨_,_,_,rfl,?_⟩
 have hol:o.l=gv.l:=by rw[←ook.1,eo,rt.ordered,hgn]
 refine aT (fun m s g=> ∃k:Nat,s=(y,⟨bg,0,none⟩,(o.p,o.l,o.c),(o.l:Int),(k:Int),())∧k≤gv.l∧m=gv.l-k∧J o k g) gv.l ⟨0,rfl,by omega,rfl,h0 o _ ook eo S1⟩ ?_
 rintro m s g ⟨k,rfl,hk,rfl,hj⟩
 unfold sw
 dsimp only
 simp only[aY,Nat.zero_add,Int.toNat_natCast,Nat.mul_one]
 obtain⟨ro,rn,hc⟩:=hJ o k g hj
 refine au (fun hlt=> ?_) (fun hge=> ?_)
 ·have hkl:k<o.xs.length:=by rw[ook.1];omega
  have hxm:=fT gv.gr.nodes gv.gr.nodes.length o.xs[k] (by rw[eo] at hkl;simp only[eo];exact List.getElem_mem hkl)
  obtain⟨i,ex⟩: ∃i:Nat,o.xs[k]=(i:Int)+1:=⟨(o.xs[k]-1).toNat,by have:=hxm.1;omega⟩
  rw[ex,hgn] at hxm
  have hil:i<gv.l:=by omega
  obtain⟨nv,en⟩: ∃n,gv.ns[i]? =some n:=⟨_,List.getElem?_eq_getElem (by omega)⟩
  obtain⟨ao,eao⟩:=ro.some_of (by rw[aB];omega)
  rw[eao] at ro
  obtain⟨an,ean⟩:=rn.some_of (by rw[bY];omega)
  rw[ean] at rn
  have eko:o.xs[k]? =some ((i:Int)+1):=by rw[List.getElem?_eq_getElem hkl,ex]
  refine aG eao (k:=k) rfl (by omega) (af (ro.cell (aN eko)) ?_)
  refine am hc ?_
  rw[al (n:=(i:Int)+1-1) (by omega),show(i:Int)+1-1=(i:Int) by omega]
  refine aG ean (k:=i) rfl hil ?_
  simp only[Int.toNat_natCast]
  refine kD rn en ?_
  refine qL (hy o k i nv g (by omega) (by rw[←eo];exact eko) en hj) ?_
  rintro _ g2 ⟨rfl,hj2⟩
  refine⟨_,rfl,bQ rfl ?_⟩
  rw[al (n:=(k:Int)+1) (by omega)]
  exact⟨gv.l-(k+1),by omega,k+1,rfl,by omega,rfl,hj2⟩
 ·have:k=gv.l:=by omega
  subst this
  exact⟨o,hj⟩
theorem KB {α:Type} (f a b b' c:α) (l:List α):(f::(l++[a,b,c])).set (l.length+2) b'=f::(l++[a,b',c]):=by
 rw[show l.length+2=(l.length+1)+1 from rfl,List.set_cons_succ,List.set_append,if_neg (by omega),Nat.add_sub_cancel_left];rfl
theorem DH {α:Type} (f a b c:α) (l:List α):(f::(l++[a,b,c]))[l.length+2]? =some b:=by
 rw[show l.length+2=(l.length+1)+1 from rfl,List.getElem?_cons_succ,List.getElem?_append_right (by omega),Nat.add_sub_cancel_left];rfl
theorem Qe {α:Type} (f a b c:α) (l:List α):(f::(l++[a,b,c]))[l.length+3]? =some c:=by
 rw[show l.length+3=(l.length+2)+1 from rfl,List.getElem?_cons_succ,List.getElem?_append_right (by omega),Nat.add_sub_cancel_left];rfl
abbrev R3 (gv:Gv):List bi:=[blk 0 (az aS),row gv.p (aF gv.ns),aZ gv.ns]
theorem wz {round:Obj→Obj→Nat→Oc [.sc (.int .i64),.ag da]→(ae→Prop)→ae→Prop} {K:Nat→ae→Prop} (V:Nat→List bi) (hok:gv.ok) (hs:gv.sizes) (rt:bJ gv.gr W R pos) (S:aK h0 T h (blk bg gv.cells::V 0) (R3 gv))
 (hy: ∀(k i:Nat) (nv:Nv) (D l:Nat) (rdy busy:Obj) (o:Sl) (g:ae) (Rr:ae→Prop),k<gv.l→(cU gv.gr.nodes)[k]? =some ((i:Int)+1)→gv.ns[i]? =some nv→
  aK h0 T g (blk bg gv.cells::(V k++[GR D (.deferred (some [])),GR l rdy,own 1 o.p o.l o.c (az o.xs)])) (R3 gv)→
  (∀g3,aK h0 T g3 (blk bg gv.cells::(V (k+1)++[GR D (.deferred (some [])),GR l busy,own 1 o.p o.l o.c (az o.xs)])) (R3 gv)→Rr g3)→round rdy busy l (((i:Int)+1:Int),nv.t,()) Rr g)
 (hK: ∀(D l:Nat) (exh:Obj) (o:Sl) (g:ae),aK h0 T g (blk bg gv.cells::(V gv.l++[GR D (.deferred (some [])),GR l exh,own 1 o.p o.l o.c (az o.xs)])) (R3 gv)→K D g):
 vY P (.func (.func hG) #[] #[.pointer (some ⟨bg,0,none⟩)]) [.sc (.int .i64),.ag da] round h K:=by
 refine HW S fun D lp rdy busy exh h2 S hyl=> ?_
 have I:=Jy (y:= .func (.yield lp) #[] #[]) (bg:=bg) (h:=h2) (fun o k g=>aK h0 T g (blk bg gv.cells::(V k++[GR D (.deferred (some [])),GR lp rdy,own 1 o.p o.l o.c (az o.xs)])) (R3 gv)) hok hs rt (S.row 1 rfl) (S.r 2 _ rfl) (S.r 0 _ rfl)
  (fun j v hv=>S.cell 0 rfl hv) (fun o k g S=>⟨(S.own ((V k).length+3) (Qe _ _ _ _ _)).row,S.row 1 rfl,S.cell 0 rfl rfl⟩)
  (fun o h' _ _ S1=> ?_) (fun o k i nv g hk ek en S=> ?_)
 ·refine aq.mono I ?_
  rintro _ g ⟨o,S⟩
  refine⟨S.w _ _ (DH _ _ _ _ _),?_⟩
  have S2:=gX S _ exh (DH _ _ _ _ _)
  rw[KB] at S2
  exact hK D lp exh o _ S2
 ·have S2:=S.add S1 fun _ _ h=>h
  simp only[List.cons_append,List.append_assoc,List.nil_append,List.append_nil] at S2
  exact S2
 ·refine hyl (((i:Int)+1:Int),nv.t,()) g _ (S.w _ _ (DH _ _ _ _ _)) ?_
  refine hy k i nv D lp rdy busy o g _ hk ek en S fun g3 S3=> ?_
  refine⟨S3.w _ _ (DH _ _ _ _ _),rfl,?_⟩
  have S4:=gX S3 _ rdy (DH _ _ _ _ _)
  rw[KB] at S4
  exact S4
theorem Jz (gv:Gv):aq P jM #[gv.v] h fun v h'=> ∃bg,v= .func (.func hG) #[] #[.pointer (some ⟨bg,0,none⟩)]∧aK h no h' [blk bg gv.cells] []:=by
 refine BD _ ?_
 unfold EO
 exact aC (cs:=gv.cells) (aK.start h no) fun b1 h1 _ S=>⟨b1,rfl,S⟩
theorem DI {p q:Option Addr} {l c m d:Nat} {xs js:List Int} (rx:bT h p (az xs)) (lx:xs.length=l) (rj:bT h q (az js)) (lj:js.length=m) (hm:m<2 ^ 40) (hj: ∀j∈js,0≤j∧j<(l:Int)):
 aq P iO #[.slice p l c,.slice q m d] h fun v h'=> ∃b,v= .slice (some ⟨b,0,none⟩) m m∧aK h no h' [blk b (az (cI xs js))] []:=by
 refine Aj _ _ _ _ _ _ ?_
 unfold BE
 have S:=((aK.start h no).read (row p (az xs)) rx).read (row q (az js)) rj
 refine iG S m rfl (zs:=[.int .i64 0]) rfl rfl (by decide) (by omega) (by omega) fun b1 h1 _ S=> ?_
 dsimp only[List.nil_append,List.cons_append] at S
 simp only[Int.toNat_natCast]
 rw[lH,show List.replicate m (Value.int .i64 0)=az (List.replicate m 0) by simp[az]] at S
 refine aT (fun mm s g=> ∃i:Nat,s=((p,l,c),(some ⟨b1,0,none⟩,m,m),(q,m,d),(m:Int),(i:Int),())∧i≤m∧mm=m-i∧aK h no g [blk b1 (az (cI xs (js.take i)++List.replicate (m-i) 0))] [row p (az xs),row q (az js)]) m ⟨0,rfl,by omega,rfl,S⟩ ?_
 clear S
 rintro mm s g ⟨i,rfl,hi,rfl,S⟩
 unfold uV
 dsimp only
 refine au (fun hlt=> ?_) (fun hge=> ?_)
 ·have hlt:i<m:=by omega
  have hlt':i<js.length:=by omega
  obtain⟨aj,eaj⟩:=(S.row 1 rfl).some_of (by rw[aB];omega)
  have hjr:=hj js[i] (List.getElem_mem hlt')
  obtain⟨x,ex⟩: ∃x:Nat,js[i]=x:=⟨js[i].toNat,by omega⟩
  rw[ex] at hjr
  obtain⟨ax,eax⟩:=(S.row 0 rfl).some_of (by rw[aB];omega)
  have cj:aD g (aj.add i)=some (.int .i64 (x:Int)):=by
   have:=S.row 1 rfl
   rw[eaj] at this
   exact this.cell (aN (by rw[List.getElem?_eq_getElem hlt',ex]))
  have cx:aD g (ax.add x)=some (.int .i64 (xs.getD x 0)):=by
   have:=S.row 0 rfl
   rw[eax] at this
   exact this.cell (aN (by rw[List.getD_eq_getElem?_getD,List.getElem?_eq_getElem (by omega)];rfl))
  refine aG eaj (k:=i) rfl hlt ?_
  simp only[Int.toNat_natCast,Nat.mul_one]
  refine af cj (aG eax (k:=x) rfl (by omega) ?_)
  simp only[Int.toNat_natCast]
  refine af cx (aG rfl (k:=i) rfl hlt ?_)
  simp only[aY,Nat.zero_add]
  have hlen:(cI xs (js.take i)).length=i:=by unfold cI;rw[List.length_map,List.length_take];omega
  refine aJ S 0 rfl (by rw[aB,List.length_append,hlen,List.length_replicate];omega) fun _ _ S=> ?_
  dsimp only[List.set] at S
  rw[ck,sk hlen hlt] at S
  have e2:=uS (fun j:Int=>xs.getD j.toNat 0) hlt'
  rw[ex,Int.toNat_natCast] at e2
  have e3:cI xs (js.take (i+1))=cI xs (js.take i)++[xs.getD x 0]:=e2
  rw[←e3] at S
  rw[al (n:=(i:Int)+1) (by omega)]
  exact⟨m-(i+1),by omega,i+1,rfl,by omega,rfl,S⟩
 ·have:i=m:=by omega
  subst this
  rw[List.take_of_length_le (by omega),Nat.sub_self,List.replicate_zero,List.append_nil] at S
  exact⟨b1,rfl,GQ S⟩
theorem Qf {p:Option Addr} {l c:Nat} {xs:List Int} (rx:bT h p (az xs)) (lx:xs.length=l) (h1:1≤l) (hl:l<2 ^ 40):aq P fL #[.slice p l c] h fun v h'=>v= .int .i64 (qM xs)∧h'=h:=by
 refine o0 _ _ _ ?_
 unfold mO
 refine⟨fun s g=>s=((p,l,c),())∧g=h,?_,bQ (decide_eq_false (by show ¬((l:Nat):Int)<1;omega)) ⟨rfl,rfl⟩⟩
 rintro s g ⟨rfl,rfl⟩
 unfold ks
 dsimp only
 obtain⟨a,ea⟩:=rx.some_of (by rw[aB];omega)
 rw[ea] at rx
 have cx: ∀i,i<l→aD g (a.add i)=some (.int .i64 (xs.getD i 0)):=fun i hi=>rx.cell (aN (by rw[List.getD_eq_getElem?_getD,List.getElem?_eq_getElem (by omega)];rfl))
 refine aG ea (k:=0) rfl (by omega) (af (cx 0 (by omega)) ?_)
 have e1:(xs.take 1).foldl (fun x y=>if y<x then y else x) (xs.getD 0 0)=xs.getD 0 0:=by
  cases xs with
  |nil=>rfl
  |cons x r=>show(if x<x then x else x)=x;rw[if_neg (by omega)]
 refine aT (fun m s g'=>g'=g∧ ∃i:Nat,s=((p,l,c),(xs.take i).foldl (fun x y=>if y<x then y else x) (xs.getD 0 0),(i:Int),())∧1≤i∧i≤l∧m=l-i) (l-1) ⟨rfl,1,by rw[e1];rfl,by omega,by omega,rfl⟩ ?_
 rintro m s g' ⟨rfl,i,rfl,hi0,hi,rfl⟩
 unfold kr
 dsimp only
 refine au (fun hlt=> ?_) (fun hge=> ?_)
 ·refine aG ea (k:=i) rfl (by omega) ?_
  simp only[Int.toNat_natCast,Nat.mul_one]
  refine af (cx i (by omega)) ?_
  rw[al (n:=(i:Int)+1) (by omega)]
  refine⟨l-(i+1),by omega,by trivial,i+1,?_,by omega,by omega,rfl⟩
  have hlt':i<xs.length:=by omega
  have eg:xs.getD i 0=xs[i]:=by rw[List.getD_eq_getElem?_getD,List.getElem?_eq_getElem hlt'];rfl
  rw[List.take_succ_eq_append_getElem hlt',List.foldl_append,eg];rfl
 ·rw[List.take_of_length_le (by omega)]
  exact⟨rfl,by trivial⟩
theorem NG {p:Option Addr} {l c:Nat} {xs:List Int} (rx:bT h p (az xs)) (lx:xs.length=l) (h1:1≤l) (hl:l<2 ^ 40):aq P dT #[.slice p l c] h fun v h'=>v= .int .i64 (pT xs)∧h'=h:=by
 refine pb _ _ _ ?_
 unfold mP
 refine⟨fun s g=>s=((p,l,c),())∧g=h,?_,bQ (decide_eq_false (by show ¬((l:Nat):Int)<1;omega)) ⟨rfl,rfl⟩⟩
 rintro s g ⟨rfl,rfl⟩
 unfold kw
 dsimp only
 obtain⟨a,ea⟩:=rx.some_of (by rw[aB];omega)
 rw[ea] at rx
 have cx: ∀i,i<l→aD g (a.add i)=some (.int .i64 (xs.getD i 0)):=fun i hi=>rx.cell (aN (by rw[List.getD_eq_getElem?_getD,List.getElem?_eq_getElem (by omega)];rfl))
 refine aG ea (k:=0) rfl (by omega) (af (cx 0 (by omega)) ?_)
 have e1:(xs.take 1).foldl (fun x y=>if y>x then y else x) (xs.getD 0 0)=xs.getD 0 0:=by
  cases xs with
  |nil=>rfl
  |cons x r=>show(if x>x then x else x)=x;rw[if_neg (by omega)]
 refine aT (fun m s g'=>g'=g∧ ∃i:Nat,s=((p,l,c),(xs.take i).foldl (fun x y=>if y>x then y else x) (xs.getD 0 0),(i:Int),())∧1≤i∧i≤l∧m=l-i) (l-1) ⟨rfl,1,by rw[e1];rfl,by omega,by omega,rfl⟩ ?_
 rintro m s g' ⟨rfl,i,rfl,hi0,hi,rfl⟩
 unfold kv
 dsimp only
 refine au (fun hlt=> ?_) (fun hge=> ?_)
 ·refine aG ea (k:=i) rfl (by omega) ?_
  simp only[Int.toNat_natCast,Nat.mul_one]
  refine af (cx i (by omega)) ?_
  rw[al (n:=(i:Int)+1) (by omega)]
  refine⟨l-(i+1),by omega,by trivial,i+1,?_,by omega,by omega,rfl⟩
  have hlt':i<xs.length:=by omega
  have eg:xs.getD i 0=xs[i]:=by rw[List.getD_eq_getElem?_getD,List.getElem?_eq_getElem hlt'];rfl
  rw[List.take_succ_eq_append_getElem hlt',List.foldl_append,eg];rfl
 ·rw[List.take_of_length_le (by omega)]
  exact⟨rfl,by trivial⟩
end
end Go.Proofs.YtdhpmegbmjoekaaGreatDoor.G
end
section
namespace Go.Proofs.YtdhpmegbmjoekaaGreatDoor.G
open Go Go.Sh
set_option linter.unusedVariables false
set_option linter.unusedSimpArgs false
section
variable {h:ae} {gv:Gv} {W R Lo Hi:Int→Int} {pos:Int→Nat} {b1 b3 b5 b10:Nat} {r:Sl}
structure RC (gv:Gv) (W:Int→Int) (k i:Nat) (nv:Nv):Prop where
 ok:nv.ok
 rows:nv.rows∈gv.ns.map Nv.rows
 sz:nv.inn.l<2 ^ 20∧nv.weights.l<2 ^ 40∧nv.bias.l<2 ^ 40
 at_:gv.gr.nodes[i]? =some nv.nd
 lt:i<gv.l
 l12:gv.l≤12
 ilen:nv.inn.xs.length=nv.inn.l
 i1:1≤nv.inn.l
 i4:nv.inn.l≤4
 chk:nv.nd.chk (nv.nd.inn.map W)=0
 bnd: ∀j∈nv.inn.xs,0≤j∧j≤(gv.l:Int)
 pk: ∀V:Int→Int,cI (vals gv.l V (0::(cU gv.gr.nodes).take k)) nv.inn.xs=nv.inn.xs.map V
 tk:(0::(cU gv.gr.nodes).take (k+1):List Int)=(0::(cU gv.gr.nodes).take k)++[(i:Int)+1]
 fst: ∃x0:Nat,nv.inn.xs[0]? =some (x0:Int)∧x0≤gv.l∧ ∀V:Int→Int,(nv.nd.inn.map V).getD 0 0=V x0
theorem Pd (hok:gv.ok) (hs:gv.sizes) (rt:bJ gv.gr W R pos) {k i:Nat} {nv:Nv} (hk:k<gv.l) (ek:(cU gv.gr.nodes)[k]? =some ((i:Int)+1)) (en:gv.ns[i]? =some nv):RC gv W k i nv:=by
 have hgl:=hok.1
 have hgn:gv.gr.nodes.length=gv.l:=by rw[←hgl];simp[Gv.gr]
 have hmem:=List.mem_of_getElem? en
 have hil:i<gv.l:=by have:=(List.getElem?_eq_some_iff.1 en).1;omega
 have endi:gv.gr.nodes[i]? =some nv.nd:=by show(gv.ns.map Nv.nd)[i]? =_;rw[List.getElem?_map,en];rfl
 obtain⟨n1,n4,nwe,nkd,ninn⟩:=rt.node endi
 rw[hgn] at ninn
 have hkl:=(List.getElem?_eq_some_iff.1 ek).1
 have ex:=(List.getElem?_eq_some_iff.1 ek).2
 have nok:=hok.2.2 nv hmem
 have ilen:nv.inn.xs.length=nv.inn.l:=nok.1.1
 refine⟨nok,List.mem_map_of_mem hmem,hs.2 nv hmem,endi,hil,by have:=(bW rt.first).2.1;omega,ilen,by rw[←ilen];exact n1,by rw[←ilen];exact n4,rt.chk i _ endi,ninn,fun V=>pO fun j hj=>⟨zu rt.ordered hkl ex endi hj,ninn j hj⟩,by rw[List.take_succ_eq_append_getElem hkl,ex];rfl,?_⟩
 have h0:0<nv.inn.xs.length:=n1
 have hj:=ninn _ (List.getElem_mem h0)
 refine⟨(nv.inn.xs[0]'h0).toNat,by rw[List.getElem?_eq_getElem h0];congr 1;omega,by omega,fun V=> ?_⟩
 show(nv.inn.xs.map V).getD 0 0=_
 rw[List.getD_eq_getElem?_getD,List.getElem?_map,List.getElem?_eq_getElem h0,show(((nv.inn.xs[0]'h0).toNat:Nat):Int)=nv.inn.xs[0]'h0 by omega];rfl
theorem LP {n:Nd} {ws:List Int} (h:n.chk ws=0):(gM n).1=n.leftN:=by
 have hz:=(km h).1
 unfold gM Nd.leftN
 by_cases h4:dD n.kind
 ·rw[if_pos h4,if_neg (by rcases h4 with h|h|h|h<;>omega),if_pos h4]
 ·rw[if_neg h4,if_neg h4]
  by_cases h12:n.kind=12
  ·rw[if_pos h12,if_pos h12];exact al (by omega)
  ·rw[if_neg h12,if_neg h12]
def Su (gv:Gv) (R Lo Hi:Int→Int):Prop:= ∀x,0≤x→x≤(gv.l:Int)→(-2 ^ 40≤Lo x∧Lo x≤2 ^ 40)∧(-2 ^ 40≤Hi x∧Hi x≤2 ^ 40)∧(0≤R x∧R x≤2 ^ 30)
theorem JA (hok:gv.ok) (rt:bJ gv.gr W R pos) (rc:Reach gv.gr.nodes R Lo Hi):Su gv R Lo Hi:=by
 have hgl:=hok.1
 have hgn:gv.gr.nodes.length=gv.l:=by rw[←hgl];simp[Gv.gr]
 have hl12:gv.gr.nodes.length≤12:=(bW rt.first).2.1
 intro x h0 h1
 rw[←hgn] at h1
 have b1:=Dq rt.posG _ x rfl h0 h1
 have b2:=HZ rt.posG rc _ x rfl h0 h1
 have hp:posG gv.gr.nodes x≤12:=by have:=Bh gv.gr.nodes x;omega
 have b3:=yb hp
 have hp2:((posG gv.gr.nodes x:Nat):Int)*2 ^ 30≤12*2 ^ 30:=Int.mul_le_mul_of_nonneg_right (by omega) (by decide)
 refine⟨by omega,by omega,by omega,by omega⟩
abbrev VR (gv:Gv) (Lo Hi:Int→Int) (b1 b3 b5 b10 bL bH:Nat) (r:Sl) (k:Nat):List bi:=
 [blk b1 gv.cells,blk b3 [.slice (some ⟨bL,0,none⟩) (gv.l+1) (gv.l+1)],blk b5 [.slice (some ⟨bH,0,none⟩) (gv.l+1) (gv.l+1)],own 1 r.p r.l r.c (az r.xs),blk b10 [r.v],
  blk bL (az (vals gv.l Lo (0::(cU gv.gr.nodes).take k))),blk bH (az (vals gv.l Hi (0::(cU gv.gr.nodes).take k)))]
def NH (gv:Gv) (Lo Hi:Int→Int) (h:ae) (v:Value) (h':ae):Prop:=
 ∃bL bH,v= .tuple #[.slice (some ⟨bL,0,none⟩) (gv.l+1) (gv.l+1),.slice (some ⟨bH,0,none⟩) (gv.l+1) (gv.l+1)]∧aK h no h' [blk bL (az ((List.range (gv.l+1)).map fun x:Nat=>Lo x)),blk bH (az ((List.range (gv.l+1)).map fun x:Nat=>Hi x))] []
theorem Ib (hok:gv.ok) (hs:gv.sizes) (rt:bJ gv.gr W R pos) (rc:Reach gv.gr.nodes R Lo Hi) (rok:r.ok) (er:r.xs=(List.range (gv.l+1)).map fun x:Nat=>R x) {bL bH:Nat} {g:ae} (S:aK h no g (VR gv Lo Hi b1 b3 b5 b10 bL bH r 0) (R3 gv)):
 mQ (NH gv Lo Hi h) ⟨b1,0,none⟩ ⟨b3,0,none⟩ ⟨b5,0,none⟩ ⟨b10,0,none⟩ g:=by
 have hgl:=hok.1
 have hgn:gv.gr.nodes.length=gv.l:=by rw[←hgl];simp[Gv.gr]
 have hb:=JA hok rt rc
 have lenR:r.l=gv.l+1:=by rw[←rok.1,er];simp
 unfold mQ
 refine aQ S 0 rfl (x:=gv.t) rfl ?_
 refine(Jz gv).mono ?_
 rintro _ g1 ⟨bg,rfl,S1⟩
 replace S:=S.add S1 fun _ _ h=>h
 dsimp only[List.cons_append,List.nil_append] at S
 refine⟨_,rfl,?_⟩
 refine wz (VR gv Lo Hi b1 b3 b5 b10 bL bH r) hok hs rt (S.pw [7,0,1,2,3,4,5,6]) (fun k i nv D l rdy busy o g Rr hk ek en S H=> ?_) (fun D l exh o g S=> ?_)
 ·have A:=Pd hok hs rt hk ek en
  obtain⟨x0,ex0,hx0,hV0⟩:=A.fst
  have hsz:=km A.chk
  have hsize: -2 ^ 20≤nv.size∧nv.size≤2 ^ 20:=by have h1:0≤nv.size∧nv.size≤8:=hsz.1;omega
  have hgap: -2 ^ 20≤nv.gap∧nv.gap≤2 ^ 20:=by have h1:0≤nv.gap∧nv.gap≤4:=hsz.2.1;omega
  have hil:=A.lt
  have ilen:=A.ilen
  have i1:=A.i1
  have i4:=A.i4
  dsimp only[List.cons_append,List.nil_append] at S H
  rw[A.tk] at H
  refine aC S fun b32 g2 _ S=> ?_
  dsimp only[List.cons_append,List.nil_append] at S
  refine cG S 11 rfl rfl (bC rfl) fun g3 _ S=> ?_
  dsimp only[List.set] at S
  refine⟨S.w 9 _ rfl,?_⟩
  replace S:=gX S 9 busy rfl
  dsimp only[List.set] at S
  generalize Array.setIfInBounds g3 l busy=g4 at S
  have rrow: ∀{g:ae} {W2:List bi},aK h no g W2 (R3 gv)→W2[4]? =some (own 1 r.p r.l r.c (az r.xs))→ ∀x:Nat,x≤gv.l→ ∃a,r.p=some a∧aD g (a.add x)=some (.int .i64 (R x)):=by
   intro g W2 S e x hx
   have ro:=(S.own 4 e).row
   obtain⟨a,ea⟩:=ro.some_of (by rw[aB,rok.1];omega)
   rw[ea] at ro
   exact⟨a,ea,ro.cell (aN (by rw[er,List.getElem?_map,List.getElem?_range (by omega)];rfl))⟩
  have irow: ∀{g:ae} {W2:List bi},aK h no g W2 (R3 gv)→bT g nv.inn.p (az nv.inn.xs):=fun S=>S.r 2 _ rfl nv.rows A.rows nv.inn.row (by simp)
  refine am (p:=r.p) (l:=r.l) (c:=r.c) (S.cell 5 rfl rfl) ?_
  obtain⟨ra,era,cr⟩:=rrow S rfl (i+1) (by omega)
  refine aG era (k:=i+1) rfl (by omega) ?_
  simp only[show((i:Int)+1).toNat=i+1 by omega,Nat.mul_one]
  refine af cr (aO (fun hz=> ?_) (fun hz=> ?_))
  ·have hz':R ((i:Int)+1)=0:=hz
   have hLo:Lo ((i:Int)+1)=0:=by rw[rc.lo i _ A.at_,if_neg (by omega)]
   have hHi:Hi ((i:Int)+1)=0:=by rw[rc.hi i _ A.at_,if_neg (by omega)]
   refine H _ ?_
   rw[Fw hLo,Fw hHi]
   exact S.pw [0,1,2,3,4,5,6,7,8,9,10]
  ·have hRi:=(hb ((i:Int)+1) (by omega) (by omega)).2.2
   have hpos:0<R ((i:Int)+1):=by have:R ((i:Int)+1)≠0:=hz;omega
   have hR0:=(hb (x0:Int) (by omega) (by omega)).2.2
   have hLoE:Lo ((i:Int)+1)=qM (nv.nd.inn.map Lo)-R (x0:Int)*nv.nd.leftN:=by rw[rc.lo i _ A.at_,if_pos hpos,hV0]
   have hHiE:Hi ((i:Int)+1)=pT (nv.nd.inn.map Hi)+R (x0:Int)*(nv.nd.span-1-nv.nd.leftN):=by rw[rc.hi i _ A.at_,if_pos hpos,hV0]
   have bLo:=(hb ((i:Int)+1) (by omega) (by omega)).1
   have bHi:=(hb ((i:Int)+1) (by omega) (by omega)).2.1
   have m1:0≤R (x0:Int)*nv.nd.leftN∧R (x0:Int)*nv.nd.leftN≤2 ^ 30*31:=⟨Int.mul_nonneg hR0.1 hsz.2.2.1.1,Int.mul_le_mul hR0.2 hsz.2.2.1.2 hsz.2.2.1.1 (by omega)⟩
   have m2:0≤R (x0:Int)*(nv.nd.span-1-nv.nd.leftN)∧R (x0:Int)*(nv.nd.span-1-nv.nd.leftN)≤2 ^ 30*31:=⟨Int.mul_nonneg hR0.1 hsz.2.2.2.1.1,Int.mul_le_mul hR0.2 hsz.2.2.2.1.2 hsz.2.2.2.1.1 (by omega)⟩
   refine am (p:=r.p) (l:=r.l) (c:=r.c) (S.cell 5 rfl rfl) (am (p:=nv.inn.p) (l:=nv.inn.l) (c:=nv.inn.c) (S.cell 11 rfl rfl) ?_)
   have ir:=irow S
   obtain⟨ia,eia⟩:=ir.some_of (by rw[aB];omega)
   rw[eia] at ir
   refine aG eia (k:=0) rfl (by omega) (af (ir.cell (aN ex0)) ?_)
   obtain⟨ra2,era2,cr2⟩:=rrow S rfl x0 hx0
   refine aG era2 (k:=x0) rfl (by omega) ?_
   simp only[Int.toNat_natCast]
   refine af cr2 (aQ S 11 rfl (x:=nv.t) rfl ?_)
   refine(JT nv (S.r 0 _ rfl)).mono ?_
   rintro _ g5 ⟨rfl,F⟩
   replace S:=S.fra0 F
   rw[LP A.chk]
   refine⟨_,_,rfl,?_⟩
   refine am (S.cell 2 rfl rfl) (am (S.cell 2 rfl rfl) (am (p:=nv.inn.p) (l:=nv.inn.l) (c:=nv.inn.c) (S.cell 11 rfl rfl) ?_))
   refine(DI (bT.of_at (S.at 6 rfl)) (gE _ _ _) (irow S) ilen (by omega) (fun j hj=>by have:=A.bnd j hj;omega)).mono ?_
   rintro _ g6 ⟨bp,rfl,S1⟩
   rw[A.pk] at S1
   replace S:=S.add S1 fun _ _ h=>h
   dsimp only[List.cons_append,List.nil_append] at S
   refine⟨_,_,_,rfl,bf (S.cell 2 rfl rfl) ?_⟩
   refine(Qf (bT.of_at (S.at 12 rfl)) (by rw[List.length_map];exact ilen) i1 (by omega)).mono ?_
   rintro _ g7 ⟨rfl,eg⟩
   subst eg
   refine⟨_,rfl,bf (S.cell 2 rfl rfl) (bf (S.cell 2 rfl rfl) ?_)⟩
   refine aG rfl (k:=i+1) rfl (by omega) ?_
   simp only[aY,Nat.zero_add,show((i:Int)+1).toNat=i+1 by omega,Nat.mul_one]
   rw[al (n:=R (x0:Int)*nv.nd.leftN) (by omega),show qM (nv.inn.xs.map Lo)-R (x0:Int)*nv.nd.leftN=Lo ((i:Int)+1) from hLoE.symm,al (n:=Lo ((i:Int)+1)) (by omega)]
   refine aJ S 6 rfl (by rw[aB,gE];omega) fun g8 _ S=> ?_
   dsimp only[List.set] at S
   rw[ck,tC (V:=Lo) (i:=i) (by omega) rfl] at S
   refine am (S.cell 3 rfl rfl) (am (S.cell 3 rfl rfl) (am (p:=nv.inn.p) (l:=nv.inn.l) (c:=nv.inn.c) (S.cell 11 rfl rfl) ?_))
   refine aQ S 11 rfl (x:=nv.t) rfl ?_
   refine(DI (bT.of_at (S.at 7 rfl)) (gE _ _ _) (irow S) ilen (by omega) (fun j hj=>by have:=A.bnd j hj;omega)).mono ?_
   rintro _ g9 ⟨bq,rfl,S1⟩
   rw[A.pk] at S1
   replace S:=S.add S1 fun _ _ h=>h
   dsimp only[List.cons_append,List.nil_append] at S
   refine⟨_,_,_,rfl,eW S 11 rfl rfl (bf (S.cell 3 rfl rfl) ?_)⟩
   refine(NG (bT.of_at (S.at 13 rfl)) (by rw[List.length_map];exact ilen) i1 (by omega)).mono ?_
   rintro _ g10 ⟨rfl,eg⟩
   subst eg
   refine⟨_,rfl,eW S 11 rfl rfl (bf (S.cell 11 rfl rfl) (bf (S.cell 3 rfl rfl) (bf (S.cell 3 rfl rfl) ?_)))⟩
   refine(xT nv (S.r 0 _ rfl) hsize hgap).mono ?_
   rintro _ g11 ⟨rfl,F⟩
   replace S:=S.fra0 F
   refine⟨_,rfl,bf (S.cell 11 rfl rfl) (bf (S.cell 3 rfl rfl) (bf (S.cell 3 rfl rfl) ?_))⟩
   refine aG rfl (k:=i+1) rfl (by omega) ?_
   simp only[aY,Nat.zero_add,show((i:Int)+1).toNat=i+1 by omega,Nat.mul_one]
   have hsp:=hsz.2.2.2.2.1
   have hle:=hsz.2.2.1
   rw[al (n:=nv.nd.span-1) (by omega),al (n:=nv.nd.span-1-nv.nd.leftN) (by omega),al (n:=R (x0:Int)*(nv.nd.span-1-nv.nd.leftN)) (by omega),show pT (nv.inn.xs.map Hi)+R (x0:Int)*(nv.nd.span-1-nv.nd.leftN)=Hi ((i:Int)+1) from hHiE.symm,al (n:=Hi ((i:Int)+1)) (by omega)]
   refine aJ S 7 rfl (by rw[aB,gE];omega) fun g12 _ S=> ?_
   dsimp only[List.set] at S
   rw[ck,tC (V:=Hi) (i:=i) (by omega) rfl] at S
   exact H _ (S.pw [0,1,2,3,4,5,6,7,8,9,10])
 ·dsimp only[List.cons_append,List.nil_append] at S
  refine am (S.cell 2 rfl rfl) (am (S.cell 3 rfl rfl) ?_)
  refine aJ S 2 rfl (Nat.le_of_ble_eq_true rfl) fun g2 _ S=> ?_
  dsimp only[List.set] at S
  refine bf (S.cell 3 rfl rfl) ?_
  refine aJ S 3 rfl (Nat.le_of_ble_eq_true rfl) fun g3 _ S=> ?_
  dsimp only[List.set] at S
  refine⟨S.w 8 _ rfl,?_⟩
  replace S:=gX S 8 (.deferred none) rfl
  dsimp only[List.set] at S
  refine am (S.cell 2 rfl rfl) (am (S.cell 3 rfl rfl) ?_)
  have hall: ∀V:Int→Int,vals gv.l V (0::(cU gv.gr.nodes).take gv.l)=(List.range (gv.l+1)).map fun x:Nat=>V x:=fun V=>by
   have h1:=De rt.ordered V
   rw[hgn] at h1
   rw[List.take_of_length_le (by rw[rt.ordered];omega)]
   have h2:bR gv.gr.nodes gv.l=0::cU gv.gr.nodes:=by rw[←hgn];exact eC _ _
   rw[←h2];exact h1
  rw[hall,hall] at S
  exact⟨bL,bH,rfl,GQ (S.pw [6,7])⟩
theorem NI (hok:gv.ok) (hn:bT h gv.p (aF gv.ns)) (hr:(aZ gv.ns).P h) (hs:gv.sizes) (hT:KT h) (rt:bJ gv.gr W R pos) (rc:Reach gv.gr.nodes R Lo Hi):aq P kO #[gv.v] h (NH gv Lo Hi h):=by
 refine yx _ ?_
 unfold zD
 have hgl:=hok.1
 have hgn:gv.gr.nodes.length=gv.l:=by rw[←hgl];simp[Gv.gr]
 have hl12:gv.l≤12:=by have:=(bW rt.first).2.1;omega
 have S:=(((aK.start h no).read (blk 0 (az aS)) hT).read (row gv.p (aF gv.ns)) hn).read (aZ gv.ns) hr
 refine aC (cs:=gv.cells) S fun b1 h1 _ S=> ?_
 dsimp only[List.nil_append,List.cons_append] at S
 refine aC S fun b3 h1 _ S=> ?_
 dsimp only[List.nil_append,List.cons_append] at S
 refine aC S fun b5 h1 _ S=> ?_
 dsimp only[List.nil_append,List.cons_append] at S
 refine aQ S 0 rfl (x:=gv.t) rfl ?_
 refine(GY hok (S.row 1 rfl) (S.r 2 _ rfl) hs (S.r 0 _ rfl)).mono ?_
 rintro _ g2 ⟨r,rfl,rok,er,S1⟩
 rw[rt.look,hgn] at er
 replace S:=S.add S1 fun _ _ h=>h
 dsimp only[List.cons_append,List.nil_append] at S
 refine⟨_,_,_,rfl,?_⟩
 refine aC S fun b10 h1 _ S=> ?_
 dsimp only[List.nil_append,List.cons_append] at S
 refine aJ S 4 rfl (Nat.le_of_ble_eq_true rfl) fun g3 _ S=> ?_
 dsimp only[List.set] at S
 have lenR:r.l=gv.l+1:=by rw[←rok.1,er];simp
 have rc10: ∀{g:ae} {W2:List bi},aK h no g W2 (R3 gv)→W2[4]? =some (blk b10 [r.v])→aD g ⟨b10,0,none⟩=some (.slice r.p (gv.l+1) r.c):=fun S e=>by rw[←lenR];exact S.cell 4 e rfl
 refine am (rc10 S rfl) ?_
 obtain⟨ra,era⟩:=(S.own 3 rfl).row.some_of (by rw[aB,rok.1];omega)
 refine bQ (by rw[era];rfl) ?_
 refine⟨fun s g=>s=(⟨b1,0,none⟩,⟨b3,0,none⟩,⟨b5,0,none⟩,⟨b10,0,none⟩,())∧ ∃bL bH,aK h no g (VR gv Lo Hi b1 b3 b5 b10 bL bH r 0) (R3 gv),?_,?_⟩
 ·rintro s g ⟨rfl,bL,bH,S⟩
  exact Ib hok hs rt rc rok er S
 ·refine am (rc10 S rfl) (am (rc10 S rfl) ?_)
  have z0: ∀V:Int→Int,V 0=0→(List.replicate (gv.l+1) [Value.int .i64 0]).flatten=az (vals gv.l V (0::(cU gv.gr.nodes).take 0)):=fun V h0=>by
   rw[lH,List.take_zero,pN,h0,←List.replicate_succ];simp[az]
  have zL:=z0 Lo rc.l0
  have zH:=z0 Hi rc.h0
  simp only[Int.toNat_natCast]
  have fin: ∀{g:ae} {bL bH:Nat},aK h no g [blk b1 gv.cells,blk b3 [.slice (some ⟨bL,0,none⟩) (gv.l+1) (gv.l+1)],blk b5 [.slice (some ⟨bH,0,none⟩) (gv.l+1) (gv.l+1)],own 1 r.p r.l r.c (az r.xs),blk b10 [r.v],blk bL (List.replicate (gv.l+1) [Value.int .i64 0]).flatten,blk bH (List.replicate (gv.l+1) [Value.int .i64 0]).flatten] (R3 gv)→
   aK h no g (VR gv Lo Hi b1 b3 b5 b10 bL bH r 0) (R3 gv):=fun{g bL bH} S=>by
   unfold VR
   rw[←zL,←zH];exact S
  refine⟨?_,?_⟩
  ·refine iG S (gv.l+1) rfl (zs:=[.int .i64 0]) rfl rfl (by decide) (by omega) (by omega) fun b74 g4 _ S=> ?_
   dsimp only[List.nil_append,List.cons_append] at S
   refine bf (rc10 S rfl) (bf (rc10 S rfl) ⟨?_,?_⟩)
   ·refine iG S (gv.l+1) rfl (zs:=[.int .i64 0]) rfl rfl (by decide) (by omega) (by omega) fun b76 g5 _ S=> ?_
    dsimp only[List.nil_append,List.cons_append] at S
    refine bf (rc10 S rfl) (bf (rc10 S rfl) ?_)
    refine aJ S 1 rfl (Nat.le_of_ble_eq_true rfl) fun g6 _ S=> ?_
    dsimp only[List.set] at S
    refine bf (rc10 S rfl) ?_
    refine aJ S 2 rfl (Nat.le_of_ble_eq_true rfl) fun g7 _ S=> ?_
    dsimp only[List.set] at S
    exact⟨trivial,_,_,fin S⟩
   ·refine aJ S 1 rfl (Nat.le_of_ble_eq_true rfl) fun g6 _ S=> ?_
    dsimp only[List.set] at S
    refine bf (rc10 S rfl) ?_
    refine iG S (gv.l+1) rfl (zs:=[.int .i64 0]) rfl rfl (by decide) (by omega) (by omega) fun b76 g5 _ S=> ?_
    dsimp only[List.nil_append,List.cons_append] at S
    refine bf (rc10 S rfl) (bf (rc10 S rfl) ?_)
    refine aJ S 2 rfl (Nat.le_of_ble_eq_true rfl) fun g7 _ S=> ?_
    dsimp only[List.set] at S
    exact⟨trivial,_,_,fin S⟩
  ·refine iG S (gv.l+1) rfl (zs:=[.int .i64 0]) rfl rfl (by decide) (by omega) (by omega) fun b84 g4 _ S=> ?_
   dsimp only[List.nil_append,List.cons_append] at S
   refine bf (rc10 S rfl) (bf (rc10 S rfl) ?_)
   refine iG S (gv.l+1) rfl (zs:=[.int .i64 0]) rfl rfl (by decide) (by omega) (by omega) fun b86 g5 _ S=> ?_
   dsimp only[List.nil_append,List.cons_append] at S
   refine bf (rc10 S rfl) (bf (rc10 S rfl) ?_)
   refine aJ S 1 rfl (Nat.le_of_ble_eq_true rfl) fun g6 _ S=> ?_
   dsimp only[List.set] at S
   refine bf (rc10 S rfl) ?_
   refine aJ S 2 rfl (Nat.le_of_ble_eq_true rfl) fun g7 _ S=> ?_
   dsimp only[List.set] at S
   exact⟨trivial,_,_,fin (S.pw [0,1,2,3,4,6,5])⟩
end
end Go.Proofs.YtdhpmegbmjoekaaGreatDoor.G
end
section
namespace Go.Proofs.YtdhpmegbmjoekaaGreatDoor.G
open Go Go.Sh
set_option linter.unusedVariables false
set_option linter.unusedSimpArgs false
def DJ (n:Nd) (rate ahead:Int):Int:=if n.kind=7∨n.kind=8 then(if rate=0 then 1 else fc (fc (Int.tdiv (fc (fc (ahead+rate)-1)) rate)+1)) else n.span
def qP (n:Nd) (rate top:Int) (Hi:Int→Int) (o:List Int) (j:Int):List Int:=
 o.set j.toNat (if DJ n rate (fc (top-Hi j))>o.getD j.toNat 0 then DJ n rate (fc (top-Hi j)) else o.getD j.toNat 0)
def nC (ns:List Nd) (R Hi:Int→Int) (o:List Int) (x:Int):List Int:=
 match ns[x.toNat-1]? with
 |none=>o
 |some n=>n.inn.foldl (qP n (R x) (pT (n.inn.map Hi)) Hi) o
def gL (ns:List Nd) (R Hi:Int→Int) (k:Nat):List Int:=((cU ns).take k).foldl (nC ns R Hi) (List.replicate (ns.length+1) 1)
def Gr.rooms (g:Gr) (R Hi:Int→Int):List Int:=gL g.nodes R Hi g.nodes.length
theorem oV (n:Nd) (rate top:Int) (Hi:Int→Int): ∀(l:List Int) (o:List Int),(l.foldl (qP n rate top Hi) o).length=o.length
 |[],o=>rfl
 |j::r,o=>by rw[List.foldl_cons,oV];unfold qP;rw[List.length_set]
theorem rQ (ns:List Nd) (R Hi:Int→Int): ∀(l:List Int) (o:List Int),(l.foldl (nC ns R Hi) o).length=o.length
 |[],o=>rfl
 |x::r,o=>by
  rw[List.foldl_cons,rQ]
  unfold nC
  split
  ·rfl
  ·rw[oV]
theorem oW (ns:List Nd) (R Hi:Int→Int) (k:Nat):(gL ns R Hi k).length=ns.length+1:=by unfold gL;rw[rQ,List.length_replicate]
def FD (ns:List Nd) (k:Nat):Int:=((cU ns).take k).foldl (fun s x=>fc (s+(Nm ns x:Int))) 0
def Gr.macs (g:Gr):Int:=FD g.nodes g.nodes.length
section
variable {h:ae} {gv:Gv} {W R Lo Hi:Int→Int} {pos:Int→Nat} {r:Sl}
theorem Pe (nv:Nv) (hT:KT h) (hs: -2 ^ 20≤nv.size∧nv.size≤2 ^ 20) (hg: -2 ^ 20≤nv.gap∧nv.gap≤2 ^ 20) (rate ahead:Int):aq P lZ #[nv.v,.int .i64 rate,.int .i64 ahead] h fun v h'=>v= .int .i64 (DJ nv.nd rate ahead)∧cu no h h':=by
 refine Al _ _ _ ?_
 unfold BG
 have S:=(aK.start h no).read (blk 0 (az aS)) hT
 refine aC (cs:=nv.cells) S fun b1 h1 _ S=> ?_
 dsimp only[List.cons_append,List.nil_append] at S
 have e:DJ nv.nd rate ahead=if nv.kind=7∨nv.kind=8 then(if rate=0 then 1 else fc (fc (Int.tdiv (fc (fc (ahead+rate)-1)) rate)+1)) else nv.nd.span:=rfl
 rw[e]
 refine af (n:=nv.kind) (S.cell 0 rfl rfl) (aO (fun k7=> ?_) (fun k7=>aO (fun k8=> ?_) (fun k8=> ?_)))
 ·rw[if_pos (.inl k7)]
  exact aO (fun hz=>by rw[if_pos hz];exact⟨rfl,S.fra⟩) (fun hz=>⟨hz,by rw[if_neg hz];exact⟨rfl,S.fra⟩⟩)
 ·rw[if_pos (.inr k8)]
  exact aO (fun hz=>by rw[if_pos hz];exact⟨rfl,S.fra⟩) (fun hz=>⟨hz,by rw[if_neg hz];exact⟨rfl,S.fra⟩⟩)
 ·rw[if_neg (by rintro(h|h);exact k7 h;exact k8 h)]
  refine aQ S 0 rfl (x:=nv.t) rfl ?_
  refine(xT nv (S.r 0 _ rfl) hs hg).mono ?_
  rintro _ g ⟨rfl,F⟩
  exact⟨_,rfl,rfl,(S.fra0 F).fra⟩
abbrev VM (gv:Gv) (R Hi:Int→Int) (b1 b6 b14 b18 b20 bH:Nat) (r:Sl) (k:Nat):List bi:=
 [blk b1 gv.cells,own 1 r.p r.l r.c (az r.xs),blk b6 [r.v],blk bH (az ((List.range (gv.l+1)).map fun x:Nat=>Hi x)),blk b14 [.slice (some ⟨bH,0,none⟩) (gv.l+1) (gv.l+1)],
  blk b18 (az (gL gv.gr.nodes R Hi k)),blk b20 [.slice (some ⟨b18,0,none⟩) (gv.l+1) (gv.l+1)]]
def NJ (gv:Gv) (R Hi:Int→Int) (h:ae) (v:Value) (h':ae):Prop:= ∃b,v= .slice (some ⟨b,0,none⟩) (gv.l+1) (gv.l+1)∧aK h no h' [blk b (az (gv.gr.rooms R Hi))] []
theorem GC (hok:gv.ok) (hs:gv.sizes) (rt:bJ gv.gr W R pos) (rc:Reach gv.gr.nodes R Lo Hi) (rok:r.ok) (er:r.xs=(List.range (gv.l+1)).map fun x:Nat=>R x) {b1 b6 b14 b18 b20 bH:Nat} {K1:(Addr×Addr×Addr×Addr×Int×Int×Unit)→ae→Prop} {g:ae}
 (S:aK h no g (VM gv R Hi b1 b6 b14 b18 b20 bH r 0) (R3 gv)):jY (NJ gv R Hi h) K1 ⟨b1,0,none⟩ ⟨b6,0,none⟩ ⟨b14,0,none⟩ ⟨b20,0,none⟩ ((gv.l+1:Nat):Int) ((gv.l+1:Nat):Int) g:=by
 have hgl:=hok.1
 have hgn:gv.gr.nodes.length=gv.l:=by rw[←hgl];simp[Gv.gr]
 have hb:=JA hok rt rc
 have lenR:r.l=gv.l+1:=by rw[←rok.1,er];simp
 unfold jY
 refine bQ (decide_eq_false (by omega)) ?_
 refine aQ S 0 rfl (x:=gv.t) rfl ?_
 refine(Jz gv).mono ?_
 rintro _ g1 ⟨bg,rfl,S1⟩
 replace S:=S.add S1 fun _ _ h=>h
 dsimp only[List.cons_append,List.nil_append] at S
 refine⟨_,rfl,?_⟩
 refine wz (VM gv R Hi b1 b6 b14 b18 b20 bH r) hok hs rt (S.pw [7,0,1,2,3,4,5,6]) (fun k i nv D l rdy busy o g Rr hk ek en S H=> ?_) (fun D l exh o g S=> ?_)
 ·have A:=Pd hok hs rt hk ek en
  have hsz:=km A.chk
  have hsize: -2 ^ 20≤nv.size∧nv.size≤2 ^ 20:=by have h1:0≤nv.size∧nv.size≤8:=hsz.1;omega
  have hgap: -2 ^ 20≤nv.gap∧nv.gap≤2 ^ 20:=by have h1:0≤nv.gap∧nv.gap≤4:=hsz.2.1;omega
  have hil:=A.lt
  have ilen:=A.ilen
  have i1:=A.i1
  have i4:=A.i4
  dsimp only[List.cons_append,List.nil_append] at S H
  have hstep:gL gv.gr.nodes R Hi (k+1)=nv.inn.xs.foldl (qP nv.nd (R ((i:Int)+1)) (pT (nv.inn.xs.map Hi)) Hi) (gL gv.gr.nodes R Hi k):=by
   unfold gL
   have hkl:=(List.getElem?_eq_some_iff.1 ek).1
   rw[List.take_succ_eq_append_getElem hkl,List.foldl_append,(List.getElem?_eq_some_iff.1 ek).2]
   show nC _ _ _ _ _=_
   unfold nC
   rw[show((i:Int)+1).toNat-1=i by omega,A.at_];rfl
  rw[hstep] at H
  have hlK:=oW gv.gr.nodes R Hi k
  rw[hgn] at hlK
  refine aC S fun b34 g2 _ S=> ?_
  dsimp only[List.cons_append,List.nil_append] at S
  refine cG S 11 rfl rfl (bC rfl) fun g3 _ S=> ?_
  dsimp only[List.set] at S
  refine⟨S.w 9 _ rfl,?_⟩
  replace S:=gX S 9 busy rfl
  dsimp only[List.set] at S
  generalize Array.setIfInBounds g3 l busy=g4 at S
  have irow: ∀{g:ae} {W2:List bi},aK h no g W2 (R3 gv)→bT g nv.inn.p (az nv.inn.xs):=fun S=>S.r 2 _ rfl nv.rows A.rows nv.inn.row (by simp)
  refine am (S.cell 5 rfl rfl) (am (p:=nv.inn.p) (l:=nv.inn.l) (c:=nv.inn.c) (S.cell 11 rfl rfl) ?_)
  refine(DI (bT.of_at (S.at 4 rfl)) (by simp) (irow S) ilen (by omega) (fun j hj=>by have:=A.bnd j hj;omega)).mono ?_
  rintro _ g6 ⟨bp,rfl,S1⟩
  have epk:cI ((List.range (gv.l+1)).map fun x:Nat=>Hi x) nv.inn.xs=nv.inn.xs.map Hi:=by
   refine List.map_congr_left fun j hj=> ?_
   have:=A.bnd j hj
   rw[List.getD_eq_getElem?_getD,List.getElem?_map,List.getElem?_range (by omega)]
   show Hi ((j.toNat:Nat):Int)=_
   rw[show((j.toNat:Nat):Int)=j by omega]
  rw[epk] at S1
  replace S:=S.add S1 fun _ _ h=>h
  dsimp only[List.cons_append,List.nil_append] at S
  refine⟨_,_,_,rfl,?_⟩
  refine(NG (bT.of_at (S.at 12 rfl)) (by rw[List.length_map];exact ilen) i1 (by omega)).mono ?_
  rintro _ g7 ⟨rfl,eg⟩
  subst eg
  refine⟨_,rfl,am (p:=nv.inn.p) (l:=nv.inn.l) (c:=nv.inn.c) (S.cell 11 rfl rfl) ?_⟩
  obtain⟨top,etop⟩: ∃top,pT (nv.inn.xs.map Hi)=top:=⟨_,rfl⟩
  rw[etop] at H ⊢
  refine aT (fun m s g=> ∃j:Nat,s=(⟨b6,0,none⟩,⟨b14,0,none⟩,⟨b20,0,none⟩,(i:Int)+1,⟨b34,0,none⟩,top,(nv.inn.p,nv.inn.l,nv.inn.c),(nv.inn.l:Int),(j:Int),())∧j≤nv.inn.l∧m=nv.inn.l-j∧
   aK h no g [blk bg gv.cells,blk b1 gv.cells,own 1 r.p r.l r.c (az r.xs),blk b6 [r.v],blk bH (az ((List.range (gv.l+1)).map fun x:Nat=>Hi x)),blk b14 [.slice (some ⟨bH,0,none⟩) (gv.l+1) (gv.l+1)],
    blk b18 (az ((nv.inn.xs.take j).foldl (qP nv.nd (R ((i:Int)+1)) top Hi) (gL gv.gr.nodes R Hi k))),blk b20 [.slice (some ⟨b18,0,none⟩) (gv.l+1) (gv.l+1)],GR D (.deferred (some [])),GR l busy,own 1 o.p o.l o.c (az o.xs),blk b34 nv.cells] (R3 gv)) nv.inn.l ⟨0,rfl,by omega,rfl,S.pw [0,1,2,3,4,5,6,7,8,9,10,11]⟩ ?_
  clear S S1
  rintro m s g ⟨j,rfl,hj,rfl,S⟩
  unfold qU
  dsimp only
  refine au (fun hlt=> ?_) (fun hge=> ?_)
  ·have hlt:j<nv.inn.l:=by omega
   have hlt':j<nv.inn.xs.length:=by omega
   have hjr:=A.bnd nv.inn.xs[j] (List.getElem_mem hlt')
   obtain⟨x,ex⟩: ∃x:Nat,nv.inn.xs[j]=x:=⟨nv.inn.xs[j].toNat,by omega⟩
   rw[ex] at hjr
   have ir:=irow S
   obtain⟨ia,eia⟩:=ir.some_of (by rw[aB];omega)
   rw[eia] at ir
   refine aG eia (k:=j) rfl hlt ?_
   simp only[Int.toNat_natCast,Nat.mul_one]
   refine af (n:=(x:Int)) (ir.cell (aN (by rw[List.getElem?_eq_getElem hlt',ex]))) ?_
   refine aQ S 11 rfl (x:=nv.t) rfl ?_
   obtain⟨os,eos⟩: ∃os,(nv.inn.xs.take j).foldl (qP nv.nd (R ((i:Int)+1)) top Hi) (gL gv.gr.nodes R Hi k)=os:=⟨_,rfl⟩
   have los:os.length=gv.l+1:=by rw[←eos,oV,hlK]
   rw[eos] at S
   refine am (S.cell 7 rfl rfl) (am (S.cell 7 rfl rfl) (aG rfl (k:=x) rfl (by omega) ?_))
   simp only[aY,Nat.zero_add,Int.toNat_natCast]
   have cx: ∀{g:ae} {W2:List bi},aK h no g W2 (R3 gv)→W2[6]? =some (blk b18 (az os))→aD g ⟨b18,x,none⟩=some (.int .i64 (os.getD x 0)):=fun S e=>S.cell 6 e (aN (by rw[List.getD_eq_getElem?_getD,List.getElem?_eq_getElem (by omega)];rfl))
   refine af (cx S rfl) ?_
   refine am (p:=r.p) (l:=r.l) (c:=r.c) (S.cell 3 rfl rfl) ?_
   have ro:=(S.own 2 rfl).row
   obtain⟨ra,era⟩:=ro.some_of (by rw[aB,rok.1];omega)
   rw[era] at ro
   refine aG era (k:=i+1) rfl (by omega) ?_
   rw[show((i:Int)+1).toNat=i+1 by omega]
   refine af (n:=R ((i:Int)+1)) (ro.cell (aN (by rw[er,List.getElem?_map,List.getElem?_range (by omega)];rfl))) ?_
   refine am (S.cell 5 rfl rfl) (aG rfl (k:=x) rfl (by omega) ?_)
   simp only[aY,Nat.zero_add,Int.toNat_natCast]
   refine af (n:=Hi (x:Int)) (S.cell 4 rfl (aN (by rw[List.getElem?_map,List.getElem?_range (by omega)];rfl))) ?_
   refine(Pe nv (S.r 0 _ rfl) hsize hgap _ _).mono ?_
   rintro _ g2 ⟨rfl,F⟩
   replace S:=S.fra0 F
   refine⟨_,rfl,bf (S.cell 3 rfl rfl) (bf (cx S rfl) (bf (S.cell 7 rfl rfl) (bf (S.cell 7 rfl rfl) ?_)))⟩
   refine aG rfl (k:=x) rfl (by omega) ?_
   simp only[aY,Nat.zero_add,Int.toNat_natCast]
   refine aJ S 6 rfl (by rw[aB];omega) fun g3 _ S=> ?_
   dsimp only[List.set] at S
   rw[ck] at S
   rw[al (n:=(j:Int)+1) (by omega)]
   refine⟨nv.inn.l-(j+1),by omega,j+1,rfl,by omega,rfl,?_⟩
   rw[List.take_succ_eq_append_getElem hlt',List.foldl_append,eos,ex]
   exact S
  ·have:j=nv.inn.l:=by omega
   subst this
   rw[List.take_of_length_le (by omega)] at S
   exact H _ (S.pw [0,1,2,3,4,5,6,7,8,9,10])
 ·dsimp only[List.cons_append,List.nil_append] at S
  refine am (S.cell 7 rfl rfl) ⟨S.w 8 _ rfl,?_⟩
  replace S:=gX S 8 (.deferred none) rfl
  dsimp only[List.set] at S
  refine⟨b18,rfl,?_⟩
  have e:gv.gr.rooms R Hi=gL gv.gr.nodes R Hi gv.l:=by unfold Gr.rooms;rw[hgn]
  rw[e]
  exact GQ (S.pw [6])
theorem Ic (hok:gv.ok) (hn:bT h gv.p (aF gv.ns)) (hr:(aZ gv.ns).P h) (hs:gv.sizes) (hT:KT h) (rt:bJ gv.gr W R pos) (rc:Reach gv.gr.nodes R Lo Hi):aq P hO #[gv.v] h (NJ gv R Hi h):=by
 refine yy _ ?_
 unfold zE
 have hgl:=hok.1
 have hgn:gv.gr.nodes.length=gv.l:=by rw[←hgl];simp[Gv.gr]
 have hl12:gv.l≤12:=by have:=(bW rt.first).2.1;omega
 have S:=(((aK.start h no).read (blk 0 (az aS)) hT).read (row gv.p (aF gv.ns)) hn).read (aZ gv.ns) hr
 refine aC (cs:=gv.cells) S fun b1 h1 _ S=> ?_
 dsimp only[List.nil_append,List.cons_append] at S
 refine aQ S 0 rfl (x:=gv.t) rfl ?_
 refine(GY hok (S.row 1 rfl) (S.r 2 _ rfl) hs (S.r 0 _ rfl)).mono ?_
 rintro _ g2 ⟨r,rfl,rok,er,S1⟩
 rw[rt.look,hgn] at er
 replace S:=S.add S1 fun _ _ h=>h
 dsimp only[List.cons_append,List.nil_append] at S
 have lenR:r.l=gv.l+1:=by rw[←rok.1,er];simp
 refine⟨_,_,_,rfl,?_⟩
 refine aC S fun b6 h1 _ S=> ?_
 dsimp only[List.nil_append,List.cons_append] at S
 refine aJ S 2 rfl (Nat.le_of_ble_eq_true rfl) fun g3 _ S=> ?_
 dsimp only[List.set] at S
 refine aQ S 0 rfl (x:=gv.t) rfl ?_
 refine(NI hok (S.row 1 rfl) (S.r 2 _ rfl) hs (S.r 0 _ rfl) rt rc).mono ?_
 rintro _ g4 ⟨bL,bH,rfl,S1⟩
 replace S:=S.add S1 fun _ _ h=>h
 dsimp only[List.cons_append,List.nil_append] at S
 refine⟨_,_,_,_,_,_,rfl,?_⟩
 refine aC S fun b14 h1 _ S=> ?_
 dsimp only[List.nil_append,List.cons_append] at S
 refine aJ S 5 rfl (Nat.le_of_ble_eq_true rfl) fun g5 _ S=> ?_
 dsimp only[List.set] at S
 refine am (p:=r.p) (l:=gv.l+1) (c:=r.c) (by rw[←lenR];exact S.cell 2 rfl rfl) ?_
 refine iG S (gv.l+1) rfl (zs:=[.int .i64 0]) rfl rfl (by decide) (by omega) (by omega) fun b18 g6 _ S=> ?_
 dsimp only[List.nil_append,List.cons_append] at S
 rw[lH,show List.replicate (gv.l+1) (Value.int .i64 0)=az (List.replicate (gv.l+1) 0) by simp[az]] at S
 simp only[Int.toNat_natCast]
 refine aC S fun b20 h1 _ S=> ?_
 dsimp only[List.nil_append,List.cons_append] at S
 refine aJ S 7 rfl (Nat.le_of_ble_eq_true rfl) fun g7 _ S=> ?_
 dsimp only[List.set] at S
 refine am (S.cell 7 rfl rfl) ?_
 refine aT (fun m s g=> ∃i:Nat,s=(⟨b1,0,none⟩,⟨b6,0,none⟩,⟨b14,0,none⟩,⟨b20,0,none⟩,((gv.l+1:Nat):Int),(i:Int),())∧i≤gv.l+1∧m=gv.l+1-i∧
  aK h no g [blk b1 gv.cells,own 1 r.p r.l r.c (az r.xs),blk b6 [r.v],blk bL (az ((List.range (gv.l+1)).map fun x:Nat=>Lo x)),blk bH (az ((List.range (gv.l+1)).map fun x:Nat=>Hi x)),blk b14 [.slice (some ⟨bH,0,none⟩) (gv.l+1) (gv.l+1)],
   blk b18 (az (List.replicate i 1++List.replicate (gv.l+1-i) 0)),blk b20 [.slice (some ⟨b18,0,none⟩) (gv.l+1) (gv.l+1)]] (R3 gv)) (gv.l+1) ⟨0,rfl,by omega,rfl,S⟩ ?_
 clear S
 rintro m s g ⟨i,rfl,hi,rfl,S⟩
 dsimp only
 by_cases hlt:i<gv.l+1
 ·unfold jY
  refine cq (decide_eq_true (by omega)) ?_
  refine am (S.cell 7 rfl rfl) (aG rfl (k:=i) rfl hlt ?_)
  simp only[aY,Nat.zero_add,Int.toNat_natCast,Nat.mul_one]
  refine aJ S 6 rfl (by rw[aB,List.length_append,List.length_replicate,List.length_replicate];omega) fun g3 _ S=> ?_
  dsimp only[List.set] at S
  rw[ck,sk (List.length_replicate ..) hlt] at S
  rw[al (n:=(i:Int)+1) (by omega)]
  have e:(List.replicate i (1:Int))++[1]=List.replicate (i+1) 1:=by rw[List.replicate_succ']
  rw[e] at S
  exact⟨gv.l+1-(i+1),by omega,i+1,rfl,by omega,rfl,S⟩
 ·have:i=gv.l+1:=by omega
  subst this
  rw[Nat.sub_self,List.replicate_zero,List.append_nil] at S
  have e0:List.replicate (gv.l+1) (1:Int)=gL gv.gr.nodes R Hi 0:=by unfold gL;rw[hgn];rfl
  rw[e0] at S
  exact GC hok hs rt rc rok er (S.pw [0,1,2,4,5,6,7])
theorem Pf {nv:Nv} (hok:nv.ok) (hr:nv.rows.P h) (hT:KT h) (hi:nv.inn.l<2 ^ 20) (hw:nv.weights.l<2 ^ 40) (hb:nv.bias.l<2 ^ 40) {w:Int} (hc:jb nv.kind→nv.nd.chk [w]=0):aq P kP #[nv.v,.int .i64 w] h fun v h'=>v= .int .i64 (nv.nd.cost:Int)∧cu no h h':=by
 refine yA _ _ ?_
 unfold zF
 have S:=((aK.start h no).read (blk 0 (az aS)) hT).read nv.rows hr
 refine aC (cs:=nv.cells) S fun b1 h1 _ S=> ?_
 dsimp only[List.cons_append,List.nil_append] at S
 have ec:(nv.nd.cost:Int)=if jb nv.kind then(nv.weights.l:Int) else 0:=by
  unfold Nd.cost
  show((if jb nv.kind then nv.weights.xs.length else 0:Nat):Int)=_
  rw[hok.2.1.1]
  split<;>rfl
 rw[ec]
 have yes:jb nv.kind→aX A1 h1 ⟨b1,0,none⟩ fun x4=>aW h1 (.cells #[(.int .i64 w)] 3 (0,0)) fun b5 h6=>aI P .i64 eQ #[(bz A1 x4),(.slice (some ⟨b5,0,none⟩) 1 1)] h6 fun n8 h7=>
  aL (n8==(0:Int)) (av h7 ⟨b1,8,none⟩ fun p9 l9 c9=>Value.int .i64 ((l9:Nat):Int)= .int .i64 (if jb nv.kind then(nv.weights.l:Int) else 0)∧cu no h h7) (Value.int .i64 0= .int .i64 (if jb nv.kind then(nv.weights.l:Int) else 0)∧cu no h h7):=by
  intro hk
  refine aQ S 0 rfl (x:=nv.t) rfl ?_
  refine aC (cs:=az [w]) S fun b5 g2 _ S=> ?_
  dsimp only[List.cons_append,List.nil_append] at S
  refine(Dc hok (S.r 1 _ rfl) (by omega) (by omega) (by omega) (S.r 0 _ rfl) (bT.of_at (S.at 1 rfl)) (l:=1) rfl (by decide)).mono ?_
  rintro _ g3 ⟨rfl,F⟩
  replace S:=S.fra0 F
  refine⟨_,rfl,aO (fun _=> ?_) (fun hn=>absurd (hc hk) hn)⟩
  refine am (p:=nv.weights.p) (l:=nv.weights.l) (c:=nv.weights.c) (S.cell 0 rfl rfl) ⟨by rw[if_pos hk],S.fra⟩
 refine af (n:=nv.kind) (S.cell 0 rfl rfl) (aO (fun k1=>yes (.inl k1)) (fun k1=>aO (fun k2=>yes (.inr (.inl k2))) (fun k2=>aO (fun k6=>yes (.inr (.inr k6))) (fun k6=> ?_))))
 exact⟨by rw[if_neg (by rintro(h|h|h);exact k1 h;exact k2 h;exact k6 h)],S.fra⟩
theorem KC (hok:gv.ok) (hn:bT h gv.p (aF gv.ns)) (hr:(aZ gv.ns).P h) (hs:gv.sizes) (hT:KT h) (rt:bJ gv.gr W R pos):aq P j7 #[gv.v] h fun v h'=>v= .int .i64 gv.gr.macs∧cu no h h':=by
 refine Ao _ ?_
 unfold BI
 have hgl:=hok.1
 have hgn:gv.gr.nodes.length=gv.l:=by rw[←hgl];simp[Gv.gr]
 have S:=(((aK.start h no).read (blk 0 (az aS)) hT).read (row gv.p (aF gv.ns)) hn).read (aZ gv.ns) hr
 refine aC (cs:=gv.cells) S fun b1 h1 _ S=> ?_
 dsimp only[List.nil_append,List.cons_append] at S
 refine aQ S 0 rfl (x:=gv.t) rfl ?_
 refine(tR hok (S.row 1 rfl) (S.r 2 _ rfl) hs (S.r 0 _ rfl)).mono ?_
 rintro _ g2 ⟨w,rfl,wok,ew,S1⟩
 rw[rt.look,hgn] at ew
 replace S:=S.add S1 fun _ _ h=>h
 dsimp only[List.cons_append,List.nil_append] at S
 have lenW:w.l=gv.l+1:=by rw[←wok.1,ew];simp
 refine⟨_,_,_,rfl,?_⟩
 refine aC S fun b6 h1 _ S=> ?_
 dsimp only[List.nil_append,List.cons_append] at S
 refine aJ S 2 rfl (Nat.le_of_ble_eq_true rfl) fun g3 _ S=> ?_
 dsimp only[List.set] at S
 refine aC S fun b9 h1 _ S=> ?_
 dsimp only[List.nil_append,List.cons_append] at S
 refine aJ S 3 rfl (Nat.le_of_ble_eq_true rfl) fun g4 _ S=> ?_
 dsimp only[List.set] at S
 refine aQ S 0 rfl (x:=gv.t) rfl ?_
 refine(Jz gv).mono ?_
 rintro _ g5 ⟨bg,rfl,S1⟩
 replace S:=S.add S1 fun _ _ h=>h
 dsimp only[List.cons_append,List.nil_append] at S
 refine⟨_,rfl,?_⟩
 refine wz (fun k=>[blk b1 gv.cells,own 1 w.p w.l w.c (az w.xs),blk b6 [w.v],blk b9 [.int .i64 (FD gv.gr.nodes k)]]) hok hs rt (S.pw [4,0,1,2,3]) (fun k i nv D l rdy busy o g Rr hk ek en S H=> ?_) (fun D l exh o g S=> ?_)
 ·have A:=Pd hok hs rt hk ek en
  obtain⟨x0,ex0,hx0,hV0⟩:=A.fst
  have ilen:=A.ilen
  have i1:=A.i1
  dsimp only[List.cons_append,List.nil_append] at S H
  have hstep:FD gv.gr.nodes (k+1)=IntKind.wrap .i64 (FD gv.gr.nodes k+(nv.nd.cost:Int)):=by
   unfold FD
   have hkl:=(List.getElem?_eq_some_iff.1 ek).1
   rw[List.take_succ_eq_append_getElem hkl,List.foldl_append,(List.getElem?_eq_some_iff.1 ek).2,←Nn A.at_];rfl
  rw[hstep] at H
  refine aC S fun b18 g2 _ S=> ?_
  dsimp only[List.cons_append,List.nil_append] at S
  refine cG S 8 rfl rfl (bC rfl) fun g3 _ S=> ?_
  dsimp only[List.set] at S
  refine⟨S.w 6 _ rfl,?_⟩
  replace S:=gX S 6 busy rfl
  dsimp only[List.set] at S
  generalize Array.setIfInBounds g3 l busy=g4 at S
  refine aQ S 8 rfl (x:=nv.t) rfl (af (S.cell 4 rfl rfl) ?_)
  refine am (p:=w.p) (l:=w.l) (c:=w.c) (S.cell 3 rfl rfl) (am (p:=nv.inn.p) (l:=nv.inn.l) (c:=nv.inn.c) (S.cell 8 rfl rfl) ?_)
  have nr:nv.rows.P g4:=S.r 2 _ rfl nv.rows A.rows
  have ir:bT g4 nv.inn.p (az nv.inn.xs):=nr nv.inn.row (by simp)
  obtain⟨ia,eia⟩:=ir.some_of (by rw[aB];omega)
  rw[eia] at ir
  refine aG eia (k:=0) rfl (by omega) (af (ir.cell (aN ex0)) ?_)
  have wr:=(S.own 2 rfl).row
  obtain⟨wa,ewa⟩:=wr.some_of (by rw[aB,wok.1];omega)
  rw[ewa] at wr
  refine aG ewa (k:=x0) rfl (by omega) ?_
  simp only[Int.toNat_natCast,Nat.mul_one]
  refine af (n:=W (x0:Int)) (wr.cell (aN (by rw[ew,List.getElem?_map,List.getElem?_range (by omega)];rfl))) ?_
  have hci:jb nv.kind→nv.nd.chk [W (x0:Int)]=0:=fun hwe=>by
   have hlen1:nv.nd.inn.length=1:=by
    have:=(iH A.chk).2.2.2.2.2.2.1 (by
     have hk:nv.nd.kind=nv.kind:=rfl
     rw[hk]
     rintro(h|h)<;>rcases hwe with h2|h2|h2<;>omega)
    rw[List.length_map] at this;exact this
   obtain⟨y,hy⟩:=List.length_eq_one_iff.1 hlen1
   have e2:=hV0 W
   have hc:=A.chk
   rw[hy] at e2 hc
   have e3:W y=W (x0:Int):=e2
   rw[←e3];exact hc
  refine(Pf A.ok nr (S.r 0 _ rfl) A.sz.1 A.sz.2.1 A.sz.2.2 hci).mono ?_
  rintro _ g5 ⟨rfl,F⟩
  replace S:=S.fra0 F
  refine⟨_,rfl,bf (S.cell 3 rfl rfl) (bf (S.cell 4 rfl rfl) ?_)⟩
  refine aJ S 4 rfl (Nat.le_of_ble_eq_true rfl) fun g6 _ S=> ?_
  dsimp only[List.set] at S
  exact H _ (S.pw [0,1,2,3,4,5,6,7])
 ·dsimp only[List.cons_append,List.nil_append] at S
  refine af (S.cell 4 rfl rfl) ⟨S.w 5 _ rfl,?_⟩
  replace S:=gX S 5 (.deferred none) rfl
  have e:gv.gr.macs=FD gv.gr.nodes gv.l:=by unfold Gr.macs;rw[hgn]
  rw[e]
  exact⟨rfl,S.fra⟩
end
end Go.Proofs.YtdhpmegbmjoekaaGreatDoor.G
end
