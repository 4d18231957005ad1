/- Contracts: graphs by numbers, with some nodes more. -/
import Derived.Test.YtdhpmegbmjoekaaGreatDoorCMade5
import Derived.Test.YtdhpmegbmjoekaaGreatDoorCFuse2
namespace Go.Proofs.YtdhpmegbmjoekaaGreatDoor.G
open Go Go.Sh
set_option linter.unusedVariables false
set_option linter.unusedSimpArgs false
def tK (o:Int):Nd:=⟨9,[o],0,0,0,0,0,0,[],[],0,0,-90,700,0⟩
def tL (o:Int):Nd:=⟨10,[o],0,0,0,0,0,0,[],[],21000,14,0,0,0⟩
def Du (o:Int):Nd:=⟨11,[o],0,0,0,0,0,0,[],[],0,0,0,0,0⟩
def H1 (g:Gr) (n:Nd):Gr:={g with nodes:=g.nodes++[n],out:=(g.nodes.length:Int)+1}
inductive Jr (b:Gr):Nat→Gr→Prop
 |base:Jr b 0 b
 |step {k:Nat} {g:Gr} {n:Nd}:Jr b k g→(n=tK g.out∨n=tL g.out)→Jr b (k+1) (H1 g n)
def Pz (g:Gr):Gr:={g with nodes:=g.nodes++[Du g.out]}
def Bj (g:Gr):Prop:= ∃(b:Gr) (k:Nat) (g':Gr),Dz b∧k≤3∧Jr b k g'∧(g=g'∨g=Pz g')
theorem Dz.len {g:Gr} (m:Dz g):1≤g.nodes.length∧g.nodes.length≤6:=by
 obtain⟨ns,ws,rs,out,_,_,_,h1,h2,_,_,h|h⟩:=m
 ·rw[h];exact⟨h1,h2⟩
 ·rw[h]
  have:(Gr.turned ⟨g.width,g.low,g.high,ns,out⟩).nodes.length=ns.length:=by simp[Gr.turned]
  rw[this];exact⟨h1,h2⟩
section
variable {h0 h:ae} {T:Nat→Prop} {W R:List bi}
theorem Dv (S:aK h0 T h W R) (i:Nat) {b:Nat} {o:Int} {n:Nv} (e:W[i]? =some (blk b [.int .i64 o])) (h1:n.inn=⟨some ⟨b,0,none⟩,1,1,[o]⟩) (h2:n.weights=Sl.nil) (h3:n.bias=Sl.nil):aK h0 T h (W.set i n.rows) R:=
 S.turn i e _ (fun a f hf=>by
  simp only[List.mem_cons,List.not_mem_nil,or_false] at hf
  rcases hf with rfl|rfl|rfl
  ·rw[h1];exact bT.of_at a
  ·rw[h2];exact bT.nil _ _
  ·rw[h3];exact bT.nil _ _) fun b' ⟨f,hf,hb⟩=>by
  simp only[List.mem_cons,List.not_mem_nil,or_false] at hf
  rcases hf with rfl|rfl|rfl
  ·rw[h1] at hb
   obtain⟨_,a,ha,hb⟩:=hb
   cases ha;exact hb.symm
  ·rw[h2] at hb;exact absurd rfl hb.1
  ·rw[h3] at hb;exact absurd rfl hb.1
def O2 (h:ae) (v:Value) (h':ae):Prop:=
 ∃gv:Gv,v=gv.v∧gv.ok∧Bj gv.gr∧gv.l≤10∧(∀n∈gv.ns,n.inn.l≤2 ^ 20∧n.weights.l≤2 ^ 20∧n.bias.l≤2 ^ 20)∧aK h no h' [own 15 gv.p gv.l gv.c (aF gv.ns),aZ gv.ns] []
variable {p:Option Addr} {l c:Nat} {L:List Int}
theorem Ns (hx:bT h p (az L)) (hL:L.length=l) (hlc:l≤c) (hl:l<2 ^ 62):aq P mh #[.slice p l c] h (H2 h):=by
 refine AD _ _ _ ?_
 unfold B4
 have S:=(aK.start h no).read (row p (az L)) hx
 refine aC (cs:=aP bP (zT bP)) S fun b1 h1 _ S=> ?_
 dsimp only[List.nil_append] at S
 refine(Nx (S.row 0 rfl) hL hlc hl).mono ?_
 rintro _ h2 ⟨gv,rfl,ok,mg,sz,S1⟩
 replace S:=S.add S1 fun _ _ h=>h
 dsimp only[List.cons_append,List.nil_append] at S
 refine jQ gv.t ⟨rfl,?_⟩
 refine cG S 0 rfl rfl (bC rfl) fun h3 _ S=> ?_
 dsimp only[List.set] at S
 refine aQ S 0 rfl (x:=gv.t) rfl ?_
 exact⟨gv,rfl,ok,mg,sz,GQ (S.pw [1,2])⟩
theorem Nt (hx:bT h p (az L)) (hL:L.length=l) (hlc:l≤c) (hl:l<2 ^ 62) (more:Int):aq P mi #[.slice p l c,.int .i64 more] h (O2 h):=by
 refine AE _ _ _ _ ?_
 unfold B6
 have S:=(aK.start h no).read (row p (az L)) hx
 refine aC (cs:=aP bP (zT bP)) S fun b1 h1 _ S=> ?_
 dsimp only[List.nil_append] at S
 refine(Ns (S.row 0 rfl) hL hlc hl).mono ?_
 rintro _ h2 ⟨bs,rfl,ok,mg,sz,S1⟩
 replace S:=GQ (S.add S1 fun _ _ h=>h)
 dsimp only[List.cons_append,List.nil_append] at S
 refine jQ bs.t ⟨rfl,?_⟩
 refine aC (cs:=aP bP (zT bP)) S fun b6 h7 _ S=> ?_
 dsimp only[List.cons_append,List.nil_append] at S
 refine cG S 3 rfl rfl (bC rfl) fun h8 _ S=> ?_
 dsimp only[List.set] at S
 refine aC (cs:=[]) S fun b9 h10 _ S=> ?_
 dsimp only[List.cons_append,List.nil_append] at S
 refine am (p:=bs.p) (l:=bs.l) (c:=bs.c) (S.cell 3 rfl rfl) ?_
 replace S:=S.toOwn 4 15 0 0 rfl (Nat.le_refl _)
 dsimp only[List.set,List.take] at S
 have hbl:bs.gr.nodes.length=bs.l:=by rw[←ok.1];simp[Gv.gr]
 have hlen:=mg.len
 rw[hbl] at hlen
 have brow:=(S.own 1 rfl).row
 refine dI S 4 (ys:=aF bs.ns) rfl rfl (by decide) (by omega) brow (by rw[bY,ok.1]) Fn fun p12 l12 c12 h13 hl12 S=> ?_
 dsimp only[List.set,List.nil_append] at S
 rw[Nat.zero_add] at hl12
 subst hl12
 refine aJ S 3 rfl (Nat.le_of_ble_eq_true rfl) fun h14 _ S=> ?_
 dsimp only[List.set] at S
 obtain⟨B,eB,hB⟩: ∃B:Nat,cS .i64 (gz more 1) 3=(B:Int)∧B≤3:=by
  have:=C2 (gz more 1) 3 2 (by decide) (by decide)
  have e:((3:Nat):Int)=3:=rfl
  rw[e] at this
  exact⟨(cS .i64 (gz more 1) 3).toNat,by omega,by omega⟩
 have S0:aK h no h14 [blk b1 (aP bP (zT bP)),blk b6 ({bs with p:=p12,c:=c12}:Gv).cells,own 15 p12 bs.l c12 (aF bs.ns),aZ bs.ns] []:=S.pw [0,3,4,2]
 have hcc:=(S0.own 2 rfl).2.1
 clear S S1 brow
 refine aT (fun mm s g=> ∃(i:Nat) (cur:Gv),s=(more,⟨b1,0,none⟩,⟨b6,0,none⟩,(i:Int),())∧i≤B∧mm=B-i∧cur.ok∧cur.l=bs.l+i∧Jr bs.gr i cur.gr∧(∀n∈cur.ns,n.inn.l≤2 ^ 20∧n.weights.l≤2 ^ 20∧n.bias.l≤2 ^ 20)∧
  aK h no g [blk b1 (aP bP (zT bP)),blk b6 cur.cells,own 15 cur.p cur.l cur.c (aF cur.ns),aZ cur.ns] []) B
  ⟨0,{bs with p:=p12,c:=c12},rfl,by omega,rfl,⟨ok.1,hcc,ok.2.2⟩,rfl,.base,sz,S0⟩ ?_
 clear S0 hcc
 rintro mm s g ⟨i,cur,rfl,hi,rfl,cok,cl,cm,csz,S⟩
 unfold vb
 rw[eB]
 simp only[aY,Nat.zero_add]
 have hcn:cur.gr.nodes.length=cur.l:=by rw[←cok.1];simp[Gv.gr]
 have okN: ∀{b:Nat} {n:Nv},n.inn=⟨some ⟨b,0,none⟩,1,1,[cur.out]⟩→n.weights=Sl.nil→n.bias=Sl.nil→n.ok∧(n.inn.l≤2 ^ 20∧n.weights.l≤2 ^ 20∧n.bias.l≤2 ^ 20):=fun{b n} h1 h2 h3=>by
  refine⟨⟨?_,?_,?_⟩,?_,?_,?_⟩
  ·rw[h1];exact⟨rfl,Nat.le_refl _⟩
  ·rw[h2];exact⟨rfl,Nat.le_refl _⟩
  ·rw[h3];exact⟨rfl,Nat.le_refl _⟩
  ·rw[h1];show 1≤2 ^ 20;decide
  ·rw[h2];decide
  ·rw[h3];decide
 have catP: ∀{n:Nv},(n.ok∧(n.inn.l≤2 ^ 20∧n.weights.l≤2 ^ 20∧n.bias.l≤2 ^ 20))→(∀m∈cur.ns++[n],m.ok)∧ ∀m∈cur.ns++[n],m.inn.l≤2 ^ 20∧m.weights.l≤2 ^ 20∧m.bias.l≤2 ^ 20:=fun{n} hn=>by
  constructor
  ·intro m hm
   rcases List.mem_append.1 hm with hm|hm
   ·exact cok.2.2 m hm
   ·simp only[List.mem_singleton] at hm;subst hm;exact hn.1
  ·intro m hm
   rcases List.mem_append.1 hm with hm|hm
   ·exact csz m hm
   ·simp only[List.mem_singleton] at hm;subst hm;exact hn.2
 have cat1: ∀n:Nv,aF cur.ns++n.cells=aF (cur.ns++[n]):=fun n=>by rw[jX,show aF [n]=n.cells by simp[aF]]
 refine au (fun hlt=> ?_) (fun hge=> ?_)
 ·have ei:IntKind.wrap .i64 ((i:Int)+1)=((i+1:Nat):Int):=by rw[al (by omega)];rfl
  rw[ei]
  refine af (n:=cur.out) (S.cell 1 rfl rfl) ?_
  refine aC (cs:=[.int .i64 cur.out]) S fun b17 g2 _ S=> ?_
  dsimp only[List.cons_append,List.nil_append] at S
  refine aC (cs:=aP da (zT da)) S fun b19 g3 _ S=> ?_
  dsimp only[List.cons_append,List.nil_append] at S
  obtain⟨nc,enc⟩: ∃nc:Nv,nc=⟨9,⟨some ⟨b17,0,none⟩,1,1,[cur.out]⟩,0,0,0,0,0,0,Sl.nil,Sl.nil,0,0,-90,700,0⟩:=⟨_,rfl⟩
  refine cG S 5 rfl rfl (bC (l:=da) (x:=(⟨9,⟨some ⟨b17,0,none⟩,1,1,[cur.out]⟩,0,0,0,0,0,0,Sl.nil,Sl.nil,0,0,-90,700,0⟩:Nv).t) rfl) fun g4 _ S=> ?_
  dsimp only[List.set] at S
  refine⟨by rw[gU];omega,?_⟩
  refine hZ (fun _=> ?_) (fun _=> ?_)
  ·refine af (n:=cur.out) (S.cell 1 rfl rfl) ?_
   refine aC (cs:=[.int .i64 cur.out]) S fun b23 g5 _ S=> ?_
   dsimp only[List.cons_append,List.nil_append] at S
   obtain⟨nn,enn⟩: ∃nn:Nv,nn=⟨10,⟨some ⟨b23,0,none⟩,1,1,[cur.out]⟩,0,0,0,0,0,0,Sl.nil,Sl.nil,21000,14,0,0,0⟩:=⟨_,rfl⟩
   refine cG S 5 rfl rfl (bC (l:=da) (x:=(⟨10,⟨some ⟨b23,0,none⟩,1,1,[cur.out]⟩,0,0,0,0,0,0,Sl.nil,Sl.nil,21000,14,0,0,0⟩:Nv).t) rfl) fun g6 _ S=> ?_
   dsimp only[List.set] at S
   refine am (p:=cur.p) (l:=cur.l) (c:=cur.c) (S.cell 1 rfl rfl) ?_
   have en:aP da (⟨10,⟨some ⟨b23,0,none⟩,1,1,[cur.out]⟩,0,0,0,0,0,0,Sl.nil,Sl.nil,21000,14,0,0,0⟩:Nv).t=nn.cells:=by rw[enn];rfl
   refine aQ S 5 rfl (x:=nn.t) en ?_
   refine aC S fun b28 g7 _ S=> ?_
   dsimp only[List.cons_append,List.nil_append] at S
   refine dI S 2 (ys:=nn.cells) rfl rfl (by decide) (by omega) (bT.of_at (S.at 7 rfl)) rfl (bC rfl) fun p2 l2 c2 g8 hl2 S=> ?_
   dsimp only[List.set] at S
   subst hl2
   refine aJ S 1 rfl (Nat.le_of_ble_eq_true rfl) fun g9 _ S=> ?_
   dsimp only[List.set] at S
   refine am (p:=p2) (l:=cur.l+1) (c:=c2) (S.cell 1 rfl rfl) ?_
   refine aJ S 1 rfl (Nat.le_of_ble_eq_true rfl) fun g10 _ S=> ?_
   dsimp only[List.set] at S
   have S2:=Dv S 6 (n:=nn) rfl (by rw[enn]) (by rw[enn]) (by rw[enn])
   dsimp only[List.set] at S2
   rw[cat1] at S2
   have S3:aK h no g10 [blk b1 (aP bP (zT bP)),blk b6 (⟨cur.width,cur.low,cur.high,p2,cur.l+1,c2,((cur.l+1:Nat):Int),cur.ns++[nn]⟩:Gv).cells,own 15 p2 (cur.l+1) c2 (aF (cur.ns++[nn])),cA (cur.ns.map Nv.rows),nn.rows] []:=S2.pw [0,1,2,3,6]
   have S4:=S3.joinR [0,1,2] 3 4 rfl rfl
   rw[←pU] at S4
   have hc2:=(S3.own 2 rfl).2.1
   have kk:=catP (okN (b:=b23) (n:=nn) (by rw[enn]) (by rw[enn]) (by rw[enn]))
   refine⟨B-(i+1),by omega,i+1,⟨cur.width,cur.low,cur.high,p2,cur.l+1,c2,((cur.l+1:Nat):Int),cur.ns++[nn]⟩,rfl,by omega,rfl,⟨by show(cur.ns++[nn]).length=_;rw[List.length_append,cok.1];rfl,hc2,kk.1⟩,by show cur.l+1=_;omega,?_,kk.2,S4⟩
   have e:(⟨cur.width,cur.low,cur.high,p2,cur.l+1,c2,((cur.l+1:Nat):Int),cur.ns++[nn]⟩:Gv).gr=H1 cur.gr (tL cur.gr.out):=by
    unfold H1
    rw[hcn]
    show Gr.mk _ _ _ ((cur.ns++[nn]).map Nv.nd) _=Gr.mk _ _ _ (cur.ns.map Nv.nd++[tL cur.out]) _
    rw[List.map_append,enn];rfl
   rw[e]
   exact .step cm (.inr rfl)
  ·refine am (p:=cur.p) (l:=cur.l) (c:=cur.c) (S.cell 1 rfl rfl) ?_
   have en:aP da (⟨9,⟨some ⟨b17,0,none⟩,1,1,[cur.out]⟩,0,0,0,0,0,0,Sl.nil,Sl.nil,0,0,-90,700,0⟩:Nv).t=nc.cells:=by rw[enc];rfl
   refine aQ S 5 rfl (x:=nc.t) en ?_
   refine aC S fun b28 g7 _ S=> ?_
   dsimp only[List.cons_append,List.nil_append] at S
   refine dI S 2 (ys:=nc.cells) rfl rfl (by decide) (by omega) (bT.of_at (S.at 6 rfl)) rfl (bC rfl) fun p2 l2 c2 g8 hl2 S=> ?_
   dsimp only[List.set] at S
   subst hl2
   refine aJ S 1 rfl (Nat.le_of_ble_eq_true rfl) fun g9 _ S=> ?_
   dsimp only[List.set] at S
   refine am (p:=p2) (l:=cur.l+1) (c:=c2) (S.cell 1 rfl rfl) ?_
   refine aJ S 1 rfl (Nat.le_of_ble_eq_true rfl) fun g10 _ S=> ?_
   dsimp only[List.set] at S
   have S2:=Dv S 4 (n:=nc) rfl (by rw[enc]) (by rw[enc]) (by rw[enc])
   dsimp only[List.set] at S2
   rw[cat1] at S2
   have S3:aK h no g10 [blk b1 (aP bP (zT bP)),blk b6 (⟨cur.width,cur.low,cur.high,p2,cur.l+1,c2,((cur.l+1:Nat):Int),cur.ns++[nc]⟩:Gv).cells,own 15 p2 (cur.l+1) c2 (aF (cur.ns++[nc])),cA (cur.ns.map Nv.rows),nc.rows] []:=S2.pw [0,1,2,3,4]
   have S4:=S3.joinR [0,1,2] 3 4 rfl rfl
   rw[←pU] at S4
   have hc2:=(S3.own 2 rfl).2.1
   have kk:=catP (okN (b:=b17) (n:=nc) (by rw[enc]) (by rw[enc]) (by rw[enc]))
   refine⟨B-(i+1),by omega,i+1,⟨cur.width,cur.low,cur.high,p2,cur.l+1,c2,((cur.l+1:Nat):Int),cur.ns++[nc]⟩,rfl,by omega,rfl,⟨by show(cur.ns++[nc]).length=_;rw[List.length_append,cok.1];rfl,hc2,kk.1⟩,by show cur.l+1=_;omega,?_,kk.2,S4⟩
   have e:(⟨cur.width,cur.low,cur.high,p2,cur.l+1,c2,((cur.l+1:Nat):Int),cur.ns++[nc]⟩:Gv).gr=H1 cur.gr (tK cur.gr.out):=by
    unfold H1
    rw[hcn]
    show Gr.mk _ _ _ ((cur.ns++[nc]).map Nv.nd) _=Gr.mk _ _ _ (cur.ns.map Nv.nd++[tK cur.out]) _
    rw[List.map_append,enc];rfl
   rw[e]
   exact .step cm (.inl rfl)
 ·refine hZ (fun _=> ?_) (fun _=> ?_)
  ·refine am (p:=cur.p) (l:=cur.l) (c:=cur.c) (S.cell 1 rfl rfl) ?_
   refine af (n:=cur.out) (S.cell 1 rfl rfl) ?_
   refine aC (cs:=[.int .i64 cur.out]) S fun b46 g2 _ S=> ?_
   dsimp only[List.cons_append,List.nil_append] at S
   obtain⟨nb,enb⟩: ∃nb:Nv,nb=⟨11,⟨some ⟨b46,0,none⟩,1,1,[cur.out]⟩,0,0,0,0,0,0,Sl.nil,Sl.nil,0,0,0,0,0⟩:=⟨_,rfl⟩
   refine aC (cs:=(⟨11,⟨some ⟨b46,0,none⟩,1,1,[cur.out]⟩,0,0,0,0,0,0,Sl.nil,Sl.nil,0,0,0,0,0⟩:Nv).cells) S fun b48 g3 _ S=> ?_
   rw[←enb] at S
   dsimp only[List.cons_append,List.nil_append] at S
   refine dI S 2 (ys:=nb.cells) rfl rfl (by decide) (by omega) (bT.of_at (S.at 5 rfl)) rfl (bC rfl) fun p2 l2 c2 g8 hl2 S=> ?_
   dsimp only[List.set] at S
   subst hl2
   refine aJ S 1 rfl (Nat.le_of_ble_eq_true rfl) fun g9 _ S=> ?_
   dsimp only[List.set] at S
   have S2:=Dv S 4 (n:=nb) rfl (by rw[enb]) (by rw[enb]) (by rw[enb])
   dsimp only[List.set] at S2
   rw[cat1] at S2
   have S3:aK h no g9 [blk b1 (aP bP (zT bP)),blk b6 (⟨cur.width,cur.low,cur.high,p2,cur.l+1,c2,cur.out,cur.ns++[nb]⟩:Gv).cells,own 15 p2 (cur.l+1) c2 (aF (cur.ns++[nb])),cA (cur.ns.map Nv.rows),nb.rows] []:=S2.pw [0,1,2,3,4]
   have S4:=S3.joinR [0,1,2] 3 4 rfl rfl
   rw[←pU] at S4
   have hc2:=(S3.own 2 rfl).2.1
   have kk:=catP (okN (b:=b46) (n:=nb) (by rw[enb]) (by rw[enb]) (by rw[enb]))
   refine aQ S4 1 rfl (x:=(⟨cur.width,cur.low,cur.high,p2,cur.l+1,c2,cur.out,cur.ns++[nb]⟩:Gv).t) rfl ?_
   refine cG S4 0 rfl rfl (bC rfl) fun g10 _ S=> ?_
   simp only[Sh.pick,List.getElem?_cons_zero,List.getElem?_cons_succ,List.cons_append,List.nil_append,List.set_cons_zero] at S
   refine aQ S 0 rfl (x:=(⟨cur.width,cur.low,cur.high,p2,cur.l+1,c2,cur.out,cur.ns++[nb]⟩:Gv).t) rfl ?_
   refine⟨⟨cur.width,cur.low,cur.high,p2,cur.l+1,c2,cur.out,cur.ns++[nb]⟩,rfl,⟨by show(cur.ns++[nb]).length=_;rw[List.length_append,cok.1];rfl,hc2,kk.1⟩,⟨bs.gr,i,cur.gr,mg,by omega,cm,.inr ?_⟩,by show cur.l+1≤10;omega,kk.2,S.pw [2,3]⟩
   unfold Pz
   show Gr.mk _ _ _ ((cur.ns++[nb]).map Nv.nd) _=Gr.mk _ _ _ (cur.ns.map Nv.nd++[Du cur.out]) _
   rw[List.map_append,enb];rfl
  ·refine aQ S 1 rfl (x:=cur.t) rfl ?_
   refine cG S 0 rfl rfl (bC rfl) fun g10 _ S=> ?_
   dsimp only[List.set] at S
   refine aQ S 0 rfl (x:=cur.t) rfl ?_
   exact⟨cur,rfl,cok,⟨bs.gr,i,cur.gr,mg,by omega,cm,.inl rfl⟩,by omega,csz,S.pw [2,3]⟩
end
end Go.Proofs.YtdhpmegbmjoekaaGreatDoor.G
