/- Contracts: graphs by numbers, with some nodes more. -/
import Derived.Test.YtdhpmegbmjoekaaGreatDoorCMade5
import Derived.Test.YtdhpmegbmjoekaaGreatDoorCFuse2
namespace Go.Proofs.YtdhpmegbmjoekaaGreatDoor.G
open Go Go.Sh
set_option linter.unusedVariables false
set_option linter.unusedSimpArgs false
def clampN (o:Int):Nd:=⟨9,[o],0,0,0,0,0,0,[],[],0,0,-90,700,0⟩
def scaleN (o:Int):Nd:=⟨10,[o],0,0,0,0,0,0,[],[],21000,14,0,0,0⟩
def bestN (o:Int):Nd:=⟨11,[o],0,0,0,0,0,0,[],[],0,0,0,0,0⟩
def moreG (g:Gr) (n:Nd):Gr:={g with nodes:=g.nodes++[n],out:=(g.nodes.length:Int)+1}
inductive More (b:Gr):Nat→Gr→Prop
 |base:More b 0 b
 |step {k:Nat} {g:Gr} {n:Nd}:More b k g→(n=clampN g.out∨n=scaleN g.out)→More b (k+1) (moreG g n)
def lastG (g:Gr):Gr:={g with nodes:=g.nodes++[bestN g.out]}
def Made21G (g:Gr):Prop:= ∃(b:Gr) (k:Nat) (g':Gr),MadeG b∧k≤3∧More b k g'∧(g=g'∨g=lastG g')
theorem MadeG.len {g:Gr} (m:MadeG g):1≤g.nodes.length∧g.nodes.length≤6:=by
 obtain⟨ns,ws,rs,out,_,_,_,h1,h2,_,_,h|h⟩:=m
 ·rw[h];exact⟨h1,h2⟩
 ·rw[h]
  have:(Gr.turned ⟨g.width,g.low,g.high,ns,out⟩).nodes.length=ns.length:=by simp[Gr.turned]
  rw[this];exact⟨h1,h2⟩
section
variable {h0 h:Heap} {T:Nat→Prop} {W R:List Fact}
theorem oneRow_S (S:Sep h0 T h W R) (i:Nat) {b:Nat} {o:Int} {n:Nv} (e:W[i]? =some (blk b [.int .i64 o])) (h1:n.inn=⟨some ⟨b,0,none⟩,1,1,[o]⟩) (h2:n.weights=Sl.nil) (h3:n.bias=Sl.nil):Sep h0 T h (W.set i n.rows) R:=
 S.turn i e _ (fun a f hf=>by
  simp only[List.mem_cons,List.not_mem_nil,or_false] at hf
  rcases hf with rfl|rfl|rfl
  ·rw[h1];exact Row.of_at a
  ·rw[h2];exact Row.nil _ _
  ·rw[h3];exact Row.nil _ _) fun b' ⟨f,hf,hb⟩=>by
  simp only[List.mem_cons,List.not_mem_nil,or_false] at hf
  rcases hf with rfl|rfl|rfl
  ·rw[h1] at hb
   obtain⟨_,a,ha,hb⟩:=hb
   cases ha;exact hb.symm
  ·rw[h2] at hb;exact absurd rfl hb.1
  ·rw[h3] at hb;exact absurd rfl hb.1
def Made21P (h:Heap) (v:Value) (h':Heap):Prop:=
 ∃gv:Gv,v=gv.v∧gv.ok∧Made21G gv.gr∧gv.l≤10∧(∀n∈gv.ns,n.inn.l≤2 ^ 20∧n.weights.l≤2 ^ 20∧n.bias.l≤2 ^ 20)∧Sep h no h' [own 15 gv.p gv.l gv.c (nflat gv.ns),nrows gv.ns] []
variable {p:Option Addr} {l c:Nat} {L:List Int}
theorem Made16_S (hx:Row h p (ints L)) (hL:L.length=l) (hlc:l≤c) (hl:l<2 ^ 62):callP P n_ref16_Made #[.slice p l c] h (MadeP h):=by
 refine call_ref16_Made _ _ _ ?_
 unfold ref16_Made
 have S:=(Sep.start h no).read (row p (ints L)) hx
 refine newI_S (cs:=mkS' grSh (zT grSh)) S fun b1 h1 _ S=> ?_
 dsimp only[List.nil_append] at S
 refine(Made15_S (S.row 0 rfl) hL hlc hl).mono ?_
 rintro _ h2 ⟨gv,rfl,ok,mg,sz,S1⟩
 replace S:=S.add S1 fun _ _ h=>h
 dsimp only[List.cons_append,List.nil_append] at S
 refine exS_i gv.t ⟨rfl,?_⟩
 refine stL_S S 0 rfl rfl (mkS_one rfl) fun h3 _ S=> ?_
 dsimp only[List.set] at S
 refine ldAg_S S 0 rfl (x:=gv.t) rfl ?_
 exact⟨gv,rfl,ok,mg,sz,noR (S.pw [1,2])⟩
theorem Made21_S (hx:Row h p (ints L)) (hL:L.length=l) (hlc:l≤c) (hl:l<2 ^ 62) (more:Int):callP P n_ref21_Made #[.slice p l c,.int .i64 more] h (Made21P h):=by
 refine call_ref21_Made _ _ _ _ ?_
 unfold ref21_Made
 have S:=(Sep.start h no).read (row p (ints L)) hx
 refine newI_S (cs:=mkS' grSh (zT grSh)) S fun b1 h1 _ S=> ?_
 dsimp only[List.nil_append] at S
 refine(Made16_S (S.row 0 rfl) hL hlc hl).mono ?_
 rintro _ h2 ⟨bs,rfl,ok,mg,sz,S1⟩
 replace S:=noR (S.add S1 fun _ _ h=>h)
 dsimp only[List.cons_append,List.nil_append] at S
 refine exS_i bs.t ⟨rfl,?_⟩
 refine newI_S (cs:=mkS' grSh (zT grSh)) S fun b6 h7 _ S=> ?_
 dsimp only[List.cons_append,List.nil_append] at S
 refine stL_S S 3 rfl rfl (mkS_one rfl) fun h8 _ S=> ?_
 dsimp only[List.set] at S
 refine newI_S (cs:=[]) S fun b9 h10 _ S=> ?_
 dsimp only[List.cons_append,List.nil_append] at S
 refine ldSlice_i (p:=bs.p) (l:=bs.l) (c:=bs.c) (S.cell 3 rfl rfl) ?_
 replace S:=S.toOwn 4 15 0 0 rfl (Nat.le_refl _)
 dsimp only[List.set,List.take] at S
 have hbl:bs.gr.nodes.length=bs.l:=by rw[←ok.1];simp[Gv.gr]
 have hlen:=mg.len
 rw[hbl] at hlen
 have brow:=(S.own 1 rfl).row
 refine appI_S S 4 (ys:=nflat bs.ns) rfl rfl (by decide) (by omega) brow (by rw[nflat_length,ok.1]) nflat_one fun p12 l12 c12 h13 hl12 S=> ?_
 dsimp only[List.set,List.nil_append] at S
 rw[Nat.zero_add] at hl12
 subst hl12
 refine stI_S S 3 rfl (Nat.le_of_ble_eq_true rfl) fun h14 _ S=> ?_
 dsimp only[List.set] at S
 obtain⟨B,eB,hB⟩: ∃B:Nat,andI .i64 (shrI more 1) 3=(B:Int)∧B≤3:=by
  have:=andI_low (shrI more 1) 3 2 (by decide) (by decide)
  have e:((3:Nat):Int)=3:=rfl
  rw[e] at this
  exact⟨(andI .i64 (shrI more 1) 3).toNat,by omega,by omega⟩
 have S0:Sep h no h14 [blk b1 (mkS' grSh (zT grSh)),blk b6 ({bs with p:=p12,c:=c12}:Gv).cells,own 15 p12 bs.l c12 (nflat bs.ns),nrows bs.ns] []:=S.pw [0,3,4,2]
 have hcc:=(S0.own 2 rfl).2.1
 clear S S1 brow
 refine LoopS_i (fun mm s g=> ∃(i:Nat) (cur:Gv),s=(more,⟨b1,0,none⟩,⟨b6,0,none⟩,(i:Int),())∧i≤B∧mm=B-i∧cur.ok∧cur.l=bs.l+i∧More bs.gr i cur.gr∧(∀n∈cur.ns,n.inn.l≤2 ^ 20∧n.weights.l≤2 ^ 20∧n.bias.l≤2 ^ 20)∧
  Sep h no g [blk b1 (mkS' grSh (zT grSh)),blk b6 cur.cells,own 15 cur.p cur.l cur.c (nflat cur.ns),nrows cur.ns] []) B
  ⟨0,{bs with p:=p12,c:=c12},rfl,by omega,rfl,⟨ok.1,hcc,ok.2.2⟩,rfl,.base,sz,S0⟩ ?_
 clear S0 hcc
 rintro mm s g ⟨i,cur,rfl,hi,rfl,cok,cl,cm,csz,S⟩
 unfold ref21_Made_l4
 rw[eB]
 simp only[add_mk,Nat.zero_add]
 have hcn:cur.gr.nodes.length=cur.l:=by rw[←cok.1];simp[Gv.gr]
 have okN: ∀{b:Nat} {n:Nv},n.inn=⟨some ⟨b,0,none⟩,1,1,[cur.out]⟩→n.weights=Sl.nil→n.bias=Sl.nil→n.ok∧(n.inn.l≤2 ^ 20∧n.weights.l≤2 ^ 20∧n.bias.l≤2 ^ 20):=fun{b n} h1 h2 h3=>by
  refine⟨⟨?_,?_,?_⟩,?_,?_,?_⟩
  ·rw[h1];exact⟨rfl,Nat.le_refl _⟩
  ·rw[h2];exact⟨rfl,Nat.le_refl _⟩
  ·rw[h3];exact⟨rfl,Nat.le_refl _⟩
  ·rw[h1];show 1≤2 ^ 20;decide
  ·rw[h2];decide
  ·rw[h3];decide
 have catP: ∀{n:Nv},(n.ok∧(n.inn.l≤2 ^ 20∧n.weights.l≤2 ^ 20∧n.bias.l≤2 ^ 20))→(∀m∈cur.ns++[n],m.ok)∧ ∀m∈cur.ns++[n],m.inn.l≤2 ^ 20∧m.weights.l≤2 ^ 20∧m.bias.l≤2 ^ 20:=fun{n} hn=>by
  constructor
  ·intro m hm
   rcases List.mem_append.1 hm with hm|hm
   ·exact cok.2.2 m hm
   ·simp only[List.mem_singleton] at hm;subst hm;exact hn.1
  ·intro m hm
   rcases List.mem_append.1 hm with hm|hm
   ·exact csz m hm
   ·simp only[List.mem_singleton] at hm;subst hm;exact hn.2
 have cat1: ∀n:Nv,nflat cur.ns++n.cells=nflat (cur.ns++[n]):=fun n=>by rw[nflat_append,show nflat [n]=n.cells by simp[nflat]]
 refine ifB_dec (fun hlt=> ?_) (fun hge=> ?_)
 ·have ei:IntKind.wrap .i64 ((i:Int)+1)=((i+1:Nat):Int):=by rw[wrap64_in (by omega)];rfl
  rw[ei]
  refine ldInt_i (n:=cur.out) (S.cell 1 rfl rfl) ?_
  refine newI_S (cs:=[.int .i64 cur.out]) S fun b17 g2 _ S=> ?_
  dsimp only[List.cons_append,List.nil_append] at S
  refine newI_S (cs:=mkS' ndSh (zT ndSh)) S fun b19 g3 _ S=> ?_
  dsimp only[List.cons_append,List.nil_append] at S
  obtain⟨nc,enc⟩: ∃nc:Nv,nc=⟨9,⟨some ⟨b17,0,none⟩,1,1,[cur.out]⟩,0,0,0,0,0,0,Sl.nil,Sl.nil,0,0,-90,700,0⟩:=⟨_,rfl⟩
  refine stL_S S 5 rfl rfl (mkS_one (l:=ndSh) (x:=(⟨9,⟨some ⟨b17,0,none⟩,1,1,[cur.out]⟩,0,0,0,0,0,0,Sl.nil,Sl.nil,0,0,-90,700,0⟩:Nv).t) rfl) fun g4 _ S=> ?_
  dsimp only[List.set] at S
  refine⟨by rw[wrap_u64];omega,?_⟩
  refine ifB_known (fun _=> ?_) (fun _=> ?_)
  ·refine ldInt_i (n:=cur.out) (S.cell 1 rfl rfl) ?_
   refine newI_S (cs:=[.int .i64 cur.out]) S fun b23 g5 _ S=> ?_
   dsimp only[List.cons_append,List.nil_append] at S
   obtain⟨nn,enn⟩: ∃nn:Nv,nn=⟨10,⟨some ⟨b23,0,none⟩,1,1,[cur.out]⟩,0,0,0,0,0,0,Sl.nil,Sl.nil,21000,14,0,0,0⟩:=⟨_,rfl⟩
   refine stL_S S 5 rfl rfl (mkS_one (l:=ndSh) (x:=(⟨10,⟨some ⟨b23,0,none⟩,1,1,[cur.out]⟩,0,0,0,0,0,0,Sl.nil,Sl.nil,21000,14,0,0,0⟩:Nv).t) rfl) fun g6 _ S=> ?_
   dsimp only[List.set] at S
   refine ldSlice_i (p:=cur.p) (l:=cur.l) (c:=cur.c) (S.cell 1 rfl rfl) ?_
   have en:mkS' ndSh (⟨10,⟨some ⟨b23,0,none⟩,1,1,[cur.out]⟩,0,0,0,0,0,0,Sl.nil,Sl.nil,21000,14,0,0,0⟩:Nv).t=nn.cells:=by rw[enn];rfl
   refine ldAg_S S 5 rfl (x:=nn.t) en ?_
   refine newI_S S fun b28 g7 _ S=> ?_
   dsimp only[List.cons_append,List.nil_append] at S
   refine appI_S S 2 (ys:=nn.cells) rfl rfl (by decide) (by omega) (Row.of_at (S.at 7 rfl)) rfl (mkS_one rfl) fun p2 l2 c2 g8 hl2 S=> ?_
   dsimp only[List.set] at S
   subst hl2
   refine stI_S S 1 rfl (Nat.le_of_ble_eq_true rfl) fun g9 _ S=> ?_
   dsimp only[List.set] at S
   refine ldSlice_i (p:=p2) (l:=cur.l+1) (c:=c2) (S.cell 1 rfl rfl) ?_
   refine stI_S S 1 rfl (Nat.le_of_ble_eq_true rfl) fun g10 _ S=> ?_
   dsimp only[List.set] at S
   have S2:=oneRow_S S 6 (n:=nn) rfl (by rw[enn]) (by rw[enn]) (by rw[enn])
   dsimp only[List.set] at S2
   rw[cat1] at S2
   have S3:Sep h no g10 [blk b1 (mkS' grSh (zT grSh)),blk b6 (⟨cur.width,cur.low,cur.high,p2,cur.l+1,c2,((cur.l+1:Nat):Int),cur.ns++[nn]⟩:Gv).cells,own 15 p2 (cur.l+1) c2 (nflat (cur.ns++[nn])),reads (cur.ns.map Nv.rows),nn.rows] []:=S2.pw [0,1,2,3,6]
   have S4:=S3.joinR [0,1,2] 3 4 rfl rfl
   rw[←nrows_cat] at S4
   have hc2:=(S3.own 2 rfl).2.1
   have kk:=catP (okN (b:=b23) (n:=nn) (by rw[enn]) (by rw[enn]) (by rw[enn]))
   refine⟨B-(i+1),by omega,i+1,⟨cur.width,cur.low,cur.high,p2,cur.l+1,c2,((cur.l+1:Nat):Int),cur.ns++[nn]⟩,rfl,by omega,rfl,⟨by show(cur.ns++[nn]).length=_;rw[List.length_append,cok.1];rfl,hc2,kk.1⟩,by show cur.l+1=_;omega,?_,kk.2,S4⟩
   have e:(⟨cur.width,cur.low,cur.high,p2,cur.l+1,c2,((cur.l+1:Nat):Int),cur.ns++[nn]⟩:Gv).gr=moreG cur.gr (scaleN cur.gr.out):=by
    unfold moreG
    rw[hcn]
    show Gr.mk _ _ _ ((cur.ns++[nn]).map Nv.nd) _=Gr.mk _ _ _ (cur.ns.map Nv.nd++[scaleN cur.out]) _
    rw[List.map_append,enn];rfl
   rw[e]
   exact .step cm (.inr rfl)
  ·refine ldSlice_i (p:=cur.p) (l:=cur.l) (c:=cur.c) (S.cell 1 rfl rfl) ?_
   have en:mkS' ndSh (⟨9,⟨some ⟨b17,0,none⟩,1,1,[cur.out]⟩,0,0,0,0,0,0,Sl.nil,Sl.nil,0,0,-90,700,0⟩:Nv).t=nc.cells:=by rw[enc];rfl
   refine ldAg_S S 5 rfl (x:=nc.t) en ?_
   refine newI_S S fun b28 g7 _ S=> ?_
   dsimp only[List.cons_append,List.nil_append] at S
   refine appI_S S 2 (ys:=nc.cells) rfl rfl (by decide) (by omega) (Row.of_at (S.at 6 rfl)) rfl (mkS_one rfl) fun p2 l2 c2 g8 hl2 S=> ?_
   dsimp only[List.set] at S
   subst hl2
   refine stI_S S 1 rfl (Nat.le_of_ble_eq_true rfl) fun g9 _ S=> ?_
   dsimp only[List.set] at S
   refine ldSlice_i (p:=p2) (l:=cur.l+1) (c:=c2) (S.cell 1 rfl rfl) ?_
   refine stI_S S 1 rfl (Nat.le_of_ble_eq_true rfl) fun g10 _ S=> ?_
   dsimp only[List.set] at S
   have S2:=oneRow_S S 4 (n:=nc) rfl (by rw[enc]) (by rw[enc]) (by rw[enc])
   dsimp only[List.set] at S2
   rw[cat1] at S2
   have S3:Sep h no g10 [blk b1 (mkS' grSh (zT grSh)),blk b6 (⟨cur.width,cur.low,cur.high,p2,cur.l+1,c2,((cur.l+1:Nat):Int),cur.ns++[nc]⟩:Gv).cells,own 15 p2 (cur.l+1) c2 (nflat (cur.ns++[nc])),reads (cur.ns.map Nv.rows),nc.rows] []:=S2.pw [0,1,2,3,4]
   have S4:=S3.joinR [0,1,2] 3 4 rfl rfl
   rw[←nrows_cat] at S4
   have hc2:=(S3.own 2 rfl).2.1
   have kk:=catP (okN (b:=b17) (n:=nc) (by rw[enc]) (by rw[enc]) (by rw[enc]))
   refine⟨B-(i+1),by omega,i+1,⟨cur.width,cur.low,cur.high,p2,cur.l+1,c2,((cur.l+1:Nat):Int),cur.ns++[nc]⟩,rfl,by omega,rfl,⟨by show(cur.ns++[nc]).length=_;rw[List.length_append,cok.1];rfl,hc2,kk.1⟩,by show cur.l+1=_;omega,?_,kk.2,S4⟩
   have e:(⟨cur.width,cur.low,cur.high,p2,cur.l+1,c2,((cur.l+1:Nat):Int),cur.ns++[nc]⟩:Gv).gr=moreG cur.gr (clampN cur.gr.out):=by
    unfold moreG
    rw[hcn]
    show Gr.mk _ _ _ ((cur.ns++[nc]).map Nv.nd) _=Gr.mk _ _ _ (cur.ns.map Nv.nd++[clampN cur.out]) _
    rw[List.map_append,enc];rfl
   rw[e]
   exact .step cm (.inl rfl)
 ·refine ifB_known (fun _=> ?_) (fun _=> ?_)
  ·refine ldSlice_i (p:=cur.p) (l:=cur.l) (c:=cur.c) (S.cell 1 rfl rfl) ?_
   refine ldInt_i (n:=cur.out) (S.cell 1 rfl rfl) ?_
   refine newI_S (cs:=[.int .i64 cur.out]) S fun b46 g2 _ S=> ?_
   dsimp only[List.cons_append,List.nil_append] at S
   obtain⟨nb,enb⟩: ∃nb:Nv,nb=⟨11,⟨some ⟨b46,0,none⟩,1,1,[cur.out]⟩,0,0,0,0,0,0,Sl.nil,Sl.nil,0,0,0,0,0⟩:=⟨_,rfl⟩
   refine newI_S (cs:=(⟨11,⟨some ⟨b46,0,none⟩,1,1,[cur.out]⟩,0,0,0,0,0,0,Sl.nil,Sl.nil,0,0,0,0,0⟩:Nv).cells) S fun b48 g3 _ S=> ?_
   rw[←enb] at S
   dsimp only[List.cons_append,List.nil_append] at S
   refine appI_S S 2 (ys:=nb.cells) rfl rfl (by decide) (by omega) (Row.of_at (S.at 5 rfl)) rfl (mkS_one rfl) fun p2 l2 c2 g8 hl2 S=> ?_
   dsimp only[List.set] at S
   subst hl2
   refine stI_S S 1 rfl (Nat.le_of_ble_eq_true rfl) fun g9 _ S=> ?_
   dsimp only[List.set] at S
   have S2:=oneRow_S S 4 (n:=nb) rfl (by rw[enb]) (by rw[enb]) (by rw[enb])
   dsimp only[List.set] at S2
   rw[cat1] at S2
   have S3:Sep h no g9 [blk b1 (mkS' grSh (zT grSh)),blk b6 (⟨cur.width,cur.low,cur.high,p2,cur.l+1,c2,cur.out,cur.ns++[nb]⟩:Gv).cells,own 15 p2 (cur.l+1) c2 (nflat (cur.ns++[nb])),reads (cur.ns.map Nv.rows),nb.rows] []:=S2.pw [0,1,2,3,4]
   have S4:=S3.joinR [0,1,2] 3 4 rfl rfl
   rw[←nrows_cat] at S4
   have hc2:=(S3.own 2 rfl).2.1
   have kk:=catP (okN (b:=b46) (n:=nb) (by rw[enb]) (by rw[enb]) (by rw[enb]))
   refine ldAg_S S4 1 rfl (x:=(⟨cur.width,cur.low,cur.high,p2,cur.l+1,c2,cur.out,cur.ns++[nb]⟩:Gv).t) rfl ?_
   refine stL_S S4 0 rfl rfl (mkS_one rfl) fun g10 _ S=> ?_
   simp only[Sh.pick,List.getElem?_cons_zero,List.getElem?_cons_succ,List.cons_append,List.nil_append,List.set_cons_zero] at S
   refine ldAg_S S 0 rfl (x:=(⟨cur.width,cur.low,cur.high,p2,cur.l+1,c2,cur.out,cur.ns++[nb]⟩:Gv).t) rfl ?_
   refine⟨⟨cur.width,cur.low,cur.high,p2,cur.l+1,c2,cur.out,cur.ns++[nb]⟩,rfl,⟨by show(cur.ns++[nb]).length=_;rw[List.length_append,cok.1];rfl,hc2,kk.1⟩,⟨bs.gr,i,cur.gr,mg,by omega,cm,.inr ?_⟩,by show cur.l+1≤10;omega,kk.2,S.pw [2,3]⟩
   unfold lastG
   show Gr.mk _ _ _ ((cur.ns++[nb]).map Nv.nd) _=Gr.mk _ _ _ (cur.ns.map Nv.nd++[bestN cur.out]) _
   rw[List.map_append,enb];rfl
  ·refine ldAg_S S 1 rfl (x:=cur.t) rfl ?_
   refine stL_S S 0 rfl rfl (mkS_one rfl) fun g10 _ S=> ?_
   dsimp only[List.set] at S
   refine ldAg_S S 0 rfl (x:=cur.t) rfl ?_
   exact⟨cur,rfl,cok,⟨bs.gr,i,cur.gr,mg,by omega,cm,.inl rfl⟩,by omega,csz,S.pw [2,3]⟩
end
end Go.Proofs.YtdhpmegbmjoekaaGreatDoor.G
