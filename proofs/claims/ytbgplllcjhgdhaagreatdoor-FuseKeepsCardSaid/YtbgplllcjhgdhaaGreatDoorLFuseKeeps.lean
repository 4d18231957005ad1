/- The law FuseKeeps, over heaps. -/
import Derived.Test.YtbgplllcjhgdhaaGreatDoorCLaw21
import Derived.Test.YtbgplllcjhgdhaaGreatDoorCKeep10
import Derived.Test.YtbgplllcjhgdhaaGreatDoorCKeep11
import Derived.Test.YtbgplllcjhgdhaaGreatDoorCKeep13
namespace Go.Proofs.YtbgplllcjhgdhaaGreatDoor.G
open Go Go.Sh
set_option linter.unusedVariables false
set_option linter.unusedSimpArgs false
theorem fact_keep {h h':Heap} (f:Fact) (k:Fra no h h') (hf:f.P h):f.P h':=f.loc hf k.size fun b hb=>k.same b (f.lt hf hb) fun h=>h
theorem fuse_head {g:Gr} (h:g.look.e=0):(fuseG g).width=g.width∧(fuseG g).low=g.low∧(fuseG g).high=g.high:=by
 unfold fuseG
 rw[if_pos h]
 exact⟨rfl,rfl,rfl⟩
theorem FuseKeeps_ok {h:Heap} (hT:KT h) {p:Option Addr} {l c:Nat} {L:List Int} (hx:Row h p (ints L)) (hL:L.length=l) (hlc:l≤c) (hl:l<2 ^ 62) (more:Int) {vp:Option Addr} {vl vc:Nat} {xs:List Int} (hv:Row h vp (ints xs)) (hvl:xs.length=vl) (hvl2:vl<2 ^ 62):
 callP P n_law21_FuseKeeps #[.slice p l c,.int .i64 more,.slice vp vl vc] h fun v h'=>v= .bool true∧Fra no h h':=by
 refine call_law21_FuseKeeps _ _ _ _ _ _ _ ?_
 unfold law21_FuseKeeps
 have S:=(((Sep.start h no).read (row p (ints L)) hx).read (blk 0 (ints kindTab)) hT).read (row vp (ints xs)) hv
 refine(awake21_ok (S.r 1 _ rfl)).mono ?_
 rintro _ h1 ⟨rfl,F⟩
 replace S:=S.fra0 F
 refine⟨_,rfl,?_⟩
 refine(Made21_S (S.row 0 rfl) hL hlc hl more).mono ?_
 rintro _ h2 ⟨gv,rfl,ok,mg,hl10,sz,S1⟩
 replace S:=S.add S1 fun _ _ h=>h
 dsimp only[List.cons_append,List.nil_append] at S
 refine exS_i gv.t ⟨rfl,?_⟩
 obtain⟨W0,R0,pos0,rt0⟩:=mg.right
 have e0:gv.gr.look.e=0:=by rw[rt0.look]
 obtain⟨W,R,rt⟩:=look_right e0
 obtain⟨φ,pos1,rt1,tells⟩:=fuse_tells rt
 have hgn:gv.gr.nodes.length=gv.l:=by rw[←ok.1];simp[Gv.gr]
 have ff:=first_ok rt.first
 have n12:=ff.2.1
 have hs: ∀n∈gv.ns,n.inn.l<2 ^ 40∧n.weights.l<2 ^ 40∧n.bias.l<2 ^ 40:=fun n hn=>by have:=sz n hn;omega
 have inn12: ∀{g:Gv},g.ok→g.gr.look.e=0→ ∀n∈g.ns,n.inn.l≤12:=fun{g} gok ge n hn=>by
  have rk:=(look_inv ge).1
  have h1:=(gok.2.2 n hn).1.1
  obtain⟨i,en⟩:=List.mem_iff_getElem?.1 hn
  have:=(rk i n.nd (by show(g.ns.map Nv.nd)[i]? =_;rw[List.getElem?_map,en];rfl)).1
  have e:n.nd.inn=n.inn.xs:=rfl
  rw[e] at this
  omega
 have hs3: ∀n∈gv.ns,n.inn.l<2 ^ 20∧n.weights.l<2 ^ 40∧n.bias.l<2 ^ 40:=fun n hn=>by have:=sz n hn;have:=inn12 ok e0 n hn;omega
 refine newI_S (cs:=mkS' grSh (zT grSh)) S fun b6 h3 _ S=> ?_
 dsimp only[List.cons_append,List.nil_append] at S
 refine stL_S S 2 rfl rfl (mkS_one rfl) fun h4 _ S=> ?_
 dsimp only[List.set] at S
 refine ldAg_S S 2 rfl (x:=gv.t) rfl ?_
 refine(Fuse_ok sorted_spec ok (S.own 0 rfl).row (S.w 1 _ rfl) (by omega) hs (S.r 1 _ rfl)).mono ?_
 rintro _ h5 ⟨g1,rfl,eg,ok1,S1⟩
 replace S:=S.add S1 fun _ _ h=>h
 dsimp only[List.cons_append,List.nil_append] at S
 refine exS_i g1.t ⟨rfl,?_⟩
 obtain⟨hd1,hd2,hd3⟩:=fuse_head e0
 rw[←eg] at rt1 tells hd1 hd2 hd3
 have e1:g1.gr.look.e=0:=by rw[rt1.look]
 have hgn1:g1.gr.nodes.length=g1.l:=by rw[←ok1.1];simp[Gv.gr]
 have n121:=(first_ok rt1.first).2.1
 have hB: ∀n∈gv.gr.nodes,n.inn.length<2 ^ 40∧n.weights.length<2 ^ 40∧n.bias.length<2 ^ 40:=fun n hn=>by
  obtain⟨m,hm,rfl⟩:=List.mem_map.1 hn
  have:=hs m hm
  have ok:=ok.2.2 m hm
  have q1:m.nd.inn.length=m.inn.l:=ok.1.1
  have q2:m.nd.weights.length=m.weights.l:=ok.2.1.1
  have q3:m.nd.bias.length=m.bias.l:=ok.2.2.1
  omega
 have sm:=kin_small hB ok1 eg
 have sm2: ∀n∈g1.ns,n.inn.l<2 ^ 40∧n.weights.l<2 ^ 62∧n.bias.l<2 ^ 62:=fun n hn=>by have:=sm n hn;omega
 have sm3: ∀n∈g1.ns,n.inn.l<2 ^ 20∧n.weights.l<2 ^ 40∧n.bias.l<2 ^ 40:=fun n hn=>by have:=sm n hn;have:=inn12 ok1 e1 n hn;omega
 refine newI_S (cs:=mkS' grSh (zT grSh)) S fun b13 h6 _ S=> ?_
 dsimp only[List.cons_append,List.nil_append] at S
 refine stL_S S 6 rfl rfl (mkS_one rfl) fun h7 _ S=> ?_
 dsimp only[List.set] at S
 refine ldAg_S S 2 rfl (x:=gv.t) rfl ?_
 obtain⟨m,em,hm⟩: ∃m:Nat,IntKind.wrap .i64 (12+andI .i64 (shrI more 8) 7)=(m:Int)∧m≤19:=by
  have h7:andI .i64 (shrI more 8) 7=shrI more 8 % 8:=andI_low (shrI more 8) 7 3 rfl (by decide)
  rw[h7]
  have h1:=Int.emod_nonneg (shrI more 8) (show(8:Int)≠0 by decide)
  have h2:=Int.emod_lt_of_pos (shrI more 8) (show(0:Int)<8 by decide)
  generalize shrI more 8 % 8=y at h1 h2
  rw[wrap64_in (by omega)]
  exact⟨(12+y).toNat,by omega,by omega⟩
 rw[em]
 refine(Made18_ok (h:=h7) ff.2.2.1 ff.2.2.2.1 (by omega) (S.row 2 rfl) hvl hvl2).mono ?_
 rintro _ h8 ⟨f0,rfl,fok,fl,S1⟩
 replace S:=S.add S1 fun _ _ h=>h
 dsimp only[List.cons_append,List.nil_append] at S
 refine⟨_,_,_,rfl,?_⟩
 obtain⟨V,V0,hV⟩:=val_ex rt.ordered f0.fr fun i n l=>nodeF n l (W (n.inn.getD 0 0)).toNat
 obtain⟨C,C0,hC⟩:=val_ex rt.ordered (f0.l:Int) fun i n l=>readyN n l
 obtain⟨V',V'0,V'o,hV'⟩:=tells law_frames V hV
 obtain⟨C',C'0,C'o,hC'⟩:=tells law_ready C hC
 have flen:f0.fr.length=m:=by rw[Fm.len fok,fl]
 have b1: ∀x,0≤x→x≤(gv.l:Int)→(V x).length≤2 ^ 30∧0≤C x∧C x≤((V x).length:Int):=fun x h0 h1=>by
  have:=strm_len rt (W':=W) hV (by rw[C0,V0,flen,fl]) hC _ x rfl h0 (by omega)
  have hp:=posG_le gv.gr.nodes x
  rw[V0,flen] at this
  omega
 have b2: ∀x,0≤x→x≤(g1.l:Int)→(V' x).length≤2 ^ 30∧0≤C' x∧C' x≤((V' x).length:Int):=fun x h0 h1=>by
  have:=strm_len rt1 (W':=W ∘ φ) hV' (by rw[C'0,V'0,C0,V0,flen,fl]) hC' _ x rfl h0 (by omega)
  have hp:=posG_le g1.gr.nodes x
  rw[V'0,V0,flen] at this
  omega
 have ok2:okF g1.gr f0.fr↔okF gv.gr f0.fr:=by unfold okF;rw[hd1,hd2,hd3]
 have ev:evalF gv.gr f0.fr V=evalF g1.gr f0.fr V':=by
  unfold evalF
  by_cases hf:okF gv.gr f0.fr
  ·rw[if_pos hf,if_pos (ok2.2 hf),V'o]
  ·rw[if_neg hf,if_neg (fun h=>hf (ok2.1 h))]
 refine ldAg_S S 6 rfl (x:=g1.t) rfl ?_
 refine(Look16_ok ok1 (S.own 3 rfl).row (nrowsO (S.w 4 _ rfl) (S.w 5 _ rfl)) (by omega) sm2).mono ?_
 rintro _ h9 ⟨o2,w2,r2,rfl,ho2,hw2,hr2,ook2,wok2,rok2,S1⟩
 rw[e1]
 replace S:=S.fra0 S1.fra
 refine⟨_,_,_,_,_,_,_,_,_,_,rfl,ifB_false rfl ?_⟩
 refine ldAg_S S 2 rfl (x:=gv.t) rfl (ldAg_S S 6 rfl (x:=g1.t) rfl ?_)
 refine(Eval18_ok (h:=h9) ok (S.own 0 rfl).row (S.w 1 _ rfl) hs3 rt fok (S.w 7 _ rfl) (by omega) V0 hV (fun x h0 h1=>(b1 x h0 h1).1)).mono ?_
 rintro _ h10 ⟨fa,rfl,aok,afr,F10,fa10⟩
 replace S:=S.fra0 F10
 refine⟨_,_,_,rfl,holdW_S S 6 rfl rfl ?_⟩
 refine(Eval18_ok (h:=h10) ok1 (S.own 3 rfl).row (nrowsO (S.w 4 _ rfl) (S.w 5 _ rfl)) sm3 rt1 fok (S.w 7 _ rfl) (by omega) (V'0.trans V0) hV' (fun x h0 h1=>(b2 x h0 h1).1)).mono ?_
 rintro _ h11 ⟨fb,rfl,bok,bfr,F11,fb11⟩
 replace S:=S.fra0 F11
 refine⟨_,_,_,rfl,holdW_S S 2 rfl rfl ?_⟩
 have alen:fa.l<2 ^ 40:=by
  rw[←Fm.len aok,afr]
  unfold evalF
  split
  ·have:=(b1 gv.out (by have:=ff.2.2.2.2.1;have h2:1≤gv.out:=this.1;omega) (by have:=ff.2.2.2.2.1;have h2:gv.out≤(gv.gr.nodes.length:Int):=this.2;omega)).1
   show(V gv.out).length<_
   omega
  ·decide
 refine(Same18_ok (h:=h11) aok bok (fact_keep fa.fact F11 fa10) fb11 alen (by rw[afr,bfr];exact ev)).mono ?_
 rintro _ h12 ⟨rfl,hh⟩
 subst hh
 refine⟨_,rfl,holdW_S S 6 rfl rfl (holdW_S S 2 rfl rfl ?_)⟩
 refine ldAg_S S 2 rfl (x:=gv.t) rfl (ldAg_S S 6 rfl (x:=g1.t) rfl ?_)
 refine(Ready18_ok (C:=C) ok (S.own 0 rfl).row (S.w 1 _ rfl) hs3 rt fok (S.w 7 _ rfl) (by omega) V0 hV (fun x h0 h1=>(b1 x h0 h1).1) C0 hC (fun x h0 h1=>(b1 x h0 h1).2)).mono ?_
 rintro _ h13 ⟨fc,rfl,cok,cfr,F13,fc13⟩
 replace S:=S.fra0 F13
 refine⟨_,_,_,rfl,holdW_S S 6 rfl rfl ?_⟩
 refine(Ready18_ok (C:=C') (h:=h13) ok1 (S.own 3 rfl).row (nrowsO (S.w 4 _ rfl) (S.w 5 _ rfl)) sm3 rt1 fok (S.w 7 _ rfl) (by omega) (V'0.trans V0) hV' (fun x h0 h1=>(b2 x h0 h1).1) (C'0.trans C0) hC' (fun x h0 h1=>(b2 x h0 h1).2)).mono ?_
 rintro _ h14 ⟨fd,rfl,dok,dfr,F14,fd14⟩
 replace S:=S.fra0 F14
 refine⟨_,_,_,rfl,holdW_S S 2 rfl rfl ?_⟩
 have clen:fc.l<2 ^ 40:=by
  have h1:=Fm.len cok
  have h2:=Fm.len aok
  rw[cfr,List.length_take,←afr,h2] at h1
  omega
 refine(Same18_ok (h:=h14) cok dok (fact_keep fc.fact F14 fc13) fd14 clen (by
  rw[cfr,dfr,ev]
  have:C' g1.gr.out=C gv.gr.out:=C'o
  show List.take (C gv.gr.out).toNat _=List.take (C' g1.gr.out).toNat _
  rw[this])).mono ?_
 rintro _ h15 ⟨rfl,hh⟩
 subst hh
 exact⟨_,rfl,holdW_S S 6 rfl rfl (holdW_S S 2 rfl rfl (ifB_true rfl (ifB_true rfl ⟨rfl,S.fra⟩)))⟩
end Go.Proofs.YtbgplllcjhgdhaaGreatDoor.G
