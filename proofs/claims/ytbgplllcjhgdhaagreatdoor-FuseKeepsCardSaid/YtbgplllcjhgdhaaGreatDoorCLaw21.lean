/- Contracts: chapter 21's law about rows: awake; FuseRow. -/
import Derived.Test.YtbgplllcjhgdhaaGreatDoorCRow
import Derived.Test.YtbgplllcjhgdhaaGreatDoorCSorted
import Derived.Test.YtbgplllcjhgdhaaGreatDoorCRef16c
namespace Go.Proofs.YtbgplllcjhgdhaaGreatDoor.G
open Go Go.Sh
set_option linter.unusedVariables false
set_option linter.unusedSimpArgs false
theorem kin_small {g:Gr} {B:Nat} (hB: ∀n∈g.nodes,n.inn.length<B∧n.weights.length<B∧n.bias.length<B) {gv:Gv} (hok:gv.ok) (e:gv.gr=fuseG g): ∀n∈gv.ns,n.inn.l<B∧n.weights.l<B∧n.bias.l<B:=fun n hn=>by
 have hm:n.nd∈(fuseG g).nodes:=by rw[←e];exact List.mem_map_of_mem hn
 obtain⟨m,hm,h1,h2,h3,_⟩:=fuseG_kin g _ hm
 have:=hB m hm
 have ok:=hok.2.2 n hn
 have e1:n.nd.inn.length=n.inn.l:=ok.1.1
 have e2:n.nd.weights.length=n.weights.l:=ok.2.1.1
 have e3:n.nd.bias.length=n.bias.l:=ok.2.2.1
 rw[h1] at e2;rw[h2] at e3
 omega
def awG:Gr:=⟨1,0,9,[{nd0 with kind:=11,inn:=[0]},{nd0 with kind:=6,inn:=[0],width:=1,weights:=[1],bias:=[0]},{nd0 with kind:=10,inn:=[2],mult:=3},{nd0 with kind:=9,inn:=[3],high:=5}],4⟩
theorem awG_fused:(fuseG awG).nodes.map (fun n=>(n.post,n.mult,n.high))=[(3,3,5)]∧(fuseG awG).out=1:=by
 constructor<;>decide+kernel
section
variable {h:Heap}
theorem awake21_ok (hT:KT h):callP P n_law21_awake #[] h fun v h'=>v= .bool true∧Fra no h h':=by
 refine call_law21_awake ?_
 unfold law21_awake
 have S:=(Sep.start h no).read (blk 0 (ints kindTab)) hT
 refine newI_S (cs:=[.int .i64 0]) S fun b1 h1 _ S=> ?_
 dsimp only[List.cons_append,List.nil_append] at S
 refine newI_S (cs:=[.int .i64 1]) S fun b3 h2 _ S=> ?_
 dsimp only[List.cons_append,List.nil_append] at S
 refine newI_S (cs:=[.int .i64 0]) S fun b5 h3 _ S=> ?_
 dsimp only[List.cons_append,List.nil_append] at S
 refine newI_S (cs:=mkS' ndSh (zT ndSh)) S fun b7 h4 _ S=> ?_
 dsimp only[List.cons_append,List.nil_append] at S
 refine stL_S S 3 rfl rfl (mkS_one (l:=ndSh) (x:=((⟨6,⟨some ⟨b1,0,none⟩,1,1,[0]⟩,1,0,0,0,0,0,⟨some ⟨b3,0,none⟩,1,1,[1]⟩,⟨some ⟨b5,0,none⟩,1,1,[0]⟩,0,0,0,0,0⟩:Nv)).t) rfl) fun h5 _ S=> ?_
 dsimp only[List.set] at S
 refine newI_S (cs:=[.int .i64 0]) S fun b10 h6 _ S=> ?_
 dsimp only[List.cons_append,List.nil_append] at S
 refine ldAg_S S 3 rfl (x:=((⟨6,⟨some ⟨b1,0,none⟩,1,1,[0]⟩,1,0,0,0,0,0,⟨some ⟨b3,0,none⟩,1,1,[1]⟩,⟨some ⟨b5,0,none⟩,1,1,[0]⟩,0,0,0,0,0⟩:Nv)).t) rfl ?_
 refine newI_S (cs:=[.int .i64 2]) S fun b13 h7 _ S=> ?_
 dsimp only[List.cons_append,List.nil_append] at S
 refine newI_S (cs:=[.int .i64 3]) S fun b15 h8 _ S=> ?_
 dsimp only[List.cons_append,List.nil_append] at S
 obtain⟨ns,ens⟩: ∃ns:List Nv,ns=[⟨11,⟨some ⟨b10,0,none⟩,1,1,[0]⟩,0,0,0,0,0,0,Sl.nil,Sl.nil,0,0,0,0,0⟩,⟨6,⟨some ⟨b1,0,none⟩,1,1,[0]⟩,1,0,0,0,0,0,⟨some ⟨b3,0,none⟩,1,1,[1]⟩,⟨some ⟨b5,0,none⟩,1,1,[0]⟩,0,0,0,0,0⟩,
  ⟨10,⟨some ⟨b13,0,none⟩,1,1,[2]⟩,0,0,0,0,0,0,Sl.nil,Sl.nil,3,0,0,0,0⟩,⟨9,⟨some ⟨b15,0,none⟩,1,1,[3]⟩,0,0,0,0,0,0,Sl.nil,Sl.nil,0,0,0,5,0⟩]:=⟨_,rfl⟩
 refine newI_S S fun b17 h9 _ S=> ?_
 dsimp only[List.cons_append,List.nil_append] at S
 have S2:=S.pw [0,1,2,4,5,6,7]
 have S:Sep h no h9 [blk b1 (ints [0]),blk b3 (ints [1]),blk b5 (ints [0]),blk b10 (ints [0]),blk b13 (ints [2]),blk b15 (ints [3]),blk b17 (nflat ns)] [blk 0 (ints kindTab)]:=by rw[ens];exact S2
 clear S2
 refine newI_S (cs:=mkS' grSh (zT grSh)) S fun b19 h10 _ S=> ?_
 dsimp only[List.cons_append,List.nil_append] at S
 obtain⟨gv,egv⟩: ∃gv:Gv,gv=⟨1,0,9,some ⟨b17,0,none⟩,4,4,4,ns⟩:=⟨_,rfl⟩
 refine stL_S S 7 rfl rfl (mkS_one (l:=grSh) (x:=(⟨1,0,9,some ⟨b17,0,none⟩,4,4,4,ns⟩:Gv).t) rfl) fun h11 _ S=> ?_
 dsimp only[List.set] at S
 refine ldAg_S S 7 rfl (x:=(⟨1,0,9,some ⟨b17,0,none⟩,4,4,4,ns⟩:Gv).t) rfl ?_
 have hrow:Row h11 gv.p (nflat gv.ns):=by rw[egv];exact Row.of_at (S.at 6 rfl)
 have hgr:gv.gr=awG:=by rw[egv,ens];rfl
 have hok:gv.ok:=by
  rw[egv]
  refine⟨by rw[ens];rfl,Nat.le_refl _,fun n hn=> ?_⟩
  have hn:n∈ns:=hn
  rw[ens] at hn
  simp only[List.mem_cons,List.not_mem_nil,or_false] at hn
  rcases hn with rfl|rfl|rfl|rfl<;>exact⟨⟨rfl,Nat.le_refl _⟩,⟨rfl,Nat.le_refl _⟩,⟨rfl,Nat.le_refl _⟩⟩
 have hsz: ∀n∈gv.ns,n.inn.l<2 ^ 40∧n.weights.l<2 ^ 40∧n.bias.l<2 ^ 40:=fun n hn=>by
  rw[egv] at hn
  have hn:n∈ns:=hn
  rw[ens] at hn
  simp only[List.mem_cons,List.not_mem_nil,or_false] at hn
  rcases hn with rfl|rfl|rfl|rfl<;>exact⟨Nat.le_of_ble_eq_true rfl,Nat.le_of_ble_eq_true rfl,Nat.le_of_ble_eq_true rfl⟩
 have hnr:(nrows gv.ns).P h11:=by
  intro f hf
  obtain⟨n,hn,rfl⟩:=List.mem_map.1 hf
  rw[egv] at hn
  have hn:n∈ns:=hn
  rw[ens] at hn
  simp only[List.mem_cons,List.not_mem_nil,or_false] at hn
  intro f hf
  simp only[List.mem_cons,List.not_mem_nil,or_false] at hf
  rcases hn with rfl|rfl|rfl|rfl<;>rcases hf with rfl|rfl|rfl<;>first|exact Row.nil _ _|exact Row.of_at (S.at 0 rfl)|exact Row.of_at (S.at 1 rfl)|exact Row.of_at (S.at 2 rfl)|exact Row.of_at (S.at 3 rfl)|exact Row.of_at (S.at 4 rfl)|exact Row.of_at (S.at 5 rfl)
 have F:=Fuse_ok sorted_spec hok hrow hnr (by rw[egv];show(4:Nat)<2 ^ 20;decide) hsz (S.r 0 _ rfl)
 rw[egv] at F
 refine callP.mono F ?_
 rintro _ h12 ⟨g2,rfl,egr,ok2,S1⟩
 rw[←egv,hgr] at egr
 replace S:=S.add S1 fun _ _ h=>h
 dsimp only[List.cons_append,List.nil_append] at S
 refine exS_i g2.t ⟨rfl,?_⟩
 refine newI_S (cs:=mkS' grSh (zT grSh)) S fun b26 h13 _ S=> ?_
 dsimp only[List.cons_append,List.nil_append] at S
 refine stL_S S 11 rfl rfl (mkS_one rfl) fun h14 _ S=> ?_
 dsimp only[List.set] at S
 obtain⟨aw1,aw2⟩:=awG_fused
 rw[←egr] at aw1 aw2
 have en:g2.ns.map (fun n=>(n.post,n.mult,n.high))=[(3,3,5)]:=by
  have:g2.gr.nodes.map (fun n=>(n.post,n.mult,n.high))=g2.ns.map (fun n=>(n.post,n.mult,n.high)):=by
   show(g2.ns.map Nv.nd).map _=_
   rw[List.map_map];rfl
  rw[←this];exact aw1
 have hl1:g2.ns.length=1:=by have:=congrArg List.length en;simpa using this
 obtain⟨n0,hn0⟩:=List.length_eq_one_iff.1 hl1
 rw[hn0] at en
 simp only[List.map_cons,List.map_nil,List.cons.injEq,Prod.mk.injEq,and_true] at en
 have hg1:g2.l=1:=by rw[←ok2.1];exact hl1
 have e0:g2.ns[0]? =some n0:=by rw[hn0];rfl
 obtain⟨a,ea⟩:=(S.own 8 rfl).row.some_of (by rw[nflat_length];omega)
 have hr2:Row h14 (some a) (nflat g2.ns):=by rw[←ea];exact(S.own 8 rfl).row
 have ld: ∀{j:Nat} {v:Value},j<15→j≠0→n0.cells[j]? =some v→cellH h14 ((a.add (0*15)).add j)=some v:=fun hj hj0 hv=>by
  have:=hr2.cell (i:=0*15+_) (by rw[nflat_at e0 hj];exact hv)
  rw[add_add _ _ hj0];exact this
 have ew: ∀c:Nat,IntKind.wrap .i64 (c:Int)=(c:Int)∨True:=fun _=> .inr trivial
 refine ldSlice_i (p:=g2.p) (l:=g2.l) (c:=g2.c) (S.cell 11 rfl rfl) ?_
 refine ifB_beq (fun _=> ?_) (fun h=>absurd (by omega) h)
 refine ldInt_i (n:=g2.out) (S.cell 11 rfl rfl) (ifB_beq (fun _=> ?_) (fun h=>absurd aw2 h))
 refine ldSlice_i (p:=g2.p) (l:=g2.l) (c:=g2.c) (S.cell 11 rfl rfl) (idxI_i ea (k:=0) rfl (by omega) ?_)
 simp only[Int.toNat_zero]
 refine ldInt_i (n:=n0.post) (ld (by decide) (by decide) rfl) (ifB_beq (fun _=> ?_) (fun h=>absurd en.1 h))
 refine ldSlice_i (p:=g2.p) (l:=g2.l) (c:=g2.c) (S.cell 11 rfl rfl) (idxI_i ea (k:=0) rfl (by omega) ?_)
 try simp only[Int.toNat_zero]
 refine ldInt_i (n:=n0.mult) (ld (by decide) (by decide) rfl) (ifB_beq (fun _=> ?_) (fun h=>absurd en.2.1 h))
 refine ldSlice_i (p:=g2.p) (l:=g2.l) (c:=g2.c) (S.cell 11 rfl rfl) (idxI_i ea (k:=0) rfl (by omega) ?_)
 try simp only[Int.toNat_zero]
 refine ldInt_i (n:=n0.high) (ld (by decide) (by decide) rfl) ⟨?_,S.fra⟩
 rw[en.2.2];rfl
end
end Go.Proofs.YtbgplllcjhgdhaaGreatDoor.G
