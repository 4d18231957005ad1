/- Frames of frames (earshotref18): all frames of a node. -/
import Derived.Test.YtbgplllcjhgdhaaGreatDoorCKeep6
namespace Go.Proofs.YtbgplllcjhgdhaaGreatDoor.G
open Go Go.Sh
set_option linter.unusedVariables false
set_option linter.unusedSimpArgs false
def lensF (fs:List (List (List Int))):List Int:=fs.map fun f=>(f.length:Int)
def pickF (n:Nd) (fs:List (List (List Int))) (w i:Nat):List (List Int):=
 if wins n.kind then(List.range n.size.toNat).map fun j:Nat=>atF (fs.getD 0 []) (firstN n i+(j:Int)*gapN n) w else if n.kind=5 then fs.getD 0 [] else fs.map fun f=>f.getD i []
def nodeF (n:Nd) (fs:List (List (List Int))) (w:Nat):List (List Int):=(List.range (countN n (lensF fs)).toNat).map fun i=>frameF n (pickF n fs w i)
theorem nodeF_length (n:Nd) (fs:List (List (List Int))) (w:Nat):(nodeF n fs w).length=(countN n (lensF fs)).toNat:=by simp[nodeF]
section
variable {h:Heap} {nv:Nv} {ins:List Fm} {p:Option Addr} {l c w b1:Nat} {cq:Option Addr} {cd N:Nat}
def NodeInv (h:Heap) (nv:Nv) (ins:List Fm) (p:Option Addr) (l c w b1:Nat) (cq:Option Addr) (cd N:Nat) (mm:Nat) (s:(Option Addr×Nat×Nat)×Int×Addr×(Option Addr×Nat×Nat)×Bool×(Option Addr×Nat×Nat)×Int×Unit) (g:Heap):Prop:=
 ∃(t:Nat) (q:Option Addr) (d:Nat) (outs:List Sl) (Z:List Fact),s=((p,l,c),(w:Int),⟨b1,0,none⟩,(cq,l,cd),decide (wins nv.kind),(q,t,d),(t:Int),())∧t≤N∧mm=N-t∧
  fsOf outs=(List.range t).map (fun i=>frameF nv.nd (pickF nv.nd (ins.map Fm.fr) w i))∧(∀s∈outs,(s.ok∧s.l<2 ^ 40)∧Cov Z s.row)∧
  Sep h no g [blk b1 nv.cells,own 1 cq l cd (ints (lensF (ins.map Fm.fr))),own 1 q t d (slv outs),reads Z] [row p (fmv ins),reads (ins.map Fm.fact),nv.rows]
theorem NodeInv.next {t:Nat} {outs:List Sl} {Z:List Fact} (ht:t<N) (hN:N≤2 ^ 31) (ho:fsOf outs=(List.range t).map (fun i=>frameF nv.nd (pickF nv.nd (ins.map Fm.fr) w i))) (hok: ∀s∈outs,(s.ok∧s.l<2 ^ 40)∧Cov Z s.row)
 {g:Heap} {q:Option Addr} {d:Nat} {s:Sl} (sok:s.ok) (sl:s.l<2 ^ 40) (sx:s.xs=frameF nv.nd (pickF nv.nd (ins.map Fm.fr) w t))
 (S:Sep h no g [blk b1 nv.cells,own 1 cq l cd (ints (lensF (ins.map Fm.fr))),own 1 q (t+1) d (slv outs++[s.v]),reads (Z++[s.row])] [row p (fmv ins),reads (ins.map Fm.fact),nv.rows]):
 ∃m',m'<N-t∧NodeInv h nv ins p l c w b1 cq cd N m' ((p,l,c),(w:Int),⟨b1,0,none⟩,(cq,l,cd),decide (wins nv.kind),(q,t+1,d),IntKind.wrap .i64 ((t:Int)+1),()) g:=by
 rw[wrap64_in (by omega)]
 refine⟨N-(t+1),by omega,t+1,q,d,outs++[s],Z++[s.row],rfl,by omega,rfl,?_,fun x hx=> ?_,?_⟩
 ·rw[List.range_succ,List.map_append,←ho,List.map_cons,List.map_nil,←sx]
  simp[fsOf]
 ·rcases List.mem_append.1 hx with hx|hx
  ·exact⟨(hok x hx).1,(hok x hx).2.left⟩
  ·simp only[List.mem_singleton] at hx;subst hx
   exact⟨⟨sok,sl⟩,Cov.last⟩
 ·have e:slv (outs++[s])=slv outs++[s.v]:=by simp[slv]
  rw[e];exact S
theorem Node18_ok (hok:nv.ok) (hr:nv.rows.P h) (hli:nv.inn.l<2 ^ 40) (hlw:nv.weights.l<2 ^ 40) (hlb:nv.bias.l<2 ^ 40) {ws:List Int} (hc:nv.nd.chk ws=0) (hp:Row h p (fmv ins)) (hf: ∀f∈ins,f.fact.P h∧f.ok∧f.l≤2 ^ 30) (hl:ins.length=l) (hl1:1≤l) (hl2:l<2 ^ 20) (hw:w<2 ^ 20):
 callP P n_ref18_Node #[nv.v,.slice p l c,.int .i64 (w:Int)] h (FmQ (nodeF nv.nd (ins.map Fm.fr) w) h):=by
 refine call_ref18_Node _ _ _ _ _ ?_
 unfold ref18_Node
 have hfok: ∀f∈ins,f.ok∧f.l≤2 ^ 30:=fun f h=>(hf f h).2
 have S:=(((Sep.start h no).read (row p (fmv ins)) hp).read (reads (ins.map Fm.fact)) (fun x hx=>by obtain⟨f,hm,rfl⟩:=List.mem_map.1 hx;exact(hf f hm).1)).read nv.rows hr
 have hk:nv.nd.kind=nv.kind:=rfl
 have hsz:nv.nd.size=nv.size:=rfl
 have cz:=chk_size hc
 have facts: ∀{g:Heap} {W:List Fact},Sep h no g W [row p (fmv ins),reads (ins.map Fm.fact),nv.rows]→ ∀f∈ins,Frs g f.p f.l f.ss:=fun S f hm=>Fm.frs (hfok f hm).1 (S.r 1 _ rfl f.fact (List.mem_map_of_mem hm))
 have nrow: ∀{g:Heap} {W:List Fact},Sep h no g W [row p (fmv ins),reads (ins.map Fm.fact),nv.rows]→nv.rows.P g:=fun S=>S.r 2 _ rfl
 have base: ∃a,p=some a:=hp.some_of (by rw[fmv_length];omega)
 obtain⟨a,ea⟩:=base
 have ldF: ∀{g:Heap} {W:List Fact},Sep h no g W [row p (fmv ins),reads (ins.map Fm.fact),nv.rows]→ ∀{j:Nat} {f:Fm},ins[j]? =some f→cellH g (a.add j)=some f.v:=fun S j f e=>by
  have:=S.row 0 rfl
  rw[ea] at this
  exact this.cell (fmv_get e)
 have elen:ins.map (fun f=>(f.l:Int))=lensF (ins.map Fm.fr):=by
  unfold lensF
  rw[List.map_map]
  exact List.map_congr_left fun f hm=>by show(f.l:Int)=(f.fr.length:Int);rw[Fm.len (hfok f hm).1]
 have hlens: ∀x∈lensF (ins.map Fm.fr),0≤x∧x≤2 ^ 30:=fun x hx=>by
  rw[←elen] at hx
  obtain⟨f,hm,rfl⟩:=List.mem_map.1 hx
  have:=(hfok f hm).2
  omega
 have hll:(lensF (ins.map Fm.fr)).length=l:=by rw[←elen,List.length_map];exact hl
 refine newI_S (cs:=nv.cells) S fun b1 h1 _ S=> ?_
 dsimp only[List.nil_append,List.cons_append] at S
 replace S:=S.nil 1
 dsimp only[List.nil_append,List.cons_append] at S
 refine LoopS_i (fun mm s g=> ∃(t:Nat) (q:Option Addr) (d:Nat),s=((p,l,c),(w:Int),⟨b1,0,none⟩,(q,t,d),(t:Int),())∧t≤l∧mm=l-t∧
  Sep h no g [blk b1 nv.cells,own 1 q t d (ints ((ins.take t).map fun f=>(f.l:Int)))] [row p (fmv ins),reads (ins.map Fm.fact),nv.rows]) l ⟨0,none,0,rfl,by omega,rfl,S⟩ ?_
 clear S
 rintro mm s g ⟨t,q,d,rfl,ht,rfl,S⟩
 unfold ref18_Node_l3
 dsimp only
 refine ifB_dec (fun hlt=> ?_) (fun hge=> ?_)
 ·obtain⟨f,ef⟩: ∃f,ins[t]? =some f:=⟨_,List.getElem?_eq_getElem (by omega)⟩
  refine idxI_i ea rfl (by omega) ?_
  simp only[Int.toNat_natCast,Nat.mul_one]
  refine ldSlice_i (p:=f.p) (l:=f.l) (c:=f.c) (ldF S ef) ?_
  refine newI_S (cs:=[.int .i64 ((f.l:Nat):Int)]) S fun b6 g2 _ S=> ?_
  dsimp only[List.cons_append,List.nil_append] at S
  refine appI_S S 1 (ys:=ints [(f.l:Int)]) rfl rfl (by decide) (by omega) (Row.of_at (S.at 2 rfl)) rfl vals_one fun p2 l2 c2 g3 hl2 S=> ?_
  subst hl2
  dsimp only[List.set] at S
  have e:ints ((ins.take t).map fun f=>(f.l:Int))++ints [(f.l:Int)]=ints ((ins.take (t+1)).map fun f=>(f.l:Int)):=by
   have h1:ins[t]=f:=by rw[List.getElem?_eq_getElem (by omega)] at ef;exact Option.some.inj ef
   rw[List.take_succ_eq_append_getElem (by omega),h1]
   simp only[ints,List.map_append,List.map_cons,List.map_nil]
  rw[e] at S
  rw[wrap64_in (by omega)]
  exact⟨l-(t+1),by omega,t+1,p2,c2,rfl,by omega,rfl,S.pw [0,1]⟩
 have htl:t=l:=by omega
 subst htl
 rw[List.take_of_length_le (by omega),elen] at S
 refine ldInt_i (n:=nv.kind) (S.cell 0 rfl rfl) ?_
 refine(Windows14_ok nv.kind).mono ?_
 rintro _ g2 ⟨rfl,hg2⟩
 subst hg2
 refine⟨_,rfl,?_⟩
 have hcr:=(count_range hc (B:=2 ^ 30) (by decide) hlens).2
 obtain⟨N,eN⟩: ∃N:Nat,countN nv.nd (lensF (ins.map Fm.fr))=(N:Int):=⟨(countN nv.nd (lensF (ins.map Fm.fr))).toNat,by omega⟩
 have hN:N≤2 ^ 31:=by omega
 have eF:nodeF nv.nd (ins.map Fm.fr) w=(List.range N).map fun i=>frameF nv.nd (pickF nv.nd (ins.map Fm.fr) w i):=by unfold nodeF;rw[eN,Int.toNat_natCast]
 have S3:=(S.nil 1).reads0
 dsimp only[List.nil_append,List.cons_append] at S3
 refine LoopS_i (NodeInv h nv ins p t c w b1 q d N) N ⟨0,none,0,[],[],rfl,by omega,rfl,rfl,by simp,S3⟩ ?_
 clear S S3
 rename_i l'
 rintro mm s g ⟨i,oq,od,outs,Z,rfl,hi,rfl,ho,hout,S⟩
 unfold ref18_Node_l9
 dsimp only
 refine ldAg_S S 0 rfl (x:=nv.t) rfl ?_
 refine(Count14_ok hc (S.own 1 rfl).row hll (by omega) fun x hx=>by have:=hlens x hx;omega).mono ?_
 rintro _ g3 ⟨rfl,F⟩
 replace S:=S.fra0 F
 rw[eN]
 refine⟨_,rfl,ifB_dec (fun hlt=> ?_) (fun hge=> ?_)⟩
 case refine_2=>
  have:i=N:=by omega
  subst this
  rw[eF,←ho]
  exact FmQ.of (noR (S.pw [2,3])) hout
 have hiN:i<N:=by omega
 obtain⟨f0,ef0⟩: ∃f,ins[0]? =some f:=⟨_,List.getElem?_eq_getElem (by omega)⟩
 have m0:=List.mem_of_getElem? ef0
 have eg0:(ins.map Fm.fr).getD 0 []=f0.fr:=by rw[List.getD_eq_getElem?_getD,List.getElem?_map,ef0];rfl
 have f0l:=(hfok f0 m0).2
 refine ifB_dec (fun hwin=> ?_) (fun hwin=> ?_)
 ·
  have hs1:=(chk_ok hc).2.2.2.2.2.2.2.2.2.1.1 hwin
  obtain⟨Z0,eZ⟩: ∃Z:Nat,nv.size=(Z:Int):=⟨nv.size.toNat,by have:1≤nv.size:=hs1.1;omega⟩
  have hZ0:Z0≤8:=by have:nv.size≤8:=hs1.2;omega
  have eP:pickF nv.nd (ins.map Fm.fr) w i=(List.range Z0).map fun j:Nat=>atF f0.fr (firstN nv.nd i+(j:Int)*gapN nv.nd) w:=by
   unfold pickF
   rw[hk,if_pos hwin,eg0,hsz,eZ,Int.toNat_natCast]
  replace S:=(S.nil 1).reads0
  dsimp only[List.nil_append,List.cons_append] at S
  refine LoopS_i (fun mm s g=> ∃(u:Nat) (pl:Option Addr) (dl:Nat) (ls:List Sl) (Y:List Fact),s=((p,t,c),(w:Int),⟨b1,0,none⟩,(q,t,d),decide (wins nv.kind),(oq,i,od),(i:Int),(pl,u,dl),(u:Int),())∧u≤Z0∧mm=Z0-u∧
   fsOf ls=(List.range u).map (fun j:Nat=>atF f0.fr (firstN nv.nd i+(j:Int)*gapN nv.nd) w)∧(∀s∈ls,(s.ok∧s.l<2 ^ 40)∧(s∈f0.ss∨Cov Y s.row))∧
   Sep h no g [blk b1 nv.cells,own 1 q t d (ints (lensF (ins.map Fm.fr))),own 1 oq i od (slv outs),reads Z,own 1 pl u dl (slv ls),reads Y] [row p (fmv ins),reads (ins.map Fm.fact),nv.rows]) Z0 ⟨0,none,0,[],[],rfl,by omega,rfl,rfl,by simp,S⟩ ?_
  clear S
  rintro mm s g ⟨u,pl,dl,ls,Y,rfl,hu,rfl,hls,hlok,S⟩
  unfold ref18_Node_l14
  simp only[add_mk,Nat.zero_add]
  refine ldInt_i (n:=nv.size) (S.cell 0 rfl rfl) ?_
  rw[eZ]
  have ld0: ∀{g:Heap} {W:List Fact},Sep h no g W [row p (fmv ins),reads (ins.map Fm.fact),nv.rows]→cellH g (a.add 0)=some f0.v:=fun S=>ldF S ef0
  refine ifB_dec (fun hlt=> ?_) (fun hge=> ?_)
  ·refine idxI_i ea (k:=0) rfl (by omega) (ldSlice_i (p:=f0.p) (l:=f0.l) (c:=f0.c) (ld0 S) (ldAg_S S 0 rfl (x:=nv.t) rfl (ldAg_S S 0 rfl (x:=nv.t) rfl ?_)))
   refine(First14_ok hc (by omega)).mono ?_
   rintro _ g4 ⟨rfl,F⟩
   replace S:=S.fra0 F
   refine⟨_,rfl,holdW_S S 0 rfl rfl ⟨ld0 S,?_⟩⟩
   refine(gap18_ok nv).mono ?_
   rintro _ g5 ⟨rfl,F⟩
   replace S:=S.fra0 F
   refine⟨_,rfl,holdW_S S 0 rfl rfl ⟨ld0 S,?_⟩⟩
   have hgp:0≤gapN nv.nd∧gapN nv.nd≤4:=by
    have:=cz.2.1
    unfold gapN
    split<;>omega
   have hm:0≤(u:Int)*gapN nv.nd∧(u:Int)*gapN nv.nd≤8*4:=⟨Int.mul_nonneg (by omega) hgp.1,Int.mul_le_mul (by omega) hgp.2 hgp.1 (by omega)⟩
   have hst:=cz.2.2.2.2.2
   have hms:0≤(i:Int)*stepN nv.nd.kind nv.nd.step∧(i:Int)*stepN nv.nd.kind nv.nd.step≤2 ^ 31*4:=⟨Int.mul_nonneg (by omega) (by omega),Int.mul_le_mul (by omega) hst.2 (by omega) (by omega)⟩
   have hfi: -31≤firstN nv.nd i∧firstN nv.nd i≤2 ^ 33:=by
    have:=cz.2.2.1
    unfold firstN
    omega
   rw[wrap64_in (n:=(u:Int)*gapN nv.nd) (by omega),wrap64_in (n:=firstN nv.nd i+_) (by omega)]
   refine(at18_ok (facts S f0 m0) (by omega) _ hw).mono ?_
   rintro _ g6 ⟨s,rfl,sok,sl,sxs,A,S1,hs⟩
   replace S:=S.add S1 fun _ _ h=>h
   dsimp only[List.cons_append,List.nil_append] at S
   refine⟨_,_,_,rfl,holdW_S S 0 rfl rfl (holdW_S S 0 rfl rfl ?_)⟩
   refine push_S S 4 rfl (by decide) (by omega) fun b q' d' g7 S=> ?_
   dsimp only[List.set,List.cons_append,List.nil_append] at S
   refine holdW_S S 0 rfl rfl (holdW_S S 0 rfl rfl ⟨ld0 S,?_⟩)
   have S4:=S.joinR [0,1,2,3,4] 5 6 rfl rfl
   dsimp only[Sh.pick,List.cons_append,List.nil_append,List.getElem?_cons_zero,List.getElem?_cons_succ] at S4
   rw[wrap64_in (n:=(u:Int)+1) (by omega)]
   refine⟨Z0-(u+1),by omega,u+1,q',d',ls++[s],Y++[reads A],rfl,by omega,rfl,?_,fun x hx=> ?_,?_⟩
   ·rw[List.range_succ,List.map_append,←hls,List.map_cons,List.map_nil]
    show fsOf (ls++[s])=fsOf ls++[atF (fsOf f0.ss) _ w]
    rw[←sxs];simp[fsOf]
   ·rcases List.mem_append.1 hx with hx|hx
    ·refine⟨(hlok x hx).1,?_⟩
     rcases(hlok x hx).2 with h|h
     ·exact .inl h
     ·exact .inr h.left
    ·simp only[List.mem_singleton] at hx;subst hx
     refine⟨⟨sok,sl⟩,?_⟩
     rcases hs with h|h
     ·exact .inl h
     ·exact .inr h.nest
   ·have e:slv (ls++[s])=slv ls++[s.v]:=by simp[slv]
    rw[e];exact S4
  ·have:u=Z0:=by omega
   subst this
   have hlsl:ls.length=u:=by have:=(S.own 4 rfl).1;rw[slv_length] at this;omega
   have fr:Frs g pl u ls:=⟨(S.own 4 rfl).row,fun x hx=>by
    obtain⟨s,hm,rfl⟩:=List.mem_map.1 hx
    rcases(hlok s hm).2 with h|h
    ·exact(facts S f0 m0).rows _ (List.mem_map_of_mem h)
    ·exact h.1 g (S.w 5 _ rfl),hlsl,fun s hm=>(hlok s hm).1⟩
   refine ldAg_S S 0 rfl (x:=nv.t) rfl ?_
   refine(Frame17_ok hok (nrow S) (by omega) hlw hlb fr (by omega)).mono ?_
   rintro _ g4 ⟨s,rfl,sok,sl,sxs,S1⟩
   replace S:=S.add S1 fun _ _ h=>h
   dsimp only[List.cons_append,List.nil_append] at S
   refine⟨_,_,_,rfl,?_⟩
   refine push_S S 2 rfl (by decide) (by omega) fun b q' d' g7 S=> ?_
   dsimp only[List.set,List.cons_append,List.nil_append] at S
   have S4:=S.joinR [0,1,2] 3 6 rfl rfl
   dsimp only[Sh.pick,List.cons_append,List.nil_append,List.getElem?_cons_zero,List.getElem?_cons_succ] at S4
   exact NodeInv.next hiN hN ho hout sok sl (by rw[eP,←hls];exact sxs) S4
 ·refine ldInt_i (n:=nv.kind) (S.cell 0 rfl rfl) (ifB_beq (fun h5=> ?_) (fun h5=> ?_))
  ·have eP:pickF nv.nd (ins.map Fm.fr) w i=f0.fr:=by
    unfold pickF
    rw[hk,if_neg hwin,if_pos h5,eg0]
   refine idxI_i ea (k:=0) rfl (by omega) (ldSlice_i (p:=f0.p) (l:=f0.l) (c:=f0.c) (ldF S ef0) (ldAg_S S 0 rfl (x:=nv.t) rfl ?_))
   refine(Frame17_ok hok (nrow S) (by omega) hlw hlb (facts S f0 m0) (by omega)).mono ?_
   rintro _ g4 ⟨s,rfl,sok,sl,sxs,S1⟩
   replace S:=S.add S1 fun _ _ h=>h
   dsimp only[List.cons_append,List.nil_append] at S
   refine⟨_,_,_,rfl,?_⟩
   refine push_S S 2 rfl (by decide) (by omega) fun b q' d' g7 S=> ?_
   dsimp only[List.set,List.cons_append,List.nil_append] at S
   have S4:=S.joinR [0,1,2] 3 4 rfl rfl
   dsimp only[Sh.pick,List.cons_append,List.nil_append,List.getElem?_cons_zero,List.getElem?_cons_succ] at S4
   exact NodeInv.next hiN hN ho hout sok sl (by rw[eP];exact sxs) S4
  ·have eP:pickF nv.nd (ins.map Fm.fr) w i=(ins.map Fm.fr).map fun f=>f.getD i []:=by
    unfold pickF
    rw[hk,if_neg hwin,if_neg h5]
   have hil: ∀f∈ins,i<f.l:=fun f hm=>by
    have e:countN nv.nd (lensF (ins.map Fm.fr))=leastL (lensF (ins.map Fm.fr)):=by
     unfold countN
     rw[hk,if_neg (fun h=>hwin h.1),if_neg (fun h=>h5 h.1)]
    have:=leastL_le (l:=lensF (ins.map Fm.fr)) (y:=(f.l:Int)) (by rw[←elen];exact List.mem_map.2 ⟨f,hm,rfl⟩)
    omega
   replace S:=S.nil 1
   dsimp only[List.nil_append,List.cons_append] at S
   refine LoopS_i (fun mm s g=> ∃(u:Nat) (pl:Option Addr) (dl:Nat) (ls:List Sl),s=((p,t,c),(w:Int),⟨b1,0,none⟩,(q,t,d),decide (wins nv.kind),(oq,i,od),(i:Int),(pl,u,dl),(u:Int),())∧u≤t∧mm=t-u∧
    fsOf ls=((ins.take u).map Fm.fr).map (fun f=>f.getD i [])∧(∀s∈ls,(s.ok∧s.l<2 ^ 40)∧ ∃f∈ins,s∈f.ss)∧
    Sep h no g [blk b1 nv.cells,own 1 q t d (ints (lensF (ins.map Fm.fr))),own 1 oq i od (slv outs),reads Z,own 1 pl u dl (slv ls)] [row p (fmv ins),reads (ins.map Fm.fact),nv.rows]) t ⟨0,none,0,[],rfl,by omega,rfl,rfl,by simp,S⟩ ?_
   clear S
   rintro mm s g ⟨u,pl,dl,ls,rfl,hu,rfl,hls,hlok,S⟩
   unfold ref18_Node_l20
   dsimp only
   refine ifB_dec (fun hlt=> ?_) (fun hge=> ?_)
   ·obtain⟨f,ef⟩: ∃f,ins[u]? =some f:=⟨_,List.getElem?_eq_getElem (by omega)⟩
    have hm:=List.mem_of_getElem? ef
    have fi:=hil f hm
    have fr:=facts S f hm
    obtain⟨s,es⟩: ∃s,f.ss[i]? =some s:=⟨_,List.getElem?_eq_getElem (by have:=fr.len;omega)⟩
    have hsm:=List.mem_of_getElem? es
    have pr:=fr.row
    obtain⟨b,eb⟩:=pr.some_of (by rw[slv_length,fr.len];omega)
    rw[eb] at pr
    refine idxI_i ea rfl (by omega) ?_
    simp only[Int.toNat_natCast,Nat.mul_one]
    refine ldSlice_i (p:=f.p) (l:=f.l) (c:=f.c) (ldF S ef) ?_
    refine idxI_i eb rfl fi ?_
    refine ldSlice_i (p:=s.p) (l:=s.l) (c:=s.c) (pr.cell (slv_get es)) ?_
    refine push_S S 4 rfl (by decide) (by omega) fun b2 q' d' g7 S=> ?_
    dsimp only[List.set,List.cons_append,List.nil_append] at S
    rw[wrap64_in (n:=(u:Int)+1) (by omega)]
    refine⟨t-(u+1),by omega,u+1,q',d',ls++[s],rfl,by omega,rfl,?_,fun x hx=> ?_,?_⟩
    ·have h1:ins[u]=f:=by rw[List.getElem?_eq_getElem (by omega)] at ef;exact Option.some.inj ef
     have h2:f.fr.getD i []=s.xs:=by
      show(fsOf f.ss).getD i []=s.xs
      rw[List.getD_eq_getElem?_getD,fsOf_get es];rfl
     rw[List.take_succ_eq_append_getElem (by omega),h1,List.map_append,List.map_append,←hls,List.map_cons,List.map_nil,List.map_cons,List.map_nil,h2]
     simp[fsOf]
    ·rcases List.mem_append.1 hx with hx|hx
     ·exact hlok x hx
     ·simp only[List.mem_singleton] at hx;subst hx
      exact⟨fr.ok x hsm,f,hm,hsm⟩
    ·have e:slv (ls++[s])=slv ls++[s.v]:=by simp[slv]
     rw[e];exact S.pw [0,1,2,3,4]
   ·have:u=t:=by omega
    subst this
    rw[List.take_of_length_le (by omega)] at hls
    have hlsl:ls.length=u:=by have:=(S.own 4 rfl).1;rw[slv_length] at this;omega
    have fr:Frs g pl u ls:=⟨(S.own 4 rfl).row,fun x hx=>by
     obtain⟨s,hm,rfl⟩:=List.mem_map.1 hx
     obtain⟨f,hf,hs⟩:=(hlok s hm).2
     exact(facts S f hf).rows _ (List.mem_map_of_mem hs),hlsl,fun s hm=>(hlok s hm).1⟩
    refine ldAg_S S 0 rfl (x:=nv.t) rfl ?_
    refine(Frame17_ok hok (nrow S) (by omega) hlw hlb fr (by omega)).mono ?_
    rintro _ g4 ⟨s,rfl,sok,sl,sxs,S1⟩
    replace S:=S.add S1 fun _ _ h=>h
    dsimp only[List.cons_append,List.nil_append] at S
    refine⟨_,_,_,rfl,?_⟩
    refine push_S S 2 rfl (by decide) (by omega) fun b q' d' g7 S=> ?_
    dsimp only[List.set,List.cons_append,List.nil_append] at S
    have S4:=S.joinR [0,1,2] 3 5 rfl rfl
    dsimp only[Sh.pick,List.cons_append,List.nil_append,List.getElem?_cons_zero,List.getElem?_cons_succ] at S4
    exact NodeInv.next hiN hN ho hout sok sl (by rw[eP,←hls];exact sxs) S4
end
end Go.Proofs.YtbgplllcjhgdhaaGreatDoor.G
