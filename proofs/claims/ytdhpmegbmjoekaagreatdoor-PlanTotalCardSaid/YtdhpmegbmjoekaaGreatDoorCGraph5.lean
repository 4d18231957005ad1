/- CGraph CGraph2 CGraph3 CGraph4 CGraph5, in one text. -/
import Derived.Test.YtdhpmegbmjoekaaGreatDoorCKindP3
import Derived.Test.YtdhpmegbmjoekaaGreatDoorShRg
section
namespace Go.Proofs.YtdhpmegbmjoekaaGreatDoor.G
open Go Go.Sh
set_option linter.unusedVariables false
set_option linter.unusedSimpArgs false
def lM (M:Int→Option Int):Int→Option Value:=fun n=>(M n).map (Value.int .i64)
def tH (M:Int→Option Int) (n m:Int):Int→Option Int:=fun k=>if k=n then some m else M k
def OW (M:Int→Option Int) (n:Int):Int→Option Int:=fun k=>if k=n then none else M k
theorem oT (M:Int→Option Int) (n m:Int):OZ (lM M) n (.int .i64 m)=lM (tH M n m):=by
 funext k;unfold OZ lM tH;split<;>simp
theorem Ks (M:Int→Option Int) (n:Int):Gt (lM M) n=lM (OW M n):=by
 funext k;unfold Gt lM OW;split<;>simp
theorem Bi:(fun _=>none:Int→Option Value)=lM fun _=>none:=rfl
abbrev um (r:Nat) (M:Int→Option Int):bi:=mp .i64 r (lM M)
theorem gy {h:ae} {r:Nat} {M:Int→Option Int} {n z:Int} {K:Value→Bool→Prop} (hm:(um r M).P h) (H:K (.int .i64 ((M n).getD z)) (M n).isSome):lG .i64 (.int .i64 z) (some r) n h K:=by
 refine Nk hm ?_
 unfold lM
 cases h:M n with
 |none=>rw[h] at H;exact H
 |some m=>rw[h] at H;exact H
def Gr.first (g:Gr):Int:=
 if g.nodes.length<1∨12<g.nodes.length then 22
 else if g.width<1∨16<g.width∨g.low>g.high∨g.low< -32768∨g.high>32767∨g.out<1∨g.out>(g.nodes.length:Int) then 1
 else if ∀n∈g.nodes,bo 0 g.nodes.length n.inn then 0 else 1
def kC (there:List Int):List Nd→Nat→Option Int
 |[],_=>none
 |n::r,i=>if((i:Int)+1)∉there∧ ∀j∈n.inn,j∈there then some ((i:Int)+1) else kC there r (i+1)
def nz (ns:List Nd) (there:List Int):List Int:=
 match kC there ns 0 with
 |some i=>there++[i]
 |none=>there
def bR (ns:List Nd):Nat→List Int
 |0=>[0]
 |k+1=>nz ns (bR ns k)
def cU (ns:List Nd):List Int:=(bR ns ns.length).tail
theorem Fq (ns:List Nd): ∀k,∃r,bR ns k=0::r
 |0=>⟨[],rfl⟩
 |k+1=>by
  obtain⟨r,hr⟩:=Fq ns k
  simp only[bR,nz,hr]
  split
  ·exact⟨_,rfl⟩
  ·exact⟨_,rfl⟩
theorem eC (ns:List Nd) (k:Nat):bR ns k=0::(bR ns k).tail:=by
 obtain⟨r,hr⟩:=Fq ns k
 rw[hr];rfl
theorem tI (ns:List Nd): ∀k,(bR ns k).tail.length≤k
 |0=>by simp[bR]
 |k+1=>by
  have:=tI ns k
  simp only[bR,nz]
  split
  ·rw[List.length_tail,List.length_append,List.length_singleton]
   rw[List.length_tail] at this
   omega
  ·omega
theorem wm {there:List Int}: ∀{ns:List Nd} {i:Nat} {x:Int},kC there ns i=some x→ ∃(k:Nat) (n:Nd),x=((i+k:Nat):Int)+1∧ns[k]? =some n∧x∉there∧ ∀j∈n.inn,j∈there
 |[],i,x,h=>by simp[kC] at h
 |n::r,i,x,h=>by
  unfold kC at h
  split at h
  ·rename_i hc
   simp only[Option.some.injEq] at h
   subst h
   exact⟨0,n,by simp,rfl,hc.1,hc.2⟩
  ·obtain⟨k,n',h1,h2,h3⟩:=wm h
   exact⟨k+1,n',by omega,by simpa using h2,h3⟩
section
variable {h:ae}
theorem Qc {gv:Gv} (hok:gv.ok) (hn:bT h gv.p (aF gv.ns)) (hr:(aZ gv.ns).P h) (hl:gv.l<2 ^ 56) (hs: ∀n∈gv.ns,n.inn.l<2 ^ 62):aq P nW #[gv.v] h fun v h'=>v= .int .i64 gv.gr.first∧cu no h h':=by
 refine Co _ ?_
 unfold EU
 have hgl:=hok.1
 have hgn:gv.gr.nodes.length=gv.l:=by rw[←hgl];simp[Gv.gr]
 have S:=((aK.start h no).read (row gv.p (aF gv.ns)) hn).read (aZ gv.ns) hr
 refine aC (cs:=gv.cells) S fun b1 h1 _ S=> ?_
 dsimp only[List.nil_append,List.cons_append] at S
 refine am (p:=gv.p) (l:=gv.l) (c:=gv.c) (S.cell 0 rfl rfl) ?_
 have r22:(gv.gr.nodes.length<1∨12<gv.gr.nodes.length)→ ∀g,aK h no g [blk b1 gv.cells] [row gv.p (aF gv.ns),aZ gv.ns]→Value.int .i64 22= .int .i64 gv.gr.first∧cu no h g:=fun hh g S=>⟨by unfold Gr.first;rw[if_pos hh],S.fra⟩
 refine⟨fun s g=>s=(⟨b1,0,none⟩,(gv.l:Int),())∧ ¬(gv.gr.nodes.length<1∨12<gv.gr.nodes.length)∧aK h no g [blk b1 gv.cells] [row gv.p (aF gv.ns),aZ gv.ns],?_,au (fun h1=>r22 (by omega) _ S) fun h1=>au (fun h2=>r22 (by omega) _ S) fun h2=>⟨rfl,by omega,S⟩⟩
 rintro s g ⟨rfl,n22,S⟩
 unfold xt
 dsimp only
 have ef:gv.gr.first=if gv.gr.nodes.length<1∨12<gv.gr.nodes.length then 22 else if gv.width<1∨16<gv.width∨gv.low>gv.high∨gv.low< -32768∨gv.high>32767∨gv.out<1∨gv.out>(gv.gr.nodes.length:Int) then 1
  else if ∀n∈gv.gr.nodes,bo 0 gv.gr.nodes.length n.inn then 0 else 1:=rfl
 have r1:(gv.width<1∨16<gv.width∨gv.low>gv.high∨gv.low< -32768∨gv.high>32767∨gv.out<1∨gv.out>(gv.gr.nodes.length:Int))→ ∀g,aK h no g [blk b1 gv.cells] [row gv.p (aF gv.ns),aZ gv.ns]→Value.int .i64 1= .int .i64 gv.gr.first∧cu no h g:=
  fun hh g S=>⟨by rw[ef,if_neg n22,if_pos hh],S.fra⟩
 refine⟨fun s g=>s=(⟨b1,0,none⟩,(gv.l:Int),())∧ ¬(gv.width<1∨16<gv.width∨gv.low>gv.high∨gv.low< -32768∨gv.high>32767∨gv.out<1∨gv.out>(gv.gr.nodes.length:Int))∧aK h no g [blk b1 gv.cells] [row gv.p (aF gv.ns),aZ gv.ns],?_,?_⟩
 ·rintro s g ⟨rfl,n1,S⟩
  unfold xr
  simp only[aY,Nat.zero_add]
  refine am (p:=gv.p) (l:=gv.l) (c:=gv.c) (S.cell 0 rfl rfl) ?_
  have e:gv.gr.first=if ∀n∈gv.gr.nodes,bo 0 gv.gr.nodes.length n.inn then 0 else 1:=by rw[ef,if_neg n22,if_neg n1]
  have bad:(∃n∈gv.ns,∃j∈n.inn.xs,j<0∨j>(gv.l:Int))→gv.gr.first=1:=by
   rintro⟨n,hn,j,hj,hb⟩
   rw[e,if_neg]
   intro hall
   have:=hall n.nd (List.mem_map_of_mem hn) j hj
   omega
  refine aT (fun m s g=> ∃i:Nat,s=((gv.l:Int),(gv.p,gv.l,gv.c),(gv.l:Int),(i:Int),())∧i≤gv.l∧m=gv.l-i∧(∀n∈gv.ns.take i,bo 0 (gv.l:Int) n.inn.xs)∧aK h no g [blk b1 gv.cells] [row gv.p (aF gv.ns),aZ gv.ns]) gv.l ⟨0,rfl,by omega,rfl,by simp,S⟩ ?_
  rintro m s g ⟨i,rfl,hi,rfl,hall,S⟩
  unfold xq
  dsimp only
  refine au (fun hlt=> ?_) (fun hge=> ?_)
  ·have hix:i<gv.ns.length:=by omega
   obtain⟨n,en⟩: ∃n,gv.ns[i]? =some n:=⟨_,List.getElem?_eq_getElem hix⟩
   have hmem:=List.mem_of_getElem? en
   have nok:=(hok.2.2 n hmem).1
   obtain⟨a,ea⟩:=(S.row 0 rfl).some_of (by rw[bY];omega)
   have hrow:bT g (some a) (aF gv.ns):=by rw[←ea];exact S.row 0 rfl
   refine aG ea rfl (by omega) ?_
   simp only[Int.toNat_natCast]
   refine kD hrow en ?_
   refine aC S fun b12 g2 _ S=> ?_
   dsimp only[List.cons_append,List.nil_append] at S
   refine cG S 1 rfl rfl (bC rfl) fun g3 _ S=> ?_
   dsimp only[List.set] at S
   refine am (p:=n.inn.p) (l:=n.inn.l) (c:=n.inn.c) (S.cell 1 rfl rfl) ?_
   have hni:=hs n hmem
   have nlen:n.inn.xs.length=n.inn.l:=nok.1
   refine aT (fun m s g'=>g'=g3∧ ∃j:Nat,s=((gv.l:Int),(gv.p,gv.l,gv.c),(gv.l:Int),(i:Int),(n.inn.p,n.inn.l,n.inn.c),(n.inn.l:Int),(j:Int),())∧j≤n.inn.l∧m=n.inn.l-j∧bo 0 (gv.l:Int) (n.inn.xs.take j)) n.inn.l ⟨rfl,0,rfl,by omega,rfl,by rw[List.take_zero];exact cD _ _⟩ ?_
   rintro m s g' ⟨rfl,j,rfl,hj,rfl,hf⟩
   unfold vk
   dsimp only
   refine au (fun hlt2=> ?_) (fun hge2=> ?_)
   ·have hjx:j<n.inn.xs.length:=by omega
    have irow:bT g' n.inn.p (az n.inn.xs):=S.r 1 _ rfl _ (List.mem_map_of_mem hmem) n.inn.row (by simp)
    obtain⟨aa,eaa⟩:=irow.some_of (by rw[aB];omega)
    rw[eaa] at irow
    refine aG eaa rfl (by omega) ?_
    simp only[Int.toNat_natCast,Nat.mul_one]
    refine af (irow.cell (aN (List.getElem?_eq_getElem hjx))) ?_
    refine au (fun h1=>⟨by rw[bad ⟨n,hmem,_,List.getElem_mem hjx,.inl h1⟩],S.fra⟩) fun h1=>au (fun h2=>⟨by rw[bad ⟨n,hmem,_,List.getElem_mem hjx,.inr h2⟩],S.fra⟩) fun h2=> ?_
    rw[al (by omega)]
    exact⟨n.inn.l-(j+1),by omega,by trivial,j+1,rfl,by omega,rfl,(iu hjx).2 ⟨hf,by omega,by omega⟩⟩
   ·rw[al (by omega)]
    refine⟨gv.l-(i+1),by omega,i+1,rfl,by omega,rfl,fun x hx=> ?_,S.pw [0]⟩
    rw[List.take_succ_eq_append_getElem hix] at hx
    rcases List.mem_append.1 hx with hx|hx
    ·exact hall x hx
    ·simp only[List.mem_singleton] at hx
     rw[List.getElem?_eq_getElem hix] at en
     cases en
     subst hx
     rw[List.take_of_length_le (by omega)] at hf
     exact hf
  ·rw[List.take_of_length_le (by omega)] at hall
   refine⟨?_,S.fra⟩
   rw[e,if_pos]
   intro x hx
   obtain⟨n,hn,rfl⟩:=List.mem_map.1 hx
   rw[hgn]
   exact hall n hn
 ·simp only[aY,Nat.zero_add]
  refine af (n:=gv.width) (S.cell 0 rfl rfl) (au (fun h1=>r1 (by omega) _ S) fun h1=>af (n:=gv.width) (S.cell 0 rfl rfl) (au (fun h2=>r1 (by omega) _ S) fun h2=> ?_))
  refine af (n:=gv.low) (S.cell 0 rfl rfl) (af (n:=gv.high) (S.cell 0 rfl rfl) (au (fun h3=>r1 (by omega) _ S) fun h3=> ?_))
  refine af (n:=gv.low) (S.cell 0 rfl rfl) (au (fun h4=>r1 (by omega) _ S) fun h4=>af (n:=gv.high) (S.cell 0 rfl rfl) (au (fun h5=>r1 (by omega) _ S) fun h5=> ?_))
  refine af (n:=gv.out) (S.cell 0 rfl rfl) (au (fun h6=>r1 (by omega) _ S) fun h6=>af (n:=gv.out) (S.cell 0 rfl rfl) (au (fun h7=>r1 (by omega) _ S) fun h7=> ?_))
  exact⟨by trivial,by omega,S⟩
theorem Gp {a:Addr} {r:Nat} {M:Int→Option Int} (ha:aD h a=some (.map (some r))) (hm:(um r M).P h) (j:Int):aq P ce #[.int .i64 j,.pointer (some a)] h fun v h'=>v= .bool (!(M j).isSome)∧h'=h:=by
 refine te _ _ ?_
 unfold rJ
 exact⟨_,ha,gy hm ⟨_,_,rfl,rfl,rfl⟩⟩
theorem Gq {a:Addr} {r:Nat} {M:Int→Option Int} (ha:aD h a=some (.map (some r))) (hm:(um r M).P h) {p:Option Addr} {l c:Nat} {xs:List Int} (hx:bT h p (az xs)) (hl:xs.length=l) (hl2:l<2 ^ 62):
 aq P bh #[.slice p l c,.func (.func ce) #[] #[.pointer (some a)]] h fun v h'=>v= .bool (decide (∃j∈xs,M j=none))∧h'=h:=by
 refine fd _ _ _ _ ?_
 unfold de
 have I:aq P bv #[.slice p l c,.func (.func ce) #[] #[.pointer (some a)]] h fun v h'=> ∃i:Int,v= .int .i64 i∧(0≤i↔ ∃j∈xs,M j=none)∧h'=h:=by
  refine fA _ _ _ _ ?_
  unfold dr
  refine aT (fun m s g=>g=h∧ ∃i:Nat,s=((p,l,c),((),(a,())),(l:Int),(i:Int),())∧i≤l∧m=l-i∧ ∀j∈xs.take i,M j≠none) l ⟨rfl,0,rfl,by omega,rfl,by simp⟩ ?_
  rintro m s g ⟨rfl,i,rfl,hi,rfl,hall⟩
  unfold dc
  dsimp only
  refine au (fun hlt=> ?_) (fun hge=> ?_)
  ·have hix:i<xs.length:=by omega
   obtain⟨aa,rfl⟩:=hx.some_of (by rw[aB];omega)
   refine aG rfl rfl (by omega) ?_
   simp only[Int.toNat_natCast,Nat.mul_one]
   refine af (hx.cell (aN (List.getElem?_eq_getElem hix))) ?_
   refine(Gp ha hm xs[i]).mono ?_
   rintro _ _ ⟨rfl,rfl⟩
   refine⟨_,rfl,?_⟩
   cases hM:M xs[i] with
   |none=>exact cq rfl ⟨_,rfl,⟨fun _=>⟨_,List.getElem_mem hix,hM⟩,fun _=>by omega⟩,rfl⟩
   |some y=>
    refine bQ rfl ?_
    rw[al (by omega)]
    refine⟨l-(i+1),by omega,by trivial,i+1,rfl,by omega,rfl,fun j hj=> ?_⟩
    rw[List.take_succ_eq_append_getElem hix] at hj
    rcases List.mem_append.1 hj with hj|hj
    ·exact hall j hj
    ·simp only[List.mem_singleton] at hj;subst hj;rw[hM];simp
  ·rw[List.take_of_length_le (by omega)] at hall
   exact⟨_,rfl,⟨fun h=>by omega,fun⟨j,hj,e⟩=>absurd e (hall j hj)⟩,rfl⟩
 refine I.mono ?_
 rintro _ _ ⟨i,rfl,hi,rfl⟩
 refine⟨_,rfl,?_,rfl⟩
 congr 1
 rw[decide_eq_decide]
 exact hi
end
end Go.Proofs.YtdhpmegbmjoekaaGreatDoor.G
end
section
namespace Go.Proofs.YtdhpmegbmjoekaaGreatDoor.G
open Go Go.Sh
set_option linter.unusedVariables false
set_option linter.unusedSimpArgs false
theorem ck (xs:List Int) (i:Nat) (x:Int):(az xs).set i (.int .i64 x)=az (xs.set i x):=by simp[az,List.map_set]
theorem LA (xs:List Int) (x:Int):az xs++[Value.int .i64 x]=az (xs++[x]):=by simp[az]
theorem Jl {there:List Int} {ns:List Nd} {i:Nat} (hi:i<ns.length) (hc: ¬(((i:Int)+1)∉there∧ ∀j∈ns[i].inn,j∈there)):kC there (ns.drop (i+1)) (i+1)=kC there (ns.drop i) i:=by
 rw[List.drop_eq_getElem_cons hi]
 conv=>rhs;unfold kC
 rw[if_neg hc]
theorem Jm {there:List Int} {ns:List Nd} {i:Nat} (hi:i<ns.length) (hc:((i:Int)+1)∉there∧ ∀j∈ns[i].inn,j∈there):kC there (ns.drop i) i=some ((i:Int)+1):=by
 rw[List.drop_eq_getElem_cons hi]
 unfold kC
 rw[if_pos hc]
section
variable {h:ae}
theorem Jn {p:Option Addr} {l c:Nat} {ns:List Nv} (hn:bT h p (aF ns)) (hr:(aZ ns).P h) (hl:ns.length=l) (hl2:l≤2 ^ 20) (hok: ∀n∈ns,n.inn.ok) (hs: ∀n∈ns,n.inn.l<2 ^ 62):
 aq P jt #[.slice p l c] h fun v h'=> ∃(q:Option Addr) (m d:Nat),v= .tuple #[.slice q m d,.bool (decide ((cU (ns.map Nv.nd)).length=ns.length))]∧(cU (ns.map Nv.nd)).length=m∧aK h no h' [own 1 q m d (az (cU (ns.map Nv.nd)))] []:=by
 refine vP _ _ _ ?_
 unfold vl
 have S:=((aK.start h no).read (row p (aF ns)) hn).read (aZ ns) hr
 obtain⟨nds,ends⟩: ∃nds,ns.map Nv.nd=nds:=⟨_,rfl⟩
 have hnl:nds.length=l:=by rw[←ends,List.length_map,hl]
 rw[ends]
 refine Gw .i64 S fun r2 h1 _ S=> ?_
 dsimp only[List.nil_append,List.cons_append] at S
 refine oU S 0 rfl fun h2 S=> ?_
 rw[Bi,oT] at S
 dsimp only[List.set] at S
 refine aC (cs:=[.map none]) S fun b4 h3 _ S=> ?_
 dsimp only[List.nil_append,List.cons_append] at S
 refine aJ S 1 rfl (Nat.le_of_ble_eq_true rfl) fun h4 _ S=> ?_
 replace S:=S.nil 1
 dsimp only[List.set,List.nil_append,List.cons_append] at S
 refine aT (fun mm s g=> ∃(k:Nat) (q:Option Addr) (m d:Nat) (M:Int→Option Int),s=((p,l,c),⟨b4,0,none⟩,(q,m,d),(l:Int),(k:Int),())∧k≤l∧mm=l-k∧(bR nds k).tail.length=m∧(∀n,(M n).isSome↔n∈bR nds k)∧
  aK h no g [um r2 M,blk b4 [.map (some r2)],own 1 q m d (az (bR nds k).tail)] [row p (aF ns),aZ ns]) l ⟨0,none,0,0,_,rfl,by omega,rfl,rfl,?_,S⟩ ?_
 ·intro n
  unfold tH bR
  by_cases h0:n=0
  ·simp[h0]
  ·simp[h0]
 clear S
 rintro mm s g ⟨k,q,m,d,M,rfl,hk,rfl,hm,hM,S⟩
 have hmk:m≤k:=by rw[←hm];exact tI nds k
 unfold pA
 dsimp only
 refine au (fun hlt=> ?_) (fun hge=> ?_)
 ·refine aT (fun mm s g=> ∃i:Nat,s=((p,l,c),⟨b4,0,none⟩,(q,m,d),(l:Int),(k:Int),(p,l,c),(l:Int),(i:Int),())∧i≤l∧mm=l-i∧kC (bR nds k) (nds.drop i) i=kC (bR nds k) nds 0∧
   aK h no g [um r2 M,blk b4 [.map (some r2)],own 1 q m d (az (bR nds k).tail)] [row p (aF ns),aZ ns]) l ⟨0,rfl,by omega,rfl,by rw[List.drop_zero],S⟩ ?_
  clear S
  rintro mm s g ⟨i,rfl,hi,rfl,hnx,S⟩
  unfold pz
  dsimp only
  refine au (fun hlt2=> ?_) (fun hge2=> ?_)
  ·have hix:i<ns.length:=by omega
   have hid:i<nds.length:=by omega
   obtain⟨n,en⟩: ∃n,ns[i]? =some n:=⟨_,List.getElem?_eq_getElem hix⟩
   have hmem:=List.mem_of_getElem? en
   have nok:=hok n hmem
   have hni:=hs n hmem
   have end':nds[i]=n.nd:=by
    subst ends
    rw[List.getElem?_eq_getElem hix] at en
    simp only[Option.some.injEq] at en
    simp[en]
   obtain⟨a,ea⟩:=(S.row 0 rfl).some_of (by rw[bY];omega)
   have hrow:bT g (some a) (aF ns):=by rw[←ea];exact S.row 0 rfl
   refine aG ea rfl (by omega) ?_
   simp only[Int.toNat_natCast]
   refine kD hrow en ?_
   refine aC S fun b11 g2 _ S=> ?_
   dsimp only[List.cons_append,List.nil_append] at S
   refine cG S 3 rfl rfl (bC rfl) fun g3 _ S=> ?_
   dsimp only[List.set] at S
   rw[al (n:=(i:Int)+1) (by omega)]
   refine⟨some r2,S.cell 1 rfl rfl,gy (S.w 0 _ rfl) ⟨_,_,rfl,?_⟩⟩
   have skip: ¬(((i:Int)+1)∉bR nds k∧ ∀j∈nds[i].inn,j∈bR nds k)→kC (bR nds k) (nds.drop (i+1)) (i+1)=kC (bR nds k) nds 0:=fun hc=>by rw[Jl hid hc];exact hnx
   refine hZ (fun hb=> ?_) (fun hb=> ?_)
   ·exact⟨l-(i+1),by omega,i+1,rfl,by omega,rfl,skip fun hc=>hc.1 ((hM _).1 hb),S.pw [0,1,2]⟩
   ·refine am (p:=n.inn.p) (l:=n.inn.l) (c:=n.inn.c) (S.cell 3 rfl rfl) ?_
    have irow:bT g3 n.inn.p (az n.inn.xs):=S.r 1 _ rfl _ (List.mem_map_of_mem hmem) n.inn.row (by simp)
    refine(Gq (a:=⟨b4,0,none⟩) (S.cell 1 rfl rfl) (S.w 0 _ rfl) irow nok.1 hni).mono ?_
    rintro _ _ ⟨rfl,rfl⟩
    refine⟨_,rfl,?_⟩
    have hin:nds[i].inn=n.inn.xs:=by rw[end'];rfl
    refine au (fun hc=> ?_) (fun hc=> ?_)
    ·refine⟨l-(i+1),by omega,i+1,rfl,by omega,rfl,skip fun hh=> ?_,S.pw [0,1,2]⟩
     obtain⟨j,hj,e⟩:=hc
     rw[hin] at hh
     have:=(hM j).2 (hh.2 j hj)
     rw[e] at this;cases this
    ·have hhere:((i:Int)+1)∉bR nds k∧ ∀j∈nds[i].inn,j∈bR nds k:=by
      refine⟨fun hh=>(by have:=(hM _).2 hh;rw[hb] at this;cases this),fun j hj=> ?_⟩
      rw[hin] at hj
      refine(hM j).1 ?_
      cases hMj:M j with
      |none=>exact absurd ⟨j,hj,hMj⟩ hc
      |some x=>rfl
     rw[Jm hid hhere] at hnx
     have hstep:bR nds (k+1)=bR nds k++[(i:Int)+1]:=by
      show nz nds (bR nds k)=_
      unfold nz
      rw[←hnx]
     have htail:(bR nds (k+1)).tail=(bR nds k).tail++[(i:Int)+1]:=by
      rw[hstep]
      conv=>lhs;rw[eC nds k]
      rfl
     refine⟨some r2,S.cell 1 rfl rfl,oU S 0 rfl fun g4 S=> ?_⟩
     rw[oT] at S
     dsimp only[List.set] at S
     refine aC S (fun b25 _ _ S=> ?_)
     dsimp only[List.cons_append,List.nil_append] at S
     refine dI S 2 rfl rfl (by decide) (by omega) (bT.of_at (S.at 4 rfl)) rfl (by simp[mC]) fun p27 l27 c27 g5 el S=> ?_
     rw[LA,←htail] at S
     dsimp only[List.set] at S
     rw[al (by omega)]
     refine⟨l-(k+1),by omega,k+1,p27,l27,c27,_,rfl,by omega,rfl,?_,fun x=> ?_,S.pw [0,1,2]⟩
     ·rw[htail,List.length_append,List.length_singleton,hm,el]
     ·rw[hstep,List.mem_append,List.mem_singleton,←hM x]
      unfold tH
      by_cases hx:x=(i:Int)+1
      ·simp[hx]
      ·simp[hx]
  ·have hil:i=l:=by omega
   rw[List.drop_of_length_le (by omega)] at hnx
   have hstep:bR nds (k+1)=bR nds k:=by
    show nz nds (bR nds k)=_
    unfold nz
    rw[←hnx];rfl
   rw[al (by omega)]
   refine⟨l-(k+1),by omega,k+1,q,m,d,M,rfl,by omega,rfl,by rw[hstep];exact hm,fun x=>by rw[hstep];exact hM x,by rw[hstep];exact S⟩
 ·have hkl:k=nds.length:=by omega
  subst hkl
  refine⟨q,m,d,?_,hm,S.pw [2]|>fun S=>⟨S.fra,S.w,by simp,S.ok,S.ww,by simp⟩⟩
  have e:((m:Int)==(l:Int))=decide ((cU nds).length=ns.length):=by
   rw[Bool.eq_iff_iff,beq_iff_eq,decide_eq_true_iff]
   have:(cU nds).length=m:=hm
   omega
  rw[e]
def cI (xs js:List Int):List Int:=js.map fun j=>xs.getD j.toNat 0
theorem OX {A:List Int} {m i:Nat} (hA:A.length=i) (hi:i<m) (v:Int):(A++List.replicate (m-i) 0).set i v=(A++[v])++List.replicate (m-(i+1)) 0:=by
 have:m-i=(m-(i+1))+1:=by omega
 rw[this,List.replicate_succ,List.set_append_right _ _ (by omega),hA,Nat.sub_self,List.set_cons_zero]
 simp
theorem Kt {p q:Option Addr} {l c m d:Nat} {xs js:List Int} (hx:bT h p (az xs)) (hj:bT h q (az js)) (hl:xs.length=l) (hm:js.length=m) (hm2:m≤2 ^ 40) (hin: ∀j∈js,0≤j∧j<(xs.length:Int)):
 aq P j3 #[.slice p l c,.slice q m d] h fun v h'=> ∃b,v= .slice (some ⟨b,0,none⟩) m m∧aK h no h' [blk b (az (cI xs js))] []:=by
 refine AN _ _ _ _ _ _ ?_
 unfold Cp
 have S:=((aK.start h no).read (row p (az xs)) hx).read (row q (az js)) hj
 refine iG S m rfl rfl rfl (by decide) (by omega) (by omega) fun b1 h1 _ S=> ?_
 dsimp only[List.nil_append,List.cons_append] at S
 rw[lH,show List.replicate m (Value.int .i64 0)=az (List.replicate m 0) by simp[az]] at S
 simp only[Int.toNat_natCast]
 refine aT (fun mm s g=> ∃i:Nat,s=((p,l,c),(some ⟨b1,0,none⟩,m,m),(q,m,d),(m:Int),(i:Int),())∧i≤m∧mm=m-i∧
  aK h no g [blk b1 (az (cI xs (js.take i)++List.replicate (m-i) 0))] [row p (az xs),row q (az js)]) m ⟨0,rfl,by omega,rfl,S⟩ ?_
 clear S
 rintro mm s g ⟨i,rfl,hi,rfl,S⟩
 unfold vm
 dsimp only
 refine au (fun hlt=> ?_) (fun hge=> ?_)
 ·have hix:i<js.length:=by omega
  obtain⟨qa,eqa⟩:=(S.row 1 rfl).some_of (by rw[aB];omega)
  have hq:bT g (some qa) (az js):=by rw[←eqa];exact S.row 1 rfl
  have hji:=hin js[i] (List.getElem_mem hix)
  obtain⟨k,ek⟩: ∃k:Nat,js[i]=k:=⟨js[i].toNat,by omega⟩
  have hkx:k<xs.length:=by omega
  obtain⟨pa,epa⟩:=(S.row 0 rfl).some_of (by rw[aB];omega)
  have hp:bT g (some pa) (az xs):=by rw[←epa];exact S.row 0 rfl
  refine aG eqa rfl (by omega) ?_
  simp only[Int.toNat_natCast,Nat.mul_one]
  refine af (n:=(k:Int)) (hq.cell (aN (by rw[List.getElem?_eq_getElem hix,ek]))) (aG epa rfl (by omega) ?_)
  simp only[Int.toNat_natCast,Nat.mul_one]
  refine af (n:=xs.getD k 0) (hp.cell (aN (by rw[List.getElem?_eq_getElem hkx,dK hkx]))) (aG rfl rfl (by omega) ?_)
  simp only[aY,Nat.zero_add]
  have hpl:(cI xs (js.take i)).length=i:=by unfold cI;rw[List.length_map,List.length_take];omega
  refine aJ S 0 rfl (by rw[aB,List.length_append,hpl,List.length_replicate];omega) fun g2 _ S=> ?_
  rw[ck,OX hpl (by omega)] at S
  have hsn:cI xs (js.take i)++[xs.getD k 0]=cI xs (js.take (i+1)):=by
   rw[List.take_succ_eq_append_getElem hix]
   unfold cI
   rw[List.map_append,ek];rfl
  rw[hsn] at S
  dsimp only[List.set] at S
  rw[al (by omega)]
  exact⟨m-(i+1),by omega,i+1,rfl,by omega,rfl,S⟩
 ·have him:i=m:=by omega
  subst him
  rw[List.take_of_length_le (by omega),Nat.sub_self,List.replicate_zero,List.append_nil] at S
  exact⟨b1,rfl,⟨S.fra,S.w,by simp,S.ok,S.ww,by simp⟩⟩
end
end Go.Proofs.YtdhpmegbmjoekaaGreatDoor.G
end
section
namespace Go.Proofs.YtdhpmegbmjoekaaGreatDoor.G
open Go Go.Sh
set_option linter.unusedVariables false
set_option linter.unusedSimpArgs false
theorem GQ {h0 h:ae} {T:Nat→Prop} {W R:List bi} (S:aK h0 T h W R):aK h0 T h W []:=⟨S.fra,S.w,by simp,S.ok,S.ww,by simp⟩
section
variable {h:ae}
theorem LB {a:Addr} {r:Int} (ha:aD h a=some (.int .i64 r)) (x:Int):aq P cK #[.int .i64 x,.pointer (some a)] h fun v h'=>v= .bool (x !=r)∧h'=h:=by
 refine xA _ _ ?_
 unfold xz
 exact af ha ⟨rfl,rfl⟩
theorem Gs {a:Addr} {r:Int} (ha:aD h a=some (.int .i64 r)) {p:Option Addr} {l c:Nat} {xs:List Int} (hx:bT h p (az xs)) (hl:xs.length=l) (hl2:l<2 ^ 62):
 aq P bh #[.slice p l c,.func (.func cK) #[] #[.pointer (some a)]] h fun v h'=>v= .bool (decide (∃j∈xs,j≠r))∧h'=h:=by
 refine fB _ _ _ _ ?_
 unfold du
 have I:aq P bv #[.slice p l c,.func (.func cK) #[] #[.pointer (some a)]] h fun v h'=> ∃i:Int,v= .int .i64 i∧(0≤i↔ ∃j∈xs,j≠r)∧h'=h:=by
  refine fY _ _ _ _ ?_
  unfold dE
  refine aT (fun m s g=>g=h∧ ∃i:Nat,s=((p,l,c),((),(a,())),(l:Int),(i:Int),())∧i≤l∧m=l-i∧ ∀j∈xs.take i,j=r) l ⟨rfl,0,rfl,by omega,rfl,by simp⟩ ?_
  rintro m s g ⟨rfl,i,rfl,hi,rfl,hall⟩
  unfold dt
  dsimp only
  refine au (fun hlt=> ?_) (fun hge=> ?_)
  ·have hix:i<xs.length:=by omega
   obtain⟨aa,rfl⟩:=hx.some_of (by rw[aB];omega)
   refine aG rfl rfl (by omega) ?_
   simp only[Int.toNat_natCast,Nat.mul_one]
   refine af (hx.cell (aN (List.getElem?_eq_getElem hix))) ?_
   refine(LB ha xs[i]).mono ?_
   rintro _ _ ⟨rfl,rfl⟩
   refine⟨_,rfl,?_⟩
   refine bj (fun hM=>⟨_,rfl,⟨fun _=>⟨_,List.getElem_mem hix,hM⟩,fun _=>by omega⟩,rfl⟩) (fun hM=> ?_)
   rw[al (by omega)]
   refine⟨l-(i+1),by omega,by trivial,i+1,rfl,by omega,rfl,fun j hj=> ?_⟩
   rw[List.take_succ_eq_append_getElem hix] at hj
   rcases List.mem_append.1 hj with hj|hj
   ·exact hall j hj
   ·simp only[List.mem_singleton] at hj;subst hj;exact hM
  ·rw[List.take_of_length_le (by omega)] at hall
   exact⟨_,rfl,⟨fun h=>by omega,fun⟨j,hj,e⟩=>absurd (hall j hj) e⟩,rfl⟩
 refine I.mono ?_
 rintro _ _ ⟨i,rfl,hi,rfl⟩
 refine⟨_,rfl,?_,rfl⟩
 congr 1
 rw[decide_eq_decide]
 exact hi
theorem Ni {n:Nd} (h:1<n.span):iM n.kind:=by
 apply Decidable.byContradiction
 intro hn
 have e:n.span=if n.kind=12 then n.size else if dD n.kind then(n.size-1)*n.gap+1 else 1:=rfl
 unfold iM at hn
 rw[e,if_neg (fun h=>hn (.inr h)),if_neg (fun h=>hn (.inl h))] at h
 omega
theorem OY {nv:Nv} (hT:KT h) {p:Option Addr} {l c:Nat} {rs:List Int} (hw:bT h p (az rs)) (hl:rs.length=l) (h1l:1≤l) (hl2:l<2 ^ 56) (hr:0≤rs.getD 0 0∧rs.getD 0 0≤2 ^ 30) (hs:dD nv.kind→0≤nv.step∧nv.step≤2 ^ 20)
 (hk:1≤nv.kind) (hz: -2 ^ 20≤nv.size∧nv.size≤2 ^ 20) (hg: -2 ^ 20≤nv.gap∧nv.gap≤2 ^ 20):
 aq P lW #[nv.v,.slice p l c] h fun v h'=>v= .tuple #[.int .i64 (if cd nv.nd rs<0 then 0 else cd nv.nd rs),.bool (decide (0≤cd nv.nd rs))]∧cu no h h':=by
 refine AQ _ _ _ _ ?_
 unfold Cz
 have S:=((aK.start h no).read (blk 0 (az aS)) hT).read (row p (az rs)) hw
 refine aC (cs:=nv.cells) S fun b1 h1 _ S=> ?_
 dsimp only[List.nil_append,List.cons_append] at S
 have hx:=S.row 1 rfl
 obtain⟨aa,epa⟩:=hx.some_of (by rw[aB];omega)
 have hx':bT h1 (some aa) (az rs):=by rw[←epa];exact hx
 refine aG epa (k:=0) rfl (by omega) ?_
 refine af (n:=rs.getD 0 0) (hx'.cell (i:=0) (aN (by rw[List.getElem?_eq_getElem (by omega),dK (by omega)]))) ?_
 generalize hr0:rs.getD 0 0=r at hr ⊢
 refine aC (cs:=[.int .i64 0]) S fun b5 h2 _ S=> ?_
 dsimp only[List.nil_append,List.cons_append] at S
 refine aJ S 1 rfl (Nat.le_of_ble_eq_true rfl) fun h3 _ S=> ?_
 dsimp only[List.set] at S
 have eR:cd nv.nd rs=if ¬ ∀x∈rs,x=r then-1 else if r=0∧(iM nv.kind∨nv.kind=5) then-1 else if nv.kind=5 then 0 else r*fg nv.kind nv.step:=by
  unfold cd;rw[hr0];rfl
 have no0: ∀g,cd nv.nd rs= -1→aK h no g [blk b1 nv.cells,blk b5 [.int .i64 r]] [blk 0 (az aS),row p (az rs)]→
  Value.tuple #[.int .i64 0,.bool false]= .tuple #[.int .i64 (if cd nv.nd rs<0 then 0 else cd nv.nd rs),.bool (decide (0≤cd nv.nd rs))]∧cu no h g:=fun g e S=>⟨by rw[e];rfl,S.fra⟩
 refine⟨fun s g=> ∃b:Bool,s=((p,l,c),⟨b1,0,none⟩,⟨b5,0,none⟩,b,())∧(b=true↔iM nv.kind)∧aK h no g [blk b1 nv.cells,blk b5 [.int .i64 r]] [blk 0 (az aS),row p (az rs)],?_,?_⟩
 ·rintro s g ⟨b,rfl,hb,S⟩
  unfold vr
  dsimp only
  refine⟨fun s g=>s=(⟨b1,0,none⟩,⟨b5,0,none⟩,())∧(∀x∈rs,x=r)∧ ¬(r=0∧(iM nv.kind∨nv.kind=5))∧aK h no g [blk b1 nv.cells,blk b5 [.int .i64 r]] [blk 0 (az aS),row p (az rs)],?_,?_⟩
  ·rintro s g ⟨rfl,hall,hn,S⟩
   unfold vq
   dsimp only
   have na: ¬ ¬ ∀x∈rs,x=r:=fun h=>h hall
   rw[if_neg na,if_neg hn] at eR
   refine af (n:=nv.kind) (S.cell 0 rfl rfl) (aO (fun h5=> ?_) (fun h5=> ?_))
   ·rw[if_pos h5] at eR
    rw[eR];exact⟨rfl,S.fra⟩
   ·rw[if_neg h5] at eR
    refine aQ S 0 rfl (x:=nv.t) rfl (af (n:=r) (S.cell 1 rfl rfl) ?_)
    refine(OG nv (S.r 0 _ rfl)).mono ?_
    rintro _ _ ⟨rfl,F⟩
    refine⟨_,rfl,?_⟩
    replace S:=S.fra0 F
    have hst:0≤fg nv.kind nv.step∧fg nv.kind nv.step≤2 ^ 20:=by
     unfold fg;split
     ·rename_i h;exact hs h
     ·decide
    have hm:0≤r*fg nv.kind nv.step∧r*fg nv.kind nv.step≤2 ^ 50:=by
     refine⟨Int.mul_nonneg hr.1 hst.1,?_⟩
     have:=Int.mul_le_mul hr.2 hst.2 hst.1 (by decide)
     omega
    dsimp only
    rw[al (n:=r*fg nv.kind nv.step) (by omega)]
    refine bf (S.cell 1 rfl rfl) ⟨?_,S.fra⟩
    rw[eR,if_neg (by omega),decide_eq_true hm.1]
  ·refine(Gs (a:=⟨b5,0,none⟩) (S.cell 1 rfl rfl) (S.row 1 rfl) hl (by omega)).mono ?_
   rintro _ _ ⟨rfl,rfl⟩
   refine⟨_,rfl,?_⟩
   refine au (fun hc=>no0 _ ?_ S) (fun hc=> ?_)
   ·rw[eR,if_pos]
    intro hall
    obtain⟨j,hj,e⟩:=hc
    exact e (hall j hj)
   ·have hall: ∀x∈rs,x=r:=fun x hx=>Decidable.byContradiction fun e=>hc ⟨x,hx,e⟩
    have na: ¬ ¬ ∀x∈rs,x=r:=fun h=>h hall
    rw[if_neg na] at eR
    refine af (n:=r) (S.cell 1 rfl rfl) (aO (fun h0=>hZ (fun hbt=>no0 _ ?_ S) (fun hbf=> ?_)) (fun h0=> ?_))
    ·rw[eR,if_pos ⟨h0,.inl (hb.1 hbt)⟩]
    ·have nw: ¬iM nv.kind:=fun w=>by have:=hb.2 w;rw[hbf] at this;cases this
     refine af (n:=nv.kind) (S.cell 0 rfl rfl) (aO (fun h5=>no0 _ ?_ S) (fun h5=> ?_))
     ·rw[eR,if_pos ⟨h0,.inr h5⟩]
     ·exact⟨rfl,hall,fun hh=>hh.2.elim nw h5,S⟩
    ·exact⟨rfl,hall,fun hh=>h0 hh.1,S⟩
 ·refine aQ S 0 rfl (x:=nv.t) rfl ?_
  refine(xT nv (S.r 0 _ rfl) hz hg).mono ?_
  rintro _ _ ⟨rfl,F⟩
  refine⟨_,rfl,?_⟩
  replace S:=S.fra0 F
  refine au (fun h4=>⟨_,rfl,⟨fun _=>Ni h4,fun _=>rfl⟩,S⟩) (fun h4=>af (n:=nv.kind) (S.cell 0 rfl rfl) (au (fun h5=>⟨_,rfl,⟨fun _=>by unfold iM dD;omega,fun _=>rfl⟩,S⟩) (fun h5=>af (n:=nv.kind) (S.cell 0 rfl rfl) ⟨_,rfl,?_,S⟩)))
  rw[beq_iff_eq]
  unfold iM dD
  omega
end
def dJ (ns:List Nd):List Int→List Int→List Int→Int×List Int×List Int
 |[],ws,rs=>(0,ws,rs)
 |i::r,ws,rs=>
  match ns[i.toNat-1]? with
  |none=>(0,ws,rs)
  |some n=>
   if n.chk (cI ws n.inn)≠0 then(n.chk (cI ws n.inn),ws,rs)
   else if cd n (cI rs n.inn)<0 then(15,ws,rs)
   else dJ ns r (ws.set i.toNat (n.wid (cI ws n.inn))) (rs.set i.toNat (cd n (cI rs n.inn)))
structure Nj where
 e:Int
 order:List Int
 widths:List Int
 rates:List Int
def Gr.look (g:Gr):Nj:=
 if g.first≠0 then⟨g.first,[],[],[]⟩
 else if(cU g.nodes).length≠g.nodes.length then⟨13,[],[],[]⟩
 else if(dJ g.nodes (cU g.nodes) (g.width::List.replicate g.nodes.length 0) (1::List.replicate g.nodes.length 0)).1≠0 then⟨(dJ g.nodes (cU g.nodes) (g.width::List.replicate g.nodes.length 0) (1::List.replicate g.nodes.length 0)).1,[],[],[]⟩
 else⟨0,cU g.nodes,(dJ g.nodes (cU g.nodes) (g.width::List.replicate g.nodes.length 0) (1::List.replicate g.nodes.length 0)).2.1,(dJ g.nodes (cU g.nodes) (g.width::List.replicate g.nodes.length 0) (1::List.replicate g.nodes.length 0)).2.2⟩
theorem fT (ns:List Nd): ∀(k:Nat) (x:Int),x∈(bR ns k).tail→1≤x∧x≤(ns.length:Int)
 |0,x,h=>by simp[bR] at h
 |k+1,x,h=>by
  have ih:=fT ns k x
  simp only[bR,nz] at h
  split at h
  ·rename_i i hi
   rw[eC] at h
   simp only[List.cons_append,List.tail_cons,List.mem_append,List.mem_singleton] at h
   rcases h with h|h
   ·exact ih h
   ·obtain⟨j,n,hj,hn,_⟩:=wm hi
    have:=(List.getElem?_eq_some_iff.1 hn).1
    omega
  ·exact ih h
theorem bW {g:Gr} (h:g.first=0):1≤g.nodes.length∧g.nodes.length≤12∧(1≤g.width∧g.width≤16)∧(g.low≤g.high∧ -32768≤g.low∧g.high≤32767)∧(1≤g.out∧g.out≤(g.nodes.length:Int))∧ ∀n∈g.nodes,bo 0 g.nodes.length n.inn:=by
 unfold Gr.first at h
 split at h
 ·cases h
 split at h
 ·cases h
 split at h
 ·rename_i h1 h2 h3
  exact⟨by omega,by omega,by omega,by omega,by omega,h3⟩
 ·cases h
end Go.Proofs.YtdhpmegbmjoekaaGreatDoor.G
end
section
namespace Go.Proofs.YtdhpmegbmjoekaaGreatDoor.G
open Go Go.Sh
set_option linter.unusedVariables false
set_option linter.unusedSimpArgs false
def xZ (k:Nj) (h:ae) (v:Value) (h':ae):Prop:=
 ∃o w r:Sl,v= .tuple #[.agg #[o.v,w.v,r.v],.int .i64 k.e]∧o.xs=k.order∧w.xs=k.widths∧r.xs=k.rates∧o.ok∧w.ok∧r.ok∧aK h no h' [own 1 o.p o.l o.c (az o.xs),own 1 w.p w.l w.c (az w.xs),own 1 r.p r.l r.c (az r.xs)] []
theorem xZ.err {k:Nj} {h h':ae} {W R:List bi} (S:aK h no h' W R) {e:Int} (hk:k=⟨e,[],[],[]⟩):xZ k h (.tuple #[.agg #[.slice none 0 0,.slice none 0 0,.slice none 0 0],.int .i64 e]) h':=by
 subst hk
 refine⟨Sl.nil,Sl.nil,Sl.nil,rfl,rfl,rfl,rfl,⟨rfl,Nat.le_refl _⟩,⟨rfl,Nat.le_refl _⟩,⟨rfl,Nat.le_refl _⟩,?_⟩
 exact(((GQ (S.pw [])).nil 1).nil 1).nil 1
theorem LC {xs js:List Int} {B:Int} (hB: ∀x∈xs,0≤x∧x≤B) (h0:0≤B):0≤(cI xs js).getD 0 0∧(cI xs js).getD 0 0≤B:=by
 rw[List.getD_eq_getElem?_getD]
 cases js with
 |nil=>exact⟨Int.le_refl _,h0⟩
 |cons j r=>
  simp only[cI,List.map_cons,List.getElem?_cons_zero,Option.getD_some]
  rw[List.getD_eq_getElem?_getD]
  cases hx:xs[j.toNat]? with
  |none=>exact⟨Int.le_refl _,h0⟩
  |some y=>exact hB y (List.mem_of_getElem? hx)
section
variable {h:ae}
theorem jS {b1 b3 b31 bw br:Nat} {gv:Gv} {q:Option Addr} {m d:Nat} {g:ae} (hok:gv.ok) (hfirst:gv.gr.first=0) (hs: ∀n∈gv.ns,n.inn.l<2 ^ 40∧n.weights.l<2 ^ 62∧n.bias.l<2 ^ 62) (ho:(cU gv.gr.nodes).length=gv.gr.nodes.length) (hm:(cU gv.gr.nodes).length=m)
 (S:aK h no g [blk b1 gv.cells,blk b3 [.slice none 0 0,.slice none 0 0,.slice none 0 0],blk b31 [.slice q m d,.slice (some ⟨bw,0,none⟩) (gv.l+1) (gv.l+1),.slice (some ⟨br,0,none⟩) (gv.l+1) (gv.l+1)],own 1 q m d (az (cU gv.gr.nodes)),
  blk bw (az (gv.width::List.replicate gv.gr.nodes.length 0)),blk br (az (1::List.replicate gv.gr.nodes.length 0))] [blk 0 (az aS),row gv.p (aF gv.ns),aZ gv.ns]):
 bB (fun K1 s h'=>dV (xZ gv.gr.look h) K1 s.1 s.2.1 s.2.2.1 s.2.2.2.1.1 s.2.2.2.1.2.1 s.2.2.2.1.2.2 s.2.2.2.2.1 s.2.2.2.2.2.1 h') (⟨b1,0,none⟩,⟨b3,0,none⟩,⟨b31,0,none⟩,(q,m,d),(m:Int),(0:Int),()) g:=by
 have hgl:=hok.1
 have hgn:gv.gr.nodes.length=gv.l:=by rw[←hgl];simp[Gv.gr]
 obtain⟨_,h12,_,_,_,hins⟩:=bW hfirst
 obtain⟨nds,ends⟩: ∃nds,gv.gr.nodes=nds:=⟨_,rfl⟩
 obtain⟨ord,eord⟩: ∃ord,cU nds=ord:=⟨_,rfl⟩
 have hordm: ∀x∈ord,1≤x∧x≤(nds.length:Int):=fun x hx=>fT nds nds.length x (by rw[←eord] at hx;exact hx)
 rw[ends] at S hins h12 hgn ho hm
 rw[eord] at S ho hm
 have elook: ∀r,dJ nds ord (gv.width::List.replicate nds.length 0) (1::List.replicate nds.length 0)=r→gv.gr.look=if r.1≠0 then⟨r.1,[],[],[]⟩ else⟨0,ord,r.2.1,r.2.2⟩:=by
  intro r hr
  unfold Gr.look
  rw[if_neg (by rw[hfirst];simp),ends,eord,if_neg (by rw[ho];simp)]
  have:gv.gr.width=gv.width:=rfl
  rw[this,hr]
 refine aT (fun mm s g=> ∃(i:Nat) (ws rs:List Int),s=(⟨b1,0,none⟩,⟨b3,0,none⟩,⟨b31,0,none⟩,(q,m,d),(m:Int),(i:Int),())∧i≤m∧mm=m-i∧ws.length=gv.l+1∧rs.length=gv.l+1∧(∀x∈rs,0≤x∧x≤((4 ^ i:Nat):Int))∧
  dJ nds (ord.drop i) ws rs=dJ nds ord (gv.width::List.replicate nds.length 0) (1::List.replicate nds.length 0)∧
  aK h no g [blk b1 gv.cells,blk b3 [.slice none 0 0,.slice none 0 0,.slice none 0 0],blk b31 [.slice q m d,.slice (some ⟨bw,0,none⟩) (gv.l+1) (gv.l+1),.slice (some ⟨br,0,none⟩) (gv.l+1) (gv.l+1)],own 1 q m d (az ord),
   blk bw (az ws),blk br (az rs)] [blk 0 (az aS),row gv.p (aF gv.ns),aZ gv.ns]) m
  ⟨0,_,_,rfl,by omega,rfl,by simp[hgn],by simp[hgn],?_,by rw[List.drop_zero],S⟩ ?_
 ·intro x hx
  simp only[List.mem_cons,List.mem_replicate] at hx
  rcases hx with rfl|⟨_,rfl⟩
  ·decide
  ·decide
 clear S
 rintro mm s g ⟨i,ws,rs,rfl,hi,rfl,hwl,hrl,hrs,hlk,S⟩
 unfold dV
 simp only[aY,Nat.zero_add]
 refine au (fun hlt=> ?_) (fun hge=> ?_)
 ·have hix:i<ord.length:=by omega
  have hi12:i<12:=by omega
  obtain⟨qa,eqa⟩:=(S.own 3 rfl).row.some_of (by rw[aB];omega)
  have hq:bT g (some qa) (az ord):=by rw[←eqa];exact(S.own 3 rfl).row
  have hxo:=hordm _ (List.getElem_mem hix)
  obtain⟨k,ek⟩: ∃k:Nat,ord[i]=((k+1:Nat):Int):=⟨(ord[i]-1).toNat,by omega⟩
  rw[List.drop_eq_getElem_cons hix,ek] at hlk
  have hkn:k<nds.length:=by omega
  have hkv:k<gv.ns.length:=by omega
  obtain⟨nv,en⟩: ∃n,gv.ns[k]? =some n:=⟨_,List.getElem?_eq_getElem hkv⟩
  have hmem:=List.mem_of_getElem? en
  have nok:=hok.2.2 nv hmem
  have hsz:=hs nv hmem
  have endk:nds[k]? =some nv.nd:=by rw[←ends];simp[Gv.gr,en]
  have hndm:nv.nd∈nds:=List.mem_of_getElem? endk
  have hinb:=hins nv.nd hndm
  refine aG eqa rfl (by omega) ?_
  simp only[Int.toNat_natCast,Nat.mul_one]
  refine af (n:=((k+1:Nat):Int)) (hq.cell (aN (by rw[List.getElem?_eq_getElem hix,ek]))) ?_
  refine am (p:=gv.p) (l:=gv.l) (c:=gv.c) (S.cell 0 rfl rfl) ?_
  have ewr:IntKind.wrap .i64 (((k+1:Nat):Int)-1)=(k:Int):=by rw[al (by omega)];omega
  rw[ewr]
  obtain⟨a,ea⟩:=(S.row 1 rfl).some_of (by rw[bY];omega)
  have hrow:bT g (some a) (aF gv.ns):=by rw[←ea];exact S.row 1 rfl
  refine aG ea rfl (by omega) ?_
  simp only[Int.toNat_natCast]
  refine kD hrow en ?_
  refine aC S fun b49 g2 _ S=> ?_
  dsimp only[List.cons_append,List.nil_append] at S
  refine cG S 6 rfl rfl (bC rfl) fun g3 _ S=> ?_
  dsimp only[List.set] at S
  have nrow: ∀{g:ae} {W:List bi},aK h no g W [blk 0 (az aS),row gv.p (aF gv.ns),aZ gv.ns]→nv.rows.P g:=fun S=>S.r 2 _ rfl _ (List.mem_map_of_mem hmem)
  have irow: ∀{g:ae} {W:List bi},aK h no g W [blk 0 (az aS),row gv.p (aF gv.ns),aZ gv.ns]→bT g nv.inn.p (az nv.inn.xs):=fun S=>nrow S nv.inn.row (by simp)
  refine am (p:=some ⟨bw,0,none⟩) (l:=gv.l+1) (c:=gv.l+1) (S.cell 2 rfl rfl) (am (p:=nv.inn.p) (l:=nv.inn.l) (c:=nv.inn.c) (S.cell 6 rfl rfl) ?_)
  have ilen:nv.inn.xs.length=nv.inn.l:=nok.1.1
  refine(Kt (bT.of_at (S.at 4 rfl)) (irow S) hwl ilen (by omega) (fun j hj=>by have:=hinb j hj;omega)).mono ?_
  rintro _ g4 ⟨bp,rfl,S1⟩
  replace S:=S.add S1 fun _ _ h=>h
  dsimp only[List.cons_append,List.nil_append] at S
  refine⟨_,_,_,rfl,?_⟩
  refine aQ S 6 rfl (x:=nv.t) rfl ?_
  have hpl:(cI ws nv.inn.xs).length=nv.inn.l:=by unfold cI;rw[List.length_map,ilen]
  refine(Dc nok (nrow S) (by omega) hsz.2.1 hsz.2.2 (S.r 0 _ rfl) (bT.of_at (S.at 7 rfl)) hpl (by omega)).mono ?_
  rintro _ _ ⟨rfl,F⟩
  refine⟨_,rfl,?_⟩
  replace S:=S.fra0 F
  have estep:dJ nds (((k+1:Nat):Int)::ord.drop (i+1)) ws rs=if nv.nd.chk (cI ws nv.inn.xs)≠0 then(nv.nd.chk (cI ws nv.inn.xs),ws,rs) else if cd nv.nd (cI rs nv.inn.xs)<0 then(15,ws,rs)
   else dJ nds (ord.drop (i+1)) (ws.set (k+1) (nv.nd.wid (cI ws nv.inn.xs))) (rs.set (k+1) (cd nv.nd (cI rs nv.inn.xs))):=by
   conv=>lhs;unfold dJ
   rw[show(((k+1:Nat):Int)).toNat=k+1 from rfl,Nat.add_sub_cancel,endk]
   rfl
  rw[estep] at hlk
  refine bj (fun hc=> ?_) (fun hc=> ?_)
  ·rw[if_pos hc] at hlk
   have el:=elook _ hlk.symm
   rw[if_pos hc] at el
   refine aJ S 1 rfl (Nat.le_of_ble_eq_true rfl) fun _ _ S=> ?_
   dsimp only[List.set] at S
   refine aJ S 1 rfl (Nat.le_of_ble_eq_true rfl) fun _ _ S=> ?_
   dsimp only[List.set] at S
   refine aJ S 1 rfl (Nat.le_of_ble_eq_true rfl) fun _ _ S=> ?_
   dsimp only[List.set] at S
   refine am (p:=none) (l:=0) (c:=0) (S.cell 1 rfl rfl) (am (p:=none) (l:=0) (c:=0) (S.cell 1 rfl rfl) (am (p:=none) (l:=0) (c:=0) (S.cell 1 rfl rfl) ?_))
   exact xZ.err S el
  ·rw[if_neg (fun h=>h hc)] at hlk
   obtain⟨c1,c2,c3,c4,c5,c6,c7,c8,c9,c10,_⟩:=iH hc
   have hi1:1≤nv.inn.l:=by have:(cI ws nv.nd.inn).length=nv.inn.l:=hpl;omega
   have csz:=(yt nv _).1 c10
   refine aQ S 6 rfl (x:=nv.t) rfl ?_
   refine am (p:=some ⟨br,0,none⟩) (l:=gv.l+1) (c:=gv.l+1) (S.cell 2 rfl rfl) (am (p:=nv.inn.p) (l:=nv.inn.l) (c:=nv.inn.c) (S.cell 6 rfl rfl) ?_)
   refine(Kt (bT.of_at (S.at 5 rfl)) (irow S) hrl ilen (by omega) (fun j hj=>by have:=hinb j hj;omega)).mono ?_
   rintro _ g5 ⟨bp2,rfl,S1⟩
   replace S:=S.add S1 fun _ _ h=>h
   dsimp only[List.cons_append,List.nil_append] at S
   refine⟨_,_,_,rfl,?_⟩
   refine eW S 6 rfl rfl ?_
   have hpl2:(cI rs nv.inn.xs).length=nv.inn.l:=by unfold cI;rw[List.length_map,ilen]
   have h4i:(4 ^ i:Nat)≤4 ^ 12:=Nat.pow_le_pow_right (by decide) (by omega)
   have hr0:=LC (js:=nv.inn.xs) hrs (Int.natCast_nonneg _)
   have hzg:(-2 ^ 20≤nv.size∧nv.size≤2 ^ 20)∧(-2 ^ 20≤nv.gap∧nv.gap≤2 ^ 20)∧(dD nv.kind→1≤nv.step∧nv.step≤4):=by
    have e0:=(yr nv).1 c9
    refine⟨?_,?_,fun f=>(csz.2.1 f).1⟩
    ·by_cases hw:iM nv.kind
     ·have:=csz.1 hw;omega
     ·have:=e0.2.1 ⟨fun f=>hw (.inl f),fun f=>hw (.inr f)⟩;omega
    ·by_cases hf:dD nv.kind
     ·have:=(csz.2.1 hf).2.1;omega
     ·have:=(e0.1 hf).2.1;omega
   refine(OY (S.r 0 _ rfl) (bT.of_at (S.at 8 rfl)) hpl2 hi1 (by omega) (by omega) (fun f=>by have:=hzg.2.2 f;omega) c4.1 hzg.1 hzg.2.1).mono ?_
   rintro _ _ ⟨rfl,F⟩
   refine⟨_,_,rfl,?_⟩
   replace S:=S.fra0 F
   refine bf (S.cell 2 rfl rfl) (bN (au (fun hrn=> ?_) (fun hrn=> ?_)))
   ·have nlt: ¬cd nv.nd (cI rs nv.inn.xs)<0:=by omega
    rw[if_neg nlt] at hlk ⊢
    refine aQ S 6 rfl (x:=nv.t) rfl ?_
    refine am (p:=some ⟨bw,0,none⟩) (l:=gv.l+1) (c:=gv.l+1) (S.cell 2 rfl rfl) (am (p:=some ⟨br,0,none⟩) (l:=gv.l+1) (c:=gv.l+1) (S.cell 2 rfl rfl) ?_)
    refine(M5 nok (nrow S) (by omega) hsz.2.1 hsz.2.2 (S.r 0 _ rfl) (bT.of_at (S.at 7 rfl)) hpl (by omega)).mono ?_
    rintro _ _ ⟨rfl,F⟩
    refine⟨_,rfl,?_⟩
    replace S:=S.fra0 F
    refine bf (S.cell 2 rfl rfl) (bf (S.cell 2 rfl rfl) (aG rfl (k:=k+1) rfl (by omega) ?_))
    simp only[Int.toNat_natCast,Nat.mul_one,aY,Nat.zero_add]
    refine aJ S 4 rfl (by rw[aB];omega) fun g6 _ S=> ?_
    rw[ck] at S
    dsimp only[List.set] at S
    refine bf (S.cell 2 rfl rfl) (aG rfl (k:=k+1) rfl (by omega) ?_)
    simp only[Int.toNat_natCast,Nat.mul_one,aY,Nat.zero_add]
    refine aJ S 5 rfl (by rw[aB];omega) fun g7 _ S=> ?_
    rw[ck] at S
    dsimp only[List.set] at S
    rw[al (by omega)]
    refine⟨m-(i+1),by omega,i+1,_,_,rfl,by omega,rfl,by rw[List.length_set];exact hwl,by rw[List.length_set];exact hrl,fun x hx=> ?_,hlk,S.pw [0,1,2,3,4,5]⟩
    have e4:((4 ^ (i+1):Nat):Int)=4*((4 ^ i:Nat):Int):=by rw[Nat.pow_succ];omega
    rcases List.mem_or_eq_of_mem_set hx with hx|rfl
    ·have:=hrs x hx;omega
    ·refine⟨by omega,?_⟩
     unfold cd
     split
     ·omega
     split
     ·omega
     split
     ·omega
     ·have hst:0≤fg nv.nd.kind nv.nd.step∧fg nv.nd.kind nv.nd.step≤4:=by
       unfold fg;split
       ·rename_i h;have:=hzg.2.2 h;exact⟨by show 0≤nv.step;omega,by show nv.step≤4;omega⟩
       ·decide
      have:=Int.mul_le_mul hr0.2 hst.2 hst.1 (by omega)
      omega
   ·have lt:cd nv.nd (cI rs nv.inn.xs)<0:=by omega
    rw[if_pos lt] at hlk
    have el:=elook _ hlk.symm
    rw[if_pos (by show(15:Int)≠0;decide)] at el
    refine aJ S 1 rfl (Nat.le_of_ble_eq_true rfl) fun _ _ S=> ?_
    dsimp only[List.set] at S
    refine aJ S 1 rfl (Nat.le_of_ble_eq_true rfl) fun _ _ S=> ?_
    dsimp only[List.set] at S
    refine aJ S 1 rfl (Nat.le_of_ble_eq_true rfl) fun _ _ S=> ?_
    dsimp only[List.set] at S
    refine am (p:=none) (l:=0) (c:=0) (S.cell 1 rfl rfl) (am (p:=none) (l:=0) (c:=0) (S.cell 1 rfl rfl) (am (p:=none) (l:=0) (c:=0) (S.cell 1 rfl rfl) ?_))
    exact xZ.err S el
 ·have hil:i=m:=by omega
  rw[List.drop_of_length_le (by omega)] at hlk
  have el:=elook _ hlk.symm
  simp only[dJ,ne_eq,not_true_eq_false,if_false] at el
  refine am (p:=q) (l:=m) (c:=d) (S.cell 2 rfl rfl) (am (p:=some ⟨bw,0,none⟩) (l:=gv.l+1) (c:=gv.l+1) (S.cell 2 rfl rfl) (am (p:=some ⟨br,0,none⟩) (l:=gv.l+1) (c:=gv.l+1) (S.cell 2 rfl rfl) ?_))
  refine aJ S 1 rfl (Nat.le_of_ble_eq_true rfl) fun _ _ S=> ?_
  dsimp only[List.set] at S
  refine aJ S 1 rfl (Nat.le_of_ble_eq_true rfl) fun _ _ S=> ?_
  dsimp only[List.set] at S
  refine aJ S 1 rfl (Nat.le_of_ble_eq_true rfl) fun _ _ S=> ?_
  dsimp only[List.set] at S
  refine am (p:=q) (l:=m) (c:=d) (S.cell 1 rfl rfl) (am (p:=some ⟨bw,0,none⟩) (l:=gv.l+1) (c:=gv.l+1) (S.cell 1 rfl rfl) (am (p:=some ⟨br,0,none⟩) (l:=gv.l+1) (c:=gv.l+1) (S.cell 1 rfl rfl) ?_))
  have o:=(S.own 3 rfl).2.1
  rw[el]
  replace S:=S.toOwn 4 1 (gv.l+1) (gv.l+1) (b:=bw) (cs:=az ws) (by rw[aB];omega) (Nat.le_refl _)
  dsimp only[List.set] at S
  replace S:=S.toOwn 5 1 (gv.l+1) (gv.l+1) (b:=br) (cs:=az rs) (by rw[aB];omega) (Nat.le_refl _)
  dsimp only[List.set] at S
  rw[List.take_of_length_le (by rw[aB];omega),List.take_of_length_le (by rw[aB];omega)] at S
  exact⟨⟨q,m,d,ord⟩,⟨some ⟨bw,0,none⟩,gv.l+1,gv.l+1,ws⟩,⟨some ⟨br,0,none⟩,gv.l+1,gv.l+1,rs⟩,rfl,rfl,rfl,rfl,⟨hm,o⟩,⟨hwl,Nat.le_refl _⟩,⟨hrl,Nat.le_refl _⟩,GQ (S.pw [3,4,5])⟩
end
end Go.Proofs.YtdhpmegbmjoekaaGreatDoor.G
end
section
namespace Go.Proofs.YtdhpmegbmjoekaaGreatDoor.G
open Go Go.Sh
set_option linter.unusedVariables false
set_option linter.unusedSimpArgs false
section
variable {h:ae}
theorem Ku {gv:Gv} (hok:gv.ok) (hn:bT h gv.p (aF gv.ns)) (hr:(aZ gv.ns).P h) (hl:gv.l<2 ^ 20) (hs: ∀n∈gv.ns,n.inn.l<2 ^ 40∧n.weights.l<2 ^ 62∧n.bias.l<2 ^ 62) (hT:KT h):
 aq P fI #[gv.v] h (xZ gv.gr.look h):=by
 refine AU _ ?_
 unfold CD
 have hgl:=hok.1
 have hgn:gv.gr.nodes.length=gv.l:=by rw[←hgl];simp[Gv.gr]
 have S:=(((aK.start h no).read (blk 0 (az aS)) hT).read (row gv.p (aF gv.ns)) hn).read (aZ gv.ns) hr
 refine aC (cs:=gv.cells) S fun b1 h1 _ S=> ?_
 dsimp only[List.nil_append,List.cons_append] at S
 refine aC (cs:=[.slice none 0 0,.slice none 0 0,.slice none 0 0]) S fun b3 h2 _ S=> ?_
 dsimp only[List.nil_append,List.cons_append] at S
 refine aQ S 0 rfl (x:=gv.t) rfl ?_
 refine(Qc hok (S.row 1 rfl) (S.r 2 _ rfl) (by omega) (fun n hn=>by have:=(hs n hn).1;omega)).mono ?_
 rintro _ _ ⟨rfl,F⟩
 refine⟨_,rfl,?_⟩
 replace S:=S.fra0 F
 have three: ∀{e:Int} {g:ae},aK h no g [blk b1 gv.cells,blk b3 [.slice none 0 0,.slice none 0 0,.slice none 0 0]] [blk 0 (az aS),row gv.p (aF gv.ns),aZ gv.ns]→gv.gr.look=⟨e,[],[],[]⟩→
  bu g ⟨b3,0,none⟩ (.slice none 0 0) fun h8=>bu h8 ⟨b3,1,none⟩ (.slice none 0 0) fun h9=>bu h9 ⟨b3,2,none⟩ (.slice none 0 0) fun h10=>av h10 ⟨b3,0,none⟩ fun p11 l11 c11=>av h10 ⟨b3,1,none⟩ fun p12 l12 c12=>av h10 ⟨b3,2,none⟩ fun p13 l13 c13=>
   xZ gv.gr.look h (.tuple #[(.agg #[(.slice p11 l11 c11),(.slice p12 l12 c12),(.slice p13 l13 c13)]),(.int .i64 e)]) h10:=by
  intro e g S el
  refine aJ S 1 rfl (Nat.le_of_ble_eq_true rfl) fun _ _ S=> ?_
  dsimp only[List.set] at S
  refine aJ S 1 rfl (Nat.le_of_ble_eq_true rfl) fun _ _ S=> ?_
  dsimp only[List.set] at S
  refine aJ S 1 rfl (Nat.le_of_ble_eq_true rfl) fun _ _ S=> ?_
  dsimp only[List.set] at S
  refine am (p:=none) (l:=0) (c:=0) (S.cell 1 rfl rfl) (am (p:=none) (l:=0) (c:=0) (S.cell 1 rfl rfl) (am (p:=none) (l:=0) (c:=0) (S.cell 1 rfl rfl) ?_))
  exact xZ.err S el
 refine bj (fun hf=>three S (by unfold Gr.look;rw[if_pos hf])) (fun hf=> ?_)
 have nf: ¬gv.gr.first≠0:=fun h=>h hf
 refine am (p:=gv.p) (l:=gv.l) (c:=gv.c) (S.cell 0 rfl rfl) ?_
 refine(Jn (S.row 1 rfl) (S.r 2 _ rfl) hgl (by omega) (fun n hn=>(hok.2.2 n hn).1) (fun n hn=>by have:=(hs n hn).1;omega)).mono ?_
 rintro _ g3 ⟨q,m,d,rfl,hm,S1⟩
 replace S:=S.add S1 fun _ _ h=>h
 dsimp only[List.cons_append,List.nil_append] at S
 refine⟨_,_,_,_,rfl,?_⟩
 have enodes:gv.ns.map Nv.nd=gv.gr.nodes:=rfl
 rw[enodes] at hm S ⊢
 have hnl:gv.ns.length=gv.gr.nodes.length:=by rw[hgn,hgl]
 rw[hnl]
 refine bN (au (fun ho=> ?_) (fun ho=>three (S.pw [0,1]) (by unfold Gr.look;rw[if_neg nf,if_pos ho])))
 refine am (p:=gv.p) (l:=gv.l) (c:=gv.c) (S.cell 0 rfl rfl) (am (p:=gv.p) (l:=gv.l) (c:=gv.c) (S.cell 0 rfl rfl) ?_)
 have ew:IntKind.wrap .i64 ((gv.l:Int)+1)=((gv.l+1:Nat):Int):=by rw[al (by omega)];omega
 rw[ew]
 simp only[Int.toNat_natCast]
 have erep: ∀x:Int,(List.replicate (gv.l+1) (0:Int)).set 0 x=x::List.replicate gv.gr.nodes.length 0:=fun x=>by rw[hgn,List.replicate_succ];rfl
 have ezero:(List.replicate (gv.l+1) [Value.int .i64 0]).flatten=az (List.replicate (gv.l+1) 0):=by rw[lH];simp[az]
 have h12:=(bW hf).2.1
 refine⟨?_,?_,?_⟩
 ·refine iG S (gv.l+1) rfl rfl rfl (by decide) (by omega) (by omega) fun bw _ _ S=> ?_
  rw[ezero] at S
  dsimp only[List.cons_append,List.nil_append] at S
  refine bf (S.cell 0 rfl rfl) (bf (S.cell 0 rfl rfl) ?_)
  refine⟨?_,?_⟩
  ·refine iG S (gv.l+1) rfl rfl rfl (by decide) (by omega) (by omega) fun br _ _ S=> ?_
   rw[ezero] at S
   dsimp only[List.cons_append,List.nil_append] at S
   refine bf (S.cell 0 rfl rfl) (bf (S.cell 0 rfl rfl) ?_)
   refine aC (cs:=[.slice none 0 0,.slice none 0 0,.slice none 0 0]) S fun bk _ _ S=> ?_
   dsimp only[List.cons_append,List.nil_append] at S
   refine aJ S 5 rfl (Nat.le_of_ble_eq_true rfl) fun _ _ S=> ?_
   dsimp only[List.set] at S
   refine aJ S 5 rfl (Nat.le_of_ble_eq_true rfl) fun _ _ S=> ?_
   dsimp only[List.set] at S
   refine aJ S 5 rfl (Nat.le_of_ble_eq_true rfl) fun _ _ S=> ?_
   dsimp only[List.set] at S
   refine am (p:=some ⟨bw,0,none⟩) (l:=gv.l+1) (c:=gv.l+1) (S.cell 5 rfl rfl) (af (n:=gv.width) (S.cell 0 rfl rfl) (aG rfl (k:=0) rfl (by omega) ?_))
   refine am (p:=some ⟨br,0,none⟩) (l:=gv.l+1) (c:=gv.l+1) (S.cell 5 rfl rfl) ?_
   simp only[Int.toNat_zero,Nat.zero_mul,aY,Nat.add_zero]
   refine aJ S 3 rfl (by rw[aB,List.length_replicate];omega) fun _ _ S=> ?_
   rw[ck,erep] at S
   dsimp only[List.set] at S
   refine bf (S.cell 5 rfl rfl) (aG rfl (k:=0) rfl (by omega) ?_)
   simp only[Int.toNat_zero,Nat.zero_mul,aY,Nat.add_zero]
   refine aJ S 4 rfl (by rw[aB,List.length_replicate];omega) fun _ _ S=> ?_
   rw[ck,erep] at S
   dsimp only[List.set] at S
   exact jS hok hf hs ho hm (S.pw [0,1,5,2,3,4])
  ·refine aC (cs:=[.slice none 0 0,.slice none 0 0,.slice none 0 0]) S fun bk _ _ S=> ?_
   dsimp only[List.cons_append,List.nil_append] at S
   refine iG S (gv.l+1) rfl rfl rfl (by decide) (by omega) (by omega) fun br _ _ S=> ?_
   rw[ezero] at S
   dsimp only[List.cons_append,List.nil_append] at S
   refine bf (S.cell 0 rfl rfl) (bf (S.cell 0 rfl rfl) ?_)
   refine aJ S 4 rfl (Nat.le_of_ble_eq_true rfl) fun _ _ S=> ?_
   dsimp only[List.set] at S
   refine aJ S 4 rfl (Nat.le_of_ble_eq_true rfl) fun _ _ S=> ?_
   dsimp only[List.set] at S
   refine aJ S 4 rfl (Nat.le_of_ble_eq_true rfl) fun _ _ S=> ?_
   dsimp only[List.set] at S
   refine am (p:=some ⟨bw,0,none⟩) (l:=gv.l+1) (c:=gv.l+1) (S.cell 4 rfl rfl) (af (n:=gv.width) (S.cell 0 rfl rfl) (aG rfl (k:=0) rfl (by omega) ?_))
   refine am (p:=some ⟨br,0,none⟩) (l:=gv.l+1) (c:=gv.l+1) (S.cell 4 rfl rfl) ?_
   simp only[Int.toNat_zero,Nat.zero_mul,aY,Nat.add_zero]
   refine aJ S 3 rfl (by rw[aB,List.length_replicate];omega) fun _ _ S=> ?_
   rw[ck,erep] at S
   dsimp only[List.set] at S
   refine bf (S.cell 4 rfl rfl) (aG rfl (k:=0) rfl (by omega) ?_)
   simp only[Int.toNat_zero,Nat.zero_mul,aY,Nat.add_zero]
   refine aJ S 5 rfl (by rw[aB,List.length_replicate];omega) fun _ _ S=> ?_
   rw[ck,erep] at S
   dsimp only[List.set] at S
   exact jS hok hf hs ho hm (S.pw [0,1,4,2,3,5])
 ·refine iG S (gv.l+1) rfl rfl rfl (by decide) (by omega) (by omega) fun br _ _ S=> ?_
  rw[ezero] at S
  dsimp only[List.cons_append,List.nil_append] at S
  refine bf (S.cell 0 rfl rfl) (bf (S.cell 0 rfl rfl) ?_)
  refine⟨?_,?_⟩
  ·refine iG S (gv.l+1) rfl rfl rfl (by decide) (by omega) (by omega) fun bw _ _ S=> ?_
   rw[ezero] at S
   dsimp only[List.cons_append,List.nil_append] at S
   refine bf (S.cell 0 rfl rfl) (bf (S.cell 0 rfl rfl) ?_)
   refine aC (cs:=[.slice none 0 0,.slice none 0 0,.slice none 0 0]) S fun bk _ _ S=> ?_
   dsimp only[List.cons_append,List.nil_append] at S
   refine aJ S 5 rfl (Nat.le_of_ble_eq_true rfl) fun _ _ S=> ?_
   dsimp only[List.set] at S
   refine aJ S 5 rfl (Nat.le_of_ble_eq_true rfl) fun _ _ S=> ?_
   dsimp only[List.set] at S
   refine aJ S 5 rfl (Nat.le_of_ble_eq_true rfl) fun _ _ S=> ?_
   dsimp only[List.set] at S
   refine am (p:=some ⟨bw,0,none⟩) (l:=gv.l+1) (c:=gv.l+1) (S.cell 5 rfl rfl) (af (n:=gv.width) (S.cell 0 rfl rfl) (aG rfl (k:=0) rfl (by omega) ?_))
   refine am (p:=some ⟨br,0,none⟩) (l:=gv.l+1) (c:=gv.l+1) (S.cell 5 rfl rfl) ?_
   simp only[Int.toNat_zero,Nat.zero_mul,aY,Nat.add_zero]
   refine aJ S 4 rfl (by rw[aB,List.length_replicate];omega) fun _ _ S=> ?_
   rw[ck,erep] at S
   dsimp only[List.set] at S
   refine bf (S.cell 5 rfl rfl) (aG rfl (k:=0) rfl (by omega) ?_)
   simp only[Int.toNat_zero,Nat.zero_mul,aY,Nat.add_zero]
   refine aJ S 3 rfl (by rw[aB,List.length_replicate];omega) fun _ _ S=> ?_
   rw[ck,erep] at S
   dsimp only[List.set] at S
   exact jS hok hf hs ho hm (S.pw [0,1,5,2,4,3])
  ·refine aC (cs:=[.slice none 0 0,.slice none 0 0,.slice none 0 0]) S fun bk _ _ S=> ?_
   dsimp only[List.cons_append,List.nil_append] at S
   refine iG S (gv.l+1) rfl rfl rfl (by decide) (by omega) (by omega) fun bw _ _ S=> ?_
   rw[ezero] at S
   dsimp only[List.cons_append,List.nil_append] at S
   refine bf (S.cell 0 rfl rfl) (bf (S.cell 0 rfl rfl) ?_)
   refine aJ S 4 rfl (Nat.le_of_ble_eq_true rfl) fun _ _ S=> ?_
   dsimp only[List.set] at S
   refine aJ S 4 rfl (Nat.le_of_ble_eq_true rfl) fun _ _ S=> ?_
   dsimp only[List.set] at S
   refine aJ S 4 rfl (Nat.le_of_ble_eq_true rfl) fun _ _ S=> ?_
   dsimp only[List.set] at S
   refine am (p:=some ⟨bw,0,none⟩) (l:=gv.l+1) (c:=gv.l+1) (S.cell 4 rfl rfl) (af (n:=gv.width) (S.cell 0 rfl rfl) (aG rfl (k:=0) rfl (by omega) ?_))
   refine am (p:=some ⟨br,0,none⟩) (l:=gv.l+1) (c:=gv.l+1) (S.cell 4 rfl rfl) ?_
   simp only[Int.toNat_zero,Nat.zero_mul,aY,Nat.add_zero]
   refine aJ S 5 rfl (by rw[aB,List.length_replicate];omega) fun _ _ S=> ?_
   rw[ck,erep] at S
   dsimp only[List.set] at S
   refine bf (S.cell 4 rfl rfl) (aG rfl (k:=0) rfl (by omega) ?_)
   simp only[Int.toNat_zero,Nat.zero_mul,aY,Nat.add_zero]
   refine aJ S 3 rfl (by rw[aB,List.length_replicate];omega) fun _ _ S=> ?_
   rw[ck,erep] at S
   dsimp only[List.set] at S
   exact jS hok hf hs ho hm (S.pw [0,1,4,2,5,3])
 ·refine aC (cs:=[.slice none 0 0,.slice none 0 0,.slice none 0 0]) S fun bk _ _ S=> ?_
  dsimp only[List.cons_append,List.nil_append] at S
  refine⟨?_,?_⟩
  ·refine iG S (gv.l+1) rfl rfl rfl (by decide) (by omega) (by omega) fun bw _ _ S=> ?_
   rw[ezero] at S
   dsimp only[List.cons_append,List.nil_append] at S
   refine bf (S.cell 0 rfl rfl) (bf (S.cell 0 rfl rfl) ?_)
   refine iG S (gv.l+1) rfl rfl rfl (by decide) (by omega) (by omega) fun br _ _ S=> ?_
   rw[ezero] at S
   dsimp only[List.cons_append,List.nil_append] at S
   refine bf (S.cell 0 rfl rfl) (bf (S.cell 0 rfl rfl) ?_)
   refine aJ S 3 rfl (Nat.le_of_ble_eq_true rfl) fun _ _ S=> ?_
   dsimp only[List.set] at S
   refine aJ S 3 rfl (Nat.le_of_ble_eq_true rfl) fun _ _ S=> ?_
   dsimp only[List.set] at S
   refine aJ S 3 rfl (Nat.le_of_ble_eq_true rfl) fun _ _ S=> ?_
   dsimp only[List.set] at S
   refine am (p:=some ⟨bw,0,none⟩) (l:=gv.l+1) (c:=gv.l+1) (S.cell 3 rfl rfl) (af (n:=gv.width) (S.cell 0 rfl rfl) (aG rfl (k:=0) rfl (by omega) ?_))
   refine am (p:=some ⟨br,0,none⟩) (l:=gv.l+1) (c:=gv.l+1) (S.cell 3 rfl rfl) ?_
   simp only[Int.toNat_zero,Nat.zero_mul,aY,Nat.add_zero]
   refine aJ S 4 rfl (by rw[aB,List.length_replicate];omega) fun _ _ S=> ?_
   rw[ck,erep] at S
   dsimp only[List.set] at S
   refine bf (S.cell 3 rfl rfl) (aG rfl (k:=0) rfl (by omega) ?_)
   simp only[Int.toNat_zero,Nat.zero_mul,aY,Nat.add_zero]
   refine aJ S 5 rfl (by rw[aB,List.length_replicate];omega) fun _ _ S=> ?_
   rw[ck,erep] at S
   dsimp only[List.set] at S
   exact jS hok hf hs ho hm (S.pw [0,1,3,2,4,5])
  ·refine iG S (gv.l+1) rfl rfl rfl (by decide) (by omega) (by omega) fun br _ _ S=> ?_
   rw[ezero] at S
   dsimp only[List.cons_append,List.nil_append] at S
   refine bf (S.cell 0 rfl rfl) (bf (S.cell 0 rfl rfl) ?_)
   refine iG S (gv.l+1) rfl rfl rfl (by decide) (by omega) (by omega) fun bw _ _ S=> ?_
   rw[ezero] at S
   dsimp only[List.cons_append,List.nil_append] at S
   refine bf (S.cell 0 rfl rfl) (bf (S.cell 0 rfl rfl) ?_)
   refine aJ S 3 rfl (Nat.le_of_ble_eq_true rfl) fun _ _ S=> ?_
   dsimp only[List.set] at S
   refine aJ S 3 rfl (Nat.le_of_ble_eq_true rfl) fun _ _ S=> ?_
   dsimp only[List.set] at S
   refine aJ S 3 rfl (Nat.le_of_ble_eq_true rfl) fun _ _ S=> ?_
   dsimp only[List.set] at S
   refine am (p:=some ⟨bw,0,none⟩) (l:=gv.l+1) (c:=gv.l+1) (S.cell 3 rfl rfl) (af (n:=gv.width) (S.cell 0 rfl rfl) (aG rfl (k:=0) rfl (by omega) ?_))
   refine am (p:=some ⟨br,0,none⟩) (l:=gv.l+1) (c:=gv.l+1) (S.cell 3 rfl rfl) ?_
   simp only[Int.toNat_zero,Nat.zero_mul,aY,Nat.add_zero]
   refine aJ S 5 rfl (by rw[aB,List.length_replicate];omega) fun _ _ S=> ?_
   rw[ck,erep] at S
   dsimp only[List.set] at S
   refine bf (S.cell 3 rfl rfl) (aG rfl (k:=0) rfl (by omega) ?_)
   simp only[Int.toNat_zero,Nat.zero_mul,aY,Nat.add_zero]
   refine aJ S 4 rfl (by rw[aB,List.length_replicate];omega) fun _ _ S=> ?_
   rw[ck,erep] at S
   dsimp only[List.set] at S
   exact jS hok hf hs ho hm (S.pw [0,1,3,2,5,4])
theorem zt {gv:Gv} (hok:gv.ok) (hn:bT h gv.p (aF gv.ns)) (hr:(aZ gv.ns).P h) (hl:gv.l<2 ^ 20) (hs: ∀n∈gv.ns,n.inn.l<2 ^ 40∧n.weights.l<2 ^ 62∧n.bias.l<2 ^ 62) (hT:KT h):
 aq P jd #[gv.v] h fun v h'=>v= .int .i64 gv.gr.look.e∧cu no h h':=by
 refine yW _ ?_
 unfold zP
 have S:=(((aK.start h no).read (blk 0 (az aS)) hT).read (row gv.p (aF gv.ns)) hn).read (aZ gv.ns) hr
 refine aC (cs:=gv.cells) S fun b1 h1 _ S=> ?_
 dsimp only[List.nil_append,List.cons_append] at S
 refine aQ S 0 rfl (x:=gv.t) rfl ?_
 refine(Ku hok (S.row 1 rfl) (S.r 2 _ rfl) hl hs (S.r 0 _ rfl)).mono ?_
 rintro _ g3 ⟨o,w,r,rfl,_,_,_,_,_,_,S1⟩
 replace S:=S.add S1 fun _ _ h=>h
 dsimp only[List.cons_append,List.nil_append] at S
 refine⟨_,_,_,_,_,_,_,_,_,_,rfl,?_⟩
 refine aC (cs:=[.slice none 0 0,.slice none 0 0,.slice none 0 0]) S fun b10 _ _ S=> ?_
 dsimp only[List.cons_append,List.nil_append] at S
 refine aJ S 4 rfl (Nat.le_of_ble_eq_true rfl) fun _ _ S=> ?_
 dsimp only[List.set] at S
 refine aJ S 4 rfl (Nat.le_of_ble_eq_true rfl) fun _ _ S=> ?_
 dsimp only[List.set] at S
 refine aJ S 4 rfl (Nat.le_of_ble_eq_true rfl) fun _ _ S=> ?_
 exact⟨rfl,S.fra⟩
end
end Go.Proofs.YtdhpmegbmjoekaaGreatDoor.G
end
