/- Contracts: a frame of a node, of frames (earshotref17): column, may. -/
import Derived.Test.YtbgplllcjhgdhaaGreatDoorCKeep
import Derived.Test.YtbgplllcjhgdhaaGreatDoorCGraph5
namespace Go.Proofs.YtbgplllcjhgdhaaGreatDoor.G
open Go Go.Sh
set_option linter.unusedVariables false
set_option linter.unusedSimpArgs false
def slv (ss:List Sl):List Value:=ss.map Sl.v
theorem slv_length (ss:List Sl):(slv ss).length=ss.length:=by simp[slv]
theorem slv_get {ss:List Sl} {i:Nat} {s:Sl} (h:ss[i]? =some s):(slv ss)[i]? =some s.v:=by simp[slv,h]
theorem slv_one {ss:List Sl}: ∀y∈slv ss,one1 y=true:=by
 intro y hy;obtain⟨s,_,rfl⟩:=List.mem_map.1 hy;rfl
def srows (ss:List Sl):Fact:=reads (ss.map Sl.row)
structure Frs (h:Heap) (p:Option Addr) (l:Nat) (ss:List Sl):Prop where
 row:Row h p (slv ss)
 rows:(srows ss).P h
 len:ss.length=l
 ok: ∀s∈ss,s.ok∧s.l<2 ^ 40
def fsOf (ss:List Sl):List (List Int):=ss.map Sl.xs
theorem fsOf_length (ss:List Sl):(fsOf ss).length=ss.length:=by simp[fsOf]
theorem fsOf_get {ss:List Sl} {i:Nat} {s:Sl} (h:ss[i]? =some s):(fsOf ss)[i]? =some s.xs:=by simp[fsOf,h]
def wordR (x:Int):Prop:= -2147483648≤x∧x<2147483648
instance (x:Int):Decidable (wordR x):=by unfold wordR;infer_instance
def mayC (n:Nd) (m:Nat):Prop:=(wins n.kind→(m:Int)=n.size)∧(n.kind=5→1≤m)∧(many n.kind→m=n.inn.length)∧(¬wins n.kind→ ¬many n.kind→n.kind≠5→m=1)
instance (n:Nd) (m:Nat):Decidable (mayC n m):=by unfold mayC;infer_instance
def widthsF (n:Nd) (fs:List (List Int)):List Int:=if many n.kind then fs.map fun f=>(f.length:Int) else(fs.take 1).map fun f=>(f.length:Int)
def mayF (n:Nd) (fs:List (List Int)):Prop:=
 mayC n fs.length∧(∀f∈fs,∀x∈f,wordR x)∧(¬many n.kind→ ∀f∈fs,f.length=(fs.getD 0 []).length)∧0<fs.length∧n.chk (widthsF n fs)=0
instance (n:Nd) (fs:List (List Int)):Decidable (mayF n fs):=by unfold mayF;infer_instance
section
variable {h:Heap}
theorem column17_ok {p:Option Addr} {l c:Nat} {ss:List Sl} (F:Frs h p l ss) (hl:l<2 ^ 40) {k:Nat} (hk: ∀s∈ss,k<s.l):
 callP P n_ref17_column #[.slice p l c,.int .i64 (k:Int)] h fun v h'=> ∃(q:Option Addr) (d:Nat),v= .slice q l d∧Sep h no h' [own 1 q l d (ints ((fsOf ss).map fun f=>f.getD k 0))] []:=by
 refine call_ref17_column _ _ _ _ ?_
 unfold ref17_column
 have S:=(((Sep.start h no).read (row p (slv ss)) F.row).read (srows ss) F.rows).nil 1
 dsimp only[List.nil_append,List.cons_append] at S
 have hlen:=F.len
 refine LoopS_i (fun mm s g=> ∃(t:Nat) (q:Option Addr) (m d:Nat),s=((p,l,c),(k:Int),(q,m,d),(t:Int),())∧t≤l∧mm=l-t∧m=t∧Sep h no g [own 1 q m d (ints (((fsOf ss).take t).map fun f=>f.getD k 0))] [row p (slv ss),srows ss]) l ⟨0,none,0,0,rfl,by omega,rfl,rfl,S⟩ ?_
 clear S
 rintro mm s g ⟨t,q,m,d,rfl,ht,rfl,rfl,S⟩
 unfold ref17_column_l3
 dsimp only
 refine ifB_dec (fun hlt=> ?_) (fun hge=> ?_)
 ·obtain⟨s,es⟩: ∃s,ss[m]? =some s:=⟨_,List.getElem?_eq_getElem (by omega)⟩
  have hmem:=List.mem_of_getElem? es
  have sok:=F.ok s hmem
  have slen:s.xs.length=s.l:=sok.1.1
  have hks:=hk s hmem
  have pr:=S.row 0 rfl
  obtain⟨a,ea⟩:=pr.some_of (by rw[slv_length];omega)
  rw[ea] at pr
  refine idxI_i ea rfl (by omega) ?_
  simp only[Int.toNat_natCast,Nat.mul_one]
  refine ldSlice_i (p:=s.p) (l:=s.l) (c:=s.c) (pr.cell (slv_get es)) ?_
  have sr:Row g s.p (ints s.xs):=S.r 1 _ rfl _ (List.mem_map_of_mem hmem)
  obtain⟨b,eb⟩:=sr.some_of (by rw[ints_length];omega)
  rw[eb] at sr
  refine idxI_i eb (k:=k) rfl (by omega) ?_
  have hkx:k<s.xs.length:=by omega
  refine ldInt_i (n:=s.xs[k]) (sr.cell (ints_get (List.getElem?_eq_getElem hkx))) ?_
  refine newI_S (cs:=[.int .i64 s.xs[k]]) S fun b6 g2 _ S=> ?_
  dsimp only[List.cons_append,List.nil_append] at S
  refine appI_S S 0 (ys:=ints [s.xs[k]]) rfl rfl (by decide) (by omega) (Row.of_at (S.at 1 rfl)) rfl vals_one fun p2 l2 c2 g3 hl2 S=> ?_
  dsimp only[List.set] at S
  have hmf:m<(fsOf ss).length:=by rw[fsOf_length];omega
  have e:ints (((fsOf ss).take m).map fun f=>f.getD k 0)++ints [s.xs[k]]=ints (((fsOf ss).take (m+1)).map fun f=>f.getD k 0):=by
   have h1:(fsOf ss)[m]=s.xs:=by
    have:=fsOf_get es
    rw[List.getElem?_eq_getElem hmf] at this;exact Option.some.inj this
   rw[List.take_succ_eq_append_getElem hmf,h1]
   simp only[ints,List.map_append,List.map_cons,List.map_nil]
   rw[getD_eq hkx]
  rw[e] at S
  rw[wrap64_in (by omega)]
  exact⟨l-(m+1),by omega,m+1,p2,l2,c2,rfl,by omega,rfl,hl2,S.pw [0]⟩
 ·have:m=l:=by omega
  subst this
  rw[List.take_of_length_le (by rw[fsOf_length];omega)] at S
  exact⟨q,d,rfl,noR S⟩
theorem may17_j5_ok {nv:Nv} (hok:nv.ok) (hli:nv.inn.l<2 ^ 62) (hlw:nv.weights.l<2 ^ 62) (hlb:nv.bias.l<2 ^ 62) {b1:Nat} {p:Option Addr} {l c:Nat} {ss:List Sl} (hlen:ss.length=l) (hsok: ∀s∈ss,s.ok∧s.l<2 ^ 40) (hl:l<2 ^ 40) (hc:mayC nv.nd l) {g:Heap}
 (S:Sep h no g [blk b1 nv.cells] [row p (slv ss),srows ss,nv.rows]):
 ref17_may_j5 (fun v h'=>v= .bool (decide (mayF nv.nd (fsOf ss)))∧Fra no h h') p l c ⟨b1,0,none⟩ (decide (many nv.kind)) g:=by
 unfold ref17_may_j5
 have hfl:(fsOf ss).length=l:=by rw[fsOf_length];exact hlen
 have no0: ∀{g:Heap} {W:List Fact},Sep h no g W [row p (slv ss),srows ss,nv.rows]→ ¬mayF nv.nd (fsOf ss)→Value.bool false= .bool (decide (mayF nv.nd (fsOf ss)))∧Fra no h g:=fun S hm=>⟨by rw[decide_eq_false hm],S.fra⟩
 replace S:=S.nil 1
 dsimp only[List.nil_append,List.cons_append] at S
 have hk:nv.nd.kind=nv.kind:=rfl
 have wT: ∀t,t≤l→widthsF nv.nd ((fsOf ss).take t)=if many nv.kind then((fsOf ss).take t).map fun f=>(f.length:Int) else(((fsOf ss).take t).take 1).map fun f=>(f.length:Int):=fun t _=>rfl
 refine LoopS_i (fun mm s g=> ∃(t:Nat) (q:Option Addr) (m d:Nat),s=((p,l,c),⟨b1,0,none⟩,decide (many nv.kind),(q,m,d),(t:Int),())∧t≤l∧mm=l-t∧(widthsF nv.nd ((fsOf ss).take t)).length=m∧m≤t∧
  (∀f∈(fsOf ss).take t,∀x∈f,wordR x)∧(¬many nv.kind→ ∀f∈(fsOf ss).take t,f.length=((fsOf ss).getD 0 []).length)∧
  Sep h no g [blk b1 nv.cells,own 1 q m d (ints (widthsF nv.nd ((fsOf ss).take t)))] [row p (slv ss),srows ss,nv.rows]) l
  ⟨0,none,0,0,rfl,by omega,rfl,by unfold widthsF;split<;>rfl,by omega,by simp,by simp,by
    have:widthsF nv.nd ((fsOf ss).take 0)=[]:=by unfold widthsF;split<;>rfl
    rw[this];exact S⟩ ?_
 clear S
 rintro mm s g ⟨t,q,m,d,rfl,ht,rfl,hm,hmt,hword,heq,S⟩
 unfold ref17_may_l7
 dsimp only
 refine ifB_dec (fun hlt=> ?_) (fun hge=> ?_)
 ·obtain⟨s,es⟩: ∃s,ss[t]? =some s:=⟨_,List.getElem?_eq_getElem (by omega)⟩
  have hmem:=List.mem_of_getElem? es
  have sok:=hsok s hmem
  have slen:s.xs.length=s.l:=sok.1.1
  have htf:t<(fsOf ss).length:=by omega
  have hft:(fsOf ss)[t]=s.xs:=by
   have:=fsOf_get es
   rw[List.getElem?_eq_getElem htf] at this;exact Option.some.inj this
  have htk:(fsOf ss).take (t+1)=(fsOf ss).take t++[s.xs]:=by rw[List.take_succ_eq_append_getElem htf,hft]
  have hsm:s.xs∈fsOf ss:=List.mem_of_getElem? (fsOf_get es)
  obtain⟨s0,es0⟩: ∃s,ss[0]? =some s:=⟨_,List.getElem?_eq_getElem (by omega)⟩
  have s0len:s0.xs.length=s0.l:=(hsok s0 (List.mem_of_getElem? es0)).1.1
  have hg0:(fsOf ss).getD 0 []=s0.xs:=by rw[List.getD_eq_getElem?_getD,fsOf_get es0];rfl
  have et:IntKind.wrap .i64 ((t:Int)+1)=((t+1:Nat):Int):=by rw[wrap64_in (by omega)];rfl
  obtain⟨a,ea⟩:=(S.row 0 rfl).some_of (by rw[slv_length];omega)
  have ldt: ∀{g:Heap} {W:List Fact},Sep h no g W [row p (slv ss),srows ss,nv.rows]→cellH g (a.add t)=some s.v:=fun S=>by
   have:=S.row 0 rfl
   rw[ea] at this
   exact this.cell (slv_get es)
  have ld0: ∀{g:Heap} {W:List Fact},Sep h no g W [row p (slv ss),srows ss,nv.rows]→cellH g (a.add 0)=some s0.v:=fun S=>by
   have:=S.row 0 rfl
   rw[ea] at this
   exact this.cell (slv_get es0)
  refine LoopS_i (fun mm z g=> ∃k:Nat,z=((p,l,c),⟨b1,0,none⟩,decide (many nv.kind),(q,m,d),(t:Int),(k:Int),())∧k≤s.l∧mm=s.l-k∧(∀x∈s.xs.take k,wordR x)∧
   Sep h no g [blk b1 nv.cells,own 1 q m d (ints (widthsF nv.nd ((fsOf ss).take t)))] [row p (slv ss),srows ss,nv.rows]) s.l ⟨0,rfl,by omega,rfl,by simp,S⟩ ?_
  clear S
  rintro mm z g ⟨k,rfl,hk2,rfl,hwk,S⟩
  unfold ref17_may_l10
  dsimp only
  refine idxI_i ea rfl (by omega) ?_
  simp only[Int.toNat_natCast,Nat.mul_one]
  refine ldSlice_i (p:=s.p) (l:=s.l) (c:=s.c) (ldt S) ?_
  refine ifB_dec (fun hlt2=> ?_) (fun hge2=> ?_)
  ·have hkx:k<s.xs.length:=by omega
   refine idxI_i ea rfl (by omega) (ldSlice_i (p:=s.p) (l:=s.l) (c:=s.c) (ldt S) ?_)
   have sr:Row g s.p (ints s.xs):=S.r 1 _ rfl _ (List.mem_map_of_mem hmem)
   obtain⟨b,eb⟩:=sr.some_of (by rw[ints_length];omega)
   rw[eb] at sr
   refine idxI_i eb rfl (by omega) ?_
   refine ldInt_i (n:=s.xs[k]) (sr.cell (ints_get (List.getElem?_eq_getElem hkx))) ?_
   refine(Word_ok _).mono ?_
   rintro _ _ ⟨rfl,rfl⟩
   refine⟨_,rfl,ifB_not (ifB_dec (fun hw=> ?_) (fun hw=>no0 S fun hmay=>hw (hmay.2.1 s.xs hsm _ (List.getElem_mem hkx))))⟩
   rw[wrap64_in (n:=(k:Int)+1) (by omega)]
   refine⟨s.l-(k+1),by omega,k+1,rfl,by omega,rfl,fun x hx=> ?_,S⟩
   rw[List.take_succ_eq_append_getElem hkx] at hx
   rcases List.mem_append.1 hx with hx|hx
   ·exact hwk x hx
   ·simp only[List.mem_singleton] at hx;subst hx;exact hw
  ·rw[List.take_of_length_le (by omega)] at hwk
   have hword2: ∀f∈(fsOf ss).take (t+1),∀x∈f,wordR x:=fun f hf x hx=>by
    rw[htk] at hf
    rcases List.mem_append.1 hf with hf|hf
    ·exact hword f hf x hx
    ·simp only[List.mem_singleton] at hf;subst hf;exact hwk x hx
   have add:(t=0∨many nv.kind)→ ∀{P2:Prop},(∀(p2:Option Addr) (l2 c2:Nat) (g3:Heap),l2=m+1→(widthsF nv.nd ((fsOf ss).take (t+1))).length=l2→Sep h no g3 [blk b1 nv.cells,own 1 p2 l2 c2 (ints (widthsF nv.nd ((fsOf ss).take (t+1))))] [row p (slv ss),srows ss,nv.rows]→True)→True:=fun _ _ _=>trivial
   have wstep:(t=0∨many nv.kind)→widthsF nv.nd ((fsOf ss).take (t+1))=widthsF nv.nd ((fsOf ss).take t)++[(s.l:Int)]:=fun hc=>by
    rw[htk,←slen]
    unfold widthsF
    rw[hk]
    by_cases hmn:many nv.kind
    ·rw[if_pos hmn,if_pos hmn,List.map_append];rfl
    ·rw[if_neg hmn,if_neg hmn]
     rcases hc with h0|h0
     ·subst h0;rfl
     ·exact absurd h0 hmn
   have wsame: ¬(t=0∨many nv.kind)→widthsF nv.nd ((fsOf ss).take (t+1))=widthsF nv.nd ((fsOf ss).take t):=fun hc=>by
    have hmn: ¬many nv.kind:=fun h=>hc (.inr h)
    have ht0:1≤t:=by
     have: ¬t=0:=fun h=>hc (.inl h)
     omega
    unfold widthsF
    rw[hk,if_neg hmn,if_neg hmn,List.take_take,List.take_take,Nat.min_eq_left (by omega),Nat.min_eq_left ht0]
   have heq2:(¬many nv.kind→s.l=s0.l)→ ¬many nv.kind→ ∀f∈(fsOf ss).take (t+1),f.length=((fsOf ss).getD 0 []).length:=fun he hmn f hf=>by
    rw[htk] at hf
    rcases List.mem_append.1 hf with hf|hf
    ·exact heq hmn f hf
    ·simp only[List.mem_singleton] at hf;subst hf
     rw[hg0,slen,s0len];exact he hmn
   rw[et]
   refine ifB_beq (fun h0=> ?_) (fun h0=> ?_)
   ·have ht0:t=0:=by omega
    have hss:s=s0:=by subst ht0;rw[es] at es0;exact Option.some.inj es0
    refine idxI_i ea rfl (by omega) (ldSlice_i (p:=s.p) (l:=s.l) (c:=s.c) (ldt S) ?_)
    refine newI_S (cs:=[.int .i64 ((s.l:Nat):Int)]) S fun b23 g2 _ S=> ?_
    dsimp only[List.cons_append,List.nil_append] at S
    refine appI_S S 1 (ys:=ints [(s.l:Int)]) rfl rfl (by decide) (by omega) (Row.of_at (S.at 2 rfl)) rfl vals_one fun p2 l2 c2 g3 hl2 S=> ?_
    dsimp only[List.set] at S
    have e:ints (widthsF nv.nd ((fsOf ss).take t))++ints [(s.l:Int)]=ints (widthsF nv.nd ((fsOf ss).take (t+1))):=by rw[wstep (.inl ht0)];simp only[ints,List.map_append]
    rw[e] at S
    exact⟨l-(t+1),by omega,t+1,p2,l2,c2,rfl,by omega,rfl,by rw[wstep (.inl ht0),List.length_append,hm];exact hl2.symm,by omega,hword2,heq2 (fun _=>by rw[hss]),S.pw [0,1]⟩
   ·refine ifB_dec (fun hmn=> ?_) (fun hmn=> ?_)
    ·refine idxI_i ea rfl (by omega) (ldSlice_i (p:=s.p) (l:=s.l) (c:=s.c) (ldt S) ?_)
     refine newI_S (cs:=[.int .i64 ((s.l:Nat):Int)]) S fun b23 g2 _ S=> ?_
     dsimp only[List.cons_append,List.nil_append] at S
     refine appI_S S 1 (ys:=ints [(s.l:Int)]) rfl rfl (by decide) (by omega) (Row.of_at (S.at 2 rfl)) rfl vals_one fun p2 l2 c2 g3 hl2 S=> ?_
     dsimp only[List.set] at S
     have e:ints (widthsF nv.nd ((fsOf ss).take t))++ints [(s.l:Int)]=ints (widthsF nv.nd ((fsOf ss).take (t+1))):=by rw[wstep (.inr hmn)];simp only[ints,List.map_append]
     rw[e] at S
     exact⟨l-(t+1),by omega,t+1,p2,l2,c2,rfl,by omega,rfl,by rw[wstep (.inr hmn),List.length_append,hm];exact hl2.symm,by omega,hword2,heq2 (fun h=>absurd hmn h),S.pw [0,1]⟩
    ·refine idxI_i ea rfl (by omega) (idxI_i ea (k:=0) rfl (by omega) (ldSlice_i (p:=s.p) (l:=s.l) (c:=s.c) (ldt S) ?_))
     refine ldSlice_i (p:=s0.p) (l:=s0.l) (c:=s0.c) (ld0 S) ?_
     refine ifB_bne (fun hne=>no0 S fun hmay=> ?_) (fun he=> ?_)
     ·have:=hmay.2.2.1 hmn s.xs hsm
      rw[hg0] at this;omega
     ·have hnc: ¬(t=0∨many nv.kind):=by
       rintro(h|h)
       ·exact h0 (by omega)
       ·exact hmn h
      exact⟨l-(t+1),by omega,t+1,q,m,d,rfl,by omega,rfl,by rw[wsame hnc];exact hm,by omega,hword2,heq2 (fun _=>by omega),by rw[wsame hnc];exact S⟩
 ·have htl:t=l:=by omega
  subst htl
  rw[List.take_of_length_le (by omega)] at hword heq hm S
  refine ifB_dec (fun hpos=> ?_) (fun hpos=>no0 S fun hmay=>by have:=hmay.2.2.2.1;omega)
  refine ldAg_S S 0 rfl (x:=nv.t) rfl ?_
  refine(Check14_ok hok (S.r 2 _ rfl) hli hlw hlb (S.own 1 rfl).row hm (by omega)).mono ?_
  rintro _ g2 ⟨rfl,F⟩
  refine⟨_,rfl,?_,(S.fra0 F).fra⟩
  congr 1
  rw[Bool.eq_iff_iff,beq_iff_eq,decide_eq_true_iff]
  exact⟨fun h=>⟨by rw[hfl];exact hc,hword,heq,by omega,h⟩,fun h=>h.2.2.2.2⟩
theorem may17_ok {nv:Nv} (hok:nv.ok) (hr:nv.rows.P h) (hli:nv.inn.l<2 ^ 62) (hlw:nv.weights.l<2 ^ 62) (hlb:nv.bias.l<2 ^ 62) {p:Option Addr} {l c:Nat} {ss:List Sl} (F:Frs h p l ss) (hl:l<2 ^ 40):
 callP P n_ref17_may #[nv.v,.slice p l c] h fun v h'=>v= .bool (decide (mayF nv.nd (fsOf ss)))∧Fra no h h':=by
 refine call_ref17_may _ _ _ _ ?_
 unfold ref17_may
 have S:=(((Sep.start h no).read (row p (slv ss)) F.row).read (srows ss) F.rows).read nv.rows hr
 have hlen:=F.len
 have hfl:(fsOf ss).length=l:=by rw[fsOf_length];exact hlen
 have hk:nv.nd.kind=nv.kind:=rfl
 have hil:nv.nd.inn.length=nv.inn.l:=hok.1.1
 have hsz:nv.nd.size=nv.size:=rfl
 refine newI_S (cs:=nv.cells) S fun b1 h1 _ S=> ?_
 dsimp only[List.nil_append,List.cons_append] at S
 refine ldInt_i (n:=nv.kind) (S.cell 0 rfl rfl) ?_
 refine(Windows14_ok nv.kind).mono ?_
 rintro _ g2 ⟨rfl,hg2⟩
 subst hg2
 refine⟨_,rfl,ldInt_i (n:=nv.kind) (S.cell 0 rfl rfl) ?_⟩
 refine(Many14_ok nv.kind).mono ?_
 rintro _ g3 ⟨rfl,hg3⟩
 subst hg3
 refine⟨_,rfl,?_⟩
 have bad: ¬mayC nv.nd l→Value.bool false= .bool (decide (mayF nv.nd (fsOf ss)))∧Fra no h g3:=fun hc=>⟨by rw[decide_eq_false (fun hm=>hc (by have:=hm.1;rw[hfl] at this;exact this))],S.fra⟩
 refine⟨fun s g=>s=((p,l,c),⟨b1,0,none⟩,decide (many nv.kind),())∧mayC nv.nd l∧Sep h no g [blk b1 nv.cells] [row p (slv ss),srows ss,nv.rows],?_,?_⟩
 ·rintro s g ⟨rfl,hc,S⟩
  exact may17_j5_ok hok hli hlw hlb hlen F.ok hl hc S
 ·have ldk:cellH g3 ⟨b1,0,none⟩=some (.int .i64 nv.kind):=S.cell 0 rfl rfl
  have lds:cellH g3 ⟨b1,3,none⟩=some (.int .i64 nv.size):=S.cell 0 rfl rfl
  have ldi:cellH g3 ⟨b1,1,none⟩=some (.slice nv.inn.p nv.inn.l nv.inn.c):=S.cell 0 rfl rfl
  have good:mayC nv.nd l→(((p,l,c),⟨b1,0,none⟩,decide (many nv.kind),()):(Option Addr×Nat×Nat)×Addr×Bool×Unit)=((p,l,c),⟨b1,0,none⟩,decide (many nv.kind),())∧mayC nv.nd l∧Sep h no g3 [blk b1 nv.cells] [row p (slv ss),srows ss,nv.rows]:=fun hc=>⟨rfl,hc,S⟩
  have mC:mayC nv.nd l↔(wins nv.kind→(l:Int)=nv.size)∧(nv.kind=5→1≤l)∧(many nv.kind→l=nv.inn.l)∧(¬wins nv.kind→ ¬many nv.kind→nv.kind≠5→l=1):=by
   unfold mayC
   rw[hk,hil,hsz]
  rw[mC] at bad
  replace good:=fun hc=>good (mC.2 hc)
  repeat' (first
   |refine ldInt_i ldk ?_
   |refine ldInt_i lds ?_
   |refine ldSlice_i ldi ?_
   |refine ifB_not ?_
   |refine ifB_dec (fun _=> ?_) (fun _=> ?_)
   |refine ifB_beq (fun _=> ?_) (fun _=> ?_)
   |refine ifB_bne (fun _=> ?_) (fun _=> ?_)
   |(refine bad ?_;clear bad good;rintro⟨h1,h2,h3,h4⟩;clear S F hr hok ldk lds ldi
     first
      |(have:=h1 (by assumption);omega)
      |(have:=h2 (by assumption);omega)
      |(have:=h3 (by assumption);omega)
      |(have:=h4 (by assumption) (by assumption) (by assumption);omega))
   |(refine good ⟨fun _=> ?_,fun _=> ?_,fun _=> ?_,fun _ _ _=> ?_⟩<;>first|contradiction|omega))
end
end Go.Proofs.YtbgplllcjhgdhaaGreatDoor.G
