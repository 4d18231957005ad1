/- All frames of all nodes (earshotref18: Streams, Eval, Ready), to the end. -/
import Derived.Test.YtbgplllcjhgdhaaGreatDoorCKeep9
namespace Go.Proofs.YtbgplllcjhgdhaaGreatDoor.G
open Go Go.Sh
set_option linter.unusedVariables false
set_option linter.unusedSimpArgs false
instance (g:Gr) (fs:List (List Int)):Decidable (okF g fs):=by unfold okF;infer_instance
section
variable {h:Heap} {gv:Gv} {W R:Int→Int} {pos:Int→Nat} {V:Int→List (List Int)} {f0:Fm}
theorem Streams18_ok (hok:gv.ok) (hn:Row h gv.p (nflat gv.ns)) (hr:(nrows gv.ns).P h) (hs: ∀n∈gv.ns,n.inn.l<2 ^ 20∧n.weights.l<2 ^ 40∧n.bias.l<2 ^ 40) (rt:Right gv.gr W R pos) (fok:f0.ok) (ff:f0.fact.P h) (fl:f0.l≤2 ^ 30)
 (hV0:V 0=f0.fr) (hV:Strm gv.gr.nodes W V) (hb: ∀x,0≤x→x≤(gv.l:Int)→(V x).length≤2 ^ 30):callP P n_ref18_Streams #[gv.v,.slice f0.p f0.l f0.c] h (StrQ gv f0 V h):=by
 refine call_ref18_Streams _ _ _ _ ?_
 unfold ref18_Streams
 have S:=(((Sep.start h no).read (row gv.p (nflat gv.ns)) hn).read (nrows gv.ns) hr).read f0.fact ff
 have hgn:gv.gr.nodes.length=gv.l:=by rw[←hok.1];simp[Gv.gr]
 have f:=first_ok rt.first
 have hl12:gv.l≤12:=by have:=f.2.1;omega
 have hgw:1≤gv.width∧gv.width≤16:=f.2.2.1
 refine newI_S (cs:=gv.cells) S fun b1 _ _ S=> ?_
 dsimp only[List.nil_append,List.cons_append] at S
 refine newI_S (cs:=[.slice none 0 0,.int .i64 0]) S fun b3 _ _ S=> ?_
 dsimp only[List.nil_append,List.cons_append] at S
 refine ldAg_S S 0 rfl (x:=gv.t) rfl ?_
 refine(Look16_ok hok (S.row 0 rfl) (S.r 1 _ rfl) (by omega) (fun n hn=>by have:=hs n hn;omega)).mono ?_
 rintro _ g2 ⟨o,w,r,rfl,ho,hw,hrr,ook,wok,rok,S1⟩
 have elk:=rt.look
 rw[elk] at ho hw hrr ⊢
 dsimp only at ho hw hrr ⊢
 replace S:=S.add S1 fun _ _ h=>h
 dsimp only[List.cons_append,List.nil_append] at S
 refine⟨_,_,_,_,_,_,_,_,_,_,rfl,?_⟩
 refine newI_S (cs:=[.slice none 0 0,.slice none 0 0,.slice none 0 0,.int .i64 0]) S fun b12 _ _ S=> ?_
 dsimp only[List.cons_append,List.nil_append] at S
 refine stI_S S 5 rfl (Nat.le_of_ble_eq_true rfl) fun _ _ S=> ?_
 dsimp only[List.set] at S
 refine stI_S S 5 rfl (Nat.le_of_ble_eq_true rfl) fun _ _ S=> ?_
 dsimp only[List.set] at S
 refine stI_S S 5 rfl (Nat.le_of_ble_eq_true rfl) fun _ _ S=> ?_
 dsimp only[List.set] at S
 refine stI_S S 5 rfl (Nat.le_of_ble_eq_true rfl) fun g3 _ S=> ?_
 dsimp only[List.set] at S
 refine ldInt_i (n:=0) (S.cell 5 rfl rfl) (ifB_false rfl ?_)
 have frs: ∀{g:Heap} {W2:List Fact},Sep h no g W2 [row gv.p (nflat gv.ns),nrows gv.ns,f0.fact]→Frs g f0.p f0.l f0.ss:=fun S=>Fm.frs fok (S.r 2 _ rfl)
 have flen:f0.ss.length=f0.l:=fok.1
 have err: ∀{e:Int} {g:Heap} {W2:List Fact},e≠0→ ¬okF gv.gr f0.fr→Sep h no g (blk b1 gv.cells::blk b3 [.slice none 0 0,.int .i64 0]::W2) [row gv.p (nflat gv.ns),nrows gv.ns,f0.fact]→
  stI g ⟨b3,0,none⟩ (.slice none 0 0) fun h39=>stI h39 ⟨b3,1,none⟩ (.int .i64 e) fun h40=>ldSlice h40 ⟨b3,0,none⟩ fun p41 l41 c41=>ldInt .i64 h40 ⟨b3,1,none⟩ fun n42=>StrQ gv f0 V h (.agg #[(.slice p41 l41 c41),(.int .i64 n42)]) h40:=by
  intro e g W2 he hnot S
  refine stI_S S 1 rfl (Nat.le_of_ble_eq_true rfl) fun _ _ S=> ?_
  dsimp only[List.set] at S
  refine stI_S S 1 rfl (Nat.le_of_ble_eq_true rfl) fun _ _ S=> ?_
  dsimp only[List.set] at S
  exact ldSlice_i (p:=none) (l:=0) (c:=0) (S.cell 1 rfl rfl) (ldInt_i (n:=e) (S.cell 1 rfl rfl) ⟨S.fra,.inr ⟨hnot,e,he,rfl⟩⟩)
 refine LoopS_i (fun mm s g=> ∃t:Nat,s=((f0.p,f0.l,f0.c),⟨b1,0,none⟩,⟨b3,0,none⟩,⟨b12,0,none⟩,(t:Int),())∧t≤f0.l∧mm=f0.l-t∧okF gv.gr (f0.fr.take t)∧
  Sep h no g [blk b1 gv.cells,blk b3 [.slice none 0 0,.int .i64 0],row o.p (ints o.xs),row w.p (ints w.xs),row r.p (ints r.xs),blk b12 [o.v,w.v,r.v,.int .i64 0]] [row gv.p (nflat gv.ns),nrows gv.ns,f0.fact]) f0.l ⟨0,rfl,by omega,rfl,by intro f hf;simp at hf,S⟩ ?_
 clear S
 rintro mm s g ⟨t,rfl,ht,rfl,hokt,S⟩
 unfold ref18_Streams_l5
 simp only[add_mk,Nat.zero_add]
 refine ifB_dec (fun hlt=> ?_) (fun hge=> ?_)
 ·obtain⟨s,es⟩: ∃s,f0.ss[t]? =some s:=⟨_,List.getElem?_eq_getElem (by omega)⟩
  have hmem:=List.mem_of_getElem? es
  have sok:=fok.2.2 s hmem
  have slen:s.xs.length=s.l:=sok.1.1
  have hfm:s.xs∈f0.fr:=List.mem_of_getElem? (fsOf_get es)
  obtain⟨a,ea⟩:=(frs S).row.some_of (by rw[slv_length];omega)
  have ldt: ∀{g:Heap} {W2:List Fact},Sep h no g W2 [row gv.p (nflat gv.ns),nrows gv.ns,f0.fact]→cellH g (a.add t)=some s.v:=fun S=>by
   have:=(frs S).row
   rw[ea] at this
   exact this.cell (slv_get es)
  refine idxI_i ea rfl (by omega) ?_
  simp only[Int.toNat_natCast,Nat.mul_one]
  refine ldSlice_i (p:=s.p) (l:=s.l) (c:=s.c) (ldt S) (ldInt_i (n:=gv.width) (S.cell 0 rfl rfl) (ifB_bne (fun hne=> ?_) (fun he=> ?_)))
  ·exact err (by decide) (fun hf=>hne (by have:=(hf s.xs hfm).1;rw[slen] at this;exact this)) S
  refine LoopS_i (fun mm z g=> ∃k:Nat,z=((f0.p,f0.l,f0.c),⟨b1,0,none⟩,⟨b3,0,none⟩,⟨b12,0,none⟩,(t:Int),(k:Int),())∧k≤s.l∧mm=s.l-k∧(∀x∈s.xs.take k,gv.low≤x∧x≤gv.high)∧
   Sep h no g [blk b1 gv.cells,blk b3 [.slice none 0 0,.int .i64 0],row o.p (ints o.xs),row w.p (ints w.xs),row r.p (ints r.xs),blk b12 [o.v,w.v,r.v,.int .i64 0]] [row gv.p (nflat gv.ns),nrows gv.ns,f0.fact]) s.l ⟨0,rfl,by omega,rfl,by intro x hx;simp at hx,S⟩ ?_
  clear S
  rintro mm z g ⟨k,rfl,hk,rfl,hxk,S⟩
  unfold ref18_Streams_l10
  simp only[add_mk,Nat.zero_add]
  refine ldInt_i (n:=gv.width) (S.cell 0 rfl rfl) (ifB_dec (fun hlt2=> ?_) (fun hge2=> ?_))
  ·have hkx:k<s.xs.length:=by omega
   have sr: ∀{g:Heap} {W2:List Fact},Sep h no g W2 [row gv.p (nflat gv.ns),nrows gv.ns,f0.fact]→Row g s.p (ints s.xs):=fun S=>(frs S).rows _ (List.mem_map_of_mem hmem)
   obtain⟨b,eb⟩:=(sr S).some_of (by rw[ints_length];omega)
   have ldx:cellH g (b.add k)=some (.int .i64 s.xs[k]):=by
    have:=sr S
    rw[eb] at this
    exact this.cell (ints_get (List.getElem?_eq_getElem hkx))
   have hx:s.xs[k]∈s.xs:=List.getElem_mem hkx
   refine idxI_i ea rfl (by omega) (ldSlice_i (p:=s.p) (l:=s.l) (c:=s.c) (by simp only[Int.toNat_natCast,Nat.mul_one];exact ldt S) (idxI_i eb rfl (by omega) ?_))
   simp only[Int.toNat_natCast,Nat.mul_one]
   refine ldInt_i ldx (ldInt_i (n:=gv.low) (S.cell 0 rfl rfl) (ifB_dec (fun h1=> ?_) (fun h1=> ?_)))
   ·exact err (by decide) (fun hf=>by have:gv.low≤_:=((hf s.xs hfm).2 _ hx).1;omega) S
   refine idxI_i ea rfl (by omega) (ldSlice_i (p:=s.p) (l:=s.l) (c:=s.c) (ldt S) (idxI_i eb rfl (by omega) ?_))
   refine ldInt_i (n:=s.xs[k]) ldx (ldInt_i (n:=gv.high) (S.cell 0 rfl rfl) (ifB_dec (fun h2=> ?_) (fun h2=> ?_)))
   ·exact err (by decide) (fun hf=>by have:_≤gv.high:=((hf s.xs hfm).2 _ hx).2;omega) S
   rw[wrap64_in (by omega)]
   refine⟨s.l-(k+1),by omega,k+1,rfl,by omega,rfl,fun x hx=> ?_,S⟩
   rw[List.take_succ_eq_append_getElem hkx] at hx
   rcases List.mem_append.1 hx with hx|hx
   ·exact hxk x hx
   ·simp only[List.mem_singleton] at hx;subst hx;omega
  ·have:k=s.l:=by omega
   subst this
   rw[List.take_of_length_le (by omega)] at hxk
   rw[wrap64_in (by omega)]
   refine⟨f0.l-(t+1),by omega,t+1,rfl,by omega,rfl,fun f hf=> ?_,S⟩
   have htf:t<f0.fr.length:=by unfold Fm.fr;rw[fsOf_length];omega
   have hft:f0.fr[t]=s.xs:=by
    have:=fsOf_get es
    have this:f0.fr[t]? =_:=this
    rw[List.getElem?_eq_getElem htf] at this;exact Option.some.inj this
   rw[List.take_succ_eq_append_getElem htf,hft] at hf
   rcases List.mem_append.1 hf with hf|hf
   ·exact hokt f hf
   ·simp only[List.mem_singleton] at hf;subst hf
    exact⟨by show(s.xs.length:Int)=gv.width;omega,hxk⟩
 ·have:t=f0.l:=by omega
  subst this
  rw[List.take_of_length_le (by unfold Fm.fr;rw[fsOf_length];omega)] at hokt
  refine ldSlice_i (p:=gv.p) (l:=gv.l) (c:=gv.c) (S.cell 0 rfl rfl) ?_
  have ew:IntKind.wrap .i64 ((gv.l:Int)+1)=((gv.l+1:Nat):Int):=by rw[wrap64_in (by omega)];omega
  rw[ew]
  simp only[Int.toNat_natCast]
  refine mkI_S S (gv.l+1) rfl rfl rfl (by decide) (by omega) (by omega) fun bS g4 _ S=> ?_
  rw[repl_one] at S
  dsimp only[List.cons_append,List.nil_append] at S
  refine idxI_i rfl (k:=0) rfl (by omega) ?_
  simp only[Int.toNat_zero,Nat.zero_mul,add_mk,Nat.add_zero]
  refine stI_S S 6 rfl (by rw[List.length_replicate];omega) fun g5 _ S=> ?_
  dsimp only[List.set] at S
  replace S:=S.reads0
  dsimp only[List.cons_append,List.nil_append] at S
  refine streams_l17_ok (f0:=f0) (V:=V) hok hs rt fok hV0 hV hb ho hw ook wok (fun g F Z hF S=> ?_) ?_ S
  ·refine stI_S S 1 rfl (Nat.le_of_ble_eq_true rfl) fun g6 hg6 S2=> ?_
   dsimp only[List.set] at S2
   refine stI_S S2 1 rfl (Nat.le_of_ble_eq_true rfl) fun g7 hg7 S3=> ?_
   dsimp only[List.set] at S3
   refine ldSlice_i (p:=some ⟨bS,0,none⟩) (l:=gv.l+1) (c:=gv.l+1) (S3.cell 1 rfl rfl) (ldInt_i (n:=0) (S3.cell 1 rfl rfl) ⟨S3.fra,.inl ⟨hokt,bS,_,rfl,Row.of_at (S3.at 6 rfl),by simp,fun x f hx=> ?_⟩⟩)
   by_cases hxl:x<gv.l+1
   ·rw[List.getElem?_map,List.getElem?_range hxl] at hx
    cases hx
    obtain⟨q1,q2,q3⟩:=hF x (by omega)
    refine⟨q1,q2,?_⟩
    rcases q3 with h|h
    ·show(F (x:Int)).fact.P _
     rw[h];exact S3.r 2 _ rfl
    ·exact h.1 _ (S3.w 7 _ rfl)
   ·rw[List.getElem?_map,List.getElem?_eq_none (by simp;omega)] at hx
    cases hx
  ·apply List.ext_getElem?
   intro x
   unfold cellsK
   by_cases hxl:x<gv.l+1
   ·rw[List.getElem?_map,List.getElem?_range hxl,Option.map_some,List.getElem?_set,List.length_replicate]
    by_cases h0:0=x
    ·subst h0
     rw[if_pos rfl,if_pos hxl,if_pos (by simp)]
    ·rw[if_neg h0,List.getElem?_replicate,if_pos hxl,if_neg (by rw[List.mem_singleton];omega)]
   ·rw[List.getElem?_eq_none (by simp;omega),List.getElem?_eq_none (by simp;omega)]
def evalF (g:Gr) (fs:List (List Int)) (V:Int→List (List Int)):List (List Int):=if okF g fs then V g.out else[]
theorem Eval18_ok (hok:gv.ok) (hn:Row h gv.p (nflat gv.ns)) (hr:(nrows gv.ns).P h) (hs: ∀n∈gv.ns,n.inn.l<2 ^ 20∧n.weights.l<2 ^ 40∧n.bias.l<2 ^ 40) (rt:Right gv.gr W R pos) (fok:f0.ok) (ff:f0.fact.P h) (fl:f0.l≤2 ^ 30)
 (hV0:V 0=f0.fr) (hV:Strm gv.gr.nodes W V) (hb: ∀x,0≤x→x≤(gv.l:Int)→(V x).length≤2 ^ 30):callP P n_ref18_Eval #[gv.v,.slice f0.p f0.l f0.c] h (FmE (evalF gv.gr f0.fr V) h):=by
 refine call_ref18_Eval _ _ _ _ ?_
 unfold ref18_Eval
 have S:=(((Sep.start h no).read (row gv.p (nflat gv.ns)) hn).read (nrows gv.ns) hr).read f0.fact ff
 have hgn:gv.gr.nodes.length=gv.l:=by rw[←hok.1];simp[Gv.gr]
 have f:=first_ok rt.first
 have fo:1≤gv.out∧gv.out≤(gv.gr.nodes.length:Int):=f.2.2.2.2.1
 refine newI_S (cs:=gv.cells) S fun b1 _ _ S=> ?_
 dsimp only[List.nil_append,List.cons_append] at S
 refine ldAg_S S 0 rfl (x:=gv.t) rfl ?_
 refine(Streams18_ok hok (S.row 0 rfl) (S.r 1 _ rfl) hs rt fok (S.r 2 _ rfl) fl hV0 hV hb).mono ?_
 rintro _ g2 ⟨F,hq⟩
 replace S:=S.fra0 F
 rcases hq with ⟨hf,bS,fs,rfl,hrow,hlen,hall⟩|⟨hf,e,he,rfl⟩
 ·obtain⟨ov,eov⟩: ∃ov:Nat,gv.out=(ov:Int):=⟨gv.out.toNat,by omega⟩
  obtain⟨fx,efx⟩: ∃f,fs[ov]? =some f:=⟨_,List.getElem?_eq_getElem (by omega)⟩
  obtain⟨q1,q2,q3⟩:=hall ov fx efx
  have S0:=((Sep.start g2 no).read (row (some ⟨bS,0,none⟩) (fmv fs)) hrow).read fx.fact q3
  have Fr:=S.fra
  refine⟨_,_,_,_,rfl,?_⟩
  refine newI_S (cs:=[.slice none 0 0,.int .i64 0]) S0 fun b8 _ _ S0=> ?_
  dsimp only[List.nil_append,List.cons_append] at S0
  refine stI_S S0 0 rfl (Nat.le_of_ble_eq_true rfl) fun _ _ S0=> ?_
  dsimp only[List.set] at S0
  refine stI_S S0 0 rfl (Nat.le_of_ble_eq_true rfl) fun g3 _ S0=> ?_
  dsimp only[List.set] at S0
  replace S:=S.fra0 S0.fra
  refine ldInt_i (n:=0) (S0.cell 0 rfl rfl) (ifB_false rfl ?_)
  refine ldSlice_i (p:=some ⟨bS,0,none⟩) (l:=gv.l+1) (c:=gv.l+1) (S0.cell 0 rfl rfl) (ldInt_i (n:=(ov:Int)) (by rw[←eov];exact S.cell 0 rfl rfl) (idxI_i rfl (k:=ov) rfl (by omega) ?_))
  simp only[Int.toNat_natCast,Nat.mul_one]
  refine ldSlice_i (p:=fx.p) (l:=fx.l) (c:=fx.c) ((S0.row 0 rfl).cell (fmv_get efx)) ?_
  have ee:evalF gv.gr f0.fr V=V (ov:Int):=by
   unfold evalF
   rw[if_pos hf]
   show V gv.out=_
   rw[eov]
  rw[ee]
  exact⟨fx,rfl,q1,q2,S.fra,S0.r 1 _ rfl⟩
 ·have ee:evalF gv.gr f0.fr V=[]:=by unfold evalF;rw[if_neg hf]
  rw[ee]
  refine⟨_,_,_,_,rfl,?_⟩
  refine newI_S (cs:=[.slice none 0 0,.int .i64 0]) S fun b8 _ _ S=> ?_
  dsimp only[List.nil_append,List.cons_append] at S
  refine stI_S S 1 rfl (Nat.le_of_ble_eq_true rfl) fun _ _ S=> ?_
  dsimp only[List.set] at S
  refine stI_S S 1 rfl (Nat.le_of_ble_eq_true rfl) fun g3 _ S=> ?_
  dsimp only[List.set] at S
  refine ldInt_i (n:=e) (S.cell 1 rfl rfl) (ifB_true (by simpa using he) ?_)
  exact FmE.nil S.fra
theorem Ready18_ok {C:Int→Int} (hok:gv.ok) (hn:Row h gv.p (nflat gv.ns)) (hr:(nrows gv.ns).P h) (hs: ∀n∈gv.ns,n.inn.l<2 ^ 20∧n.weights.l<2 ^ 40∧n.bias.l<2 ^ 40) (rt:Right gv.gr W R pos) (fok:f0.ok) (ff:f0.fact.P h) (fl:f0.l≤2 ^ 30)
 (hV0:V 0=f0.fr) (hV:Strm gv.gr.nodes W V) (hb: ∀x,0≤x→x≤(gv.l:Int)→(V x).length≤2 ^ 30)
 (hC0:C 0=(f0.l:Int)) (hC: ∀(i:Nat) (n:Nd),gv.gr.nodes[i]? =some n→C ((i:Int)+1)=readyN n (n.inn.map C)) (hCb: ∀x,0≤x→x≤(gv.l:Int)→0≤C x∧C x≤((V x).length:Int)):
 callP P n_ref18_Ready #[gv.v,.slice f0.p f0.l f0.c] h (FmE ((evalF gv.gr f0.fr V).take (C gv.out).toNat) h):=by
 refine call_ref18_Ready _ _ _ _ ?_
 unfold ref18_Ready
 have S:=(((Sep.start h no).read (row gv.p (nflat gv.ns)) hn).read (nrows gv.ns) hr).read f0.fact ff
 have hgn:gv.gr.nodes.length=gv.l:=by rw[←hok.1];simp[Gv.gr]
 have f:=first_ok rt.first
 have fo:1≤gv.out∧gv.out≤(gv.gr.nodes.length:Int):=f.2.2.2.2.1
 refine newI_S (cs:=gv.cells) S fun b1 _ _ S=> ?_
 dsimp only[List.nil_append,List.cons_append] at S
 refine ldAg_S S 0 rfl (x:=gv.t) rfl ?_
 refine(Eval18_ok hok (S.row 0 rfl) (S.r 1 _ rfl) hs rt fok (S.r 2 _ rfl) fl hV0 hV hb).mono ?_
 rintro _ g2 ⟨fx,rfl,q1,q2,F,q3⟩
 replace S:=S.fra0 F
 have flen:=Fm.len q1
 refine⟨_,_,_,rfl,ifB_beq (fun hz=> ?_) (fun hz=> ?_)⟩
 ·have:evalF gv.gr f0.fr V=[]:=by rw[←q2];exact List.length_eq_zero_iff.1 (by omega)
  rw[this,List.take_nil]
  exact FmE.nil S.fra
 have hf:okF gv.gr f0.fr:=by
  apply Decidable.byContradiction
  intro hf
  have:evalF gv.gr f0.fr V=[]:=by unfold evalF;rw[if_neg hf]
  rw[←q2] at this
  rw[this] at flen
  simp at flen;omega
 have ee:evalF gv.gr f0.fr V=V gv.out:=by unfold evalF;rw[if_pos hf];rfl
 obtain⟨ov,eov⟩: ∃ov:Nat,gv.out=(ov:Int):=⟨gv.out.toNat,by omega⟩
 have hCo:=hCb gv.out (by omega) (by omega)
 obtain⟨m,em⟩: ∃m:Nat,C gv.out=(m:Int):=⟨(C gv.out).toNat,by omega⟩
 rw[ee] at q2
 rw[←q2,flen] at hCo
 have hml:m≤fx.c:=by have:=q1.2.1;omega
 have hml2:m≤fx.l:=by omega
 refine ldAg_S S 0 rfl (x:=gv.t) rfl (ldInt_i (n:=gv.out) (S.cell 0 rfl rfl) ?_)
 have hr18:=Readies18_ok (V:=C) (h:=g2) hok (S.row 0 rfl) (S.r 1 _ rfl) hs rt hC fun x h0 h1=>by
  have h2:=hCb x h0 h1
  have h3:=hb x h0 h1
  omega
 rw[hC0] at hr18
 refine hr18.mono ?_
 rintro _ g3 ⟨b,rfl,S1⟩
 have S2:=((Sep.start g2 no).read fx.fact q3).add S1 fun _ _ h=>h
 dsimp only[List.cons_append,List.nil_append] at S2
 replace S:=S.add S1 fun _ _ h=>h
 dsimp only[List.cons_append,List.nil_append] at S
 refine⟨_,_,_,rfl,S.cell 0 rfl rfl,idxI_i rfl (k:=ov) eov (by omega) ?_⟩
 rw[eov]
 simp only[Int.toNat_natCast,add_mk,Nat.zero_add,Nat.mul_one]
 refine ldInt_i (n:=C (ov:Int)) (S.cell 1 rfl (ints_get (by rw[List.getElem?_map,List.getElem?_range (by omega)];rfl))) ?_
 rw[eov] at em
 have q12:=q1.2.1
 refine bndI_i em hml ?_
 have e0:(if fx.c=0 then fx.p else Option.map (fun a=>Addr.add a 0) fx.p)=fx.p:=sl0 fx.c 0 fx.p
 rw[e0,ee,eov,em,Int.toNat_natCast,Nat.sub_zero,Nat.sub_zero]
 rw[eov] at q2
 refine⟨⟨fx.p,m,fx.c,fx.ss.take m⟩,rfl,⟨by show(fx.ss.take m).length=m;rw[List.length_take,q1.1,Nat.min_eq_left hml2],hml,fun s hs=>q1.2.2 s (List.mem_of_mem_take hs)⟩,?_,S.fra,fun x hx=> ?_⟩
 ·rw[←q2]
  show fsOf (fx.ss.take m)=(fsOf fx.ss).take m
  unfold fsOf
  rw[List.map_take]
 ·have frs:=Fm.frs q1 (S2.r 0 _ rfl)
  simp only[List.mem_cons,List.not_mem_nil,or_false] at hx
  rcases hx with rfl|rfl
  ·have:=Row.take frs.row m
   show Row _ _ (slv (fx.ss.take m))
   unfold slv
   rw[List.map_take];exact this
  ·intro y hy
   obtain⟨s,hs,rfl⟩:=List.mem_map.1 hy
   exact frs.rows _ (List.mem_map_of_mem (List.mem_of_mem_take hs))
end
end Go.Proofs.YtbgplllcjhgdhaaGreatDoor.G
