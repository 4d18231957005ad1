/- CBnd CBnd2 CRng CRng2, in one text. -/
import Derived.Test.YtdhpmegbmjoekaaGreatDoorCSat
import Derived.Test.YtdhpmegbmjoekaaGreatDoorCKindP3
import Derived.Test.YtdhpmegbmjoekaaGreatDoorCRight
section
namespace Go.Proofs.YtdhpmegbmjoekaaGreatDoor.G
open Go Go.Sh
set_option linter.unusedVariables false
set_option linter.unusedSimpArgs false
structure Rg where
 lo:Int
 hi:Int
 alo:Int
 ahi:Int
def Rg.cells (r:Rg):List Value:=[.int .i64 r.lo,.int .i64 r.hi,.int .i64 r.alo,.int .i64 r.ahi]
abbrev Rg.v (r:Rg):Value:= .agg #[.int .i64 r.lo,.int .i64 r.hi,.int .i64 r.alo,.int .i64 r.ahi]
def sameR (l u:Int):Rg:=⟨l,u,l,u⟩
def endsI (ws:List Int) (b l u:Int):Int×Int:=ws.foldl (fun s w=>if w<0 then(w64 (s.1+w64 (w*u)),w64 (s.2+w64 (w*l))) else(w64 (s.1+w64 (w*l)),w64 (s.2+w64 (w*u)))) (b,b)
def Nd.each (n:Nd):Nat:=n.weights.length / n.bias.length
def Nd.ends (n:Nd) (l u:Int) (c:Nat):Int×Int:=endsI ((n.weights.drop (c*n.each)).take n.each) (n.bias.getD c 0) l u
def endsF (n:Nd) (l u:Int) (k:Nat):Int×Int:=(List.range k).foldl (fun s c=>(if(n.ends l u c).1<s.1 then(n.ends l u c).1 else s.1,if(n.ends l u c).2>s.2 then(n.ends l u c).2 else s.2)) (n.ends l u 0)
def weighedR (n:Nd) (l u:Int):Rg:=
 ⟨postP n (endsF n l u n.bias.length).1,postP n (endsF n l u n.bias.length).2,(endsF n l u n.bias.length).1,(endsF n l u n.bias.length).2⟩
section
variable {h:Heap}
theorem put4_S {h0:Heap} {T:Nat→Prop} {W R:List Fact} {b:Nat} {r0 r1 r2 r3:Value} (S:Sep h0 T h (blk b [r0,r1,r2,r3]::W) R) (r:Rg) {K:Value→Heap→Prop} (H: ∀h',Sep h0 T h' (blk b r.cells::W) R→K r.v h'):
 stI h ⟨b,0,none⟩ (.int .i64 r.lo) fun h1=>stI h1 ⟨b,1,none⟩ (.int .i64 r.hi) fun h2=>stI h2 ⟨b,2,none⟩ (.int .i64 r.alo) fun h3=>stI h3 ⟨b,3,none⟩ (.int .i64 r.ahi) fun h4=>
  ldInt .i64 h4 ⟨b,0,none⟩ fun n0=>ldInt .i64 h4 ⟨b,1,none⟩ fun n1=>ldInt .i64 h4 ⟨b,2,none⟩ fun n2=>ldInt .i64 h4 ⟨b,3,none⟩ fun n3=>K (.agg #[.int .i64 n0,.int .i64 n1,.int .i64 n2,.int .i64 n3]) h4:=by
 refine stI_S S 0 rfl (Nat.le_of_ble_eq_true rfl) fun _ _ S=> ?_
 dsimp only[List.set] at S
 refine stI_S S 0 rfl (Nat.le_of_ble_eq_true rfl) fun _ _ S=> ?_
 dsimp only[List.set] at S
 refine stI_S S 0 rfl (Nat.le_of_ble_eq_true rfl) fun _ _ S=> ?_
 dsimp only[List.set] at S
 refine stI_S S 0 rfl (Nat.le_of_ble_eq_true rfl) fun _ _ S=> ?_
 dsimp only[List.set] at S
 exact ldInt_i (S.cell 0 rfl rfl) (ldInt_i (S.cell 0 rfl rfl) (ldInt_i (S.cell 0 rfl rfl) (ldInt_i (S.cell 0 rfl rfl) (H _ S))))
theorem sameR_ok (l u:Int):callP P n_bound_same #[.int .i64 l,.int .i64 u] h fun v h'=>v=(sameR l u).v∧Fra no h h':=by
 refine call_bound_same _ _ ?_
 unfold bound_same
 have S:=Sep.start h no
 refine newI_S S (fun b1 _ _ S=> ?_)
 dsimp only[List.nil_append] at S
 exact put4_S S (sameR l u) (K:=fun v g=>v=(sameR l u).v∧Fra no h g) fun h' S=>⟨rfl,S.fra⟩
theorem each_le {n:Nd} {c:Nat} (hc:c<n.bias.length):(c+1)*n.each≤n.weights.length:=by
 unfold Nd.each
 exact Nat.le_trans (Nat.mul_le_mul_right _ hc) (Nat.mul_div_le _ _)
theorem wends_ok {nv:Nv} (hok:nv.ok) (hr:nv.rows.P h) {b1 b2 b3 b4:Nat} {l u:Int} (h8:cellH h ⟨b1,8,none⟩=some nv.weights.v) (h9:cellH h ⟨b1,9,none⟩=some nv.bias.v)
 (he:cellH h ⟨b2,0,none⟩=some (.int .i64 (nv.nd.each:Int))) (hu:cellH h ⟨b3,0,none⟩=some (.int .i64 u)) (hl:cellH h ⟨b4,0,none⟩=some (.int .i64 l)) {c:Nat} (hc:c<nv.bias.l) (hw:nv.weights.l<2 ^ 40) (hb:nv.bias.l<2 ^ 40):
 callP P n_bound_weighed_1 #[.int .i64 (c:Int),.pointer (some ⟨b1,0,none⟩),.pointer (some ⟨b2,0,none⟩),.pointer (some ⟨b3,0,none⟩),.pointer (some ⟨b4,0,none⟩)] h
  fun v h'=>v= .tuple #[.int .i64 (nv.nd.ends l u c).1,.int .i64 (nv.nd.ends l u c).2]∧h'=h:=by
 refine call_bound_weighed_1 _ _ _ _ _ ?_
 unfold bound_weighed_1
 have hbr:Row h nv.bias.p (ints nv.bias.xs):=hr nv.bias.row (by simp)
 have hwr:Row h nv.weights.p (ints nv.weights.xs):=hr nv.weights.row (by simp)
 have lb:nv.bias.xs.length=nv.bias.l:=hok.2.2.1
 have lw:nv.weights.xs.length=nv.weights.l:=hok.2.1.1
 have lc:nv.weights.l≤nv.weights.c:=hok.2.1.2
 have hE:(c+1)*nv.nd.each≤nv.weights.l:=by have:=each_le (n:=nv.nd) (c:=c) (by show c<nv.bias.xs.length;omega);rw[←lw];exact this
 have hE2:(c+1)*nv.nd.each=c*nv.nd.each+nv.nd.each:=by rw[Nat.add_mul,Nat.one_mul]
 obtain⟨ab,eb⟩:=hbr.some_of (by rw[ints_length];omega)
 have cb:cellH h (ab.add c)=some (.int .i64 (nv.nd.bias.getD c 0)):=by
  rw[eb] at hbr
  refine hbr.cell (ints_get ?_)
  show nv.bias.xs[c]? =some (nv.bias.xs.getD c 0)
  rw[List.getD_eq_getElem?_getD,List.getElem?_eq_getElem (by omega)];rfl
 simp only[add_mk,Nat.zero_add,Int.toNat_natCast,Nat.mul_one]
 refine ldSlice_i h9 (idxI_i eb (k:=c) rfl hc (ldInt_i cb (ldSlice_i h9 (idxI_i eb (k:=c) rfl hc (ldInt_i cb (ldSlice_i h8 (ldInt_i he (ldInt_i he ?_))))))))
 have c1:((c:Int)+1)*(nv.nd.each:Int)=(((c+1)*nv.nd.each:Nat):Int):=by push_cast;rfl
 have c2:(c:Int)*(nv.nd.each:Int)=((c*nv.nd.each:Nat):Int):=by push_cast;rfl
 rw[wrap64_in (n:=(c:Int)+1) (by omega),c1,c2,wrap64_in (by omega),wrap64_in (by omega)]
 refine bndI_i rfl (by omega) (bndI_i rfl (by omega) ?_)
 have eL:(c+1)*nv.nd.each-c*nv.nd.each=nv.nd.each:=by omega
 rw[eL]
 obtain⟨q,eq⟩: ∃q,(if nv.weights.c=c*nv.nd.each then nv.weights.p else Option.map (fun a=>a.add (c*nv.nd.each)) nv.weights.p)=q:=⟨_,rfl⟩
 rw[eq]
 have wc: ∀i,i<nv.nd.each→ ∃a,q=some a∧cellH h (a.add i)=some (.int .i64 ((nv.nd.weights.drop (c*nv.nd.each)).getD i 0)):=by
  intro i hi
  rw[if_neg (by omega)] at eq
  have rd:=hwr.drop' (c*nv.nd.each) (by rw[ints_length];omega)
  rw[eq] at rd
  obtain⟨a,ea⟩:=rd.some_of (by rw[List.length_drop,ints_length];omega)
  refine⟨a,ea,?_⟩
  rw[ea] at rd
  refine rd.cell ?_
  have:(ints nv.weights.xs).drop (c*nv.nd.each)=ints (nv.weights.xs.drop (c*nv.nd.each)):=by unfold ints;rw[List.map_drop]
  rw[this]
  refine ints_get ?_
  show(nv.weights.xs.drop (c*nv.nd.each))[i]? =some ((nv.weights.xs.drop (c*nv.nd.each)).getD i 0)
  rw[List.getD_eq_getElem?_getD,List.getElem?_eq_getElem (by rw[List.length_drop];omega)];rfl
 refine LoopS_i (fun m s g=>g=h∧ ∃i:Nat,s=(⟨b3,0,none⟩,⟨b4,0,none⟩,(endsI ((nv.nd.weights.drop (c*nv.nd.each)).take i) (nv.nd.bias.getD c 0) l u).1,(endsI ((nv.nd.weights.drop (c*nv.nd.each)).take i) (nv.nd.bias.getD c 0) l u).2,(q,nv.nd.each,nv.weights.c-c*nv.nd.each),(nv.nd.each:Int),(i:Int),())∧i≤nv.nd.each∧m=nv.nd.each-i) nv.nd.each ⟨rfl,0,rfl,by omega,rfl⟩ ?_
 rintro m s g ⟨rfl,i,rfl,hi,rfl⟩
 unfold bound_weighed_1_l3
 dsimp only
 refine ifB_dec (fun hlt=> ?_) (fun hge=> ?_)
 ·have hlt:i<nv.nd.each:=by omega
  obtain⟨a,ea,ca⟩:=wc i hlt
  refine idxI_i ea (k:=i) rfl hlt ?_
  simp only[Int.toNat_natCast,Nat.mul_one]
  refine ldInt_i ca ?_
  have hlen:i<(nv.nd.weights.drop (c*nv.nd.each)).length:=by rw[List.length_drop];show i<nv.weights.xs.length-_;omega
  have step:endsI ((nv.nd.weights.drop (c*nv.nd.each)).take (i+1)) (nv.nd.bias.getD c 0) l u=(fun(s:Int×Int) (w:Int)=>if w<0 then(w64 (s.1+w64 (w*u)),w64 (s.2+w64 (w*l))) else(w64 (s.1+w64 (w*l)),w64 (s.2+w64 (w*u)))) (endsI ((nv.nd.weights.drop (c*nv.nd.each)).take i) (nv.nd.bias.getD c 0) l u) ((nv.nd.weights.drop (c*nv.nd.each)).getD i 0):=by
   have eg:(nv.nd.weights.drop (c*nv.nd.each)).getD i 0=(nv.nd.weights.drop (c*nv.nd.each))[i]:=by rw[List.getD_eq_getElem?_getD,List.getElem?_eq_getElem hlen];rfl
   unfold endsI
   rw[List.take_succ_eq_append_getElem hlen,List.foldl_append,eg];rfl
  rw[wrap64_in (n:=(i:Int)+1) (by omega)]
  refine ifB_dec (fun hn=> ?_) (fun hn=> ?_)
  ·refine ldInt_i hu (ldInt_i hl ⟨nv.nd.each-(i+1),by omega,by trivial,i+1,?_,by omega,rfl⟩)
   rw[step];dsimp only;rw[if_pos hn];rfl
  ·refine ldInt_i hl (ldInt_i hu ⟨nv.nd.each-(i+1),by omega,by trivial,i+1,?_,by omega,rfl⟩)
   rw[step];dsimp only;rw[if_neg hn];rfl
 ·have:i=nv.nd.each:=by omega
  subst this
  exact⟨rfl,by trivial⟩
theorem weighed_ok {nv:Nv} (hok:nv.ok) (hr:nv.rows.P h) (hw:nv.weights.l<2 ^ 40) (hb:nv.bias.l<2 ^ 40) (hb0:1≤nv.bias.l) (l u:Int):
 callP P n_bound_weighed #[nv.v,.int .i64 l,.int .i64 u] h fun v h'=>v=(weighedR nv.nd l u).v∧Fra no h h':=by
 refine call_bound_weighed _ _ _ ?_
 unfold bound_weighed
 have lb:nv.bias.xs.length=nv.bias.l:=hok.2.2.1
 have lw:nv.weights.xs.length=nv.weights.l:=hok.2.1.1
 have S:=(Sep.start h no).read nv.rows hr
 refine newI_S (cs:=nv.cells) S (fun b1 _ _ S=> ?_)
 dsimp only[List.nil_append,List.cons_append] at S
 refine newI_S S (fun b3 _ _ S=> ?_)
 dsimp only[List.nil_append,List.cons_append] at S
 refine newI_S S (fun b5 _ _ S=> ?_)
 dsimp only[List.nil_append,List.cons_append] at S
 refine newI_S S (fun b7 _ _ S=> ?_)
 dsimp only[List.nil_append,List.cons_append] at S
 refine ldSlice_i (p:=nv.weights.p) (l:=nv.weights.l) (c:=nv.weights.c) (S.cell 0 rfl rfl) (ldSlice_i (p:=nv.bias.p) (l:=nv.bias.l) (c:=nv.bias.c) (S.cell 0 rfl rfl) ⟨by omega,?_⟩)
 have ee:Int.tdiv ((nv.weights.l:Nat):Int) ((nv.bias.l:Nat):Int)=(nv.nd.each:Int):=by
  have:nv.nd.each=nv.weights.l / nv.bias.l:=by show nv.weights.xs.length / nv.bias.xs.length=_;rw[lw,lb]
  rw[this];rfl
 have el:nv.nd.each≤nv.weights.l:=by
  have:=each_le (n:=nv.nd) (c:=0) (by show 0<nv.bias.xs.length;omega)
  rw[Nat.zero_add,Nat.one_mul] at this
  exact Nat.le_trans this (by rw[←lw];exact Nat.le_refl _)
 rw[ee,wrap64_in (n:=(nv.nd.each:Int)) (by omega)]
 refine newI_S S (fun b11 _ _ S=> ?_)
 dsimp only[List.nil_append,List.cons_append] at S
 refine stI_S S 4 rfl (Nat.le_of_ble_eq_true rfl) fun _ _ S=> ?_
 dsimp only[List.set] at S
 refine newI_S S (fun b14 g0 _ S=> ?_)
 dsimp only[List.nil_append,List.cons_append] at S
 refine(wends_ok (c:=0) hok (S.r 0 _ rfl) (S.cell 0 rfl rfl) (S.cell 0 rfl rfl) (S.cell 4 rfl rfl) (S.cell 2 rfl rfl) (S.cell 1 rfl rfl) (by omega) hw hb).mono ?_
 rintro _ g1 ⟨rfl,rfl⟩
 refine⟨_,_,rfl,?_⟩
 refine stI_S S 5 rfl (Nat.le_of_ble_eq_true rfl) fun _ _ S=> ?_
 dsimp only[List.set] at S
 refine stI_S S 5 rfl (Nat.le_of_ble_eq_true rfl) fun _ _ S=> ?_
 dsimp only[List.set] at S
 refine ldSlice_i (p:=nv.bias.p) (l:=nv.bias.l) (c:=nv.bias.c) (S.cell 0 rfl rfl) ?_
 refine LoopS_i (fun m s g=> ∃i:Nat,s=(⟨b1,0,none⟩,⟨b7,0,none⟩,((),(⟨b1,0,none⟩,⟨b11,0,none⟩,⟨b5,0,none⟩,⟨b3,0,none⟩,())),⟨b14,0,none⟩,(nv.bias.l:Int),(i:Int),())∧i≤nv.bias.l∧m=nv.bias.l-i∧
  Sep h no g [blk b1 nv.cells,blk b3 [.int .i64 l],blk b5 [.int .i64 u],blk b7 [.int .i64 0,.int .i64 0,.int .i64 0,.int .i64 0],blk b11 [.int .i64 (nv.nd.each:Int)],blk b14 [.int .i64 0,.int .i64 0,.int .i64 (endsF nv.nd l u i).1,.int .i64 (endsF nv.nd l u i).2]] [nv.rows]) nv.bias.l ⟨0,rfl,by omega,rfl,S⟩ ?_
 clear S
 rintro m s g ⟨i,rfl,hi,rfl,S⟩
 unfold bound_weighed_l6
 dsimp only
 simp only[add_mk,Nat.zero_add]
 refine ifB_dec (fun hlt=> ?_) (fun hge=> ?_)
 ·refine(wends_ok (c:=i) hok (S.r 0 _ rfl) (S.cell 0 rfl rfl) (S.cell 0 rfl rfl) (S.cell 4 rfl rfl) (S.cell 2 rfl rfl) (S.cell 1 rfl rfl) (by omega) hw hb).mono ?_
  rintro _ g1 ⟨rfl,rfl⟩
  refine⟨_,_,rfl,?_⟩
  refine ldInt_i (S.cell 5 rfl rfl) (ldInt_i (S.cell 5 rfl rfl) ?_)
  refine stI_S S 5 rfl (Nat.le_of_ble_eq_true rfl) fun _ _ S=> ?_
  dsimp only[List.set] at S
  refine stI_S S 5 rfl (Nat.le_of_ble_eq_true rfl) fun _ _ S=> ?_
  dsimp only[List.set] at S
  rw[wrap64_in (n:=(i:Int)+1) (by omega)]
  refine⟨nv.bias.l-(i+1),by omega,i+1,rfl,by omega,rfl,?_⟩
  have e:endsF nv.nd l u (i+1)=(if(nv.nd.ends l u i).1<(endsF nv.nd l u i).1 then(nv.nd.ends l u i).1 else(endsF nv.nd l u i).1,if(nv.nd.ends l u i).2>(endsF nv.nd l u i).2 then(nv.nd.ends l u i).2 else(endsF nv.nd l u i).2):=by
   unfold endsF;rw[List.range_succ,List.foldl_append];rfl
  rw[e]
  exact S
 ·have ei:i=nv.nd.bias.length:=by show i=nv.bias.xs.length;omega
  subst ei
  refine ldAg_S S 0 rfl (x:=nv.t) rfl (ldInt_i (S.cell 5 rfl rfl) (ldAg_S S 0 rfl (x:=nv.t) rfl (ldInt_i (S.cell 5 rfl rfl) ?_)))
  refine(post_ok nv _).mono ?_
  rintro _ g1 ⟨rfl,F1⟩
  replace S:=S.fra0 F1
  refine⟨_,rfl,and_i (S.cell 5 rfl rfl) (holdW_S S 0 rfl rfl ?_)⟩
  refine(post_ok nv _).mono ?_
  rintro _ g2 ⟨rfl,F2⟩
  replace S:=S.fra0 F2
  refine⟨_,rfl,and_i (S.cell 5 rfl rfl) (holdW_S S 0 rfl rfl ?_)⟩
  refine stI_S S 5 rfl (Nat.le_of_ble_eq_true rfl) fun _ _ S=> ?_
  dsimp only[List.set] at S
  refine holdW_S S 0 rfl rfl ?_
  refine stI_S S 5 rfl (Nat.le_of_ble_eq_true rfl) fun _ _ S=> ?_
  dsimp only[List.set] at S
  refine ldInt_i (S.cell 5 rfl rfl) (ldInt_i (S.cell 5 rfl rfl) (ldInt_i (S.cell 5 rfl rfl) (ldInt_i (S.cell 5 rfl rfl) ?_)))
  exact put4_S (S.pw [3]) (weighedR nv.nd l u) (K:=fun v g=>v=(weighedR nv.nd l u).v∧Fra no h g) fun h' S=>⟨rfl,S.fra⟩
end
end Go.Proofs.YtdhpmegbmjoekaaGreatDoor.G
end
section
namespace Go.Proofs.YtdhpmegbmjoekaaGreatDoor.G
open Go Go.Sh
set_option linter.unusedVariables false
set_option linter.unusedSimpArgs false
def rflat (rs:List Rg):List Value:=(rs.map Rg.cells).flatten
theorem rflat_length (rs:List Rg):(rflat rs).length=rs.length*4:=flat_len Rg.cells 4 (fun _=>rfl) rs
theorem rflat_at {rs:List Rg} {i j:Nat} {x:Rg} (h:rs[i]? =some x) (hj:j<4):(rflat rs)[i*4+j]? =x.cells[j]? :=flat_at Rg.cells 4 (fun _=>rfl) rs i j x h hj
def padsN (n:Nd):Int×Int:=if four n.kind then(n.left,n.right) else if n.kind=12 then(w64 (n.size-1),0) else(0,0)
def Rg.zero:Rg:=⟨0,0,0,0⟩
def lowF (b:Int) (rs:List Rg):Int:=rs.foldl (fun l r=>if r.lo<l then r.lo else l) b
def highF (b:Int) (rs:List Rg):Int:=rs.foldl (fun u r=>if r.hi>u then r.hi else u) b
def sumF (f:Rg→Int) (rs:List Rg):Int:=rs.foldl (fun s r=>w64 (s+f r)) 0
def nodeR (n:Nd) (w:Int) (rs:List Rg):Rg:=
 let l0:=lowF (rs.getD 0 .zero).lo rs
 let u0:=highF (rs.getD 0 .zero).hi rs
 let l:=if w64 ((padsN n).1+(padsN n).2)>0 then(if 0<l0 then 0 else l0) else l0
 let u:=if w64 ((padsN n).1+(padsN n).2)>0 then(if 0>u0 then 0 else u0) else u0
 if wei n.kind then weighedR n l u else if n.kind=4∨n.kind=12 then⟨l,u,w64 (n.size*l),w64 (n.size*u)⟩
 else if n.kind=7 then⟨addI (rs.map Rg.lo),addI (rs.map Rg.hi),sumF Rg.lo rs,sumF Rg.hi rs⟩
 else if n.kind=9 then sameR (clampI l n.low n.high) (clampI u n.low n.high)
 else if n.kind=10 then sameR (scaleP l n.mult n.shift) (scaleP u n.mult n.shift)
 else if n.kind=11 then sameR 0 (w64 (w-1)) else sameR l u
section
variable {h:Heap}
theorem Pads_ok (nv:Nv) (hT:KT h):callP P n_kind_Pads #[nv.v] h fun v h'=>v= .tuple #[.int .i64 (padsN nv.nd).1,.int .i64 (padsN nv.nd).2]∧Fra no h h':=by
 refine call_kind_Pads _ ?_
 unfold kind_Pads
 have S:=(Sep.start h no).read (blk 0 (ints kindTab)) hT
 refine newI_S (cs:=nv.cells) S fun b1 h1 _ S=> ?_
 dsimp only[List.cons_append,List.nil_append] at S
 have e:padsN nv.nd=if four nv.kind then(nv.left,nv.right) else if nv.kind=12 then(w64 (nv.size-1),0) else(0,0):=rfl
 rw[e]
 refine ldAg_S S 0 rfl (x:=nv.t) rfl ?_
 refine(has_ok nv 1 (S.r 0 _ rfl)).mono ?_
 rintro _ _ ⟨rfl,F⟩
 refine⟨_,rfl,?_⟩
 replace S:=S.fra0 F
 refine ifB_dec (fun h2=> ?_) (fun h2=> ?_)
 ·rw[has1] at h2
  rw[if_pos h2]
  exact ldInt_i (n:=nv.left) (S.cell 0 rfl rfl) (ldInt_i (n:=nv.right) (S.cell 0 rfl rfl) ⟨rfl,S.fra⟩)
 ·rw[has1] at h2
  rw[if_neg h2]
  refine ldAg_S S 0 rfl (x:=nv.t) rfl ?_
  refine(has_ok nv 16 (S.r 0 _ rfl)).mono ?_
  rintro _ _ ⟨rfl,F⟩
  refine⟨_,rfl,?_⟩
  replace S:=S.fra0 F
  refine ifB_dec (fun h3=> ?_) (fun h3=> ?_)
  ·rw[has16] at h3
   rw[if_pos h3]
   exact ldInt_i (n:=nv.size) (S.cell 0 rfl rfl) ⟨rfl,S.fra⟩
  ·rw[has16] at h3
   rw[if_neg h3]
   exact⟨rfl,S.fra⟩
theorem rg_cell {a:Addr} {rs:List Rg} {i:Nat} {x:Rg} (r:Row h (some a) (rflat rs)) (e:rs[i]? =some x):cellH h (a.add (i*4))=some (.int .i64 x.lo)∧cellH h ((a.add (i*4)).add 1)=some (.int .i64 x.hi)∧cellH h ((a.add (i*4)).add 2)=some (.int .i64 x.alo)∧cellH h ((a.add (i*4)).add 3)=some (.int .i64 x.ahi):=by
 refine⟨r.cell (i:=i*4) (by have:=rflat_at e (j:=0) (by omega);rw[Nat.add_zero] at this;rw[this];rfl),?_,?_,?_⟩
 all_goals
  rw[add_add _ _ (by decide)]
  refine r.cell ?_
  rw[rflat_at e (by omega)];rfl
abbrev Sl3:=Option Addr×Nat×Nat
def ndInv (h:Heap) (nv:Nv) (w:Int) (b1 b3 b9:Nat) (p:Option Addr) (l c:Nat) (rs:List Rg) (mm:Nat) (s:Int×Addr×Addr×Int×Int×Sl3×Sl3×Addr×Sl3×Int×Int×Unit) (g:Heap):Prop:=
 ∃(i:Nat) (p1 p2:Option Addr) (c1 c2:Nat),s=(w,⟨b1,0,none⟩,⟨b3,0,none⟩,lowF (rs.getD 0 .zero).lo (rs.take i),highF (rs.getD 0 .zero).hi (rs.take i),(p1,i,c1),(p2,i,c2),⟨b9,0,none⟩,(p,l,c),(l:Int),(i:Int),())∧i≤l∧mm=l-i∧
  Sep h no g [blk b3 Rg.zero.cells,blk b1 nv.cells,blk b9 [.int .i64 0,.int .i64 0,.int .i64 (sumF Rg.lo (rs.take i)),.int .i64 (sumF Rg.hi (rs.take i))],own 1 p1 i c1 (ints ((rs.take i).map Rg.lo)),own 1 p2 i c2 (ints ((rs.take i).map Rg.hi))] [blk 0 (ints kindTab),nv.rows,row p (rflat rs)]
theorem take_map_snoc {rs:List Rg} {i:Nat} (hi:i<rs.length) (f:Rg→Int):ints ((rs.take i).map f)++ints [f rs[i]]=ints ((rs.take (i+1)).map f):=by
 rw[List.take_succ_eq_append_getElem hi,List.map_append];unfold ints;rw[List.map_append];rfl
theorem node_l5_ok {nv:Nv} (hok:nv.ok) (hw:nv.weights.l<2 ^ 40) (hb:nv.bias.l<2 ^ 40) (hwe:wei nv.kind→1≤nv.bias.l) {p:Option Addr} {l c:Nat} {rs:List Rg} (hl:rs.length=l) (hl1:1≤l) (hl2:l<2 ^ 40) (w:Int) {b1 b3 b9 mm:Nat} {s} {g:Heap} (I:ndInv h nv w b1 b3 b9 p l c rs mm s g):
 bound_node_l5 (fun v h'=>v=(nodeR nv.nd w rs).v∧Fra no h h') (fun s' h'=> ∃m,m<mm∧ndInv h nv w b1 b3 b9 p l c rs m s' h') s.1 s.2.1 s.2.2.1 s.2.2.2.1 s.2.2.2.2.1 s.2.2.2.2.2.1.1 s.2.2.2.2.2.1.2.1 s.2.2.2.2.2.1.2.2 s.2.2.2.2.2.2.1.1 s.2.2.2.2.2.2.1.2.1 s.2.2.2.2.2.2.1.2.2 s.2.2.2.2.2.2.2.1 s.2.2.2.2.2.2.2.2.1.1 s.2.2.2.2.2.2.2.2.1.2.1 s.2.2.2.2.2.2.2.2.1.2.2 s.2.2.2.2.2.2.2.2.2.1 s.2.2.2.2.2.2.2.2.2.2.1 g:=by
 obtain⟨i,p1,p2,c1,c2,rfl,hi,rfl,S⟩:=I
 unfold bound_node_l5
 dsimp only
 simp only[add_mk,Nat.zero_add]
 refine ifB_dec (fun hlt=> ?_) (fun hge=> ?_)
 ·have hlt:i<l:=by omega
  have hlt':i<rs.length:=by omega
  obtain⟨a,ea⟩:=(S.row 2 rfl).some_of (by rw[rflat_length];omega)
  have hrow:=S.row 2 rfl
  rw[ea] at hrow
  obtain⟨k0,k1,k2,k3⟩:=rg_cell hrow (List.getElem?_eq_getElem hlt')
  refine idxI_i ea (k:=i) rfl hlt ?_
  simp only[Int.toNat_natCast]
  refine ldInt_i k0 (ldInt_i k1 (ldInt_i k2 (ldInt_i k3 ?_)))
  refine newI_S S (fun b21 g2 _ S=> ?_)
  dsimp only[List.nil_append,List.cons_append] at S
  refine stI_S S 5 rfl (Nat.le_of_ble_eq_true rfl) fun _ _ S=> ?_
  dsimp only[List.set] at S
  refine stI_S S 5 rfl (Nat.le_of_ble_eq_true rfl) fun _ _ S=> ?_
  dsimp only[List.set] at S
  refine stI_S S 5 rfl (Nat.le_of_ble_eq_true rfl) fun _ _ S=> ?_
  dsimp only[List.set] at S
  refine stI_S S 5 rfl (Nat.le_of_ble_eq_true rfl) fun g3 _ S=> ?_
  dsimp only[List.set] at S
  refine ldInt_i (S.cell 5 rfl rfl) (ldInt_i (S.cell 5 rfl rfl) (ldInt_i (S.cell 5 rfl rfl) (ldInt_i (S.cell 5 rfl rfl) ?_)))
  obtain⟨x,ex⟩: ∃x,rs[i]=x:=⟨_,rfl⟩
  rw[ex] at S ⊢
  have eL:=take_map_snoc hlt' Rg.lo
  have eH:=take_map_snoc hlt' Rg.hi
  rw[ex] at eL eH
  have fin: ∀{g4:Heap} {q1 q2:Option Addr} {m1 m2 d1 d2:Nat},m1=i+1→m2=i+1→Sep h no g4 [blk b3 Rg.zero.cells,blk b1 nv.cells,blk b9 [.int .i64 0,.int .i64 0,.int .i64 (sumF Rg.lo (rs.take i)),.int .i64 (sumF Rg.hi (rs.take i))],own 1 q1 m1 d1 (ints ((rs.take i).map Rg.lo)++ints [x.lo]),own 1 q2 m2 d2 (ints ((rs.take i).map Rg.hi)++ints [x.hi]),blk b21 [.int .i64 x.lo,.int .i64 x.hi,.int .i64 x.alo,.int .i64 x.ahi]] [blk 0 (ints kindTab),nv.rows,row p (rflat rs)]→
   ldInt .i64 g4 ⟨b9,2,none⟩ fun n39=>ldInt .i64 g4 ⟨b21,0,none⟩ fun n40=>ldInt .i64 g4 ⟨b9,3,none⟩ fun n41=>ldInt .i64 g4 ⟨b21,1,none⟩ fun n42=>stI g4 ⟨b9,2,none⟩ (.int .i64 (IntKind.wrap .i64 (n39+n40))) fun h43=>cellH h43 ⟨b21,1,none⟩=some (.int .i64 n42)∧stI h43 ⟨b9,3,none⟩ (.int .i64 (IntKind.wrap .i64 (n41+n42))) fun h44=>
    ∃m,m<l-i∧ndInv h nv w b1 b3 b9 p l c rs m (w,⟨b1,0,none⟩,⟨b3,0,none⟩,(if x.lo<lowF (rs.getD 0 .zero).lo (rs.take i) then x.lo else lowF (rs.getD 0 .zero).lo (rs.take i)),(if x.hi>highF (rs.getD 0 .zero).hi (rs.take i) then x.hi else highF (rs.getD 0 .zero).hi (rs.take i)),(q1,m1,d1),(q2,m2,d2),⟨b9,0,none⟩,(p,l,c),(l:Int),IntKind.wrap .i64 ((i:Int)+1),()) h44:=by
   intro g4 q1 q2 m1 m2 d1 d2 e1 e2 S
   subst e1 e2
   refine ldInt_i (S.cell 2 rfl rfl) (ldInt_i (S.cell 5 rfl rfl) (ldInt_i (S.cell 2 rfl rfl) (ldInt_i (S.cell 5 rfl rfl) ?_)))
   refine stI_S S 2 rfl (Nat.le_of_ble_eq_true rfl) fun _ _ S=> ?_
   dsimp only[List.set] at S
   refine and_i (S.cell 5 rfl rfl) ?_
   refine stI_S S 2 rfl (Nat.le_of_ble_eq_true rfl) fun _ _ S=> ?_
   dsimp only[List.set] at S
   rw[wrap64_in (n:=(i:Int)+1) (by omega)]
   refine⟨l-(i+1),by omega,i+1,q1,q2,d1,d2,?_,by omega,rfl,?_⟩
   ·unfold lowF highF
    rw[List.take_succ_eq_append_getElem hlt',List.foldl_append,List.foldl_append,ex];rfl
   ·have s1:sumF Rg.lo (rs.take (i+1))=IntKind.wrap .i64 (sumF Rg.lo (rs.take i)+x.lo):=by unfold sumF;rw[List.take_succ_eq_append_getElem hlt',List.foldl_append,ex];rfl
    have s2:sumF Rg.hi (rs.take (i+1))=IntKind.wrap .i64 (sumF Rg.hi (rs.take i)+x.hi):=by unfold sumF;rw[List.take_succ_eq_append_getElem hlt',List.foldl_append,ex];rfl
    rw[s1,s2,←eL,←eH]
    exact S.pw [0,1,2,3,4]
  have one: ∀{y:Int},∀z∈ints [y],one1 z=true:=fun z hz=>by simp only[ints,List.map_cons,List.map_nil,List.mem_singleton] at hz;subst hz;rfl
  refine⟨?_,?_⟩
  ·refine newI_S (cs:=ints [x.lo]) S (fun b31 g4 _ S=> ?_)
   dsimp only[List.nil_append,List.cons_append] at S
   refine⟨?_,?_⟩
   ·refine appI_S S 3 (ys:=ints [x.lo]) rfl rfl (by decide) (by omega) (Row.of_at (S.at 6 rfl)) rfl one fun q1 m1 d1 g5 e1 S=> ?_
    dsimp only[List.set] at S
    refine and_i (S.cell 5 rfl rfl) (and_i (S.cell 5 rfl rfl) ?_)
    refine newI_S (cs:=ints [x.hi]) S (fun b35 g6 _ S=> ?_)
    dsimp only[List.nil_append,List.cons_append] at S
    refine appI_S S 4 (ys:=ints [x.hi]) rfl rfl (by decide) (by omega) (Row.of_at (S.at 7 rfl)) rfl one fun q2 m2 d2 g7 e2 S=> ?_
    dsimp only[List.set] at S
    exact and_i (S.cell 5 rfl rfl) (and_i (S.cell 5 rfl rfl) (fin e1 e2 (S.pw [0,1,2,3,4,5])))
   ·refine newI_S (cs:=ints [x.hi]) S (fun b45 g6 _ S=> ?_)
    dsimp only[List.nil_append,List.cons_append] at S
    refine appI_S S 3 (ys:=ints [x.lo]) rfl rfl (by decide) (by omega) (Row.of_at (S.at 6 rfl)) rfl one fun q1 m1 d1 g5 e1 S=> ?_
    dsimp only[List.set] at S
    refine and_i (S.cell 5 rfl rfl) (and_i (S.cell 5 rfl rfl) ?_)
    refine appI_S S 4 (ys:=ints [x.hi]) rfl rfl (by decide) (by omega) (Row.of_at (S.at 7 rfl)) rfl one fun q2 m2 d2 g7 e2 S=> ?_
    dsimp only[List.set] at S
    exact and_i (S.cell 5 rfl rfl) (and_i (S.cell 5 rfl rfl) (fin e1 e2 (S.pw [0,1,2,3,4,5])))
  ·refine newI_S (cs:=ints [x.hi]) S (fun b57 g4 _ S=> ?_)
   dsimp only[List.nil_append,List.cons_append] at S
   refine newI_S (cs:=ints [x.lo]) S (fun b59 g6 _ S=> ?_)
   dsimp only[List.nil_append,List.cons_append] at S
   refine appI_S S 3 (ys:=ints [x.lo]) rfl rfl (by decide) (by omega) (Row.of_at (S.at 7 rfl)) rfl one fun q1 m1 d1 g5 e1 S=> ?_
   dsimp only[List.set] at S
   refine and_i (S.cell 5 rfl rfl) (and_i (S.cell 5 rfl rfl) ?_)
   refine appI_S S 4 (ys:=ints [x.hi]) rfl rfl (by decide) (by omega) (Row.of_at (S.at 6 rfl)) rfl one fun q2 m2 d2 g7 e2 S=> ?_
   dsimp only[List.set] at S
   exact and_i (S.cell 5 rfl rfl) (and_i (S.cell 5 rfl rfl) (fin e1 e2 (S.pw [0,1,2,3,4,5])))
 ·have ei:i=l:=by omega
  subst ei
  rw[List.take_of_length_le (by omega)] at S ⊢
  refine ldAg_S S 1 rfl (x:=nv.t) rfl ?_
  refine(Pads_ok nv (S.r 0 _ rfl)).mono ?_
  rintro _ g2 ⟨rfl,F⟩
  replace S:=S.fra0 F
  refine⟨_,_,rfl,?_⟩
  obtain⟨L,eL⟩: ∃L,(if w64 ((padsN nv.nd).1+(padsN nv.nd).2)>0 then(if 0<lowF (rs.getD 0 .zero).lo rs then 0 else lowF (rs.getD 0 .zero).lo rs) else lowF (rs.getD 0 .zero).lo rs)=L:=⟨_,rfl⟩
  obtain⟨U,eU⟩: ∃U,(if w64 ((padsN nv.nd).1+(padsN nv.nd).2)>0 then(if 0>highF (rs.getD 0 .zero).hi rs then 0 else highF (rs.getD 0 .zero).hi rs) else highF (rs.getD 0 .zero).hi rs)=U:=⟨_,rfl⟩
  have eN:nodeR nv.nd w rs=if wei nv.kind then weighedR nv.nd L U else if nv.kind=4∨nv.kind=12 then⟨L,U,w64 (nv.size*L),w64 (nv.size*U)⟩ else if nv.kind=7 then⟨addI (rs.map Rg.lo),addI (rs.map Rg.hi),sumF Rg.lo rs,sumF Rg.hi rs⟩
   else if nv.kind=9 then sameR (clampI L nv.low nv.high) (clampI U nv.low nv.high) else if nv.kind=10 then sameR (scaleP L nv.mult nv.shift) (scaleP U nv.mult nv.shift) else if nv.kind=11 then sameR 0 (w64 (w-1)) else sameR L U:=by
   rw[←eL,←eU];rfl
  refine⟨fun s g=>s=(w,⟨b1,0,none⟩,⟨b3,0,none⟩,L,U,(p1,i,c1),(p2,i,c2),⟨b9,0,none⟩,())∧Sep h no g [blk b3 Rg.zero.cells,blk b1 nv.cells,blk b9 [.int .i64 0,.int .i64 0,.int .i64 (sumF Rg.lo rs),.int .i64 (sumF Rg.hi rs)],own 1 p1 i c1 (ints (rs.map Rg.lo)),own 1 p2 i c2 (ints (rs.map Rg.hi))] [blk 0 (ints kindTab),nv.rows,row p (rflat rs)],?_,?_⟩
  ·rw[eN]
   clear S F hge
   rintro s g ⟨rfl,S⟩
   unfold bound_node_j14
   dsimp only
   simp only[add_mk,Nat.zero_add]
   have kd:cellH g ⟨b1,0,none⟩=some (.int .i64 nv.kind):=S.cell 1 rfl rfl
   have wgh:wei nv.kind→ldAg A1 g ⟨b1,0,none⟩ fun x79=>callP P n_bound_weighed #[(agS A1 x79),(.int .i64 L),(.int .i64 U)] g fun v81 h80=> ∃n82 n83 n84 n85:Int,v81=(.agg #[(.int .i64 n82),(.int .i64 n83),(.int .i64 n84),(.int .i64 n85)])∧
    stI h80 ⟨b3,0,none⟩ (.int .i64 n82) fun h1=>stI h1 ⟨b3,1,none⟩ (.int .i64 n83) fun h2=>stI h2 ⟨b3,2,none⟩ (.int .i64 n84) fun h3=>stI h3 ⟨b3,3,none⟩ (.int .i64 n85) fun h4=>
    ldInt .i64 h4 ⟨b3,0,none⟩ fun n0=>ldInt .i64 h4 ⟨b3,1,none⟩ fun n1=>ldInt .i64 h4 ⟨b3,2,none⟩ fun n2=>ldInt .i64 h4 ⟨b3,3,none⟩ fun n3=>Value.agg #[.int .i64 n0,.int .i64 n1,.int .i64 n2,.int .i64 n3]=(weighedR nv.nd L U).v∧Fra no h h4:=by
    intro hk
    refine ldAg_S S 1 rfl (x:=nv.t) rfl ?_
    refine(weighed_ok hok (S.r 1 _ rfl) hw hb (hwe hk) L U).mono ?_
    rintro _ g2 ⟨rfl,F⟩
    replace S:=S.fra0 F
    exact⟨_,_,_,_,rfl,put4_S S (weighedR nv.nd L U) (K:=fun v g=>v=(weighedR nv.nd L U).v∧Fra no h g) fun h' S=>⟨rfl,S.fra⟩⟩
   have sme: ∀{l u:Int} {g:Heap},Sep h no g [blk b3 Rg.zero.cells,blk b1 nv.cells,blk b9 [.int .i64 0,.int .i64 0,.int .i64 (sumF Rg.lo rs),.int .i64 (sumF Rg.hi rs)],own 1 p1 i c1 (ints (rs.map Rg.lo)),own 1 p2 i c2 (ints (rs.map Rg.hi))] [blk 0 (ints kindTab),nv.rows,row p (rflat rs)]→
    callP P n_bound_same #[.int .i64 l,.int .i64 u] g fun v h'=> ∃n82 n83 n84 n85:Int,v=(.agg #[(.int .i64 n82),(.int .i64 n83),(.int .i64 n84),(.int .i64 n85)])∧
    stI h' ⟨b3,0,none⟩ (.int .i64 n82) fun h1=>stI h1 ⟨b3,1,none⟩ (.int .i64 n83) fun h2=>stI h2 ⟨b3,2,none⟩ (.int .i64 n84) fun h3=>stI h3 ⟨b3,3,none⟩ (.int .i64 n85) fun h4=>
    ldInt .i64 h4 ⟨b3,0,none⟩ fun n0=>ldInt .i64 h4 ⟨b3,1,none⟩ fun n1=>ldInt .i64 h4 ⟨b3,2,none⟩ fun n2=>ldInt .i64 h4 ⟨b3,3,none⟩ fun n3=>Value.agg #[.int .i64 n0,.int .i64 n1,.int .i64 n2,.int .i64 n3]=(sameR l u).v∧Fra no h h4:=by
    intro l u g S
    refine(sameR_ok l u).mono ?_
    rintro _ g2 ⟨rfl,F⟩
    replace S:=S.fra0 F
    exact⟨_,_,_,_,rfl,put4_S S (sameR l u) (K:=fun v g=>v=(sameR l u).v∧Fra no h g) fun h' S=>⟨rfl,S.fra⟩⟩
   refine ldInt_i kd (ifB_beq (fun k1=> ?_) (fun k1=>ifB_beq (fun k2=> ?_) (fun k2=>ifB_beq (fun k6=> ?_) (fun k6=> ?_))))
   ·rw[if_pos (.inl k1)];exact wgh (.inl k1)
   ·rw[if_pos (.inr (.inl k2))];exact wgh (.inr (.inl k2))
   ·rw[if_pos (.inr (.inr k6))];exact wgh (.inr (.inr k6))
   rw[if_neg (by rintro(h|h|h)<;>omega)]
   refine ifB_beq (fun k4=> ?_) (fun k4=>ifB_beq (fun k12=> ?_) (fun k12=> ?_))
   ·rw[if_pos (.inl k4)]
    refine ldInt_i (n:=nv.size) (S.cell 1 rfl rfl) (ldInt_i (n:=nv.size) (S.cell 1 rfl rfl) ?_)
    exact put4_S S ⟨L,U,w64 (nv.size*L),w64 (nv.size*U)⟩ (K:=fun v g=>v=(⟨L,U,w64 (nv.size*L),w64 (nv.size*U)⟩:Rg).v∧Fra no h g) fun h' S=>⟨rfl,S.fra⟩
   ·rw[if_pos (.inr k12)]
    refine ldInt_i (n:=nv.size) (S.cell 1 rfl rfl) (ldInt_i (n:=nv.size) (S.cell 1 rfl rfl) ?_)
    exact put4_S S ⟨L,U,w64 (nv.size*L),w64 (nv.size*U)⟩ (K:=fun v g=>v=(⟨L,U,w64 (nv.size*L),w64 (nv.size*U)⟩:Rg).v∧Fra no h g) fun h' S=>⟨rfl,S.fra⟩
   rw[if_neg (by rintro(h|h)<;>omega)]
   refine ifB_beq (fun k7=> ?_) (fun k7=> ?_)
   ·rw[if_pos k7]
    refine(Add_ok (S.own 3 rfl).row (by rw[List.length_map];exact hl) (by omega)).mono ?_
    rintro _ g2 ⟨rfl,F⟩
    replace S:=S.fra0 F
    refine⟨_,rfl,?_⟩
    refine(Add_ok (S.own 4 rfl).row (by rw[List.length_map];exact hl) (by omega)).mono ?_
    rintro _ g3 ⟨rfl,F⟩
    replace S:=S.fra0 F
    refine⟨_,rfl,?_⟩
    refine stI_S S 2 rfl (Nat.le_of_ble_eq_true rfl) fun _ _ S=> ?_
    dsimp only[List.set] at S
    refine stI_S S 2 rfl (Nat.le_of_ble_eq_true rfl) fun _ _ S=> ?_
    dsimp only[List.set] at S
    refine ldInt_i (S.cell 2 rfl rfl) (ldInt_i (S.cell 2 rfl rfl) (ldInt_i (S.cell 2 rfl rfl) (ldInt_i (S.cell 2 rfl rfl) ?_)))
    exact put4_S S ⟨addI (rs.map Rg.lo),addI (rs.map Rg.hi),sumF Rg.lo rs,sumF Rg.hi rs⟩ (K:=fun v g=>v=(⟨addI (rs.map Rg.lo),addI (rs.map Rg.hi),sumF Rg.lo rs,sumF Rg.hi rs⟩:Rg).v∧Fra no h g) fun h' S=>⟨rfl,S.fra⟩
   rw[if_neg k7]
   refine ifB_beq (fun k9=> ?_) (fun k9=> ?_)
   ·rw[if_pos k9]
    refine ldInt_i (n:=nv.low) (S.cell 1 rfl rfl) (ldInt_i (n:=nv.high) (S.cell 1 rfl rfl) (ldInt_i (n:=nv.low) (S.cell 1 rfl rfl) (ldInt_i (n:=nv.high) (S.cell 1 rfl rfl) ?_)))
    refine(Clamp_ok _ _ _).mono ?_
    rintro _ g2 ⟨rfl,rfl⟩
    refine⟨_,rfl,and_i (S.cell 1 rfl rfl) (and_i (S.cell 1 rfl rfl) ?_)⟩
    refine(Clamp_ok _ _ _).mono ?_
    rintro _ g3 ⟨rfl,rfl⟩
    refine⟨_,rfl,and_i (S.cell 1 rfl rfl) (and_i (S.cell 1 rfl rfl) ?_)⟩
    refine(sameR_ok _ _).mono ?_
    rintro _ g4 ⟨rfl,F⟩
    replace S:=S.fra0 F
    refine⟨_,_,_,_,rfl,and_i (S.cell 1 rfl rfl) (and_i (S.cell 1 rfl rfl) (and_i (S.cell 1 rfl rfl) (and_i (S.cell 1 rfl rfl) ?_)))⟩
    exact put4_S S (sameR (clampI L nv.low nv.high) (clampI U nv.low nv.high)) (K:=fun v g=>v=(sameR (clampI L nv.low nv.high) (clampI U nv.low nv.high)).v∧Fra no h g) fun h' S=>⟨rfl,S.fra⟩
   rw[if_neg k9]
   refine ifB_beq (fun k10=> ?_) (fun k10=> ?_)
   ·rw[if_pos k10]
    refine ldInt_i (n:=nv.mult) (S.cell 1 rfl rfl) (ldInt_i (n:=nv.shift) (S.cell 1 rfl rfl) (ldInt_i (n:=nv.mult) (S.cell 1 rfl rfl) (ldInt_i (n:=nv.shift) (S.cell 1 rfl rfl) ?_)))
    refine(Scale_ok _ _ _).mono ?_
    rintro _ g2 ⟨rfl,F⟩
    replace S:=S.fra0 F
    refine⟨_,rfl,and_i (S.cell 1 rfl rfl) (and_i (S.cell 1 rfl rfl) ?_)⟩
    refine(Scale_ok _ _ _).mono ?_
    rintro _ g3 ⟨rfl,F⟩
    replace S:=S.fra0 F
    refine⟨_,rfl,and_i (S.cell 1 rfl rfl) (and_i (S.cell 1 rfl rfl) ?_)⟩
    refine(sameR_ok _ _).mono ?_
    rintro _ g4 ⟨rfl,F⟩
    replace S:=S.fra0 F
    refine⟨_,_,_,_,rfl,and_i (S.cell 1 rfl rfl) (and_i (S.cell 1 rfl rfl) (and_i (S.cell 1 rfl rfl) (and_i (S.cell 1 rfl rfl) ?_)))⟩
    exact put4_S S (sameR (scaleP L nv.mult nv.shift) (scaleP U nv.mult nv.shift)) (K:=fun v g=>v=(sameR (scaleP L nv.mult nv.shift) (scaleP U nv.mult nv.shift)).v∧Fra no h g) fun h' S=>⟨rfl,S.fra⟩
   rw[if_neg k10]
   refine ifB_beq (fun k11=> ?_) (fun k11=> ?_)
   ·rw[if_pos k11];exact sme S
   ·rw[if_neg k11];exact sme S
  ·refine ifB_dec (fun hp=> ?_) (fun hp=> ?_)
   ·rw[if_pos hp] at eL eU
    rw[eL,eU]
    exact⟨rfl,S⟩
   ·rw[if_neg hp] at eL eU
    rw[eL,eU]
    exact⟨rfl,S⟩
theorem node_ok {nv:Nv} (hok:nv.ok) (hr:nv.rows.P h) (hT:KT h) (hw:nv.weights.l<2 ^ 40) (hb:nv.bias.l<2 ^ 40) (hwe:wei nv.kind→1≤nv.bias.l) {p:Option Addr} {l c:Nat} {rs:List Rg} (hx:Row h p (rflat rs)) (hl:rs.length=l) (hl1:1≤l) (hl2:l<2 ^ 40) (w:Int):
 callP P n_bound_node #[nv.v,.int .i64 w,.slice p l c] h fun v h'=>v=(nodeR nv.nd w rs).v∧Fra no h h':=by
 refine call_bound_node _ _ _ _ _ ?_
 unfold bound_node
 have S:=(((Sep.start h no).read (blk 0 (ints kindTab)) hT).read nv.rows hr).read (row p (rflat rs)) hx
 refine newI_S (cs:=nv.cells) S (fun b1 _ _ S=> ?_)
 dsimp only[List.nil_append,List.cons_append] at S
 refine newI_S (cs:=Rg.zero.cells) S (fun b3 g2 _ S=> ?_)
 dsimp only[List.nil_append,List.cons_append] at S
 obtain⟨a,ea⟩:=(S.row 2 rfl).some_of (by rw[rflat_length];omega)
 have hrow:=S.row 2 rfl
 rw[ea] at hrow
 obtain⟨k0,k1,k2,k3⟩:=rg_cell (i:=0) hrow (List.getElem?_eq_getElem (by omega))
 refine idxI_i ea (k:=0) rfl (by omega) (idxI_i ea (k:=0) rfl (by omega) ?_)
 refine ldInt_i k0 (ldInt_i k1 ?_)
 refine newI_S S (fun b9 g3 _ S=> ?_)
 dsimp only[List.nil_append,List.cons_append] at S
 refine stI_S S 2 rfl (Nat.le_of_ble_eq_true rfl) fun _ _ S=> ?_
 dsimp only[List.set] at S
 refine stI_S S 2 rfl (Nat.le_of_ble_eq_true rfl) fun _ _ S=> ?_
 dsimp only[List.set] at S
 refine stI_S S 2 rfl (Nat.le_of_ble_eq_true rfl) fun _ _ S=> ?_
 dsimp only[List.set] at S
 refine stI_S S 2 rfl (Nat.le_of_ble_eq_true rfl) fun _ _ S=> ?_
 dsimp only[List.set] at S
 have S2:=((S.pw [1,0,2]).nil 1).nil 1
 have eg:rs.getD 0 .zero=rs[0]:=by rw[List.getD_eq_getElem?_getD,List.getElem?_eq_getElem (by omega)];rfl
 refine LoopS_i (ndInv h nv w b1 b3 b9 p l c rs) l ⟨0,none,none,0,0,by rw[eg];rfl,by omega,rfl,S2⟩ ?_
 intro mm s g I
 exact node_l5_ok hok hw hb hwe hl hl1 hl2 w I
end
end Go.Proofs.YtdhpmegbmjoekaaGreatDoor.G
end
section
namespace Go.Proofs.YtdhpmegbmjoekaaGreatDoor.G
open Go Go.Sh
set_option linter.unusedVariables false
set_option linter.unusedSimpArgs false
def setAt:List Value→Nat→List Value→List Value
 |xs,_,[]=>xs
 |xs,k,v::r=>setAt (xs.set k v) (k+1) r
theorem setAt_get: ∀(vs xs:List Value) (k j:Nat),(setAt xs k vs)[j]? =if k≤j∧j<k+vs.length∧j<xs.length then vs[j-k]? else xs[j]?
 |[],xs,k,j=>by rw[if_neg (by simp only[List.length_nil];omega)];rfl
 |v::r,xs,k,j=>by
  have ih:=setAt_get r (xs.set k v) (k+1) j
  show(setAt (xs.set k v) (k+1) r)[j]? =_
  rw[ih,List.length_set]
  by_cases h1:k+1≤j∧j<k+1+r.length∧j<xs.length
  ·rw[if_pos h1,if_pos (by simp only[List.length_cons];omega)]
   have:j-k=(j-(k+1))+1:=by omega
   rw[this,List.getElem?_cons_succ]
  ·rw[if_neg h1]
   by_cases h2:j=k
   ·subst h2
    by_cases h3:j<xs.length
    ·rw[if_pos (by simp only[List.length_cons];omega),List.getElem?_set_self h3,Nat.sub_self];rfl
    ·rw[if_neg (fun h=>h3 h.2.2),List.getElem?_eq_none (by rw[List.length_set];omega),List.getElem?_eq_none (by omega)]
   ·rw[if_neg (by simp only[List.length_cons];omega),List.getElem?_set_ne (fun h=>h2 h.symm)]
theorem flat_setAt {α:Type} (f:α→List Value) (c:Nat) (hc: ∀x,(f x).length=c) (h0:0<c) {l:List α} {i:Nat} (x:α) (hi:i<l.length):setAt (l.map f).flatten (i*c) (f x)=((l.set i x).map f).flatten:=by
 apply List.ext_getElem?
 intro j
 rw[setAt_get,hc]
 have hl:=flat_len f c hc l
 have hl2:=flat_len f c hc (l.set i x)
 rw[List.length_set] at hl2
 have e:j=(j / c)*c+j % c:=by rw[Nat.mul_comm];exact(Nat.div_add_mod j c).symm
 have hm:j % c<c:=Nat.mod_lt _ h0
 have hic:i*c+c≤l.length*c:=by have:=Nat.mul_le_mul_right c (show i+1≤l.length from hi);rw[Nat.add_mul,Nat.one_mul] at this;exact this
 by_cases h1:j / c<l.length
 ·obtain⟨y,ey⟩: ∃y,(l.set i x)[j / c]? =some y:=⟨_,List.getElem?_eq_getElem (by rw[List.length_set];exact h1)⟩
  have r2:=flat_at f c hc (l.set i x) (j / c) (j % c) y ey hm
  rw[←e] at r2
  rw[r2]
  by_cases h2:j / c=i
  ·have:y=x:=by rw[←h2,List.getElem?_set_self h1] at ey;exact(Option.some.inj ey).symm
   subst this
   have hj:j=i*c+j % c:=by rw[←h2];exact e
   rw[if_pos ⟨by omega,by omega,by omega⟩]
   congr 1;omega
  ·rw[List.getElem?_set_ne (fun h=>h2 h.symm)] at ey
   have r1:=flat_at f c hc l (j / c) (j % c) y ey hm
   rw[←e] at r1
   rw[if_neg,r1]
   rintro⟨a1,a2,_⟩
   have:j / c=i:=Nat.div_eq_of_lt_le a1 (by rw[Nat.add_mul,Nat.one_mul];omega)
   exact h2 this
 ·have hj:l.length*c≤j:=by
   have:=Nat.mul_le_mul_right c (show l.length≤j / c by omega)
   omega
  rw[if_neg (by omega),List.getElem?_eq_none (by omega),List.getElem?_eq_none (by omega)]
theorem rflat_set {rs:List Rg} {i:Nat} (hi:i<rs.length) (x:Rg):(((((rflat rs).set (i*4) (.int .i64 x.lo)).set (i*4+1) (.int .i64 x.hi)).set (i*4+2) (.int .i64 x.alo)).set (i*4+3) (.int .i64 x.ahi))=rflat (rs.set i x):=
 flat_setAt Rg.cells 4 (fun _=>rfl) (by decide) x hi
theorem rflat_rep: ∀n,(List.replicate n Rg.zero.cells).flatten=rflat (List.replicate n .zero)
 |n=>by unfold rflat;rw[List.map_replicate]
def rangesL (ns:List Nd) (W:Int→Int):List Int→List Rg→Option (List Rg)
 |[],o=>some o
 |i::r,o=>
  match ns[i.toNat-1]? with
  |none=>some o
  |some n=>
   if(nodeR n (W (n.inn.getD 0 0)) (n.inn.map fun k=>o.getD k.toNat .zero)).alo< -68719476736∨(nodeR n (W (n.inn.getD 0 0)) (n.inn.map fun k=>o.getD k.toNat .zero)).ahi>68719476736 then none
   else rangesL ns W r (o.set i.toNat (nodeR n (W (n.inn.getD 0 0)) (n.inn.map fun k=>o.getD k.toNat .zero)))
theorem rangesL_step {ns:List Nd} {W:Int→Int} {i:Int} {r:List Int} {o:List Rg} {n:Nd} (e:ns[i.toNat-1]? =some n):rangesL ns W (i::r) o=
 if(nodeR n (W (n.inn.getD 0 0)) (n.inn.map fun k=>o.getD k.toNat Rg.zero)).alo< -68719476736∨(nodeR n (W (n.inn.getD 0 0)) (n.inn.map fun k=>o.getD k.toNat Rg.zero)).ahi>68719476736 then none
 else rangesL ns W r (o.set i.toNat (nodeR n (W (n.inn.getD 0 0)) (n.inn.map fun k=>o.getD k.toNat Rg.zero))):=by rw[rangesL,e]
def Gr.ranges (g:Gr) (W:Int→Int):Option (List Rg):=rangesL g.nodes W (ordG g.nodes) (sameR g.low g.high::List.replicate g.nodes.length .zero)
def Gv.sizes (gv:Gv):Prop:=gv.l<2 ^ 20∧ ∀n∈gv.ns,n.inn.l<2 ^ 20∧n.weights.l<2 ^ 40∧n.bias.l<2 ^ 40
section
variable {h:Heap} {gv:Gv} {W R:Int→Int} {pos:Int→Nat}
theorem look3_ok (hok:gv.ok) (hn:Row h gv.p (nflat gv.ns)) (hr:(nrows gv.ns).P h) (hs:gv.sizes) (hT:KT h):callP P n_graph_look #[gv.v] h (LookP gv.gr.look h):=
 look_ok hok hn hr hs.1 (fun n hm=>by have:=hs.2 n hm;omega) hT
def GetP (xs:List Int) (h:Heap) (v:Value) (h':Heap):Prop:= ∃q:Sl,v=q.v∧q.ok∧q.xs=xs∧Sep h no h' [own 1 q.p q.l q.c (ints q.xs)] []
theorem Widths_ok (hok:gv.ok) (hn:Row h gv.p (nflat gv.ns)) (hr:(nrows gv.ns).P h) (hs:gv.sizes) (hT:KT h):callP P n_graph_Widths #[gv.v] h (GetP gv.gr.look.widths h):=by
 refine call_graph_Widths _ ?_
 unfold graph_Widths
 have S:=(((Sep.start h no).read (blk 0 (ints kindTab)) hT).read (row gv.p (nflat gv.ns)) hn).read (nrows gv.ns) hr
 refine newI_S (cs:=gv.cells) S fun b1 h1 _ S=> ?_
 dsimp only[List.nil_append,List.cons_append] at S
 refine ldAg_S S 0 rfl (x:=gv.t) rfl ?_
 refine(look3_ok hok (S.row 1 rfl) (S.r 2 _ rfl) hs (S.r 0 _ rfl)).mono ?_
 rintro _ g3 ⟨o,w,r,rfl,_,ew,_,_,wok,_,S1⟩
 replace S:=S.add S1 fun _ _ h=>h
 dsimp only[List.cons_append,List.nil_append] at S
 refine⟨_,_,_,_,_,_,_,_,_,_,rfl,?_⟩
 refine newI_S (cs:=[.slice none 0 0,.slice none 0 0,.slice none 0 0]) S fun b10 _ _ S=> ?_
 dsimp only[List.cons_append,List.nil_append] at S
 refine stI_S S 4 rfl (Nat.le_of_ble_eq_true rfl) fun _ _ S=> ?_
 dsimp only[List.set] at S
 refine stI_S S 4 rfl (Nat.le_of_ble_eq_true rfl) fun _ _ S=> ?_
 dsimp only[List.set] at S
 refine stI_S S 4 rfl (Nat.le_of_ble_eq_true rfl) fun _ _ S=> ?_
 dsimp only[List.set] at S
 exact ldSlice_i (S.cell 4 rfl rfl) ⟨w,rfl,wok,ew,noR (S.pw [2])⟩
theorem Order_ok (hok:gv.ok) (hn:Row h gv.p (nflat gv.ns)) (hr:(nrows gv.ns).P h) (hs:gv.sizes) (hT:KT h):callP P n_graph_Order #[gv.v] h (GetP gv.gr.look.order h):=by
 refine call_graph_Order _ ?_
 unfold graph_Order
 have S:=(((Sep.start h no).read (blk 0 (ints kindTab)) hT).read (row gv.p (nflat gv.ns)) hn).read (nrows gv.ns) hr
 refine newI_S (cs:=gv.cells) S fun b1 h1 _ S=> ?_
 dsimp only[List.nil_append,List.cons_append] at S
 refine ldAg_S S 0 rfl (x:=gv.t) rfl ?_
 refine(look3_ok hok (S.row 1 rfl) (S.r 2 _ rfl) hs (S.r 0 _ rfl)).mono ?_
 rintro _ g3 ⟨o,w,r,rfl,eo,_,_,ook,_,_,S1⟩
 replace S:=S.add S1 fun _ _ h=>h
 dsimp only[List.cons_append,List.nil_append] at S
 refine⟨_,_,_,_,_,_,_,_,_,_,rfl,?_⟩
 refine newI_S (cs:=[.slice none 0 0,.slice none 0 0,.slice none 0 0]) S fun b10 _ _ S=> ?_
 dsimp only[List.cons_append,List.nil_append] at S
 refine stI_S S 4 rfl (Nat.le_of_ble_eq_true rfl) fun _ _ S=> ?_
 dsimp only[List.set] at S
 refine stI_S S 4 rfl (Nat.le_of_ble_eq_true rfl) fun _ _ S=> ?_
 dsimp only[List.set] at S
 refine stI_S S 4 rfl (Nat.le_of_ble_eq_true rfl) fun _ _ S=> ?_
 dsimp only[List.set] at S
 exact ldSlice_i (S.cell 4 rfl rfl) ⟨o,rfl,ook,eo,noR (S.pw [1])⟩
theorem Rates_ok (hok:gv.ok) (hn:Row h gv.p (nflat gv.ns)) (hr:(nrows gv.ns).P h) (hs:gv.sizes) (hT:KT h):callP P n_graph_Rates #[gv.v] h (GetP gv.gr.look.rates h):=by
 refine call_graph_Rates _ ?_
 unfold graph_Rates
 have S:=(((Sep.start h no).read (blk 0 (ints kindTab)) hT).read (row gv.p (nflat gv.ns)) hn).read (nrows gv.ns) hr
 refine newI_S (cs:=gv.cells) S fun b1 h1 _ S=> ?_
 dsimp only[List.nil_append,List.cons_append] at S
 refine ldAg_S S 0 rfl (x:=gv.t) rfl ?_
 refine(look3_ok hok (S.row 1 rfl) (S.r 2 _ rfl) hs (S.r 0 _ rfl)).mono ?_
 rintro _ g3 ⟨o,w,r,rfl,_,_,er,_,_,rok,S1⟩
 replace S:=S.add S1 fun _ _ h=>h
 dsimp only[List.cons_append,List.nil_append] at S
 refine⟨_,_,_,_,_,_,_,_,_,_,rfl,?_⟩
 refine newI_S (cs:=[.slice none 0 0,.slice none 0 0,.slice none 0 0]) S fun b10 _ _ S=> ?_
 dsimp only[List.cons_append,List.nil_append] at S
 refine stI_S S 4 rfl (Nat.le_of_ble_eq_true rfl) fun _ _ S=> ?_
 dsimp only[List.set] at S
 refine stI_S S 4 rfl (Nat.le_of_ble_eq_true rfl) fun _ _ S=> ?_
 dsimp only[List.set] at S
 refine stI_S S 4 rfl (Nat.le_of_ble_eq_true rfl) fun _ _ S=> ?_
 dsimp only[List.set] at S
 exact ldSlice_i (S.cell 4 rfl rfl) ⟨r,rfl,rok,er,noR (S.pw [3])⟩
end
end Go.Proofs.YtdhpmegbmjoekaaGreatDoor.G
end
section
namespace Go.Proofs.YtdhpmegbmjoekaaGreatDoor.G
open Go Go.Sh
set_option linter.unusedVariables false
set_option linter.unusedSimpArgs false
theorem fill_set {α:Type} {A:List α} {z x:α} {n j:Nat} (hA:A.length=j) (hj:j<n):(A++List.replicate (n-j) z).set j x=(A++[x])++List.replicate (n-(j+1)) z:=by
 rw[show n-j=(n-(j+1))+1 by omega,List.replicate_succ,List.set_append,if_neg (by omega),hA,Nat.sub_self,List.set_cons_zero,List.append_assoc];rfl
theorem map_take_snoc {α β:Type} (f:α→β) {l:List α} {j:Nat} (hj:j<l.length):(l.take (j+1)).map f=(l.take j).map f++[f l[j]]:=by
 rw[List.take_succ_eq_append_getElem hj,List.map_append];rfl
theorem Right.node {g:Gr} {W R:Int→Int} {pos:Int→Nat} (r:Right g W R pos) {i:Nat} {n:Nd} (e:g.nodes[i]? =some n):1≤n.inn.length∧n.inn.length≤4∧(wei n.kind→1≤n.bias.length)∧inR n.kind 1 12∧ ∀j∈n.inn,0≤j∧j≤(g.nodes.length:Int):=by
 have c:=chk_ok (r.chk i n e)
 simp only[List.length_map] at c
 obtain⟨c1,c2,_,c4,_,c6,c7,_,_,c10,_⟩:=c
 refine⟨c2,?_,?_,c4,fun j hj=>(first_ok r.first).2.2.2.2.2 n (List.mem_of_getElem? e) j hj⟩
 ·by_cases hm:many n.kind
  ·exact(c6 hm).2
  ·rw[c7 hm];decide
 ·intro hw
  have s:=c10.2.2.2.1 hw
  have hd:1≤(n.inn.map W).getD 0 0:=by
   have hm:(n.inn.map W).getD 0 0∈n.inn.map W:=by
    rw[List.getD_eq_getElem?_getD,List.getElem?_eq_getElem (by rw[List.length_map];omega)]
    exact List.getElem_mem _
   exact(c1 _ hm).1
  have s2:=s.2.1
  by_cases h2:n.kind=2
  ·rw[if_pos h2] at s2;omega
  ·rw[if_neg h2] at s2
   have:=c10.2.2.1 (by rcases hw with h|h|h;exact .inl h;exact absurd h h2;exact .inr h)
   omega
section
variable {h:Heap} {gv:Gv} {W R:Int→Int} {pos:Int→Nat} {b1 b9:Nat} {o w:Sl} {Q:Value→Heap→Prop} {K1:(Addr×Sl3×Sl3×Sl3×Int×Int×Unit)→Heap→Prop}
theorem ranges_l8_ok (hok:gv.ok) (hs:gv.sizes) (rt:Right gv.gr W R pos) (eo:o.xs=ordG gv.gr.nodes) (ook:o.ok) (ew:w.xs=(List.range (gv.gr.nodes.length+1)).map fun x:Nat=>W x) (wok:w.ok)
 {k:Nat} (hk:k<gv.l) {os:List Rg} (hos:os.length=gv.l+1) {g:Heap}
 (S:Sep h no g [blk b1 gv.cells,own 1 w.p w.l w.c (ints w.xs),blk b9 (rflat os),own 1 o.p o.l o.c (ints o.xs)] [blk 0 (ints kindTab),row gv.p (nflat gv.ns),nrows gv.ns])
 (H: ∀g' os',os'.length=gv.l+1→rangesL gv.gr.nodes W (o.xs.drop k) os=rangesL gv.gr.nodes W (o.xs.drop (k+1)) os'→
  Sep h no g' [blk b1 gv.cells,own 1 w.p w.l w.c (ints w.xs),blk b9 (rflat os'),own 1 o.p o.l o.c (ints o.xs)] [blk 0 (ints kindTab),row gv.p (nflat gv.ns),nrows gv.ns]→
  K1 (⟨b1,0,none⟩,(w.p,w.l,w.c),(some ⟨b9,0,none⟩,gv.l+1,gv.l+1),(o.p,o.l,o.c),(o.l:Int),((k+1:Nat):Int),()) g')
 (HE: ∀g',Fra no h g'→rangesL gv.gr.nodes W (o.xs.drop k) os=none→Q (.tuple #[.slice none 0 0,.int .i64 16]) g'):
 bound_Ranges_l8 Q K1 ⟨b1,0,none⟩ w.p w.l w.c (some ⟨b9,0,none⟩) (gv.l+1) (gv.l+1) o.p o.l o.c (o.l:Int) (k:Int) g:=by
 have hgl:=hok.1
 have hgn:gv.gr.nodes.length=gv.l:=by rw[←hgl];simp[Gv.gr]
 have f:=first_ok rt.first
 have hl12:gv.l≤12:=by have:=f.2.1;omega
 have hord:=rt.ordered
 have hkl:k<o.xs.length:=by rw[eo,hord,hgn];exact hk
 have hol:o.l=gv.l:=by rw[←ook.1,eo,hord,hgn]
 have hwl:w.l=gv.l+1:=by rw[←wok.1,ew,List.length_map,List.length_range,hgn]
 have hxm:=ordK_mem gv.gr.nodes gv.gr.nodes.length o.xs[k] (by rw[eo] at hkl;simp only[eo];exact List.getElem_mem hkl)
 obtain⟨i,ex⟩: ∃i:Nat,o.xs[k]=(i:Int)+1:=⟨(o.xs[k]-1).toNat,by have:=hxm.1;omega⟩
 rw[ex,hgn] at hxm
 have hil:i<gv.l:=by omega
 obtain⟨nv,en⟩: ∃n,gv.ns[i]? =some n:=⟨_,List.getElem?_eq_getElem (by omega)⟩
 have hmem:=List.mem_of_getElem? en
 have nok:=hok.2.2 nv hmem
 have hsz:=hs.2 nv hmem
 have ilen:nv.inn.xs.length=nv.inn.l:=nok.1.1
 have endi:gv.gr.nodes[i]? =some nv.nd:=by show(gv.ns.map Nv.nd)[i]? =_;rw[List.getElem?_map,en];rfl
 obtain⟨n1,n4,nwe,nkd,ninn⟩:=rt.node endi
 have n1':1≤nv.inn.l:=by rw[←ilen];exact n1
 have n4':nv.inn.l≤4:=by rw[←ilen];exact n4
 have nrow: ∀{g:Heap} {W2:List Fact},Sep h no g W2 [blk 0 (ints kindTab),row gv.p (nflat gv.ns),nrows gv.ns]→nv.rows.P g:=fun S=>S.r 2 _ rfl nv.rows (List.mem_map_of_mem hmem)
 have irow: ∀{g:Heap} {W2:List Fact},Sep h no g W2 [blk 0 (ints kindTab),row gv.p (nflat gv.ns),nrows gv.ns]→Row g nv.inn.p (ints nv.inn.xs):=fun S=>nrow S nv.inn.row (by simp)
 have hdrop:rangesL gv.gr.nodes W (o.xs.drop k) os=if(nodeR nv.nd (W (nv.inn.xs.getD 0 0)) (nv.inn.xs.map fun k=>os.getD k.toNat Rg.zero)).alo< -68719476736∨(nodeR nv.nd (W (nv.inn.xs.getD 0 0)) (nv.inn.xs.map fun k=>os.getD k.toNat Rg.zero)).ahi>68719476736 then none
  else rangesL gv.gr.nodes W (o.xs.drop (k+1)) (os.set (i+1) (nodeR nv.nd (W (nv.inn.xs.getD 0 0)) (nv.inn.xs.map fun k=>os.getD k.toNat Rg.zero))):=by
  rw[List.drop_eq_getElem_cons hkl,ex,rangesL_step (n:=nv.nd) (by rw[show((i:Int)+1).toNat-1=i by omega];exact endi),show((i:Int)+1).toNat=i+1 by omega];rfl
 unfold bound_Ranges_l8
 refine ifB_true (decide_eq_true (by omega)) ?_
 obtain⟨ao,eao⟩:=(S.own 3 rfl).row.some_of (by rw[ints_length];omega)
 have co:cellH g (ao.add k)=some (.int .i64 ((i:Int)+1)):=by
  have:=(S.own 3 rfl).row
  rw[eao] at this
  rw[←ex]
  exact this.cell (ints_get (List.getElem?_eq_getElem hkl))
 obtain⟨an,ean⟩:=(S.row 1 rfl).some_of (by rw[nflat_length];omega)
 simp only[add_mk,Nat.zero_add,Int.toNat_natCast,Nat.mul_one]
 refine idxI_i eao (k:=k) rfl (by omega) (ldInt_i co ?_)
 refine ldSlice_i (p:=gv.p) (l:=gv.l) (c:=gv.c) (S.cell 0 rfl rfl) ?_
 rw[wrap64_in (n:=(i:Int)+1-1) (by omega),show(i:Int)+1-1=(i:Int) by omega]
 refine idxI_i ean (k:=i) rfl hil ?_
 simp only[Int.toNat_natCast]
 refine ldNode (by have:=S.row 1 rfl;rw[ean] at this;exact this) en ?_
 refine newI_S (cs:=mkS' ndSh (zT ndSh)) S fun b33 g2 _ S=> ?_
 dsimp only[List.cons_append,List.nil_append] at S
 refine stL_S S 4 rfl rfl (mkS_one rfl) fun g3 _ S=> ?_
 dsimp only[List.set] at S
 refine ldSlice_i (p:=nv.inn.p) (l:=nv.inn.l) (c:=nv.inn.c) (S.cell 4 rfl rfl) ?_
 refine mkI_S S nv.inn.l rfl (zs:=Rg.zero.cells) rfl rfl (by decide) (by omega) (by omega) fun b37 g4 _ S=> ?_
 dsimp only[List.cons_append,List.nil_append] at S
 rw[rflat_rep] at S
 refine ldSlice_i (p:=nv.inn.p) (l:=nv.inn.l) (c:=nv.inn.c) (S.cell 4 rfl rfl) ?_
 refine LoopS_i (fun mm s g=> ∃j:Nat,s=(⟨b1,0,none⟩,(w.p,w.l,w.c),(some ⟨b9,0,none⟩,gv.l+1,gv.l+1),(i:Int)+1,⟨b33,0,none⟩,(some ⟨b37,0,none⟩,nv.inn.l,nv.inn.l),(o.p,o.l,o.c),(o.l:Int),(k:Int),(nv.inn.p,nv.inn.l,nv.inn.c),(nv.inn.l:Int),(j:Int),())∧j≤nv.inn.l∧mm=nv.inn.l-j∧
  Sep h no g [blk b1 gv.cells,own 1 w.p w.l w.c (ints w.xs),blk b9 (rflat os),own 1 o.p o.l o.c (ints o.xs),blk b33 nv.cells,blk b37 (rflat ((nv.inn.xs.take j).map (fun k=>os.getD k.toNat Rg.zero)++List.replicate (nv.inn.l-j) Rg.zero))] [blk 0 (ints kindTab),row gv.p (nflat gv.ns),nrows gv.ns]) nv.inn.l ⟨0,rfl,by omega,rfl,S⟩ ?_
 clear S
 rintro mm s g ⟨j,rfl,hj,rfl,S⟩
 unfold bound_Ranges_l13
 dsimp only
 simp only[add_mk,Nat.zero_add,Int.toNat_natCast,Nat.mul_one]
 have wrow: ∀{x:Int},0≤x→x≤(gv.l:Int)→ ∃a,w.p=some a∧cellH g (a.add x.toNat)=some (.int .i64 (W x)):=by
  intro x x0 x1
  obtain⟨aw,eaw⟩:=(S.own 1 rfl).row.some_of (by rw[ints_length,wok.1];omega)
  refine⟨aw,eaw,?_⟩
  have:=(S.own 1 rfl).row
  rw[eaw] at this
  refine this.cell (ints_get ?_)
  rw[ew,List.getElem?_map,List.getElem?_range (by omega)]
  show some (W (x.toNat:Int))=_
  rw[show(x.toNat:Int)=x by omega]
 refine ifB_dec (fun hlt=> ?_) (fun hge=> ?_)
 ·have hlt:j<nv.inn.l:=by omega
  have hlt':j<nv.inn.xs.length:=by omega
  obtain⟨ai,eai⟩:=(irow S).some_of (by rw[ints_length];omega)
  have ci:cellH g (ai.add j)=some (.int .i64 nv.inn.xs[j]):=by
   have:=irow S
   rw[eai] at this
   exact this.cell (ints_get (List.getElem?_eq_getElem hlt'))
  have hjr:=ninn nv.inn.xs[j] (List.getElem_mem hlt')
  rw[hgn] at hjr
  obtain⟨x,exx⟩: ∃x:Nat,nv.inn.xs[j]=x:=⟨nv.inn.xs[j].toNat,by omega⟩
  rw[exx] at ci hjr
  refine idxI_i eai (k:=j) rfl hlt (ldInt_i ci ?_)
  have hx:os[x]? =some (os.getD x Rg.zero):=by rw[List.getD_eq_getElem?_getD,List.getElem?_eq_getElem (by omega)];rfl
  have rc:=rg_cell (a:=⟨b9,0,none⟩) (Row.of_at (S.at 2 rfl)) hx
  simp only[add_mk,Nat.zero_add] at rc
  obtain⟨r0,r1,r2,r3⟩:=rc
  refine idxI_i rfl (k:=x) rfl (by omega) ?_
  simp only[add_mk,Nat.zero_add,Int.toNat_natCast]
  refine ldInt_i r0 (ldInt_i r1 (ldInt_i r2 (ldInt_i r3 ?_)))
  refine idxI_i rfl (k:=j) rfl hlt ?_
  simp only[add_mk,Nat.zero_add,Int.toNat_natCast]
  have hlen:((nv.inn.xs.take j).map (fun k=>os.getD k.toNat Rg.zero)).length=j:=by rw[List.length_map,List.length_take];omega
  have hfl:(rflat ((nv.inn.xs.take j).map (fun k=>os.getD k.toNat Rg.zero)++List.replicate (nv.inn.l-j) Rg.zero)).length=nv.inn.l*4:=by rw[rflat_length,List.length_append,hlen,List.length_replicate];congr 1;omega
  refine stI_S S 5 rfl (by omega) fun _ _ S=> ?_
  dsimp only[List.set] at S
  refine stI_S S 5 rfl (by rw[List.length_set];omega) fun _ _ S=> ?_
  dsimp only[List.set] at S
  refine stI_S S 5 rfl (by rw[List.length_set,List.length_set];omega) fun _ _ S=> ?_
  dsimp only[List.set] at S
  refine stI_S S 5 rfl (by rw[List.length_set,List.length_set,List.length_set];omega) fun _ _ S=> ?_
  dsimp only[List.set] at S
  rw[rflat_set (by rw[List.length_append,hlen,List.length_replicate];omega) (os.getD x Rg.zero),fill_set hlen hlt] at S
  have e2:=map_take_snoc (fun k:Int=>os.getD k.toNat Rg.zero) hlt'
  rw[exx,Int.toNat_natCast] at e2
  rw[←e2] at S
  rw[wrap64_in (n:=(j:Int)+1) (by omega)]
  exact⟨nv.inn.l-(j+1),by omega,j+1,rfl,by omega,rfl,S⟩
 ·have ej:j=nv.inn.l:=by omega
  subst ej
  rw[List.take_of_length_le (by omega),Nat.sub_self,List.replicate_zero,List.append_nil] at S
  refine ldAg_S S 4 rfl (x:=nv.t) rfl ?_
  refine ldSlice_i (p:=nv.inn.p) (l:=nv.inn.l) (c:=nv.inn.c) (S.cell 4 rfl rfl) ?_
  obtain⟨ai,eai⟩:=(irow S).some_of (by rw[ints_length];omega)
  obtain⟨x0,ex0⟩: ∃x0,nv.inn.xs[0]? =some x0:=⟨_,List.getElem?_eq_getElem (by omega)⟩
  have hx0:nv.inn.xs.getD 0 0=x0:=by rw[List.getD_eq_getElem?_getD,ex0];rfl
  have hxr:=ninn x0 (List.mem_of_getElem? ex0)
  rw[hgn] at hxr
  have ci:cellH g (ai.add 0)=some (.int .i64 x0):=by
   have:=irow S
   rw[eai] at this
   exact this.cell (ints_get ex0)
  refine idxI_i eai (k:=0) rfl (by omega) (ldInt_i ci ?_)
  obtain⟨aw,eaw,cw⟩:=wrow hxr.1 hxr.2
  refine idxI_i eaw (k:=x0.toNat) (by omega) (by omega) (ldInt_i cw ?_)
  refine(node_ok nok (nrow S) (S.r 0 _ rfl) hsz.2.1 hsz.2.2 (fun hk=>by have:=nwe hk;rw[←nok.2.2.1];exact this) (Row.of_at (S.at 5 rfl)) (by rw[List.length_map];exact ilen) n1' (by omega) (W x0)).mono ?_
  rintro _ g2 ⟨rfl,F⟩
  replace S:=S.fra0 F
  refine⟨_,_,_,_,rfl,?_⟩
  obtain⟨y,ey⟩: ∃y,nodeR nv.nd (W x0) (nv.inn.xs.map fun k=>os.getD k.toNat Rg.zero)=y:=⟨_,rfl⟩
  rw[hx0,ey] at hdrop
  rw[ey]
  refine idxI_i rfl (k:=i+1) rfl (by omega) ?_
  rw[show((i:Int)+1).toNat=i+1 by omega]
  simp only[add_mk,Nat.zero_add]
  have hfl:(rflat os).length=(gv.l+1)*4:=by rw[rflat_length,hos]
  refine stI_S S 2 rfl (by omega) fun _ _ S=> ?_
  dsimp only[List.set] at S
  refine stI_S S 2 rfl (by rw[List.length_set];omega) fun _ _ S=> ?_
  dsimp only[List.set] at S
  refine stI_S S 2 rfl (by rw[List.length_set,List.length_set];omega) fun _ _ S=> ?_
  dsimp only[List.set] at S
  refine stI_S S 2 rfl (by rw[List.length_set,List.length_set,List.length_set];omega) fun _ _ S=> ?_
  dsimp only[List.set] at S
  rw[rflat_set (by omega) y] at S
  have hy:(os.set (i+1) y)[i+1]? =some y:=List.getElem?_set_self (by omega)
  have rc:=rg_cell (a:=⟨b9,0,none⟩) (Row.of_at (S.at 2 rfl)) hy
  simp only[add_mk,Nat.zero_add] at rc
  obtain⟨_,_,r2,r3⟩:=rc
  refine idxI_i rfl (k:=i+1) rfl (by omega) ?_
  simp only[add_mk,Nat.zero_add]
  refine ldInt_i r2 (ifB_dec (fun hlo=> ?_) (fun hlo=> ?_))
  ·exact HE _ S.fra (by rw[hdrop,if_pos (.inl hlo)])
  ·refine idxI_i rfl (k:=i+1) rfl (by omega) ?_
   simp only[add_mk,Nat.zero_add]
   refine ldInt_i r3 (ifB_dec (fun hhi=> ?_) (fun hhi=> ?_))
   ·exact HE _ S.fra (by rw[hdrop,if_pos (.inr hhi)])
   ·rw[wrap64_in (n:=(k:Int)+1) (by omega)]
    refine H _ (os.set (i+1) y) (by rw[List.length_set];exact hos) ?_ (S.pw [0,1,2,3])
    rw[hdrop,if_neg (by rintro(h|h);exact hlo h;exact hhi h)]
theorem Ranges_ok (hok:gv.ok) (hn:Row h gv.p (nflat gv.ns)) (hr:(nrows gv.ns).P h) (hs:gv.sizes) (hT:KT h) (rt:Right gv.gr W R pos):
 callP P n_bound_Ranges #[gv.v] h fun v h'=>(∃(q:Option Addr) (m d:Nat),v= .tuple #[.slice q m d,.int .i64 (if(gv.gr.ranges W).isSome then 0 else 16)])∧Fra no h h':=by
 refine call_bound_Ranges _ ?_
 unfold bound_Ranges
 have hgl:=hok.1
 have hgn:gv.gr.nodes.length=gv.l:=by rw[←hgl];simp[Gv.gr]
 have hl12:gv.l≤12:=by have:=(first_ok rt.first).2.1;omega
 have S:=(((Sep.start h no).read (blk 0 (ints kindTab)) hT).read (row gv.p (nflat gv.ns)) hn).read (nrows gv.ns) hr
 refine newI_S (cs:=gv.cells) S fun b1 h1 _ S=> ?_
 dsimp only[List.nil_append,List.cons_append] at S
 refine ldAg_S S 0 rfl (x:=gv.t) rfl ?_
 refine(GCheck_ok hok (S.row 1 rfl) (S.r 2 _ rfl) hs.1 (fun n hm=>by have:=hs.2 n hm;omega) (S.r 0 _ rfl)).mono ?_
 rintro _ g2 ⟨rfl,F⟩
 replace S:=S.fra0 F
 have el:=rt.look
 refine⟨_,rfl,ifB_bne (fun he=>absurd (by rw[el]) he) (fun _=> ?_)⟩
 refine ldAg_S S 0 rfl (x:=gv.t) rfl ?_
 refine(Widths_ok hok (S.row 1 rfl) (S.r 2 _ rfl) hs (S.r 0 _ rfl)).mono ?_
 rintro _ g3 ⟨⟨wp,wl,wc,wx⟩,rfl,wok,ew,S1⟩
 have ew':wx=(List.range (gv.gr.nodes.length+1)).map fun x:Nat=>W x:=by rw[el] at ew;exact ew
 obtain rfl:wl=gv.l+1:=by have:=wok.1;dsimp only at this;rw[←this,ew',List.length_map,List.length_range,hgn]
 dsimp only at S1
 replace S:=S.add S1 fun _ _ h=>h
 dsimp only[List.cons_append,List.nil_append] at S
 refine⟨_,_,_,rfl,?_⟩
 refine mkI_S S (gv.l+1) rfl (zs:=Rg.zero.cells) rfl rfl (by decide) (by omega) (by omega) fun b9 g4 _ S=> ?_
 dsimp only[List.cons_append,List.nil_append] at S
 rw[rflat_rep] at S
 refine ldInt_i (n:=gv.low) (S.cell 0 rfl rfl) (ldInt_i (n:=gv.high) (S.cell 0 rfl rfl) ?_)
 refine(sameR_ok _ _).mono ?_
 rintro _ g5 ⟨rfl,F⟩
 replace S:=S.fra0 F
 refine⟨_,_,_,_,rfl,?_⟩
 simp only[Int.toNat_natCast]
 refine idxI_i rfl (k:=0) rfl (by omega) ?_
 simp only[add_mk,Nat.zero_add,Int.toNat_zero,Nat.zero_mul]
 have hfl:(rflat (List.replicate (gv.l+1) .zero)).length=(gv.l+1)*4:=by rw[rflat_length,List.length_replicate]
 refine stI_S S 2 rfl (by omega) fun _ _ S=> ?_
 dsimp only[List.set] at S
 refine stI_S S 2 rfl (by rw[List.length_set];omega) fun _ _ S=> ?_
 dsimp only[List.set] at S
 refine stI_S S 2 rfl (by rw[List.length_set,List.length_set];omega) fun _ _ S=> ?_
 dsimp only[List.set] at S
 refine stI_S S 2 rfl (by rw[List.length_set,List.length_set,List.length_set];omega) fun _ _ S=> ?_
 dsimp only[List.set] at S
 have e0:=rflat_set (rs:=List.replicate (gv.l+1) .zero) (i:=0) (by rw[List.length_replicate];omega) (sameR gv.low gv.high)
 simp only[Nat.zero_mul,Nat.zero_add] at e0
 rw[e0] at S
 refine ldAg_S S 0 rfl (x:=gv.t) rfl ?_
 refine(Order_ok hok (S.row 1 rfl) (S.r 2 _ rfl) hs (S.r 0 _ rfl)).mono ?_
 rintro _ g6 ⟨o,rfl,ook,eo,S1⟩
 rw[el] at eo
 replace S:=S.add S1 fun _ _ h=>h
 dsimp only[List.cons_append,List.nil_append] at S
 have hol:o.l=gv.l:=by rw[←ook.1,eo,rt.ordered,hgn]
 refine⟨_,_,_,rfl,?_⟩
 refine LoopS_i (fun mm s g=> ∃(k:Nat) (os:List Rg),s=(⟨b1,0,none⟩,(wp,gv.l+1,wc),(some ⟨b9,0,none⟩,gv.l+1,gv.l+1),(o.p,o.l,o.c),(o.l:Int),(k:Int),())∧k≤gv.l∧mm=gv.l-k∧os.length=gv.l+1∧gv.gr.ranges W=rangesL gv.gr.nodes W (o.xs.drop k) os∧
  Sep h no g [blk b1 gv.cells,own 1 wp (gv.l+1) wc (ints wx),blk b9 (rflat os),own 1 o.p o.l o.c (ints o.xs)] [blk 0 (ints kindTab),row gv.p (nflat gv.ns),nrows gv.ns]) gv.l ⟨0,_,rfl,by omega,rfl,by rw[List.length_set,List.length_replicate],?_,S⟩ ?_
 ·rw[List.drop_zero,eo,List.replicate_succ,List.set_cons_zero]
  unfold Gr.ranges
  rw[hgn];rfl
 clear S e0 hfl
 rintro mm s g ⟨k,os,rfl,hk,rfl,hos,er,S⟩
 dsimp only
 by_cases hlt:k<gv.l
 ·refine ranges_l8_ok (w:=⟨wp,gv.l+1,wc,wx⟩) hok hs rt eo ook ew' wok hlt hos S (fun g' os' hos' e' S'=> ?_) (fun g' F' e'=> ?_)
  ·exact⟨gv.l-(k+1),by omega,k+1,os',rfl,by omega,rfl,hos',by rw[er,e'],S'⟩
  ·rw[er,e'];exact⟨⟨_,_,_,rfl⟩,F'⟩
 ·unfold bound_Ranges_l8
  refine ifB_false (decide_eq_false (by omega)) ?_
  rw[List.drop_of_length_le (by rw[ook.1];omega)] at er
  rw[er]
  exact⟨⟨_,_,_,rfl⟩,S.fra⟩
end
end Go.Proofs.YtdhpmegbmjoekaaGreatDoor.G
end
