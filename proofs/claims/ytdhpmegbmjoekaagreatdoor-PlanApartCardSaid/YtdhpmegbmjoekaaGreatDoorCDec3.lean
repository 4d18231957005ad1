/- CDec CDec2 CDec3, in one text. -/
import Derived.Test.YtdhpmegbmjoekaaGreatDoorCMade4
import Derived.Test.YtdhpmegbmjoekaaGreatDoorCTapeX4
import Derived.Test.YtdhpmegbmjoekaaGreatDoorCMade5
section
namespace Go.Proofs.YtdhpmegbmjoekaaGreatDoor.G
open Go Go.Sh
set_option linter.unusedVariables false
set_option linter.unusedSimpArgs false
def rbs (s:List UInt8):Nat→St→List Int×St
 |0,t=>([],t)
 |n+1,t=>((rbs s n t).1++[(rget s (rbs s n t).2 1).1],(rget s (rbs s n t).2 1).2)
theorem rbs_ok {s:List UInt8} {t:St} (h:t.ok s): ∀n,(rbs s n t).2.ok s
 |0=>h
 |n+1=>rget_ok (rbs_ok h n) 1
theorem rbs_length (s:List UInt8) (t:St): ∀n,(rbs s n t).1.length=n
 |0=>rfl
 |n+1=>by simp[rbs,rbs_length s t n]
def dNode (s:List UInt8) (t:St):Nd×St:=
 let a:=rbs s 2 t
 let b:=rbs s (a.1.getD 1 0).toNat a.2
 let c:=rbs s 6 b.2
 let d:=rrow s c.2
 let e:=rrow s d.2
 let f:=rget s e.2 2
 let g:=rget s f.2 1
 let i:=rget s g.2 4
 let j:=rget s i.2 4
 let k:=rget s j.2 1
 (⟨a.1.getD 0 0,b.1,c.1.getD 0 0,c.1.getD 1 0,c.1.getD 2 0,c.1.getD 3 0,c.1.getD 4 0,c.1.getD 5 0,d.1,e.1,f.1,g.1,sgn i.1,sgn j.1,k.1⟩,k.2)
theorem dNode_ok {s:List UInt8} {t:St} (h:t.ok s):(dNode s t).2.ok s:=by
 unfold dNode
 exact rget_ok (rget_ok (rget_ok (rget_ok (rget_ok (rrow_ok (rrow_ok (rbs_ok (rbs_ok (rbs_ok h 2) _) 6))) 2) 1) 4) 4) 1
def setsF (u:List Value×List Value) (x:(Bool×Nat)×Int):List Value×List Value:=if x.1.1=true then(u.1,u.2.set x.1.2 (.int .i64 x.2)) else(u.1.set x.1.2 (.int .i64 x.2),u.2)
def sets (ts:List (Bool×Nat)) (vs:List Int) (u:List Value×List Value):List Value×List Value:=(ts.zip vs).foldl setsF u
theorem sets_snoc {ts:List (Bool×Nat)} {i:Nat} (hi:i<ts.length) {vs:List Int} (hv:vs.length=i) (v:Int) (u:List Value×List Value):sets (ts.take (i+1)) (vs++[v]) u=setsF (sets (ts.take i) vs u) (ts[i],v):=by
 unfold sets
 rw[List.take_succ_eq_append_getElem hi,List.zip_append (by rw[List.length_take];omega),List.foldl_append];rfl
theorem setsF_len (u:List Value×List Value) (x:(Bool×Nat)×Int):(setsF u x).1.length=u.1.length∧(setsF u x).2.length=u.2.length:=by
 unfold setsF;split<;>simp
theorem sets_len (u:List Value×List Value): ∀(l:List ((Bool×Nat)×Int)),(l.foldl setsF u).1.length=u.1.length∧(l.foldl setsF u).2.length=u.2.length:=by
 intro l
 induction l generalizing u with
 |nil=>exact⟨rfl,rfl⟩
 |cons x r ih=>have:=ih (setsF u x);have h2:=setsF_len u x;simp only[List.foldl_cons];omega
section
variable {h:Heap} {T:Nat→Prop} {R:List Fact} {b A B:Nat} {s:List UInt8} {t:St} {ca cb:List Value}
def tptr (A B:Nat) (x:Bool×Nat):Value:= .pointer (some ⟨if x.1=true then B else A,x.2,none⟩)
theorem rsmall_S (S:Sep h T h [rd b t.at_ s t.err,blk A ca,blk B cb] R) (ht:t.ok s) (hs:s.length<2 ^ 62) (ix:Nat) {q:Option Addr} {k d:Nat} {ts:List (Bool×Nat)} (ex:R[ix]? =some (row q (ts.map (tptr A B)))) (hk:ts.length=k) (hk2:k≤100)
 (hoff: ∀x∈ts,if x.1=true then x.2<cb.length else x.2<ca.length):
 callP P n_model_reader_small #[.agg #[.pointer (some ⟨b,0,none⟩)],.slice q k d] h fun v h'=>v= .tuple #[]∧Sep h T h' [rd b (rbs s k t).2.at_ s (rbs s k t).2.err,blk A (sets ts (rbs s k t).1 (ca,cb)).1,blk B (sets ts (rbs s k t).1 (ca,cb)).2] R:=by
 refine call_model_reader_small _ _ _ _ ?_
 unfold model_reader_small
 refine newI_S S (fun b1 _ _ S=> ?_)
 dsimp only[List.cons_append,List.nil_append] at S
 refine LoopS_i (fun m s' g=> ∃(i:Nat),s'=(⟨b1,0,none⟩,(q,k,d),(k:Int),(i:Int),())∧i≤k∧m=k-i∧Sep h T g [rd b (rbs s i t).2.at_ s (rbs s i t).2.err,blk A (sets (ts.take i) (rbs s i t).1 (ca,cb)).1,blk B (sets (ts.take i) (rbs s i t).1 (ca,cb)).2,blk b1 [.pointer (some ⟨b,0,none⟩)]] R) k ⟨0,rfl,by omega,rfl,S⟩ ?_
 clear S
 rintro m s' g ⟨i,rfl,hi,rfl,S⟩
 unfold model_reader_small_l2
 dsimp only
 refine ifB_dec (fun hlt=> ?_) (fun hge=> ?_)
 ·have hix:i<ts.length:=by omega
  have hx:=S.row ix ex
  obtain⟨aa,rfl⟩:=hx.some_of (by simp;omega)
  refine idxI_i rfl rfl (by omega) ?_
  simp only[Int.toNat_natCast,Nat.mul_one]
  refine ldPtr_i (n:=some ⟨if ts[i].1=true then B else A,ts[i].2,none⟩) (hx.cell (by rw[List.getElem?_map,List.getElem?_eq_getElem hix];rfl)) ?_
  refine ldPtr_i (S.cell 3 rfl rfl) ?_
  have P0:=S.into [0] [] []
  refine(rByte_S (t:=(rbs s i t).2) P0 (rbs_ok ht i) hs).mono ?_
  rintro _ _ ⟨rfl,S1⟩
  refine⟨_,rfl,?_⟩
  replace S:=S.back [0] S1
  try dsimp only[merge,List.set,List.cons_append,List.nil_append] at S
  refine nilI_some ?_
  rw[wrap64_in (n:=(i:Int)+1) (by omega)]
  have hoffi:=hoff _ (List.getElem_mem hix)
  have hvl:=rbs_length s t i
  have hlen:=sets_len (ca,cb) ((ts.take i).zip (rbs s i t).1)
  have estep:=sets_snoc hix hvl (rget s (rbs s i t).2 1).1 (ca,cb)
  generalize ts[i]=x at hoffi estep ⊢
  obtain⟨xb,xo⟩:=x
  have key: ∀g',Sep h T g' [rd b (rget s (rbs s i t).2 1).2.at_ s (rget s (rbs s i t).2 1).2.err,blk A (setsF (sets (ts.take i) (rbs s i t).1 (ca,cb)) ((xb,xo),(rget s (rbs s i t).2 1).1)).1,blk B (setsF (sets (ts.take i) (rbs s i t).1 (ca,cb)) ((xb,xo),(rget s (rbs s i t).2 1).1)).2,blk b1 [.pointer (some ⟨b,0,none⟩)]] R→
   ∃m,m<k-i∧ ∃i':Nat,(((⟨b1,0,none⟩:Addr),(some aa,k,d),(k:Int),(i:Int)+1,()):Addr×(Option Addr×Nat×Nat)×Int×Int×Unit)=(⟨b1,0,none⟩,(some aa,k,d),(k:Int),(i':Int),())∧i'≤k∧m=k-i'∧Sep h T g' [rd b (rbs s i' t).2.at_ s (rbs s i' t).2.err,blk A (sets (ts.take i') (rbs s i' t).1 (ca,cb)).1,blk B (sets (ts.take i') (rbs s i' t).1 (ca,cb)).2,blk b1 [.pointer (some ⟨b,0,none⟩)]] R:=
   fun g' S=>⟨k-(i+1),by omega,i+1,rfl,by omega,rfl,by
    show Sep h T g' [rd b (rget s (rbs s i t).2 1).2.at_ s (rget s (rbs s i t).2 1).2.err,blk A (sets (ts.take (i+1)) ((rbs s i t).1++[(rget s (rbs s i t).2 1).1]) (ca,cb)).1,blk B (sets (ts.take (i+1)) ((rbs s i t).1++[(rget s (rbs s i t).2 1).1]) (ca,cb)).2,blk b1 [.pointer (some ⟨b,0,none⟩)]] R
    rw[estep];exact S⟩
  cases xb
  ·refine stI_S S 1 rfl (k:=xo) (Nat.lt_of_lt_of_eq (show xo<ca.length from hoffi) hlen.1.symm) fun g' _ S=> ?_
   exact key _ S
  ·refine stI_S S 2 rfl (k:=xo) (Nat.lt_of_lt_of_eq (show xo<cb.length from hoffi) hlen.2.symm) fun g' _ S=> ?_
   exact key _ S
 ·have:i=k:=by omega
  subst this
  rw[List.take_of_length_le (by omega)] at S
  exact⟨by trivial,S.pw [0,1,2]⟩
set_option maxHeartbeats 2000000 in
theorem rnode_S (S:Sep h T h [rd b t.at_ s t.err] R) (ht:t.ok s) (hs:s.length<2 ^ 62):
 callP P n_model_reader_node #[.agg #[.pointer (some ⟨b,0,none⟩)]] h fun v h'=> ∃nv:Nv,v=nv.v∧nv.ok∧nv.nd=(dNode s t).1∧Sep h T h' [rd b (dNode s t).2.at_ s (dNode s t).2.err,nv.rows] R:=by
 refine call_model_reader_node _ ?_
 unfold model_reader_node
 refine newI_S S (fun b1 _ _ S=> ?_)
 refine newI_S S fun b3 h3 _ S=> ?_
 refine newI_S S fun b5 h5 _ S=> ?_
 refine newI_S S (fun b7 _ _ S=> ?_)
 dsimp only[List.cons_append,List.nil_append] at S
 refine stI_S S 4 rfl (k:=0) (Nat.le_of_ble_eq_true rfl) fun h9 _ S=> ?_
 refine ldPtr_i (S.cell 1 rfl rfl) ?_
 refine newI_S S (fun b11 _ _ S=> ?_)
 have S2:Sep h T _ [rd b t.at_ s t.err,blk b5 Nv.zero.cells,blk b7 [.int .i64 0],blk b1 [.pointer (some ⟨b,0,none⟩)],blk b3 (mkS' ndSh (zT ndSh)),blk b11 [tptr b5 b7 (false,0),tptr b5 b7 (true,0)]] R:=S.pw [0,3,4,1,2,5]
 clear S
 have S:=S2
 clear S2
 refine(rsmall_S ((S.into [0,1,2] [5] []).rowB 0) ht hs 0 (ts:=[(false,0),(true,0)]) (k:=2) rfl rfl (by decide) (by intro x hx;simp at hx;rcases hx with rfl|rfl<;>exact Nat.le_of_ble_eq_true rfl)).mono ?_
 rintro _ _ ⟨rfl,S1⟩
 refine⟨rfl,?_⟩
 replace S:=S.back [0,1,2] S1
 try dsimp only[merge,List.set,List.cons_append,List.nil_append] at S
 have oka:=rbs_ok ht 2
 generalize hka:(rbs s 2 t)=a at S oka
 have ha0: ∃k0 k1,a.1=[k0,k1]∧0≤k1∧k1<256:=by rw[←hka];exact⟨_,_,rfl,rget_range s _ 1⟩
 obtain⟨k0,k1,ea,hk1,hk2⟩:=ha0
 rw[ea] at S
 have S2:Sep h T _ [rd b a.2.at_ s a.2.err,blk b5 ({Nv.zero with kind:=k0}:Nv).cells,blk b7 [.int .i64 k1],blk b1 [.pointer (some ⟨b,0,none⟩)],blk b3 (mkS' ndSh (zT ndSh))] R:=S.pw [0,1,2,3,4]
 clear S
 have S:=(S2.nil 1).pw [0,1,2,3,4,5]
 clear S2
 dsimp only[Sh.pick,List.getElem?_cons_zero,List.getElem?_cons_succ,List.cons_append,List.nil_append] at S
 refine ldInt_i (n:=k1) (S.cell 2 rfl rfl) ?_
 obtain⟨kn,rfl⟩: ∃kn:Nat,k1=kn:=⟨k1.toNat,by omega⟩
 refine LoopS_i (fun m s' g=> ∃(i:Nat) (q:Option Addr) (k d:Nat),s'=(⟨b1,0,none⟩,⟨b3,0,none⟩,⟨b5,0,none⟩,(kn:Int),(i:Int),())∧i≤kn∧m=kn-i∧k=i∧
  Sep h T g [rd b (rbs s i a.2).2.at_ s (rbs s i a.2).2.err,blk b5 ({Nv.zero with kind:=k0,inn:=⟨q,k,d,[]⟩}:Nv).cells,blk b7 [.int .i64 kn],blk b1 [.pointer (some ⟨b,0,none⟩)],blk b3 (mkS' ndSh (zT ndSh)),own 1 q k d (ints (rbs s i a.2).1)] R) kn ⟨0,none,0,0,rfl,by omega,rfl,rfl,S⟩ ?_
 clear S
 rintro m s' g ⟨i,q,k,d,rfl,hi,rfl,rfl,S⟩
 unfold model_reader_node_l5
 dsimp only
 refine ifB_dec (fun hlt=> ?_) (fun hge=> ?_)
 ·refine ldSlice_i (p:=q) (l:=k) (c:=d) (S.cell 1 rfl rfl) (ldPtr_i (S.cell 3 rfl rfl) ?_)
  refine(rByte_S (t:=(rbs s k a.2).2) (S.into [0] [] []) (rbs_ok oka k) hs).mono ?_
  rintro _ _ ⟨rfl,S1⟩
  refine⟨_,rfl,?_⟩
  replace S:=S.back [0] S1
  try dsimp only[merge,List.set,List.cons_append,List.nil_append] at S
  refine and_i (S.cell 1 rfl rfl) ?_
  refine newI_S S (fun b20 _ _ S=> ?_)
  dsimp only[List.cons_append,List.nil_append] at S
  refine appI_S S 5 (ys:=ints [(rget s (rbs s k a.2).2 1).1]) rfl rfl (by decide) (by omega) (Row.of_at (S.at 6 rfl)) rfl vals_one fun p' l' c' h' hl' S=> ?_
  dsimp only[List.set] at S
  refine stI_S S 1 rfl (k:=1) (Nat.le_of_ble_eq_true rfl) fun g' _ S=> ?_
  rw[wrap64_in (by omega)]
  refine⟨kn-(k+1),by omega,k+1,p',l',c',rfl,by omega,rfl,hl',?_⟩
  have ei:ints (rbs s k a.2).1++ints [(rget s (rbs s k a.2).2 1).1]=ints (rbs s (k+1) a.2).1:=by simp[ints,rbs]
  rw[ei] at S
  exact S.pw [0,1,2,3,4,5]
 ·have hkn:k=kn:=by omega
  subst hkn
  have okb:=rbs_ok oka k
  generalize hkb:rbs s k a.2=bb at S okb
  refine ldPtr_i (S.cell 3 rfl rfl) ?_
  refine newI_S S (fun b26 _ _ S=> ?_)
  have S2:Sep h T _ [rd b bb.2.at_ s bb.2.err,blk b5 ({Nv.zero with kind:=k0,inn:=⟨q,k,d,[]⟩}:Nv).cells,blk b7 [.int .i64 k],blk b1 [.pointer (some ⟨b,0,none⟩)],blk b3 (mkS' ndSh (zT ndSh)),own 1 q k d (ints bb.1),blk b26 [tptr b5 b7 (false,2),tptr b5 b7 (false,3),tptr b5 b7 (false,4),tptr b5 b7 (false,5),tptr b5 b7 (false,6),tptr b5 b7 (false,7)]] R:=S
  clear S
  have S:=S2
  clear S2
  refine(rsmall_S ((S.into [0,1,2] [6] []).rowB 0) okb hs 0 (ts:=[(false,2),(false,3),(false,4),(false,5),(false,6),(false,7)]) (k:=6) rfl rfl (by decide) (by intro x hx;simp at hx;rcases hx with rfl|rfl|rfl|rfl|rfl|rfl<;>exact Nat.le_of_ble_eq_true rfl)).mono ?_
  rintro _ _ ⟨rfl,S1⟩
  refine⟨rfl,?_⟩
  replace S:=S.back [0,1,2] S1
  try dsimp only[merge,List.set,List.cons_append,List.nil_append] at S
  have okc:=rbs_ok okb 6
  generalize hkc:rbs s 6 bb.2=cc at S okc
  have hc0: ∃x0 x1 x2 x3 x4 x5,cc.1=[x0,x1,x2,x3,x4,x5]:=by rw[←hkc];exact⟨_,_,_,_,_,_,rfl⟩
  obtain⟨x0,x1,x2,x3,x4,x5,ec⟩:=hc0
  rw[ec] at S
  have S2:Sep h T _ [rd b cc.2.at_ s cc.2.err,blk b5 (⟨k0,⟨q,k,d,[]⟩,x0,x1,x2,x3,x4,x5,Sl.nil,Sl.nil,0,0,0,0,0⟩:Nv).cells,blk b7 [.int .i64 k],blk b1 [.pointer (some ⟨b,0,none⟩)],blk b3 (mkS' ndSh (zT ndSh)),own 1 q k d (ints bb.1)] R:=S.pw [0,1,2,3,4,5]
  clear S
  have S:=S2
  clear S2
  refine ldPtr_i (S.cell 3 rfl rfl) (ldPtr_i (S.cell 3 rfl rfl) ?_)
  refine(rRow_S (S.into [0] [] []) okc hs).mono ?_
  rintro _ _ ⟨p1,l1,c1,rfl,hl1,S1⟩
  refine⟨_,_,_,rfl,?_⟩
  replace S:=S.back [0] S1
  try dsimp only[merge,List.set,List.cons_append,List.nil_append] at S
  have okd:=rrow_ok okc
  generalize hkd:rrow s cc.2=dd at S okd hl1
  refine and_i (S.cell 3 rfl rfl) ?_
  refine(rRow_S (S.into [0] [] []) okd hs).mono ?_
  rintro _ _ ⟨p2,l2,c2,rfl,hl2,S1⟩
  refine⟨_,_,_,rfl,?_⟩
  replace S:=S.back [0] S1
  try dsimp only[merge,List.set,List.cons_append,List.nil_append] at S
  have oke:=rrow_ok okd
  generalize hke:rrow s dd.2=ee at S oke hl2
  refine and_i (S.cell 3 rfl rfl) ?_
  refine stI_S S 1 rfl (k:=8) (Nat.le_of_ble_eq_true rfl) fun g1 _ S=> ?_
  refine and_i (S.cell 3 rfl rfl) ?_
  refine stI_S S 1 rfl (k:=9) (Nat.le_of_ble_eq_true rfl) fun g2 _ S=> ?_
  refine ldPtr_i (S.cell 3 rfl rfl) ?_
  refine(rShort_S (S.into [0] [] []) oke hs).mono ?_
  rintro _ _ ⟨rfl,S1⟩
  refine⟨_,rfl,?_⟩
  replace S:=S.back [0] S1
  try dsimp only[merge,List.set,List.cons_append,List.nil_append] at S
  have okf:=rget_ok oke 2
  generalize hkf:rget s ee.2 2=ff at S okf
  refine stI_S S 1 rfl (k:=10) (Nat.le_of_ble_eq_true rfl) fun g3 _ S=> ?_
  refine ldPtr_i (S.cell 3 rfl rfl) ?_
  refine newI_S S (fun b42 _ _ S=> ?_)
  have S2:Sep h T _ [rd b ff.2.at_ s ff.2.err,blk b5 (⟨k0,⟨q,k,d,[]⟩,x0,x1,x2,x3,x4,x5,⟨p1,l1,c1,[]⟩,⟨p2,l2,c2,[]⟩,ff.1,0,0,0,0⟩:Nv).cells,blk b7 [.int .i64 k],blk b1 [.pointer (some ⟨b,0,none⟩)],blk b3 (mkS' ndSh (zT ndSh)),own 1 q k d (ints bb.1),own 1 p1 l1 c1 (ints dd.1),own 1 p2 l2 c2 (ints ee.1),blk b42 [tptr b5 b7 (false,11)]] R:=S
  clear S
  have S:=S2
  clear S2
  refine(rsmall_S ((S.into [0,1,2] [8] []).rowB 0) okf hs 0 (ts:=[(false,11)]) (k:=1) rfl rfl (by decide) (by intro x hx;simp at hx;subst hx;exact Nat.le_of_ble_eq_true rfl)).mono ?_
  rintro _ _ ⟨rfl,S1⟩
  refine⟨rfl,?_⟩
  replace S:=S.back [0,1,2] S1
  try dsimp only[merge,List.set,List.cons_append,List.nil_append] at S
  have okg:=rget_ok okf 1
  have er1:rbs s 1 ff.2=([(rget s ff.2 1).1],(rget s ff.2 1).2):=rfl
  rw[er1] at S
  generalize hkg:rget s ff.2 1=gg at S okg
  refine ldPtr_i (S.cell 3 rfl rfl) (ldPtr_i (S.cell 3 rfl rfl) ?_)
  refine(rWord_S (S.into [0] [] []) okg hs).mono ?_
  rintro _ _ ⟨rfl,S1⟩
  refine⟨_,rfl,?_⟩
  replace S:=S.back [0] S1
  try dsimp only[merge,List.set,List.cons_append,List.nil_append] at S
  have oki:=rget_ok okg 4
  generalize hki:rget s gg.2 4=ii at S oki
  refine and_i (S.cell 3 rfl rfl) ?_
  refine(rWord_S (S.into [0] [] []) oki hs).mono ?_
  rintro _ _ ⟨rfl,S1⟩
  refine⟨_,rfl,?_⟩
  replace S:=S.back [0] S1
  try dsimp only[merge,List.set,List.cons_append,List.nil_append] at S
  have okj:=rget_ok oki 4
  generalize hkj:rget s ii.2 4=jj at S okj
  refine and_i (S.cell 3 rfl rfl) ?_
  refine stI_S S 1 rfl (k:=12) (Nat.le_of_ble_eq_true rfl) fun g4 _ S=> ?_
  refine and_i (S.cell 3 rfl rfl) ?_
  refine stI_S S 1 rfl (k:=13) (Nat.le_of_ble_eq_true rfl) fun g5 _ S=> ?_
  refine ldPtr_i (S.cell 3 rfl rfl) ?_
  refine newI_S S (fun b54 _ _ S=> ?_)
  have S2:Sep h T _ [rd b jj.2.at_ s jj.2.err,blk b5 (⟨k0,⟨q,k,d,[]⟩,x0,x1,x2,x3,x4,x5,⟨p1,l1,c1,[]⟩,⟨p2,l2,c2,[]⟩,ff.1,gg.1,sgn ii.1,sgn jj.1,0⟩:Nv).cells,blk b7 [.int .i64 k],blk b1 [.pointer (some ⟨b,0,none⟩)],blk b3 (mkS' ndSh (zT ndSh)),own 1 q k d (ints bb.1),own 1 p1 l1 c1 (ints dd.1),own 1 p2 l2 c2 (ints ee.1),blk b54 [tptr b5 b7 (false,14)]] R:=S.pw [0,1,2,3,4,5,6,7,9]
  clear S
  have S:=S2
  clear S2
  refine(rsmall_S ((S.into [0,1,2] [8] []).rowB 0) okj hs 0 (ts:=[(false,14)]) (k:=1) rfl rfl (by decide) (by intro x hx;simp at hx;subst hx;exact Nat.le_of_ble_eq_true rfl)).mono ?_
  rintro _ _ ⟨rfl,S1⟩
  refine⟨rfl,?_⟩
  replace S:=S.back [0,1,2] S1
  try dsimp only[merge,List.set,List.cons_append,List.nil_append] at S
  have okk:=rget_ok okj 1
  have er1:rbs s 1 jj.2=([(rget s jj.2 1).1],(rget s jj.2 1).2):=rfl
  rw[er1] at S
  generalize hkk:rget s jj.2 1=kk at S okk
  have hd:dNode s t=(⟨k0,bb.1,x0,x1,x2,x3,x4,x5,dd.1,ee.1,ff.1,gg.1,sgn ii.1,sgn jj.1,kk.1⟩,kk.2):=by
   unfold dNode
   simp only[hka,ea,List.getD_cons_zero,List.getD_cons_succ,Int.toNat_natCast,hkb,hkc,ec,hkd,hke,hkf,hkg,hki,hkj,hkk]
  rw[hd]
  have S2:Sep h T _ [rd b kk.2.at_ s kk.2.err,blk b5 (⟨k0,⟨q,k,d,bb.1⟩,x0,x1,x2,x3,x4,x5,⟨p1,l1,c1,dd.1⟩,⟨p2,l2,c2,ee.1⟩,ff.1,gg.1,sgn ii.1,sgn jj.1,kk.1⟩:Nv).cells,blk b7 [.int .i64 k],blk b1 [.pointer (some ⟨b,0,none⟩)],blk b3 (mkS' ndSh (zT ndSh)),own 1 q k d (ints bb.1),own 1 p1 l1 c1 (ints dd.1),own 1 p2 l2 c2 (ints ee.1)] R:=S.pw [0,1,2,3,4,5,6,7]
  clear S
  generalize hnv:(⟨k0,⟨q,k,d,bb.1⟩,x0,x1,x2,x3,x4,x5,⟨p1,l1,c1,dd.1⟩,⟨p2,l2,c2,ee.1⟩,ff.1,gg.1,sgn ii.1,sgn jj.1,kk.1⟩:Nv)=nv at S2
  have S:=S2
  clear S2
  refine ldAg_S S 1 rfl (x:=nv.t) rfl ?_
  refine stL_S S 4 rfl rfl (mkS_one rfl) fun g6 _ S=> ?_
  dsimp only[List.set] at S
  refine ldAg_S S 4 rfl (x:=nv.t) rfl ?_
  have o1:=own_sl (i:=5) S rfl
  have o2:=own_sl (i:=6) S rfl
  have o3:=own_sl (i:=7) S rfl
  replace S:=own_row (i:=5) S rfl
  replace S:=own_row (i:=6) S rfl
  replace S:=own_row (i:=7) S rfl
  refine⟨nv,rfl,by rw[←hnv];exact⟨o1,o2,o3⟩,by rw[←hnv];rfl,?_⟩
  have S3:=S.join [0] [5,6,7]
  rw[←hnv]
  exact S3
end
end Go.Proofs.YtdhpmegbmjoekaaGreatDoor.G
end
section
namespace Go.Proofs.YtdhpmegbmjoekaaGreatDoor.G
open Go Go.Sh
set_option linter.unusedVariables false
set_option linter.unusedSimpArgs false
section
variable {h:Heap} {T:Nat→Prop} {R:List Fact} {b:Nat} {s:List UInt8} {t:St}
end
end Go.Proofs.YtdhpmegbmjoekaaGreatDoor.G
end
section
namespace Go.Proofs.YtdhpmegbmjoekaaGreatDoor.G
open Go Go.Sh
set_option linter.unusedVariables false
set_option linter.unusedSimpArgs false
def rnodes (s:List UInt8) (t:St):Nat→List Nd×St
 |0=>([],t)
 |n+1=>((rnodes s t n).1++[(dNode s (rnodes s t n).2).1],(dNode s (rnodes s t n).2).2)
theorem rnodes_ok {s:List UInt8} {t:St} (h:t.ok s): ∀n,(rnodes s t n).2.ok s
 |0=>h
 |n+1=>dNode_ok (rnodes_ok h n)
def Gr.zero:Gr:=⟨0,0,0,[],0⟩
def dG (s:List UInt8):Gr×Int:=
 let a:=rget s ⟨0,0⟩ 1
 let b:=rget s a.2 4
 let c:=rget s b.2 4
 let d:=rget s c.2 1
 let e:=rnodes s d.2 d.1.toNat
 let f:=rget s e.2 1
 if f.2.err≠0 then(Gr.zero,11) else if(s.length:Int)-f.2.at_>0 then(Gr.zero,10) else(⟨a.1,sgn b.1,sgn c.1,e.1,f.1⟩,0)
def dGr (s:List UInt8):Gr×Int:=if magic<+:s then dG (s.drop 4) else(Gr.zero,10)
def Gv.zero:Gv:=⟨0,0,0,none,0,0,0,[]⟩
def DecP (h:Heap) (r:Gr×Int) (v:Value) (h':Heap):Prop:=
 ∃gv:Gv,v= .tuple #[gv.v,.int .i64 r.2]∧gv.ok∧gv.gr=r.1∧Sep h no h' [own 15 gv.p gv.l gv.c (nflat gv.ns),nrows gv.ns] []
instance (a b:List UInt8):Decidable (a<+:b):=decidable_of_iff (a.isPrefixOf b=true) (List.isPrefixOf_iff_prefix)
theorem pre_take {a b:List UInt8}:a<+:b↔b.take a.length=a:=by
 rw[List.prefix_iff_eq_take];exact eq_comm
section
variable {h:Heap} {s:List UInt8}
theorem HasPrefix_ok (a:List UInt8):callP P n_internal_stringslite_HasPrefix #[.string (str s),.string (str a)] h fun v h'=>v= .bool (decide (a<+:s))∧h'=h:=by
 refine call_internal_stringslite_HasPrefix _ _ ?_
 unfold internal_stringslite_HasPrefix
 rw[str_size,str_size]
 refine ifB_dec (fun hge=> ?_) (fun hlt=> ?_)
 ·refine bndI_i rfl (by omega) ⟨?_,rfl⟩
  rw[str_extract,toList_beq]
  congr 1
  rw[decide_eq_decide,pre_take,List.drop_zero,Nat.sub_zero]
 ·refine⟨?_,rfl⟩
  rw[decide_eq_false]
  intro hp
  have:=hp.length_le
  omega
theorem CutPrefix_ok (a:List UInt8):callP P n_strings_CutPrefix #[.string (str s),.string (str a)] h fun v h'=>v= .tuple #[.string (str (if a<+:s then s.drop a.length else s)),.bool (decide (a<+:s))]∧h'=h:=by
 refine call_strings_CutPrefix _ _ ?_
 unfold strings_CutPrefix
 refine callP.mono (K:=fun v h'=>v= .tuple #[.string (str (if a<+:s then s.drop a.length else s)),.bool (decide (a<+:s))]∧h'=h) ?_ ?_
 ·refine call_internal_stringslite_CutPrefix _ _ ?_
  unfold internal_stringslite_CutPrefix
  refine(HasPrefix_ok a).mono ?_
  rintro _ _ ⟨rfl,rfl⟩
  refine⟨_,rfl,?_⟩
  refine ifB_not (ifB_dec (fun hp=> ?_) (fun hp=> ?_))
  ·have:=hp.length_le
   refine bndI_i (by rw[str_size]) (by rw[str_size];omega) ⟨?_,rfl⟩
   rw[if_pos hp,decide_eq_true hp,str_extract,str_size,List.take_of_length_le (by rw[List.length_drop];omega)]
  ·refine⟨?_,rfl⟩
   rw[if_neg hp,decide_eq_false hp]
 ·rintro _ _ ⟨rfl,rfl⟩
  exact⟨_,_,rfl,rfl,rfl⟩
end
section
variable {h:Heap} {s:List UInt8}
theorem dec_end {g:Heap} {T:Nat→Prop} {R:List Fact} {b1:Nat} {r:Gr×Int} {W:List Fact} {n:Int} (S:Sep h no g (blk b1 (mkS' grSh (zT grSh))::W) R) (hr:r=(Gr.zero,n)):
 storeL [.int .i64 0,.int .i64 0,.int .i64 0,.slice none 0 0,.int .i64 0] g ⟨b1,0,none⟩ 0 fun h49=>ldAg grSh h49 ⟨b1,0,none⟩ fun x50=>DecP h r (.tuple #[agS grSh x50,.int .i64 n]) h49:=by
 refine stL_S S 0 rfl rfl (show ∀y∈Gv.zero.cells,one1 y=true from mkS_one rfl) fun h6 _ S=> ?_
 refine ldAg_S S 0 rfl (x:=Gv.zero.t) rfl ?_
 refine⟨Gv.zero,by rw[hr],⟨rfl,Nat.le_refl _,fun n hn=>(by cases hn)⟩,by rw[hr];rfl,?_⟩
 have S3:=(((S.pick [] []).nil 15)).reads0
 exact S3
set_option maxHeartbeats 2000000 in
theorem Decode_S (hs:s.length<2 ^ 62):callP P n_model_Decode #[.string (str s)] h (DecP h (dGr s)):=by
 refine call_model_Decode _ ?_
 unfold model_Decode
 have S:=Sep.start h no
 refine newI_S S fun b1 h2 _ S=> ?_
 dsimp only[List.nil_append] at S
 have em:(ByteArray.mk #[69,65,82,49])=str magic:=rfl
 rw[em]
 refine(CutPrefix_ok magic).mono ?_
 rintro _ _ ⟨rfl,rfl⟩
 refine⟨_,_,rfl,?_⟩
 refine ifB_not (ifB_dec (fun hp=> ?_) (fun hp=>dec_end (T:=no) S (by unfold dGr;rw[if_neg hp])))
 rw[if_pos hp]
 have hd0:dGr s=dG (s.drop 4):=by unfold dGr;rw[if_pos hp]
 rw[hd0]
 have hml:magic.length=4:=rfl
 rw[hml]
 have hs2:(s.drop 4).length<2 ^ 62:=by rw[List.length_drop];omega
 generalize s.drop 4=u at hs2
 clear hd0
 refine(Read_S u).mono ?_
 rintro _ _ ⟨br,rfl,S1⟩
 refine⟨_,rfl,?_⟩
 replace S:=S.add S1 fun _ _ h=>h
 refine newI_S S (fun b11 _ _ S=> ?_)
 refine stI_S S 2 rfl (k:=0) (Nat.le_of_ble_eq_true rfl) fun h13 _ S=> ?_
 refine newI_S S fun b14 h15 _ S=> ?_
 dsimp only[List.set,List.cons_append,List.nil_append] at S
 refine ldPtr_i (S.cell 2 rfl rfl) ?_
 refine newI_S S (fun b17 _ _ S=> ?_)
 have okz:St.ok u ⟨0,0⟩:=⟨Nat.zero_le _,.inl rfl⟩
 have S2:Sep h no _ [rd br (⟨0,0⟩:St).at_ u (⟨0,0⟩:St).err,blk b14 Gv.zero.cells,blk b11 [.pointer (some ⟨br,0,none⟩)],blk b1 (mkS' grSh (zT grSh)),blk b17 [tptr b14 b11 (false,0)]] []:=S.pw [1,3,2,0,4]
 clear S
 have S:=S2
 clear S2
 refine(rsmall_S ((S.into [0,1,2] [4] []).rowB 0) okz hs2 0 (ts:=[(false,0)]) (k:=1) rfl rfl (by decide) (by intro x hx;simp at hx;subst hx;exact Nat.le_of_ble_eq_true rfl)).mono ?_
 rintro _ _ ⟨rfl,S1⟩
 refine⟨rfl,?_⟩
 replace S:=S.back [0,1,2] S1
 try dsimp only[merge,List.set,List.cons_append,List.nil_append] at S
 have er1:rbs u 1 ⟨0,0⟩=([(rget u ⟨0,0⟩ 1).1],(rget u ⟨0,0⟩ 1).2):=rfl
 rw[er1] at S
 have oka:=rget_ok okz 1
 generalize hka:rget u ⟨0,0⟩ 1=a at S oka
 refine ldPtr_i (S.cell 2 rfl rfl) (ldPtr_i (S.cell 2 rfl rfl) ?_)
 refine(rWord_S (S.into [0] [] []) oka hs2).mono ?_
 rintro _ _ ⟨rfl,S1⟩
 refine⟨_,rfl,?_⟩
 replace S:=S.back [0] S1
 try dsimp only[merge,List.set,List.cons_append,List.nil_append] at S
 have okb:=rget_ok oka 4
 generalize hkb:rget u a.2 4=b at S okb
 refine and_i (S.cell 2 rfl rfl) ?_
 refine(rWord_S (S.into [0] [] []) okb hs2).mono ?_
 rintro _ _ ⟨rfl,S1⟩
 refine⟨_,rfl,?_⟩
 replace S:=S.back [0] S1
 try dsimp only[merge,List.set,List.cons_append,List.nil_append] at S
 have okc:=rget_ok okb 4
 generalize hkc:rget u b.2 4=c at S okc
 refine and_i (S.cell 2 rfl rfl) ?_
 refine stI_S S 1 rfl (k:=1) (Nat.le_of_ble_eq_true rfl) fun g1 _ S=> ?_
 refine and_i (S.cell 2 rfl rfl) ?_
 refine stI_S S 1 rfl (k:=2) (Nat.le_of_ble_eq_true rfl) fun g2 _ S=> ?_
 refine ldPtr_i (S.cell 2 rfl rfl) ?_
 refine(rByte_S (S.into [0] [] []) okc hs2).mono ?_
 rintro _ _ ⟨rfl,S1⟩
 refine⟨_,rfl,?_⟩
 replace S:=S.back [0] S1
 try dsimp only[merge,List.set,List.cons_append,List.nil_append] at S
 have okd:=rget_ok okc 1
 have hr:=rget_range u c.2 1
 generalize hkd:rget u c.2 1=d at S okd hr
 obtain⟨kn,ekn⟩: ∃kn:Nat,d.1=kn:=⟨d.1.toNat,by omega⟩
 rw[ekn] at hr ⊢
 have S2:Sep h no _ [rd br d.2.at_ u d.2.err,blk b14 (⟨a.1,sgn b.1,sgn c.1,none,0,0,0,[]⟩:Gv).cells,blk b11 [.pointer (some ⟨br,0,none⟩)],blk b1 (mkS' grSh (zT grSh))] []:=S.pw [0,1,2,3]
 clear S
 have S:=((S2.nil 15).reads0).pw [0,1,2,3,4,5]
 clear S2
 dsimp only[Sh.pick,List.getElem?_cons_zero,List.getElem?_cons_succ,List.cons_append,List.nil_append] at S
 refine LoopS_i (fun m s' g=> ∃(q:Option Addr) (k d':Nat) (ns:List Nv),s'=(⟨b1,0,none⟩,⟨b11,0,none⟩,⟨b14,0,none⟩,(kn:Int),(k:Int),())∧k≤kn∧m=kn-k∧ns.length=k∧(∀n∈ns,n.ok)∧ns.map Nv.nd=(rnodes u d.2 k).1∧
  Sep h no g [rd br (rnodes u d.2 k).2.at_ u (rnodes u d.2 k).2.err,blk b14 (⟨a.1,sgn b.1,sgn c.1,q,k,d',0,[]⟩:Gv).cells,blk b11 [.pointer (some ⟨br,0,none⟩)],blk b1 (mkS' grSh (zT grSh)),own 15 q k d' (nflat ns),nrows ns] []) kn
  ⟨none,0,0,[],rfl,Nat.zero_le _,rfl,rfl,(fun n hn=>by cases hn),rfl,S⟩ ?_
 clear S
 rintro m s' g ⟨q,k,d',ns,rfl,hk,rfl,hnk,nok,hnd,S⟩
 unfold model_Decode_l9
 dsimp only
 refine ifB_dec (fun hlt=> ?_) (fun hge=> ?_)
 ·refine ldSlice_i (p:=q) (l:=k) (c:=d') (S.cell 1 rfl rfl) (ldPtr_i (S.cell 2 rfl rfl) ?_)
  refine(rnode_S (S.into [0] [] []) (rnodes_ok okd k) hs2).mono ?_
  rintro _ g2 ⟨nv,rfl,nvok,nnd,S1⟩
  replace S:=S.back [0] S1
  dsimp only[merge,List.set,List.cons_append,List.nil_append] at S
  refine exS_i nv.t ⟨rfl,?_⟩
  refine and_i (S.cell 1 rfl rfl) ?_
  refine newI_S S fun b37 h3 _ S=> ?_
  dsimp only[List.set,List.cons_append,List.nil_append] at S
  refine appI_S S 4 (ys:=nv.cells) rfl rfl (by decide) (by omega) (Row.of_at (S.at 7 rfl)) rfl (mkS_one rfl) fun q' k' d2 h4 hk' S=> ?_
  dsimp only[List.set] at S
  refine stI_S S 1 rfl (k:=3) (Nat.le_of_ble_eq_true rfl) fun h5 _ S=> ?_
  dsimp only[List.set] at S
  rw[wrap64_in (by omega)]
  have S3:=S.joinR [0,1,2,3,4] 5 6 rfl rfl
  dsimp only[Sh.pick,List.getElem?_cons_zero,List.getElem?_cons_succ,List.cons_append,List.nil_append] at S3
  have hk1:k'=k+1:=hk'
  subst hk1
  refine⟨kn-(k+1),by omega,q',k+1,d2,ns++[nv],rfl,by omega,rfl,by simp;omega,?_,?_,?_⟩
  ·intro n hn
   rcases List.mem_append.1 hn with hn|hn
   ·exact nok n hn
   ·simp only[List.mem_singleton] at hn;subst hn;exact nvok
  ·rw[List.map_append,hnd,List.map_cons,List.map_nil,nnd];rfl
  ·have e1:nflat (ns++[nv])=nflat ns++nv.cells:=by rw[nflat_append];simp[nflat]
   rw[e1,nrows_cat]
   exact S3
 ·have hkn:k=kn:=by omega
  have eu:rnodes u d.2 d.1.toNat=rnodes u d.2 k:=by rw[ekn,hkn,Int.toNat_natCast]
  have oke:=rnodes_ok okd k
  generalize hke:rnodes u d.2 k=e at S oke eu hnd
  refine ldPtr_i (S.cell 2 rfl rfl) ?_
  refine newI_S S (fun b43 _ _ S=> ?_)
  have S2:Sep h no _ [rd br e.2.at_ u e.2.err,blk b14 (⟨a.1,sgn b.1,sgn c.1,q,k,d',0,[]⟩:Gv).cells,blk b11 [.pointer (some ⟨br,0,none⟩)],blk b1 (mkS' grSh (zT grSh)),own 15 q k d' (nflat ns),nrows ns,blk b43 [tptr b14 b11 (false,4)]] []:=S
  clear S
  have S:=S2
  clear S2
  refine(rsmall_S ((S.into [0,1,2] [6] []).rowB 0) oke hs2 0 (ts:=[(false,4)]) (k:=1) rfl rfl (by decide) (by intro x hx;simp at hx;subst hx;exact Nat.le_of_ble_eq_true rfl)).mono ?_
  rintro _ _ ⟨rfl,S1⟩
  refine⟨rfl,?_⟩
  replace S:=S.back [0,1,2] S1
  try dsimp only[merge,List.set,List.cons_append,List.nil_append] at S
  have er1:rbs u 1 e.2=([(rget u e.2 1).1],(rget u e.2 1).2):=rfl
  rw[er1] at S
  have okf:=rget_ok oke 1
  generalize hkf:rget u e.2 1=f at S okf
  have hd:dG u=if f.2.err≠0 then(Gr.zero,11) else if(u.length:Int)-f.2.at_>0 then(Gr.zero,10) else(⟨a.1,sgn b.1,sgn c.1,e.1,f.1⟩,0):=by
   unfold dG
   simp only[hka,hkb,hkc,hkd,eu,hkf]
  have S2:Sep h no _ [blk b1 (mkS' grSh (zT grSh)),rd br f.2.at_ u f.2.err,blk b14 (⟨a.1,sgn b.1,sgn c.1,q,k,d',f.1,ns⟩:Gv).cells,blk b11 [.pointer (some ⟨br,0,none⟩)],own 15 q k d' (nflat ns),nrows ns] []:=S.pw [3,0,1,2,4,5]
  clear S
  have S:=S2
  clear S2
  refine ldPtr_i (S.cell 3 rfl rfl) ?_
  refine(rErr_ok (x:=f.2.err) (S.cell 1 rfl rfl)).mono ?_
  rintro _ _ ⟨rfl,rfl⟩
  refine⟨_,rfl,?_⟩
  refine ifB_bne (fun he=>dec_end (T:=no) S (by rw[hd,if_pos he])) (fun he=> ?_)
  refine ldPtr_i (S.cell 3 rfl rfl) ?_
  refine(rLeft_ok (S.at 1 rfl) okf hs2).mono ?_
  rintro _ _ ⟨rfl,rfl⟩
  refine⟨_,rfl,?_⟩
  refine ifB_dec (fun hl=>dec_end (T:=no) S (by rw[hd,if_neg (by omega),if_pos hl])) (fun hl=> ?_)
  have hd2:dG u=(⟨a.1,sgn b.1,sgn c.1,e.1,f.1⟩,0):=by rw[hd,if_neg (by omega),if_neg hl]
  generalize hgv:(⟨a.1,sgn b.1,sgn c.1,q,k,d',f.1,ns⟩:Gv)=gv at S
  refine ldAg_S S 2 rfl (x:=gv.t) rfl ?_
  refine stL_S S 0 rfl rfl (mkS_one rfl) fun g6 _ S=> ?_
  dsimp only[List.set] at S
  refine ldAg_S S 0 rfl (x:=gv.t) rfl ?_
  refine⟨gv,by rw[hd2],?_,by rw[hd2,←hgv,←hnd];rfl,?_⟩
  ·rw[←hgv];exact⟨hnk,(S.own 4 rfl).2.1,nok⟩
  ·rw[←hgv];exact S.pick [4,5] []
end
end Go.Proofs.YtdhpmegbmjoekaaGreatDoor.G
end
