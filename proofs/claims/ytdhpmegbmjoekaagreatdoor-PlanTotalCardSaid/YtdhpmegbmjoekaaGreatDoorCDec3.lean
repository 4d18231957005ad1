/- CDec CDec2 CDec3, in one text. -/
import Derived.Test.YtdhpmegbmjoekaaGreatDoorCMade4
import Derived.Test.YtdhpmegbmjoekaaGreatDoorCTapeX4
import Derived.Test.YtdhpmegbmjoekaaGreatDoorCMade5
section
namespace Go.Proofs.YtdhpmegbmjoekaaGreatDoor.G
open Go Go.Sh
set_option linter.unusedVariables false
set_option linter.unusedSimpArgs false
def iK (s:List UInt8):Nat→St→List Int×St
 |0,t=>([],t)
 |n+1,t=>((iK s n t).1++[(bx s (iK s n t).2 1).1],(bx s (iK s n t).2 1).2)
theorem kM {s:List UInt8} {t:St} (h:t.ok s): ∀n,(iK s n t).2.ok s
 |0=>h
 |n+1=>cJ (kM h n) 1
theorem qR (s:List UInt8) (t:St): ∀n,(iK s n t).1.length=n
 |0=>rfl
 |n+1=>by simp[iK,qR s t n]
def jT (s:List UInt8) (t:St):Nd×St:=
 let a:=iK s 2 t
 let b:=iK s (a.1.getD 1 0).toNat a.2
 let c:=iK s 6 b.2
 let d:=rrow s c.2
 let e:=rrow s d.2
 let f:=bx s e.2 2
 let g:=bx s f.2 1
 let i:=bx s g.2 4
 let j:=bx s i.2 4
 let k:=bx s j.2 1
 (⟨a.1.getD 0 0,b.1,c.1.getD 0 0,c.1.getD 1 0,c.1.getD 2 0,c.1.getD 3 0,c.1.getD 4 0,c.1.getD 5 0,d.1,e.1,f.1,g.1,nF i.1,nF j.1,k.1⟩,k.2)
theorem NS {s:List UInt8} {t:St} (h:t.ok s):(jT s t).2.ok s:=by
 unfold jT
 exact cJ (cJ (cJ (cJ (cJ (uA (uA (kM (kM (kM h 2) _) 6))) 2) 1) 4) 4) 1
def vz (u:List Value×List Value) (x:(Bool×Nat)×Int):List Value×List Value:=if x.1.1=true then(u.1,u.2.set x.1.2 (.int .i64 x.2)) else(u.1.set x.1.2 (.int .i64 x.2),u.2)
def zv (ts:List (Bool×Nat)) (vs:List Int) (u:List Value×List Value):List Value×List Value:=(ts.zip vs).foldl vz u
theorem L1 {ts:List (Bool×Nat)} {i:Nat} (hi:i<ts.length) {vs:List Int} (hv:vs.length=i) (v:Int) (u:List Value×List Value):zv (ts.take (i+1)) (vs++[v]) u=vz (zv (ts.take i) vs u) (ts[i],v):=by
 unfold zv
 rw[List.take_succ_eq_append_getElem hi,List.zip_append (by rw[List.length_take];omega),List.foldl_append];rfl
theorem L2 (u:List Value×List Value) (x:(Bool×Nat)×Int):(vz u x).1.length=u.1.length∧(vz u x).2.length=u.2.length:=by
 unfold vz;split<;>simp
theorem NT (u:List Value×List Value): ∀(l:List ((Bool×Nat)×Int)),(l.foldl vz u).1.length=u.1.length∧(l.foldl vz u).2.length=u.2.length:=by
 intro l
 induction l generalizing u with
 |nil=>exact⟨rfl,rfl⟩
 |cons x r ih=>have:=ih (vz u x);have h2:=L2 u x;simp only[List.foldl_cons];omega
section
variable {h:ae} {T:Nat→Prop} {R:List bi} {b A B:Nat} {s:List UInt8} {t:St} {ca cb:List Value}
def zw (A B:Nat) (x:Bool×Nat):Value:= .pointer (some ⟨if x.1=true then B else A,x.2,none⟩)
theorem pW (S:aK h T h [rd b t.at_ s t.err,blk A ca,blk B cb] R) (ht:t.ok s) (hs:s.length<2 ^ 62) (ix:Nat) {q:Option Addr} {k d:Nat} {ts:List (Bool×Nat)} (ex:R[ix]? =some (row q (ts.map (zw A B)))) (hk:ts.length=k) (hk2:k≤100)
 (hoff: ∀x∈ts,if x.1=true then x.2<cb.length else x.2<ca.length):
 aq P cp #[.agg #[.pointer (some ⟨b,0,none⟩)],.slice q k d] h fun v h'=>v= .tuple #[]∧aK h T h' [rd b (iK s k t).2.at_ s (iK s k t).2.err,blk A (zv ts (iK s k t).1 (ca,cb)).1,blk B (zv ts (iK s k t).1 (ca,cb)).2] R:=by
 refine pu _ _ _ _ ?_
 unfold m7
 refine aC S (fun b1 _ _ S=> ?_)
 dsimp only[List.cons_append,List.nil_append] at S
 refine aT (fun m s' g=> ∃(i:Nat),s'=(⟨b1,0,none⟩,(q,k,d),(k:Int),(i:Int),())∧i≤k∧m=k-i∧aK h T g [rd b (iK s i t).2.at_ s (iK s i t).2.err,blk A (zv (ts.take i) (iK s i t).1 (ca,cb)).1,blk B (zv (ts.take i) (iK s i t).1 (ca,cb)).2,blk b1 [.pointer (some ⟨b,0,none⟩)]] R) k ⟨0,rfl,by omega,rfl,S⟩ ?_
 clear S
 rintro m s' g ⟨i,rfl,hi,rfl,S⟩
 unfold kz
 dsimp only
 refine au (fun hlt=> ?_) (fun hge=> ?_)
 ·have hix:i<ts.length:=by omega
  have hx:=S.row ix ex
  obtain⟨aa,rfl⟩:=hx.some_of (by simp;omega)
  refine aG rfl rfl (by omega) ?_
  simp only[Int.toNat_natCast,Nat.mul_one]
  refine dZ (n:=some ⟨if ts[i].1=true then B else A,ts[i].2,none⟩) (hx.cell (by rw[List.getElem?_map,List.getElem?_eq_getElem hix];rfl)) ?_
  refine dZ (S.cell 3 rfl rfl) ?_
  have P0:=S.into [0] [] []
  refine(GK (t:=(iK s i t).2) P0 (kM ht i) hs).mono ?_
  rintro _ _ ⟨rfl,S1⟩
  refine⟨_,rfl,?_⟩
  replace S:=S.back [0] S1
  try dsimp only[bO,List.set,List.cons_append,List.nil_append] at S
  refine bK ?_
  rw[al (n:=(i:Int)+1) (by omega)]
  have hoffi:=hoff _ (List.getElem_mem hix)
  have hvl:=qR s t i
  have hlen:=NT (ca,cb) ((ts.take i).zip (iK s i t).1)
  have estep:=L1 hix hvl (bx s (iK s i t).2 1).1 (ca,cb)
  generalize ts[i]=x at hoffi estep ⊢
  obtain⟨xb,xo⟩:=x
  have key: ∀g',aK h T g' [rd b (bx s (iK s i t).2 1).2.at_ s (bx s (iK s i t).2 1).2.err,blk A (vz (zv (ts.take i) (iK s i t).1 (ca,cb)) ((xb,xo),(bx s (iK s i t).2 1).1)).1,blk B (vz (zv (ts.take i) (iK s i t).1 (ca,cb)) ((xb,xo),(bx s (iK s i t).2 1).1)).2,blk b1 [.pointer (some ⟨b,0,none⟩)]] R→
   ∃m,m<k-i∧ ∃i':Nat,(((⟨b1,0,none⟩:Addr),(some aa,k,d),(k:Int),(i:Int)+1,()):Addr×(Option Addr×Nat×Nat)×Int×Int×Unit)=(⟨b1,0,none⟩,(some aa,k,d),(k:Int),(i':Int),())∧i'≤k∧m=k-i'∧aK h T g' [rd b (iK s i' t).2.at_ s (iK s i' t).2.err,blk A (zv (ts.take i') (iK s i' t).1 (ca,cb)).1,blk B (zv (ts.take i') (iK s i' t).1 (ca,cb)).2,blk b1 [.pointer (some ⟨b,0,none⟩)]] R:=
   fun g' S=>⟨k-(i+1),by omega,i+1,rfl,by omega,rfl,by
    show aK h T g' [rd b (bx s (iK s i t).2 1).2.at_ s (bx s (iK s i t).2 1).2.err,blk A (zv (ts.take (i+1)) ((iK s i t).1++[(bx s (iK s i t).2 1).1]) (ca,cb)).1,blk B (zv (ts.take (i+1)) ((iK s i t).1++[(bx s (iK s i t).2 1).1]) (ca,cb)).2,blk b1 [.pointer (some ⟨b,0,none⟩)]] R
    rw[estep];exact S⟩
  cases xb
  ·refine aJ S 1 rfl (k:=xo) (Nat.lt_of_lt_of_eq (show xo<ca.length from hoffi) hlen.1.symm) fun g' _ S=> ?_
   exact key _ S
  ·refine aJ S 2 rfl (k:=xo) (Nat.lt_of_lt_of_eq (show xo<cb.length from hoffi) hlen.2.symm) fun g' _ S=> ?_
   exact key _ S
 ·have:i=k:=by omega
  subst this
  rw[List.take_of_length_le (by omega)] at S
  exact⟨by trivial,S.pw [0,1,2]⟩
set_option maxHeartbeats 2000000 in
theorem Pk (S:aK h T h [rd b t.at_ s t.err] R) (ht:t.ok s) (hs:s.length<2 ^ 62):
 aq P gd #[.agg #[.pointer (some ⟨b,0,none⟩)]] h fun v h'=> ∃nv:Nv,v=nv.v∧nv.ok∧nv.nd=(jT s t).1∧aK h T h' [rd b (jT s t).2.at_ s (jT s t).2.err,nv.rows] R:=by
 refine qt _ ?_
 unfold oo
 refine aC S (fun b1 _ _ S=> ?_)
 refine aC S fun b3 h3 _ S=> ?_
 refine aC S fun b5 h5 _ S=> ?_
 refine aC S (fun b7 _ _ S=> ?_)
 dsimp only[List.cons_append,List.nil_append] at S
 refine aJ S 4 rfl (k:=0) (Nat.le_of_ble_eq_true rfl) fun h9 _ S=> ?_
 refine dZ (S.cell 1 rfl rfl) ?_
 refine aC S (fun b11 _ _ S=> ?_)
 have S2:aK h T _ [rd b t.at_ s t.err,blk b5 Nv.zero.cells,blk b7 [.int .i64 0],blk b1 [.pointer (some ⟨b,0,none⟩)],blk b3 (aP da (zT da)),blk b11 [zw b5 b7 (false,0),zw b5 b7 (true,0)]] R:=S.pw [0,3,4,1,2,5]
 clear S
 have S:=S2
 clear S2
 refine(pW ((S.into [0,1,2] [5] []).rowB 0) ht hs 0 (ts:=[(false,0),(true,0)]) (k:=2) rfl rfl (by decide) (by intro x hx;simp at hx;rcases hx with rfl|rfl<;>exact Nat.le_of_ble_eq_true rfl)).mono ?_
 rintro _ _ ⟨rfl,S1⟩
 refine⟨rfl,?_⟩
 replace S:=S.back [0,1,2] S1
 try dsimp only[bO,List.set,List.cons_append,List.nil_append] at S
 have oka:=kM ht 2
 generalize hka:(iK s 2 t)=a at S oka
 have ha0: ∃k0 k1,a.1=[k0,k1]∧0≤k1∧k1<256:=by rw[←hka];exact⟨_,_,rfl,eM s _ 1⟩
 obtain⟨k0,k1,ea,hk1,hk2⟩:=ha0
 rw[ea] at S
 have S2:aK h T _ [rd b a.2.at_ s a.2.err,blk b5 ({Nv.zero with kind:=k0}:Nv).cells,blk b7 [.int .i64 k1],blk b1 [.pointer (some ⟨b,0,none⟩)],blk b3 (aP da (zT da))] R:=S.pw [0,1,2,3,4]
 clear S
 have S:=(S2.nil 1).pw [0,1,2,3,4,5]
 clear S2
 dsimp only[Sh.pick,List.getElem?_cons_zero,List.getElem?_cons_succ,List.cons_append,List.nil_append] at S
 refine af (n:=k1) (S.cell 2 rfl rfl) ?_
 obtain⟨kn,rfl⟩: ∃kn:Nat,k1=kn:=⟨k1.toNat,by omega⟩
 refine aT (fun m s' g=> ∃(i:Nat) (q:Option Addr) (k d:Nat),s'=(⟨b1,0,none⟩,⟨b3,0,none⟩,⟨b5,0,none⟩,(kn:Int),(i:Int),())∧i≤kn∧m=kn-i∧k=i∧
  aK h T g [rd b (iK s i a.2).2.at_ s (iK s i a.2).2.err,blk b5 ({Nv.zero with kind:=k0,inn:=⟨q,k,d,[]⟩}:Nv).cells,blk b7 [.int .i64 kn],blk b1 [.pointer (some ⟨b,0,none⟩)],blk b3 (aP da (zT da)),own 1 q k d (az (iK s i a.2).1)] R) kn ⟨0,none,0,0,rfl,by omega,rfl,rfl,S⟩ ?_
 clear S
 rintro m s' g ⟨i,q,k,d,rfl,hi,rfl,rfl,S⟩
 unfold ls
 dsimp only
 refine au (fun hlt=> ?_) (fun hge=> ?_)
 ·refine am (p:=q) (l:=k) (c:=d) (S.cell 1 rfl rfl) (dZ (S.cell 3 rfl rfl) ?_)
  refine(GK (t:=(iK s k a.2).2) (S.into [0] [] []) (kM oka k) hs).mono ?_
  rintro _ _ ⟨rfl,S1⟩
  refine⟨_,rfl,?_⟩
  replace S:=S.back [0] S1
  try dsimp only[bO,List.set,List.cons_append,List.nil_append] at S
  refine bf (S.cell 1 rfl rfl) ?_
  refine aC S (fun b20 _ _ S=> ?_)
  dsimp only[List.cons_append,List.nil_append] at S
  refine dI S 5 (ys:=az [(bx s (iK s k a.2).2 1).1]) rfl rfl (by decide) (by omega) (bT.of_at (S.at 6 rfl)) rfl gO fun p' l' c' h' hl' S=> ?_
  dsimp only[List.set] at S
  refine aJ S 1 rfl (k:=1) (Nat.le_of_ble_eq_true rfl) fun g' _ S=> ?_
  rw[al (by omega)]
  refine⟨kn-(k+1),by omega,k+1,p',l',c',rfl,by omega,rfl,hl',?_⟩
  have ei:az (iK s k a.2).1++az [(bx s (iK s k a.2).2 1).1]=az (iK s (k+1) a.2).1:=by simp[az,iK]
  rw[ei] at S
  exact S.pw [0,1,2,3,4,5]
 ·have hkn:k=kn:=by omega
  subst hkn
  have okb:=kM oka k
  generalize hkb:iK s k a.2=bb at S okb
  refine dZ (S.cell 3 rfl rfl) ?_
  refine aC S (fun b26 _ _ S=> ?_)
  have S2:aK h T _ [rd b bb.2.at_ s bb.2.err,blk b5 ({Nv.zero with kind:=k0,inn:=⟨q,k,d,[]⟩}:Nv).cells,blk b7 [.int .i64 k],blk b1 [.pointer (some ⟨b,0,none⟩)],blk b3 (aP da (zT da)),own 1 q k d (az bb.1),blk b26 [zw b5 b7 (false,2),zw b5 b7 (false,3),zw b5 b7 (false,4),zw b5 b7 (false,5),zw b5 b7 (false,6),zw b5 b7 (false,7)]] R:=S
  clear S
  have S:=S2
  clear S2
  refine(pW ((S.into [0,1,2] [6] []).rowB 0) okb hs 0 (ts:=[(false,2),(false,3),(false,4),(false,5),(false,6),(false,7)]) (k:=6) rfl rfl (by decide) (by intro x hx;simp at hx;rcases hx with rfl|rfl|rfl|rfl|rfl|rfl<;>exact Nat.le_of_ble_eq_true rfl)).mono ?_
  rintro _ _ ⟨rfl,S1⟩
  refine⟨rfl,?_⟩
  replace S:=S.back [0,1,2] S1
  try dsimp only[bO,List.set,List.cons_append,List.nil_append] at S
  have okc:=kM okb 6
  generalize hkc:iK s 6 bb.2=cc at S okc
  have hc0: ∃x0 x1 x2 x3 x4 x5,cc.1=[x0,x1,x2,x3,x4,x5]:=by rw[←hkc];exact⟨_,_,_,_,_,_,rfl⟩
  obtain⟨x0,x1,x2,x3,x4,x5,ec⟩:=hc0
  rw[ec] at S
  have S2:aK h T _ [rd b cc.2.at_ s cc.2.err,blk b5 (⟨k0,⟨q,k,d,[]⟩,x0,x1,x2,x3,x4,x5,Sl.nil,Sl.nil,0,0,0,0,0⟩:Nv).cells,blk b7 [.int .i64 k],blk b1 [.pointer (some ⟨b,0,none⟩)],blk b3 (aP da (zT da)),own 1 q k d (az bb.1)] R:=S.pw [0,1,2,3,4,5]
  clear S
  have S:=S2
  clear S2
  refine dZ (S.cell 3 rfl rfl) (dZ (S.cell 3 rfl rfl) ?_)
  refine(NW (S.into [0] [] []) okc hs).mono ?_
  rintro _ _ ⟨p1,l1,c1,rfl,hl1,S1⟩
  refine⟨_,_,_,rfl,?_⟩
  replace S:=S.back [0] S1
  try dsimp only[bO,List.set,List.cons_append,List.nil_append] at S
  have okd:=uA okc
  generalize hkd:rrow s cc.2=dd at S okd hl1
  refine bf (S.cell 3 rfl rfl) ?_
  refine(NW (S.into [0] [] []) okd hs).mono ?_
  rintro _ _ ⟨p2,l2,c2,rfl,hl2,S1⟩
  refine⟨_,_,_,rfl,?_⟩
  replace S:=S.back [0] S1
  try dsimp only[bO,List.set,List.cons_append,List.nil_append] at S
  have oke:=uA okd
  generalize hke:rrow s dd.2=ee at S oke hl2
  refine bf (S.cell 3 rfl rfl) ?_
  refine aJ S 1 rfl (k:=8) (Nat.le_of_ble_eq_true rfl) fun g1 _ S=> ?_
  refine bf (S.cell 3 rfl rfl) ?_
  refine aJ S 1 rfl (k:=9) (Nat.le_of_ble_eq_true rfl) fun g2 _ S=> ?_
  refine dZ (S.cell 3 rfl rfl) ?_
  refine(Im (S.into [0] [] []) oke hs).mono ?_
  rintro _ _ ⟨rfl,S1⟩
  refine⟨_,rfl,?_⟩
  replace S:=S.back [0] S1
  try dsimp only[bO,List.set,List.cons_append,List.nil_append] at S
  have okf:=cJ oke 2
  generalize hkf:bx s ee.2 2=ff at S okf
  refine aJ S 1 rfl (k:=10) (Nat.le_of_ble_eq_true rfl) fun g3 _ S=> ?_
  refine dZ (S.cell 3 rfl rfl) ?_
  refine aC S (fun b42 _ _ S=> ?_)
  have S2:aK h T _ [rd b ff.2.at_ s ff.2.err,blk b5 (⟨k0,⟨q,k,d,[]⟩,x0,x1,x2,x3,x4,x5,⟨p1,l1,c1,[]⟩,⟨p2,l2,c2,[]⟩,ff.1,0,0,0,0⟩:Nv).cells,blk b7 [.int .i64 k],blk b1 [.pointer (some ⟨b,0,none⟩)],blk b3 (aP da (zT da)),own 1 q k d (az bb.1),own 1 p1 l1 c1 (az dd.1),own 1 p2 l2 c2 (az ee.1),blk b42 [zw b5 b7 (false,11)]] R:=S
  clear S
  have S:=S2
  clear S2
  refine(pW ((S.into [0,1,2] [8] []).rowB 0) okf hs 0 (ts:=[(false,11)]) (k:=1) rfl rfl (by decide) (by intro x hx;simp at hx;subst hx;exact Nat.le_of_ble_eq_true rfl)).mono ?_
  rintro _ _ ⟨rfl,S1⟩
  refine⟨rfl,?_⟩
  replace S:=S.back [0,1,2] S1
  try dsimp only[bO,List.set,List.cons_append,List.nil_append] at S
  have okg:=cJ okf 1
  have er1:iK s 1 ff.2=([(bx s ff.2 1).1],(bx s ff.2 1).2):=rfl
  rw[er1] at S
  generalize hkg:bx s ff.2 1=gg at S okg
  refine dZ (S.cell 3 rfl rfl) (dZ (S.cell 3 rfl rfl) ?_)
  refine(yh (S.into [0] [] []) okg hs).mono ?_
  rintro _ _ ⟨rfl,S1⟩
  refine⟨_,rfl,?_⟩
  replace S:=S.back [0] S1
  try dsimp only[bO,List.set,List.cons_append,List.nil_append] at S
  have oki:=cJ okg 4
  generalize hki:bx s gg.2 4=ii at S oki
  refine bf (S.cell 3 rfl rfl) ?_
  refine(yh (S.into [0] [] []) oki hs).mono ?_
  rintro _ _ ⟨rfl,S1⟩
  refine⟨_,rfl,?_⟩
  replace S:=S.back [0] S1
  try dsimp only[bO,List.set,List.cons_append,List.nil_append] at S
  have okj:=cJ oki 4
  generalize hkj:bx s ii.2 4=jj at S okj
  refine bf (S.cell 3 rfl rfl) ?_
  refine aJ S 1 rfl (k:=12) (Nat.le_of_ble_eq_true rfl) fun g4 _ S=> ?_
  refine bf (S.cell 3 rfl rfl) ?_
  refine aJ S 1 rfl (k:=13) (Nat.le_of_ble_eq_true rfl) fun g5 _ S=> ?_
  refine dZ (S.cell 3 rfl rfl) ?_
  refine aC S (fun b54 _ _ S=> ?_)
  have S2:aK h T _ [rd b jj.2.at_ s jj.2.err,blk b5 (⟨k0,⟨q,k,d,[]⟩,x0,x1,x2,x3,x4,x5,⟨p1,l1,c1,[]⟩,⟨p2,l2,c2,[]⟩,ff.1,gg.1,nF ii.1,nF jj.1,0⟩:Nv).cells,blk b7 [.int .i64 k],blk b1 [.pointer (some ⟨b,0,none⟩)],blk b3 (aP da (zT da)),own 1 q k d (az bb.1),own 1 p1 l1 c1 (az dd.1),own 1 p2 l2 c2 (az ee.1),blk b54 [zw b5 b7 (false,14)]] R:=S.pw [0,1,2,3,4,5,6,7,9]
  clear S
  have S:=S2
  clear S2
  refine(pW ((S.into [0,1,2] [8] []).rowB 0) okj hs 0 (ts:=[(false,14)]) (k:=1) rfl rfl (by decide) (by intro x hx;simp at hx;subst hx;exact Nat.le_of_ble_eq_true rfl)).mono ?_
  rintro _ _ ⟨rfl,S1⟩
  refine⟨rfl,?_⟩
  replace S:=S.back [0,1,2] S1
  try dsimp only[bO,List.set,List.cons_append,List.nil_append] at S
  have okk:=cJ okj 1
  have er1:iK s 1 jj.2=([(bx s jj.2 1).1],(bx s jj.2 1).2):=rfl
  rw[er1] at S
  generalize hkk:bx s jj.2 1=kk at S okk
  have hd:jT s t=(⟨k0,bb.1,x0,x1,x2,x3,x4,x5,dd.1,ee.1,ff.1,gg.1,nF ii.1,nF jj.1,kk.1⟩,kk.2):=by
   unfold jT
   simp only[hka,ea,List.getD_cons_zero,List.getD_cons_succ,Int.toNat_natCast,hkb,hkc,ec,hkd,hke,hkf,hkg,hki,hkj,hkk]
  rw[hd]
  have S2:aK h T _ [rd b kk.2.at_ s kk.2.err,blk b5 (⟨k0,⟨q,k,d,bb.1⟩,x0,x1,x2,x3,x4,x5,⟨p1,l1,c1,dd.1⟩,⟨p2,l2,c2,ee.1⟩,ff.1,gg.1,nF ii.1,nF jj.1,kk.1⟩:Nv).cells,blk b7 [.int .i64 k],blk b1 [.pointer (some ⟨b,0,none⟩)],blk b3 (aP da (zT da)),own 1 q k d (az bb.1),own 1 p1 l1 c1 (az dd.1),own 1 p2 l2 c2 (az ee.1)] R:=S.pw [0,1,2,3,4,5,6,7]
  clear S
  generalize hnv:(⟨k0,⟨q,k,d,bb.1⟩,x0,x1,x2,x3,x4,x5,⟨p1,l1,c1,dd.1⟩,⟨p2,l2,c2,ee.1⟩,ff.1,gg.1,nF ii.1,nF jj.1,kk.1⟩:Nv)=nv at S2
  have S:=S2
  clear S2
  refine aQ S 1 rfl (x:=nv.t) rfl ?_
  refine cG S 4 rfl rfl (bC rfl) fun g6 _ S=> ?_
  dsimp only[List.set] at S
  refine aQ S 4 rfl (x:=nv.t) rfl ?_
  have o1:=kL (i:=5) S rfl
  have o2:=kL (i:=6) S rfl
  have o3:=kL (i:=7) S rfl
  replace S:=own_row (i:=5) S rfl
  replace S:=own_row (i:=6) S rfl
  replace S:=own_row (i:=7) S rfl
  refine⟨nv,rfl,by rw[←hnv];exact⟨o1,o2,o3⟩,by rw[←hnv];rfl,?_⟩
  have S3:=S.join [0] [5,6,7]
  rw[←hnv]
  exact S3
end
end Go.Proofs.YtdhpmegbmjoekaaGreatDoor.G
end
section
namespace Go.Proofs.YtdhpmegbmjoekaaGreatDoor.G
open Go Go.Sh
set_option linter.unusedVariables false
set_option linter.unusedSimpArgs false
section
variable {h:ae} {T:Nat→Prop} {R:List bi} {b:Nat} {s:List UInt8} {t:St}
end
end Go.Proofs.YtdhpmegbmjoekaaGreatDoor.G
end
section
namespace Go.Proofs.YtdhpmegbmjoekaaGreatDoor.G
open Go Go.Sh
set_option linter.unusedVariables false
set_option linter.unusedSimpArgs false
def eJ (s:List UInt8) (t:St):Nat→List Nd×St
 |0=>([],t)
 |n+1=>((eJ s t n).1++[(jT s (eJ s t n).2).1],(jT s (eJ s t n).2).2)
theorem pX {s:List UInt8} {t:St} (h:t.ok s): ∀n,(eJ s t n).2.ok s
 |0=>h
 |n+1=>NS (pX h n)
theorem oX (s:List UInt8) (t:St): ∀n,(eJ s t n).1.length=n
 |0=>rfl
 |n+1=>by simp[eJ,oX s t n]
def Gr.zero:Gr:=⟨0,0,0,[],0⟩
def dG (s:List UInt8):Gr×Int:=
 let a:=bx s ⟨0,0⟩ 1
 let b:=bx s a.2 4
 let c:=bx s b.2 4
 let d:=bx s c.2 1
 let e:=eJ s d.2 d.1.toNat
 let f:=bx s e.2 1
 if f.2.err≠0 then(Gr.zero,11) else if(s.length:Int)-f.2.at_>0 then(Gr.zero,10) else(⟨a.1,nF b.1,nF c.1,e.1,f.1⟩,0)
def tQ (s:List UInt8):Gr×Int:=if fi<+:s then dG (s.drop 4) else(Gr.zero,10)
def Gv.zero:Gv:=⟨0,0,0,none,0,0,0,[]⟩
def Q1 (h:ae) (r:Gr×Int) (v:Value) (h':ae):Prop:=
 ∃gv:Gv,v= .tuple #[gv.v,.int .i64 r.2]∧gv.ok∧gv.gr=r.1∧aK h no h' [own 15 gv.p gv.l gv.c (aF gv.ns),aZ gv.ns] []
instance (a b:List UInt8):Decidable (a<+:b):=decidable_of_iff (a.isPrefixOf b=true) (List.isPrefixOf_iff_prefix)
theorem NU {a b:List UInt8}:a<+:b↔b.take a.length=a:=by
 rw[List.prefix_iff_eq_take];exact eq_comm
section
variable {h:ae} {s:List UInt8}
theorem GH (a:List UInt8):aq P cP #[.string (str s),.string (str a)] h fun v h'=>v= .bool (decide (a<+:s))∧h'=h:=by
 refine jg _ _ ?_
 unfold gp
 rw[cE,cE]
 refine au (fun hge=> ?_) (fun hlt=> ?_)
 ·refine ja rfl (by omega) ⟨?_,rfl⟩
  rw[jP,Je]
  congr 1
  rw[decide_eq_decide,NU,List.drop_zero,Nat.sub_zero]
 ·refine⟨?_,rfl⟩
  rw[decide_eq_false]
  intro hp
  have:=hp.length_le
  omega
theorem GI (a:List UInt8):aq P gc #[.string (str s),.string (str a)] h fun v h'=>v= .tuple #[.string (str (if a<+:s then s.drop a.length else s)),.bool (decide (a<+:s))]∧h'=h:=by
 refine qq _ _ ?_
 unfold oh
 refine aq.mono (K:=fun v h'=>v= .tuple #[.string (str (if a<+:s then s.drop a.length else s)),.bool (decide (a<+:s))]∧h'=h) ?_ ?_
 ·refine jh _ _ ?_
  unfold gq
  refine(GH a).mono ?_
  rintro _ _ ⟨rfl,rfl⟩
  refine⟨_,rfl,?_⟩
  refine bN (au (fun hp=> ?_) (fun hp=> ?_))
  ·have:=hp.length_le
   refine ja (by rw[cE]) (by rw[cE];omega) ⟨?_,rfl⟩
   rw[if_pos hp,decide_eq_true hp,jP,cE,List.take_of_length_le (by rw[List.length_drop];omega)]
  ·refine⟨?_,rfl⟩
   rw[if_neg hp,decide_eq_false hp]
 ·rintro _ _ ⟨rfl,rfl⟩
  exact⟨_,_,rfl,rfl,rfl⟩
end
section
variable {h:ae} {s:List UInt8}
theorem GJ {g:ae} {T:Nat→Prop} {R:List bi} {b1:Nat} {r:Gr×Int} {W:List bi} {n:Int} (S:aK h no g (blk b1 (aP bP (zT bP))::W) R) (hr:r=(Gr.zero,n)):
 bt [.int .i64 0,.int .i64 0,.int .i64 0,.slice none 0 0,.int .i64 0] g ⟨b1,0,none⟩ 0 fun h49=>aX bP h49 ⟨b1,0,none⟩ fun x50=>Q1 h r (.tuple #[bz bP x50,.int .i64 n]) h49:=by
 refine cG S 0 rfl rfl (show ∀y∈Gv.zero.cells,mC y=true from bC rfl) fun h6 _ S=> ?_
 refine aQ S 0 rfl (x:=Gv.zero.t) rfl ?_
 refine⟨Gv.zero,by rw[hr],⟨rfl,Nat.le_refl _,fun n hn=>(by cases hn)⟩,by rw[hr];rfl,?_⟩
 have S3:=(((S.pick [] []).nil 15)).reads0
 exact S3
set_option maxHeartbeats 2000000 in
theorem DP (hs:s.length<2 ^ 62):aq P j0 #[.string (str s)] h (Q1 h (tQ s)):=by
 refine xp _ ?_
 unfold xn
 have S:=aK.start h no
 refine aC S fun b1 h2 _ S=> ?_
 dsimp only[List.nil_append] at S
 have em:(ByteArray.mk #[69,65,82,49])=str fi:=rfl
 rw[em]
 refine(GI fi).mono ?_
 rintro _ _ ⟨rfl,rfl⟩
 refine⟨_,_,rfl,?_⟩
 refine bN (au (fun hp=> ?_) (fun hp=>GJ (T:=no) S (by unfold tQ;rw[if_neg hp])))
 rw[if_pos hp]
 have hd0:tQ s=dG (s.drop 4):=by unfold tQ;rw[if_pos hp]
 rw[hd0]
 have hml:fi.length=4:=rfl
 rw[hml]
 have hs2:(s.drop 4).length<2 ^ 62:=by rw[List.length_drop];omega
 generalize s.drop 4=u at hs2
 clear hd0
 refine(Qo u).mono ?_
 rintro _ _ ⟨br,rfl,S1⟩
 refine⟨_,rfl,?_⟩
 replace S:=S.add S1 fun _ _ h=>h
 refine aC S (fun b11 _ _ S=> ?_)
 refine aJ S 2 rfl (k:=0) (Nat.le_of_ble_eq_true rfl) fun h13 _ S=> ?_
 refine aC S fun b14 h15 _ S=> ?_
 dsimp only[List.set,List.cons_append,List.nil_append] at S
 refine dZ (S.cell 2 rfl rfl) ?_
 refine aC S (fun b17 _ _ S=> ?_)
 have okz:St.ok u ⟨0,0⟩:=⟨Nat.zero_le _,.inl rfl⟩
 have S2:aK h no _ [rd br (⟨0,0⟩:St).at_ u (⟨0,0⟩:St).err,blk b14 Gv.zero.cells,blk b11 [.pointer (some ⟨br,0,none⟩)],blk b1 (aP bP (zT bP)),blk b17 [zw b14 b11 (false,0)]] []:=S.pw [1,3,2,0,4]
 clear S
 have S:=S2
 clear S2
 refine(pW ((S.into [0,1,2] [4] []).rowB 0) okz hs2 0 (ts:=[(false,0)]) (k:=1) rfl rfl (by decide) (by intro x hx;simp at hx;subst hx;exact Nat.le_of_ble_eq_true rfl)).mono ?_
 rintro _ _ ⟨rfl,S1⟩
 refine⟨rfl,?_⟩
 replace S:=S.back [0,1,2] S1
 try dsimp only[bO,List.set,List.cons_append,List.nil_append] at S
 have er1:iK u 1 ⟨0,0⟩=([(bx u ⟨0,0⟩ 1).1],(bx u ⟨0,0⟩ 1).2):=rfl
 rw[er1] at S
 have oka:=cJ okz 1
 generalize hka:bx u ⟨0,0⟩ 1=a at S oka
 refine dZ (S.cell 2 rfl rfl) (dZ (S.cell 2 rfl rfl) ?_)
 refine(yh (S.into [0] [] []) oka hs2).mono ?_
 rintro _ _ ⟨rfl,S1⟩
 refine⟨_,rfl,?_⟩
 replace S:=S.back [0] S1
 try dsimp only[bO,List.set,List.cons_append,List.nil_append] at S
 have okb:=cJ oka 4
 generalize hkb:bx u a.2 4=b at S okb
 refine bf (S.cell 2 rfl rfl) ?_
 refine(yh (S.into [0] [] []) okb hs2).mono ?_
 rintro _ _ ⟨rfl,S1⟩
 refine⟨_,rfl,?_⟩
 replace S:=S.back [0] S1
 try dsimp only[bO,List.set,List.cons_append,List.nil_append] at S
 have okc:=cJ okb 4
 generalize hkc:bx u b.2 4=c at S okc
 refine bf (S.cell 2 rfl rfl) ?_
 refine aJ S 1 rfl (k:=1) (Nat.le_of_ble_eq_true rfl) fun g1 _ S=> ?_
 refine bf (S.cell 2 rfl rfl) ?_
 refine aJ S 1 rfl (k:=2) (Nat.le_of_ble_eq_true rfl) fun g2 _ S=> ?_
 refine dZ (S.cell 2 rfl rfl) ?_
 refine(GK (S.into [0] [] []) okc hs2).mono ?_
 rintro _ _ ⟨rfl,S1⟩
 refine⟨_,rfl,?_⟩
 replace S:=S.back [0] S1
 try dsimp only[bO,List.set,List.cons_append,List.nil_append] at S
 have okd:=cJ okc 1
 have hr:=eM u c.2 1
 generalize hkd:bx u c.2 1=d at S okd hr
 obtain⟨kn,ekn⟩: ∃kn:Nat,d.1=kn:=⟨d.1.toNat,by omega⟩
 rw[ekn] at hr ⊢
 have S2:aK h no _ [rd br d.2.at_ u d.2.err,blk b14 (⟨a.1,nF b.1,nF c.1,none,0,0,0,[]⟩:Gv).cells,blk b11 [.pointer (some ⟨br,0,none⟩)],blk b1 (aP bP (zT bP))] []:=S.pw [0,1,2,3]
 clear S
 have S:=((S2.nil 15).reads0).pw [0,1,2,3,4,5]
 clear S2
 dsimp only[Sh.pick,List.getElem?_cons_zero,List.getElem?_cons_succ,List.cons_append,List.nil_append] at S
 refine aT (fun m s' g=> ∃(q:Option Addr) (k d':Nat) (ns:List Nv),s'=(⟨b1,0,none⟩,⟨b11,0,none⟩,⟨b14,0,none⟩,(kn:Int),(k:Int),())∧k≤kn∧m=kn-k∧ns.length=k∧(∀n∈ns,n.ok)∧ns.map Nv.nd=(eJ u d.2 k).1∧
  aK h no g [rd br (eJ u d.2 k).2.at_ u (eJ u d.2 k).2.err,blk b14 (⟨a.1,nF b.1,nF c.1,q,k,d',0,[]⟩:Gv).cells,blk b11 [.pointer (some ⟨br,0,none⟩)],blk b1 (aP bP (zT bP)),own 15 q k d' (aF ns),aZ ns] []) kn
  ⟨none,0,0,[],rfl,Nat.zero_le _,rfl,rfl,(fun n hn=>by cases hn),rfl,S⟩ ?_
 clear S
 rintro m s' g ⟨q,k,d',ns,rfl,hk,rfl,hnk,nok,hnd,S⟩
 unfold rI
 dsimp only
 refine au (fun hlt=> ?_) (fun hge=> ?_)
 ·refine am (p:=q) (l:=k) (c:=d') (S.cell 1 rfl rfl) (dZ (S.cell 2 rfl rfl) ?_)
  refine(Pk (S.into [0] [] []) (pX okd k) hs2).mono ?_
  rintro _ g2 ⟨nv,rfl,nvok,nnd,S1⟩
  replace S:=S.back [0] S1
  dsimp only[bO,List.set,List.cons_append,List.nil_append] at S
  refine jQ nv.t ⟨rfl,?_⟩
  refine bf (S.cell 1 rfl rfl) ?_
  refine aC S fun b37 h3 _ S=> ?_
  dsimp only[List.set,List.cons_append,List.nil_append] at S
  refine dI S 4 (ys:=nv.cells) rfl rfl (by decide) (by omega) (bT.of_at (S.at 7 rfl)) rfl (bC rfl) fun q' k' d2 h4 hk' S=> ?_
  dsimp only[List.set] at S
  refine aJ S 1 rfl (k:=3) (Nat.le_of_ble_eq_true rfl) fun h5 _ S=> ?_
  dsimp only[List.set] at S
  rw[al (by omega)]
  have S3:=S.joinR [0,1,2,3,4] 5 6 rfl rfl
  dsimp only[Sh.pick,List.getElem?_cons_zero,List.getElem?_cons_succ,List.cons_append,List.nil_append] at S3
  have hk1:k'=k+1:=hk'
  subst hk1
  refine⟨kn-(k+1),by omega,q',k+1,d2,ns++[nv],rfl,by omega,rfl,by simp;omega,?_,?_,?_⟩
  ·intro n hn
   rcases List.mem_append.1 hn with hn|hn
   ·exact nok n hn
   ·simp only[List.mem_singleton] at hn;subst hn;exact nvok
  ·rw[List.map_append,hnd,List.map_cons,List.map_nil,nnd];rfl
  ·have e1:aF (ns++[nv])=aF ns++nv.cells:=by rw[jX];simp[aF]
   rw[e1,pU]
   exact S3
 ·have hkn:k=kn:=by omega
  have eu:eJ u d.2 d.1.toNat=eJ u d.2 k:=by rw[ekn,hkn,Int.toNat_natCast]
  have oke:=pX okd k
  generalize hke:eJ u d.2 k=e at S oke eu hnd
  refine dZ (S.cell 2 rfl rfl) ?_
  refine aC S (fun b43 _ _ S=> ?_)
  have S2:aK h no _ [rd br e.2.at_ u e.2.err,blk b14 (⟨a.1,nF b.1,nF c.1,q,k,d',0,[]⟩:Gv).cells,blk b11 [.pointer (some ⟨br,0,none⟩)],blk b1 (aP bP (zT bP)),own 15 q k d' (aF ns),aZ ns,blk b43 [zw b14 b11 (false,4)]] []:=S
  clear S
  have S:=S2
  clear S2
  refine(pW ((S.into [0,1,2] [6] []).rowB 0) oke hs2 0 (ts:=[(false,4)]) (k:=1) rfl rfl (by decide) (by intro x hx;simp at hx;subst hx;exact Nat.le_of_ble_eq_true rfl)).mono ?_
  rintro _ _ ⟨rfl,S1⟩
  refine⟨rfl,?_⟩
  replace S:=S.back [0,1,2] S1
  try dsimp only[bO,List.set,List.cons_append,List.nil_append] at S
  have er1:iK u 1 e.2=([(bx u e.2 1).1],(bx u e.2 1).2):=rfl
  rw[er1] at S
  have okf:=cJ oke 1
  generalize hkf:bx u e.2 1=f at S okf
  have hd:dG u=if f.2.err≠0 then(Gr.zero,11) else if(u.length:Int)-f.2.at_>0 then(Gr.zero,10) else(⟨a.1,nF b.1,nF c.1,e.1,f.1⟩,0):=by
   unfold dG
   simp only[hka,hkb,hkc,hkd,eu,hkf]
  have S2:aK h no _ [blk b1 (aP bP (zT bP)),rd br f.2.at_ u f.2.err,blk b14 (⟨a.1,nF b.1,nF c.1,q,k,d',f.1,ns⟩:Gv).cells,blk b11 [.pointer (some ⟨br,0,none⟩)],own 15 q k d' (aF ns),aZ ns] []:=S.pw [3,0,1,2,4,5]
  clear S
  have S:=S2
  clear S2
  refine dZ (S.cell 3 rfl rfl) ?_
  refine(KL (x:=f.2.err) (S.cell 1 rfl rfl)).mono ?_
  rintro _ _ ⟨rfl,rfl⟩
  refine⟨_,rfl,?_⟩
  refine bj (fun he=>GJ (T:=no) S (by rw[hd,if_pos he])) (fun he=> ?_)
  refine dZ (S.cell 3 rfl rfl) ?_
  refine(Il (S.at 1 rfl) okf hs2).mono ?_
  rintro _ _ ⟨rfl,rfl⟩
  refine⟨_,rfl,?_⟩
  refine au (fun hl=>GJ (T:=no) S (by rw[hd,if_neg (by omega),if_pos hl])) (fun hl=> ?_)
  have hd2:dG u=(⟨a.1,nF b.1,nF c.1,e.1,f.1⟩,0):=by rw[hd,if_neg (by omega),if_neg hl]
  generalize hgv:(⟨a.1,nF b.1,nF c.1,q,k,d',f.1,ns⟩:Gv)=gv at S
  refine aQ S 2 rfl (x:=gv.t) rfl ?_
  refine cG S 0 rfl rfl (bC rfl) fun g6 _ S=> ?_
  dsimp only[List.set] at S
  refine aQ S 0 rfl (x:=gv.t) rfl ?_
  refine⟨gv,by rw[hd2],?_,by rw[hd2,←hgv,←hnd];rfl,?_⟩
  ·rw[←hgv];exact⟨hnk,(S.own 4 rfl).2.1,nok⟩
  ·rw[←hgv];exact S.pick [4,5] []
end
end Go.Proofs.YtdhpmegbmjoekaaGreatDoor.G
end
