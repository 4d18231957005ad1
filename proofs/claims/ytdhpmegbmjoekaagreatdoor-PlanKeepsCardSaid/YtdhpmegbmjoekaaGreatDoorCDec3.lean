/- CDec CDec2 CDec3, in one text. -/
import Derived.Test.YtdhpmegbmjoekaaGreatDoorCMade4
import Derived.Test.YtdhpmegbmjoekaaGreatDoorCTapeX4
import Derived.Test.YtdhpmegbmjoekaaGreatDoorCMadeR
set_option linter.unusedVariables false
set_option linter.unusedSimpArgs false
namespace Go.Proofs.YtdhpmegbmjoekaaGreatDoor.G
open Go Go.Sh
section
def iA (s:List UInt8):Nat→St→List Int×St
 |0,t=>([],t)
 |n+1,t=>((iA s n t).1++[(bD s (iA s n t).2 1).1],(bD s (iA s n t).2 1).2)
theorem kO {s:List UInt8} {t:St} (h:t.ok s): ∀n,(iA s n t).2.ok s
 |0=>h
 |n+1=>cD (kO h n) 1
theorem yy (s:List UInt8) (t:St): ∀n,(iA s n t).1.length=n
 |0=>rfl
 |n+1=>by simp[iA,yy s t n]
def mo (s:List UInt8) (t:St):Nd×St:=
 let a:=iA s 2 t
 let b:=iA s (a.1.getD 1 0).toNat a.2
 let c:=iA s 6 b.2
 let d:=rrow s c.2
 let e:=rrow s d.2
 let f:=bD s e.2 2
 let g:=bD s f.2 1
 let i:=bD s g.2 4
 let j:=bD s i.2 4
 let k:=bD s j.2 1
 (⟨a.1.getD 0 0,b.1,c.1.getD 0 0,c.1.getD 1 0,c.1.getD 2 0,c.1.getD 3 0,c.1.getD 4 0,c.1.getD 5 0,d.1,e.1,f.1,g.1,jD i.1,jD j.1,k.1⟩,k.2)
theorem PB {s:List UInt8} {t:St} (h:t.ok s):(mo s t).2.ok s:=by
 unfold mo;exact cD (cD (cD (cD (cD (wg (wg (kO (kO (kO h 2) _) 6))) 2) 1) 4) 4) 1
def xA (u:List Value×List Value) (x:(Bool×Nat)×Int):List Value×List Value:=if x.1.1=true then(u.1,u.2.set x.1.2 (.int .i64 x.2)) else(u.1.set x.1.2 (.int .i64 x.2),u.2)
def Be (ts:List (Bool×Nat)) (vs:List Int) (u:List Value×List Value):List Value×List Value:=(ts.zip vs).foldl xA u
theorem NF {ts:List (Bool×Nat)} {i:Nat} (hi:i<ts.length) {vs:List Int} (a:vs.length=i) (v:Int) (u:List Value×List Value):Be (ts.take (i+1)) (vs++[v]) u=xA (Be (ts.take i) vs u) (ts[i],v):=by
 unfold Be;rw[py hi,List.zip_append (by rw[U0];omega),Vk];rfl
theorem NG (u:List Value×List Value) (x:(Bool×Nat)×Int):(xA u x).1.length=u.1.length∧(xA u x).2.length=u.2.length:=by
 unfold xA;split<;>simp
theorem PC (u:List Value×List Value): ∀(l:List ((Bool×Nat)×Int)),(l.foldl xA u).1.length=u.1.length∧(l.foldl xA u).2.length=u.2.length:=by
 intro l
 induction l generalizing u with
 |nil=>exact⟨rfl,rfl⟩
 |cons x r a=>have:=a (xA u x);have c:=NG u x;simp only[Wb];omega
section
variable {h:af} {T:Nat→Prop} {R:List aY} {b A B:Nat} {s:List UInt8} {t:St} {ca cb:List Value}
def Bf (A B:Nat) (x:Bool×Nat):Value:= .pointer (some ⟨if x.1=true then B else A,x.2,none⟩)
theorem qK (S:aJ h T h [rd b t.at_ s t.err,blk A ca,blk B cb] R) (M:t.ok s) (L:s.length<2 ^ 62) (C:Nat) {q:Option Addr} {k d:Nat} {ts:List (Bool×Nat)} (G:R[C]? =some (row q (ts.map (Bf A B)))) (N:ts.length=k) (J:k≤100)
 (r: ∀x∈ts,if x.1=true then x.2<cb.length else x.2<ca.length):
 au P cT #[.agg #[.pointer (some ⟨b,0,none⟩)],.slice q k d] h fun v H=>v= .tuple #[]∧aJ h T H [rd b (iA s k t).2.at_ s (iA s k t).2.err,blk A (Be ts (iA s k t).1 (ca,cb)).1,blk B (Be ts (iA s k t).1 (ca,cb)).2] R:=by
 refine qc _ _ _ _ ?_;unfold nt;refine aA S (fun j _ _ S=> ?_);dsimp only[Xi,Xj] at S;refine aP (fun m D g=> ∃(i:Nat),D=(⟨j,0,none⟩,(q,k,d),(k:Int),(i:Int),())∧i≤k∧m=k-i∧aJ h T g [rd b (iA s i t).2.at_ s (iA s i t).2.err,blk A (Be (ts.take i) (iA s i t).1 (ca,cb)).1,blk B (Be (ts.take i) (iA s i t).1 (ca,cb)).2,blk j [.pointer (some ⟨b,0,none⟩)]] R) k ⟨0,rfl,by omega,rfl,S⟩ ?_;clear S;rintro m D g ⟨i,rfl,hi,rfl,S⟩;unfold ky;dsimp only;refine am (fun K=> ?_) (fun I=> ?_)
 ·have l:i<ts.length:=by omega
  have z:=S.row C G;obtain⟨y,rfl⟩:=z.some_of (by simp;omega);refine aB rfl rfl (by omega) ?_;simp only[oe,US];refine eG (n:=some ⟨if ts[i].1=true then B else A,ts[i].2,none⟩) (z.cell (by rw[UW,aO l];rfl)) ?_;refine eG (S.cell 3 rfl rfl) ?_;have E:=S.into [0] [] [];refine(Io (t:=(iA s i t).2) E (kO M i) L).mono ?_;rintro _ _ ⟨rfl,F⟩;refine⟨_,rfl,?_⟩;replace S:=S.back [0] F
  try dsimp only[bE,List.set,Xi,Xj] at S
  refine bz ?_;rw[al (n:=(i:Int)+1) (by omega)];have a:=r _ (UU l);have u:=yy s t i;have f:=PC (ca,cb) ((ts.take i).zip (iA s i t).1);have c:=NF l u (bD s (iA s i t).2 1).1 (ca,cb);generalize ts[i]=x at a c ⊢;obtain⟨w,p⟩:=x
  have key: ∀o,aJ h T o [rd b (bD s (iA s i t).2 1).2.at_ s (bD s (iA s i t).2 1).2.err,blk A (xA (Be (ts.take i) (iA s i t).1 (ca,cb)) ((w,p),(bD s (iA s i t).2 1).1)).1,blk B (xA (Be (ts.take i) (iA s i t).1 (ca,cb)) ((w,p),(bD s (iA s i t).2 1).1)).2,blk j [.pointer (some ⟨b,0,none⟩)]] R→
   ∃m,m<k-i∧ ∃e:Nat,(((⟨j,0,none⟩:Addr),(some y,k,d),(k:Int),(i:Int)+1,()):Addr×(Option Addr×Nat×Nat)×Int×Int×Unit)=(⟨j,0,none⟩,(some y,k,d),(k:Int),(e:Int),())∧e≤k∧m=k-e∧aJ h T o [rd b (iA s e t).2.at_ s (iA s e t).2.err,blk A (Be (ts.take e) (iA s e t).1 (ca,cb)).1,blk B (Be (ts.take e) (iA s e t).1 (ca,cb)).2,blk j [.pointer (some ⟨b,0,none⟩)]] R:=
   fun o S=>⟨k-(i+1),by omega,i+1,rfl,by omega,rfl,by
    show aJ h T o [rd b (bD s (iA s i t).2 1).2.at_ s (bD s (iA s i t).2 1).2.err,blk A (Be (ts.take (i+1)) ((iA s i t).1++[(bD s (iA s i t).2 1).1]) (ca,cb)).1,blk B (Be (ts.take (i+1)) ((iA s i t).1++[(bD s (iA s i t).2 1).1]) (ca,cb)).2,blk j [.pointer (some ⟨b,0,none⟩)]] R;rw[c];exact S⟩
  cases w
  ·refine aE S 1 rfl (k:=p) (Nat.lt_of_lt_of_eq (show p<ca.length from a) f.1.symm) fun o _ S=> ?_;exact key _ S
  ·refine aE S 2 rfl (k:=p) (Nat.lt_of_lt_of_eq (show p<cb.length from a) f.2.symm) fun o _ S=> ?_;exact key _ S
 ·have:i=k:=by omega
  subst this;rw[N6 (by omega)] at S;exact⟨by trivial,S.pw [0,1,2]⟩
set_option maxHeartbeats 2000000 in
theorem Rl (S:aJ h T h [rd b t.at_ s t.err] R) (ht:t.ok s) (w:s.length<2 ^ 62):
 au P jf #[.agg #[.pointer (some ⟨b,0,none⟩)]] h fun v h'=> ∃E:Nv,v=E.v∧E.ok∧E.nd=(mo s t).1∧aJ h T h' [rd b (mo s t).2.at_ s (mo s t).2.err,E.rows] R:=by
 refine rL _ ?_;unfold oK;refine aA S (fun y _ _ S=> ?_);refine aA S fun z h3 _ S=> ?_;refine aA S fun j h5 _ S=> ?_;refine aA S (fun o _ _ S=> ?_);dsimp only[Xi,Xj] at S;refine aE S 4 rfl (k:=0) (jb rfl) fun h9 _ S=> ?_;refine eG (S.cell 1 rfl rfl) ?_;refine aA S (fun an _ _ S=> ?_);have e:aJ h T _ [rd b t.at_ s t.err,blk j Nv.zero.cells,blk o [.int .i64 0],blk y [.pointer (some ⟨b,0,none⟩)],blk z (aL cS (zT cS)),blk an [Bf j o (false,0),Bf j o (true,0)]] R:=S.pw [0,3,4,1,2,5];clear S;have S:=e;clear e;refine(qK ((S.into [0,1,2] [5] []).rowB 0) ht w 0 (ts:=[(false,0),(true,0)]) (k:=2) rfl rfl (by decide) (by intro x r;simp at r;rcases r with rfl|rfl<;>exact jb rfl)).mono ?_;rintro _ _ ⟨rfl,f⟩;refine⟨rfl,?_⟩;replace S:=S.back [0,1,2] f
 try dsimp only[bE,List.set,Xi,Xj] at S
 have V:=kO ht 2;generalize ai:(iA s 2 t)=a at S V;have aw: ∃u D,a.1=[u,D]∧0≤D∧D<256:=by rw[←ai];exact⟨_,_,rfl,fK s _ 1⟩
 obtain⟨u,D,ea,bk,bl⟩:=aw;rw[ea] at S;have e:aJ h T _ [rd b a.2.at_ s a.2.err,blk j ({Nv.zero with kind:=u}:Nv).cells,blk o [.int .i64 D],blk y [.pointer (some ⟨b,0,none⟩)],blk z (aL cS (zT cS))] R:=S.pw [0,1,2,3,4];clear S;have S:=(e.nil 1).pw [0,1,2,3,4,5];clear e;dsimp only[Sh.pick,List.getElem?_cons_zero,List.getElem?_cons_succ,Xi,Xj] at S;refine ae (n:=D) (S.cell 2 rfl rfl) ?_;obtain⟨C,rfl⟩: ∃C:Nat,D=C:=⟨D.toNat,by omega⟩
 refine aP (fun m s' g=> ∃(i:Nat) (q:Option Addr) (k d:Nat),s'=(⟨y,0,none⟩,⟨z,0,none⟩,⟨j,0,none⟩,(C:Int),(i:Int),())∧i≤C∧m=C-i∧k=i∧
  aJ h T g [rd b (iA s i a.2).2.at_ s (iA s i a.2).2.err,blk j ({Nv.zero with kind:=u,inn:=⟨q,k,d,[]⟩}:Nv).cells,blk o [.int .i64 C],blk y [.pointer (some ⟨b,0,none⟩)],blk z (aL cS (zT cS)),own 1 q k d (az (iA s i a.2).1)] R) C ⟨0,none,0,0,rfl,by omega,rfl,rfl,S⟩ ?_
 clear S;rintro m s' g ⟨i,q,k,d,rfl,hi,rfl,rfl,S⟩;unfold lA;dsimp only;refine am (fun bm=> ?_) (fun bg=> ?_)
 ·refine ak (p:=q) (l:=k) (c:=d) (S.cell 1 rfl rfl) (eG (S.cell 3 rfl rfl) ?_);refine(Io (t:=(iA s k a.2).2) (S.into [0] [] []) (kO V k) w).mono ?_;rintro _ _ ⟨rfl,f⟩;refine⟨_,rfl,?_⟩;replace S:=S.back [0] f
  try dsimp only[bE,List.set,Xi,Xj] at S
  refine aX (S.cell 1 rfl rfl) ?_;refine aA S (fun bd _ _ S=> ?_);dsimp only[Xi,Xj] at S;refine cK S 5 (ys:=az [(bD s (iA s k a.2).2 1).1]) rfl rfl (by decide) (by omega) (bI.of_at (S.at 6 rfl)) rfl cX fun p' l' c' h' a7 S=> ?_;dsimp only[List.set] at S;refine aE S 1 rfl (k:=1) (jb rfl) fun g' _ S=> ?_;rw[al (by omega)];refine⟨C-(k+1),by omega,k+1,p',l',c',rfl,by omega,rfl,a7,?_⟩;have ei:az (iA s k a.2).1++az [(bD s (iA s k a.2).2 1).1]=az (iA s (k+1) a.2).1:=by simp[az,iA]
  rw[ei] at S;exact S.pw [0,1,2,3,4,5]
 ·have a6:k=C:=by omega
  subst a6;have W:=kO V k;generalize ay:iA s k a.2=bb at S W;refine eG (S.cell 3 rfl rfl) ?_;refine aA S (fun ao _ _ S=> ?_);have e:aJ h T _ [rd b bb.2.at_ s bb.2.err,blk j ({Nv.zero with kind:=u,inn:=⟨q,k,d,[]⟩}:Nv).cells,blk o [.int .i64 k],blk y [.pointer (some ⟨b,0,none⟩)],blk z (aL cS (zT cS)),own 1 q k d (az bb.1),blk ao [Bf j o (false,2),Bf j o (false,3),Bf j o (false,4),Bf j o (false,5),Bf j o (false,6),Bf j o (false,7)]] R:=S;clear S;have S:=e;clear e;refine(qK ((S.into [0,1,2] [6] []).rowB 0) W w 0 (ts:=[(false,2),(false,3),(false,4),(false,5),(false,6),(false,7)]) (k:=6) rfl rfl (by decide) (by intro x r;simp at r;rcases r with rfl|rfl|rfl|rfl|rfl|rfl<;>exact jb rfl)).mono ?_;rintro _ _ ⟨rfl,f⟩;refine⟨rfl,?_⟩;replace S:=S.back [0,1,2] f
  try dsimp only[bE,List.set,Xi,Xj] at S
  have X:=kO W 6;generalize aj:iA s 6 bb.2=cc at S X;have ax: ∃F G H I J K,cc.1=[F,G,H,I,J,K]:=by rw[←aj];exact⟨_,_,_,_,_,_,rfl⟩
  obtain⟨F,G,H,I,J,K,ec⟩:=ax;rw[ec] at S;have e:aJ h T _ [rd b cc.2.at_ s cc.2.err,blk j (⟨u,⟨q,k,d,[]⟩,F,G,H,I,J,K,Sl.nil,Sl.nil,0,0,0,0,0⟩:Nv).cells,blk o [.int .i64 k],blk y [.pointer (some ⟨b,0,none⟩)],blk z (aL cS (zT cS)),own 1 q k d (az bb.1)] R:=S.pw [0,1,2,3,4,5];clear S;have S:=e;clear e;refine eG (S.cell 3 rfl rfl) (eG (S.cell 3 rfl rfl) ?_);refine(PE (S.into [0] [] []) X w).mono ?_;rintro _ _ ⟨p1,Q,L,rfl,a8,f⟩;refine⟨_,_,_,rfl,?_⟩;replace S:=S.back [0] f
  try dsimp only[bE,List.set,Xi,Xj] at S
  have Y:=wg X;generalize aO:rrow s cc.2=dd at S Y a8;refine aX (S.cell 3 rfl rfl) ?_;refine(PE (S.into [0] [] []) Y w).mono ?_;rintro _ _ ⟨p2,U,M,rfl,a9,f⟩;refine⟨_,_,_,rfl,?_⟩;replace S:=S.back [0] f
  try dsimp only[bE,List.set,Xi,Xj] at S
  have Z:=wg Y;generalize a0:rrow s dd.2=ee at S Z a9;refine aX (S.cell 3 rfl rfl) ?_;refine aE S 1 rfl (k:=8) (jb rfl) fun g1 _ S=> ?_;refine aX (S.cell 3 rfl rfl) ?_;refine aE S 1 rfl (k:=9) (jb rfl) fun g2 _ S=> ?_;refine eG (S.cell 3 rfl rfl) ?_;refine(JW (S.into [0] [] []) Z w).mono ?_;rintro _ _ ⟨rfl,f⟩;refine⟨_,rfl,?_⟩;replace S:=S.back [0] f
  try dsimp only[bE,List.set,Xi,Xj] at S
  have aa:=cD Z 2;generalize a1:bD s ee.2 2=ff at S aa;refine aE S 1 rfl (k:=10) (jb rfl) fun g3 _ S=> ?_;refine eG (S.cell 3 rfl rfl) ?_;refine aA S (fun ap _ _ S=> ?_);have e:aJ h T _ [rd b ff.2.at_ s ff.2.err,blk j (⟨u,⟨q,k,d,[]⟩,F,G,H,I,J,K,⟨p1,Q,L,[]⟩,⟨p2,U,M,[]⟩,ff.1,0,0,0,0⟩:Nv).cells,blk o [.int .i64 k],blk y [.pointer (some ⟨b,0,none⟩)],blk z (aL cS (zT cS)),own 1 q k d (az bb.1),own 1 p1 Q L (az dd.1),own 1 p2 U M (az ee.1),blk ap [Bf j o (false,11)]] R:=S;clear S;have S:=e;clear e;refine(qK ((S.into [0,1,2] [8] []).rowB 0) aa w 0 (ts:=[(false,11)]) (k:=1) rfl rfl (by decide) (by intro x r;simp at r;subst r;exact jb rfl)).mono ?_;rintro _ _ ⟨rfl,f⟩;refine⟨rfl,?_⟩;replace S:=S.back [0,1,2] f
  try dsimp only[bE,List.set,Xi,Xj] at S
  have ab:=cD aa 1;have N:iA s 1 ff.2=([(bD s ff.2 1).1],(bD s ff.2 1).2):=rfl;rw[N] at S;generalize a2:bD s ff.2 1=gg at S ab;refine eG (S.cell 3 rfl rfl) (eG (S.cell 3 rfl rfl) ?_);refine(z8 (S.into [0] [] []) ab w).mono ?_;rintro _ _ ⟨rfl,f⟩;refine⟨_,rfl,?_⟩;replace S:=S.back [0] f
  try dsimp only[bE,List.set,Xi,Xj] at S
  have ad:=cD ab 4;generalize a3:bD s gg.2 4=ii at S ad;refine aX (S.cell 3 rfl rfl) ?_;refine(z8 (S.into [0] [] []) ad w).mono ?_;rintro _ _ ⟨rfl,f⟩;refine⟨_,rfl,?_⟩;replace S:=S.back [0] f
  try dsimp only[bE,List.set,Xi,Xj] at S
  have ag:=cD ad 4;generalize a4:bD s ii.2 4=jj at S ag;refine aX (S.cell 3 rfl rfl) ?_;refine aE S 1 rfl (k:=12) (jb rfl) fun g4 _ S=> ?_;refine aX (S.cell 3 rfl rfl) ?_;refine aE S 1 rfl (k:=13) (jb rfl) fun g5 _ S=> ?_;refine eG (S.cell 3 rfl rfl) ?_;refine aA S (fun ar _ _ S=> ?_);have e:aJ h T _ [rd b jj.2.at_ s jj.2.err,blk j (⟨u,⟨q,k,d,[]⟩,F,G,H,I,J,K,⟨p1,Q,L,[]⟩,⟨p2,U,M,[]⟩,ff.1,gg.1,jD ii.1,jD jj.1,0⟩:Nv).cells,blk o [.int .i64 k],blk y [.pointer (some ⟨b,0,none⟩)],blk z (aL cS (zT cS)),own 1 q k d (az bb.1),own 1 p1 Q L (az dd.1),own 1 p2 U M (az ee.1),blk ar [Bf j o (false,14)]] R:=S.pw [0,1,2,3,4,5,6,7,9];clear S;have S:=e;clear e;refine(qK ((S.into [0,1,2] [8] []).rowB 0) ag w 0 (ts:=[(false,14)]) (k:=1) rfl rfl (by decide) (by intro x r;simp at r;subst r;exact jb rfl)).mono ?_;rintro _ _ ⟨rfl,f⟩;refine⟨rfl,?_⟩;replace S:=S.back [0,1,2] f
  try dsimp only[bE,List.set,Xi,Xj] at S
  have ba:=cD ag 1;have N:iA s 1 jj.2=([(bD s jj.2 1).1],(bD s jj.2 1).2):=rfl;rw[N] at S;generalize a5:bD s jj.2 1=kk at S ba;have hd:mo s t=(⟨u,bb.1,F,G,H,I,J,K,dd.1,ee.1,ff.1,gg.1,jD ii.1,jD jj.1,kk.1⟩,kk.2):=by
   unfold mo;simp only[ai,ea,Xe,Xf,oe,ay,aj,ec,aO,a0,a1,a2,a3,a4,a5]
  rw[hd];have e:aJ h T _ [rd b kk.2.at_ s kk.2.err,blk j (⟨u,⟨q,k,d,bb.1⟩,F,G,H,I,J,K,⟨p1,Q,L,dd.1⟩,⟨p2,U,M,ee.1⟩,ff.1,gg.1,jD ii.1,jD jj.1,kk.1⟩:Nv).cells,blk o [.int .i64 k],blk y [.pointer (some ⟨b,0,none⟩)],blk z (aL cS (zT cS)),own 1 q k d (az bb.1),own 1 p1 Q L (az dd.1),own 1 p2 U M (az ee.1)] R:=S.pw [0,1,2,3,4,5,6,7];clear S;generalize O:(⟨u,⟨q,k,d,bb.1⟩,F,G,H,I,J,K,⟨p1,Q,L,dd.1⟩,⟨p2,U,M,ee.1⟩,ff.1,gg.1,jD ii.1,jD jj.1,kk.1⟩:Nv)=E at e;have S:=e;clear e;refine aN S 1 rfl (x:=E.t) rfl ?_;refine cA S 4 rfl rfl (bu rfl) fun g6 _ S=> ?_;dsimp only[List.set] at S;refine aN S 4 rfl (x:=E.t) rfl ?_;have o1:=jl (i:=5) S rfl;have o2:=jl (i:=6) S rfl;have o3:=jl (i:=7) S rfl;replace S:=own_row (i:=5) S rfl;replace S:=own_row (i:=6) S rfl;replace S:=own_row (i:=7) S rfl;refine⟨E,rfl,by rw[←O];exact⟨o1,o2,o3⟩,by rw[←O];rfl,?_⟩;have S3:=S.join [0] [5,6,7];rw[←O];exact S3
end
end
section
theorem Ro (s:List UInt8) (t:St):IntKind.wrap .i64 (bD s t 1).1=(bD s t 1).1:=by
 have:=fK s t 1;exact al (by omega)
theorem UO (s:List UInt8) (t:St):IntKind.wrap .i64 (bD s t 2).1=(bD s t 2).1:=by
 have:=fK s t 2;exact al (by omega)
section
variable {h:af} {T:Nat→Prop} {R:List aY} {b:Nat} {s:List UInt8} {t:St}
set_option maxHeartbeats 2000000 in
theorem Rp (S:aJ h T h [rf b t.at_ s t.err] R) (ht:t.ok s) (o:s.length<2 ^ 62):
 au P ru #[.pointer (some ⟨b,0,none⟩)] h fun v h'=> ∃z:Nv,v=z.v∧z.ok∧z.nd=(mo s t).1∧aJ h T h' [rf b (mo s t).2.at_ s (mo s t).2.err,z.rows] R:=by
 refine Cj _ ?_;unfold DA;refine aA S fun r h2 _ S=> ?_;dsimp only[Xi,Xj] at S;refine(tu (n:=1) (S.into [0] [] []) ht o (by decide)).mono ?_;rintro _ _ ⟨rfl,e⟩;refine⟨_,rfl,?_⟩;replace S:=S.back [0] e
 try dsimp only[bE,List.set,Xi,Xj] at S
 have E:=cD ht 1;dsimp only;rw[Ro];generalize ag:bD s t 1=a at S E;refine aA S fun u h6 _ S=> ?_;dsimp only[Xi,Xj] at S;refine cA S 2 rfl rfl (show ∀y∈({Nv.zero with kind:=a.1}:Nv).cells,lK y=true from bu rfl) fun h7 _ S=> ?_;dsimp only[List.set] at S;refine(tu (n:=1) (S.into [0] [] []) E o (by decide)).mono ?_;rintro _ _ ⟨rfl,e⟩;refine⟨_,rfl,?_⟩;replace S:=S.back [0] e
 try dsimp only[bE,List.set,Xi,Xj] at S
 have G:=cD E 1;have hr:=fK s a.2 1;dsimp only;rw[Ro];generalize aj:bD s a.2 1=c at S G hr;obtain⟨w,Y⟩: ∃w:Nat,c.1=w:=⟨c.1.toNat,by omega⟩;rw[Y] at hr ⊢;have f:aJ h T _ [rf b c.2.at_ s c.2.err,blk r (aL cS (zT cS)),blk u ({Nv.zero with kind:=a.1}:Nv).cells] R:=S.pw [0,1,2];clear S;have S:=(f.nil 1).pw [0,1,2,3];clear f;dsimp only[Sh.pick,List.getElem?_cons_zero,List.getElem?_cons_succ,Xi,Xj] at S
 refine aP (fun m s' g=> ∃(i:Nat) (q:Option Addr) (k d:Nat),s'=(some ⟨b,0,none⟩,⟨r,0,none⟩,⟨u,0,none⟩,(w:Int),(i:Int),())∧i≤w∧m=w-i∧k=i∧
  aJ h T g [rf b (iA s i c.2).2.at_ s (iA s i c.2).2.err,blk r (aL cS (zT cS)),blk u ({Nv.zero with kind:=a.1,inn:=⟨q,k,d,[]⟩}:Nv).cells,own 1 q k d (az (iA s i c.2).1)] R) w ⟨0,none,0,0,rfl,by omega,rfl,rfl,S⟩ ?_
 clear S;rintro m s' g ⟨i,q,k,d,rfl,hi,rfl,rfl,S⟩;unfold wN;dsimp only;refine am (fun a4=> ?_) (fun ab=> ?_)
 ·refine ak (p:=q) (l:=k) (c:=d) (S.cell 2 rfl rfl) ?_;refine(tu (n:=1) (S.into [0] [] []) (kO G k) o (by decide)).mono ?_;rintro _ _ ⟨rfl,e⟩;refine⟨_,rfl,?_⟩;replace S:=S.back [0] e
  try dsimp only[bE,List.set,Xi,Xj] at S
  refine aX (S.cell 2 rfl rfl) ?_;rw[Ro];refine aA S (fun a6 _ _ S=> ?_)
  try dsimp only[Xi,Xj] at S
  refine cK S 3 (ys:=az [(bD s (iA s k c.2).2 1).1]) rfl rfl (by decide) (by omega) (bI.of_at (S.at 4 rfl)) rfl cX fun p' l' c' h' a0 S=> ?_
  try dsimp only[List.set] at S
  refine aE S 2 rfl (k:=1) (jb rfl) fun g' _ S=> ?_;rw[al (by omega)];refine⟨w-(k+1),by omega,k+1,p',l',c',rfl,by omega,rfl,a0,?_⟩;have ei:az (iA s k c.2).1++az [(bD s (iA s k c.2).2 1).1]=az (iA s (k+1) c.2).1:=by simp[az,iA]
  rw[ei] at S;exact S.pw [0,1,2,3]
 ·have aO:k=w:=by omega
  subst aO;have F:=kO G k;generalize ai:iA s k c.2=bb at S F;refine aA S (fun C _ _ S=> ?_);have f:aJ h T _ [rf b bb.2.at_ s bb.2.err,blk r (aL cS (zT cS)),blk u ({Nv.zero with kind:=a.1,inn:=⟨q,k,d,[]⟩}:Nv).cells,own 1 q k d (az bb.1),blk C (az ((iA s 0 bb.2).1++List.replicate (6-0) 0))] R:=S;clear S
  refine aP (fun m s' g=> ∃(i:Nat),s'=(some ⟨b,0,none⟩,⟨r,0,none⟩,⟨u,0,none⟩,⟨C,0,none⟩,(i:Int),())∧i≤6∧m=6-i∧
   aJ h T g [rf b (iA s i bb.2).2.at_ s (iA s i bb.2).2.err,blk r (aL cS (zT cS)),blk u ({Nv.zero with kind:=a.1,inn:=⟨q,k,d,[]⟩}:Nv).cells,own 1 q k d (az bb.1),blk C (az ((iA s i bb.2).1++List.replicate (6-i) 0))] R) 6 ⟨0,rfl,by omega,rfl,f⟩ ?_
  clear f;rintro m s' g ⟨i,rfl,hi,rfl,S⟩;unfold wM;dsimp only;refine am (fun a4=> ?_) (fun ab=> ?_)
  ·refine(tu (n:=1) (S.into [0] [] []) (kO F i) o (by decide)).mono ?_;rintro _ _ ⟨rfl,e⟩;refine⟨_,rfl,?_⟩;replace S:=S.back [0] e
   try dsimp only[bE,List.set,Xi,Xj] at S
   dsimp only;rw[Ro];refine jN (by omega) (by omega) ?_;simp only[oe,US];rw[aQ,SI];have a3:=yy s bb.2 i;refine aE S 4 rfl (k:=i) (by rw[av,Rb,UZ];omega) fun g' _ S=> ?_;rw[al (by omega)];refine⟨6-(i+1),by omega,i+1,rfl,by omega,rfl,?_⟩;have ei:(az ((iA s i bb.2).1++List.replicate (6-i) 0)).set i (.int .i64 (bD s (iA s i bb.2).2 1).1)=az ((iA s (i+1) bb.2).1++List.replicate (6-(i+1)) 0):=by
    have e6:6-i=(6-(i+1))+1:=by omega
    rw[e6,VO];simp only[az,U4,Vg,Vz,iA,U6,Xi,Xj];rw[List.set_append];simp[a3]
   rw[ei] at S;exact S
  ·have ad:i=6:=by omega
   subst ad;have H:=kO F 6;generalize Z:iA s 6 bb.2=cc at S H;have aa: ∃O Q U V W X,cc.1=[O,Q,U,V,W,X]:=by rw[←Z];exact⟨_,_,_,_,_,_,rfl⟩
   obtain⟨O,Q,U,V,W,X,ec⟩:=aa;rw[ec] at S;refine jN (by decide) (by decide) (ae (n:=O) (S.cell 4 rfl rfl) ?_);refine aE S 2 rfl (k:=2) (jb rfl) fun j _ S=> ?_;refine jN (by decide) (by decide) (ae (n:=Q) (S.cell 4 rfl rfl) ?_);refine aE S 2 rfl (k:=3) (jb rfl) fun j _ S=> ?_;refine jN (by decide) (by decide) (ae (n:=U) (S.cell 4 rfl rfl) ?_);refine aE S 2 rfl (k:=4) (jb rfl) fun j _ S=> ?_;refine jN (by decide) (by decide) (ae (n:=V) (S.cell 4 rfl rfl) ?_);refine aE S 2 rfl (k:=5) (jb rfl) fun j _ S=> ?_;refine jN (by decide) (by decide) (ae (n:=W) (S.cell 4 rfl rfl) ?_);refine aE S 2 rfl (k:=6) (jb rfl) fun j _ S=> ?_;refine jN (by decide) (by decide) (ae (n:=X) (S.cell 4 rfl rfl) ?_);refine aE S 2 rfl (k:=7) (jb rfl) fun j _ S=> ?_;have f:aJ h T _ [rf b cc.2.at_ s cc.2.err,blk r (aL cS (zT cS)),blk u (⟨a.1,⟨q,k,d,[]⟩,O,Q,U,V,W,X,Sl.nil,Sl.nil,0,0,0,0,0⟩:Nv).cells,own 1 q k d (az bb.1)] R:=S.pw [0,1,2,3];clear S;have S:=f;clear f;refine(PF (S.into [0] [] []) H o).mono ?_;rintro _ _ ⟨p1,l1,c1,rfl,a1,e⟩;refine⟨_,_,_,rfl,?_⟩;replace S:=S.back [0] e
   try dsimp only[bE,List.set,Xi,Xj] at S
   have I:=wg H;generalize an:rrow s cc.2=dd at S I a1;refine aE S 2 rfl (k:=8) (jb rfl) fun g1 _ S=> ?_;refine(PF (S.into [0] [] []) I o).mono ?_;rintro _ _ ⟨p2,l2,c2,rfl,a2,e⟩;refine⟨_,_,_,rfl,?_⟩;replace S:=S.back [0] e
   try dsimp only[bE,List.set,Xi,Xj] at S
   have J:=wg I;generalize ao:rrow s dd.2=ee at S J a2;refine aE S 2 rfl (k:=9) (jb rfl) fun g2 _ S=> ?_;refine(tu (n:=2) (S.into [0] [] []) J o (by decide)).mono ?_;rintro _ _ ⟨rfl,e⟩;refine⟨_,rfl,?_⟩;replace S:=S.back [0] e
   try dsimp only[bE,List.set,Xi,Xj] at S
   have K:=cD J 2;dsimp only;rw[UO];generalize ap:bD s ee.2 2=ff at S K;refine aE S 2 rfl (k:=10) (jb rfl) fun g3 _ S=> ?_;refine(tu (n:=1) (S.into [0] [] []) K o (by decide)).mono ?_;rintro _ _ ⟨rfl,e⟩;refine⟨_,rfl,?_⟩;replace S:=S.back [0] e
   try dsimp only[bE,List.set,Xi,Xj] at S
   have L:=cD K 1;dsimp only;rw[Ro];generalize ar:bD s ff.2 1=gg at S L;refine aE S 2 rfl (k:=11) (jb rfl) fun g3 _ S=> ?_;refine(z9 (S.into [0] [] []) L o).mono ?_;rintro _ _ ⟨rfl,e⟩;refine⟨_,rfl,?_⟩;replace S:=S.back [0] e
   try dsimp only[bE,List.set,Xi,Xj] at S
   have M:=cD L 4;generalize aw:bD s gg.2 4=ii at S M;refine aE S 2 rfl (k:=12) (jb rfl) fun g3 _ S=> ?_;refine(z9 (S.into [0] [] []) M o).mono ?_;rintro _ _ ⟨rfl,e⟩;refine⟨_,rfl,?_⟩;replace S:=S.back [0] e
   try dsimp only[bE,List.set,Xi,Xj] at S
   have N:=cD M 4;generalize ax:bD s ii.2 4=jj at S N;refine aE S 2 rfl (k:=13) (jb rfl) fun g3 _ S=> ?_;refine(tu (n:=1) (S.into [0] [] []) N o (by decide)).mono ?_;rintro _ _ ⟨rfl,e⟩;refine⟨_,rfl,?_⟩;replace S:=S.back [0] e
   try dsimp only[bE,List.set,Xi,Xj] at S
   have a5:=cD N 1;dsimp only;rw[Ro];generalize ay:bD s jj.2 1=kk at S a5;refine aE S 2 rfl (k:=14) (jb rfl) fun g3 _ S=> ?_;have hd:mo s t=(⟨a.1,bb.1,O,Q,U,V,W,X,dd.1,ee.1,ff.1,gg.1,jD ii.1,jD jj.1,kk.1⟩,kk.2):=by
    have e2:iA s 2 t=([a.1,c.1],c.2):=by simp[iA,ag,aj]
    unfold mo;simp only[e2,Y,Xe,Xf,oe,ai,Z,ec,an,ao,ap,ar,aw,ax,ay]
   rw[hd];have f:aJ h T _ [rf b kk.2.at_ s kk.2.err,blk r (aL cS (zT cS)),blk u (⟨a.1,⟨q,k,d,bb.1⟩,O,Q,U,V,W,X,⟨p1,l1,c1,dd.1⟩,⟨p2,l2,c2,ee.1⟩,ff.1,gg.1,jD ii.1,jD jj.1,kk.1⟩:Nv).cells,own 1 q k d (az bb.1),own 1 p1 l1 c1 (az dd.1),own 1 p2 l2 c2 (az ee.1)] R:=S.pw [0,1,2,3,4,5];clear S;generalize D:(⟨a.1,⟨q,k,d,bb.1⟩,O,Q,U,V,W,X,⟨p1,l1,c1,dd.1⟩,⟨p2,l2,c2,ee.1⟩,ff.1,gg.1,jD ii.1,jD jj.1,kk.1⟩:Nv)=z at f;have S:=f;clear f;refine aN S 2 rfl (x:=z.t) rfl ?_;refine cA S 1 rfl rfl (bu rfl) fun g6 _ S=> ?_
   try dsimp only[List.set] at S
   refine aN S 1 rfl (x:=z.t) rfl ?_;have o1:=jl (i:=3) S rfl;have o2:=jl (i:=4) S rfl;have o3:=jl (i:=5) S rfl;replace S:=own_row (i:=3) S rfl;replace S:=own_row (i:=4) S rfl;replace S:=own_row (i:=5) S rfl;refine⟨z,rfl,by rw[←D];exact⟨o1,o2,o3⟩,by rw[←D];rfl,?_⟩;have S3:=S.join [0] [3,4,5];rw[←D];exact S3
end
end
section
def gp (s:List UInt8) (t:St):Nat→List Nd×St
 |0=>([],t)
 |n+1=>((gp s t n).1++[(mo s (gp s t n).2).1],(mo s (gp s t n).2).2)
theorem qL {s:List UInt8} {t:St} (h:t.ok s): ∀n,(gp s t n).2.ok s
 |0=>h
 |n+1=>PB (qL h n)
def Gr.zero:Gr:=⟨0,0,0,[],0⟩
def dG (s:List UInt8):Gr×Int:=
 let a:=bD s ⟨0,0⟩ 1
 let b:=bD s a.2 4
 let c:=bD s b.2 4
 let d:=bD s c.2 1
 let e:=gp s d.2 d.1.toNat
 let f:=bD s e.2 1
 if f.2.err≠0 then(Gr.zero,11) else if(s.length:Int)-f.2.at_>0 then(Gr.zero,10) else(⟨a.1,jD b.1,jD c.1,e.1,f.1⟩,0)
def Fq (s:List UInt8):Gr×Int:=if fO<+:s then dG (s.drop 4) else(Gr.zero,10)
def Gv.zero:Gv:=⟨0,0,0,none,0,0,0,[]⟩
def Sz (h:af) (r:Gr×Int) (v:Value) (d:af):Prop:=
 ∃a:Gv,v= .tuple #[a.v,.int .i64 r.2]∧a.ok∧a.gr=r.1∧aJ h no d [own 15 a.p a.l a.c (aF a.ns),aU a.ns] []
instance (a b:List UInt8):Decidable (a<+:b):=decidable_of_iff (a.isPrefixOf b=true) (List.isPrefixOf_iff_prefix)
theorem JS {a b:List UInt8}:a<+:b↔b.take a.length=a:=by
 rw[List.prefix_iff_eq_take];exact eq_comm
section
variable {h:af} {s:List UInt8}
theorem Il (a:List UInt8):au P dH #[.string (str s),.string (str a)] h fun v c=>v= .bool (decide (a<+:s))∧c=h:=by
 refine ju _ _ ?_;unfold gC;rw[da,da];refine am (fun d=> ?_) (fun e=> ?_)
 ·refine ko rfl (by omega) ⟨?_,rfl⟩;rw[oR,EL];congr 1;rw[decide_eq_decide,JS,Wg,Nat.sub_zero]
 ·refine⟨?_,rfl⟩;rw[decide_eq_false];intro f;have:=f.length_le;omega
theorem Im (a:List UInt8):au P je #[.string (str s),.string (str a)] h fun v d=>v= .tuple #[.string (str (if a<+:s then s.drop a.length else s)),.bool (decide (a<+:s))]∧d=h:=by
 refine rJ _ _ ?_;unfold oI;refine au.mono (K:=fun v d=>v= .tuple #[.string (str (if a<+:s then s.drop a.length else s)),.bool (decide (a<+:s))]∧d=h) ?_ ?_
 ·refine jv _ _ ?_;unfold gD;refine(Il a).mono ?_;rintro _ _ ⟨rfl,rfl⟩;refine⟨_,rfl,?_⟩;refine bG (am (fun c=> ?_) (fun c=> ?_))
  ·have:=c.length_le;refine ko (by rw[da]) (by rw[da];omega) ⟨?_,rfl⟩;rw[if_pos c,decide_eq_true c,oR,da,N6 (by rw[VF];omega)]
  ·refine⟨?_,rfl⟩;rw[if_neg c,decide_eq_false c]
 ·rintro _ _ ⟨rfl,rfl⟩;exact⟨_,_,rfl,rfl,rfl⟩
end
section
variable {h:af} {s:List UInt8}
theorem sg {g:af} {T:Nat→Prop} {R:List aY} {c:Nat} {r:Gr×Int} {W:List aY} {n:Int} (S:aJ h no g (blk c (aL bT (zT bT))::W) R) (e:r=(Gr.zero,n)):
 bj [.int .i64 0,.int .i64 0,.int .i64 0,.slice none 0 0,.int .i64 0] g ⟨c,0,none⟩ 0 fun a=>aT bT a ⟨c,0,none⟩ fun d=>Sz h r (.tuple #[bB bT d,.int .i64 n]) a:=by
 refine cA S 0 rfl rfl (show ∀y∈Gv.zero.cells,lK y=true from bu rfl) fun i _ S=> ?_;refine aN S 0 rfl (x:=Gv.zero.t) rfl ?_;refine⟨Gv.zero,by rw[e],⟨rfl,U3 _,fun n f=>(by cases f)⟩,by rw[e];rfl,?_⟩;have S3:=(((S.pick [] []).nil 15)).reads0;exact S3
set_option maxHeartbeats 2000000 in
theorem JT (hs:s.length<2 ^ 62):au P m8 #[.string (str s)] h (Sz h (Fq s)):=by
 refine ze _ ?_;unfold zd;have S:=aJ.start h no;refine aA S fun L h2 _ S=> ?_;dsimp only[Xj] at S;have em:(ByteArray.mk #[69,65,82,49])=str fO:=rfl;rw[em];refine(Im fO).mono ?_;rintro _ _ ⟨rfl,rfl⟩;refine⟨_,_,rfl,?_⟩;refine bG (am (fun Y=> ?_) (fun Y=>sg (T:=no) S (by unfold Fq;rw[if_neg Y])));rw[if_pos Y];have N:Fq s=dG (s.drop 4):=by unfold Fq;rw[if_pos Y]
 rw[N];have ar:fO.length=4:=rfl;rw[ar];have o:(s.drop 4).length<2 ^ 62:=by rw[VF];omega
 generalize s.drop 4=u at o;clear N;refine(SA u).mono ?_;rintro _ _ ⟨w,rfl,r⟩;refine⟨_,rfl,?_⟩;replace S:=S.add r fun _ _ h=>h;refine aA S (fun i _ _ S=> ?_);refine aE S 2 rfl (k:=0) (jb rfl) fun aO _ S=> ?_;refine aA S fun j a0 _ S=> ?_;dsimp only[List.set,Xi,Xj] at S;refine eG (S.cell 2 rfl rfl) ?_;refine aA S (fun Z _ _ S=> ?_);have okz:St.ok u ⟨0,0⟩:=⟨V1 _,.inl rfl⟩;have v:aJ h no _ [rd w (⟨0,0⟩:St).at_ u (⟨0,0⟩:St).err,blk j Gv.zero.cells,blk i [.pointer (some ⟨w,0,none⟩)],blk L (aL bT (zT bT)),blk Z [Bf j i (false,0)]] []:=S.pw [1,3,2,0,4];clear S;have S:=v;clear v;refine(qK ((S.into [0,1,2] [4] []).rowB 0) okz o 0 (ts:=[(false,0)]) (k:=1) rfl rfl (by decide) (by intro x Q;simp at Q;subst Q;exact jb rfl)).mono ?_;rintro _ _ ⟨rfl,r⟩;refine⟨rfl,?_⟩;replace S:=S.back [0,1,2] r
 try dsimp only[bE,List.set,Xi,Xj] at S
 have D:iA u 1 ⟨0,0⟩=([(bD u ⟨0,0⟩ 1).1],(bD u ⟨0,0⟩ 1).2):=rfl;rw[D] at S;have G:=cD okz 1;generalize ag:bD u ⟨0,0⟩ 1=a at S G;refine eG (S.cell 2 rfl rfl) (eG (S.cell 2 rfl rfl) ?_);refine(z8 (S.into [0] [] []) G o).mono ?_;rintro _ _ ⟨rfl,r⟩;refine⟨_,rfl,?_⟩;replace S:=S.back [0] r
 try dsimp only[bE,List.set,Xi,Xj] at S
 have H:=cD G 4;generalize ai:bD u a.2 4=b at S H;refine aX (S.cell 2 rfl rfl) ?_;refine(z8 (S.into [0] [] []) H o).mono ?_;rintro _ _ ⟨rfl,r⟩;refine⟨_,rfl,?_⟩;replace S:=S.back [0] r
 try dsimp only[bE,List.set,Xi,Xj] at S
 have I:=cD H 4;generalize aj:bD u b.2 4=c at S I;refine aX (S.cell 2 rfl rfl) ?_;refine aE S 1 rfl (k:=1) (jb rfl) fun g1 _ S=> ?_;refine aX (S.cell 2 rfl rfl) ?_;refine aE S 1 rfl (k:=2) (jb rfl) fun g2 _ S=> ?_;refine eG (S.cell 2 rfl rfl) ?_;refine(Io (S.into [0] [] []) I o).mono ?_;rintro _ _ ⟨rfl,r⟩;refine⟨_,rfl,?_⟩;replace S:=S.back [0] r
 try dsimp only[bE,List.set,Xi,Xj] at S
 have J:=cD I 1;have hr:=fK u c.2 1;generalize an:bD u c.2 1=d at S J hr;obtain⟨C,M⟩: ∃C:Nat,d.1=C:=⟨d.1.toNat,by omega⟩;rw[M] at hr ⊢;have v:aJ h no _ [rd w d.2.at_ u d.2.err,blk j (⟨a.1,jD b.1,jD c.1,none,0,0,0,[]⟩:Gv).cells,blk i [.pointer (some ⟨w,0,none⟩)],blk L (aL bT (zT bT))] []:=S.pw [0,1,2,3];clear S;have S:=((v.nil 15).reads0).pw [0,1,2,3,4,5];clear v;dsimp only[Sh.pick,List.getElem?_cons_zero,List.getElem?_cons_succ,Xi,Xj] at S
 refine aP (fun m s' g=> ∃(q:Option Addr) (k y:Nat) (ns:List Nv),s'=(⟨L,0,none⟩,⟨i,0,none⟩,⟨j,0,none⟩,(C:Int),(k:Int),())∧k≤C∧m=C-k∧ns.length=k∧(∀n∈ns,n.ok)∧ns.map Nv.nd=(gp u d.2 k).1∧
  aJ h no g [rd w (gp u d.2 k).2.at_ u (gp u d.2 k).2.err,blk j (⟨a.1,jD b.1,jD c.1,q,k,y,0,[]⟩:Gv).cells,blk i [.pointer (some ⟨w,0,none⟩)],blk L (aL bT (zT bT)),own 15 q k y (aF ns),aU ns] []) C
  ⟨none,0,0,[],rfl,V1 _,rfl,rfl,(fun n z=>by cases z),rfl,S⟩ ?_
 clear S;rintro m s' g ⟨q,k,y,ns,rfl,hk,rfl,aw,U,F,S⟩;unfold tc;dsimp only;refine am (fun a3=> ?_) (fun a1=> ?_)
 ·refine ak (p:=q) (l:=k) (c:=y) (S.cell 1 rfl rfl) (eG (S.cell 2 rfl rfl) ?_);refine(Rl (S.into [0] [] []) (qL J k) o).mono ?_;rintro _ g2 ⟨V,rfl,W,ax,r⟩;replace S:=S.back [0] r;dsimp only[bE,List.set,Xi,Xj] at S;refine iU V.t ⟨rfl,?_⟩;refine aX (S.cell 1 rfl rfl) ?_;refine aA S fun ay h3 _ S=> ?_;dsimp only[List.set,Xi,Xj] at S;refine cK S 4 (ys:=V.cells) rfl rfl (by decide) (by omega) (bI.of_at (S.at 7 rfl)) rfl (bu rfl) fun q' k' d2 h4 ab S=> ?_;dsimp only[List.set] at S;refine aE S 1 rfl (k:=3) (jb rfl) fun h5 _ S=> ?_;dsimp only[List.set] at S;rw[al (by omega)];have S3:=S.joinR [0,1,2,3,4] 5 6 rfl rfl;dsimp only[Sh.pick,List.getElem?_cons_zero,List.getElem?_cons_succ,Xi,Xj] at S3;have ad:k'=k+1:=ab;subst ad;refine⟨C-(k+1),by omega,q',k+1,d2,ns++[V],rfl,by omega,rfl,by simp;omega,?_,?_,?_⟩
  ·intro n z;rcases UX.1 z with z|z
   ·exact U n z
   ·simp only[SH] at z;subst z;exact W
  ·rw[U4,F,Vg,Vz,ax];rfl
  ·have e1:aF (ns++[V])=aF ns++V.cells:=by rw[iZ];simp[aF]
   rw[e1,mN];exact S3
 ·have ap:k=C:=by omega
  have eu:gp u d.2 d.1.toNat=gp u d.2 k:=by rw[M,ap,oe]
  have K:=qL J k;generalize a2:gp u d.2 k=e at S K eu F;refine eG (S.cell 2 rfl rfl) ?_;refine aA S (fun aa _ _ S=> ?_);have v:aJ h no _ [rd w e.2.at_ u e.2.err,blk j (⟨a.1,jD b.1,jD c.1,q,k,y,0,[]⟩:Gv).cells,blk i [.pointer (some ⟨w,0,none⟩)],blk L (aL bT (zT bT)),own 15 q k y (aF ns),aU ns,blk aa [Bf j i (false,4)]] []:=S;clear S;have S:=v;clear v;refine(qK ((S.into [0,1,2] [6] []).rowB 0) K o 0 (ts:=[(false,4)]) (k:=1) rfl rfl (by decide) (by intro x Q;simp at Q;subst Q;exact jb rfl)).mono ?_;rintro _ _ ⟨rfl,r⟩;refine⟨rfl,?_⟩;replace S:=S.back [0,1,2] r
  try dsimp only[bE,List.set,Xi,Xj] at S
  have D:iA u 1 e.2=([(bD u e.2 1).1],(bD u e.2 1).2):=rfl;rw[D] at S;have X:=cD K 1;generalize ao:bD u e.2 1=f at S X;have hd:dG u=if f.2.err≠0 then(Gr.zero,11) else if(u.length:Int)-f.2.at_>0 then(Gr.zero,10) else(⟨a.1,jD b.1,jD c.1,e.1,f.1⟩,0):=by
   unfold dG;simp only[ag,ai,aj,an,eu,ao]
  have v:aJ h no _ [blk L (aL bT (zT bT)),rd w f.2.at_ u f.2.err,blk j (⟨a.1,jD b.1,jD c.1,q,k,y,f.1,ns⟩:Gv).cells,blk i [.pointer (some ⟨w,0,none⟩)],own 15 q k y (aF ns),aU ns] []:=S.pw [3,0,1,2,4,5];clear S;have S:=v;clear v;refine eG (S.cell 3 rfl rfl) ?_;refine(Mw (x:=f.2.err) (S.cell 1 rfl rfl)).mono ?_;rintro _ _ ⟨rfl,rfl⟩;refine⟨_,rfl,?_⟩;refine bh (fun he=>sg (T:=no) S (by rw[hd,if_pos he])) (fun he=> ?_);refine eG (S.cell 3 rfl rfl) ?_;refine(JU (S.at 1 rfl) X o).mono ?_;rintro _ _ ⟨rfl,rfl⟩;refine⟨_,rfl,?_⟩;refine am (fun hl=>sg (T:=no) S (by rw[hd,if_neg (by omega),if_pos hl])) (fun hl=> ?_);have O:dG u=(⟨a.1,jD b.1,jD c.1,e.1,f.1⟩,0):=by rw[hd,if_neg (by omega),if_neg hl]
  generalize E:(⟨a.1,jD b.1,jD c.1,q,k,y,f.1,ns⟩:Gv)=gv at S;refine aN S 2 rfl (x:=gv.t) rfl ?_;refine cA S 0 rfl rfl (bu rfl) fun g6 _ S=> ?_;dsimp only[List.set] at S;refine aN S 0 rfl (x:=gv.t) rfl ?_;refine⟨gv,by rw[O],?_,by rw[O,←E,←F];rfl,?_⟩
  ·rw[←E];exact⟨aw,(S.own 4 rfl).2.1,U⟩
  ·rw[←E];exact S.pick [4,5] []
set_option maxHeartbeats 2000000 in
theorem NH (hs:s.length<2 ^ 62):au P ni #[.string (str s)] h (Sz h (Fq s)):=by
 refine yS _ ?_;unfold yR;have S:=aJ.start h no;refine aA S fun C h2 _ S=> ?_;dsimp only[Xj] at S;have em:(ByteArray.mk #[69,65,82,49])=str fO:=rfl;have Q:fO.length=4:=rfl;refine⟨fun Y g=>Y=(str s,⟨C,0,none⟩,())∧fO<+:s∧aJ h no g [blk C (aL bT (zT bT))] [],?_,?_⟩
 ·clear S;rintro Y g ⟨rfl,w,S⟩;unfold sN;dsimp only;have ar:=w.length_le;rw[Q] at ar;refine ko (n:=4) rfl (by rw[da];omega) ?_;rw[oR,da,N6 (by rw[VF];omega)];have N:Fq s=dG (s.drop 4):=by unfold Fq;rw[if_pos w]
  rw[N];have i:(s.drop 4).length<2 ^ 62:=by rw[VF];omega
  generalize s.drop 4=u at i;clear N;refine(Rq u).mono ?_;rintro _ _ ⟨L,rfl,j⟩;refine⟨_,rfl,?_⟩;replace S:=S.add j fun _ _ h=>h;have okz:St.ok u ⟨0,0⟩:=⟨V1 _,.inl rfl⟩;have r:aJ h no _ [rf L (⟨0,0⟩:St).at_ u (⟨0,0⟩:St).err,blk C (aL bT (zT bT))] []:=S.pw [1,0];clear S;have S:=r;clear r;refine(tu (n:=1) (S.into [0] [] []) okz i (by decide)).mono ?_;rintro _ _ ⟨rfl,j⟩;refine⟨_,rfl,?_⟩;replace S:=S.back [0] j
  try dsimp only[bE,List.set,Xi,Xj] at S
  have G:=cD okz 1;dsimp only;rw[Ro];generalize ag:bD u ⟨0,0⟩ 1=a at S G;refine aA S fun o a0 _ S=> ?_;dsimp only[Xi,Xj] at S;refine cA S 2 rfl rfl (show ∀y∈({Gv.zero with width:=a.1}:Gv).cells,lK y=true from bu rfl) fun a1 _ S=> ?_;dsimp only[List.set] at S;refine(z9 (S.into [0] [] []) G i).mono ?_;rintro _ _ ⟨rfl,j⟩;refine⟨_,rfl,?_⟩;replace S:=S.back [0] j
  try dsimp only[bE,List.set,Xi,Xj] at S
  have H:=cD G 4;generalize ai:bD u a.2 4=b at S H;refine aE S 2 rfl (k:=1) (jb rfl) fun g1 _ S=> ?_;refine(z9 (S.into [0] [] []) H i).mono ?_;rintro _ _ ⟨rfl,j⟩;refine⟨_,rfl,?_⟩;replace S:=S.back [0] j
  try dsimp only[bE,List.set,Xi,Xj] at S
  have I:=cD H 4;generalize aj:bD u b.2 4=c at S I;refine aE S 2 rfl (k:=2) (jb rfl) fun g2 _ S=> ?_;refine(tu (n:=1) (S.into [0] [] []) I i (by decide)).mono ?_;rintro _ _ ⟨rfl,j⟩;refine⟨_,rfl,?_⟩;replace S:=S.back [0] j
  try dsimp only[bE,List.set,Xi,Xj] at S
  have J:=cD I 1;have hr:=fK u c.2 1;dsimp only;rw[Ro];generalize an:bD u c.2 1=d at S J hr;obtain⟨z,M⟩: ∃z:Nat,d.1=z:=⟨d.1.toNat,by omega⟩;rw[M] at hr ⊢;have r:aJ h no _ [rf L d.2.at_ u d.2.err,blk o (⟨a.1,jD b.1,jD c.1,none,0,0,0,[]⟩:Gv).cells,blk C (aL bT (zT bT))] []:=S.pw [0,2,1];clear S;have S:=((r.nil 15).reads0).pw [0,1,2,3,4];clear r;dsimp only[Sh.pick,List.getElem?_cons_zero,List.getElem?_cons_succ,Xi,Xj] at S
  refine aP (fun m Y g=> ∃(q:Option Addr) (k D:Nat) (ns:List Nv),Y=(⟨C,0,none⟩,some ⟨L,0,none⟩,⟨o,0,none⟩,(z:Int),(k:Int),())∧k≤z∧m=z-k∧ns.length=k∧(∀n∈ns,n.ok)∧ns.map Nv.nd=(gp u d.2 k).1∧
   aJ h no g [rf L (gp u d.2 k).2.at_ u (gp u d.2 k).2.err,blk o (⟨a.1,jD b.1,jD c.1,q,k,D,0,[]⟩:Gv).cells,blk C (aL bT (zT bT)),own 15 q k D (aF ns),aU ns] []) z
   ⟨none,0,0,[],rfl,V1 _,rfl,rfl,(fun n v=>by cases v),rfl,S⟩ ?_
  clear S;rintro m Y g ⟨q,k,D,ns,rfl,hk,rfl,ax,U,F,S⟩;unfold sM;dsimp only;refine am (fun aw=> ?_) (fun aa=> ?_)
  ·refine ak (p:=q) (l:=k) (c:=D) (S.cell 1 rfl rfl) ?_;refine(Rp (S.into [0] [] []) (qL J k) i).mono ?_;rintro _ g2 ⟨V,rfl,W,ay,j⟩;replace S:=S.back [0] j;dsimp only[bE,List.set,Xi,Xj] at S;refine iU V.t ⟨rfl,?_⟩;refine aX (S.cell 1 rfl rfl) ?_;refine aA S fun aO h3 _ S=> ?_;dsimp only[List.set,Xi,Xj] at S;refine cK S 3 (ys:=V.cells) rfl rfl (by decide) (by omega) (bI.of_at (S.at 6 rfl)) rfl (bu rfl) fun q' k' d2 h4 ab S=> ?_;dsimp only[List.set] at S;refine aE S 1 rfl (k:=3) (jb rfl) fun h5 _ S=> ?_;dsimp only[List.set] at S;rw[al (by omega)];have S3:=S.joinR [0,1,2,3] 4 5 rfl rfl;dsimp only[Sh.pick,List.getElem?_cons_zero,List.getElem?_cons_succ,Xi,Xj] at S3;have ad:k'=k+1:=ab;subst ad;refine⟨z-(k+1),by omega,q',k+1,d2,ns++[V],rfl,by omega,rfl,by simp;omega,?_,?_,?_⟩
   ·intro n v;rcases UX.1 v with v|v
    ·exact U n v
    ·simp only[SH] at v;subst v;exact W
   ·rw[U4,F,Vg,Vz,ay];rfl
   ·have e1:aF (ns++[V])=aF ns++V.cells:=by rw[iZ];simp[aF]
    rw[e1,mN];exact S3
  ·have ap:k=z:=by omega
   have eu:gp u d.2 d.1.toNat=gp u d.2 k:=by rw[M,ap,oe]
   have K:=qL J k;generalize a2:gp u d.2 k=e at S K eu F;refine(tu (n:=1) (S.into [0] [] []) K i (by decide)).mono ?_;rintro _ _ ⟨rfl,j⟩;refine⟨_,rfl,?_⟩;replace S:=S.back [0] j
   try dsimp only[bE,List.set,Xi,Xj] at S
   have X:=cD K 1;dsimp only;rw[Ro];generalize ao:bD u e.2 1=f at S X;have Z:dG u=if f.2.err≠0 then(Gr.zero,11) else if(u.length:Int)-f.2.at_>0 then(Gr.zero,10) else(⟨a.1,jD b.1,jD c.1,e.1,f.1⟩,0):=by
    unfold dG;simp only[ag,ai,aj,an,eu,ao]
   refine aE S 1 rfl (k:=4) (jb rfl) fun g3 _ S=> ?_;have r:aJ h no _ [blk C (aL bT (zT bT)),rf L f.2.at_ u f.2.err,blk o (⟨a.1,jD b.1,jD c.1,q,k,D,f.1,ns⟩:Gv).cells,own 15 q k D (aF ns),aU ns] []:=S.pw [2,0,1,3,4];clear S;have S:=r;clear r;refine bz (ae (n:=f.2.err) (S.cell 1 rfl rfl) ?_);refine bh (fun he=>sg (T:=no) S (by rw[Z,if_pos he])) (fun he=> ?_);refine(JV (S.at 1 rfl) X i).mono ?_;rintro _ _ ⟨rfl,rfl⟩;refine⟨_,rfl,?_⟩;refine am (fun hl=>sg (T:=no) S (by rw[Z,if_neg (by omega),if_pos hl])) (fun hl=> ?_);have O:dG u=(⟨a.1,jD b.1,jD c.1,e.1,f.1⟩,0):=by rw[Z,if_neg (by omega),if_neg hl]
   generalize E:(⟨a.1,jD b.1,jD c.1,q,k,D,f.1,ns⟩:Gv)=gv at S;refine aN S 2 rfl (x:=gv.t) rfl ?_;refine cA S 0 rfl rfl (bu rfl) fun g6 _ S=> ?_;dsimp only[List.set] at S;refine aN S 0 rfl (x:=gv.t) rfl ?_;refine⟨gv,by rw[O],?_,by rw[O,←E,←F];rfl,?_⟩
   ·rw[←E];exact⟨ax,(S.own 3 rfl).2.1,U⟩
   ·rw[←E];exact S.pick [3,4] []
 ·rw[da];refine am (fun aw=>sg (T:=no) S ?_) (fun aa=> ?_)
  ·unfold Fq;rw[if_neg];intro w;have:=w.length_le;rw[Q] at this;omega
  ·refine ko (n:=4) rfl (by omega) ?_;rw[oR,em,EL,Wg];have ep:(s.take (4-0)=fO)↔fO<+:s:=by rw[JS];exact Iff.rfl
   refine bG (am (fun w=>⟨rfl,ep.1 w,S⟩) (fun w=>sg (T:=no) S ?_));unfold Fq;rw[if_neg (fun h=>w (ep.2 h))]
end
end
end Go.Proofs.YtdhpmegbmjoekaaGreatDoor.G

