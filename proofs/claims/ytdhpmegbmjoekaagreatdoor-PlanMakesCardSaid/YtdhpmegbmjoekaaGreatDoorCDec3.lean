/- CDec CDec2 CDec3, in one text. -/
import Derived.Test.YtdhpmegbmjoekaaGreatDoorCTapeX4
import Derived.Test.YtdhpmegbmjoekaaGreatDoorCMadeR
set_option linter.unusedVariables false
set_option linter.unusedSimpArgs false
namespace Go.Proofs.YtdhpmegbmjoekaaGreatDoor.G
open Go Go.Sh
section
def fJ(s:List UInt8):Nat→St→List Int×St
 |0,t=>([],t)
 |n+1,t=>((fJ s n t).1++[(rget s (fJ s n t).2 1).1],(rget s (fJ s n t).2 1).2)
theorem iP{s:List UInt8}{t:St}(h:t.ok s): ∀n,(fJ s n t).2.ok s
 |0=>h
 |n+1=>bZ (iP h n) 1
theorem nD(s:List UInt8)(t:St): ∀n,(fJ s n t).1.length=n
 |0=>rfl
 |n+1=>by simp[fJ,nD s t n]
def iQ(s:List UInt8)(t:St):Nd×St:=
 let a:=fJ s 2 t
 let b:=fJ s (a.1.getD 1 0).toNat a.2
 let c:=fJ s 6 b.2
 let d:=rrow s c.2
 let e:=rrow s d.2
 let f:=rget s e.2 2
 let g:=rget s f.2 1
 let i:=rget s g.2 4
 let j:=rget s i.2 4
 let k:=rget s j.2 1
 (⟨a.1.getD 0 0,b.1,c.1.getD 0 0,c.1.getD 1 0,c.1.getD 2 0,c.1.getD 3 0,c.1.getD 4 0,c.1.getD 5 0,d.1,e.1,f.1,g.1,iR i.1,iR j.1,k.1⟩,k.2)
theorem QL{s:List UInt8}{t:St}(h:t.ok s):(iQ s t).2.ok s:=by
 exact bZ (bZ (bZ (bZ (bZ (oH (oH (iP (iP (iP h 2) _) 6))) 2) 1) 4) 4) 1
def wt(u:List Value×List Value)(x:(Bool×Nat)×Int):List Value×List Value:=if x.1.1=true then(u.1,u.2.set x.1.2 (.int .i64 x.2)) else(u.1.set x.1.2 (.int .i64 x.2),u.2)
def Ah(ts:List (Bool×Nat))(vs:List Int)(u:List Value×List Value):List Value×List Value:=(ts.zip vs).foldl wt u
theorem OH{ts:List (Bool×Nat)}{i:Nat}(hi:i<ts.length){vs:List Int}(a:vs.length=i)(v:Int)(u:List Value×List Value):Ah (ts.take (i+1)) (vs++[v]) u=wt (Ah (ts.take i) vs u) (ts[i],v):=by
 unfold Ah;rw[gD hi,List.zip_append (by rw[VV];omega),V7];rfl
theorem OI(u:List Value×List Value)(x:(Bool×Nat)×Int):(wt u x).1.length=u.1.length∧(wt u x).2.length=u.2.length:=by
 unfold wt;split<;>simp
theorem QM(u:List Value×List Value): ∀(l:List ((Bool×Nat)×Int)),(l.foldl wt u).1.length=u.1.length∧(l.foldl wt u).2.length=u.2.length:=by
 intro l
 induction l generalizing u with
 |nil=>exact⟨rfl,rfl⟩
 |cons x r a=>have:=a (wt u x);have c:=OI u x;simp only[Wg];omega
section
variable {h:ah} {T:Nat→Prop} {R:List bc} {b A B:Nat} {s:List UInt8} {t:St} {ca cb:List Value}
def Ai(A B:Nat)(x:Bool×Nat):Value:= .pointer (some ⟨if x.1=true then B else A,x.2,none⟩)
theorem qj(S:aG h T h [rd b t.at_ s t.err,aJ A ca,aJ B cb] R)(N:t.ok s)(M:s.length<2 ^ 62)(D:Nat){q:Option Addr}{k d:Nat}{ts:List (Bool×Nat)}(H:R[D]? =some (row q (ts.map (Ai A B))))(O:ts.length=k)(K:k≤100)
 (u: ∀x∈ts,if x.1=true then x.2<cb.length else x.2<ca.length):
 au P cR #[.agg #[.pointer (some ⟨b,0,none⟩)],.slice q k d] h fun v I=>v= .tuple #[]∧aG h T I [rd b (fJ s k t).2.at_ s (fJ s k t).2.err,aJ A (Ah ts (fJ s k t).1 (ca,cb)).1,aJ B (Ah ts (fJ s k t).1 (ca,cb)).2] R:=by
 refine pC _ _ _ _ ?_;refine aA S (fun l _ _ S=> ?_);refine aO (fun m E g=> ∃(i:Nat),E=(⟨l,0,none⟩,(q,k,d),(k:Int),(i:Int),())∧i≤k∧m=k-i∧aG h T g [rd b (fJ s i t).2.at_ s (fJ s i t).2.err,aJ A (Ah (ts.take i) (fJ s i t).1 (ca,cb)).1,aJ B (Ah (ts.take i) (fJ s i t).1 (ca,cb)).2,aJ l [.pointer (some ⟨b,0,none⟩)]] R) k ⟨0,rfl,by omega,rfl,S⟩ ?_;rintro m E g ⟨i,rfl,hi,rfl,S⟩;dsimp only;refine aq (fun L=> ?_) (fun J=> ?_)
 ·have o:i<ts.length:=by omega
  have C:=S.row D H;obtain⟨z,rfl⟩:=C.some_of (by simp;omega);refine aC rfl rfl (by omega) ?_;simp only[hC,VO];refine dZ (n:=some ⟨if ts[i].1=true then B else A,ts[i].2,none⟩) (C.cell (by rw[VP,bo o];rfl)) ?_;refine dZ (S.c 3) ?_;have F:=S.into [0] [] [];refine(HM (t:=(fJ s i t).2) F (iP N i) M).mono ?_;rintro _ _ ⟨rfl,G⟩;refine⟨_,rfl,?_⟩;replace S:=S.back [0] G
  try dsimp only[bY,List.set,Yg,Yh]at S
  refine bx ?_;rw[al (n:=(i:Int)+1) (by omega)];have a:=u _ (VN o);have w:=nD s t i;have j:=QM (ca,cb) ((ts.take i).zip (fJ s i t).1);have e:=OH o w (rget s (fJ s i t).2 1).1 (ca,cb);generalize ts[i]=x at a e ⊢;obtain⟨y,r⟩:=x
  have key: ∀p,aG h T p [rd b (rget s (fJ s i t).2 1).2.at_ s (rget s (fJ s i t).2 1).2.err,aJ A (wt (Ah (ts.take i) (fJ s i t).1 (ca,cb)) ((y,r),(rget s (fJ s i t).2 1).1)).1,aJ B (wt (Ah (ts.take i) (fJ s i t).1 (ca,cb)) ((y,r),(rget s (fJ s i t).2 1).1)).2,aJ l [.pointer (some ⟨b,0,none⟩)]] R→
   ∃m,m<k-i∧ ∃f:Nat,(((⟨l,0,none⟩:Addr),(some z,k,d),(k:Int),(i:Int)+1,()):Addr×(Option Addr×Nat×Nat)×Int×Int×Unit)=(⟨l,0,none⟩,(some z,k,d),(k:Int),(f:Int),())∧f≤k∧m=k-f∧aG h T p [rd b (fJ s f t).2.at_ s (fJ s f t).2.err,aJ A (Ah (ts.take f) (fJ s f t).1 (ca,cb)).1,aJ B (Ah (ts.take f) (fJ s f t).1 (ca,cb)).2,aJ l [.pointer (some ⟨b,0,none⟩)]] R:=
   fun p S=>⟨k-(i+1),by omega,i+1,rfl,by omega,rfl,by
    show aG h T p [rd b (rget s (fJ s i t).2 1).2.at_ s (rget s (fJ s i t).2 1).2.err,aJ A (Ah (ts.take (i+1)) ((fJ s i t).1++[(rget s (fJ s i t).2 1).1]) (ca,cb)).1,aJ B (Ah (ts.take (i+1)) ((fJ s i t).1++[(rget s (fJ s i t).2 1).1]) (ca,cb)).2,aJ l [.pointer (some ⟨b,0,none⟩)]] R;rw[e];exact S⟩
  cases y
  ·refine be S 1 rfl (k:=r) (Nat.lt_of_lt_of_eq (show r<ca.length from a) j.1.symm) fun p _ S=> ?_;exact key _ S
  ·refine be S 2 rfl (k:=r) (Nat.lt_of_lt_of_eq (show r<cb.length from a) j.2.symm) fun p _ S=> ?_;exact key _ S
 ·have:i=k:=by omega
  subst this;rw[py (by omega)]at S;exact⟨by trivial,S.pw [0,1,2]⟩
set_option maxHeartbeats 2000000 in
theorem So(S:aG h T h [rd b t.at_ s t.err] R)(ht:t.ok s)(w:s.length<2 ^ 62):
 au P i7 #[.agg #[.pointer (some ⟨b,0,none⟩)]] h fun v h'=> ∃E:Nv,v=E.v∧E.ok∧E.nd=(iQ s t).1∧aG h T h' [rd b (iQ s t).2.at_ s (iQ s t).2.err,E.rows] R:=by
 refine qT _ ?_;refine aA S (fun y _ _ S=> ?_);refine aA S fun z h3 _ S=> ?_;refine aA S fun f h5 _ S=> ?_;refine aA S (fun j _ _ S=> ?_);refine be S 4 rfl (k:=0) (OU rfl) fun h9 _ S=> ?_;refine dZ (S.c 1) ?_;refine aA S (fun an _ _ S=> ?_);have o:aG h T _ [rd b t.at_ s t.err,aJ f Nv.zero.cells,aJ j [.int .i64 0],aJ y [.pointer (some ⟨b,0,none⟩)],aJ z (aK cJ (zT cJ)),aJ an [Ai f j (false,0),Ai f j (true,0)]] R:=S.pw [0,3,4,1,2,5];have S:=o;refine(qj ((S.into [0,1,2] [5] []).rowB 0) ht w 0 (ts:=[(false,0),(true,0)]) (k:=2) rfl rfl (by decide) (by intro x r;simp at r;rcases r with rfl|rfl<;>exact OU rfl)).mono ?_;rintro _ _ ⟨rfl,e⟩;refine⟨rfl,?_⟩;replace S:=S.back [0,1,2] e
 try dsimp only[bY,List.set,Yg,Yh]at S
 have V:=iP ht 2;generalize ai:(fJ s 2 t)=a at S V;have ax: ∃u D,a.1=[u,D]∧0≤D∧D<256:=by rw[←ai];exact⟨_,_,rfl,cT s _ 1⟩
 obtain⟨u,D,ea,bn,bo⟩:=ax;rw[ea]at S;have o:aG h T _ [rd b a.2.at_ s a.2.err,aJ f ({Nv.zero with kind:=u}:Nv).cells,aJ j [.int .i64 D],aJ y [.pointer (some ⟨b,0,none⟩)],aJ z (aK cJ (zT cJ))] R:=S.pw [0,1,2,3,4];have S:=(o.nil 1).pw [0,1,2,3,4,5];refine ae (n:=D) (S.c 2) ?_;obtain⟨C,rfl⟩: ∃C:Nat,D=C:=⟨D.toNat,by omega⟩
 refine aO (fun m s' g=> ∃(i:Nat)(q:Option Addr)(k d:Nat),s'=(⟨y,0,none⟩,⟨z,0,none⟩,⟨f,0,none⟩,(C:Int),(i:Int),())∧i≤C∧m=C-i∧k=i∧
  aG h T g [rd b (fJ s i a.2).2.at_ s (fJ s i a.2).2.err,aJ f ({Nv.zero with kind:=u,inn:=⟨q,k,d,[]⟩}:Nv).cells,aJ j [.int .i64 C],aJ y [.pointer (some ⟨b,0,none⟩)],aJ z (aK cJ (zT cJ)),own 1 q k d (az (fJ s i a.2).1)] R) C ⟨0,none,0,0,rfl,by omega,rfl,rfl,S⟩ ?_
 rintro m s' g ⟨i,q,k,d,rfl,hi,rfl,rfl,S⟩;dsimp only;refine aq (fun bp=> ?_) (fun bm=> ?_)
 ·refine ak (p:=q) (l:=k) (c:=d) (S.c 1) (dZ (S.c 3) ?_);refine(HM (t:=(fJ s k a.2).2) (S.into [0] [] []) (iP V k) w).mono ?_;rintro _ _ ⟨rfl,e⟩;refine⟨_,rfl,?_⟩;replace S:=S.back [0] e
  try dsimp only[bY,List.set,Yg,Yh]at S
  refine aX (S.c 1) ?_;refine aA S (fun bk _ _ S=> ?_);refine cI S 5 (ys:=az [(rget s (fJ s k a.2).2 1).1]) rfl rfl (by decide) (by omega) (bD.of_at (S.ap 6)) rfl dc fun p' l' c' h' a9 S=> ?_;refine be S 1 rfl (k:=1) (OU rfl) fun g' _ S=> ?_;rw[al (by omega)];refine⟨C-(k+1),by omega,k+1,p',l',c',rfl,by omega,rfl,a9,?_⟩;have ei:az (fJ s k a.2).1++az [(rget s (fJ s k a.2).2 1).1]=az (fJ s (k+1) a.2).1:=by simp[az,fJ]
  rw[ei]at S;exact S.pw [0,1,2,3,4,5]
 ·have a8:k=C:=by omega
  subst a8;have W:=iP V k;generalize a0:fJ s k a.2=bb at S W;refine dZ (S.c 3) ?_;refine aA S (fun ao _ _ S=> ?_);have o:aG h T _ [rd b bb.2.at_ s bb.2.err,aJ f ({Nv.zero with kind:=u,inn:=⟨q,k,d,[]⟩}:Nv).cells,aJ j [.int .i64 k],aJ y [.pointer (some ⟨b,0,none⟩)],aJ z (aK cJ (zT cJ)),own 1 q k d (az bb.1),aJ ao [Ai f j (false,2),Ai f j (false,3),Ai f j (false,4),Ai f j (false,5),Ai f j (false,6),Ai f j (false,7)]] R:=S;have S:=o;refine(qj ((S.into [0,1,2] [6] []).rowB 0) W w 0 (ts:=[(false,2),(false,3),(false,4),(false,5),(false,6),(false,7)]) (k:=6) rfl rfl (by decide) (by intro x r;simp at r;rcases r with rfl|rfl|rfl|rfl|rfl|rfl<;>exact OU rfl)).mono ?_;rintro _ _ ⟨rfl,e⟩;refine⟨rfl,?_⟩;replace S:=S.back [0,1,2] e
  try dsimp only[bY,List.set,Yg,Yh]at S
  have X:=iP W 6;generalize aj:fJ s 6 bb.2=cc at S X;have ay: ∃F G H I J K,cc.1=[F,G,H,I,J,K]:=by rw[←aj];exact⟨_,_,_,_,_,_,rfl⟩
  obtain⟨F,G,H,I,J,K,ec⟩:=ay;rw[ec]at S;have o:aG h T _ [rd b cc.2.at_ s cc.2.err,aJ f (⟨u,⟨q,k,d,[]⟩,F,G,H,I,J,K,Sl.nil,Sl.nil,0,0,0,0,0⟩:Nv).cells,aJ j [.int .i64 k],aJ y [.pointer (some ⟨b,0,none⟩)],aJ z (aK cJ (zT cJ)),own 1 q k d (az bb.1)] R:=S.pw [0,1,2,3,4,5];have S:=o;refine dZ (S.c 3) (dZ (S.c 3) ?_);refine(QO (S.into [0] [] []) X w).mono ?_;rintro _ _ ⟨p1,Q,L,rfl,ba,e⟩;refine⟨_,_,_,rfl,?_⟩;replace S:=S.back [0] e
  try dsimp only[bY,List.set,Yg,Yh]at S
  have Y:=oH X;generalize a1:rrow s cc.2=dd at S Y ba;refine aX (S.c 3) ?_;refine(QO (S.into [0] [] []) Y w).mono ?_;rintro _ _ ⟨p2,U,M,rfl,bd,e⟩;refine⟨_,_,_,rfl,?_⟩;replace S:=S.back [0] e
  try dsimp only[bY,List.set,Yg,Yh]at S
  have Z:=oH Y;generalize a2:rrow s dd.2=ee at S Z bd;refine aX (S.c 3) ?_;refine be S 1 rfl (k:=8) (OU rfl) fun g1 _ S=> ?_;refine aX (S.c 3) ?_;refine be S 1 rfl (k:=9) (OU rfl) fun g2 _ S=> ?_;refine dZ (S.c 3) ?_;refine(JP (S.into [0] [] []) Z w).mono ?_;rintro _ _ ⟨rfl,e⟩;refine⟨_,rfl,?_⟩;replace S:=S.back [0] e
  try dsimp only[bY,List.set,Yg,Yh]at S
  have aa:=bZ Z 2;generalize a3:rget s ee.2 2=ff at S aa;refine be S 1 rfl (k:=10) (OU rfl) fun g3 _ S=> ?_;refine dZ (S.c 3) ?_;refine aA S (fun ar _ _ S=> ?_);have o:aG h T _ [rd b ff.2.at_ s ff.2.err,aJ f (⟨u,⟨q,k,d,[]⟩,F,G,H,I,J,K,⟨p1,Q,L,[]⟩,⟨p2,U,M,[]⟩,ff.1,0,0,0,0⟩:Nv).cells,aJ j [.int .i64 k],aJ y [.pointer (some ⟨b,0,none⟩)],aJ z (aK cJ (zT cJ)),own 1 q k d (az bb.1),own 1 p1 Q L (az dd.1),own 1 p2 U M (az ee.1),aJ ar [Ai f j (false,11)]] R:=S;have S:=o;refine(qj ((S.into [0,1,2] [8] []).rowB 0) aa w 0 (ts:=[(false,11)]) (k:=1) rfl rfl (by decide) (by intro x r;simp at r;subst r;exact OU rfl)).mono ?_;rintro _ _ ⟨rfl,e⟩;refine⟨rfl,?_⟩;replace S:=S.back [0,1,2] e
  try dsimp only[bY,List.set,Yg,Yh]at S
  have ab:=bZ aa 1;have N:fJ s 1 ff.2=([(rget s ff.2 1).1],(rget s ff.2 1).2):=rfl;rw[N]at S;generalize a4:rget s ff.2 1=gg at S ab;refine dZ (S.c 3) (dZ (S.c 3) ?_);refine(yH (S.into [0] [] []) ab w).mono ?_;rintro _ _ ⟨rfl,e⟩;refine⟨_,rfl,?_⟩;replace S:=S.back [0] e
  try dsimp only[bY,List.set,Yg,Yh]at S
  have ad:=bZ ab 4;generalize a5:rget s gg.2 4=ii at S ad;refine aX (S.c 3) ?_;refine(yH (S.into [0] [] []) ad w).mono ?_;rintro _ _ ⟨rfl,e⟩;refine⟨_,rfl,?_⟩;replace S:=S.back [0] e
  try dsimp only[bY,List.set,Yg,Yh]at S
  have ag:=bZ ad 4;generalize a6:rget s ii.2 4=jj at S ag;refine aX (S.c 3) ?_;refine be S 1 rfl (k:=12) (OU rfl) fun g4 _ S=> ?_;refine aX (S.c 3) ?_;refine be S 1 rfl (k:=13) (OU rfl) fun g5 _ S=> ?_;refine dZ (S.c 3) ?_;refine aA S (fun aw _ _ S=> ?_);have o:aG h T _ [rd b jj.2.at_ s jj.2.err,aJ f (⟨u,⟨q,k,d,[]⟩,F,G,H,I,J,K,⟨p1,Q,L,[]⟩,⟨p2,U,M,[]⟩,ff.1,gg.1,iR ii.1,iR jj.1,0⟩:Nv).cells,aJ j [.int .i64 k],aJ y [.pointer (some ⟨b,0,none⟩)],aJ z (aK cJ (zT cJ)),own 1 q k d (az bb.1),own 1 p1 Q L (az dd.1),own 1 p2 U M (az ee.1),aJ aw [Ai f j (false,14)]] R:=S.pw [0,1,2,3,4,5,6,7,9];have S:=o;refine(qj ((S.into [0,1,2] [8] []).rowB 0) ag w 0 (ts:=[(false,14)]) (k:=1) rfl rfl (by decide) (by intro x r;simp at r;subst r;exact OU rfl)).mono ?_;rintro _ _ ⟨rfl,e⟩;refine⟨rfl,?_⟩;replace S:=S.back [0,1,2] e
  try dsimp only[bY,List.set,Yg,Yh]at S
  have bg:=bZ ag 1;have N:fJ s 1 jj.2=([(rget s jj.2 1).1],(rget s jj.2 1).2):=rfl;rw[N]at S;generalize a7:rget s jj.2 1=kk at S bg;have hd:iQ s t=(⟨u,bb.1,F,G,H,I,J,K,dd.1,ee.1,ff.1,gg.1,iR ii.1,iR jj.1,kk.1⟩,kk.2):=by
   unfold iQ;simp only[ai,ea,XO,XP,hC,a0,aj,ec,a1,a2,a3,a4,a5,a6,a7]
  rw[hd];have o:aG h T _ [rd b kk.2.at_ s kk.2.err,aJ f (⟨u,⟨q,k,d,bb.1⟩,F,G,H,I,J,K,⟨p1,Q,L,dd.1⟩,⟨p2,U,M,ee.1⟩,ff.1,gg.1,iR ii.1,iR jj.1,kk.1⟩:Nv).cells,aJ j [.int .i64 k],aJ y [.pointer (some ⟨b,0,none⟩)],aJ z (aK cJ (zT cJ)),own 1 q k d (az bb.1),own 1 p1 Q L (az dd.1),own 1 p2 U M (az ee.1)] R:=S.pw [0,1,2,3,4,5,6,7];generalize O:(⟨u,⟨q,k,d,bb.1⟩,F,G,H,I,J,K,⟨p1,Q,L,dd.1⟩,⟨p2,U,M,ee.1⟩,ff.1,gg.1,iR ii.1,iR jj.1,kk.1⟩:Nv)=E at o;have S:=o;refine aL S 1 rfl (x:=E.t) rfl ?_;refine bP S 4 rfl rfl (aW rfl) fun g6 _ S=> ?_;refine aL S 4 rfl (x:=E.t) rfl ?_;have o1:=jd (i:=5) S rfl;have o2:=jd (i:=6) S rfl;have o3:=jd (i:=7) S rfl;replace S:=own_row (i:=5) S rfl;replace S:=own_row (i:=6) S rfl;replace S:=own_row (i:=7) S rfl;refine⟨E,rfl,by rw[←O];exact⟨o1,o2,o3⟩,by rw[←O];rfl,?_⟩;have S3:=S.join [0] [5,6,7];rw[←O];exact S3
end
end
section
theorem Sq(s:List UInt8)(t:St):IntKind.wrap .i64 (rget s t 1).1=(rget s t 1).1:=by
 have:=cT s t 1;exact al (by omega)
theorem VG(s:List UInt8)(t:St):IntKind.wrap .i64 (rget s t 2).1=(rget s t 2).1:=by
 have:=cT s t 2;exact al (by omega)
section
variable {h:ah} {T:Nat→Prop} {R:List bc} {b:Nat} {s:List UInt8} {t:St}
set_option maxHeartbeats 2000000 in
theorem Sr(S:aG h T h [rf b t.at_ s t.err] R)(ht:t.ok s)(j:s.length<2 ^ 62):
 au P qF #[.pointer (some ⟨b,0,none⟩)] h fun v h'=> ∃z:Nv,v=z.v∧z.ok∧z.nd=(iQ s t).1∧aG h T h' [rf b (iQ s t).2.at_ s (iQ s t).2.err,z.rows] R:=by
 refine Bh _ ?_;refine aA S fun r h2 _ S=> ?_;refine(sD (n:=1) (S.into [0] [] []) ht j (by decide)).mono ?_;rintro _ _ ⟨rfl,e⟩;refine⟨_,rfl,?_⟩;replace S:=S.back [0] e
 try dsimp only[bY,List.set,Yg,Yh]at S
 have E:=bZ ht 1;dsimp only;rw[Sq];generalize ag:rget s t 1=a at S E;refine aA S fun u h6 _ S=> ?_;refine bP S 2 rfl rfl (show ∀y∈({Nv.zero with kind:=a.1}:Nv).cells,ib y=true from aW rfl) fun h7 _ S=> ?_;refine(sD (n:=1) (S.into [0] [] []) E j (by decide)).mono ?_;rintro _ _ ⟨rfl,e⟩;refine⟨_,rfl,?_⟩;replace S:=S.back [0] e
 try dsimp only[bY,List.set,Yg,Yh]at S
 have G:=bZ E 1;have hr:=cT s a.2 1;dsimp only;rw[Sq];generalize aj:rget s a.2 1=c at S G hr;obtain⟨w,Y⟩: ∃w:Nat,c.1=w:=⟨c.1.toNat,by omega⟩;rw[Y]at hr ⊢;have o:aG h T _ [rf b c.2.at_ s c.2.err,aJ r (aK cJ (zT cJ)),aJ u ({Nv.zero with kind:=a.1}:Nv).cells] R:=S.pw [0,1,2];have S:=(o.nil 1).pw [0,1,2,3]
 refine aO (fun m s' g=> ∃(i:Nat)(q:Option Addr)(k d:Nat),s'=(some ⟨b,0,none⟩,⟨r,0,none⟩,⟨u,0,none⟩,(w:Int),(i:Int),())∧i≤w∧m=w-i∧k=i∧
  aG h T g [rf b (fJ s i c.2).2.at_ s (fJ s i c.2).2.err,aJ r (aK cJ (zT cJ)),aJ u ({Nv.zero with kind:=a.1,inn:=⟨q,k,d,[]⟩}:Nv).cells,own 1 q k d (az (fJ s i c.2).1)] R) w ⟨0,none,0,0,rfl,by omega,rfl,rfl,S⟩ ?_
 rintro m s' g ⟨i,q,k,d,rfl,hi,rfl,rfl,S⟩;dsimp only;refine aq (fun a6=> ?_) (fun ab=> ?_)
 ·refine ak (p:=q) (l:=k) (c:=d) (S.c 2) ?_;refine(sD (n:=1) (S.into [0] [] []) (iP G k) j (by decide)).mono ?_;rintro _ _ ⟨rfl,e⟩;refine⟨_,rfl,?_⟩;replace S:=S.back [0] e
  try dsimp only[bY,List.set,Yg,Yh]at S
  refine aX (S.c 2) ?_;rw[Sq];refine aA S (fun a8 _ _ S=> ?_)
  try dsimp only[Yg,Yh]at S
  refine cI S 3 (ys:=az [(rget s (fJ s k c.2).2 1).1]) rfl rfl (by decide) (by omega) (bD.of_at (S.ap 4)) rfl dc fun p' l' c' h' a2 S=> ?_
  try dsimp only[List.set]at S
  refine be S 2 rfl (k:=1) (OU rfl) fun g' _ S=> ?_;rw[al (by omega)];refine⟨w-(k+1),by omega,k+1,p',l',c',rfl,by omega,rfl,a2,?_⟩;have ei:az (fJ s k c.2).1++az [(rget s (fJ s k c.2).2 1).1]=az (fJ s (k+1) c.2).1:=by simp[az,fJ]
  rw[ei]at S;exact S.pw [0,1,2,3]
 ·have a1:k=w:=by omega
  subst a1;have F:=iP G k;generalize ai:fJ s k c.2=bb at S F;refine aA S (fun C _ _ S=> ?_);have o:aG h T _ [rf b bb.2.at_ s bb.2.err,aJ r (aK cJ (zT cJ)),aJ u ({Nv.zero with kind:=a.1,inn:=⟨q,k,d,[]⟩}:Nv).cells,own 1 q k d (az bb.1),aJ C (az ((fJ s 0 bb.2).1++List.replicate (6-0) 0))] R:=S
  refine aO (fun m s' g=> ∃(i:Nat),s'=(some ⟨b,0,none⟩,⟨r,0,none⟩,⟨u,0,none⟩,⟨C,0,none⟩,(i:Int),())∧i≤6∧m=6-i∧
   aG h T g [rf b (fJ s i bb.2).2.at_ s (fJ s i bb.2).2.err,aJ r (aK cJ (zT cJ)),aJ u ({Nv.zero with kind:=a.1,inn:=⟨q,k,d,[]⟩}:Nv).cells,own 1 q k d (az bb.1),aJ C (az ((fJ s i bb.2).1++List.replicate (6-i) 0))] R) 6 ⟨0,rfl,by omega,rfl,o⟩ ?_
  rintro m s' g ⟨i,rfl,hi,rfl,S⟩;dsimp only;refine aq (fun a6=> ?_) (fun ab=> ?_)
  ·refine(sD (n:=1) (S.into [0] [] []) (iP F i) j (by decide)).mono ?_;rintro _ _ ⟨rfl,e⟩;refine⟨_,rfl,?_⟩;replace S:=S.back [0] e
   try dsimp only[bY,List.set,Yg,Yh]at S
   dsimp only;rw[Sq];refine fm (by omega) (by omega) ?_;simp only[hC,VO];rw[aR,SN];have a5:=nD s bb.2 i;refine be S 4 rfl (k:=i) (by rw[av,Tz,VQ];omega) fun g' _ S=> ?_;rw[al (by omega)];refine⟨6-(i+1),by omega,i+1,rfl,by omega,rfl,?_⟩;have ei:(az ((fJ s i bb.2).1++List.replicate (6-i) 0)).set i (.int .i64 (rget s (fJ s i bb.2).2 1).1)=az ((fJ s (i+1) bb.2).1++List.replicate (6-(i+1)) 0):=by
    have e6:6-i=(6-(i+1))+1:=by omega
    rw[e6,Wp];simp only[az,V2,Wc,WZ,fJ,VY,Yg,Yh];rw[List.set_append];simp[a5]
   rw[ei]at S;exact S
  ·have ad:i=6:=by omega
   subst ad;have H:=iP F 6;generalize Z:fJ s 6 bb.2=cc at S H;have aa: ∃O Q U V W X,cc.1=[O,Q,U,V,W,X]:=by rw[←Z];exact⟨_,_,_,_,_,_,rfl⟩
   obtain⟨O,Q,U,V,W,X,ec⟩:=aa;rw[ec]at S;refine fm (by decide) (by decide) (ae (n:=O) (S.c 4) ?_);refine be S 2 rfl (k:=2) (OU rfl) fun f _ S=> ?_;refine fm (by decide) (by decide) (ae (n:=Q) (S.c 4) ?_);refine be S 2 rfl (k:=3) (OU rfl) fun f _ S=> ?_;refine fm (by decide) (by decide) (ae (n:=U) (S.c 4) ?_);refine be S 2 rfl (k:=4) (OU rfl) fun f _ S=> ?_;refine fm (by decide) (by decide) (ae (n:=V) (S.c 4) ?_);refine be S 2 rfl (k:=5) (OU rfl) fun f _ S=> ?_;refine fm (by decide) (by decide) (ae (n:=W) (S.c 4) ?_);refine be S 2 rfl (k:=6) (OU rfl) fun f _ S=> ?_;refine fm (by decide) (by decide) (ae (n:=X) (S.c 4) ?_);refine be S 2 rfl (k:=7) (OU rfl) fun f _ S=> ?_;have o:aG h T _ [rf b cc.2.at_ s cc.2.err,aJ r (aK cJ (zT cJ)),aJ u (⟨a.1,⟨q,k,d,[]⟩,O,Q,U,V,W,X,Sl.nil,Sl.nil,0,0,0,0,0⟩:Nv).cells,own 1 q k d (az bb.1)] R:=S.pw [0,1,2,3];have S:=o;refine(QP (S.into [0] [] []) H j).mono ?_;rintro _ _ ⟨p1,l1,c1,rfl,a3,e⟩;refine⟨_,_,_,rfl,?_⟩;replace S:=S.back [0] e
   try dsimp only[bY,List.set,Yg,Yh]at S
   have I:=oH H;generalize an:rrow s cc.2=dd at S I a3;refine be S 2 rfl (k:=8) (OU rfl) fun g1 _ S=> ?_;refine(QP (S.into [0] [] []) I j).mono ?_;rintro _ _ ⟨p2,l2,c2,rfl,a4,e⟩;refine⟨_,_,_,rfl,?_⟩;replace S:=S.back [0] e
   try dsimp only[bY,List.set,Yg,Yh]at S
   have J:=oH I;generalize ao:rrow s dd.2=ee at S J a4;refine be S 2 rfl (k:=9) (OU rfl) fun g2 _ S=> ?_;refine(sD (n:=2) (S.into [0] [] []) J j (by decide)).mono ?_;rintro _ _ ⟨rfl,e⟩;refine⟨_,rfl,?_⟩;replace S:=S.back [0] e
   try dsimp only[bY,List.set,Yg,Yh]at S
   have K:=bZ J 2;dsimp only;rw[VG];generalize ar:rget s ee.2 2=ff at S K;refine be S 2 rfl (k:=10) (OU rfl) fun g3 _ S=> ?_;refine(sD (n:=1) (S.into [0] [] []) K j (by decide)).mono ?_;rintro _ _ ⟨rfl,e⟩;refine⟨_,rfl,?_⟩;replace S:=S.back [0] e
   try dsimp only[bY,List.set,Yg,Yh]at S
   have L:=bZ K 1;dsimp only;rw[Sq];generalize aw:rget s ff.2 1=gg at S L;refine be S 2 rfl (k:=11) (OU rfl) fun g3 _ S=> ?_;refine(yI (S.into [0] [] []) L j).mono ?_;rintro _ _ ⟨rfl,e⟩;refine⟨_,rfl,?_⟩;replace S:=S.back [0] e
   try dsimp only[bY,List.set,Yg,Yh]at S
   have M:=bZ L 4;generalize ax:rget s gg.2 4=ii at S M;refine be S 2 rfl (k:=12) (OU rfl) fun g3 _ S=> ?_;refine(yI (S.into [0] [] []) M j).mono ?_;rintro _ _ ⟨rfl,e⟩;refine⟨_,rfl,?_⟩;replace S:=S.back [0] e
   try dsimp only[bY,List.set,Yg,Yh]at S
   have N:=bZ M 4;generalize ay:rget s ii.2 4=jj at S N;refine be S 2 rfl (k:=13) (OU rfl) fun g3 _ S=> ?_;refine(sD (n:=1) (S.into [0] [] []) N j (by decide)).mono ?_;rintro _ _ ⟨rfl,e⟩;refine⟨_,rfl,?_⟩;replace S:=S.back [0] e
   try dsimp only[bY,List.set,Yg,Yh]at S
   have a7:=bZ N 1;dsimp only;rw[Sq];generalize a0:rget s jj.2 1=kk at S a7;refine be S 2 rfl (k:=14) (OU rfl) fun g3 _ S=> ?_;have hd:iQ s t=(⟨a.1,bb.1,O,Q,U,V,W,X,dd.1,ee.1,ff.1,gg.1,iR ii.1,iR jj.1,kk.1⟩,kk.2):=by
    have e2:fJ s 2 t=([a.1,c.1],c.2):=by simp[fJ,ag,aj]
    unfold iQ;simp only[e2,Y,XO,XP,hC,ai,Z,ec,an,ao,ar,aw,ax,ay,a0]
   rw[hd];have o:aG h T _ [rf b kk.2.at_ s kk.2.err,aJ r (aK cJ (zT cJ)),aJ u (⟨a.1,⟨q,k,d,bb.1⟩,O,Q,U,V,W,X,⟨p1,l1,c1,dd.1⟩,⟨p2,l2,c2,ee.1⟩,ff.1,gg.1,iR ii.1,iR jj.1,kk.1⟩:Nv).cells,own 1 q k d (az bb.1),own 1 p1 l1 c1 (az dd.1),own 1 p2 l2 c2 (az ee.1)] R:=S.pw [0,1,2,3,4,5];generalize D:(⟨a.1,⟨q,k,d,bb.1⟩,O,Q,U,V,W,X,⟨p1,l1,c1,dd.1⟩,⟨p2,l2,c2,ee.1⟩,ff.1,gg.1,iR ii.1,iR jj.1,kk.1⟩:Nv)=z at o;have S:=o;refine aL S 2 rfl (x:=z.t) rfl ?_;refine bP S 1 rfl rfl (aW rfl) fun g6 _ S=> ?_
   try dsimp only[List.set]at S
   refine aL S 1 rfl (x:=z.t) rfl ?_;have o1:=jd (i:=3) S rfl;have o2:=jd (i:=4) S rfl;have o3:=jd (i:=5) S rfl;replace S:=own_row (i:=3) S rfl;replace S:=own_row (i:=4) S rfl;replace S:=own_row (i:=5) S rfl;refine⟨z,rfl,by rw[←D];exact⟨o1,o2,o3⟩,by rw[←D];rfl,?_⟩;have S3:=S.join [0] [3,4,5];rw[←D];exact S3
end
end
section
def dn(s:List UInt8)(t:St):Nat→List Nd×St
 |0=>([],t)
 |n+1=>((dn s t n).1++[(iQ s (dn s t n).2).1],(iQ s (dn s t n).2).2)
theorem ky{s:List UInt8}{t:St}(h:t.ok s): ∀n,(dn s t n).2.ok s
 |0=>h
 |n+1=>QL (ky h n)
theorem pj(s:List UInt8)(t:St): ∀n,(dn s t n).1.length=n
 |0=>rfl
 |n+1=>by simp[dn,pj s t n]
def Gr.zero:Gr:=⟨0,0,0,[],0⟩
def dG(s:List UInt8):Gr×Int:=
 let a:=rget s ⟨0,0⟩ 1
 let b:=rget s a.2 4
 let c:=rget s b.2 4
 let d:=rget s c.2 1
 let e:=dn s d.2 d.1.toNat
 let f:=rget s e.2 1
 if f.2.err≠0 then(Gr.zero,11) else if(s.length:Int)-f.2.at_>0 then(Gr.zero,10) else(⟨a.1,iR b.1,iR c.1,e.1,f.1⟩,0)
def ki(s:List UInt8):Gr×Int:=if dV<+:s then dG (s.drop 4) else(Gr.zero,10)
def Gv.zero:Gv:=⟨0,0,0,none,0,0,0,[]⟩
def TJ(h:ah)(r:Gr×Int)(v:Value)(d:ah):Prop:=
 ∃a:Gv,v= .tuple #[a.v,.int .i64 r.2]∧a.ok∧a.gr=r.1∧aG h no d [own 15 a.p a.l a.c (aD a.ns),aM a.ns] []
instance (a b:List UInt8):Decidable (a<+:b):=decidable_of_iff (a.isPrefixOf b=true) (List.isPrefixOf_iff_prefix)
theorem JM{a b:List UInt8}:a<+:b↔b.take a.length=a:=by
 rw[List.prefix_iff_eq_take];exact eq_comm
section
variable {h:ah} {s:List UInt8}
theorem HK(a:List UInt8):au P dx #[.string (str s),.string (str a)] h fun v c=>v= .bool (decide (a<+:s))∧c=h:=by
 refine jk _ _ ?_;unfold gA;rw[cu,cu];refine aq (fun d=> ?_) (fun e=> ?_)
 ·refine iH rfl (by omega) ⟨?_,rfl⟩;rw[gJ,Ds];congr 1;rw[decide_eq_decide,JM,Xb,Nat.sub_zero]
 ·refine⟨?_,rfl⟩;rw[decide_eq_false];intro f;have:=f.length_le;omega
theorem HL(a:List UInt8):au P i6 #[.string (str s),.string (str a)] h fun v d=>v= .tuple #[.string (str (if a<+:s then s.drop a.length else s)),.bool (decide (a<+:s))]∧d=h:=by
 refine qR _ _ ?_;refine au.mono (K:=fun v d=>v= .tuple #[.string (str (if a<+:s then s.drop a.length else s)),.bool (decide (a<+:s))]∧d=h) ?_ ?_
 ·refine jl _ _ ?_;unfold gB;refine(HK a).mono ?_;rintro _ _ ⟨rfl,rfl⟩;refine⟨_,rfl,?_⟩;refine bJ (aq (fun c=> ?_) (fun c=> ?_))
  ·have:=c.length_le;refine iH (by rw[cu]) (by rw[cu];omega) ⟨?_,rfl⟩;rw[if_pos c,decide_eq_true c,gJ,cu,py (by rw[Wh];omega)]
  ·refine⟨?_,rfl⟩;rw[if_neg c,decide_eq_false c]
 ·rintro _ _ ⟨rfl,rfl⟩;exact⟨_,_,rfl,rfl,rfl⟩
end
section
variable {h:ah} {s:List UInt8}
theorem rI{g:ah}{T:Nat→Prop}{R:List bc}{b1:Nat}{r:Gr×Int}{W:List bc}{n:Int}(S:aG h no g (aJ b1 (aK bz (zT bz))::W) R)(d:r=(Gr.zero,n)):
 aZ [.int .i64 0,.int .i64 0,.int .i64 0,.slice none 0 0,.int .i64 0] g ⟨b1,0,none⟩ 0 fun a=>aT bz a ⟨b1,0,none⟩ fun c=>TJ h r (.tuple #[bA bz c,.int .i64 n]) a:=by
 refine bP S 0 rfl rfl (show ∀y∈Gv.zero.cells,ib y=true from aW rfl) fun f _ S=> ?_;refine aL S 0 rfl (x:=Gv.zero.t) rfl ?_;refine⟨Gv.zero,by rw[d],⟨rfl,VX _,fun n e=>(by cases e)⟩,by rw[d];rfl,?_⟩;have S3:=(((S.pick [] []).nil 15)).reads0;exact S3
set_option maxHeartbeats 2000000 in
theorem Et(hs:s.length<2 ^ 62):au P mK #[.string (str s)] h (TJ h (ki s)):=by
 refine xK _ ?_;have S:=aG.start h no;refine aA S fun L h2 _ S=> ?_;have em:(ByteArray.mk #[69,65,82,49])=str dV:=rfl;rw[em];refine(HL dV).mono ?_;rintro _ _ ⟨rfl,rfl⟩;refine⟨_,_,rfl,?_⟩;refine bJ (aq (fun X=> ?_) (fun X=>rI (T:=no) S (by unfold ki;rw[if_neg X])));rw[if_pos X];have aa:ki s=dG (s.drop 4):=by unfold ki;rw[if_pos X]
 rw[aa];have aw:dV.length=4:=rfl;rw[aw];have o:(s.drop 4).length<2 ^ 62:=by rw[Wh];omega
 generalize s.drop 4=u at o;refine(TK u).mono ?_;rintro _ _ ⟨v,rfl,r⟩;refine⟨_,rfl,?_⟩;replace S:=S.add r fun _ _ h=>h;refine aA S (fun i _ _ S=> ?_);refine be S 2 rfl (k:=0) (OU rfl) fun a1 _ S=> ?_;refine aA S fun j a2 _ S=> ?_;refine dZ (S.c 2) ?_;refine aA S (fun Y _ _ S=> ?_);have okz:St.ok u ⟨0,0⟩:=⟨WV _,.inl rfl⟩;have C:aG h no _ [rd v (⟨0,0⟩:St).at_ u (⟨0,0⟩:St).err,aJ j Gv.zero.cells,aJ i [.pointer (some ⟨v,0,none⟩)],aJ L (aK bz (zT bz)),aJ Y [Ai j i (false,0)]] []:=S.pw [1,3,2,0,4];have S:=C;refine(qj ((S.into [0,1,2] [4] []).rowB 0) okz o 0 (ts:=[(false,0)]) (k:=1) rfl rfl (by decide) (by intro x O;simp at O;subst O;exact OU rfl)).mono ?_;rintro _ _ ⟨rfl,r⟩;refine⟨rfl,?_⟩;replace S:=S.back [0,1,2] r
 try dsimp only[bY,List.set,Yg,Yh]at S
 have D:fJ u 1 ⟨0,0⟩=([(rget u ⟨0,0⟩ 1).1],(rget u ⟨0,0⟩ 1).2):=rfl;rw[D]at S;have G:=bZ okz 1;generalize ag:rget u ⟨0,0⟩ 1=a at S G;refine dZ (S.c 2) (dZ (S.c 2) ?_);refine(yH (S.into [0] [] []) G o).mono ?_;rintro _ _ ⟨rfl,r⟩;refine⟨_,rfl,?_⟩;replace S:=S.back [0] r
 try dsimp only[bY,List.set,Yg,Yh]at S
 have H:=bZ G 4;generalize ai:rget u a.2 4=b at S H;refine aX (S.c 2) ?_;refine(yH (S.into [0] [] []) H o).mono ?_;rintro _ _ ⟨rfl,r⟩;refine⟨_,rfl,?_⟩;replace S:=S.back [0] r
 try dsimp only[bY,List.set,Yg,Yh]at S
 have I:=bZ H 4;generalize aj:rget u b.2 4=c at S I;refine aX (S.c 2) ?_;refine be S 1 rfl (k:=1) (OU rfl) fun g1 _ S=> ?_;refine aX (S.c 2) ?_;refine be S 1 rfl (k:=2) (OU rfl) fun g2 _ S=> ?_;refine dZ (S.c 2) ?_;refine(HM (S.into [0] [] []) I o).mono ?_;rintro _ _ ⟨rfl,r⟩;refine⟨_,rfl,?_⟩;replace S:=S.back [0] r
 try dsimp only[bY,List.set,Yg,Yh]at S
 have J:=bZ I 1;have hr:=cT u c.2 1;generalize an:rget u c.2 1=d at S J hr;obtain⟨z,M⟩: ∃z:Nat,d.1=z:=⟨d.1.toNat,by omega⟩;rw[M]at hr ⊢;have C:aG h no _ [rd v d.2.at_ u d.2.err,aJ j (⟨a.1,iR b.1,iR c.1,none,0,0,0,[]⟩:Gv).cells,aJ i [.pointer (some ⟨v,0,none⟩)],aJ L (aK bz (zT bz))] []:=S.pw [0,1,2,3];have S:=((C.nil 15).reads0).pw [0,1,2,3,4,5]
 refine aO (fun m s' g=> ∃(q:Option Addr)(k w:Nat)(ns:List Nv),s'=(⟨L,0,none⟩,⟨i,0,none⟩,⟨j,0,none⟩,(z:Int),(k:Int),())∧k≤z∧m=z-k∧ns.length=k∧(∀n∈ns,n.ok)∧ns.map Nv.nd=(dn u d.2 k).1∧
  aG h no g [rd v (dn u d.2 k).2.at_ u (dn u d.2 k).2.err,aJ j (⟨a.1,iR b.1,iR c.1,q,k,w,0,[]⟩:Gv).cells,aJ i [.pointer (some ⟨v,0,none⟩)],aJ L (aK bz (zT bz)),own 15 q k w (aD ns),aM ns] []) z
  ⟨none,0,0,[],rfl,WV _,rfl,rfl,(fun n y=>by cases y),rfl,S⟩ ?_
 rintro m s' g ⟨q,k,w,ns,rfl,hk,rfl,ax,Q,F,S⟩;dsimp only;refine aq (fun a5=> ?_) (fun a3=> ?_)
 ·refine ak (p:=q) (l:=k) (c:=w) (S.c 1) (dZ (S.c 2) ?_);refine(So (S.into [0] [] []) (ky J k) o).mono ?_;rintro _ g2 ⟨U,rfl,V,ay,r⟩;replace S:=S.back [0] r;refine fy U.t ⟨rfl,?_⟩;refine aX (S.c 1) ?_;refine aA S fun a0 h3 _ S=> ?_;refine cI S 4 (ys:=U.cells) rfl rfl (by decide) (by omega) (bD.of_at (S.ap 7)) rfl (aW rfl) fun q' k' d2 h4 ab S=> ?_;refine be S 1 rfl (k:=3) (OU rfl) fun h5 _ S=> ?_;rw[al (by omega)];have S3:=S.joinR [0,1,2,3,4] 5 6 rfl rfl;dsimp only[Sh.pick,List.getElem?_cons_zero,List.getElem?_cons_succ,Yg,Yh]at S3;have ad:k'=k+1:=ab;subst ad;refine⟨z-(k+1),by omega,q',k+1,d2,ns++[U],rfl,by omega,rfl,by simp;omega,?_,?_,?_⟩
  ·intro n y;rcases VW.1 y with y|y
   ·exact Q n y
   ·simp only[VK]at y;subst y;exact V
  ·rw[V2,F,Wc,WZ,ay];rfl
  ·have e1:aD (ns++[U])=aD ns++U.cells:=by rw[fK];simp[aD]
   rw[e1,mA];exact S3
 ·have ar:k=z:=by omega
  have eu:dn u d.2 d.1.toNat=dn u d.2 k:=by rw[M,ar,hC]
  have K:=ky J k;generalize a4:dn u d.2 k=e at S K eu F;refine dZ (S.c 2) ?_;refine aA S (fun Z _ _ S=> ?_);have C:aG h no _ [rd v e.2.at_ u e.2.err,aJ j (⟨a.1,iR b.1,iR c.1,q,k,w,0,[]⟩:Gv).cells,aJ i [.pointer (some ⟨v,0,none⟩)],aJ L (aK bz (zT bz)),own 15 q k w (aD ns),aM ns,aJ Z [Ai j i (false,4)]] []:=S;have S:=C;refine(qj ((S.into [0,1,2] [6] []).rowB 0) K o 0 (ts:=[(false,4)]) (k:=1) rfl rfl (by decide) (by intro x O;simp at O;subst O;exact OU rfl)).mono ?_;rintro _ _ ⟨rfl,r⟩;refine⟨rfl,?_⟩;replace S:=S.back [0,1,2] r
  try dsimp only[bY,List.set,Yg,Yh]at S
  have D:fJ u 1 e.2=([(rget u e.2 1).1],(rget u e.2 1).2):=rfl;rw[D]at S;have W:=bZ K 1;generalize ao:rget u e.2 1=f at S W;have hd:dG u=if f.2.err≠0 then(Gr.zero,11) else if(u.length:Int)-f.2.at_>0 then(Gr.zero,10) else(⟨a.1,iR b.1,iR c.1,e.1,f.1⟩,0):=by
   unfold dG;simp only[ag,ai,aj,an,eu,ao]
  have C:aG h no _ [aJ L (aK bz (zT bz)),rd v f.2.at_ u f.2.err,aJ j (⟨a.1,iR b.1,iR c.1,q,k,w,f.1,ns⟩:Gv).cells,aJ i [.pointer (some ⟨v,0,none⟩)],own 15 q k w (aD ns),aM ns] []:=S.pw [3,0,1,2,4,5];have S:=C;refine dZ (S.c 3) ?_;refine(MN (x:=f.2.err) (S.c 1)).mono ?_;rintro _ _ ⟨rfl,rfl⟩;refine⟨_,rfl,?_⟩;refine bh (fun he=>rI (T:=no) S (by rw[hd,if_pos he])) (fun he=> ?_);refine dZ (S.c 3) ?_;refine(JN (S.ap 1) W o).mono ?_;rintro _ _ ⟨rfl,rfl⟩;refine⟨_,rfl,?_⟩;refine aq (fun hl=>rI (T:=no) S (by rw[hd,if_neg (by omega),if_pos hl])) (fun hl=> ?_);have N:dG u=(⟨a.1,iR b.1,iR c.1,e.1,f.1⟩,0):=by rw[hd,if_neg (by omega),if_neg hl]
  generalize E:(⟨a.1,iR b.1,iR c.1,q,k,w,f.1,ns⟩:Gv)=gv at S;refine aL S 2 rfl (x:=gv.t) rfl ?_;refine bP S 0 rfl rfl (aW rfl) fun g6 _ S=> ?_;refine aL S 0 rfl (x:=gv.t) rfl ?_;refine⟨gv,by rw[N],?_,by rw[N,←E,←F];rfl,?_⟩
  ·rw[←E];exact⟨ax,(S.ow 4).2.1,Q⟩
  ·rw[←E];exact S.pick [4,5] []
set_option maxHeartbeats 2000000 in
theorem Aj(hs:s.length<2 ^ 62):au P mN #[.string (str s)] h (TJ h (ki s)):=by
 refine xC _ ?_;have S:=aG.start h no;refine aA S fun z h2 _ S=> ?_;have em:(ByteArray.mk #[69,65,82,49])=str dV:=rfl;have O:dV.length=4:=rfl;refine⟨fun X g=>X=(str s,⟨z,0,none⟩,())∧dV<+:s∧aG h no g [aJ z (aK bz (zT bz))] [],?_,?_⟩
 ·clear S;rintro X g ⟨rfl,v,S⟩;have aw:=v.length_le;rw[O]at aw;refine iH (n:=4) rfl (by rw[cu];omega) ?_;rw[gJ,cu,py (by rw[Wh];omega)];have Z:ki s=dG (s.drop 4):=by unfold ki;rw[if_pos v]
  rw[Z];have i:(s.drop 4).length<2 ^ 62:=by rw[Wh];omega
  generalize s.drop 4=u at i;refine(Ss u).mono ?_;rintro _ _ ⟨L,rfl,j⟩;refine⟨_,rfl,?_⟩;replace S:=S.add j fun _ _ h=>h;have okz:St.ok u ⟨0,0⟩:=⟨WV _,.inl rfl⟩;have K:aG h no _ [rf L (⟨0,0⟩:St).at_ u (⟨0,0⟩:St).err,aJ z (aK bz (zT bz))] []:=S.pw [1,0];have S:=K;refine(sD (n:=1) (S.into [0] [] []) okz i (by decide)).mono ?_;rintro _ _ ⟨rfl,j⟩;refine⟨_,rfl,?_⟩;replace S:=S.back [0] j
  try dsimp only[bY,List.set,Yg,Yh]at S
  have F:=bZ okz 1;dsimp only;rw[Sq];generalize ag:rget u ⟨0,0⟩ 1=a at S F;refine aA S fun o a2 _ S=> ?_;refine bP S 2 rfl rfl (show ∀y∈({Gv.zero with width:=a.1}:Gv).cells,ib y=true from aW rfl) fun a3 _ S=> ?_;refine(yI (S.into [0] [] []) F i).mono ?_;rintro _ _ ⟨rfl,j⟩;refine⟨_,rfl,?_⟩;replace S:=S.back [0] j
  try dsimp only[bY,List.set,Yg,Yh]at S
  have G:=bZ F 4;generalize ai:rget u a.2 4=b at S G;refine be S 2 rfl (k:=1) (OU rfl) fun g1 _ S=> ?_;refine(yI (S.into [0] [] []) G i).mono ?_;rintro _ _ ⟨rfl,j⟩;refine⟨_,rfl,?_⟩;replace S:=S.back [0] j
  try dsimp only[bY,List.set,Yg,Yh]at S
  have H:=bZ G 4;generalize aj:rget u b.2 4=c at S H;refine be S 2 rfl (k:=2) (OU rfl) fun g2 _ S=> ?_;refine(sD (n:=1) (S.into [0] [] []) H i (by decide)).mono ?_;rintro _ _ ⟨rfl,j⟩;refine⟨_,rfl,?_⟩;replace S:=S.back [0] j
  try dsimp only[bY,List.set,Yg,Yh]at S
  have I:=bZ H 1;have hr:=cT u c.2 1;dsimp only;rw[Sq];generalize an:rget u c.2 1=d at S I hr;obtain⟨w,M⟩: ∃w:Nat,d.1=w:=⟨d.1.toNat,by omega⟩;rw[M]at hr ⊢;have K:aG h no _ [rf L d.2.at_ u d.2.err,aJ o (⟨a.1,iR b.1,iR c.1,none,0,0,0,[]⟩:Gv).cells,aJ z (aK bz (zT bz))] []:=S.pw [0,2,1];have S:=((K.nil 15).reads0).pw [0,1,2,3,4]
  refine aO (fun m X g=> ∃(q:Option Addr)(k C:Nat)(ns:List Nv),X=(⟨z,0,none⟩,some ⟨L,0,none⟩,⟨o,0,none⟩,(w:Int),(k:Int),())∧k≤w∧m=w-k∧ns.length=k∧(∀n∈ns,n.ok)∧ns.map Nv.nd=(dn u d.2 k).1∧
   aG h no g [rf L (dn u d.2 k).2.at_ u (dn u d.2 k).2.err,aJ o (⟨a.1,iR b.1,iR c.1,q,k,C,0,[]⟩:Gv).cells,aJ z (aK bz (zT bz)),own 15 q k C (aD ns),aM ns] []) w
   ⟨none,0,0,[],rfl,WV _,rfl,rfl,(fun n r=>by cases r),rfl,S⟩ ?_
  rintro m X g ⟨q,k,C,ns,rfl,hk,rfl,ay,Q,E,S⟩;dsimp only;refine aq (fun ax=> ?_) (fun aa=> ?_)
  ·refine ak (p:=q) (l:=k) (c:=C) (S.c 1) ?_;refine(Sr (S.into [0] [] []) (ky I k) i).mono ?_;rintro _ g2 ⟨U,rfl,V,a0,j⟩;replace S:=S.back [0] j;refine fy U.t ⟨rfl,?_⟩;refine aX (S.c 1) ?_;refine aA S fun a1 h3 _ S=> ?_;refine cI S 3 (ys:=U.cells) rfl rfl (by decide) (by omega) (bD.of_at (S.ap 6)) rfl (aW rfl) fun q' k' d2 h4 ab S=> ?_;refine be S 1 rfl (k:=3) (OU rfl) fun h5 _ S=> ?_;rw[al (by omega)];have S3:=S.joinR [0,1,2,3] 4 5 rfl rfl;dsimp only[Sh.pick,List.getElem?_cons_zero,List.getElem?_cons_succ,Yg,Yh]at S3;have ad:k'=k+1:=ab;subst ad;refine⟨w-(k+1),by omega,q',k+1,d2,ns++[U],rfl,by omega,rfl,by simp;omega,?_,?_,?_⟩
   ·intro n r;rcases VW.1 r with r|r
    ·exact Q n r
    ·simp only[VK]at r;subst r;exact V
   ·rw[V2,E,Wc,WZ,a0];rfl
   ·have e1:aD (ns++[U])=aD ns++U.cells:=by rw[fK];simp[aD]
    rw[e1,mA];exact S3
  ·have ar:k=w:=by omega
   have eu:dn u d.2 d.1.toNat=dn u d.2 k:=by rw[M,ar,hC]
   have J:=ky I k;generalize a4:dn u d.2 k=e at S J eu E;refine(sD (n:=1) (S.into [0] [] []) J i (by decide)).mono ?_;rintro _ _ ⟨rfl,j⟩;refine⟨_,rfl,?_⟩;replace S:=S.back [0] j
   try dsimp only[bY,List.set,Yg,Yh]at S
   have W:=bZ J 1;dsimp only;rw[Sq];generalize ao:rget u e.2 1=f at S W;have Y:dG u=if f.2.err≠0 then(Gr.zero,11) else if(u.length:Int)-f.2.at_>0 then(Gr.zero,10) else(⟨a.1,iR b.1,iR c.1,e.1,f.1⟩,0):=by
    unfold dG;simp only[ag,ai,aj,an,eu,ao]
   refine be S 1 rfl (k:=4) (OU rfl) fun g3 _ S=> ?_;have K:aG h no _ [aJ z (aK bz (zT bz)),rf L f.2.at_ u f.2.err,aJ o (⟨a.1,iR b.1,iR c.1,q,k,C,f.1,ns⟩:Gv).cells,own 15 q k C (aD ns),aM ns] []:=S.pw [2,0,1,3,4];have S:=K;refine bx (ae (n:=f.2.err) (S.c 1) ?_);refine bh (fun he=>rI (T:=no) S (by rw[Y,if_pos he])) (fun he=> ?_);refine(JO (S.ap 1) W i).mono ?_;rintro _ _ ⟨rfl,rfl⟩;refine⟨_,rfl,?_⟩;refine aq (fun hl=>rI (T:=no) S (by rw[Y,if_neg (by omega),if_pos hl])) (fun hl=> ?_);have N:dG u=(⟨a.1,iR b.1,iR c.1,e.1,f.1⟩,0):=by rw[Y,if_neg (by omega),if_neg hl]
   generalize D:(⟨a.1,iR b.1,iR c.1,q,k,C,f.1,ns⟩:Gv)=gv at S;refine aL S 2 rfl (x:=gv.t) rfl ?_;refine bP S 0 rfl rfl (aW rfl) fun g6 _ S=> ?_;refine aL S 0 rfl (x:=gv.t) rfl ?_;refine⟨gv,by rw[N],?_,by rw[N,←D,←E];rfl,?_⟩
   ·rw[←D];exact⟨ay,(S.ow 3).2.1,Q⟩
   ·rw[←D];exact S.pick [3,4] []
 ·rw[cu];refine aq (fun ax=>rI (T:=no) S ?_) (fun aa=> ?_)
  ·unfold ki;rw[if_neg];intro v;have:=v.length_le;rw[O]at this;omega
  ·refine iH (n:=4) rfl (by omega) ?_;rw[gJ,em,Ds,Xb];have ep:(s.take (4-0)=dV)↔dV<+:s:=by rw[JM];exact Iff.rfl
   refine bJ (aq (fun v=>⟨rfl,ep.1 v,S⟩) (fun v=>rI (T:=no) S ?_));unfold ki;rw[if_neg (fun h=>v (ep.2 h))]
