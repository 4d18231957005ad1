/- CTapeX CTapeX2 CNode, in one text. -/
import Derived.Test.YtdhpmegbmjoekaaGreatDoorGen
import Derived.Test.YtdhpmegbmjoekaaGreatDoorShN
section
namespace Go.Proofs.YtdhpmegbmjoekaaGreatDoor.G
open Go Go.Sh
set_option linter.unusedVariables false
abbrev wx (b:Nat) (n:Int) (p:Option Addr) (l c:Nat) (r:List Value):bi:=blk b (.int .i64 n:: .slice p l c::r)
theorem JY {h:ae} {T:Nat→Prop} {b:Nat} {cs:List Value} {R:List bi} {x:Int} (n:Int) (S:aK h T h [blk b cs] R) (hc:cs[0]? =some (.int .i64 x)):
 aq P fk #[.pointer (some ⟨b,0,none⟩),.int .i64 n] h fun v h'=>v= .tuple #[]∧aK h T h' [blk b (cs.set 0 (.int .i64 (IntKind.wrap .i64 (x+n))))] R:=by
 refine r8 _ _ ?_
 unfold pr
 refine bK (af (S.cell 0 rfl hc) (bK ?_))
 exact aJ S 0 rfl (List.getElem?_eq_some_iff.1 hc).1 fun h' _ S=>⟨rfl,S⟩
theorem JZ {h:ae} {b:Nat} {x:Int} (hc:aD h ⟨b,0,none⟩=some (.int .i64 x)):aq P fF #[.pointer (some ⟨b,0,none⟩)] h fun v h'=>v= .int .i64 x∧h'=h:=by
 refine sW _ ?_
 unfold rE
 exact bK (af hc ⟨rfl,rfl⟩)
theorem QB {h:ae} {T:Nat→Prop} {b:Nat} {n:Int} {r:List Value} {p:Option Addr} {l c:Nat} {bs:List UInt8} {x:Int} {k:Nat} (S:aK h T h [wx b n p l c r,own 1 p l c (DX bs)] [])
 (hx:0≤x) (hk:k≤8) (hl:l<2 ^ 40) (hn:0≤n∧n<2 ^ 62):aq P dz #[.pointer (some ⟨b,0,none⟩),.int .u64 x,.int .i64 k] h fun v h'=>
  v= .tuple #[]∧ ∃p' c',aK h T h' [wx b (n+k) p' (l+k) c' r,own 1 p' (l+k) c' (DX (bs++low x k))] []:=by
 refine sy _ _ _ ?_
 unfold qW
 refine bQ rfl ?_
 refine aT (fun m s g=> ∃(i:Nat) (q:Option Addr) (e:Nat),s=(some ⟨b,0,none⟩,x / 256 ^ i,(k:Int),(k:Int),(i:Int),())∧i≤k∧m=k-i∧aK h T g [wx b n q (l+i) e r,own 1 q (l+i) e (DX (bs++low x i))] [])
  k ⟨0,p,c,by simp,by omega,rfl,by simpa[low] using S⟩ ?_
 rintro m s g ⟨i,q,e,rfl,hi,rfl,S⟩
 unfold mR
 dsimp only
 refine au (fun hlt=> ?_) (fun hge=> ?_)
 ·(repeat (first|with_reducible refine bK ?_|((with_reducible refine bZ ?_);refine am (S.cell 0 rfl rfl) ?_)))
  refine aC S (fun b4 _ _ S=> ?_)
  refine dI S 1 (ys:=DX [kX (x / 256 ^ i)]) rfl rfl (by decide) (by omega) (bT.of_at (by have:=S.at 2 rfl;rw[Gi,←kY] at this;exact this)) rfl (Oz _) fun p' l' c' h' hl' S=> ?_
  rw[←Jd,List.append_assoc,←C6] at S
  (repeat (first|with_reducible refine bK ?_|((with_reducible refine tw ?_);refine aJ S 0 rfl (Nat.le_of_ble_eq_true rfl) (fun _ _ S=> ?_);try dsimp only[List.set,List.cons_append,List.nil_append] at S)))
  rw[al (by omega)]
  subst hl'
  refine⟨k-(i+1),by omega,i+1,p',c',?_,by omega,rfl,S.pick [0,1] []⟩
  rw[Li,←xR]
  rfl
 ·have hik:i=k:=by omega
  subst hik
  (repeat (first|with_reducible refine bK ?_))
  refine(JY (x:=n) _ (S.into [0] [] []) rfl).mono ?_
  rintro _ _ ⟨rfl,S1⟩
  replace S:=S.back [0] S1
  refine⟨rfl,rfl,q,e,?_⟩
  rw[al (by omega)] at S
  exact S
def EH (T:Nat→Prop) (b:Nat) (n:Int) (l:Nat) (r:List Value) (bs new:List UInt8) (h h':ae):Prop:=
 ∃p' c',aK h T h' [wx b (n+new.length) p' (l+new.length) c' r,own 1 p' (l+new.length) c' (DX (bs++new))] []
section
variable {h:ae} {T:Nat→Prop} {b:Nat} {n:Int} {r:List Value} {p:Option Addr} {l c:Nat} {bs:List UInt8}
theorem Mo {x:Int} {k:Nat} (S:aK h T h [wx b n p l c r,own 1 p l c (DX bs)] []) (hx:0≤x) (hk:k≤8) (hl:l<2 ^ 40) (hn:0≤n∧n<2 ^ 62):
 aq P dz #[.pointer (some ⟨b,0,none⟩),.int .u64 x,.int .i64 k] h fun v h'=>v= .tuple #[]∧EH T b n l r bs (low x k) h h':=
 (QB S hx hk hl hn).mono fun v h' ⟨hv,p',c',S⟩=>⟨hv,p',c',by rw[bS];exact S⟩
theorem FT (x:Int):0≤IntKind.wrap .u64 x:=by rw[gU];exact Int.emod_nonneg _ (by decide)
theorem PO (x:Int) (S:aK h T h [wx b n p l c r,own 1 p l c (DX bs)] []) (hl:l<2 ^ 40) (hn:0≤n∧n<2 ^ 62):
 aq P fm #[.pointer (some ⟨b,0,none⟩),.int .i64 x] h fun v h'=>v= .tuple #[]∧EH T b n l r bs (low (IntKind.wrap .u64 x) 1) h h':=by
 refine rT _ _ ?_
 unfold pd
 refine(Mo (k:=1) S (FT x) (by decide) hl hn).mono ?_
 rintro _ _ ⟨rfl,H⟩
 exact⟨rfl,rfl,H⟩
theorem J0 (x:Int) (S:aK h T h [wx b n p l c r,own 1 p l c (DX bs)] []) (hl:l<2 ^ 40) (hn:0≤n∧n<2 ^ 62):
 aq P dB #[.pointer (some ⟨b,0,none⟩),.int .i64 x] h fun v h'=>v= .tuple #[]∧EH T b n l r bs (low (IntKind.wrap .u64 x) 2) h h':=by
 refine qj _ _ ?_
 unfold nP
 refine(Mo (k:=2) S (FT x) (by decide) hl hn).mono ?_
 rintro _ _ ⟨rfl,H⟩
 exact⟨rfl,rfl,H⟩
theorem Mp (x:Int) (S:aK h T h [wx b n p l c r,own 1 p l c (DX bs)] []) (hl:l<2 ^ 40) (hn:0≤n∧n<2 ^ 62):
 aq P dH #[.pointer (some ⟨b,0,none⟩),.int .i64 x] h fun v h'=>v= .tuple #[]∧EH T b n l r bs (low (IntKind.wrap .u64 x) 4) h h':=by
 refine rU _ _ ?_
 unfold pg
 refine(Mo (k:=4) S (FT x) (by decide) hl hn).mono ?_
 rintro _ _ ⟨rfl,H⟩
 exact⟨rfl,rfl,H⟩
end
def words (xs:List Int):List UInt8:=xs.flatMap fun x=>low (IntKind.wrap .u64 x) 4
theorem cn (xs:List Int):(words xs).length=4*xs.length:=by
 induction xs with
 |nil=>rfl
 |cons x u ih=>simp only[words,List.flatMap_cons,List.length_append,bS,List.length_cons] at *;omega
theorem vB {xs:List Int} {i:Nat} (hi:i<xs.length):words (xs.take (i+1))=words (xs.take i)++low (IntKind.wrap .u64 xs[i]) 4:=by
 rw[List.take_succ_eq_append_getElem hi]
 unfold words
 rw[List.flatMap_append];simp only[List.flatMap_cons,List.flatMap_nil,List.append_nil]
def rowB (xs:List Int):List UInt8:=if xs.length>65535 then[] else low (IntKind.wrap .u64 xs.length) 2++words xs
theorem sr (xs:List Int):(rowB xs).length≤2+4*xs.length:=by
 unfold rowB
 split
 ·simp
 ·simp[bS,cn]
theorem QC {h:ae} {T:Nat→Prop} {b:Nat} {n:Int} {r:List Value} {p q:Option Addr} {l c k d:Nat} {bs:List UInt8} {xs:List Int} (S:aK h T h [wx b n p l c r,own 1 p l c (DX bs)] [row q (az xs)]) (hxs:xs.length=k)
 (hl:l<2 ^ 39) (hn:0≤n∧n<2 ^ 61):aq P fN #[.pointer (some ⟨b,0,none⟩),.slice q k d] h fun v h'=>v= .tuple #[]∧EH T b n l r bs (rowB xs) h h':=by
 refine sC _ _ _ _ ?_
 unfold qX
 refine au (fun hgt=> ?_) (fun hle=> ?_)
 ·refine⟨rfl,p,c,?_⟩
  have:rowB xs=[]:=by unfold rowB;rw[if_pos (by omega)]
  rw[this,List.append_nil]
  exact(Int.add_zero n).symm▸S.pick [0,1] []
 ·refine(J0 (k:Int) (S.into [0,1] [] []) (by omega) (by omega)).mono ?_
  rintro _ h1 ⟨rfl,p1,c1,S1⟩
  refine⟨rfl,?_⟩
  rw[bS] at S1
  replace S:=S.back [0,1] S1
  refine aT (fun m s g=> ∃(i:Nat) (p':Option Addr) (c':Nat),s=(some ⟨b,0,none⟩,(q,k,d),(k:Int),(i:Int),())∧i≤k∧m=k-i∧
   aK h T g [wx b (n+(2+4*i:Nat)) p' (l+(2+4*i)) c' r,own 1 p' (l+(2+4*i)) c' (DX (bs++(low (IntKind.wrap .u64 k) 2++words (xs.take i))))] [row q (az xs)]) k
   ⟨0,p1,c1,rfl,by omega,rfl,by simp[words];exact S⟩ ?_
  rintro m s g ⟨i,p',c',rfl,hi,rfl,S⟩
  unfold mU
  dsimp only
  refine au (fun hlt=> ?_) (fun hge=> ?_)
  ·have hlt':i<xs.length:=by omega
   obtain⟨a,rfl⟩:=(S.row 0 rfl).some_of (by rw[aB];omega)
   refine aG rfl rfl (by omega) ?_
   simp only[Int.toNat_natCast,Nat.mul_one]
   refine af ((S.row 0 rfl).cell (aN (List.getElem?_eq_getElem hlt'))) ?_
   refine(Mp xs[i] (S.into [0,1] [] []) (by omega) (by omega)).mono ?_
   rintro _ h2 ⟨rfl,p2,c2,S1⟩
   refine⟨rfl,?_⟩
   rw[bS] at S1
   replace S:=S.back [0,1] S1
   rw[al (by omega)]
   refine⟨k-(i+1),by omega,i+1,p2,c2,rfl,by omega,rfl,?_⟩
   rw[vB hlt',←List.append_assoc,←List.append_assoc]
   have e1:n+((2+4*(i+1):Nat):Int)=n+((2+4*i:Nat):Int)+((4:Nat):Int):=by omega
   have e2:l+(2+4*(i+1))=l+(2+4*i)+4:=by omega
   rw[e1,e2]
   rw[←List.append_assoc] at S
   exact S
  ·have hik:i=k:=by omega
   refine⟨rfl,p',c',?_⟩
   have e:rowB xs=low (IntKind.wrap .u64 k) 2++words (xs.take i):=by
    unfold rowB;rw[if_neg (by omega),hxs,List.take_of_length_le (by omega)]
   rw[e,List.length_append,bS,cn,List.length_take,Nat.min_eq_left (by omega)]
   exact S.pick [0,1] []
end Go.Proofs.YtdhpmegbmjoekaaGreatDoor.G
end
section
namespace Go.Proofs.YtdhpmegbmjoekaaGreatDoor.G
open Go Go.Sh
set_option linter.unusedVariables false
theorem Om {h0 h:ae} {T:Nat→Prop} {b:Nat} {n:Int} {r:List Value} {p:Option Addr} {l c:Nat} {bs:List UInt8} {R:List bi} (S:aK h0 T h [wx b n p l c r,own 1 p l c (DX bs)] R):
 aq P gH #[.pointer (some ⟨b,0,none⟩)] h fun v h'=>v= .string (str bs)∧h'=h:=by
 refine rY _ ?_
 unfold pj
 refine bQ rfl ?_
 (repeat (first|with_reducible refine bK ?_|((with_reducible refine bZ ?_);refine am (S.cell 0 rfl rfl) ?_)))
 have o:=S.own 1 rfl
 exact Jf o.row (by have:=o.1;rw[C3] at this;omega) ⟨_,rfl,rfl,rfl⟩
theorem EI {h:ae} {x:Int} {n:Nat} (hx:0≤x∧x<2 ^ 64) (hn:n<2 ^ 30):aq P jf #[.int .u64 x,.int .i64 n] h fun v h'=>v= .string (str (low x n))∧cu no h h':=by
 refine yC _ _ ?_
 unfold zG
 have S:=aK.start h no
 refine aT (fun m s g=> ∃i:Nat,s=(x / 256 ^ i,(n:Int),str (low x i),(i:Int),())∧i≤n∧m=n-i∧aK h no g [] []) n ⟨0,by simp[low];rfl,by omega,rfl,S⟩ ?_
 rintro m s g ⟨i,rfl,hi,rfl,S⟩
 unfold sE
 dsimp only
 refine au (fun hlt=> ?_) (fun hge=> ?_)
 ·refine aC S (fun b2 _ _ S=> ?_)
  refine Jf (bs:=[kX (x / 256 ^ i)]) (bT.of_at (by have:=S.at 0 rfl;rw[Gi,←kY] at this;exact this)) rfl ⟨_,rfl,?_⟩
  refine kK (by rw[cE,cE,bS,List.length_singleton];omega) ?_
  rw[jF,←C6,al (by omega)]
  refine⟨n-(i+1),by omega,i+1,?_,by omega,rfl,S.pick [] []⟩
  have hp:(0:Int)<256 ^ i:=Int.pow_pos (by decide)
  have h0:0≤x / 256 ^ i:=Int.ediv_nonneg hx.1 (by omega)
  have h1:x / 256 ^ i≤x:=Int.ediv_le_self _ hx.1
  have h2:0≤x / 256 ^ i / 256:=Int.ediv_nonneg h0 (by decide)
  rw[Int.tdiv_eq_ediv_of_nonneg h0,gU,Int.emod_eq_of_lt h2 (by omega),xR]
  rfl
 ·have hin:i=n:=by omega
  subst hin
  exact⟨rfl,S.fra⟩
theorem su (x:Int):0≤IntKind.wrap .u64 x∧IntKind.wrap .u64 x<2 ^ 64:=by
 rw[gU];omega
end Go.Proofs.YtdhpmegbmjoekaaGreatDoor.G
end
section
namespace Go.Proofs.YtdhpmegbmjoekaaGreatDoor.G
open Go Go.Sh
set_option linter.unusedVariables false
structure Sl where
 p:Option Addr
 l:Nat
 c:Nat
 xs:List Int
def Sl.ok (s:Sl):Prop:=s.xs.length=s.l∧s.l≤s.c
def Sl.row (s:Sl):bi:=Sh.row s.p (az s.xs)
def Sl.nil:Sl:=⟨none,0,0,[]⟩
abbrev Sl.v (s:Sl):Value:= .slice s.p s.l s.c
abbrev da:List Sc:=[.int .i64,.slice,.int .i64,.int .i64,.int .i64,.int .i64,.int .i64,.int .i64,.slice,.slice,.int .i64,.int .i64,.int .i64,.int .i64,.int .i64]
structure Nv where
 kind:Int
 inn:Sl
 width:Int
 size:Int
 step:Int
 gap:Int
 left:Int
 right:Int
 weights:Sl
 bias:Sl
 mult:Int
 shift:Int
 low:Int
 high:Int
 post:Int
def Nv.t (n:Nv):TS da:=(n.kind,(n.inn.p,n.inn.l,n.inn.c),n.width,n.size,n.step,n.gap,n.left,n.right,(n.weights.p,n.weights.l,n.weights.c),(n.bias.p,n.bias.l,n.bias.c),n.mult,n.shift,n.low,n.high,n.post,())
def Nv.cells (n:Nv):List Value:=aP da n.t
theorem Nv.cells_length (n:Nv):n.cells.length=15:=rfl
abbrev Nv.v (n:Nv):Value:=bz da n.t
def Nv.ok (n:Nv):Prop:=n.inn.ok∧n.weights.ok∧n.bias.ok
def Nv.rows (n:Nv):bi:=cA [n.inn.row,n.weights.row,n.bias.row]
structure Nd where
 kind:Int
 inn:List Int
 width:Int
 size:Int
 step:Int
 gap:Int
 left:Int
 right:Int
 weights:List Int
 bias:List Int
 mult:Int
 shift:Int
 low:Int
 high:Int
 post:Int
def Nv.nd (n:Nv):Nd:=⟨n.kind,n.inn.xs,n.width,n.size,n.step,n.gap,n.left,n.right,n.weights.xs,n.bias.xs,n.mult,n.shift,n.low,n.high,n.post⟩
theorem Nd.ext' {a b:Nd} (h1:a.kind=b.kind) (h2:a.inn=b.inn) (h3:a.width=b.width) (h4:a.size=b.size) (h5:a.step=b.step) (h6:a.gap=b.gap) (h7:a.left=b.left) (h8:a.right=b.right) (h9:a.weights=b.weights)
 (h10:a.bias=b.bias) (h11:a.mult=b.mult) (h12:a.shift=b.shift) (h13:a.low=b.low) (h14:a.high=b.high) (h15:a.post=b.post):a=b:=by
 cases a;cases b;simp_all
structure Gv where
 width:Int
 low:Int
 high:Int
 p:Option Addr
 l:Nat
 c:Nat
 out:Int
 ns:List Nv
abbrev bP:List Sc:=[.int .i64,.int .i64,.int .i64,.slice,.int .i64]
def Gv.t (g:Gv):TS bP:=(g.width,g.low,g.high,(g.p,g.l,g.c),g.out,())
def Gv.cells (g:Gv):List Value:=aP bP g.t
abbrev Gv.v (g:Gv):Value:=bz bP g.t
def aF (ns:List Nv):List Value:=(ns.map Nv.cells).flatten
theorem bY (ns:List Nv):(aF ns).length=ns.length*15:=pL Nv.cells 15 Nv.cells_length ns
theorem jX (a b:List Nv):aF (a++b)=aF a++aF b:=by simp[aF]
theorem mN {ns:List Nv} {i j:Nat} {n:Nv} (h:ns[i]? =some n) (hj:j<15):(aF ns)[i*15+j]? =n.cells[j]? :=ue Nv.cells 15 Nv.cells_length ns i j n h hj
def Gv.nrow (g:Gv):bi:=Sh.row g.p (aF g.ns)
def aZ (ns:List Nv):bi:=cA (ns.map Nv.rows)
def Gv.ok (g:Gv):Prop:=g.ns.length=g.l∧g.l≤g.c∧ ∀n∈g.ns,n.ok
structure Gr where
 width:Int
 low:Int
 high:Int
 nodes:List Nd
 out:Int
def Gv.gr (g:Gv):Gr:=⟨g.width,g.low,g.high,g.ns.map Nv.nd,g.out⟩
theorem kD {h:ae} {a:Addr} {ns:List Nv} {i:Nat} {n:Nv} {K:TS da→Prop} (r:bT h (some a) (aF ns)) (hn:ns[i]? =some n) (H:K n.t):aX da h (Addr.add a (i*15)) K:=by
 refine Gk (x:=n.t) (fun j v hv=> ?_) H
 have hj:j<15:=by have:=(List.getElem?_eq_some_iff.1 hv).1;rw[Km] at this;exact this
 have hc:=r.cell (i:=i*15+j) (v:=v) (by rw[mN hn hj];exact hv)
 by_cases h0:j=0
 ·subst h0;exact hc
 ·rw[ug _ _ h0];exact hc
theorem gO {l:List Int}: ∀y∈az l,mC y=true:=by
 intro y hy;simp only[az,List.mem_map] at hy;obtain⟨n,_,rfl⟩:=hy;rfl
def Mq (x:Int):List UInt8:=low (IntKind.wrap .u64 x) 1
def dg (xs:List Int):List UInt8:=xs.flatMap Mq
theorem II (x:Int):(Mq x).length=1:=bS _ _
theorem bI (xs:List Int):(dg xs).length=xs.length:=by
 induction xs with
 |nil=>rfl
 |cons x r ih=>rw[dg,List.flatMap_cons,List.length_append,II,List.length_cons];unfold dg at ih;omega
theorem EJ {xs:List Int} {i:Nat} (hi:i<xs.length):dg (xs.take (i+1))=dg (xs.take i)++Mq xs[i]:=by
 rw[List.take_succ_eq_append_getElem hi];unfold dg
 rw[List.flatMap_append];simp only[List.flatMap_cons,List.flatMap_nil,List.append_nil]
def bo (lo hi:Int) (xs:List Int):Prop:= ∀x∈xs,lo≤x∧x≤hi
instance (lo hi:Int) (xs:List Int):Decidable (bo lo hi xs):=by unfold bo;infer_instance
theorem cD (lo hi:Int):bo lo hi []:=fun x hx=>by cases hx
theorem bV {lo hi x:Int} {xs:List Int}:bo lo hi (x::xs)↔(lo≤x∧x≤hi)∧bo lo hi xs:=by unfold bo;simp
theorem iu {lo hi:Int} {xs:List Int} {i:Nat} (hi':i<xs.length):bo lo hi (xs.take (i+1))↔bo lo hi (xs.take i)∧(lo≤xs[i]∧xs[i]≤hi):=by
 rw[List.take_succ_eq_append_getElem hi']
 unfold bo
 constructor
 ·intro h;exact⟨fun x hx=>h x (List.mem_append_left _ hx),h _ (List.mem_append_right _ (by simp))⟩
 ·rintro⟨h1,h2⟩ x hx
  rcases List.mem_append.1 hx with hx|hx
  ·exact h1 x hx
  ·simp only[List.mem_singleton] at hx;subst hx;exact h2
abbrev fz:Int:= -2147483648
abbrev fD:Int:=2147483647
def Nd.enc (n:Nd):List UInt8:=
 dg [n.kind,n.inn.length]++dg n.inn++dg [n.width,n.size,n.step,n.gap,n.left,n.right]++rowB n.weights++rowB n.bias++Sh.low (IntKind.wrap .u64 n.mult) 2++dg [n.shift]++words [n.low,n.high]++dg [n.post]
def Nd.fit (n:Nd):Prop:=
 bo 0 255 [n.kind,n.inn.length]∧bo 0 255 n.inn∧bo 0 255 [n.width,n.size,n.step,n.gap,n.left,n.right]∧(n.weights.length≤65535∧bo fz fD n.weights)∧(n.bias.length≤65535∧bo fz fD n.bias)∧
  bo 0 65535 [n.mult]∧bo 0 255 [n.shift]∧bo fz fD [n.low,n.high]∧bo 0 255 [n.post]
instance (n:Nd):Decidable n.fit:=by unfold Nd.fit;infer_instance
theorem Nd.enc_length (n:Nd):n.enc.length≤26+n.inn.length+4*n.weights.length+4*n.bias.length:=by
 have h1:=sr n.weights
 have h2:=sr n.bias
 simp only[Nd.enc,List.length_append,bI,bS,cn,List.length_cons,List.length_nil]
 omega
def Gr.enc (g:Gr):List UInt8:=dg [g.width]++words [g.low,g.high]++dg [(g.nodes.length:Int)]++g.nodes.flatMap Nd.enc++dg [g.out]
def Gr.fit (g:Gr):Prop:=bo 0 255 [g.width]∧bo fz fD [g.low,g.high]∧bo 0 255 [(g.nodes.length:Int)]∧(∀n∈g.nodes,n.fit)∧bo 0 255 [g.out]
instance (g:Gr):Decidable g.fit:=by unfold Gr.fit;infer_instance
def fi:List UInt8:=[69,65,82,49]
def Gr.out2 (g:Gr):List UInt8×Int:=if g.fit then(fi++g.enc,0) else([],22)
def Nd.short (n:Nd):Prop:=n.inn.length≤2 ^ 20∧n.weights.length≤2 ^ 20∧n.bias.length≤2 ^ 20
def Gr.short (g:Gr):Prop:=g.nodes.length≤1000∧ ∀n∈g.nodes,n.short
theorem nN: ∀(l:List Nd),(∀n∈l,n.short)→(l.flatMap Nd.enc).length≤l.length*2 ^ 24
 |[],_=>by simp
 |n::r,h=>by
  have h1:=nN r fun x hx=>h x (by simp[hx])
  have h2:=n.enc_length
  have h3:=h n (by simp)
  unfold Nd.short at h3
  simp only[List.flatMap_cons,List.length_append,List.length_cons,Nat.add_mul]
  omega
end Go.Proofs.YtdhpmegbmjoekaaGreatDoor.G
end
