/- CTapeX CTapeX2 CNode, in one text. -/
import Derived.Test.YtdhpmegbmjoekaaGreatDoorGen
import Derived.Test.YtdhpmegbmjoekaaGreatDoorShN
set_option linter.unusedSimpArgs false
set_option linter.unusedVariables false
namespace Go.Proofs.YtdhpmegbmjoekaaGreatDoor.G
open Go Go.Sh
section
abbrev wx (b:Nat) (n:Int) (p:Option Addr) (l c:Nat) (r:List Value):aY:=blk b (.int .i64 n:: .slice p l c::r)
theorem LV {h:af} {T:Nat→Prop} {b:Nat} {cs:List Value} {R:List aY} {x:Int} (n:Int) (S:aJ h T h [blk b cs] R) (d:cs[0]? =some (.int .i64 x)):
 au P gO #[.pointer (some ⟨b,0,none⟩),.int .i64 n] h fun v a=>v= .tuple #[]∧aJ h T a [blk b (cs.set 0 (.int .i64 (IntKind.wrap .i64 (x+n))))] R:=by
 refine tF _ _ ?_;unfold pZ;refine bz (ae (S.cell 0 rfl d) (bz ?_));exact aE S 0 rfl (Pt.1 d).1 fun a _ S=>⟨rfl,S⟩
theorem LW {h:af} {b:Nat} {x:Int} (d:aD h ⟨b,0,none⟩=some (.int .i64 x)):au P iC #[.pointer (some ⟨b,0,none⟩)] h fun v a=>v= .int .i64 x∧a=h:=by
 refine uP _ ?_;unfold sX;exact bz (ae d ⟨rfl,rfl⟩)
theorem SM {h:af} {T:Nat→Prop} {b:Nat} {n:Int} {r:List Value} {p:Option Addr} {l c:Nat} {bs:List UInt8} {x:Int} {k:Nat} (S:aJ h T h [wx b n p l c r,own 1 p l c (FM bs)] [])
 (C:0≤x) (z:k≤8) (A:l<2 ^ 40) (B:0≤n∧n<2 ^ 62):au P ed #[.pointer (some ⟨b,0,none⟩),.int .u64 x,.int .i64 k] h fun v o=>
  v= .tuple #[]∧ ∃d a,aJ h T o [wx b (n+k) d (l+k) a r,own 1 d (l+k) a (FM (bs++low x k))] []:=by
 refine u7 _ _ _ ?_;unfold tj;refine bQ rfl ?_;refine aP (fun m s g=> ∃(i:Nat) (q:Option Addr) (e:Nat),s=(some ⟨b,0,none⟩,x / 256 ^ i,(k:Int),(k:Int),(i:Int),())∧i≤k∧m=k-i∧aJ h T g [wx b n q (l+i) e r,own 1 q (l+i) e (FM (bs++low x i))] [])
  k ⟨0,p,c,by simp,by omega,rfl,by simpa[low] using S⟩ ?_
 rintro m s g ⟨i,q,e,rfl,hi,rfl,S⟩;unfold nF;dsimp only;refine am (fun w=> ?_) (fun u=> ?_)
 ·(repeat (first|with_reducible refine bz ?_|((with_reducible refine cg ?_);refine ak (S.cell 0 rfl rfl) ?_)));refine aA S (fun y _ _ S=> ?_);refine cK S 1 (ys:=FM [vK (x / 256 ^ i)]) rfl rfl (by decide) (by omega) (bI.of_at (by have:=S.at 2 rfl;rw[Mb,←pF] at this;exact this)) rfl (QA _) fun d D a o j S=> ?_;rw[←KU,U6,←EM] at S
  (repeat (first|with_reducible refine bz ?_|((with_reducible refine nL ?_);refine aE S 0 rfl (jb rfl) (fun _ _ S=> ?_);try dsimp only[List.set,Xi,Xj] at S)));rw[al (by omega)];subst j;refine⟨k-(i+1),by omega,i+1,d,a,?_,by omega,rfl,S.pick [0,1] []⟩;rw[M6,←zQ];rfl
 ·have f:i=k:=by omega
  subst f
  (repeat (first|with_reducible refine bz ?_));refine(LV (x:=n) _ (S.into [0] [] []) rfl).mono ?_;rintro _ _ ⟨rfl,t⟩;replace S:=S.back [0] t;refine⟨rfl,rfl,q,e,?_⟩;rw[al (by omega)] at S;exact S
def Gh (T:Nat→Prop) (b:Nat) (n:Int) (l:Nat) (r:List Value) (bs new:List UInt8) (h e:af):Prop:=
 ∃d a,aJ h T e [wx b (n+new.length) d (l+new.length) a r,own 1 d (l+new.length) a (FM (bs++new))] []
section
variable {h:af} {T:Nat→Prop} {b:Nat} {n:Int} {r:List Value} {p:Option Addr} {l c:Nat} {bs:List UInt8}
theorem Ol {x:Int} {k:Nat} (S:aJ h T h [wx b n p l c r,own 1 p l c (FM bs)] []) (j:0≤x) (e:k≤8) (f:l<2 ^ 40) (g:0≤n∧n<2 ^ 62):
 au P ed #[.pointer (some ⟨b,0,none⟩),.int .u64 x,.int .i64 k] h fun v a=>v= .tuple #[]∧Gh T b n l r bs (low x k) h a:=
 (SM S j e f g).mono fun v a ⟨i,m,d,S⟩=>⟨i,m,d,by rw[ce];exact S⟩
theorem HI (x:Int):0≤IntKind.wrap .u64 x:=by rw[hZ];exact Wx _ (by decide)
theorem RX (x:Int) (S:aJ h T h [wx b n p l c r,own 1 p l c (FM bs)] []) (d:l<2 ^ 40) (e:0≤n∧n<2 ^ 62):
 au P gR #[.pointer (some ⟨b,0,none⟩),.int .i64 x] h fun v a=>v= .tuple #[]∧Gh T b n l r bs (low (IntKind.wrap .u64 x) 1) h a:=by
 refine tI _ _ ?_;unfold qp;refine(Ol (k:=1) S (HI x) (by decide) d e).mono ?_;rintro _ _ ⟨rfl,H⟩;exact⟨rfl,rfl,H⟩
theorem LX (x:Int) (S:aJ h T h [wx b n p l c r,own 1 p l c (FM bs)] []) (d:l<2 ^ 40) (e:0≤n∧n<2 ^ 62):
 au P eM #[.pointer (some ⟨b,0,none⟩),.int .i64 x] h fun v a=>v= .tuple #[]∧Gh T b n l r bs (low (IntKind.wrap .u64 x) 2) h a:=by
 refine qR _ _ ?_;unfold om;refine(Ol (k:=2) S (HI x) (by decide) d e).mono ?_;rintro _ _ ⟨rfl,H⟩;exact⟨rfl,rfl,H⟩
theorem Om (x:Int) (S:aJ h T h [wx b n p l c r,own 1 p l c (FM bs)] []) (d:l<2 ^ 40) (e:0≤n∧n<2 ^ 62):
 au P fD #[.pointer (some ⟨b,0,none⟩),.int .i64 x] h fun v a=>v= .tuple #[]∧Gh T b n l r bs (low (IntKind.wrap .u64 x) 4) h a:=by
 refine tz _ _ ?_;unfold pM;refine(Ol (k:=4) S (HI x) (by decide) d e).mono ?_;rintro _ _ ⟨rfl,H⟩;exact⟨rfl,rfl,H⟩
end
def words (xs:List Int):List UInt8:=xs.flatMap fun x=>low (IntKind.wrap .u64 x) 4
theorem cM (xs:List Int):(words xs).length=4*xs.length:=by
 induction xs with
 |nil=>rfl
 |cons x u a=>simp only[words,VA,Rb,ce,UY] at *;omega
theorem xF {xs:List Int} {i:Nat} (hi:i<xs.length):words (xs.take (i+1))=words (xs.take i)++low (IntKind.wrap .u64 xs[i]) 4:=by
 rw[py hi];unfold words;rw[WB];simp only[VA,Wz,Vh]
def rowB (xs:List Int):List UInt8:=if xs.length>65535 then[] else low (IntKind.wrap .u64 xs.length) 2++words xs
theorem tP (xs:List Int):(rowB xs).length≤2+4*xs.length:=by
 unfold rowB;split
 ·simp
 ·simp[ce,cM]
theorem SN {h:af} {T:Nat→Prop} {b:Nat} {n:Int} {r:List Value} {p q:Option Addr} {l c k d:Nat} {bs:List UInt8} {xs:List Int} (S:aJ h T h [wx b n p l c r,own 1 p l c (FM bs)] [row q (az xs)]) (u:xs.length=k)
 (K:l<2 ^ 39) (L:0≤n∧n<2 ^ 61):au P iG #[.pointer (some ⟨b,0,none⟩),.slice q k d] h fun v A=>v= .tuple #[]∧Gh T b n l r bs (rowB xs) h A:=by
 refine tS _ _ _ _ ?_;unfold sv;refine am (fun C=> ?_) (fun E=> ?_)
 ·refine⟨rfl,p,c,?_⟩;have:rowB xs=[]:=by unfold rowB;rw[if_pos (by omega)]
  rw[this,Vh];exact(Int.add_zero n).symm▸S.pick [0,1] []
 ·refine(LX (k:Int) (S.into [0,1] [] []) (by omega) (by omega)).mono ?_;rintro _ I ⟨rfl,G,w,j⟩;refine⟨rfl,?_⟩;rw[ce] at j;replace S:=S.back [0,1] j
  refine aP (fun m s g=> ∃(i:Nat) (t:Option Addr) (o:Nat),s=(some ⟨b,0,none⟩,(q,k,d),(k:Int),(i:Int),())∧i≤k∧m=k-i∧
   aJ h T g [wx b (n+(2+4*i:Nat)) t (l+(2+4*i)) o r,own 1 t (l+(2+4*i)) o (FM (bs++(low (IntKind.wrap .u64 k) 2++words (xs.take i))))] [row q (az xs)]) k
   ⟨0,G,w,rfl,by omega,rfl,by simp[words];exact S⟩ ?_
  rintro m s g ⟨i,t,o,rfl,hi,rfl,S⟩;unfold mY;dsimp only;refine am (fun F=> ?_) (fun B=> ?_)
  ·have f:i<xs.length:=by omega
   obtain⟨a,rfl⟩:=(S.row 0 rfl).some_of (by rw[av];omega);refine aB rfl rfl (by omega) ?_;simp only[oe,US];refine ae ((S.row 0 rfl).cell (aI (aO f))) ?_;refine(Om xs[i] (S.into [0,1] [] []) (by omega) (by omega)).mono ?_;rintro _ J ⟨rfl,H,x,j⟩;refine⟨rfl,?_⟩;rw[ce] at j;replace S:=S.back [0,1] j;rw[al (by omega)];refine⟨k-(i+1),by omega,i+1,H,x,rfl,by omega,rfl,?_⟩;rw[xF f,←U6,←U6];have y:n+((2+4*(i+1):Nat):Int)=n+((2+4*i:Nat):Int)+((4:Nat):Int):=by omega
   have z:l+(2+4*(i+1))=l+(2+4*i)+4:=by omega
   rw[y,z];rw[←U6] at S;exact S
  ·have D:i=k:=by omega
   refine⟨rfl,t,o,?_⟩;have e:rowB xs=low (IntKind.wrap .u64 k) 2++words (xs.take i):=by
    unfold rowB;rw[if_neg (by omega),u,N6 (by omega)]
   rw[e,Rb,ce,cM,U0,VY (by omega)];exact S.pick [0,1] []
end
section
theorem Qp {h0 h:af} {T:Nat→Prop} {b:Nat} {n:Int} {r:List Value} {p:Option Addr} {l c:Nat} {bs:List UInt8} {R:List aY} (S:aJ h0 T h [wx b n p l c r,own 1 p l c (FM bs)] R):
 au P jM #[.pointer (some ⟨b,0,none⟩)] h fun v a=>v= .string (str bs)∧a=h:=by
 refine tA _ ?_;unfold pO;refine bQ rfl ?_
 (repeat (first|with_reducible refine bz ?_|((with_reducible refine cg ?_);refine ak (S.cell 0 rfl rfl) ?_)));have o:=S.own 1 rfl;exact OV o.row (by have:=o.1;rw[EJ] at this;omega) ⟨_,rfl,rfl,rfl⟩
theorem Gi {h:af} {x:Int} {n:Nat} (d:0≤x∧x<2 ^ 64) (t:n<2 ^ 30):au P kU #[.int .u64 x,.int .i64 n] h fun v e=>v= .string (str (low x n))∧cp no h e:=by
 refine Am _ _ ?_;unfold Bo;have S:=aJ.start h no;refine aP (fun m s g=> ∃i:Nat,s=(x / 256 ^ i,(n:Int),str (low x i),(i:Int),())∧i≤n∧m=n-i∧aJ h no g [] []) n ⟨0,by simp[low];rfl,by omega,rfl,S⟩ ?_;rintro m s g ⟨i,rfl,hi,rfl,S⟩;unfold tU;dsimp only;refine am (fun k=> ?_) (fun j=> ?_)
 ·refine aA S (fun o _ _ S=> ?_);refine OV (bs:=[vK (x / 256 ^ i)]) (bI.of_at (by have:=S.at 0 rfl;rw[Mb,←pF] at this;exact this)) rfl ⟨_,rfl,?_⟩;refine vJ (by rw[da,da,ce,Wo];omega) ?_;rw[rV,←EM,al (by omega)];refine⟨n-(i+1),by omega,i+1,?_,by omega,rfl,S.pick [] []⟩;have u:(0:Int)<256 ^ i:=WQ (by decide);have h0:0≤x / 256 ^ i:=W4 d.1 (by omega);have q:x / 256 ^ i≤x:=Int.ediv_le_self _ d.1;have f:0≤x / 256 ^ i / 256:=W4 h0 (by decide);rw[WN h0,hZ,V9 f (by omega),zQ];rfl
 ·have a:i=n:=by omega
  subst a;exact⟨rfl,S.fra⟩
theorem tQ (x:Int):0≤IntKind.wrap .u64 x∧IntKind.wrap .u64 x<2 ^ 64:=by
 rw[hZ];omega
end
section
structure Sl where
 p:Option Addr
 l:Nat
 c:Nat
 xs:List Int
def Sl.ok (s:Sl):Prop:=s.xs.length=s.l∧s.l≤s.c
def Sl.row (s:Sl):aY:=Sh.row s.p (az s.xs)
def Sl.nil:Sl:=⟨none,0,0,[]⟩
abbrev Sl.v (s:Sl):Value:= .slice s.p s.l s.c
abbrev cS:List Sc:=[.int .i64,.slice,.int .i64,.int .i64,.int .i64,.int .i64,.int .i64,.int .i64,.slice,.slice,.int .i64,.int .i64,.int .i64,.int .i64,.int .i64]
structure Nv where
 kind:Int
 inn:Sl
 width:Int
 size:Int
 step:Int
 gap:Int
 left:Int
 right:Int
 weights:Sl
 bias:Sl
 mult:Int
 shift:Int
 low:Int
 high:Int
 post:Int
def Nv.t (n:Nv):TS cS:=(n.kind,(n.inn.p,n.inn.l,n.inn.c),n.width,n.size,n.step,n.gap,n.left,n.right,(n.weights.p,n.weights.l,n.weights.c),(n.bias.p,n.bias.l,n.bias.c),n.mult,n.shift,n.low,n.high,n.post,())
def Nv.cells (n:Nv):List Value:=aL cS n.t
theorem Nv.cells_length (n:Nv):n.cells.length=15:=rfl
abbrev Nv.v (n:Nv):Value:=bB cS n.t
def Nv.ok (n:Nv):Prop:=n.inn.ok∧n.weights.ok∧n.bias.ok
def Nv.rows (n:Nv):aY:=bP [n.inn.row,n.weights.row,n.bias.row]
structure Nd where
 kind:Int
 inn:List Int
 width:Int
 size:Int
 step:Int
 gap:Int
 left:Int
 right:Int
 weights:List Int
 bias:List Int
 mult:Int
 shift:Int
 low:Int
 high:Int
 post:Int
def Nv.nd (n:Nv):Nd:=⟨n.kind,n.inn.xs,n.width,n.size,n.step,n.gap,n.left,n.right,n.weights.xs,n.bias.xs,n.mult,n.shift,n.low,n.high,n.post⟩
theorem Nd.ext' {a b:Nd} (k:a.kind=b.kind) (m:a.inn=b.inn) (o:a.width=b.width) (q:a.size=b.size) (s:a.step=b.step) (t:a.gap=b.gap) (u:a.left=b.left) (v:a.right=b.right) (w:a.weights=b.weights)
 (d:a.bias=b.bias) (e:a.mult=b.mult) (f:a.shift=b.shift) (g:a.low=b.low) (i:a.high=b.high) (j:a.post=b.post):a=b:=by
 cases a;cases b;simp_all
structure Gv where
 width:Int
 low:Int
 high:Int
 p:Option Addr
 l:Nat
 c:Nat
 out:Int
 ns:List Nv
abbrev bT:List Sc:=[.int .i64,.int .i64,.int .i64,.slice,.int .i64]
def Gv.t (g:Gv):TS bT:=(g.width,g.low,g.high,(g.p,g.l,g.c),g.out,())
def Gv.cells (g:Gv):List Value:=aL bT g.t
abbrev Gv.v (g:Gv):Value:=bB bT g.t
def aF (ns:List Nv):List Value:=(ns.map Nv.cells).flatten
theorem bW (ns:List Nv):(aF ns).length=ns.length*15:=qA Nv.cells 15 Nv.cells_length ns
theorem iZ (a b:List Nv):aF (a++b)=aF a++aF b:=by simp[aF]
theorem lm {ns:List Nv} {i j:Nat} {n:Nv} (h:ns[i]? =some n) (a:j<15):(aF ns)[i*15+j]? =n.cells[j]? :=vM Nv.cells 15 Nv.cells_length ns i j n h a
def Gv.nrow (g:Gv):aY:=Sh.row g.p (aF g.ns)
def aU (ns:List Nv):aY:=bP (ns.map Nv.rows)
def Gv.ok (g:Gv):Prop:=g.ns.length=g.l∧g.l≤g.c∧ ∀n∈g.ns,n.ok
structure Gr where
 width:Int
 low:Int
 high:Int
 nodes:List Nd
 out:Int
def Gv.gr (g:Gv):Gr:=⟨g.width,g.low,g.high,g.ns.map Nv.nd,g.out⟩
theorem jd {h:af} {a:Addr} {ns:List Nv} {i:Nat} {n:Nv} {K:TS cS→Prop} (r:bI h (some a) (aF ns)) (g:ns[i]? =some n) (H:K n.t):aT cS h (Addr.add a (i*15)) K:=by
 refine H2 (x:=n.t) (fun j v e=> ?_) H;have f:j<15:=by have:=(Pt.1 e).1;rw[Md] at this;exact this
 have d:=r.cell (i:=i*15+j) (v:=v) (by rw[lm g f];exact e);by_cases h0:j=0
 ·subst h0;exact d
 ·rw[rW _ _ h0];exact d
theorem cX {l:List Int}: ∀y∈az l,lK y=true:=by
 intro y a;simp only[az,U5] at a;obtain⟨n,_,rfl⟩:=a;rfl
def Qq (x:Int):List UInt8:=low (IntKind.wrap .u64 x) 1
def dw (xs:List Int):List UInt8:=xs.flatMap Qq
theorem Ku (x:Int):(Qq x).length=1:=ce _ _
theorem bU (xs:List Int):(dw xs).length=xs.length:=by
 induction xs with
 |nil=>rfl
 |cons x r a=>rw[dw,VA,Rb,Ku,UY];unfold dw at a;omega
theorem Gj {xs:List Int} {i:Nat} (hi:i<xs.length):dw (xs.take (i+1))=dw (xs.take i)++Qq xs[i]:=by
 rw[py hi];unfold dw;rw[WB];simp only[VA,Wz,Vh]
def bv (lo hi:Int) (xs:List Int):Prop:= ∀x∈xs,lo≤x∧x≤hi
instance (lo hi:Int) (xs:List Int):Decidable (bv lo hi xs):=by unfold bv;infer_instance
theorem dO (lo hi:Int):bv lo hi []:=fun x a=>by cases a
theorem dj {lo hi x:Int} {xs:List Int}:bv lo hi (x::xs)↔(lo≤x∧x≤hi)∧bv lo hi xs:=by unfold bv;simp
theorem iJ {lo hi:Int} {xs:List Int} {i:Nat} (d:i<xs.length):bv lo hi (xs.take (i+1))↔bv lo hi (xs.take i)∧(lo≤xs[i]∧xs[i]≤hi):=by
 rw[py d];unfold bv;constructor
 ·intro h;exact⟨fun x a=>h x (Vu _ a),h _ (VV _ (by simp))⟩
 ·rintro⟨e,f⟩ x a;rcases UX.1 a with a|a
  ·exact e x a
  ·simp only[SH] at a;subst a;exact f
abbrev gz:Int:= -2147483648
abbrev gH:Int:=2147483647
def Nd.enc (n:Nd):List UInt8:=
 dw [n.kind,n.inn.length]++dw n.inn++dw [n.width,n.size,n.step,n.gap,n.left,n.right]++rowB n.weights++rowB n.bias++Sh.low (IntKind.wrap .u64 n.mult) 2++dw [n.shift]++words [n.low,n.high]++dw [n.post]
def Nd.fit (n:Nd):Prop:=
 bv 0 255 [n.kind,n.inn.length]∧bv 0 255 n.inn∧bv 0 255 [n.width,n.size,n.step,n.gap,n.left,n.right]∧(n.weights.length≤65535∧bv gz gH n.weights)∧(n.bias.length≤65535∧bv gz gH n.bias)∧
  bv 0 65535 [n.mult]∧bv 0 255 [n.shift]∧bv gz gH [n.low,n.high]∧bv 0 255 [n.post]
instance (n:Nd):Decidable n.fit:=by unfold Nd.fit;infer_instance
theorem Nd.enc_length (n:Nd):n.enc.length≤26+n.inn.length+4*n.weights.length+4*n.bias.length:=by
 have a:=tP n.weights;have d:=tP n.bias;simp only[Nd.enc,Rb,bU,ce,cM,UY,Vf];omega
def Gr.enc (g:Gr):List UInt8:=dw [g.width]++words [g.low,g.high]++dw [(g.nodes.length:Int)]++g.nodes.flatMap Nd.enc++dw [g.out]
def Gr.fit (g:Gr):Prop:=bv 0 255 [g.width]∧bv gz gH [g.low,g.high]∧bv 0 255 [(g.nodes.length:Int)]∧(∀n∈g.nodes,n.fit)∧bv 0 255 [g.out]
instance (g:Gr):Decidable g.fit:=by unfold Gr.fit;infer_instance
def fO:List UInt8:=[69,65,82,49]
def Gr.out2 (g:Gr):List UInt8×Int:=if g.fit then(fO++g.enc,0) else([],22)
def Nd.short (n:Nd):Prop:=n.inn.length≤2 ^ 20∧n.weights.length≤2 ^ 20∧n.bias.length≤2 ^ 20
def Gr.short (g:Gr):Prop:=g.nodes.length≤1000∧ ∀n∈g.nodes,n.short
theorem tR: ∀(l:List Nd),(∀n∈l,n.short)→(l.flatMap Nd.enc).length≤l.length*2 ^ 24
 |[],_=>by simp
 |n::r,h=>by
  have e:=tR r fun x d=>h x (by simp[d]);have f:=n.enc_length;have a:=h n (by simp);unfold Nd.short at a;simp only[VA,Rb,UY,Vt];omega
end
end Go.Proofs.YtdhpmegbmjoekaaGreatDoor.G

