/- CTapeX CTapeX2 CNode, in one text. -/
import Derived.Test.YtdhpmegbmjoekaaGreatDoorGen
import Derived.Test.YtdhpmegbmjoekaaGreatDoorShN
set_option linter.unusedSimpArgs false
set_option linter.unusedVariables false
namespace Go.Proofs.YtdhpmegbmjoekaaGreatDoor.G
open Go Go.Sh
open Go.IntKind renaming wrap→kn
section
abbrev wx(b:Nat)(n:Int)(p:Option Addr)(l c:Nat)(r:List Value):bc:=aJ b (.int .i64 n:: .slice p l c::r)
theorem L3{h:ah}{T:Nat→Prop}{b:Nat}{cs:List Value}{R:List bc}{x:Int}(n:Int)(S:aG h T h [aJ b cs] R)(d:cs[0]? =some (.int .i64 x)):
 au P gM #[.pointer (some ⟨b,0,none⟩),.int .i64 n] h fun v a=>v= .tuple #[]∧aG h T a [aJ b (cs.set 0 (.int .i64 (kn .i64 (x+n))))] R:=by
 refine sJ _ _ ?_;refine bx (ae (S.cell 0 rfl d) (bx ?_));exact be S 0 rfl (R8.1 d).1 fun a _ S=>⟨rfl,S⟩
theorem L4{h:ah}{b:Nat}{x:Int}(d:aB h ⟨b,0,none⟩=some (.int .i64 x)):au P ie #[.pointer (some ⟨b,0,none⟩)] h fun v a=>v= .int .i64 x∧a=h:=by
 refine tZ _ ?_;exact bx (ae d ⟨rfl,rfl⟩)
theorem TW{h:ah}{T:Nat→Prop}{b:Nat}{n:Int}{r:List Value}{p:Option Addr}{l c:Nat}{bs:List UInt8}{x:Int}{k:Nat}(S:aG h T h [wx b n p l c r,own 1 p l c (Ez bs)] [])
 (C:0≤x) (z:k≤8) (A:l<2 ^ 40) (B:0≤n∧n<2 ^ 62):au P dW #[.pointer (some ⟨b,0,none⟩),.int .u64 x,.int .i64 k] h fun v o=>
  v= .tuple #[]∧ ∃d a,aG h T o [wx b (n+k) d (l+k) a r,own 1 d (l+k) a (Ez (bs++low x k))] []:=by
 refine um _ _ _ ?_;refine bG rfl ?_;refine aO (fun m s g=> ∃(i:Nat)(q:Option Addr)(e:Nat),s=(some ⟨b,0,none⟩,x / 256 ^ i,(k:Int),(k:Int),(i:Int),())∧i≤k∧m=k-i∧aG h T g [wx b n q (l+i) e r,own 1 q (l+i) e (Ez (bs++low x i))] [])
  k ⟨0,p,c,by simp,by omega,rfl,by simpa[low] using S⟩ ?_
 rintro m s g ⟨i,q,e,rfl,hi,rfl,S⟩;dsimp only;refine aq (fun w=> ?_) (fun u=> ?_)
 ·(repeat (first|with_reducible refine bx ?_|((with_reducible refine cp ?_);refine ak (S.c 0) ?_)));refine aA S (fun y _ _ S=> ?_);refine cI S 1 (ys:=Ez [kH (x / 256 ^ i)]) rfl rfl (by decide) (by omega) (bD.of_at (by have:=S.ap 2;rw[Ha,←kI]at this;exact this)) rfl (Rp _) fun d D a o j S=> ?_;rw[←K7,VY,←Dt]at S
  (repeat (first|with_reducible refine bx ?_|((with_reducible refine m7 ?_);refine be S 0 rfl (OU rfl) (fun _ _ S=> ?_);try dsimp only[List.set,Yg,Yh]at S)));rw[al (by omega)];subst j;refine⟨k-(i+1),by omega,i+1,d,a,?_,by omega,rfl,S.pick [0,1] []⟩;rw[vc,←yg];rfl
 ·have f:i=k:=by omega
  subst f
  (repeat (first|with_reducible refine bx ?_));refine(L3 (x:=n) _ (S.into [0] [] []) rfl).mono ?_;rintro _ _ ⟨rfl,t⟩;replace S:=S.back [0] t;refine⟨rfl,rfl,q,e,?_⟩;rw[al (by omega)]at S;exact S
def Fo(T:Nat→Prop)(b:Nat)(n:Int)(l:Nat)(r:List Value)(bs new:List UInt8)(h e:ah):Prop:=
 ∃d a,aG h T e [wx b (n+new.length) d (l+new.length) a r,own 1 d (l+new.length) a (Ez (bs++new))] []
section
variable {h:ah} {T:Nat→Prop} {b:Nat} {n:Int} {r:List Value} {p:Option Addr} {l c:Nat} {bs:List UInt8}
theorem O1{x:Int}{k:Nat}(S:aG h T h [wx b n p l c r,own 1 p l c (Ez bs)] [])(j:0≤x)(e:k≤8)(f:l<2 ^ 40)(g:0≤n∧n<2 ^ 62):
 au P dW #[.pointer (some ⟨b,0,none⟩),.int .u64 x,.int .i64 k] h fun v a=>v= .tuple #[]∧Fo T b n l r bs (low x k) h a:=
 (TW S j e f g).mono fun v a ⟨i,m,d,S⟩=>⟨i,m,d,by rw[ce];exact S⟩
theorem Gy(x:Int):0≤kn .u64 x:=by rw[fl];exact XC _ (by decide)
theorem SW(x:Int)(S:aG h T h [wx b n p l c r,own 1 p l c (Ez bs)] [])(d:l<2 ^ 40)(e:0≤n∧n<2 ^ 62):
 au P gP #[.pointer (some ⟨b,0,none⟩),.int .i64 x] h fun v a=>v= .tuple #[]∧Fo T b n l r bs (low (kn .u64 x) 1) h a:=by
 refine sS _ _ ?_;unfold pL;refine(O1 (k:=1) S (Gy x) (by decide) d e).mono ?_;rintro _ _ ⟨rfl,H⟩;exact⟨rfl,rfl,H⟩
theorem L5(x:Int)(S:aG h T h [wx b n p l c r,own 1 p l c (Ez bs)] [])(d:l<2 ^ 40)(e:0≤n∧n<2 ^ 62):
 au P eD #[.pointer (some ⟨b,0,none⟩),.int .i64 x] h fun v a=>v= .tuple #[]∧Fo T b n l r bs (low (kn .u64 x) 2) h a:=by
 refine qX _ _ ?_;unfold og;refine(O1 (k:=2) S (Gy x) (by decide) d e).mono ?_;rintro _ _ ⟨rfl,H⟩;exact⟨rfl,rfl,H⟩
theorem O2(x:Int)(S:aG h T h [wx b n p l c r,own 1 p l c (Ez bs)] [])(d:l<2 ^ 40)(e:0≤n∧n<2 ^ 62):
 au P fi #[.pointer (some ⟨b,0,none⟩),.int .i64 x] h fun v a=>v= .tuple #[]∧Fo T b n l r bs (low (kn .u64 x) 4) h a:=by
 refine sT _ _ ?_;unfold pN;refine(O1 (k:=4) S (Gy x) (by decide) d e).mono ?_;rintro _ _ ⟨rfl,H⟩;exact⟨rfl,rfl,H⟩
end
def words(xs:List Int):List UInt8:=xs.flatMap fun x=>low (kn .u64 x) 4
theorem cG(xs:List Int):(words xs).length=4*xs.length:=by
 induction xs with
 |nil=>rfl
 |cons x u a=>simp only[words,Ww,Tz,ce,VS]at *;omega
theorem wy{xs:List Int}{i:Nat}(hi:i<xs.length):words (xs.take (i+1))=words (xs.take i)++low (kn .u64 xs[i]) 4:=by
 rw[gD hi];unfold words;rw[XB];simp only[Ww,Xz,Wd]
def rowB(xs:List Int):List UInt8:=if xs.length>65535 then[] else low (kn .u64 xs.length) 2++words xs
theorem sX(xs:List Int):(rowB xs).length≤2+4*xs.length:=by
 unfold rowB;split
 ·simp
 ·simp[ce,cG]
theorem TX{h:ah}{T:Nat→Prop}{b:Nat}{n:Int}{r:List Value}{p q:Option Addr}{l c k d:Nat}{bs:List UInt8}{xs:List Int}(S:aG h T h [wx b n p l c r,own 1 p l c (Ez bs)] [row q (az xs)])(u:xs.length=k)
 (K:l<2 ^ 39) (L:0≤n∧n<2 ^ 61):au P im #[.pointer (some ⟨b,0,none⟩),.slice q k d] h fun v A=>v= .tuple #[]∧Fo T b n l r bs (rowB xs) h A:=by
 refine un _ _ _ _ ?_;refine aq (fun C=> ?_) (fun E=> ?_)
 ·refine⟨rfl,p,c,?_⟩;have:rowB xs=[]:=by unfold rowB;rw[if_pos (by omega)]
  rw[this,Wd];exact(Int.add_zero n).symm▸S.pick [0,1] []
 ·refine(L5 (k:Int) (S.into [0,1] [] []) (by omega) (by omega)).mono ?_;rintro _ I ⟨rfl,G,w,j⟩;refine⟨rfl,?_⟩;rw[ce]at j;replace S:=S.back [0,1] j
  refine aO (fun m s g=> ∃(i:Nat)(t:Option Addr)(o:Nat),s=(some ⟨b,0,none⟩,(q,k,d),(k:Int),(i:Int),())∧i≤k∧m=k-i∧
   aG h T g [wx b (n+(2+4*i:Nat)) t (l+(2+4*i)) o r,own 1 t (l+(2+4*i)) o (Ez (bs++(low (kn .u64 k) 2++words (xs.take i))))] [row q (az xs)]) k
   ⟨0,G,w,rfl,by omega,rfl,by simp[words];exact S⟩ ?_
  rintro m s g ⟨i,t,o,rfl,hi,rfl,S⟩;dsimp only;refine aq (fun F=> ?_) (fun B=> ?_)
  ·have f:i<xs.length:=by omega
   obtain⟨a,rfl⟩:=(S.ro 0).some_of (by rw[av];omega);refine aC rfl rfl (by omega) ?_;simp only[hC,VO];refine ae ((S.ro 0).cell (aF (bo f))) ?_;refine(O2 xs[i] (S.into [0,1] [] []) (by omega) (by omega)).mono ?_;rintro _ J ⟨rfl,H,x,j⟩;refine⟨rfl,?_⟩;rw[ce]at j;replace S:=S.back [0,1] j;rw[al (by omega)];refine⟨k-(i+1),by omega,i+1,H,x,rfl,by omega,rfl,?_⟩;rw[wy f,←VY,←VY];have y:n+((2+4*(i+1):Nat):Int)=n+((2+4*i:Nat):Int)+((4:Nat):Int):=by omega
   have z:l+(2+4*(i+1))=l+(2+4*i)+4:=by omega
   rw[y,z];rw[←VY]at S;exact S
  ·have D:i=k:=by omega
   refine⟨rfl,t,o,?_⟩;have e:rowB xs=low (kn .u64 k) 2++words (xs.take i):=by
    unfold rowB;rw[if_neg (by omega),u,py (by omega)]
   rw[e,Tz,ce,cG,VV,Xd (by omega)];exact S.pick [0,1] []
end
section
theorem Ra{h0 h:ah}{T:Nat→Prop}{b:Nat}{n:Int}{r:List Value}{p:Option Addr}{l c:Nat}{bs:List UInt8}{R:List bc}(S:aG h0 T h [wx b n p l c r,own 1 p l c (Ez bs)] R):
 au P jy #[.pointer (some ⟨b,0,none⟩)] h fun v a=>v= .string (str bs)∧a=h:=by
 refine sU _ ?_;refine bG rfl ?_
 (repeat (first|with_reducible refine bx ?_|((with_reducible refine cp ?_);refine ak (S.c 0) ?_)));have o:=S.ow 1;exact K8 o.row (by have:=o.1;rw[Dq]at this;omega) ⟨_,rfl,rfl,rfl⟩
theorem Fp{h:ah}{x:Int}{n:Nat}(d:0≤x∧x<2 ^ 64)(t:n<2 ^ 30):au P kD #[.int .u64 x,.int .i64 n] h fun v e=>v= .string (str (low x n))∧cd no h e:=by
 refine yP _ _ ?_;have S:=aG.start h no;refine aO (fun m s g=> ∃i:Nat,s=(x / 256 ^ i,(n:Int),str (low x i),(i:Int),())∧i≤n∧m=n-i∧aG h no g [] []) n ⟨0,by simp[low];rfl,by omega,rfl,S⟩ ?_;rintro m s g ⟨i,rfl,hi,rfl,S⟩;dsimp only;refine aq (fun k=> ?_) (fun j=> ?_)
 ·refine aA S (fun o _ _ S=> ?_);refine K8 (bs:=[kH (x / 256 ^ i)]) (bD.of_at (by have:=S.ap 0;rw[Ha,←kI]at this;exact this)) rfl ⟨_,rfl,?_⟩;refine kv (by rw[cu,cu,ce,WQ];omega) ?_;rw[jC,←Dt,al (by omega)];refine⟨n-(i+1),by omega,i+1,?_,by omega,rfl,S.pick [] []⟩;have u:(0:Int)<256 ^ i:=XV (by decide);have h0:0≤x / 256 ^ i:=Int.ediv_nonneg d.1 (by omega);have q:x / 256 ^ i≤x:=Int.ediv_le_self _ d.1;have f:0≤x / 256 ^ i / 256:=Int.ediv_nonneg h0 (by decide);rw[Xi h0,fl,W4 f (by omega),yg];rfl
 ·have a:i=n:=by omega
  subst a;exact⟨rfl,S.fra⟩
theorem sY(x:Int):0≤kn .u64 x∧kn .u64 x<2 ^ 64:=by
 rw[fl];omega
end
section
structure Sl where
 p:Option Addr
 l:Nat
 c:Nat
 xs:List Int
def Sl.ok(s:Sl):Prop:=s.xs.length=s.l∧s.l≤s.c
def Sl.row(s:Sl):bc:=Sh.row s.p (az s.xs)
def Sl.nil:Sl:=⟨none,0,0,[]⟩
abbrev Sl.v(s:Sl):Value:= .slice s.p s.l s.c
abbrev cJ:List Sc:=[.int .i64,.slice,.int .i64,.int .i64,.int .i64,.int .i64,.int .i64,.int .i64,.slice,.slice,.int .i64,.int .i64,.int .i64,.int .i64,.int .i64]
structure Nv where
 kind:Int
 inn:Sl
 width:Int
 size:Int
 step:Int
 gap:Int
 left:Int
 right:Int
 weights:Sl
 bias:Sl
 mult:Int
 shift:Int
 low:Int
 high:Int
 post:Int
def Nv.t(n:Nv):TS cJ:=(n.kind,(n.inn.p,n.inn.l,n.inn.c),n.width,n.size,n.step,n.gap,n.left,n.right,(n.weights.p,n.weights.l,n.weights.c),(n.bias.p,n.bias.l,n.bias.c),n.mult,n.shift,n.low,n.high,n.post,())
def Nv.cells(n:Nv):List Value:=aK cJ n.t
theorem Nv.cells_length(n:Nv):n.cells.length=15:=rfl
abbrev Nv.v(n:Nv):Value:=bA cJ n.t
def Nv.ok(n:Nv):Prop:=n.inn.ok∧n.weights.ok∧n.bias.ok
def Nv.rows(n:Nv):bc:=cM [n.inn.row,n.weights.row,n.bias.row]
structure Nd where
 kind:Int
 inn:List Int
 width:Int
 size:Int
 step:Int
 gap:Int
 left:Int
 right:Int
 weights:List Int
 bias:List Int
 mult:Int
 shift:Int
 low:Int
 high:Int
 post:Int
def Nv.nd(n:Nv):Nd:=⟨n.kind,n.inn.xs,n.width,n.size,n.step,n.gap,n.left,n.right,n.weights.xs,n.bias.xs,n.mult,n.shift,n.low,n.high,n.post⟩
theorem Nd.ext'{a b:Nd}(k:a.kind=b.kind)(m:a.inn=b.inn)(o:a.width=b.width)(q:a.size=b.size)(s:a.step=b.step)(t:a.gap=b.gap)(u:a.left=b.left)(v:a.right=b.right)(w:a.weights=b.weights)
 (d:a.bias=b.bias) (e:a.mult=b.mult) (f:a.shift=b.shift) (g:a.low=b.low) (i:a.high=b.high) (j:a.post=b.post):a=b:=by
 cases a;cases b;simp_all
structure Gv where
 width:Int
 low:Int
 high:Int
 p:Option Addr
 l:Nat
 c:Nat
 out:Int
 ns:List Nv
abbrev bz:List Sc:=[.int .i64,.int .i64,.int .i64,.slice,.int .i64]
def Gv.t(g:Gv):TS bz:=(g.width,g.low,g.high,(g.p,g.l,g.c),g.out,())
def Gv.cells(g:Gv):List Value:=aK bz g.t
abbrev Gv.v(g:Gv):Value:=bA bz g.t
def aD(ns:List Nv):List Value:=(ns.map Nv.cells).flatten
theorem bE(ns:List Nv):(aD ns).length=ns.length*15:=pT Nv.cells 15 Nv.cells_length ns
theorem fK(a b:List Nv):aD (a++b)=aD a++aD b:=by simp[aD]
theorem iu{ns:List Nv}{i j:Nat}{n:Nv}(h:ns[i]? =some n)(a:j<15):(aD ns)[i*15+j]? =n.cells[j]? :=ve Nv.cells 15 Nv.cells_length ns i j n h a
def Gv.nrow(g:Gv):bc:=Sh.row g.p (aD g.ns)
def aM(ns:List Nv):bc:=cM (ns.map Nv.rows)
def Gv.ok(g:Gv):Prop:=g.ns.length=g.l∧g.l≤g.c∧ ∀n∈g.ns,n.ok
structure Gr where
 width:Int
 low:Int
 high:Int
 nodes:List Nd
 out:Int
def Gv.gr(g:Gv):Gr:=⟨g.width,g.low,g.high,g.ns.map Nv.nd,g.out⟩
theorem gi{h:ah}{a:Addr}{ns:List Nv}{i:Nat}{n:Nv}{K:TS cJ→Prop}(r:bD h (some a) (aD ns))(g:ns[i]? =some n)(H:K n.t):aT cJ h (Addr.add a (i*15)) K:=by
 refine Hc (x:=n.t) (fun j v e=> ?_) H;have f:j<15:=by have:=(R8.1 e).1;rw[Mf]at this;exact this
 have d:=r.cell (i:=i*15+j) (v:=v) (by rw[iu g f];exact e);by_cases h0:j=0
 ·subst h0;exact d
 ·rw[mh _ _ h0];exact d
theorem dc{l:List Int}: ∀y∈az l,ib y=true:=by
 intro y a;simp only[az,VZ]at a;obtain⟨n,_,rfl⟩:=a;rfl
def O3(x:Int):List UInt8:=low (kn .u64 x) 1
def dj(xs:List Int):List UInt8:=xs.flatMap O3
theorem Kg(x:Int):(O3 x).length=1:=ce _ _
theorem bO(xs:List Int):(dj xs).length=xs.length:=by
 induction xs with
 |nil=>rfl
 |cons x r a=>rw[dj,Ww,Tz,Kg,VS];unfold dj at a;omega
theorem Fq{xs:List Int}{i:Nat}(hi:i<xs.length):dj (xs.take (i+1))=dj (xs.take i)++O3 xs[i]:=by
 rw[gD hi];unfold dj;rw[XB];simp only[Ww,Xz,Wd]
def bv(lo hi:Int)(xs:List Int):Prop:= ∀x∈xs,lo≤x∧x≤hi
instance (lo hi:Int) (xs:List Int):Decidable (bv lo hi xs):=by unfold bv;infer_instance
theorem cK(lo hi:Int):bv lo hi []:=fun x a=>by cases a
theorem cn{lo hi x:Int}{xs:List Int}:bv lo hi (x::xs)↔(lo≤x∧x≤hi)∧bv lo hi xs:=by unfold bv;simp
theorem iv{lo hi:Int}{xs:List Int}{i:Nat}(d:i<xs.length):bv lo hi (xs.take (i+1))↔bv lo hi (xs.take i)∧(lo≤xs[i]∧xs[i]≤hi):=by
 rw[gD d];constructor
 ·intro h;exact⟨fun x a=>h x (Wt _ a),h _ (WP _ (by simp))⟩
 ·rintro⟨e,f⟩ x a;rcases VW.1 a with a|a
  ·exact e x a
  ·simp only[VK]at a;subst a;exact f
abbrev fz:Int:= -2147483648
abbrev fL:Int:=2147483647
def Nd.enc(n:Nd):List UInt8:=
 dj [n.kind,n.inn.length]++dj n.inn++dj [n.width,n.size,n.step,n.gap,n.left,n.right]++rowB n.weights++rowB n.bias++Sh.low (kn .u64 n.mult) 2++dj [n.shift]++words [n.low,n.high]++dj [n.post]
def Nd.fit(n:Nd):Prop:=
 bv 0 255 [n.kind,n.inn.length]∧bv 0 255 n.inn∧bv 0 255 [n.width,n.size,n.step,n.gap,n.left,n.right]∧(n.weights.length≤65535∧bv fz fL n.weights)∧(n.bias.length≤65535∧bv fz fL n.bias)∧
  bv 0 65535 [n.mult]∧bv 0 255 [n.shift]∧bv fz fL [n.low,n.high]∧bv 0 255 [n.post]
instance (n:Nd):Decidable n.fit:=by unfold Nd.fit;infer_instance
theorem Nd.enc_length(n:Nd):n.enc.length≤26+n.inn.length+4*n.weights.length+4*n.bias.length:=by
 have a:=sX n.weights;have d:=sX n.bias;simp only[Nd.enc,Tz,bO,ce,cG,VS,V9];omega
def Gr.enc(g:Gr):List UInt8:=dj [g.width]++words [g.low,g.high]++dj [(g.nodes.length:Int)]++g.nodes.flatMap Nd.enc++dj [g.out]
def Gr.fit(g:Gr):Prop:=bv 0 255 [g.width]∧bv fz fL [g.low,g.high]∧bv 0 255 [(g.nodes.length:Int)]∧(∀n∈g.nodes,n.fit)∧bv 0 255 [g.out]
instance (g:Gr):Decidable g.fit:=by unfold Gr.fit;infer_instance
def dV:List UInt8:=[69,65,82,49]
def Gr.out2(g:Gr):List UInt8×Int:=if g.fit then(dV++g.enc,0) else([],22)
def Nd.short(n:Nd):Prop:=n.inn.length≤2 ^ 20∧n.weights.length≤2 ^ 20∧n.bias.length≤2 ^ 20
def Gr.short(g:Gr):Prop:=g.nodes.length≤1000∧ ∀n∈g.nodes,n.short
theorem nQ: ∀(l:List Nd),(∀n∈l,n.short)→(l.flatMap Nd.enc).length≤l.length*2 ^ 24
 |[],_=>by simp
 |n::r,h=>by
  have e:=nQ r fun x d=>h x (by simp[d]);have f:=n.enc_length;have a:=h n (by simp);unfold Nd.short at a;simp only[Ww,Tz,VS,Wr];omega
