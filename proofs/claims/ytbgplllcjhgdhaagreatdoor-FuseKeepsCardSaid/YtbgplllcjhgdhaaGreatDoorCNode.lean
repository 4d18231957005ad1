/- CTapeX CTapeX2 CNode, in one text. -/
import Derived.Test.YtbgplllcjhgdhaaGreatDoorGen
import Derived.Test.YtbgplllcjhgdhaaGreatDoorShN
section
namespace Go.Proofs.YtbgplllcjhgdhaaGreatDoor.G
open Go Go.Sh
set_option linter.unusedVariables false
abbrev wx (b:Nat) (n:Int) (p:Option Addr) (l c:Nat) (r:List Value):Fact:=blk b (.int .i64 n:: .slice p l c::r)
def Wrote (T:Nat→Prop) (b:Nat) (n:Int) (l:Nat) (r:List Value) (bs new:List UInt8) (h h':Heap):Prop:=
 ∃p' c',Sep h T h' [wx b (n+new.length) p' (l+new.length) c' r,own 1 p' (l+new.length) c' (u8s (bs++new))] []
section
variable {h:Heap} {T:Nat→Prop} {b:Nat} {n:Int} {r:List Value} {p:Option Addr} {l c:Nat} {bs:List UInt8}
theorem u64_pos (x:Int):0≤IntKind.wrap .u64 x:=by rw[wrap_u64];exact Int.emod_nonneg _ (by decide)
end
def words (xs:List Int):List UInt8:=xs.flatMap fun x=>low (IntKind.wrap .u64 x) 4
theorem words_length (xs:List Int):(words xs).length=4*xs.length:=by
 induction xs with
 |nil=>rfl
 |cons x u ih=>simp only[words,List.flatMap_cons,List.length_append,low_length,List.length_cons] at *;omega
theorem words_snoc {xs:List Int} {i:Nat} (hi:i<xs.length):words (xs.take (i+1))=words (xs.take i)++low (IntKind.wrap .u64 xs[i]) 4:=by
 rw[List.take_succ_eq_append_getElem hi]
 unfold words
 rw[List.flatMap_append];simp only[List.flatMap_cons,List.flatMap_nil,List.append_nil]
def rowB (xs:List Int):List UInt8:=if xs.length>65535 then[] else low (IntKind.wrap .u64 xs.length) 2++words xs
theorem rowB_length (xs:List Int):(rowB xs).length≤2+4*xs.length:=by
 unfold rowB
 split
 ·simp
 ·simp[low_length,words_length]
end Go.Proofs.YtbgplllcjhgdhaaGreatDoor.G
end
section
namespace Go.Proofs.YtbgplllcjhgdhaaGreatDoor.G
open Go Go.Sh
set_option linter.unusedVariables false
theorem wrap_u64_range (x:Int):0≤IntKind.wrap .u64 x∧IntKind.wrap .u64 x<2 ^ 64:=by
 rw[wrap_u64];omega
end Go.Proofs.YtbgplllcjhgdhaaGreatDoor.G
end
section
namespace Go.Proofs.YtbgplllcjhgdhaaGreatDoor.G
open Go Go.Sh
set_option linter.unusedVariables false
structure Sl where
 p:Option Addr
 l:Nat
 c:Nat
 xs:List Int
def Sl.ok (s:Sl):Prop:=s.xs.length=s.l∧s.l≤s.c
def Sl.row (s:Sl):Fact:=Sh.row s.p (ints s.xs)
def Sl.nil:Sl:=⟨none,0,0,[]⟩
abbrev Sl.v (s:Sl):Value:= .slice s.p s.l s.c
abbrev ndSh:List Sc:=[.int .i64,.slice,.int .i64,.int .i64,.int .i64,.int .i64,.int .i64,.int .i64,.slice,.slice,.int .i64,.int .i64,.int .i64,.int .i64,.int .i64]
structure Nv where
 kind:Int
 inn:Sl
 width:Int
 size:Int
 step:Int
 gap:Int
 left:Int
 right:Int
 weights:Sl
 bias:Sl
 mult:Int
 shift:Int
 low:Int
 high:Int
 post:Int
def Nv.t (n:Nv):TS ndSh:=(n.kind,(n.inn.p,n.inn.l,n.inn.c),n.width,n.size,n.step,n.gap,n.left,n.right,(n.weights.p,n.weights.l,n.weights.c),(n.bias.p,n.bias.l,n.bias.c),n.mult,n.shift,n.low,n.high,n.post,())
def Nv.cells (n:Nv):List Value:=mkS' ndSh n.t
theorem Nv.cells_length (n:Nv):n.cells.length=15:=rfl
abbrev Nv.v (n:Nv):Value:=agS ndSh n.t
def Nv.ok (n:Nv):Prop:=n.inn.ok∧n.weights.ok∧n.bias.ok
def Nv.rows (n:Nv):Fact:=reads [n.inn.row,n.weights.row,n.bias.row]
structure Nd where
 kind:Int
 inn:List Int
 width:Int
 size:Int
 step:Int
 gap:Int
 left:Int
 right:Int
 weights:List Int
 bias:List Int
 mult:Int
 shift:Int
 low:Int
 high:Int
 post:Int
def Nv.nd (n:Nv):Nd:=⟨n.kind,n.inn.xs,n.width,n.size,n.step,n.gap,n.left,n.right,n.weights.xs,n.bias.xs,n.mult,n.shift,n.low,n.high,n.post⟩
theorem Nd.ext' {a b:Nd} (h1:a.kind=b.kind) (h2:a.inn=b.inn) (h3:a.width=b.width) (h4:a.size=b.size) (h5:a.step=b.step) (h6:a.gap=b.gap) (h7:a.left=b.left) (h8:a.right=b.right) (h9:a.weights=b.weights)
 (h10:a.bias=b.bias) (h11:a.mult=b.mult) (h12:a.shift=b.shift) (h13:a.low=b.low) (h14:a.high=b.high) (h15:a.post=b.post):a=b:=by
 cases a;cases b;simp_all
structure Gv where
 width:Int
 low:Int
 high:Int
 p:Option Addr
 l:Nat
 c:Nat
 out:Int
 ns:List Nv
abbrev grSh:List Sc:=[.int .i64,.int .i64,.int .i64,.slice,.int .i64]
def Gv.t (g:Gv):TS grSh:=(g.width,g.low,g.high,(g.p,g.l,g.c),g.out,())
def Gv.cells (g:Gv):List Value:=mkS' grSh g.t
abbrev Gv.v (g:Gv):Value:=agS grSh g.t
def nflat (ns:List Nv):List Value:=(ns.map Nv.cells).flatten
theorem nflat_length (ns:List Nv):(nflat ns).length=ns.length*15:=flat_len Nv.cells 15 Nv.cells_length ns
theorem nflat_append (a b:List Nv):nflat (a++b)=nflat a++nflat b:=by simp[nflat]
theorem nflat_at {ns:List Nv} {i j:Nat} {n:Nv} (h:ns[i]? =some n) (hj:j<15):(nflat ns)[i*15+j]? =n.cells[j]? :=flat_at Nv.cells 15 Nv.cells_length ns i j n h hj
def Gv.nrow (g:Gv):Fact:=Sh.row g.p (nflat g.ns)
def nrows (ns:List Nv):Fact:=reads (ns.map Nv.rows)
def Gv.ok (g:Gv):Prop:=g.ns.length=g.l∧g.l≤g.c∧ ∀n∈g.ns,n.ok
structure Gr where
 width:Int
 low:Int
 high:Int
 nodes:List Nd
 out:Int
def Gv.gr (g:Gv):Gr:=⟨g.width,g.low,g.high,g.ns.map Nv.nd,g.out⟩
theorem ldNode {h:Heap} {a:Addr} {ns:List Nv} {i:Nat} {n:Nv} {K:TS ndSh→Prop} (r:Row h (some a) (nflat ns)) (hn:ns[i]? =some n) (H:K n.t):ldAg ndSh h (Addr.add a (i*15)) K:=by
 refine ldAg_i (x:=n.t) (fun j v hv=> ?_) H
 have hj:j<15:=by have:=(List.getElem?_eq_some_iff.1 hv).1;rw[mkS_len] at this;exact this
 have hc:=r.cell (i:=i*15+j) (v:=v) (by rw[nflat_at hn hj];exact hv)
 by_cases h0:j=0
 ·subst h0;exact hc
 ·rw[add_add _ _ h0];exact hc
theorem vals_one {l:List Int}: ∀y∈ints l,one1 y=true:=by
 intro y hy;simp only[ints,List.mem_map] at hy;obtain⟨n,_,rfl⟩:=hy;rfl
def byt (x:Int):List UInt8:=low (IntKind.wrap .u64 x) 1
def bytS (xs:List Int):List UInt8:=xs.flatMap byt
theorem byt_length (x:Int):(byt x).length=1:=low_length _ _
theorem bytS_length (xs:List Int):(bytS xs).length=xs.length:=by
 induction xs with
 |nil=>rfl
 |cons x r ih=>rw[bytS,List.flatMap_cons,List.length_append,byt_length,List.length_cons];unfold bytS at ih;omega
theorem bytS_snoc {xs:List Int} {i:Nat} (hi:i<xs.length):bytS (xs.take (i+1))=bytS (xs.take i)++byt xs[i]:=by
 rw[List.take_succ_eq_append_getElem hi];unfold bytS
 rw[List.flatMap_append];simp only[List.flatMap_cons,List.flatMap_nil,List.append_nil]
def fitR (lo hi:Int) (xs:List Int):Prop:= ∀x∈xs,lo≤x∧x≤hi
instance (lo hi:Int) (xs:List Int):Decidable (fitR lo hi xs):=by unfold fitR;infer_instance
theorem fitR_nil (lo hi:Int):fitR lo hi []:=fun x hx=>by cases hx
theorem fitR_cons {lo hi x:Int} {xs:List Int}:fitR lo hi (x::xs)↔(lo≤x∧x≤hi)∧fitR lo hi xs:=by unfold fitR;simp
theorem fitR_take_succ {lo hi:Int} {xs:List Int} {i:Nat} (hi':i<xs.length):fitR lo hi (xs.take (i+1))↔fitR lo hi (xs.take i)∧(lo≤xs[i]∧xs[i]≤hi):=by
 rw[List.take_succ_eq_append_getElem hi']
 unfold fitR
 constructor
 ·intro h;exact⟨fun x hx=>h x (List.mem_append_left _ hx),h _ (List.mem_append_right _ (by simp))⟩
 ·rintro⟨h1,h2⟩ x hx
  rcases List.mem_append.1 hx with hx|hx
  ·exact h1 x hx
  ·simp only[List.mem_singleton] at hx;subst hx;exact h2
abbrev lo32:Int:= -2147483648
abbrev hi32:Int:=2147483647
def Nd.enc (n:Nd):List UInt8:=
 bytS [n.kind,n.inn.length]++bytS n.inn++bytS [n.width,n.size,n.step,n.gap,n.left,n.right]++rowB n.weights++rowB n.bias++Sh.low (IntKind.wrap .u64 n.mult) 2++bytS [n.shift]++words [n.low,n.high]++bytS [n.post]
def Nd.fit (n:Nd):Prop:=
 fitR 0 255 [n.kind,n.inn.length]∧fitR 0 255 n.inn∧fitR 0 255 [n.width,n.size,n.step,n.gap,n.left,n.right]∧(n.weights.length≤65535∧fitR lo32 hi32 n.weights)∧(n.bias.length≤65535∧fitR lo32 hi32 n.bias)∧
  fitR 0 65535 [n.mult]∧fitR 0 255 [n.shift]∧fitR lo32 hi32 [n.low,n.high]∧fitR 0 255 [n.post]
instance (n:Nd):Decidable n.fit:=by unfold Nd.fit;infer_instance
theorem Nd.enc_length (n:Nd):n.enc.length≤26+n.inn.length+4*n.weights.length+4*n.bias.length:=by
 have h1:=rowB_length n.weights
 have h2:=rowB_length n.bias
 simp only[Nd.enc,List.length_append,bytS_length,low_length,words_length,List.length_cons,List.length_nil]
 omega
def Gr.enc (g:Gr):List UInt8:=bytS [g.width]++words [g.low,g.high]++bytS [(g.nodes.length:Int)]++g.nodes.flatMap Nd.enc++bytS [g.out]
def Gr.fit (g:Gr):Prop:=fitR 0 255 [g.width]∧fitR lo32 hi32 [g.low,g.high]∧fitR 0 255 [(g.nodes.length:Int)]∧(∀n∈g.nodes,n.fit)∧fitR 0 255 [g.out]
instance (g:Gr):Decidable g.fit:=by unfold Gr.fit;infer_instance
def magic:List UInt8:=[69,65,82,49]
def Gr.out2 (g:Gr):List UInt8×Int:=if g.fit then(magic++g.enc,0) else([],22)
def Nd.short (n:Nd):Prop:=n.inn.length≤2 ^ 20∧n.weights.length≤2 ^ 20∧n.bias.length≤2 ^ 20
def Gr.short (g:Gr):Prop:=g.nodes.length≤1000∧ ∀n∈g.nodes,n.short
theorem encs_length: ∀(l:List Nd),(∀n∈l,n.short)→(l.flatMap Nd.enc).length≤l.length*2 ^ 24
 |[],_=>by simp
 |n::r,h=>by
  have h1:=encs_length r fun x hx=>h x (by simp[hx])
  have h2:=n.enc_length
  have h3:=h n (by simp)
  unfold Nd.short at h3
  simp only[List.flatMap_cons,List.length_append,List.length_cons,Nat.add_mul]
  omega
end Go.Proofs.YtbgplllcjhgdhaaGreatDoor.G
end
