/- CTapeX CTapeX2 CNode, in one text. -/
import Derived.Test.YtdhpmegbmjoekaaGreatDoorGen
import Derived.Test.YtdhpmegbmjoekaaGreatDoorShN
section
namespace Go.Proofs.YtdhpmegbmjoekaaGreatDoor.G
open Go Go.Sh
set_option linter.unusedVariables false
abbrev wx (b:Nat) (n:Int) (p:Option Addr) (l c:Nat) (r:List Value):Fact:=blk b (.int .i64 n:: .slice p l c::r)
theorem moved_S {h:Heap} {T:Nat→Prop} {b:Nat} {cs:List Value} {R:List Fact} {x:Int} (n:Int) (S:Sep h T h [blk b cs] R) (hc:cs[0]? =some (.int .i64 x)):
 callP P n_tape_place_moved #[.pointer (some ⟨b,0,none⟩),.int .i64 n] h fun v h'=>v= .tuple #[]∧Sep h T h' [blk b (cs.set 0 (.int .i64 (IntKind.wrap .i64 (x+n))))] R:=by
 refine call_tape_place_moved _ _ ?_
 unfold tape_place_moved
 refine nilI_some (ldInt_i (S.cell 0 rfl hc) (nilI_some ?_))
 exact stI_S S 0 rfl (List.getElem?_eq_some_iff.1 hc).1 fun h' _ S=>⟨rfl,S⟩
theorem told_ok {h:Heap} {b:Nat} {x:Int} (hc:cellH h ⟨b,0,none⟩=some (.int .i64 x)):callP P n_tape_place_told #[.pointer (some ⟨b,0,none⟩)] h fun v h'=>v= .int .i64 x∧h'=h:=by
 refine call_tape_place_told _ ?_
 unfold tape_place_told
 exact nilI_some (ldInt_i hc ⟨rfl,rfl⟩)
theorem put_S {h:Heap} {T:Nat→Prop} {b:Nat} {n:Int} {r:List Value} {p:Option Addr} {l c:Nat} {bs:List UInt8} {x:Int} {k:Nat} (S:Sep h T h [wx b n p l c r,own 1 p l c (u8s bs)] [])
 (hx:0≤x) (hk:k≤8) (hl:l<2 ^ 40) (hn:0≤n∧n<2 ^ 62):callP P n_tape_Writer_put #[.pointer (some ⟨b,0,none⟩),.int .u64 x,.int .i64 k] h fun v h'=>
  v= .tuple #[]∧ ∃p' c',Sep h T h' [wx b (n+k) p' (l+k) c' r,own 1 p' (l+k) c' (u8s (bs++low x k))] []:=by
 refine call_tape_Writer_put _ _ _ ?_
 unfold tape_Writer_put
 refine ifB_false rfl ?_
 refine LoopS_i (fun m s g=> ∃(i:Nat) (q:Option Addr) (e:Nat),s=(some ⟨b,0,none⟩,x / 256 ^ i,(k:Int),(k:Int),(i:Int),())∧i≤k∧m=k-i∧Sep h T g [wx b n q (l+i) e r,own 1 q (l+i) e (u8s (bs++low x i))] [])
  k ⟨0,p,c,by simp,by omega,rfl,by simpa[low] using S⟩ ?_
 rintro m s g ⟨i,q,e,rfl,hi,rfl,S⟩
 unfold tape_Writer_put_l2
 dsimp only
 refine ifB_dec (fun hlt=> ?_) (fun hge=> ?_)
 ·(repeat (first|with_reducible refine nilI_some ?_|((with_reducible refine ldSlice_id ?_);refine ldSlice_i (S.cell 0 rfl rfl) ?_)))
  refine newI_S S (fun b4 _ _ S=> ?_)
  refine appI_S S 1 (ys:=u8s [lowByte (x / 256 ^ i)]) rfl rfl (by decide) (by omega) (Row.of_at (by have:=S.at 2 rfl;rw[wrap_u8,←lowByte_toNat] at this;exact this)) rfl (u8s_one _) fun p' l' c' h' hl' S=> ?_
  rw[←u8s_append,List.append_assoc,←low_snoc] at S
  (repeat (first|with_reducible refine nilI_some ?_|((with_reducible refine stI_id ?_);refine stI_S S 0 rfl (Nat.le_of_ble_eq_true rfl) (fun _ _ S=> ?_);try dsimp only[List.set,List.cons_append,List.nil_append] at S)))
  rw[wrap64_in (by omega)]
  subst hl'
  refine⟨k-(i+1),by omega,i+1,p',c',?_,by omega,rfl,S.pick [0,1] []⟩
  rw[shrI_ediv,←div_pow_succ]
  rfl
 ·have hik:i=k:=by omega
  subst hik
  (repeat (first|with_reducible refine nilI_some ?_))
  refine(moved_S (x:=n) _ (S.into [0] [] []) rfl).mono ?_
  rintro _ _ ⟨rfl,S1⟩
  replace S:=S.back [0] S1
  refine⟨rfl,rfl,q,e,?_⟩
  rw[wrap64_in (by omega)] at S
  exact S
def Wrote (T:Nat→Prop) (b:Nat) (n:Int) (l:Nat) (r:List Value) (bs new:List UInt8) (h h':Heap):Prop:=
 ∃p' c',Sep h T h' [wx b (n+new.length) p' (l+new.length) c' r,own 1 p' (l+new.length) c' (u8s (bs++new))] []
section
variable {h:Heap} {T:Nat→Prop} {b:Nat} {n:Int} {r:List Value} {p:Option Addr} {l c:Nat} {bs:List UInt8}
theorem put_W {x:Int} {k:Nat} (S:Sep h T h [wx b n p l c r,own 1 p l c (u8s bs)] []) (hx:0≤x) (hk:k≤8) (hl:l<2 ^ 40) (hn:0≤n∧n<2 ^ 62):
 callP P n_tape_Writer_put #[.pointer (some ⟨b,0,none⟩),.int .u64 x,.int .i64 k] h fun v h'=>v= .tuple #[]∧Wrote T b n l r bs (low x k) h h':=
 (put_S S hx hk hl hn).mono fun v h' ⟨hv,p',c',S⟩=>⟨hv,p',c',by rw[low_length];exact S⟩
theorem u64_pos (x:Int):0≤IntKind.wrap .u64 x:=by rw[wrap_u64];exact Int.emod_nonneg _ (by decide)
theorem Byte_W (x:Int) (S:Sep h T h [wx b n p l c r,own 1 p l c (u8s bs)] []) (hl:l<2 ^ 40) (hn:0≤n∧n<2 ^ 62):
 callP P n_tape_Writer_Byte #[.pointer (some ⟨b,0,none⟩),.int .i64 x] h fun v h'=>v= .tuple #[]∧Wrote T b n l r bs (low (IntKind.wrap .u64 x) 1) h h':=by
 refine call_tape_Writer_Byte _ _ ?_
 unfold tape_Writer_Byte
 refine(put_W (k:=1) S (u64_pos x) (by decide) hl hn).mono ?_
 rintro _ _ ⟨rfl,H⟩
 exact⟨rfl,rfl,H⟩
theorem Short_W (x:Int) (S:Sep h T h [wx b n p l c r,own 1 p l c (u8s bs)] []) (hl:l<2 ^ 40) (hn:0≤n∧n<2 ^ 62):
 callP P n_tape_Writer_Short #[.pointer (some ⟨b,0,none⟩),.int .i64 x] h fun v h'=>v= .tuple #[]∧Wrote T b n l r bs (low (IntKind.wrap .u64 x) 2) h h':=by
 refine call_tape_Writer_Short _ _ ?_
 unfold tape_Writer_Short
 refine(put_W (k:=2) S (u64_pos x) (by decide) hl hn).mono ?_
 rintro _ _ ⟨rfl,H⟩
 exact⟨rfl,rfl,H⟩
theorem Word_W (x:Int) (S:Sep h T h [wx b n p l c r,own 1 p l c (u8s bs)] []) (hl:l<2 ^ 40) (hn:0≤n∧n<2 ^ 62):
 callP P n_tape_Writer_Word #[.pointer (some ⟨b,0,none⟩),.int .i64 x] h fun v h'=>v= .tuple #[]∧Wrote T b n l r bs (low (IntKind.wrap .u64 x) 4) h h':=by
 refine call_tape_Writer_Word _ _ ?_
 unfold tape_Writer_Word
 refine(put_W (k:=4) S (u64_pos x) (by decide) hl hn).mono ?_
 rintro _ _ ⟨rfl,H⟩
 exact⟨rfl,rfl,H⟩
end
def words (xs:List Int):List UInt8:=xs.flatMap fun x=>low (IntKind.wrap .u64 x) 4
theorem words_length (xs:List Int):(words xs).length=4*xs.length:=by
 induction xs with
 |nil=>rfl
 |cons x u ih=>simp only[words,List.flatMap_cons,List.length_append,low_length,List.length_cons] at *;omega
theorem words_snoc {xs:List Int} {i:Nat} (hi:i<xs.length):words (xs.take (i+1))=words (xs.take i)++low (IntKind.wrap .u64 xs[i]) 4:=by
 rw[List.take_succ_eq_append_getElem hi]
 unfold words
 rw[List.flatMap_append];simp only[List.flatMap_cons,List.flatMap_nil,List.append_nil]
def rowB (xs:List Int):List UInt8:=if xs.length>65535 then[] else low (IntKind.wrap .u64 xs.length) 2++words xs
theorem rowB_length (xs:List Int):(rowB xs).length≤2+4*xs.length:=by
 unfold rowB
 split
 ·simp
 ·simp[low_length,words_length]
theorem Row_W {h:Heap} {T:Nat→Prop} {b:Nat} {n:Int} {r:List Value} {p q:Option Addr} {l c k d:Nat} {bs:List UInt8} {xs:List Int} (S:Sep h T h [wx b n p l c r,own 1 p l c (u8s bs)] [row q (ints xs)]) (hxs:xs.length=k)
 (hl:l<2 ^ 39) (hn:0≤n∧n<2 ^ 61):callP P n_tape_Writer_Row #[.pointer (some ⟨b,0,none⟩),.slice q k d] h fun v h'=>v= .tuple #[]∧Wrote T b n l r bs (rowB xs) h h':=by
 refine call_tape_Writer_Row _ _ _ _ ?_
 unfold tape_Writer_Row
 refine ifB_dec (fun hgt=> ?_) (fun hle=> ?_)
 ·refine⟨rfl,p,c,?_⟩
  have:rowB xs=[]:=by unfold rowB;rw[if_pos (by omega)]
  rw[this,List.append_nil]
  exact(Int.add_zero n).symm▸S.pick [0,1] []
 ·refine(Short_W (k:Int) (S.into [0,1] [] []) (by omega) (by omega)).mono ?_
  rintro _ h1 ⟨rfl,p1,c1,S1⟩
  refine⟨rfl,?_⟩
  rw[low_length] at S1
  replace S:=S.back [0,1] S1
  refine LoopS_i (fun m s g=> ∃(i:Nat) (p':Option Addr) (c':Nat),s=(some ⟨b,0,none⟩,(q,k,d),(k:Int),(i:Int),())∧i≤k∧m=k-i∧
   Sep h T g [wx b (n+(2+4*i:Nat)) p' (l+(2+4*i)) c' r,own 1 p' (l+(2+4*i)) c' (u8s (bs++(low (IntKind.wrap .u64 k) 2++words (xs.take i))))] [row q (ints xs)]) k
   ⟨0,p1,c1,rfl,by omega,rfl,by simp[words];exact S⟩ ?_
  rintro m s g ⟨i,p',c',rfl,hi,rfl,S⟩
  unfold tape_Writer_Row_l3
  dsimp only
  refine ifB_dec (fun hlt=> ?_) (fun hge=> ?_)
  ·have hlt':i<xs.length:=by omega
   obtain⟨a,rfl⟩:=(S.row 0 rfl).some_of (by rw[ints_length];omega)
   refine idxI_i rfl rfl (by omega) ?_
   simp only[Int.toNat_natCast,Nat.mul_one]
   refine ldInt_i ((S.row 0 rfl).cell (ints_get (List.getElem?_eq_getElem hlt'))) ?_
   refine(Word_W xs[i] (S.into [0,1] [] []) (by omega) (by omega)).mono ?_
   rintro _ h2 ⟨rfl,p2,c2,S1⟩
   refine⟨rfl,?_⟩
   rw[low_length] at S1
   replace S:=S.back [0,1] S1
   rw[wrap64_in (by omega)]
   refine⟨k-(i+1),by omega,i+1,p2,c2,rfl,by omega,rfl,?_⟩
   rw[words_snoc hlt',←List.append_assoc,←List.append_assoc]
   have e1:n+((2+4*(i+1):Nat):Int)=n+((2+4*i:Nat):Int)+((4:Nat):Int):=by omega
   have e2:l+(2+4*(i+1))=l+(2+4*i)+4:=by omega
   rw[e1,e2]
   rw[←List.append_assoc] at S
   exact S
  ·have hik:i=k:=by omega
   refine⟨rfl,p',c',?_⟩
   have e:rowB xs=low (IntKind.wrap .u64 k) 2++words (xs.take i):=by
    unfold rowB;rw[if_neg (by omega),hxs,List.take_of_length_le (by omega)]
   rw[e,List.length_append,low_length,words_length,List.length_take,Nat.min_eq_left (by omega)]
   exact S.pick [0,1] []
end Go.Proofs.YtdhpmegbmjoekaaGreatDoor.G
end
section
namespace Go.Proofs.YtdhpmegbmjoekaaGreatDoor.G
open Go Go.Sh
set_option linter.unusedVariables false
theorem Text_ok {h0 h:Heap} {T:Nat→Prop} {b:Nat} {n:Int} {r:List Value} {p:Option Addr} {l c:Nat} {bs:List UInt8} {R:List Fact} (S:Sep h0 T h [wx b n p l c r,own 1 p l c (u8s bs)] R):
 callP P n_tape_Writer_Text #[.pointer (some ⟨b,0,none⟩)] h fun v h'=>v= .string (str bs)∧h'=h:=by
 refine call_tape_Writer_Text _ ?_
 unfold tape_Writer_Text
 refine ifB_false rfl ?_
 (repeat (first|with_reducible refine nilI_some ?_|((with_reducible refine ldSlice_id ?_);refine ldSlice_i (S.cell 0 rfl rfl) ?_)))
 have o:=S.own 1 rfl
 exact b2sB_i o.row (by have:=o.1;rw[u8s_length] at this;omega) ⟨_,rfl,rfl,rfl⟩
theorem rBytes_ok {h:Heap} {x:Int} {n:Nat} (hx:0≤x∧x<2 ^ 64) (hn:n<2 ^ 30):callP P n_ref06_Bytes #[.int .u64 x,.int .i64 n] h fun v h'=>v= .string (str (low x n))∧Fra no h h':=by
 refine call_ref06_Bytes _ _ ?_
 unfold ref06_Bytes
 have S:=Sep.start h no
 refine LoopS_i (fun m s g=> ∃i:Nat,s=(x / 256 ^ i,(n:Int),str (low x i),(i:Int),())∧i≤n∧m=n-i∧Sep h no g [] []) n ⟨0,by simp[low];rfl,by omega,rfl,S⟩ ?_
 rintro m s g ⟨i,rfl,hi,rfl,S⟩
 unfold ref06_Bytes_l3
 dsimp only
 refine ifB_dec (fun hlt=> ?_) (fun hge=> ?_)
 ·refine newI_S S (fun b2 _ _ S=> ?_)
  refine b2sB_i (bs:=[lowByte (x / 256 ^ i)]) (Row.of_at (by have:=S.at 0 rfl;rw[wrap_u8,←lowByte_toNat] at this;exact this)) rfl ⟨_,rfl,?_⟩
  refine addStrI_i (by rw[str_size,str_size,low_length,List.length_singleton];omega) ?_
  rw[str_append,←low_snoc,wrap64_in (by omega)]
  refine⟨n-(i+1),by omega,i+1,?_,by omega,rfl,S.pick [] []⟩
  have hp:(0:Int)<256 ^ i:=Int.pow_pos (by decide)
  have h0:0≤x / 256 ^ i:=Int.ediv_nonneg hx.1 (by omega)
  have h1:x / 256 ^ i≤x:=Int.ediv_le_self _ hx.1
  have h2:0≤x / 256 ^ i / 256:=Int.ediv_nonneg h0 (by decide)
  rw[Int.tdiv_eq_ediv_of_nonneg h0,wrap_u64,Int.emod_eq_of_lt h2 (by omega),div_pow_succ]
  rfl
 ·have hin:i=n:=by omega
  subst hin
  exact⟨rfl,S.fra⟩
theorem wrap_u64_range (x:Int):0≤IntKind.wrap .u64 x∧IntKind.wrap .u64 x<2 ^ 64:=by
 rw[wrap_u64];omega
end Go.Proofs.YtdhpmegbmjoekaaGreatDoor.G
end
section
namespace Go.Proofs.YtdhpmegbmjoekaaGreatDoor.G
open Go Go.Sh
set_option linter.unusedVariables false
structure Sl where
 p:Option Addr
 l:Nat
 c:Nat
 xs:List Int
def Sl.ok (s:Sl):Prop:=s.xs.length=s.l∧s.l≤s.c
def Sl.row (s:Sl):Fact:=Sh.row s.p (ints s.xs)
def Sl.nil:Sl:=⟨none,0,0,[]⟩
abbrev Sl.v (s:Sl):Value:= .slice s.p s.l s.c
abbrev ndSh:List Sc:=[.int .i64,.slice,.int .i64,.int .i64,.int .i64,.int .i64,.int .i64,.int .i64,.slice,.slice,.int .i64,.int .i64,.int .i64,.int .i64,.int .i64]
structure Nv where
 kind:Int
 inn:Sl
 width:Int
 size:Int
 step:Int
 gap:Int
 left:Int
 right:Int
 weights:Sl
 bias:Sl
 mult:Int
 shift:Int
 low:Int
 high:Int
 post:Int
def Nv.t (n:Nv):TS ndSh:=(n.kind,(n.inn.p,n.inn.l,n.inn.c),n.width,n.size,n.step,n.gap,n.left,n.right,(n.weights.p,n.weights.l,n.weights.c),(n.bias.p,n.bias.l,n.bias.c),n.mult,n.shift,n.low,n.high,n.post,())
def Nv.cells (n:Nv):List Value:=mkS' ndSh n.t
theorem Nv.cells_length (n:Nv):n.cells.length=15:=rfl
abbrev Nv.v (n:Nv):Value:=agS ndSh n.t
def Nv.ok (n:Nv):Prop:=n.inn.ok∧n.weights.ok∧n.bias.ok
def Nv.rows (n:Nv):Fact:=reads [n.inn.row,n.weights.row,n.bias.row]
structure Nd where
 kind:Int
 inn:List Int
 width:Int
 size:Int
 step:Int
 gap:Int
 left:Int
 right:Int
 weights:List Int
 bias:List Int
 mult:Int
 shift:Int
 low:Int
 high:Int
 post:Int
def Nv.nd (n:Nv):Nd:=⟨n.kind,n.inn.xs,n.width,n.size,n.step,n.gap,n.left,n.right,n.weights.xs,n.bias.xs,n.mult,n.shift,n.low,n.high,n.post⟩
theorem Nd.ext' {a b:Nd} (h1:a.kind=b.kind) (h2:a.inn=b.inn) (h3:a.width=b.width) (h4:a.size=b.size) (h5:a.step=b.step) (h6:a.gap=b.gap) (h7:a.left=b.left) (h8:a.right=b.right) (h9:a.weights=b.weights)
 (h10:a.bias=b.bias) (h11:a.mult=b.mult) (h12:a.shift=b.shift) (h13:a.low=b.low) (h14:a.high=b.high) (h15:a.post=b.post):a=b:=by
 cases a;cases b;simp_all
structure Gv where
 width:Int
 low:Int
 high:Int
 p:Option Addr
 l:Nat
 c:Nat
 out:Int
 ns:List Nv
abbrev grSh:List Sc:=[.int .i64,.int .i64,.int .i64,.slice,.int .i64]
def Gv.t (g:Gv):TS grSh:=(g.width,g.low,g.high,(g.p,g.l,g.c),g.out,())
def Gv.cells (g:Gv):List Value:=mkS' grSh g.t
abbrev Gv.v (g:Gv):Value:=agS grSh g.t
def nflat (ns:List Nv):List Value:=(ns.map Nv.cells).flatten
theorem nflat_length (ns:List Nv):(nflat ns).length=ns.length*15:=flat_len Nv.cells 15 Nv.cells_length ns
theorem nflat_append (a b:List Nv):nflat (a++b)=nflat a++nflat b:=by simp[nflat]
theorem nflat_at {ns:List Nv} {i j:Nat} {n:Nv} (h:ns[i]? =some n) (hj:j<15):(nflat ns)[i*15+j]? =n.cells[j]? :=flat_at Nv.cells 15 Nv.cells_length ns i j n h hj
def Gv.nrow (g:Gv):Fact:=Sh.row g.p (nflat g.ns)
def nrows (ns:List Nv):Fact:=reads (ns.map Nv.rows)
def Gv.ok (g:Gv):Prop:=g.ns.length=g.l∧g.l≤g.c∧ ∀n∈g.ns,n.ok
structure Gr where
 width:Int
 low:Int
 high:Int
 nodes:List Nd
 out:Int
def Gv.gr (g:Gv):Gr:=⟨g.width,g.low,g.high,g.ns.map Nv.nd,g.out⟩
theorem ldNode {h:Heap} {a:Addr} {ns:List Nv} {i:Nat} {n:Nv} {K:TS ndSh→Prop} (r:Row h (some a) (nflat ns)) (hn:ns[i]? =some n) (H:K n.t):ldAg ndSh h (Addr.add a (i*15)) K:=by
 refine ldAg_i (x:=n.t) (fun j v hv=> ?_) H
 have hj:j<15:=by have:=(List.getElem?_eq_some_iff.1 hv).1;rw[mkS_len] at this;exact this
 have hc:=r.cell (i:=i*15+j) (v:=v) (by rw[nflat_at hn hj];exact hv)
 by_cases h0:j=0
 ·subst h0;exact hc
 ·rw[add_add _ _ h0];exact hc
theorem vals_one {l:List Int}: ∀y∈ints l,one1 y=true:=by
 intro y hy;simp only[ints,List.mem_map] at hy;obtain⟨n,_,rfl⟩:=hy;rfl
def byt (x:Int):List UInt8:=low (IntKind.wrap .u64 x) 1
def bytS (xs:List Int):List UInt8:=xs.flatMap byt
theorem byt_length (x:Int):(byt x).length=1:=low_length _ _
theorem bytS_length (xs:List Int):(bytS xs).length=xs.length:=by
 induction xs with
 |nil=>rfl
 |cons x r ih=>rw[bytS,List.flatMap_cons,List.length_append,byt_length,List.length_cons];unfold bytS at ih;omega
theorem bytS_snoc {xs:List Int} {i:Nat} (hi:i<xs.length):bytS (xs.take (i+1))=bytS (xs.take i)++byt xs[i]:=by
 rw[List.take_succ_eq_append_getElem hi];unfold bytS
 rw[List.flatMap_append];simp only[List.flatMap_cons,List.flatMap_nil,List.append_nil]
def fitR (lo hi:Int) (xs:List Int):Prop:= ∀x∈xs,lo≤x∧x≤hi
instance (lo hi:Int) (xs:List Int):Decidable (fitR lo hi xs):=by unfold fitR;infer_instance
theorem fitR_nil (lo hi:Int):fitR lo hi []:=fun x hx=>by cases hx
theorem fitR_cons {lo hi x:Int} {xs:List Int}:fitR lo hi (x::xs)↔(lo≤x∧x≤hi)∧fitR lo hi xs:=by unfold fitR;simp
theorem fitR_take_succ {lo hi:Int} {xs:List Int} {i:Nat} (hi':i<xs.length):fitR lo hi (xs.take (i+1))↔fitR lo hi (xs.take i)∧(lo≤xs[i]∧xs[i]≤hi):=by
 rw[List.take_succ_eq_append_getElem hi']
 unfold fitR
 constructor
 ·intro h;exact⟨fun x hx=>h x (List.mem_append_left _ hx),h _ (List.mem_append_right _ (by simp))⟩
 ·rintro⟨h1,h2⟩ x hx
  rcases List.mem_append.1 hx with hx|hx
  ·exact h1 x hx
  ·simp only[List.mem_singleton] at hx;subst hx;exact h2
abbrev lo32:Int:= -2147483648
abbrev hi32:Int:=2147483647
def Nd.enc (n:Nd):List UInt8:=
 bytS [n.kind,n.inn.length]++bytS n.inn++bytS [n.width,n.size,n.step,n.gap,n.left,n.right]++rowB n.weights++rowB n.bias++Sh.low (IntKind.wrap .u64 n.mult) 2++bytS [n.shift]++words [n.low,n.high]++bytS [n.post]
def Nd.fit (n:Nd):Prop:=
 fitR 0 255 [n.kind,n.inn.length]∧fitR 0 255 n.inn∧fitR 0 255 [n.width,n.size,n.step,n.gap,n.left,n.right]∧(n.weights.length≤65535∧fitR lo32 hi32 n.weights)∧(n.bias.length≤65535∧fitR lo32 hi32 n.bias)∧
  fitR 0 65535 [n.mult]∧fitR 0 255 [n.shift]∧fitR lo32 hi32 [n.low,n.high]∧fitR 0 255 [n.post]
instance (n:Nd):Decidable n.fit:=by unfold Nd.fit;infer_instance
theorem Nd.enc_length (n:Nd):n.enc.length≤26+n.inn.length+4*n.weights.length+4*n.bias.length:=by
 have h1:=rowB_length n.weights
 have h2:=rowB_length n.bias
 simp only[Nd.enc,List.length_append,bytS_length,low_length,words_length,List.length_cons,List.length_nil]
 omega
def Gr.enc (g:Gr):List UInt8:=bytS [g.width]++words [g.low,g.high]++bytS [(g.nodes.length:Int)]++g.nodes.flatMap Nd.enc++bytS [g.out]
def Gr.fit (g:Gr):Prop:=fitR 0 255 [g.width]∧fitR lo32 hi32 [g.low,g.high]∧fitR 0 255 [(g.nodes.length:Int)]∧(∀n∈g.nodes,n.fit)∧fitR 0 255 [g.out]
instance (g:Gr):Decidable g.fit:=by unfold Gr.fit;infer_instance
def magic:List UInt8:=[69,65,82,49]
def Gr.out2 (g:Gr):List UInt8×Int:=if g.fit then(magic++g.enc,0) else([],22)
def Nd.short (n:Nd):Prop:=n.inn.length≤2 ^ 20∧n.weights.length≤2 ^ 20∧n.bias.length≤2 ^ 20
def Gr.short (g:Gr):Prop:=g.nodes.length≤1000∧ ∀n∈g.nodes,n.short
theorem encs_length: ∀(l:List Nd),(∀n∈l,n.short)→(l.flatMap Nd.enc).length≤l.length*2 ^ 24
 |[],_=>by simp
 |n::r,h=>by
  have h1:=encs_length r fun x hx=>h x (by simp[hx])
  have h2:=n.enc_length
  have h3:=h n (by simp)
  unfold Nd.short at h3
  simp only[List.flatMap_cons,List.length_append,List.length_cons,Nat.add_mul]
  omega
end Go.Proofs.YtdhpmegbmjoekaaGreatDoor.G
end
