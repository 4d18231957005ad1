/- ShSem ShStep ShOp ShSound ShMapS ShSound2, in one text. -/
import Derived.Orders
import Derived.OrdersHeld
import Derived.Scope
import Derived.KernelRfl
import Derived.OrdersIn
import Derived.RangeFuncRecord
set_option linter.unusedVariables false
set_option linter.unusedSimpArgs false
namespace Go.Sh
abbrev bo:= @List.getElem?_eq_getElem
abbrev gD:= @List.take_succ_eq_append_getElem
abbrev hC:= @Int.toNat_natCast
abbrev py:= @List.take_of_length_le
abbrev OU:= @Nat.le_of_ble_eq_true
abbrev R8:= @List.getElem?_eq_some_iff
abbrev SN:= @Nat.zero_add
abbrev Tz:= @List.length_append
abbrev Ug:= @List.length_map
abbrev VK:= @List.mem_singleton
abbrev VL:= @List.mem_of_getElem?
abbrev VN:= @List.getElem_mem
abbrev VO:= @Nat.mul_one
abbrev VP:= @List.getElem?_map
abbrev VQ:= @List.length_replicate
abbrev VS:= @List.length_cons
abbrev VT:= @List.getD_eq_getElem?_getD
abbrev VU:= @List.length_set
abbrev VV:= @List.length_take
abbrev VW:= @List.mem_append
abbrev VX:= @Nat.le_refl
abbrev VY:= @List.append_assoc
abbrev VZ:= @List.mem_map
abbrev V0:= @List.mem_cons_of_mem
abbrev V1:= @List.mem_map_of_mem
abbrev V2:= @List.map_append
abbrev V3:= @List.getElem?_eq_none
abbrev V4:= @List.getElem?_set_self
abbrev V5:= @List.mem_cons
abbrev V6:= @List.drop_eq_getElem_cons
abbrev V7:= @List.foldl_append
abbrev V8:= @Bool.and_eq_true
abbrev V9:= @List.length_nil
abbrev Wa:= @List.getElem?_range
abbrev Wb:= @List.mem_cons_self
abbrev Wc:= @List.map_cons
abbrev Wd:= @List.append_nil
abbrev We:= @Nat.add_zero
abbrev Wf:= @List.map_congr_left
abbrev Wg:= @List.foldl_cons
abbrev Wh:= @List.length_drop
abbrev Wi:= @Array.getElem?_eq_some_iff
abbrev Wj:= @List.drop_of_length_le
abbrev Wk:= @List.ext_getElem?
abbrev Wl:= @List.getElem?_append_right
abbrev Wm:= @List.getElem?_append
abbrev Wn:= @List.length_eq_zero_iff
abbrev Wo:= @Int.mul_le_mul
abbrev Wp:= @List.replicate_succ
abbrev Wq:= @List.mem_range
abbrev Wr:= @Nat.add_mul
abbrev Ws:= @Bool.false_eq_true
abbrev Wt:= @List.mem_append_left
abbrev Wu:= @Nat.mul_le_mul_right
abbrev Wv:= @List.getElem?_set_ne
abbrev Ww:= @List.flatMap_cons
abbrev Wx:= @List.mem_iff_getElem?
abbrev Wy:= @List.set_append_right
abbrev Wz:= @List.getElem?_drop
abbrev WA:= @Int.mul_nonneg
abbrev WC:= @Int.toNat_zero
abbrev WD:= @Nat.sub_self
abbrev WE:= @List.getElem?_append_left
abbrev WF:= @Bool.eq_iff_iff
abbrev WG:= @Nat.pow_le_pow_right
abbrev WH:= @Nat.zero_mul
abbrev WI:= @List.pairwise_cons
abbrev WJ:= @List.set_getElem_self
abbrev WK:= @List.take_zero
abbrev WL:= @List.pairwise_append
abbrev WM:= @Option.map_eq_some_iff
abbrev WN:= @Int.natCast_pow
abbrev WO:= @List.not_mem_nil
abbrev WP:= @List.mem_append_right
abbrev WQ:= @List.length_singleton
abbrev WR:= @List.flatten_cons
abbrev WS:= @List.getElem?_concat_length
abbrev WT:= @List.length_range
abbrev WU:= @Array.mem_toList_iff
abbrev WV:= @Nat.zero_le
abbrev WW:= @List.set_cons_zero
abbrev WX:= @List.sum_cons
abbrev WY:= @List.nodup_cons
abbrev WZ:= @List.map_nil
abbrev W3:= @Nat.le_trans
abbrev W4:= @Int.emod_eq_of_lt
abbrev W5:= @List.nodup_append
abbrev W6:= @List.take_append_of_le_length
abbrev W7:= @Nat.eq_of_beq_eq_true
abbrev W8:= @Option.isSome_iff_exists
abbrev W9:= @List.mem_of_mem_take
abbrev Xa:= @List.map_map
abbrev Xb:= @List.drop_zero
abbrev Xc:= @List.set_set
abbrev Xd:= @Nat.min_eq_left
abbrev Xe:= @List.mem_or_eq_of_mem_set
abbrev Xf:= @Nat.lt_of_lt_of_le
abbrev Xg:= @Bool.not_eq_true'
abbrev Xh:= @List.getElem?_set
abbrev Xi:= @Int.tdiv_eq_ediv_of_nonneg
abbrev Xj:= @Bool.not_eq_false'
abbrev Xk:= @List.getElem?_take
abbrev Xl:= @List.getElem_set_self
abbrev Xm:= @List.mem_filter
abbrev Xn:= @Bool.or_eq_false_iff
abbrev Xo:= @Array.length_toList
abbrev Xp:= @List.replicate_zero
abbrev Xq:= @Int.mul_le_mul_of_nonneg_right
abbrev Xr:= @List.take_length
abbrev Xs:= @Int.mul_le_mul_of_nonneg_left
abbrev Xt:= @Int.pow_succ
abbrev Xu:= @List.length_eq_one_iff
abbrev Xv:= @List.getElem?_toArray
abbrev Xw:= @List.take_append_drop
abbrev Xx:= @Int.le_refl
abbrev Xy:= @List.all_eq_true
abbrev Xz:= @List.flatMap_nil
abbrev XA:= @List.length_tail
abbrev XB:= @List.flatMap_append
abbrev XC:= @Int.emod_nonneg
abbrev XD:= @Int.natCast_mul
abbrev XE:= @List.range_succ
abbrev XF:= @List.getElem?_singleton
abbrev XG:= @List.pairwise_singleton
abbrev XH:= @List.map_set
abbrev XI:= @Option.getD_some
abbrev XJ:= @List.getElem_map
abbrev XK:= @Nat.one_mul
abbrev XL:= @Int.ediv_emod_unique
abbrev XM:= @Int.mul_le_mul_of_nonpos_left
abbrev XN:= @List.getElem?_mapIdx
abbrev XO:= @List.getD_cons_zero
abbrev XP:= @List.getD_cons_succ
abbrev XQ:= @Int.mul_comm
abbrev XR:= @List.idxOf_lt_length_of_mem
abbrev XS:= @Int.emod_lt_of_pos
abbrev XT:= @List.drop_drop
abbrev XU:= @List.getElem?_eq_none_iff
abbrev XV:= @Int.pow_pos
abbrev XW:= @List.pairwise_map
abbrev XX:= @List.idxOf_append
abbrev XY:= @Int.mul_assoc
abbrev XZ:= @Nat.mod_eq_of_lt
abbrev X0:= @Int.ediv_ediv_of_nonneg
abbrev X1:= @List.nodup_range
abbrev X2:= @List.getElem?_replicate
abbrev X3:= @Nat.add_sub_cancel_left
abbrev X4:= @Array.getElem?_eq_none
abbrev X5:= @Int.le_trans
abbrev X6:= @Bool.or_eq_true
abbrev X7:= @Nat.not_lt_zero
abbrev X8:= @Array.mem_of_getElem?
abbrev X9:= @Nat.mul_le_mul
abbrev Ya:= @List.mem_iff_getElem
abbrev Yb:= @List.flatten_append
abbrev Yc:= @Nat.testBit_two_pow
abbrev Yd:= @Int.toNat_of_nonneg
abbrev Ye:= @List.getElem_set_ne
abbrev Yf:= @Nat.add_assoc
theorem Yg{α:Type _}{a:α}{l m:List α}:(a::l)++m=a::(l++m):=rfl
theorem Yh{α:Type _}{l:List α}:[]++l=l:=rfl
section
abbrev ah:=Array Obj
def aB(h:ah)(a:Addr):Option Value:=
 match h[a.block]? with
 |some (.cells c _ _)=>if a.spot.isSome then none else c[a.off]?
 |_=>none
def Ph(h:ah)(r:Nat):Option (TypeId×Nat):=
 match h[r]? with
 |some (.cells c a _)=>some (a,c.size)
 |_=>none
def u9(h:ah)(a:Addr):Bool:=
 match h[a.block]? with
 |some (.cells _ _ (lo,hi))=>lo≤a.off&&a.off<hi
 |_=>false
def G3(h:ah)(a:Addr)(n:Nat):ah:=
 if n=0 then h else
 h.modify a.block fun
  | .cells c b (lo,hi)=> .cells c b (if lo==hi then(a.off,a.off+n) else(min lo a.off,max hi (a.off+n)))
  |o=>o
def Fa(h:ah)(a:Addr)(v:Value):ah:=
 h.modify a.block fun
  | .cells c d b=> .cells (if a.spot.isSome then c else c.setIfInBounds a.off v) d b
  |o=>o
def me:Obj→Bool
 | .cells .. =>true
 |_=>false
def ib:Value→Bool
 | .agg _| .tuple _=>false
 |_=>true
def cW{α:Type}(p:Program):Sem α→ah→(α→ah→Prop)→Prop
 | .pure a,h,K=>K a h
 | .load _ a k,h,K=> ∃v,aB h a=some v∧cW p (k v) h K
 | .store _ a v k,h,K=>ib v=true∧(∃u,aB h a=some u)∧u9 h a=false∧cW p k (Fa h a v) K
 | .new o k,h,K=>cW p (k h.size) (h.push o) K
 | .shape r k,h,K=>cW p (k (Ph h r)) h K
 | .freeze a n k,h,K=>cW p k (G3 h a n) K
 | .frozen a k,h,K=>cW p (k (u9 h a)) h K
 | .getObj r k,h,K=> ∃o,h[r]? =some o∧me o=false∧cW p (k o) h K
 | .setObj r o k,h,K=> ∃u,h[r]? =some u∧me u=false∧cW p k (h.setIfInBounds r o) K
 | .choose q k,h,K=>if q.forced then cW p (k 0) h K else ∀t,cW p (k (q.cut t)) h K
 | .sys _ _,_,_=>False
 | .program k,h,K=>cW p (k p) h K
 | .mark _ k,h,K=>cW p k h K
 | .halt _,_,_=>False
structure Fr (w w':World):Prop where
 tape:w'.tape=w.tape
 os:w'.os=w.os
 output:w'.output=w.output
theorem Fr.refl(w:World):Fr w w:=⟨rfl,rfl,rfl⟩
theorem Fr.trans{a b c:World}(h:Fr a b)(k:Fr b c):Fr a c:=⟨k.tape.trans h.tape,k.os.trans h.os,k.output.trans h.output⟩
theorem Is{α:Type}(p:Program)(s:Sem α): ∀(h:ah)(K:α→ah→Prop),cW p s h K→ ∀w:World,w.heap=h→
 ∃a d,s.run p w= .ok a d∧Fr w d∧K a d.heap:=by
 induction s with
 |pure a=>intro h K H w f;exact⟨a,w,rfl,Fr.refl w,f▸H⟩
 |load m a k j=>
  intro h K H w f;obtain⟨v,D,H⟩:=H;have t:w.cell? a=some v:=by rw[←D,←f];rfl
  obtain⟨x,d,i,b,g⟩:=j v h K H w f;exact⟨x,d,by simp only[Sem.run,t];exact i,b,g⟩
 |store m a v k j=>
  intro h K H w f;obtain⟨B,⟨u,C⟩,y,H⟩:=H;have t:w.cell? a=some u:=by rw[←C,←f];rfl
  have E:w.frozen? a=false:=by rw[←y,←f];rfl
  obtain⟨x,d,i,b,g⟩:=j (Fa h a v) K H (w.setCell a v) (by rw[←f];rfl);refine⟨x,d,?_,⟨b.tape,b.os,b.output⟩,g⟩;cases v<;>first|(simp[ib]at B;done)|(simp only[Sem.run,t,E,Ws,if_false];exact i)
 |new o k j=>
  intro h K H w f;subst f;obtain⟨x,d,i,b,g⟩:=j w.heap.size (w.heap.push o) K H {w with heap:=w.heap.push o} rfl;exact⟨x,d,i,⟨b.tape,b.os,b.output⟩,g⟩
 |shape r k j=>
  intro h K H w f;subst f;obtain⟨x,d,i,b,g⟩:=j (Ph w.heap r) w.heap K H w rfl;exact⟨x,d,i,b,g⟩
 |freeze a n k j=>
  intro h K H w f;subst f;obtain⟨x,d,i,b,g⟩:=j (G3 w.heap a n) K H (w.freeze a n) (by unfold World.freeze G3;split<;>rfl);have:Fr w (w.freeze a n):=by unfold World.freeze;split<;>exact⟨rfl,rfl,rfl⟩
  exact⟨x,d,i,this.trans b,g⟩
 |frozen a k j=>
  intro h K H w f;subst f;obtain⟨x,d,i,b,g⟩:=j (u9 w.heap a) w.heap K H w rfl;exact⟨x,d,i,b,g⟩
 |getObj r k j=>
  intro h K H w f;subst f;obtain⟨o,A,z,H⟩:=H;obtain⟨x,d,i,b,g⟩:=j o w.heap K H w rfl;refine⟨x,d,?_,b,g⟩;simp only[Sem.run,A];cases o<;>first|(simp[me]at z;done)|exact i
 |setObj r o k j=>
  intro h K H w f;subst f;obtain⟨u,A,z,H⟩:=H;obtain⟨x,d,i,b,g⟩:=j (w.heap.setIfInBounds r o) K H {w with heap:=w.heap.setIfInBounds r o} rfl;refine⟨x,d,?_,⟨b.tape,b.os,b.output⟩,g⟩;simp only[Sem.run,A];cases u<;>first|(simp[me]at z;done)|exact i
 |choose q k j=>
  intro h K H w f;subst f;simp only[cW]at H;by_cases l:q.forced=true
  ·rw[if_pos l]at H;obtain⟨x,d,i,b,g⟩:=j 0 w.heap K H w rfl;exact⟨x,d,by simp only[Sem.run,l,if_true];exact i,b,g⟩
  ·rw[if_neg l]at H;obtain⟨x,d,i,b,g⟩:=j _ w.heap K (H (w.tape w.drawn q)) {w with drawn:=w.drawn+1} rfl;refine⟨x,d,?_,⟨b.tape,b.os,b.output⟩,g⟩;simp only[Sem.run,l,Ws,if_false];exact i
 |sys c k j=>intro h K H;exact H.elim
 |program k j=>
  intro h K H w f;obtain⟨x,d,i,b,g⟩:=j p h K H w f;exact⟨x,d,i,b,g⟩
 |mark m k j=>
  intro h K H w f;obtain⟨x,d,i,b,g⟩:=j h K H w f;exact⟨x,d,i,b,g⟩
 |halt e=>intro h K H;exact H.elim
theorem aY{α β:Type}(p:Program)(s:Sem α)(f:α→Sem β): ∀(h:ah)(K:β→ah→Prop),
 cW p (s>>=f) h K↔cW p s h (fun a d=>cW p (f a) d K):=by
 show ∀(h:ah)(K:β→ah→Prop),cW p (Sem.bind s f) h K↔_
 induction s with
 |pure a=>intro h K;rfl
 |load m a k b=>intro h K;simp only[Sem.bind,cW,b]
 |store m a v k b=>intro h K;simp only[Sem.bind,cW,b]
 |new o k b=>intro h K;simp only[Sem.bind,cW,b]
 |shape r k b=>intro h K;simp only[Sem.bind,cW,b]
 |freeze a n k b=>intro h K;simp only[Sem.bind,cW,b]
 |frozen a k b=>intro h K;simp only[Sem.bind,cW,b]
 |getObj r k b=>intro h K;simp only[Sem.bind,cW,b]
 |setObj r o k b=>intro h K;simp only[Sem.bind,cW,b]
 |choose q k b=>intro h K;simp only[Sem.bind,cW,b]
 |sys c k b=>intro h K;rfl
 |program k b=>intro h K;simp only[Sem.bind,cW,b]
 |mark m k b=>intro h K;simp only[Sem.bind,cW,b]
 |halt e=>intro h K;rfl
theorem va{α:Type}(p:Program)(s:Sem α): ∀(h:ah){K f:α→ah→Prop},cW p s h K→(∀a l,K a l→f a l)→cW p s h f:=by
 induction s with
 |pure a=>intro h K f H b;exact b _ _ H
 |load m a k d=>intro h K f H b;obtain⟨v,i,H⟩:=H;exact⟨v,i,d v h H b⟩
 |store m a v k d=>intro h K f H b;obtain⟨u,g,w,H⟩:=H;exact⟨u,g,w,d _ H b⟩
 |new o k d=>intro h K f H b;exact d _ _ H b
 |shape r k d=>intro h K f H b;exact d _ _ H b
 |freeze a n k d=>intro h K f H b;exact d _ H b
 |frozen a k d=>intro h K f H b;exact d _ _ H b
 |getObj r k d=>intro h K f H b;obtain⟨v,i,g,H⟩:=H;exact⟨v,i,g,d v h H b⟩
 |setObj r o k d=>intro h K f H b;obtain⟨v,i,g,H⟩:=H;exact⟨v,i,g,d _ H b⟩
 |choose q k d=>
  intro h K f H b;simp only[cW]at H ⊢;split at H
  ·rename_i j;rw[if_pos j];exact d _ _ H b
  ·rename_i j;rw[if_neg j];exact fun t=>d _ _ (H t) b
 |sys c k d=>intro h K f H;exact H.elim
 |program k d=>intro h K f H b;exact d _ _ H b
 |mark m k d=>intro h K f H b;exact d _ H b
 |halt e=>intro h K f H;exact H.elim
def Nt{α:Type}(p:Program):Sem α→Option α
 | .pure a=>some a
 | .program k=>Nt p (k p)
 | .mark _ k=>Nt p k
 |_=>none
theorem Pi{α:Type}(p:Program)(s:Sem α){a:α}(h:Nt p s=some a): ∀w,s.run p w= .ok a w:=by
 induction s with
 |pure b=>intro w;simp only[Nt,Option.some.injEq]at h;subst h;rfl
 |program k c=>intro w;exact c p h w
 |mark m k c=>intro w;exact c h w
 |_=>simp[Nt]at h
def Fb{α:Type}(p:Program):Sem α→ah→Option (α×ah)
 | .pure a,h=>some (a,h)
 | .program k,h=>Fb p (k p) h
 | .mark _ k,h=>Fb p k h
 | .new o k,h=>Fb p (k h.size) (h.push o)
 |_,_=>none
theorem FE{α:Type}(p:Program)(s:Sem α): ∀{h c:ah}{a:α},Fb p s h=some (a,c)→ ∀K:α→ah→Prop,K a c→cW p s h K:=by
 induction s with
 |pure b=>intro h c a H K d;simp only[Fb,Option.some.injEq,Prod.mk.injEq]at H;obtain⟨rfl,rfl⟩:=H;exact d
 |program k e=>intro h c a H K d;exact e p H K d
 |mark m k e=>intro h c a H K d;exact e H K d
 |new o k e=>intro h c a H K d;exact e _ H K d
 |_=>intro h c a H;simp[Fb]at H
end
section
theorem bj{α β:Type}(p:Program)(s:Sem α)(f:α→Sem β): ∀w,(s>>=f).run p w=match s.run p w with| .ok a d=>(f a).run p d| .halt e d=> .halt e d:=by
 show ∀w,(Sem.bind s f).run p w=_
 induction s with
 |pure a=>intro w;rfl
 |load m a k b=>
  intro w;simp only[Sem.bind,Sem.run];split
  ·exact b _ w
  ·split
   ·exact b _ w
   ·rfl
 |store m a v k b=>
  intro w;cases v<;>simp only[Sem.bind,Sem.run]<;>(split<;>(split<;>first|rfl|exact b _))
 |new o k b=>intro w;exact b _ _
 |shape r k b=>intro w;exact b _ _
 |freeze a n k b=>intro w;exact b _
 |frozen a k b=>intro w;exact b _ _
 |getObj r k b=>intro w;simp only[Sem.bind,Sem.run];split<;>first|rfl|exact b _ _
 |setObj r o k b=>intro w;simp only[Sem.bind,Sem.run];split<;>first|rfl|exact b _
 |choose q k b=>intro w;simp only[Sem.bind,Sem.run];split<;>exact b _ _
 |sys c k b=>intro w;exact b _ _
 |program k b=>intro w;exact b _ _
 |mark m k b=>intro w;exact b _
 |halt e=>intro w;rfl
theorem bN{α:Type}(p:Program)(a:α)(w:World):(pure a:Sem α).run p w= .ok a w:=rfl
theorem bI{P:Program}{t:TypeId}{d:TypeDesc}(h:P.underlying t=some d)(w:World):(underlying t).run P w= .ok d w:=by
 simp only[underlying,bj,program,Sem.run,h];rfl
theorem Fc{P:Program}{t:TypeId}{i:TypeInfo}(h:P.info? t=some i)(w:World):(typeInfo t).run P w= .ok i w:=by
 simp only[typeInfo,bj,program,Sem.run,h];rfl
theorem fc{P:Program}{t:TypeId}{i:TypeInfo}(h:P.info? t=some i)(w:World):(sizeOf t).run P w= .ok i.size w:=by
 simp only[sizeOf,bj,Fc h];rfl
theorem cz{P:Program}{t:TypeId}{d:TypeDesc}(a:P.underlying t=some d)(h:ah)(K:TypeDesc→ah→Prop):cW P (underlying t) h K↔K d h:=by
 simp only[underlying,aY,program,cW,a];rfl
theorem dQ{P:Program}{t:TypeId}{d:TypeInfo}(a:P.info? t=some d)(h:ah)(K:TypeInfo→ah→Prop):cW P (typeInfo t) h K↔K d h:=by
 simp only[typeInfo,aY,program,cW,a];rfl
theorem uu{P:Program}{t:TypeId}{d:TypeInfo}(a:P.info? t=some d)(h:ah)(K:Nat→ah→Prop):cW P (sizeOf t) h K↔K d.size h:=by
 simp only[sizeOf,aY,dQ a];rfl
theorem cg{α:Type}(P:Program)(a:α)(h:ah)(K:α→ah→Prop):cW P (pure a) h K↔K a h:=Iff.rfl
inductive Tv where
 |bot
 |known (b:Bool)
 |val (v:Value)
 |mark (ds:List Deferred)
def Tv.ds:Tv→List Deferred
 | .mark ds=>ds
 |_=>[]
def Tv.v:Tv→Value
 | .bot=>undef
 | .mark _=>undef
 | .known b=> .bool b
 | .val v=>v
abbrev Tm:=Nat→Tv
def upd(t:Tm)(d:Nat)(x:Tv):Tm:=fun i=>match Nat.beq i d with|true=>x|false=>t i
def put(n:Nat)(t:Tm)(a:Option Tmp)(x:Tv):Tm:=
 match a with
 |none=>t
 |some d=>match Nat.blt d n with|true=>upd t d x|false=>t
def OT(t:Tm):Operand→Tv
 | .tmp i=>t i
 | .const (.bool b)=> .known b
 | .const v=> .val v
 | .global g=> .val (.pointer (some ⟨g,0,none⟩))
 | .func f=> .val (.func (.func f) #[] #[])
def SZ(t:Tm):Operand→Bool
 | .tmp i=>match t i with| .bot=>false|_=>true
 |_=>true
def G4(t:Tm):List Operand→Bool
 |[]=>true
 |x::r=>match SZ t x with|true=>G4 t r|false=>false
def Nu(z:Value)(K:Value→Prop):Prop:=
 match z with
 | .int k _=> ∃n:Int,K (.int k n)
 | .bool _=> ∃b:Bool,K (.bool b)
 | .string _=> ∃s:ByteArray,K (.string s)
 | .pointer _=> ∃p:Option Addr,K (.pointer p)
 | .slice _ _ _=> ∃(p:Option Addr)(l c:Nat),K (.slice p l c)
 | .map _=> ∃r:Option Nat,K (.map r)
 |_=> ∃v:Value,K v
theorem ks{z:Value}{K:Value→Prop}(h:Nu z K): ∃v,K v:=by
 cases z<;>simp only[Nu]at h<;>first|exact h|(obtain⟨x,h⟩:=h;exact⟨_,h⟩)|(obtain⟨x,y,z,h⟩:=h;exact⟨_,h⟩)
def Rk:List Value→(List Value→Prop)→Prop
 |[],K=>K []
 |z::zs,K=>Nu z fun v=>Rk zs fun a=>K (v::a)
theorem zI: ∀{zs:List Value}{K:List Value→Prop},Rk zs K→ ∃a,K a
 |[],_,h=>⟨_,h⟩
 |_::_,_,h=>by
  obtain⟨v,h⟩:=ks h;obtain⟨a,h⟩:=zI h;exact⟨_,h⟩
inductive Ty where
 |one (z:Value)
 |agg (zs:List Value)
def zJ:TypeDesc→Bool
 | .struct _| .array _ _=>true
 |_=>false
def yc(P:Program)(t:TypeId):Option Ty:=
 match P.underlying t,P.info? t with
 |some d,some i=>
  match zJ d,i.zero with
  |true,some (.agg zs)=>match Nat.beq zs.size i.size with|true=>some (.agg zs.toList)|false=>none
  |false,some z=>some (.one z)
  |_,_=>none
 |_,_=>none
def S6(a:Ty)(K:Value→Prop):Prop:=
 match a with
 | .one z=>Nu z K
 | .agg zs=>Rk zs fun b=>K (.agg b.toArray)
theorem FF{a:Ty}{K:Value→Prop}(h:S6 a K): ∃v,K v:=by
 cases a with
 |one z=>exact ks h
 |agg zs=>obtain⟨b,h⟩:=zI h;exact⟨_,h⟩
def Ma:List (Option Ty)→(List Value→Prop)→Prop
 |[],K=>K []
 |none::zs,K=> ∃v:Value,Ma zs fun a=>K (v::a)
 |some z::zs,K=>S6 z fun v=>Ma zs fun a=>K (v::a)
theorem w9: ∀{zs:List (Option Ty)}{K:List Value→Prop},Ma zs K→ ∃a,K a
 |[],_,h=>⟨_,h⟩
 |none::_,_,h=>by obtain⟨v,h⟩:=h;obtain⟨a,h⟩:=w9 h;exact⟨_,h⟩
 |some _::_,_,h=>by obtain⟨v,h⟩:=FF h;obtain⟨a,h⟩:=w9 h;exact⟨_,h⟩
def AH(P:Program)(t:TypeId)(v:Value)(K:Value→Prop):Prop:=
 match P.underlying t with
 |some (.tuple b)=>Ma (b.toList.map (yc P)) fun a=>v= .tuple a.toArray∧K (.tuple a.toArray)
 |_=>match yc P t with
  |some c=>S6 c fun x=>v=x∧K x
  |none=>K v
theorem mZ{P:Program}{t:TypeId}{v:Value}{K:Value→Prop}(h:AH P t v K):K v:=by
 unfold AH at h;split at h
 ·obtain⟨c,b,a⟩:=w9 h;rw[b];exact a
 ·split at h
  ·obtain⟨c,b,a⟩:=FF h;rw[b];exact a
  ·exact h
def Mb(z:Value)(h:ah)(a:Addr)(K:Value→Prop):Prop:=Nu z fun v=>aB h a=some v∧K v
def FG:List Value→ah→Addr→Nat→(List Value→Prop)→Prop
 |[],_,_,_,K=>K []
 |z::zs,h,a,i,K=>Mb z h (a.add i) fun v=>FG zs h a (i+1) fun b=>K (v::b)
def Dk(P:Program)(t:TypeId)(h:ah)(a:Addr)(K:Value→Prop):Prop:=
 match yc P t with
 |some (.one z)=>Mb z h a K
 |some (.agg zs)=>FG zs h a 0 fun b=>K (.agg b.toArray)
 |none=>False
def aQ(h:ah)(a:Addr)(v:Value)(K:ah→Prop):Prop:=
 (∃u,aB h a=some u)∧u9 h a=false∧K (Fa h a v)
def aZ:List Value→ah→Addr→Nat→(ah→Prop)→Prop
 |[],h,_,_,K=>K h
 |v::vs,h,a,i,K=>match ib v with
  |true=>aQ h (a.add i) v fun b=>aZ vs b a (i+1) K
  |false=>False
def KS(P:Program)(t:TypeId)(h:ah)(a:Addr)(v:Value)(K:ah→Prop):Prop:=
 match P.info? t with
 |some i=>match Nat.beq v.cells.size i.size with|true=>aZ v.cells.toList h a 0 K|false=>False
 |none=>False
def dY(h a:ah):Prop:= ∀(b:Nat)(c:Array Value)(e:TypeId)(f:Nat×Nat),h[b]? =some (Obj.cells c e f)→a[b]? =some (Obj.cells c e f)
theorem dY.refl(h:ah):dY h h:=fun _ _ _ _ x=>x
theorem dY.trans{a b c:ah}(h:dY a b)(k:dY b c):dY a c:=fun _ _ _ _ x=>k _ _ _ _ (h _ _ _ _ x)
theorem dY.push(h:ah)(o:Obj):dY h (h.push o):=fun b c e f x=>by
 have d:b<h.size:=by
  rcases Nat.lt_or_ge b h.size with a|a
  ·exact a
  ·rw[X4 a]at x;cases x
 rw[Array.getElem?_push,if_neg (by omega)];exact x
theorem dY.cell{h d:ah}(k:dY h d){a:Addr}{v:Value}(b:aB h a=some v):aB d a=some v:=by
 unfold aB at *;split at b
 ·rename_i c e f g;rw[k _ _ _ _ g];exact b
 ·cases b
theorem yd{P:Program}{w:World}{a:Addr}{v:Value}(h:aB w.heap a=some v):(load a).run P w= .ok v w:=by
 have b:w.cell? a=some v:=h;simp only[load,Sem.run,b]
theorem iX{P:Program}{t:TypeId}{d:TypeDesc}(h:P.underlying t=some d)(w:World):(isAgg t).run P w= .ok (zJ d) w:=by
 simp only[isAgg,bj,bI h];cases d<;>rfl
theorem Nw(P:Program): ∀(zs:List Value)(h:ah)(a:Addr)(i:Nat)(K:List Value→Prop),FG zs h a i K→
 ∃c,K c∧c.length=zs.length∧ ∀w:World,dY h w.heap→ ∀b,(loadCellsFrom a i zs.length b).run P w= .ok (b++c.toArray) w:=by
 intro zs
 induction zs with
 |nil=>intro h a i K H;exact⟨[],H,rfl,fun w _ b=>by simp[loadCellsFrom]⟩
 |cons z zs k=>
  intro h a i K H;simp only[FG,Mb]at H;obtain⟨v,j,H⟩:=ks H;obtain⟨c,e,f,g⟩:=k h a (i+1) _ H;refine⟨v::c,e,by simp[f],fun w d b=> ?_⟩;simp only[VS,loadCellsFrom,bj,yd (d.cell j)];rw[g w d];simp
theorem FH{P:Program}{t:TypeId}{h:ah}{a:Addr}{K:Value→Prop}(H:Dk P t h a K):
 ∃v,K v∧ ∀w:World,dY h w.heap→(loadVar t a).run P w= .ok v w:=by
 unfold Dk yc at H;cases hu:P.underlying t with
 |none=>simp[hu]at H
 |some d=>
  cases hi:P.info? t with
  |none=>simp[hu,hi]at H
  |some i=>
   simp only[hu,hi]at H;cases hd:zJ d with
   |false=>
    simp only[hd]at H;cases hz:i.zero with
    |none=>simp[hz]at H
    |some z=>
     simp only[hz]at H;obtain⟨v,j,H⟩:=ks H;refine⟨v,H,fun w e=> ?_⟩;simp only[loadVar,bj,iX hu,hd,Ws,if_false,yd (e.cell j)]
   |true=>
    cases hz:i.zero with
    |none=>simp[hz,hd]at H
    |some z=>
     cases z<;>simp only[hz,hd]at H<;>try exact H.elim
     rename_i zs;cases hn:Nat.beq zs.size i.size with
     |false=>simp[hn]at H
     |true=>
      simp only[hn]at H;obtain⟨l,f,k,g⟩:=Nw P zs.toList h a 0 _ H;refine⟨_,f,fun w e=> ?_⟩;have b:=g w e #[];have c:i.size=zs.toList.length:=by rw[Xo];exact(W7 hn).symm
      simp only[loadVar,bj,iX hu,hd,if_true,fc hi,loadCells,c,b,bN,Array.empty_append]
theorem uv(P:Program): ∀(b:List Value)(h:ah)(a:Addr)(i:Nat)(K:ah→Prop),aZ b h a i K→cW P (storeCells a b i) h fun _ c=>K c:=by
 intro b
 induction b with
 |nil=>intro h a i K H;exact H
 |cons v b f=>
  intro h a i K H;simp only[aZ]at H;cases h1:ib v with
  |false=>simp[h1]at H
  |true=>
   simp only[h1]at H;obtain⟨e,d,H⟩:=H;simp only[storeCells,aY,store,cW];exact⟨h1,e,d,f _ _ _ _ H⟩
theorem It{P:Program}{t:TypeId}{h:ah}{a:Addr}{v:Value}{K:ah→Prop}(H:KS P t h a v K):cW P (storeVar t a v) h fun _ b=>K b:=by
 unfold KS at H;cases hi:P.info? t with
 |none=>simp[hi]at H
 |some i=>
  simp only[hi]at H;cases hn:Nat.beq v.cells.size i.size with
  |false=>simp[hn]at H
  |true=>
   simp only[hn]at H;simp only[storeVar,aY,uu hi];rw[if_neg (by rw[W7 hn];simp)];exact uv P _ _ _ _ _ H
end
section
def au(P:Program)(f:FuncId)(args:Array Value)(h:ah)(K:Value→ah→Prop):Prop:=
 (∀w,(callFunc f args).run P w= .ok (.enter f args) w)∧
 ∀w:World,w.heap=h→Calls P f args w fun e a=> ∃v,e= .returned v∧Fr w a∧K v a.heap
theorem au.mono{P:Program}{f:FuncId}{args:Array Value}{h:ah}{K a:Value→ah→Prop}(H:au P f args h K)(b: ∀v h',K v h'→a v h'):au P f args h a:=
 ⟨H.1,fun w c=>(H.2 w c).mono fun _ _ ⟨v,e,f,k⟩=>⟨v,e,f,b _ _ k⟩⟩
inductive VB where
 |pure|load|alloc|loud
def Mc(P:Program)(t:TypeId):Bool:=
 match P.underlying t with
 |some (.int _)=>true
 |_=>false
def S7(P:Program)(t:TypeId):Bool:=
 match P.underlying t with
 |some (.slice _)=>true
 |_=>false
def Iu(P:Program):Op→VB
 | .move _| .assign _| .pick .. | .nilCheck _| .unOp .. | .fieldAddr .. | .field .. | .indexAddr .. | .index .. | .slice .. | .extract .. | .makeFunc .. | .build .. | .binOp .. => .pure
 | .convert s d _=>match Mc P s,Mc P d with|true,true=> .pure|_,_=> .loud
 | .call c=>match c.callee with
   | .builtin .len| .builtin .cap| .builtin .min| .builtin .max=> .pure
   |_=> .loud
 | .load .. => .load
 | .alloc .. | .box .. | .buildSlice .. => .alloc
 |_=> .loud
def bnd(x:Option Value)(y d:Nat)(K:Nat→Prop):Prop:=
 match x with
 |none=>K d
 |some (.int _ n)=>0≤n∧n≤(y:Int)∧K n.toNat
 |_=>False
def KU(P:Program)(t:TypeId)(x:Value)(lo hi d:Option Value)(K:Value→Prop):Prop:=
 match P.underlying t,x with
 |some .string,.string s=>
  match d with
  |none=>bnd hi s.size s.size fun h=>bnd lo h 0 fun l=>K (.string (s.extract l h))
  |_=>False
 |some (.slice e),.slice a c b=>
  match P.info? e,hi,d with
  |some i,none,none=>bnd lo c 0 fun l=>K (.slice (if b=l then a else a.map (·.add (l*i.size))) (c-l) (b-l))
  |some i,some hi,d=>bnd d b b fun m=>bnd (some hi) m c fun h=>bnd lo h 0 fun l=>K (.slice (if m=l then a else a.map (·.add (l*i.size))) (h-l) (m-l))
  |_,_,_=>False
 |some (.array n e),.pointer (some a)=>
  match P.info? e,d with
  |some i,none=>bnd hi n n fun h=>bnd lo h 0 fun l=>K (.slice (some (if n=l then a else a.add (l*i.size))) (h-l) (n-l))
  |_,_=>False
 |_,_=>False
def Dl(P:Program)(t:TypeId)(x f:Value)(K:Value→Prop):Prop:=
 match f with
 | .int _ i=>
   match P.underlying t,x with
   |some (.slice e),.slice b c _=>
    match P.info? e with
    |some d=> ∃a,b=some a∧0≤i∧i<(c:Int)∧K (.pointer (some (a.add (i.toNat*d.size))))
    |none=>False
   |some (.array c e),.pointer (some a)=>
    match P.info? e with
    |some d=>0≤i∧i<(c:Int)∧K (.pointer (some (a.add (i.toNat*d.size))))
    |none=>False
   |_,_=>False
 |_=>False
def S8(P:Program)(t:TypeId)(x g:Value)(K:Value→Prop):Prop:=
 match g with
 | .int _ i=>
   match P.underlying t,x with
   |some .string,.string s=>0≤i∧ ∃b:UInt8,s[i.toNat]? =some b∧K (.int .u8 b.toNat)
   |some (.array a e),.agg d=>
    match yc P e,P.info? e with
    |some (.one z),some c=>0≤i∧i<(a:Int)∧Nu z fun v=>d[i.toNat*c.size]? =some v∧K v
    |some (.agg zs),some c=>0≤i∧i<(a:Int)∧Rk zs fun f=>d.extract (i.toNat*c.size) (i.toNat*c.size+c.size)=f.toArray∧K (.agg f.toArray)
    |_,_=>False
   |_,_=>False
 |_=>False
def Rl{α:Type}(p q:Option α)(K:Bool→Prop):Prop:=
 match q with
 |none=>K p.isNone
 |some _=>match p with|none=>K false|some _=>False
def Iv(P:Program)(s:Sem Next)(K:Value→Prop):Prop:=
 match Nt P s with
 |some (.value v)=>K v
 |_=>False
def Iw(a:BinOp)(b:Bool):Bool:=match a with| .neq=> !b|_=>b
def Us(d:Option TypeDesc)(x y:Value):Option Bool:=
 match d,x,y with
 |some (.int _),.int k a,.int c b=>if k=c then some (a==b) else none
 |some .bool,.bool a,.bool b=>some (a==b)
 |some .string,.string a,.string b=>some (a==b)
 |_,_,_=>none
def Q3(P:Program):List Field→List Value→List Value→Option Bool
 |[],[],[]=>some true
 |f::fs,x::xs,y::ys=>match Us (P.underlying f.type) x y,Q3 P fs xs ys with
  |some b,some c=>some (b&&c)
  |_,_=>none
 |_,_,_=>none
def Ca(P:Program)(t:TypeId):Bool:=
 match P.underlying t with
 |some (.int _)=>true
 |some .bool=>true
 |some .string=>true
 |_=>false
def Ix(P:Program):List Field→Nat→Bool
 |[],_=>true
 |f::r,k=>f.name != "_" &&Nat.beq f.offset k&&Ca P f.type&&Ix P r (k+1)
def SD(P:Program)(t:TypeId)(a:List Field):Bool:=Ix P a 0&& !P.stoodInHeld t&& !P.eqGuardType P.depth t
def Ut(P:Program)(c:BinOp)(t:TypeId)(x y:Value)(a:Prop)(K:Value→Prop):Prop:=
 match P.underlying t,x,y with
 |some (.pointer _),.pointer p,.pointer q=>Rl p q fun b=>K (.bool (Iw c b))
 |some (.slice _),.slice p _ _,.slice q _ _=>Rl p q fun b=>K (.bool (Iw c b))
 |some (.map _ _),.map p,.map q=>Rl p q fun b=>K (.bool (Iw c b))
 |some (.struct d),.agg xs,.agg e=>match SD P t d.toList,Q3 P d.toList xs.toList e.toList with
  |true,some b=>K (.bool (Iw c b))
  |_,_=>False
 |_,_,_=>a
def KV(P:Program)(f:BinOp)(t:TypeId)(d:Operand)(x y:Value)(c:Prop)(K:Value→Prop):Prop:=
 match f with
 | .add=>
   match x,y with
   | .string a,.string b=>((a.size+b.size:Nat):Int)≤IntKind.i64.max∧K (.string (a++b))
   |_,_=>c
 | .eql=>Ut P .eql t x y c K
 | .neq=>Ut P .neq t x y c K
 | .quo=>
   match d with
   | .const _=>c
   |_=>match x,y with
    | .int k a,.int e b=>if k=e then b≠0∧K (.int k (k.wrap (a.tdiv b))) else False
    |_,_=>False
 | .rem=>
   match d with
   | .const _=>c
   |_=>match x,y with
    | .int k a,.int e b=>if k=e then b≠0∧K (.int k (a.tmod b)) else False
    |_,_=>False
 | .shl=>
   match d with
   | .const _=>c
   |_=>match x,y with
    | .int k a,.int _ n=>0≤n∧K (.int k (k.wrap (a*2 ^ (min n.toNat k.bits))))
    |_,_=>False
 | .shr=>
   match d with
   | .const _=>c
   |_=>match x,y with
    | .int k a,.int _ n=>0≤n∧K (.int k (a.fdiv (2 ^ (min n.toNat k.bits))))
    |_,_=>False
 |_=>c
def T5(v:Value)(K:Value→Prop):Prop:=
 match v with
 | .pointer p=> ∃a,p=some a∧K (.pointer (some a))
 | .func (.func f) a b=>K (.func (.func f) a b)
 |_=>False
def Pj(P:Program)(o:Oper)(d:Operand→Tv)(K:Tv→Prop):Prop:=
 let ρ:Operand→Value:=fun x=>(d x).v
 match o.op with
 | .move x| .assign x=>K (d x)
 | .pick c a b=>match d c with
   | .known true=>K (d a)
   | .known false=>K (d b)
   | .val (.bool x)=>(x=true→K (d a))∧(x=false→K (d b))
   |_=>False
 | .nilCheck x=>T5 (ρ x) fun v=>K (.val v)
 | .indexAddr t x i=>Dl P t (ρ x) (ρ i) fun v=>K (.val v)
 | .index t x i=>S8 P t (ρ x) (ρ i) fun v=>K (.val v)
 | .slice t x lo hi e=>KU P t (ρ x) (lo.map ρ) (hi.map ρ) (e.map ρ) fun v=>K (.val v)
 | .binOp f t _ y _=>KV P f t y (match o.op with| .binOp _ _ x _ _=>ρ x|_=>undef) (ρ y) (Iv P (execOp ρ o) fun v=>K (.val v)) fun v=>K (.val v)
 |_=>Iv P (execOp ρ o) fun v=>K (.val v)
def Iy(h:ah)(a:Addr):Nat→Nat→List Value→Prop
 |_,0,b=>b=[]
 |i,n+1,b=> ∃v r,aB h (a.add i)=some v∧Iy h a (i+1) n r∧b=v::r
def readO(h:ah)(a:Option Addr)(n:Nat)(vs:List Value):Prop:=
 match a with
 |some a=>Iy h a 0 n vs
 |none=>vs=[]
def Pk(e sz g:Nat)(z:Value)(base:Option Addr)(d f:Nat)(b:Option Addr)(n:Nat)(h:ah)(K:Value→ah→Prop):Prop:=
 ∃i,readO h b (n*sz) i∧
  (d+n≤f→match base with
   |some a=>aZ i h (a.add (d*sz)) 0 fun j=>K (.slice base (d+n) f) j
   |none=>K (.slice base (d+n) f) h)∧
  (f<d+n→g≠0∧Builtin.nextslicecap (d+n) f*g≤2 ^ 48∧ ∃xs,readO h base (d*sz) xs∧
   ∀c,d+n≤c→K (.slice (some ⟨h.size,0,none⟩) (d+n) c) (h.push (.cells (xs++i++(Builtin.zeroCells z.cells (c-(d+n))).toList).toArray e (0,0))))
def S9(P:Program)(t:TypeId)(s x:Value)(h:ah)(K:Value→ah→Prop):Prop:=
 match P.underlying t,s,x with
 |some (.slice e),.slice base c a,.slice b n _=>
  match P.info? e with
  |some d=>
   match d.zero with
   |some z=>Pk e d.size d.bytes z base c a b n h K
   |none=>False
  |none=>False
 |_,_,_=>False
def Vm(e sz a:Nat)(z:Value)(l c:Int)(h:ah)(K:Value→ah→Prop):Prop:=
 sz≠0∧0≤l∧l≤c∧c<2 ^ 63∧(a:Int)*c≤2 ^ 48∧
  K (.slice (some ⟨h.size,0,none⟩) l.toNat c.toNat) (h.push (.cells ((Array.range (c.toNat*sz)).map (z.cells[· % z.cells.size]!)) e (0,0)))
def UJ(P:Program)(t:TypeId)(l c:Value)(h:ah)(K:Value→ah→Prop):Prop:=
 match P.underlying t,l,c with
 |some (.slice e),.int _ l,.int _ c=>
  match P.info? e with
  |some a=>
   match a.zero with
   |some z=>Vm e a.size a.bytes z l c h K
   |none=>False
  |none=>False
 |_,_,_=>False
def UK(z:Value)(base:Option Addr)(b:Nat)(h:ah)(K:ah→Prop):Prop:=
 match base with
 |some a=>(b=0→K h)∧(b≠0→aZ (Builtin.zeroCells z.cells b).toList h a 0 K)
 |none=>K h
def UL(P:Program)(t:TypeId)(s:Value)(h:ah)(K:Value→ah→Prop):Prop:=
 match P.underlying t,s with
 |some (.slice e),.slice base a _=>
  match P.info? e with
  |some c=>
   match c.zero with
   |some z=>UK z base a h fun b=>K (.tuple #[]) b
   |none=>False
  |none=>False
 |_,_=>False
def Pl(a:Option Addr)(n:Nat)(h:ah)(K:ByteArray→Prop):Prop:=
 ∃c:List UInt8,readO h a n (c.map fun b=>Value.int .u8 b.toNat)∧K ⟨c.toArray⟩
def Pm(P:Program)(d c:TypeId)(x:Value)(h:ah)(b:Prop)(K:Value→ah→Prop):Prop:=
 match P.underlying d,P.underlying c,x with
 |some (.slice e),some .string,.slice a n _=>match P.underlying e with
  |some (.int .u8)=>Pl a n h fun s=>K (.string s) h
  |_=>False
 |_,_,_=>b
def G5(P:Program)(s:Sem Next)(h:ah)(K:Tv→ah→Prop):Prop:=
 match Fb P s h with
 |some (.value v,a)=>K (.val v) a
 |_=>False
def xc(P:Program)(s:Sem Next)(h:ah)(K:Tv→ah→Prop):Prop:=
 cW P s h fun b a=>match b with
  | .value v=>K (.val v) a
  | .skip=>K (.val undef) a
  |_=>False
def fx(n:Int)(e:MapEntry):Bool:=
 match e.key with
 | .int _ a=>n==a
 |_=>false
def Pn(kk:IntKind)(es:Array MapEntry):Prop:= ∀e∈es.toList,∃a:Int,e.key= .int kk a
def lE(n:Int):List MapEntry→Nat→Option (Nat×Value)
 |[],_=>none
 |e::es,i=>match fx n e with|true=>some (i,e.val)|false=>lE n es (i+1)
def SE(h:ah)(m:Option Nat)(K:Array MapEntry→Nat→Prop):Prop:=
 match m with
 |none=>K #[] 0
 |some r=> ∃es c,h[r]? =some (.map es c)∧K es c
def m5(kk:IntKind)(z:Value)(m:Option Nat)(n:Int)(h:ah)(K:Value→Bool→Prop):Prop:=
 SE h m fun es _=>Pn kk es∧match lE n es.toList 0 with
  |some x=>K x.2 true
  |none=>K z false
def Ta(kk:IntKind)(n:Int)(v:Value)(es:Array MapEntry)(c:Nat):Obj:=
 match lE n es.toList 0 with
 |some x=> .map (es.modify x.1 fun e=>{e with key:= .int kk n,val:=v}) c
 |none=> .map (es.push {key:= .int kk n,val:=v,born:=c}) (c+1)
def updB(kk:IntKind)(m:Option Nat)(n:Int)(v:Value)(h:ah)(K:ah→Prop):Prop:=
 match m with
 |none=>False
 |some r=> ∃es c,h[r]? =some (.map es c)∧Pn kk es∧K (h.setIfInBounds r (Ta kk n v es c))
def Tb(n:Int)(es:Array MapEntry)(c:Nat):Obj:=
 match lE n es.toList 0 with
 |some x=> .map (es.eraseIdxIfInBounds x.1) c
 |none=> .map es c
def Po(kk:IntKind)(m:Option Nat)(n:Int)(h:ah)(K:ah→Prop):Prop:=
 match m with
 |none=>K h
 |some r=> ∃es c,h[r]? =some (.map es c)∧Pn kk es∧K (h.setIfInBounds r (Tb n es c))
def Pp(P:Program)(t:TypeId):Option (TypeId×TypeId×Value):=
 match P.underlying t with
 |some (.map b a)=>match Mc P b,P.info? a with
  |true,some c=>match c.zero with
   |some z=>some (b,a,z)
   |none=>none
  |_,_=>none
 |_=>none
def T6:Bool→Value→Bool→Value
 |true,v,b=> .tuple #[v,.bool b]
 |false,v,_=>v
def Pq(P:Program)(t:TypeId)(x a:Value)(ok:Bool)(h:ah)(K:Value→ah→Prop):Prop:=
 match Pp P t,x,a with
 |some y,.map m,.int c n=>m5 c y.2.2 m n h fun v b=>K (T6 ok v b) h
 |_,_,_=>False
def Rm(P:Program)(t:TypeId)(m k v:Value)(h:ah)(K:ah→Prop):Prop:=
 match Pp P t,m,k with
 |some _,.map m,.int a n=>updB a m n v h K
 |_,_,_=>False
def Tc(P:Program)(t:TypeId)(m k:Value)(h:ah)(K:ah→Prop):Prop:=
 match Pp P t,m,k with
 |some _,.map m,.int a n=>Po a m n h K
 |_,_,_=>False
def xd(P:Program)(l:Nat)(args:Array Value)(h:ah)(K:Value→ah→Prop):Prop:=
 ∀w:World,w.heap=h→ ∃fn c a b,(Instr.yield l args).run P w= .ok (.round l fn c a b) w∧
  RoundIn Fence.wide 0 P l fn c a b w fun e d=> ∃v,e= .returned v∧Fr w d∧K v d.heap
theorem xd.mono{P:Program}{l:Nat}{args:Array Value}{h:ah}{K d:Value→ah→Prop}(H:xd P l args h K)(j: ∀v h',K v h'→d v h'):xd P l args h d:=
 fun w m=>let ⟨fn,c,a,b,g,i⟩:=H w m;⟨fn,c,a,b,g,i.mono fun _ _ ⟨v,e,f,k⟩=>⟨v,e,f,j _ _ k⟩⟩
def gS(P:Program)(v:Value)(args:List Value)(h:ah)(K:Value→ah→Prop):Prop:=
 match v with
 | .func (.func g) first captured=>au P g (first.toList++args++captured.toList).toArray h K
 | .func (.yield l) first _=>xd P l (first.toList++args).toArray h K
 |_=>False
def Pr(P:Program)(o:Oper)(j:Operand→Tv)(h:ah)(K:Tv→ah→Prop):Prop:=
 let ρ:Operand→Value:=fun x=>(j x).v
 match o.op with
 | .store t a x=>match ρ a with
   | .pointer (some g)=>KS P t h g (ρ x) fun b=>K (.val undef) b
   |_=>False
 | .makeSlice t l c=>UJ P t (ρ l) (ρ c) h fun v b=>K (.val v) b
 | .call c=>match c.callee with
   | .value f=>gS P (ρ f) (c.args.toList.map ρ) h fun v b=>AH P o.type v fun x=>K (.val x) b
   | .builtin .append=>match c.args.toList,c.argTypes.toList with
     |[s,x],[t,u]=>match S7 P u with
      |true=>S9 P t (ρ s) (ρ x) h fun v b=>AH P o.type v fun x=>K (.val x) b
      |false=>False
     |_,_=>False
   | .builtin .delete=>match c.args.toList,c.argTypes.toList with
     |[m,k],t::_=>Tc P t (ρ m) (ρ k) h fun b=>K (.val (.tuple #[])) b
     |_,_=>False
   | .builtin .clear=>match c.args.toList,c.argTypes.toList with
     |[s],[t]=>UL P t (ρ s) h fun v b=>K (.val v) b
     |_,_=>False
   |_=>xc P (execOp ρ o) h K
 | .lookup t x i ok=>Pq P t (ρ x) (ρ i) ok h fun v b=>AH P o.type v fun y=>K (.val y) b
 | .mapUpdate t m k x=>Rm P t (ρ m) (ρ k) (ρ x) h fun b=>K (.val undef) b
 | .insert t m k x=>Rm P t (ρ m) (ρ k) (ρ x) h fun b=>K (.val undef) b
 | .convert e d x=>Pm P e d (ρ x) h (xc P (execOp ρ o) h K) fun v b=>AH P o.type v fun x=>K (.val x) b
 |_=>xc P (execOp ρ o) h K
def Ps(P:Program)(o:Oper)(c:Operand→Tv)(h:ah)(K:Tv→Prop):Prop:=
 match o.op with
 | .load t a=>match(c a).v with
   | .pointer (some b)=>Dk P t h b fun v=>K (.val v)
   |_=>False
 |_=>False
def Iz(P:Program)(o:Oper)(a:Operand→Tv)(h:ah)(K:Tv→ah→Prop):Prop:=
 match Iu P o.op with
 | .pure=>Pj P o a fun x=>K x h
 | .load=>Ps P o a h fun x=>K x h
 | .alloc=>G5 P (execOp (fun x=>(a x).v) o) h K
 | .loud=>Pr P o a h K
end
section
theorem FI{P:Program}{s:Sem Next}{K:Value→Prop}(H:Iv P s K): ∃v,K v∧ ∀w,s.run P w= .ok (.value v) w:=by
 unfold Iv at H;split at H
 ·rename_i v a;exact⟨v,H,Pi P s a⟩
 ·exact H.elim
theorem j5{P:Program}{x:Option Value}{y d:Nat}{K:Nat→Prop}{code:BoundsCode}(H:bnd x y d K):
 ∃n,K n∧ ∀w,(match x with|some v=>Instr.sliceBound v y code|none=>pure d).run P w= .ok n w:=by
 unfold bnd at H;split at H
 ·exact⟨d,H,fun w=>rfl⟩
 ·rename_i k n;obtain⟨a,b,H⟩:=H;refine⟨_,H,fun w=> ?_⟩;simp only[Instr.sliceBound,asIntOf,bj,bN,a,b,and_self,if_true]
 ·exact H.elim
theorem KW{P:Program}{t:TypeId}{x:Value}{lo hi f:Option Value}{K:Value→Prop}(H:KU P t x lo hi f K):
 ∃v,K v∧ ∀w,(Instr.sliceAt t x lo hi f).run P w= .ok v w:=by
 unfold KU at H;split at H
 ·rename_i s d;split at H
  ·obtain⟨h,H,c⟩:=j5 (P:=P) (code:= .sliceAlen) H;obtain⟨l,H,b⟩:=j5 (P:=P) (code:= .sliceB) H;refine⟨_,H,fun w=> ?_⟩;have j:=c w;have g:=b w;cases hi<;>cases lo<;>simp_all [Instr.sliceAt,Instr.slice,Instr.sliceBounds,bj,bI d,bN]
  ·exact H.elim
 ·rename_i e a q o d;cases hP:P.info? e with
  |none=>cases hi<;>cases f<;>simp[hP]at H
  |some i=>
   cases hi with
   |none=>
    cases f with
    |some m=>simp[hP]at H
    |none=>
     simp only[hP]at H;obtain⟨l,H,b⟩:=j5 (P:=P) (code:= .sliceB) H;refine⟨_,H,fun w=> ?_⟩;have g:=b w;cases lo<;>simp_all [Instr.sliceAt,Instr.slice,Instr.sliceBounds,bj,bI d,fc hP,bN]
   |some r=>
    cases f with
    |none=>
     simp only[hP]at H;obtain⟨m,H,k⟩:=j5 (P:=P) (code:= .slice3Acap) H;obtain⟨h,H,c⟩:=j5 (P:=P) (code:= .sliceAcap) H;obtain⟨l,H,b⟩:=j5 (P:=P) (code:= .sliceB) H;refine⟨_,H,fun w=> ?_⟩;have j:=c w;have g:=b w;have p:=k w;cases lo<;>simp_all [Instr.sliceAt,Instr.slice,Instr.sliceBounds,bj,bI d,fc hP,bN]
    |some u=>
     simp only[hP]at H;obtain⟨m,H,k⟩:=j5 (P:=P) (code:= .slice3Acap) H;obtain⟨h,H,c⟩:=j5 (P:=P) (code:= .slice3B) H;obtain⟨l,H,b⟩:=j5 (P:=P) (code:= .slice3C) H;refine⟨_,H,fun w=> ?_⟩;have j:=c w;have g:=b w;have p:=k w;cases lo<;>simp_all [Instr.sliceAt,Instr.slice,Instr.sliceBounds,bj,bI d,fc hP,bN]
 ·rename_i n e a d;cases hP:P.info? e with
  |none=>cases f<;>simp[hP]at H
  |some i=>
   cases f with
   |some m=>simp[hP]at H
   |none=>
    simp only[hP]at H;obtain⟨h,H,c⟩:=j5 (P:=P) (code:= .sliceAlen) H;obtain⟨l,H,b⟩:=j5 (P:=P) (code:= .sliceB) H;refine⟨_,H,fun w=> ?_⟩;have j:=c w;have g:=b w;cases hi<;>cases lo<;>simp_all [Instr.sliceAt,Instr.sureAddr,Instr.sliceBounds,bj,bI d,fc hP,bN]
 ·exact H.elim
theorem G6{P:Program}{t:TypeId}{x j:Value}{K:Value→Prop}(H:Dl P t x j K):
 ∃v,K v∧ ∀w,(Instr.indexAt t x j).run P w= .ok v w:=by
 unfold Dl at H;split at H
 ·rename_i k i;split at H
  ·rename_i e b h c g;split at H
   ·rename_i l hi;obtain⟨a,rfl,d,f,H⟩:=H;refine⟨_,H,fun w=> ?_⟩;simp[Instr.indexAt,asIntOf,bj,bN,bI g,fc hi,d,f]
   ·exact H.elim
  ·rename_i h e a g;split at H
   ·rename_i l hi;obtain⟨d,f,H⟩:=H;refine⟨_,H,fun w=> ?_⟩;simp[Instr.indexAt,asIntOf,Instr.sureAddr,bj,bN,bI g,fc hi,d,f]
   ·exact H.elim
  ·exact H.elim
 ·exact H.elim
theorem Pt{P:Program}{t:TypeId}{z:Value}(h:yc P t=some (.one z)): ∃d,P.underlying t=some d∧zJ d=false:=by
 unfold yc at h;split at h
 ·rename_i d i a hi;refine⟨d,a,?_⟩;split at h<;>first|(split at h<;>simp at h;done)|simp_all
 ·cases h
theorem Pu{P:Program}{t:TypeId}{zs:List Value}(h:yc P t=some (.agg zs)): ∃d,P.underlying t=some d∧zJ d=true:=by
 unfold yc at h;split at h
 ·rename_i d i a hi;refine⟨d,a,?_⟩;split at h<;>first|(split at h<;>simp at h;done)|simp_all
 ·cases h
theorem Pw{P:Program}{t:TypeId}{x m:Value}{K:Value→Prop}(H:S8 P t x m K):
 ∃v,K v∧ ∀w,(Instr.index t x m).run P w= .ok v w:=by
 unfold S8 at H;split at H
 ·rename_i k i;split at H
  ·rename_i s c;obtain⟨a,b,n,H⟩:=H;refine⟨_,H,fun w=> ?_⟩;simp[Instr.index,asIntOf,bj,bN,bI c,a,n]
  ·rename_i o e q c;split at H
   ·rename_i z p l hi;obtain⟨a,f,H⟩:=H;obtain⟨v,j,H⟩:=ks H;obtain⟨d,h,g⟩:=Pt l;refine⟨_,H,fun w=> ?_⟩;simp[Instr.index,asIntOf,bj,bN,bI c,fc hi,part,iX h,g,a,f,j]
   ·rename_i zs p l hi;obtain⟨a,f,H⟩:=H;obtain⟨r,j,H⟩:=zI H;obtain⟨d,h,g⟩:=Pu l;refine⟨_,H,fun w=> ?_⟩;simp[Instr.index,asIntOf,bj,bN,bI c,fc hi,part,iX h,g,a,f,j]
   ·exact H.elim
  ·exact H.elim
 ·exact H.elim
theorem IA(P:Program)(a:BinOp)(t:TypeId)(x y:Operand)(p q:Option Addr)(w:World):
 (eqGuard a t x y (.pointer p) (.pointer q)).run P w= .ok () w:=by
 unfold eqGuard;cases a<;>rfl
theorem Fd(P:Program)(e:BinOp)(t:TypeId)(x y:Operand)(p q:Option Addr)(a b c d:Nat)(w:World):
 (eqGuard e t x y (.slice p a b) (.slice q c d)).run P w= .ok () w:=by
 unfold eqGuard;cases e<;>rfl
theorem IB(P:Program)(a:BinOp)(t:TypeId)(x y:Operand)(p q:Option Nat)(w:World):
 (eqGuard a t x y (.map p) (.map q)).run P w= .ok () w:=by
 unfold eqGuard;cases a<;>rfl
theorem ou(P:Program)(a:BinOp)(t:TypeId)(x y:Operand)(k b:IntKind)(p q:Int)(w:World):
 (eqGuard a t x y (.int k p) (.int b q)).run P w= .ok () w:=by
 unfold eqGuard;cases a<;>rfl
theorem IC{P:Program}{t e:TypeId}{p q:Option Addr}{K:Bool→Prop}(c:P.underlying t=some (.pointer e))(H:Rl p q K)(d:Nat):
 ∃b,K b∧ ∀w,(Op.equalIn (d+1) t (.pointer p) (.pointer q)).run P w= .ok b w:=by
 unfold Rl at H;cases q with
 |none=>
  refine⟨_,H,fun w=> ?_⟩;cases p<;>simp[Op.equalIn,bj,bI c,bN]
 |some b=>
  cases p with
  |none=>exact⟨_,H,fun w=>by simp[Op.equalIn,bj,bI c,bN]⟩
  |some a=>exact H.elim
theorem Fe{P:Program}{t e:TypeId}{p q:Option Addr}{K:Bool→Prop}(h:P.underlying t=some (.slice e))(H:Rl p q K)(d:Nat):
 ∃b,K b∧ ∀l c g f w,(Op.equalIn (d+1) t (.slice p l c) (.slice q g f)).run P w= .ok b w:=by
 unfold Rl at H;cases q with
 |none=>
  refine⟨_,H,fun l c g f w=> ?_⟩;cases p<;>simp[Op.equalIn,bj,bI h,bN]
 |some b=>
  cases p with
  |none=>exact⟨_,H,fun l c g f w=>by simp[Op.equalIn,bj,bI h,bN]⟩
  |some a=>exact H.elim
theorem ID{P:Program}{t e k:TypeId}{p q:Option Nat}{K:Bool→Prop}(c:P.underlying t=some (.map k e))(H:Rl p q K)(d:Nat):
 ∃b,K b∧ ∀w,(Op.equalIn (d+1) t (.map p) (.map q)).run P w= .ok b w:=by
 unfold Rl at H;cases q with
 |none=>
  refine⟨_,H,fun w=> ?_⟩;cases p<;>simp[Op.equalIn,bj,bI c,bN]
 |some b=>
  cases p with
  |none=>exact⟨_,H,fun w=>by simp[Op.equalIn,bj,bI c,bN]⟩
  |some a=>exact H.elim
theorem vb{P:Program}{t:TypeId}{x y:Value}{b:Bool}(h: ∀w,(Op.equalIn (9999+1) t x y).run P w= .ok b w)(w:World):(Op.equal t x y).run P w= .ok b w:=h w
theorem Ro{P:Program}{t:TypeId}{x y:Value}{b:Bool}(h:Us (P.underlying t) x y=some b)(d:Nat)(w:World):
 (Op.equalIn (d+1) t x y).run P w= .ok b w:=by
 unfold Us at h;split at h
 ·rename_i a;split at h
  ·rename_i c
   injection h with h
   subst c;subst h;simp[Op.equalIn,bj,bI a,bN]
  ·cases h
 ·rename_i a
  injection h with h
  subst h;simp[Op.equalIn,bj,bI a,bN]
 ·rename_i a
  injection h with h
  subst h;simp[Op.equalIn,bj,bI a,bN]
 ·cases h
theorem Ff{P:Program}{t:TypeId}(b:Ca P t=true)(w:World):(isAgg t).run P w= .ok false w:=by
 unfold Ca at b;split at b
 ·rename_i k a;rw[iX a];rfl
 ·rename_i a;rw[iX a];rfl
 ·rename_i a;rw[iX a];rfl
 ·cases b
theorem IE{P:Program}{t:TypeId}{cs:Array Value}{k:Nat}{v:Value}(a:Ca P t=true)(h:cs[k]? =some v)(w:World):(part t cs k).run P w= .ok v w:=by
 simp only[part,bj,Ff a,Ws,if_false,h];rfl
theorem Px{P:Program}{f:Field}{d:List Field}{x y:Value}{xs ys:List Value}{b:Bool}(h:Q3 P (f::d) (x::xs) (y::ys)=some b):
 ∃a c,Us (P.underlying f.type) x y=some a∧Q3 P d xs ys=some c∧b=(a&&c):=by
 simp only[Q3]at h;split at h
 ·rename_i a c e g;exact⟨a,c,e,g,by injection h with h;exact h.symm⟩
 ·cases h
theorem ye{P:Program}{xs ys:Array Value}(d:Nat): ∀(i:List Field)(k:Nat)(e g:List Value)(b:Bool),Ix P i k=true→
 (∀j v,e[j]? =some v→xs[k+j]? =some v)→(∀j v,g[j]? =some v→ys[k+j]? =some v)→Q3 P i e g=some b→ ∀w:World,
 (forIn i ((none,()):Option Bool×Unit) (fun f r=>
  if f.name≠ "_" then do
   let a←part f.type xs f.offset
   let c←part f.type ys f.offset
   let a←Op.equalIn (d+1) f.type a c
   if(!a)=true then pure (ForInStep.done (some false,())) else pure (ForInStep.yield (none,()))
  else pure (ForInStep.yield (none,()))):Sem (Option Bool×Unit)).run P w= .ok (if b then(none,()) else(some false,())) w
 |[],k,e,g,b,_,_,_,h,w=>by
  cases e<;>cases g<;>simp[Q3]at h;subst h;rfl
 |f::i,k,e,g,b,l,hx,hy,h,w=>by
  cases e with
  |nil=>simp[Q3]at h
  |cons x e=>
   cases g with
   |nil=>simp[Q3]at h
   |cons y g=>
    obtain⟨s,t,u,z,rfl⟩:=Px h;simp only[Ix,V8,bne_iff_ne]at l;obtain⟨⟨⟨A,n⟩,q⟩,l⟩:=l;have n:f.offset=k:=W7 n;have o:=hx 0 x rfl;have p:=hy 0 y rfl;rw[We]at o p;rw[List.forIn_cons,bj];rw[if_pos A,n];simp only[bj,IE q o,IE q p,Ro u d];cases s with
    |false=>rfl
    |true=>
     simp only[Bool.not_true,Ws,if_false,bN,Bool.true_and];exact ye d i (k+1) e g t l (fun j v m=>by have:=hx (j+1) v (by simpa using m);rw[show k+1+j=k+(j+1) by omega];exact this)
      (fun j v m=>by have:=hy (j+1) v (by simpa using m);rw[show k+1+j=k+(j+1) by omega];exact this) z w
theorem Dm{P:Program}{t:TypeId}{a:Array Field}{xs ys:Array Value}{b:Bool}(g:P.underlying t=some (.struct a))(f:Ix P a.toList 0=true)
 (e:P.stoodInHeld t=false) (h:Q3 P a.toList xs.toList ys.toList=some b) (d:Nat) (w:World):(Op.equalIn (d+1+1) t (.agg xs) (.agg ys)).run P w= .ok b w:=by
 have:=ye (P:=P) (xs:=xs) (ys:=ys) d a.toList 0 xs.toList ys.toList b f (fun j v c=>by simpa using c) (fun j v c=>by simpa using c) h w;rw[Op.equalIn];simp only[bj,bI g,program,Sem.run,e,Ws,if_false];rw[←Array.forIn_toList,this];cases b<;>rfl
theorem Dn{P:Program}{a:BinOp}{t:TypeId}{x y:Operand}{xs ys:Array Value}(b:P.eqGuardType P.depth t=false)(w:World):
 (eqGuard a t x y (.agg xs) (.agg ys)).run P w= .ok () w:=by
 unfold eqGuard;cases a<;>simp[bj,program,Sem.run,b,bN]<;>rfl
theorem Md{P:Program}{g:BinOp}{t:TypeId}{i j:Operand}{x y:Value}{c:Prop}{K:Value→Prop}(a:g= .eql∨g= .neq)
 (n:c→ ∃v,K v∧ ∀w,(do eqGuard g t i j x y;binOp g t x y:Sem Value).run P w= .ok v w)
 (H:Ut P g t x y c K): ∃v,K v∧ ∀w,(do eqGuard g t i j x y;binOp g t x y:Sem Value).run P w= .ok v w:=by
 unfold Ut at H;split at H
 ·rename_i f;obtain⟨b,d,e⟩:=IC f H 9999;refine⟨_,d,fun w=> ?_⟩;rcases a with rfl|rfl<;>simp[bj,IA,binOp,vb e,bN,Iw]
 ·rename_i f;obtain⟨b,d,e⟩:=Fe f H 9999;refine⟨_,d,fun w=> ?_⟩;rcases a with rfl|rfl<;>simp[bj,Fd,binOp,vb (e _ _ _ _),bN,Iw]
 ·rename_i f;obtain⟨b,d,e⟩:=ID f H 9999;refine⟨_,d,fun w=> ?_⟩;rcases a with rfl|rfl<;>simp[bj,IB,binOp,vb e,bN,Iw]
 ·rename_i p xs o f;split at H
  ·rename_i b h d;simp only[SD,V8,Xg]at h;obtain⟨⟨k,l⟩,m⟩:=h;have e: ∀w,(Op.equalIn (9999+1) t (.agg xs) (.agg o)).run P w= .ok b w:=Dm f k l d 9998;refine⟨_,H,fun w=> ?_⟩;rw[bj,Dn m];rcases a with rfl|rfl<;>simp only[binOp,bj,vb e,bN,Iw]
  ·exact H.elim
 ·exact n H
theorem Py{P:Program}{e:BinOp}{t:TypeId}{h f:Operand}{x y:Value}{c:Prop}{K:Value→Prop}
 (d:c→ ∃v,K v∧ ∀w,(do eqGuard e t h f x y;binOp e t x y:Sem Value).run P w= .ok v w)
 (H:KV P e t f x y c K): ∃v,K v∧ ∀w,(do eqGuard e t h f x y;binOp e t x y:Sem Value).run P w= .ok v w:=by
 cases e
 case add=>
  simp only[KV]at H;split at H
  ·obtain⟨h0,H⟩:=H;refine⟨_,H,fun w=> ?_⟩;have:=Int.not_lt.2 h0;rename_i a b;have i:(eqGuard BinOp.add t h f (.string a) (.string b)).run P w= .ok () w:=rfl;rw[bj,i];simp only[binOp,Op.stringOp];rw[if_neg (by omega)];rfl
  ·exact d H
 case eql=>exact Md (.inl rfl) d H
 case neq=>exact Md (.inr rfl) d H
 case quo=>
  simp only[KV]at H;split at H
  ·exact d H
  ·split at H
   ·split at H
    ·rename_i g;subst g;obtain⟨h0,H⟩:=H;refine⟨_,H,fun w=> ?_⟩;simp[bj,ou,binOp,Op.intDiv,h0,bN]
    ·exact H.elim
   ·exact H.elim
 case rem=>
  simp only[KV]at H;split at H
  ·exact d H
  ·split at H
   ·split at H
    ·rename_i g;subst g;obtain⟨h0,H⟩:=H;refine⟨_,H,fun w=> ?_⟩;simp[bj,ou,binOp,Op.intDiv,h0,bN]
    ·exact H.elim
   ·exact H.elim
 case shl=>
  simp only[KV]at H;split at H
  ·exact d H
  ·split at H
   ·obtain⟨h0,H⟩:=H;refine⟨_,H,fun w=> ?_⟩;have:=Int.not_lt.2 h0;simp[bj,ou,binOp,Op.shift,this,bN]
   ·exact H.elim
 case shr=>
  simp only[KV]at H;split at H
  ·exact d H
  ·split at H
   ·obtain⟨h0,H⟩:=H;refine⟨_,H,fun w=> ?_⟩;have:=Int.not_lt.2 h0;simp[bj,ou,binOp,Op.shift,this,bN]
   ·exact H.elim
 all_goals exact d H
theorem zK{P:Program}{o:Oper}{d:Operand→Tv}{K:Tv→Prop}(H:Pj P o d K):
 ∃x,K x∧ ∀w,(execOp (fun x=>(d x).v) o).run P w= .ok (.value x.v) w:=by
 have l:(Iv P (execOp (fun x=>(d x).v) o) fun v=>K (.val v))→ ∃x,K x∧ ∀w,(execOp (fun x=>(d x).v) o).run P w= .ok (.value x.v) w:=fun H=>by
  obtain⟨v,h,g⟩:=FI H;exact⟨.val v,h,g⟩
 obtain⟨z,k,r,pos,m,guard⟩:=o;unfold Pj at H;cases k<;>simp only at H
 case move x=>exact⟨_,H,fun w=>rfl⟩
 case assign x=>exact⟨_,H,fun w=>rfl⟩
 case pick c a b=>
  split at H
  ·rename_i j;exact⟨_,H,fun w=>by simp[execOp,bj,j,Tv.v,asBool,bN]⟩
  ·rename_i j;exact⟨_,H,fun w=>by simp[execOp,bj,j,Tv.v,asBool,bN]⟩
  ·rename_i x j;cases x with
   |true=>exact⟨_,H.1 rfl,fun w=>by simp[execOp,bj,j,Tv.v,asBool,bN]⟩
   |false=>exact⟨_,H.2 rfl,fun w=>by simp[execOp,bj,j,Tv.v,asBool,bN]⟩
  ·exact H.elim
 case nilCheck x=>
  unfold T5 at H;split at H
  ·rename_i p q;obtain⟨a,rfl,H⟩:=H;exact⟨_,H,fun w=>by simp only[execOp,q];rfl⟩
  ·rename_i f a b q;exact⟨_,H,fun w=>by simp only[execOp,q];rfl⟩
  ·exact H.elim
 case indexAddr t x i=>
  obtain⟨v,h,g⟩:=G6 H;exact⟨_,h,fun w=>by simp only[execOp];rw[bj,g w];rfl⟩
 case index t x i=>
  obtain⟨v,h,g⟩:=Pw H;exact⟨_,h,fun w=>by simp only[execOp];rw[bj,g w];rfl⟩
 case slice t x lo hi mx=>
  obtain⟨v,h,g⟩:=KW H;exact⟨_,h,fun w=>by simp only[execOp];rw[bj,g w];rfl⟩
 case binOp k t x y u=>
  have B: ∃v,K (.val v)∧ ∀w,(do eqGuard k t x y (d x).v (d y).v;binOp k t (d x).v (d y).v:Sem Value).run P w= .ok v w:=by
   refine Py (K:=fun v=>K (.val v)) (fun C=> ?_) H;obtain⟨v,h,g⟩:=FI C;refine⟨v,h,fun w=> ?_⟩;have:=g w;simp only[execOp,bj]at this ⊢;cases h1:(eqGuard k t x y (d x).v (d y).v).run P w with
   |halt e s=>simp[h1]at this
   |ok a s=>
    simp only[h1]at this ⊢;cases h2:(binOp k t (d x).v (d y).v).run P s with
    |halt e D=>simp[h2]at this
    |ok b D=>
     simp only[h2,bN]at this
     injection this with n A
     injection n with n
     rw[n,A]
  obtain⟨v,h,g⟩:=B;refine⟨_,h,fun w=> ?_⟩;have:=g w;simp only[execOp];rw[bj,this];rfl
 all_goals exact l H
end
section
theorem zM{P:Program}{t:TypeId}{y:TypeId×TypeId×Value}(h:Pp P t=some y):P.underlying t=some (.map y.1 y.2.1)∧(∃k,P.underlying y.1=some (.int k))∧ ∃a,P.info? y.2.1=some a∧a.zero=some y.2.2:=by
 unfold Pp at h;split at h
 ·rename_i g f c;split at h
  ·rename_i a b hi;split at h
   ·rename_i z d;simp only[Option.some.injEq]at h;subst h;refine⟨c,?_,a,hi,d⟩;unfold Mc at b;split at b
    ·rename_i k e;exact⟨k,e⟩
    ·cases b
   ·cases h
  ·cases h
 ·cases h
theorem jo{P:Program}{a:TypeId}{kk kk':IntKind}{n:Int}{e:Bool}{h:ah}{K:Unit→ah→Prop}(b:P.underlying a=some (.int kk'))(H:K () h):cW P (Instr.checkKey e 10000 a (.int kk n)) h K:=by
 unfold Instr.checkKey;simp only[aY,cz b];exact H
theorem AJ{kk kk':IntKind}{n:Int}: ∀{es:List MapEntry}{i:Nat},(∀e∈es,∃a:Int,e.key= .int kk a)→Instr.findNow (.int kk') (.int kk n) es i=some (lE n es i)
 |[],i,_=>rfl
 |e::es,i,ha=>by
  obtain⟨a,ea⟩:=ha e (by simp);have c:=AJ (kk':=kk') (n:=n) (es:=es) (i:=i+1) fun x b=>ha x (by simp[b]);simp only[Instr.findNow,Instr.sameNow,ea,lE,fx,if_true];cases hb:n==a with
  |true=>rfl
  |false=>exact c
theorem mf{P:Program}{a:TypeId}{kk kk':IntKind}{n:Int}{es:Array MapEntry}{h:ah}{K:Option (Nat×Value)→ah→Prop}(c:P.underlying a=some (.int kk'))(b:Pn kk es)(H:K (lE n es.toList 0) h):cW P (Instr.findKey a (.int kk n) es.toList) h K:=by
 unfold Instr.findKey;simp only[aY,cz c,AJ b];exact H
theorem Do{P:Program}{t:TypeId}{a:TypeInfo}{z:Value}{h:ah}{K:Value→ah→Prop}(hi:P.info? t=some a)(b:a.zero=some z)(H:K z h):cW P (zeroValue t) h K:=by
 unfold zeroValue;simp only[aY,dQ hi,b];exact H
theorem uw{P:Program}{r:Nat}{o:Obj}{h:ah}{K:Obj→ah→Prop}(b:h[r]? =some o)(a:me o=false)(H:K o h):cW P (getObj r) h K:=⟨o,b,a,H⟩
theorem ox{P:Program}{r:Nat}{o u:Obj}{h:ah}{K:Unit→ah→Prop}(b:h[r]? =some u)(a:me u=false)(H:K () (h.setIfInBounds r o)):cW P (setObj r o) h K:=⟨u,b,a,H⟩
theorem KX{P:Program}{t:TypeId}{x e:Value}{ok:Bool}{h:ah}{K:Value→ah→Prop}(H:Pq P t x e ok h K):cW P (Instr.lookup t x e ok) h K:=by
 unfold Pq at H;split at H
 ·rename_i y m j n i;obtain⟨g,⟨k,a⟩,l,hi,d⟩:=zM i;unfold Instr.lookup;simp only[aY,cz g];unfold m5 SE at H;cases m with
  |none=>
   obtain⟨b,H⟩:=H;simp only[aY,cg];refine jo a (mf (es:= #[]) a b ?_);cases hf:lE n (#[]:Array MapEntry).toList 0 with
   |some x=>
    rw[hf]at H;simp only[cg,aY];cases ok<;>exact H
   |none=>
    rw[hf]at H;simp only[aY];refine Do hi d ?_;simp only[cg];cases ok<;>exact H
  |some r=>
   obtain⟨es,c,f,b,H⟩:=H;simp only[aY];refine uw f rfl ?_;simp only[aY,cg];refine jo a (mf a b ?_);cases hf:lE n es.toList 0 with
   |some x=>
    rw[hf]at H;simp only[cg,aY];cases ok<;>exact H
   |none=>
    rw[hf]at H;simp only[aY];refine Do hi d ?_;simp only[cg];cases ok<;>exact H
 ·exact H.elim
theorem Fg{P:Program}{kk:IntKind}{a n:Int}{h:ah}{K:Value→ah→Prop}(b:n=a)(H:K (.int kk n) h):cW P (Instr.keyThatStays (.int kk a) (.int kk n)) h K:=by
 subst b;unfold Instr.keyThatStays;simp only[Instr.sameBits,beq_self_eq_true,Bool.and_self,if_true];exact H
theorem FJ{n:Int}: ∀{es:List MapEntry}{i j:Nat}{v:Value},lE n es i=some (j,v)→ ∃e:MapEntry,i≤j∧es[j-i]? =some e∧fx n e=true∧e.val=v
 |[],_,_,_,h=>by simp[lE]at h
 |e::es,i,j,v,h=>by
  simp only[lE]at h;split at h
  ·rename_i f;simp only[Option.some.injEq,Prod.mk.injEq]at h;obtain⟨rfl,rfl⟩:=h;exact⟨e,VX _,by simp,f,rfl⟩
  ·obtain⟨a,g,b,c,d⟩:=FJ h;exact⟨a,by omega,by rw[show j-i=(j-(i+1))+1 by omega];exact b,c,d⟩
theorem Pz{kk:IntKind}{n:Int}{es:Array MapEntry}{j:Nat}{v:Value}(d:Pn kk es)(h:lE n es.toList 0=some (j,v)):((es[j]?).map (·.key)).getD (.int kk n)= .int kk n:=by
 obtain⟨e,_,b,c,_⟩:=FJ h;obtain⟨a,ea⟩:=d e (VL b);have:es[j]? =some e:=by simpa using b
 rw[this];simp only[Option.map_some,XI,ea];simp only[fx,ea,beq_iff_eq]at c;rw[c]
theorem FK{P:Program}{t:TypeId}{m k v:Value}{h:ah}{K:ah→Prop}(H:Rm P t m k v h K):cW P (Instr.mapUpdate t m k v) h fun _ e=>K e:=by
 unfold Rm at H;split at H
 ·rename_i y m j n g;obtain⟨f,⟨k,d⟩,l,hi,i⟩:=zM g;unfold Instr.mapUpdate;simp only[aY,cz f];unfold updB at H;cases m with
  |none=>exact H.elim
  |some r=>
   obtain⟨es,c,a,b,H⟩:=H;simp only[aY];refine uw a rfl ?_;simp only[aY];refine jo d (mf d b ?_);unfold Ta at H;cases hf:lE n es.toList 0 with
   |some x=>
    rw[hf]at H;simp only[aY];have:=Pz b hf;rw[this];exact Fg rfl (ox a rfl H)
   |none=>
    rw[hf]at H;exact ox a rfl H
 ·exact H.elim
theorem Nx{P:Program}{t:TypeId}{i:TypeId}{r:List TypeId}{m k:Value}{h:ah}{K:ah→Prop}(H:Tc P t m k h K):cW P (Builtin.delete_ (t::r).toArray i #[m,k]) h fun v d=>v= .tuple #[]∧K d:=by
 unfold Tc at H;split at H
 ·rename_i y m l n g;obtain⟨f,⟨k,a⟩,o,hi,j⟩:=zM g;unfold Builtin.delete_;simp only[Xv,List.getElem?_cons_zero,List.getElem?_cons_succ,aY,cz f];unfold Po at H;cases m with
  |none=>
   dsimp only;simp only[aY];refine jo a ?_;exact⟨rfl,H⟩
  |some r=>
   obtain⟨es,c,b,e,H⟩:=H;simp only[aY];refine uw b rfl ?_;simp only[aY];refine jo a (mf a e ?_);unfold Tb at H;cases hf:lE n es.toList 0 with
   |some x=>rw[hf]at H;dsimp only;simp only[aY];refine ox b rfl ?_;exact⟨rfl,H⟩
   |none=>rw[hf]at H;dsimp only;simp only[aY];refine ox b rfl ?_;exact⟨rfl,H⟩
 ·exact H.elim
end
section
def Q4(P:Program)(s:Sem Next)(h:ah)(K:Value→ah→Prop):Prop:=
 ∀w:World,w.heap=h→match s.run P w with
  | .ok (.value v) a=>Fr w a∧K v a.heap
  | .ok .skip a=>Fr w a∧K undef a.heap
  | .ok (.enter f d) a=>Fr w a∧Calls P f d a fun e b=> ∃v,e= .returned v∧Fr a b∧K v b.heap
  | .ok (.round l f i c g) a=>Fr w a∧RoundIn Fence.wide 0 P l f i c g a fun e b=> ∃v,e= .returned v∧Fr a b∧K v b.heap
  |_=>False
theorem Q4.mono{P:Program}{s:Sem Next}{h:ah}{K b:Value→ah→Prop}(H:Q4 P s h K)(a: ∀v h',K v h'→b v h'):Q4 P s h b:=by
 intro w c;have:=H w c;cases hr:s.run P w with
 |halt e g=>rw[hr]at this;exact this.elim
 |ok d g=>
  rw[hr]at this;cases d<;>simp only at this ⊢ <;>try exact this.elim
  ·exact⟨this.1,a _ _ this.2⟩
  ·exact⟨this.1,a _ _ this.2⟩
  ·exact⟨this.1,this.2.mono fun _ _ ⟨v,e,f,k⟩=>⟨v,e,f,a _ _ k⟩⟩
  ·exact⟨this.1,this.2.mono fun _ _ ⟨v,e,f,k⟩=>⟨v,e,f,a _ _ k⟩⟩
theorem zN{P:Program}{o:Oper}{c:Operand→Tv}{h:ah}{K:Tv→Prop}(H:Ps P o c h K):
 ∃x,K x∧ ∀w:World,dY h w.heap→(execOp (fun x=>(c x).v) o).run P w= .ok (.value x.v) w:=by
 obtain⟨e,k,d,pos,b,guard⟩:=o;unfold Ps at H;cases k<;>simp only at H<;>try exact H.elim
 rename_i t a;split at H
 ·rename_i l f;obtain⟨v,i,g⟩:=FH H;refine⟨_,i,fun w j=> ?_⟩;simp only[execOp,Instr.loadAt,Instr.sureAddr,bj,f,bN,g w j];rfl
 ·exact H.elim
theorem IF{P:Program}{s:Sem Next}{h:ah}{K:Tv→ah→Prop}(H:xc P s h K):Q4 P s h fun v c=> ∃x:Tv,x.v=v∧K x c:=by
 intro w f;obtain⟨a,g,e,d,b⟩:=Is P s h _ H w f;rw[e];cases a<;>simp only at b ⊢ <;>first|exact⟨d,_,rfl,b⟩|exact b.elim
theorem KY{P:Program}{s:Sem Next}{h:ah}{K:Tv→ah→Prop}(H:G5 P s h K):Q4 P s h fun v a=> ∃x:Tv,x.v=v∧K x a:=by
 unfold G5 at H;split at H
 ·rename_i v a b;have:=FE P s b (fun c a=>match c with| .value v=>K (.val v) a| .skip=>K (.val undef) a|_=>False) H;exact IF this
 ·exact H.elim
theorem KZ(P:Program): ∀(n:Nat)(h:ah)(a:Addr)(i:Nat)(c:List Value),Iy h a i n c→ ∀(b:Array Value)(K:Array Value→ah→Prop),K (b++c.toArray) h→
 cW P (loadCellsFrom a i n b) h K:=by
 intro n
 induction n with
 |zero=>intro h a i c H b K d;simp only[Iy]at H;subst H;exact(by simpa using d:K b h)
 |succ n g=>
  intro h a i c H b K d;obtain⟨v,r,f,e,rfl⟩:=H;simp only[loadCellsFrom,aY,load,cW];refine⟨v,f,g h a (i+1) r e (b.push v) K ?_⟩;simpa using d
theorem ri{P:Program}{h:ah}{a:Option Addr}{size n l c:Nat}{vs:List Value}(H:readO h a (n*size) vs){K:Array Value→ah→Prop}(b:K vs.toArray h):
 cW P (Builtin.firstCells size n (.slice a l c)) h K:=by
 cases a with
 |none=>simp only[readO]at H;subst H;exact b
 |some a=>exact KZ P _ _ _ _ _ H #[] K (by simpa using b)
theorem G7{P:Program}{t u q e:TypeId}{x:Value}{base:Option Addr}{c b:Nat}{h:ah}{K:Value→ah→Prop}{g:TypeInfo}{d:TypeDesc}
 (o: ∀k,d≠ .int k) (m:P.underlying u=some d) (p:P.underlying t=some (.slice e)) (f:P.info? e=some g)
 (H:cW P (do
  let n←Builtin.lenOf x
  let need:=c+n
  if need≤b then
   let new←Builtin.firstCells g.size n x
   if let some a:=base then storeCells (a.add (c*g.size)) new.toList
   pure (Value.slice base need b)
  else
   if(need:Int)>IntKind.i64.max∧(False∨g.bytes=0) then stuck ""
   if Builtin.nextslicecap need b*g.bytes>2 ^ 48 then stuck ""
   let newCap←choose (.appendCap need b e)
   askRoom (newCap*g.bytes);let old←Builtin.firstCells g.size c (.slice base c b)
   let new←Builtin.firstCells g.size n x
   let z←zeroValue e
   pure (.slice (some (←newRow e (old++new++Builtin.zeroCells z.cells (newCap-need)))) need newCap)) h K):
 cW P (Builtin.append_ #[t,u] q #[.slice base c b,x]) h K:=by
 cases d<;>first
  |exact absurd rfl (o _)
  |(simp only[Builtin.append_,Xv,List.getElem?_cons_zero,List.getElem?_cons_succ,aY,cz p,uu f,cz m,cg,Ws,if_false,Bool.not_false,if_true]at H ⊢
    refine va P _ _ H fun n r H=> ?_;split
    ·rename_i i;rw[if_pos i]at H;exact H
    ·rename_i i;rw[if_neg i]at H;simp only[aY,dQ f]at H ⊢;split at H
     ·simp only[aY]at H;exact H.elim
     ·rename_i j;rw[if_neg (by simpa using j)];simp only[cg,aY,dQ f]at H ⊢;split at H
      ·simp only[aY]at H;exact H.elim
      ·rename_i l;rw[if_neg l];simpa only[cg,aY,dQ f] using H)
theorem G8{P:Program}(m:Nat)(h:ah)(K:PUnit→ah→Prop)(a:K ⟨⟩ h):cW P (askRoom m) h K:=by
 unfold askRoom;split<;>exact a
theorem Ny{P:Program}{t u:TypeId}{J:TypeId}{s x:Value}{h:ah}{K:Value→ah→Prop}(p:S7 P u=true)(H:S9 P t s x h K):
 cW P (Builtin.append_ #[t,u] J #[s,x]) h K:=by
 obtain⟨d,D,o⟩: ∃d,P.underlying u=some d∧ ∀k,d≠ .int k:=by
  unfold S7 at p;split at p
  ·rename_i e E;exact⟨_,E,fun k=>by simp⟩
  ·cases p
 unfold S9 at H;split at H
 ·rename_i e base j f b n L G;split at H
  ·rename_i M g;split at H
   ·rename_i z I;unfold Pk at H;obtain⟨y,i,v,B⟩:=H;have r: ∀m (l:Value→ah→Prop),cW P (zeroValue e) m l↔l z m:=by
     intro m l;simp only[zeroValue,aY,dQ g,I];rfl
    refine G7 o D G g ?_;simp only[Builtin.lenOf,aY,cg];by_cases c:j+n≤f
    ·rw[if_pos c];simp only[aY];refine ri i ?_;cases base with
     |none=>exact v c
     |some a=>
      have:=v c
      try simp only[aY]
      exact uv P _ _ _ _ _ this
    ·rw[if_neg c];obtain⟨C,w,xs,q,F⟩:=B (by omega);rw[if_neg (by simp[C])]
     try simp only[cg,aY]
     rw[if_neg (by omega)];simp only[cg,aY,choose,cW,Question.forced,Ws,if_false];intro tape;refine G8 _ _ _ ?_;refine ri q ?_;refine ri i ?_;rw[r];simp only[newRow,newObj,aY,cW,cg];have:=F (Question.cut (.appendCap (j+n) f e) tape) (by simp only[Question.cut];omega);have A: ∀Z:Array Value,(xs++y++Z.toList).toArray=xs.toArray++y.toArray++Z:=fun Z=>by apply Array.ext';simp
     rw[A]at this;exact this
   ·exact H.elim
  ·exact H.elim
 ·exact H.elim
theorem PA{P:Program}{t:TypeId}{l c:Value}{h:ah}{K:Value→ah→Prop}(H:UJ P t l c h K):cW P (Instr.makeSlice t l c) h K:=by
 unfold UJ at H;split at H
 ·rename_i e x l y c p;split at H
  ·rename_i r d;split at H
   ·rename_i z q;unfold Vm at H;obtain⟨h0,s,u,v,w,i⟩:=H;have n: ∀b (a:Value→ah→Prop),cW P (zeroValue e) b a↔a z b:=by
     intro b a;simp only[zeroValue,aY,dQ d,q];rfl
    have wl:IntKind.i64.wrap l=l:=by simp only[IntKind.wrap,IntKind.bits,IntKind.signed];simp;omega
    have wc:IntKind.i64.wrap c=c:=by simp only[IntKind.wrap,IntKind.bits,IntKind.signed];simp;omega
    simp only[Instr.makeSlice,aY,cz p,asInt,asIntOf,cg,dQ d,wl,wc];rw[if_neg (by simp;omega)];have g: ∀(m:Nat)(b:ah)(a:PUnit→ah→Prop),a ⟨⟩ b→cW P (askRoom m) b a:=by
     intro m b a j;unfold askRoom;split<;>exact j
    simp only[cg,aY];refine g _ _ _ ?_;simp only[uu d];by_cases k:c.toNat*r.size=0
    ·rw[if_pos k];simp only[cg,newRow,newObj,aY,cW];rw[k]at i ⊢;have o: ∀f:Nat→Value,(Array.range 0).map f= #[]:=fun f=>by simp
     rw[o]at i ⊢;exact i
    ·rw[if_neg k];simp only[aY,n,cg,newRow,newObj,cW];exact i
   ·exact H.elim
  ·exact H.elim
 ·exact H.elim
theorem Dp{P:Program}{e:TypeId}{d:TypeInfo}{z:Value}(a:P.info? e=some d)(f:d.zero=some z)(c:ah)(b:Value→ah→Prop):cW P (zeroValue e) c b↔b z c:=by
 simp only[zeroValue,aY,dQ a,f];rfl
theorem PB{P:Program}{t i:TypeId}{s:Value}{h:ah}{K:Value→ah→Prop}(H:UL P t s h K):cW P (Builtin.clear_ #[t] i #[s]) h K:=by
 unfold UL at H;split at H
 ·rename_i e base f c b;split at H
  ·rename_i j d;split at H
   ·rename_i z g;unfold UK at H;cases base with
    |none=>
     simp only[Builtin.clear_,Xv,List.getElem?_cons_zero,aY,cz b,cg];exact H
    |some a=>
     cases f with
     |zero=>
      simp only[Builtin.clear_,Xv,List.getElem?_cons_zero,aY,cz b,cg];exact H.1 rfl
     |succ n=>
      simp only[Builtin.clear_,Xv,List.getElem?_cons_zero,aY,cz b,cg,Dp d g];exact uv P _ _ _ _ _ (H.2 (by simp))
   ·exact H.elim
  ·exact H.elim
 ·exact H.elim
theorem FL{P:Program}(f:Value→ByteArray→Sem (ForInStep ByteArray))
 (c: ∀(b:UInt8)(r:ByteArray)(h:ah)(K:ForInStep ByteArray→ah→Prop),K (.yield (r.push b)) h→cW P (f (.int .u8 b.toNat) r) h K): ∀(a:List UInt8)(s:ByteArray)(h:ah)(K:ByteArray→ah→Prop),
 K ⟨(s.data.toList++a).toArray⟩ h→cW P (forIn (a.map fun b=>Value.int .u8 (b.toNat:Int)) s f) h K
 |[],s,h,K,hk=>by
  rw[WZ,List.forIn_nil];have:(⟨(s.data.toList++[]).toArray⟩:ByteArray)=s:=by simp
  rw[this]at hk;exact hk
 |b::a,s,h,K,hk=>by
  rw[Wc,List.forIn_cons,aY];refine c b s h _ ?_;refine FL f c a (s.push b) h K ?_;simpa[ByteArray.push] using hk
theorem K5{P:Program}{j g:TypeId}{x:Value}{h:ah}{f:Prop}{o K:Value→ah→Prop}(w:f→cW P (convert j g x) h K)(q: ∀v m,o v m→K v m)(H:Pm P j g x h f o):
 cW P (convert j g x) h K:=by
 unfold Pm at H;split at H
 ·rename_i e a n c y t;split at H
  ·rename_i u;obtain⟨z,i,k⟩:=H;replace k:=q _ _ k;have d:=ri (P:=P) (size:=1) (n:=n) (l:=n) (c:=c) (by rw[VO];exact i)
    (K:=fun p m=>cW P (do let mut s:=ByteArray.empty
                          for c in p do
                           let .int .u8 n:=c|stuck "bytesToString: byte expected"
                           s:=s.push (UInt8.ofNat n.toNat)
                          pure (Value.string s)) m K) (by
     simp only[aY,List.forIn_toArray];refine FL _ (fun b r h K k=> ?_) z _ _ _ ?_
     ·have:UInt8.ofNat ((b.toNat:Int)).toNat=b:=by simp
      simp only[this];exact k
     ·exact k)
   simp only[convert,aY,cz y,cz t,cz u,Conv.bytesToString];cases a with
   |none=>
    simp only[readO,List.map_eq_nil_iff]at i;subst i;exact k
   |some a=>
    simp only[Builtin.firstCells,VO,aY]at d;dsimp only;simp only[aY];exact d
  ·exact H.elim
 ·exact w H
theorem lF{ρ:Operand→Value}{c:Call}{type:TypeId}{b:Builtin}(d:c.callee= .builtin b):
 ∃a,resolve ρ c type=pure {target:= .builtin b c.argTypes type a,args:=c.args.map ρ}:=by
 unfold resolve;simp only[d];exact⟨_,rfl⟩
theorem PC{P:Program}{o:Oper}{b:Operand→Tv}{c:Call}{f:Operand}{g:FuncId}{first a:Array Value}{h:ah}{K:Tv→ah→Prop}
 (t:o.op= .call c) (p:c.callee= .value f) (r:(b f).v= .func (.func g) first a)
 (H:au P g (first.toList++c.args.toList.map (fun x=>(b x).v)++a.toList).toArray h fun v i=>AH P o.type v fun x=>K (.val x) i):
 Q4 P (execOp (fun x=>(b x).v) o) h fun v i=> ∃x:Tv,x.v=v∧K x i:=by
 intro w u;have m:(first.toList++c.args.toList.map (fun x=>(b x).v)++a.toList).toArray=(first++c.args.map (fun x=>(b x).v))++a:=by
  apply Array.ext';simp
 rw[m]at H;have n:(execOp (fun x=>(b x).v) o).run P w= .ok (.enter g ((first++c.args.map (fun x=>(b x).v))++a)) w:=by
  obtain⟨l,y,k,pos,d,guard⟩:=o;subst t;simp only[execOp,resolve,p,Deferred.ofValue,r,bj,bN,invoke];exact H.1 w
 rw[n];refine⟨Fr.refl w,(H.2 w u).mono ?_⟩;rintro e z ⟨v,q,j,s⟩;exact⟨v,q,j,_,rfl,mZ s⟩
theorem Nz{P:Program}{o:Oper}{g:Operand→Tv}{c:Call}{f:Operand}{l:Nat}{first a:Array Value}{h:ah}{K:Tv→ah→Prop}
 (A:o.op= .call c) (t:c.callee= .value f) (y:(g f).v= .func (.yield l) first a)
 (H:xd P l (first.toList++c.args.toList.map (fun x=>(g x).v)).toArray h fun v m=>AH P o.type v fun x=>K (.val x) m):
 Q4 P (execOp (fun x=>(g x).v) o) h fun v m=> ∃x:Tv,x.v=v∧K x m:=by
 intro w B;have r:(first.toList++c.args.toList.map (fun x=>(g x).v)).toArray=first++c.args.map (fun x=>(g x).v):=by
  apply Array.ext';simp
 rw[r]at H;obtain⟨fn,j,b,i,C,d⟩:=H w B;have s:(execOp (fun x=>(g x).v) o).run P w= .ok (.round l fn j b i) w:=by
  obtain⟨q,D,p,pos,k,guard⟩:=o;subst A;simp only[execOp,resolve,t,Deferred.ofValue,y,bj,bN,invoke];exact C
 rw[s];refine⟨Fr.refl w,d.mono ?_⟩;rintro e E ⟨v,u,n,z⟩;exact⟨v,u,n,_,rfl,mZ z⟩
theorem NA{P:Program}{o:Oper}{j:Operand→Tv}{h:ah}{K:Tv→ah→Prop}(H:Pr P o j h K):
 Q4 P (execOp (fun x=>(j x).v) o) h fun v B=> ∃x:Tv,x.v=v∧K x B:=by
 have d:xc P (execOp (fun x=>(j x).v) o) h K→Q4 P (execOp (fun x=>(j x).v) o) h fun v B=> ∃x:Tv,x.v=v∧K x B:=IF;dsimp only[Pr]at H;split at H
 ·rename_i t a x e;split at H
  ·rename_i N C;refine d ?_;obtain⟨p,A,type,pos,b,guard⟩:=o;subst e;simp only[xc,execOp,aY,Instr.storeAt,Instr.sureAddr,C,cg];exact It H
  ·exact H.elim
 ·rename_i t l c e;refine d ?_;obtain⟨p,A,type,pos,b,guard⟩:=o;subst e;simp only[xc,execOp,aY,cg];exact PA H
 ·rename_i c e;split at H
  ·rename_i f z;unfold gS at H;split at H
   ·rename_i g first n G
    exact PC e z G H
   ·rename_i l first n G
    exact Nz e z G H
   ·exact H.elim
  ·rename_i z;split at H
   ·rename_i s x t u C I;split at H
    ·rename_i L;refine d ?_;obtain⟨p,A,type,pos,b,guard⟩:=o;subst e;have D:c.args= #[s,x]:=by apply Array.ext';simpa using C
     have E:c.argTypes= #[t,u]:=by apply Array.ext';simpa using I
     obtain⟨J,w⟩:=lF (ρ:=fun x=>(j x).v) (type:=type) z;simp only[xc,execOp,w,aY,cg,invoke,builtin,D,E];have F:(#[s,x]:Array Operand).map (fun x=>(j x).v)= #[(j s).v,(j x).v]:=by simp
     rw[F];exact va P _ _ (Ny L H) fun v B y=>mZ y
    ·exact H.elim
   ·exact H.elim
  ·rename_i z;split at H
   ·rename_i m k t r C I;refine d ?_;obtain⟨p,A,type,pos,b,guard⟩:=o;subst e;have D:c.args= #[m,k]:=by apply Array.ext';simpa using C
    have E:c.argTypes=(t::r).toArray:=by apply Array.ext';simpa using I
    obtain⟨J,w⟩:=lF (ρ:=fun x=>(j x).v) (type:=type) z;simp only[xc,execOp,w,aY,cg,invoke,builtin,D,E];have F:(#[m,k]:Array Operand).map (fun x=>(j x).v)= #[(j m).v,(j k).v]:=by simp
    rw[F];exact va P _ _ (Nx H) fun v B y=>by obtain⟨rfl,y⟩:=y;exact y
   ·exact H.elim
  ·rename_i z;split at H
   ·rename_i s t C I;refine d ?_;obtain⟨p,A,type,pos,b,guard⟩:=o;subst e;have D:c.args= #[s]:=by apply Array.ext';simpa using C
    have E:c.argTypes= #[t]:=by apply Array.ext';simpa using I
    obtain⟨J,w⟩:=lF (ρ:=fun x=>(j x).v) (type:=type) z;simp only[xc,execOp,w,aY,cg,invoke,builtin,D,E];have F:(#[s]:Array Operand).map (fun x=>(j x).v)= #[(j s).v]:=by simp
    rw[F];exact PB H
   ·exact H.elim
  ·exact d H
 ·rename_i t x i ok e;refine d ?_;obtain⟨q,A,type,pos,b,guard⟩:=o;subst e;simp only[xc,execOp,aY,cg];exact va P _ _ (KX H) fun v B y=>mZ y
 ·rename_i t m k x e;refine d ?_;obtain⟨q,A,type,pos,b,guard⟩:=o;subst e;simp only[xc,execOp,aY,cg];exact FK H
 ·rename_i t m k x e;refine d ?_;obtain⟨q,A,type,pos,b,guard⟩:=o;subst e;simp only[xc,execOp,aY,cg];exact FK H
 ·rename_i M p x e;refine d ?_;obtain⟨q,A,type,pos,b,guard⟩:=o;subst e;simp only[xc,execOp,aY,cg];refine K5 (fun G=> ?_) (fun v B y=>mZ y) H;simpa only[xc,execOp,aY,cg] using G
 ·exact d H
theorem NB{P:Program}{o:Oper}{d:Operand→Tv}{h:ah}{K:Tv→ah→Prop}(H:Iz P o d h K):
 Q4 P (execOp (fun x=>(d x).v) o) h fun v e=> ∃x:Tv,x.v=v∧K x e:=by
 unfold Iz at H;split at H
 ·obtain⟨x,c,b⟩:=zK H;intro w a;rw[b w];exact⟨Fr.refl w,x,rfl,a▸c⟩
 ·obtain⟨x,c,b⟩:=zN H;intro w a;rw[b w (a▸dY.refl _)];exact⟨Fr.refl w,x,rfl,a▸c⟩
 ·exact KY H
 ·exact NA H
