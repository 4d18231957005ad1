/- ShSem ShStep ShOp ShSound ShMapS ShSound2, in one text. -/
import Derived.Orders
import Derived.OrdersHeld
import Derived.Scope
import Derived.KernelRfl
import Derived.OrdersIn
import Derived.RangeFuncRecord
set_option linter.unusedVariables false
set_option linter.unusedSimpArgs false
namespace Go.Sh
abbrev aO:= @List.getElem?_eq_getElem
abbrev jb:= @Nat.le_of_ble_eq_true
abbrev oe:= @Int.toNat_natCast
abbrev py:= @List.take_succ_eq_append_getElem
abbrev N6:= @List.take_of_length_le
abbrev Pt:= @List.getElem?_eq_some_iff
abbrev Rb:= @List.length_append
abbrev SH:= @List.mem_singleton
abbrev SI:= @Nat.zero_add
abbrev UR:= @List.mem_of_getElem?
abbrev US:= @Nat.mul_one
abbrev UT:= @List.length_map
abbrev UU:= @List.getElem_mem
abbrev UV:= @List.getD_eq_getElem?_getD
abbrev UW:= @List.getElem?_map
abbrev UX:= @List.mem_append
abbrev UY:= @List.length_cons
abbrev UZ:= @List.length_replicate
abbrev U0:= @List.length_take
abbrev U1:= @List.length_set
abbrev U2:= @List.mem_map_of_mem
abbrev U3:= @Nat.le_refl
abbrev U4:= @List.map_append
abbrev U5:= @List.mem_map
abbrev U6:= @List.append_assoc
abbrev U7:= @List.mem_cons
abbrev U8:= @List.map_congr_left
abbrev U9:= @Bool.and_eq_true
abbrev Va:= @Nat.add_zero
abbrev Vb:= @List.drop_eq_getElem_cons
abbrev Vc:= @List.getElem?_eq_none
abbrev Vd:= @List.mem_cons_of_mem
abbrev Ve:= @List.getElem?_set_self
abbrev Vf:= @List.length_nil
abbrev Vg:= @List.map_cons
abbrev Vh:= @List.append_nil
abbrev Vi:= @Int.toNat_zero
abbrev Vj:= @List.getElem?_range
abbrev Vk:= @List.foldl_append
abbrev Vl:= @Array.getElem?_eq_some_iff
abbrev Vm:= @List.length_eq_zero_iff
abbrev Vn:= @Nat.mul_le_mul_right
abbrev Vo:= @List.ext_getElem?
abbrev Vp:= @List.getElem?_append_right
abbrev Vq:= @List.drop_of_length_le
abbrev Vr:= @Bool.false_eq_true
abbrev Vt:= @Nat.add_mul
abbrev Vu:= @List.mem_append_left
abbrev Vv:= @Int.mul_le_mul
abbrev Vw:= @Int.mul_nonneg
abbrev Vx:= @Array.mem_toList_iff
abbrev Vy:= @List.getElem?_append
abbrev Vz:= @List.map_nil
abbrev VA:= @List.flatMap_cons
abbrev VB:= @List.set_append_right
abbrev VC:= @List.getElem?_append_left
abbrev VD:= @List.mem_range
abbrev VE:= @List.getElem?_concat_length
abbrev VF:= @List.length_drop
abbrev VG:= @List.mem_cons_self
abbrev VI:= @List.getElem?_drop
abbrev VJ:= @Nat.sub_self
abbrev VK:= @List.pairwise_append
abbrev VL:= @List.pairwise_cons
abbrev VN:= @List.mem_iff_getElem?
abbrev VO:= @List.replicate_succ
abbrev VP:= @List.map_map
abbrev VQ:= @Bool.eq_iff_iff
abbrev VS:= @List.getElem?_set_ne
abbrev VT:= @Nat.pow_le_pow_right
abbrev VU:= @List.not_mem_nil
abbrev VV:= @List.mem_append_right
abbrev VW:= @List.flatten_cons
abbrev VX:= @List.mem_of_mem_take
abbrev VY:= @Nat.min_eq_left
abbrev VZ:= @Nat.le_trans
abbrev V1:= @Nat.zero_le
abbrev V2:= @List.length_range
abbrev V3:= @List.take_append_of_le_length
abbrev V4:= @List.set_getElem_self
abbrev V5:= @Nat.eq_of_beq_eq_true
abbrev V6:= @Int.natCast_pow
abbrev V7:= @List.set_set
abbrev V8:= @Option.map_eq_some_iff
abbrev V9:= @Int.emod_eq_of_lt
abbrev Wa:= @List.nodup_append
abbrev Wb:= @List.foldl_cons
abbrev Wc:= @List.mem_or_eq_of_mem_set
abbrev Wd:= @Nat.lt_of_lt_of_le
abbrev We:= @Option.isSome_iff_exists
abbrev Wf:= @List.take_zero
abbrev Wg:= @List.drop_zero
abbrev Wh:= @Bool.not_eq_true'
abbrev Wi:= @List.getElem?_set
abbrev Wj:= @List.nodup_cons
abbrev Wk:= @List.set_cons_zero
abbrev Wl:= @List.getElem?_take
abbrev Wn:= @Bool.not_eq_false'
abbrev Wo:= @List.length_singleton
abbrev Wp:= @List.getElem?_toArray
abbrev Wq:= @List.getElem_set_self
abbrev Wr:= @List.mem_filter
abbrev Ws:= @Bool.or_eq_false_iff
abbrev Wt:= @List.replicate_zero
abbrev Wu:= @List.all_eq_true
abbrev Wv:= @List.take_length
abbrev Ww:= @Int.pow_succ
abbrev Wx:= @Int.emod_nonneg
abbrev Wy:= @List.range_succ
abbrev Wz:= @List.flatMap_nil
abbrev WA:= @List.length_tail
abbrev WB:= @List.flatMap_append
abbrev WC:= @Array.length_toList
abbrev WD:= @Int.emod_lt_of_pos
abbrev WE:= @Nat.one_mul
abbrev WF:= @List.getElem?_singleton
abbrev WG:= @List.pairwise_singleton
abbrev WH:= @List.length_eq_one_iff
abbrev WI:= @List.take_append_drop
abbrev WJ:= @Option.getD_some
abbrev WK:= @List.getElem?_mapIdx
abbrev WL:= @List.map_set
abbrev WM:= @List.idxOf_lt_length_of_mem
abbrev WN:= @Int.tdiv_eq_ediv_of_nonneg
abbrev WO:= @List.take_take
abbrev WP:= @List.getElem?_eq_none_iff
abbrev WQ:= @Int.pow_pos
abbrev WR:= @Int.le_refl
abbrev WS:= @List.idxOf_append
abbrev WT:= @Nat.add_sub_cancel_left
abbrev WU:= @Array.mem_filter
abbrev WV:= @Nat.mod_eq_of_lt
abbrev WW:= @Int.ediv_ediv_of_nonneg
abbrev WX:= @List.nodup_range
abbrev WY:= @List.getElem_map
abbrev WZ:= @Array.getElem?_eq_none
abbrev W0:= @Int.mul_comm
abbrev W3:= @Nat.not_lt_zero
abbrev W4:= @Int.ediv_nonneg
abbrev W5:= @Bool.or_eq_true
abbrev W6:= @Int.natCast_mul
abbrev W7:= @Array.mem_of_getElem?
abbrev W8:= @List.map_id
abbrev W9:= @List.drop_drop
abbrev Xa:= @List.mem_iff_getElem
abbrev Xb:= @List.foldl_map
abbrev Xc:= @Nat.testBit_two_pow
abbrev Xd:= @List.getElem_set_ne
abbrev Xe:= @List.getD_cons_zero
abbrev Xf:= @List.getD_cons_succ
abbrev Xg:= @List.map_take
abbrev Xh:= @List.sum_cons
theorem Xi {α:Type _} {a:α} {l m:List α}:(a::l)++m=a::(l++m):=rfl
theorem Xj {α:Type _} {l:List α}:[]++l=l:=rfl
section
abbrev af:=Array Obj
def aD (h:af) (a:Addr):Option Value:=
 match h[a.block]? with
 |some (.cells c _ _)=>if a.spot.isSome then none else c[a.off]?
 |_=>none
def HW (h:af) (r:Nat):Option (TypeId×Nat):=
 match h[r]? with
 |some (.cells c a _)=>some (a,c.size)
 |_=>none
def vH (h:af) (a:Addr):Bool:=
 match h[a.block]? with
 |some (.cells _ _ (lo,hi))=>lo≤a.off&&a.off<hi
 |_=>false
def zI (h:af) (a:Addr) (n:Nat):af:=
 if n=0 then h else
 h.modify a.block fun
  | .cells c b (lo,hi)=> .cells c b (if lo==hi then(a.off,a.off+n) else(min lo a.off,max hi (a.off+n)))
  |o=>o
def FX (h:af) (a:Addr) (v:Value):af:=
 h.modify a.block fun
  | .cells c d b=> .cells (if a.spot.isSome then c else c.setIfInBounds a.off v) d b
  |o=>o
def mK:Obj→Bool
 | .cells .. =>true
 |_=>false
def lK:Value→Bool
 | .agg _| .tuple _=>false
 |_=>true
def cN {α:Type} (p:Program):Sem α→af→(α→af→Prop)→Prop
 | .pure a,h,K=>K a h
 | .load _ a k,h,K=> ∃v,aD h a=some v∧cN p (k v) h K
 | .store _ a v k,h,K=>lK v=true∧(∃u,aD h a=some u)∧vH h a=false∧cN p k (FX h a v) K
 | .new o k,h,K=>cN p (k h.size) (h.push o) K
 | .shape r k,h,K=>cN p (k (HW h r)) h K
 | .freeze a n k,h,K=>cN p k (zI h a n) K
 | .frozen a k,h,K=>cN p (k (vH h a)) h K
 | .getObj r k,h,K=> ∃o,h[r]? =some o∧mK o=false∧cN p (k o) h K
 | .setObj r o k,h,K=> ∃u,h[r]? =some u∧mK u=false∧cN p k (h.setIfInBounds r o) K
 | .choose q k,h,K=>if q.forced then cN p (k 0) h K else ∀t,cN p (k (q.cut t)) h K
 | .sys _ _,_,_=>False
 | .program k,h,K=>cN p (k p) h K
 | .mark _ k,h,K=>cN p k h K
 | .halt _,_,_=>False
structure Fr (w w':World):Prop where
 tape:w'.tape=w.tape
 os:w'.os=w.os
 output:w'.output=w.output
theorem Fr.refl (w:World):Fr w w:=⟨rfl,rfl,rfl⟩
theorem Fr.trans {a b c:World} (h:Fr a b) (k:Fr b c):Fr a c:=⟨k.tape.trans h.tape,k.os.trans h.os,k.output.trans h.output⟩
theorem I4 {α:Type} (p:Program) (s:Sem α): ∀(h:af) (K:α→af→Prop),cN p s h K→ ∀w:World,w.heap=h→
 ∃a d,s.run p w= .ok a d∧Fr w d∧K a d.heap:=by
 induction s with
 |pure a=>intro h K H w f;exact⟨a,w,rfl,Fr.refl w,f▸H⟩
 |load m a k j=>
  intro h K H w f;obtain⟨v,D,H⟩:=H;have t:w.cell? a=some v:=by rw[←D,←f];rfl
  obtain⟨x,d,i,b,g⟩:=j v h K H w f;exact⟨x,d,by simp only[Sem.run,t];exact i,b,g⟩
 |store m a v k j=>
  intro h K H w f;obtain⟨B,⟨u,C⟩,y,H⟩:=H;have t:w.cell? a=some u:=by rw[←C,←f];rfl
  have E:w.frozen? a=false:=by rw[←y,←f];rfl
  obtain⟨x,d,i,b,g⟩:=j (FX h a v) K H (w.setCell a v) (by rw[←f];rfl);refine⟨x,d,?_,⟨b.tape,b.os,b.output⟩,g⟩;cases v<;>first|(simp[lK] at B;done)|(simp only[Sem.run,t,E,Vr,if_false];exact i)
 |new o k j=>
  intro h K H w f;subst f;obtain⟨x,d,i,b,g⟩:=j w.heap.size (w.heap.push o) K H {w with heap:=w.heap.push o} rfl;exact⟨x,d,i,⟨b.tape,b.os,b.output⟩,g⟩
 |shape r k j=>
  intro h K H w f;subst f;obtain⟨x,d,i,b,g⟩:=j (HW w.heap r) w.heap K H w rfl;exact⟨x,d,i,b,g⟩
 |freeze a n k j=>
  intro h K H w f;subst f;obtain⟨x,d,i,b,g⟩:=j (zI w.heap a n) K H (w.freeze a n) (by unfold World.freeze zI;split<;>rfl);have:Fr w (w.freeze a n):=by unfold World.freeze;split<;>exact⟨rfl,rfl,rfl⟩
  exact⟨x,d,i,this.trans b,g⟩
 |frozen a k j=>
  intro h K H w f;subst f;obtain⟨x,d,i,b,g⟩:=j (vH w.heap a) w.heap K H w rfl;exact⟨x,d,i,b,g⟩
 |getObj r k j=>
  intro h K H w f;subst f;obtain⟨o,A,z,H⟩:=H;obtain⟨x,d,i,b,g⟩:=j o w.heap K H w rfl;refine⟨x,d,?_,b,g⟩;simp only[Sem.run,A];cases o<;>first|(simp[mK] at z;done)|exact i
 |setObj r o k j=>
  intro h K H w f;subst f;obtain⟨u,A,z,H⟩:=H;obtain⟨x,d,i,b,g⟩:=j (w.heap.setIfInBounds r o) K H {w with heap:=w.heap.setIfInBounds r o} rfl;refine⟨x,d,?_,⟨b.tape,b.os,b.output⟩,g⟩;simp only[Sem.run,A];cases u<;>first|(simp[mK] at z;done)|exact i
 |choose q k j=>
  intro h K H w f;subst f;simp only[cN] at H;by_cases l:q.forced=true
  ·rw[if_pos l] at H;obtain⟨x,d,i,b,g⟩:=j 0 w.heap K H w rfl;exact⟨x,d,by simp only[Sem.run,l,if_true];exact i,b,g⟩
  ·rw[if_neg l] at H;obtain⟨x,d,i,b,g⟩:=j _ w.heap K (H (w.tape w.drawn q)) {w with drawn:=w.drawn+1} rfl;refine⟨x,d,?_,⟨b.tape,b.os,b.output⟩,g⟩;simp only[Sem.run,l,Vr,if_false];exact i
 |sys c k j=>intro h K H;exact H.elim
 |program k j=>
  intro h K H w f;obtain⟨x,d,i,b,g⟩:=j p h K H w f;exact⟨x,d,i,b,g⟩
 |mark m k j=>
  intro h K H w f;obtain⟨x,d,i,b,g⟩:=j h K H w f;exact⟨x,d,i,b,g⟩
 |halt e=>intro h K H;exact H.elim
theorem aM {α β:Type} (p:Program) (s:Sem α) (f:α→Sem β): ∀(h:af) (K:β→af→Prop),
 cN p (s>>=f) h K↔cN p s h (fun a d=>cN p (f a) d K):=by
 show ∀(h:af) (K:β→af→Prop),cN p (Sem.bind s f) h K↔_
 induction s with
 |pure a=>intro h K;rfl
 |load m a k b=>intro h K;simp only[Sem.bind,cN,b]
 |store m a v k b=>intro h K;simp only[Sem.bind,cN,b]
 |new o k b=>intro h K;simp only[Sem.bind,cN,b]
 |shape r k b=>intro h K;simp only[Sem.bind,cN,b]
 |freeze a n k b=>intro h K;simp only[Sem.bind,cN,b]
 |frozen a k b=>intro h K;simp only[Sem.bind,cN,b]
 |getObj r k b=>intro h K;simp only[Sem.bind,cN,b]
 |setObj r o k b=>intro h K;simp only[Sem.bind,cN,b]
 |choose q k b=>intro h K;simp only[Sem.bind,cN,b]
 |sys c k b=>intro h K;rfl
 |program k b=>intro h K;simp only[Sem.bind,cN,b]
 |mark m k b=>intro h K;simp only[Sem.bind,cN,b]
 |halt e=>intro h K;rfl
theorem qu {α:Type} (p:Program) (s:Sem α): ∀(h:af) {K f:α→af→Prop},cN p s h K→(∀a l,K a l→f a l)→cN p s h f:=by
 induction s with
 |pure a=>intro h K f H b;exact b _ _ H
 |load m a k d=>intro h K f H b;obtain⟨v,i,H⟩:=H;exact⟨v,i,d v h H b⟩
 |store m a v k d=>intro h K f H b;obtain⟨u,g,w,H⟩:=H;exact⟨u,g,w,d _ H b⟩
 |new o k d=>intro h K f H b;exact d _ _ H b
 |shape r k d=>intro h K f H b;exact d _ _ H b
 |freeze a n k d=>intro h K f H b;exact d _ H b
 |frozen a k d=>intro h K f H b;exact d _ _ H b
 |getObj r k d=>intro h K f H b;obtain⟨v,i,g,H⟩:=H;exact⟨v,i,g,d v h H b⟩
 |setObj r o k d=>intro h K f H b;obtain⟨v,i,g,H⟩:=H;exact⟨v,i,g,d _ H b⟩
 |choose q k d=>
  intro h K f H b;simp only[cN] at H ⊢;split at H
  ·rename_i j;rw[if_pos j];exact d _ _ H b
  ·rename_i j;rw[if_neg j];exact fun t=>d _ _ (H t) b
 |sys c k d=>intro h K f H;exact H.elim
 |program k d=>intro h K f H b;exact d _ _ H b
 |mark m k d=>intro h K f H b;exact d _ H b
 |halt e=>intro h K f H;exact H.elim
def MV {α:Type} (p:Program):Sem α→Option α
 | .pure a=>some a
 | .program k=>MV p (k p)
 | .mark _ k=>MV p k
 |_=>none
theorem Oz {α:Type} (p:Program) (s:Sem α) {a:α} (h:MV p s=some a): ∀w,s.run p w= .ok a w:=by
 induction s with
 |pure b=>intro w;simp only[MV,Option.some.injEq] at h;subst h;rfl
 |program k c=>intro w;exact c p h w
 |mark m k c=>intro w;exact c h w
 |_=>simp[MV] at h
def FY {α:Type} (p:Program):Sem α→af→Option (α×af)
 | .pure a,h=>some (a,h)
 | .program k,h=>FY p (k p) h
 | .mark _ k,h=>FY p k h
 | .new o k,h=>FY p (k h.size) (h.push o)
 |_,_=>none
theorem GS {α:Type} (p:Program) (s:Sem α): ∀{h c:af} {a:α},FY p s h=some (a,c)→ ∀K:α→af→Prop,K a c→cN p s h K:=by
 induction s with
 |pure b=>intro h c a H K d;simp only[FY,Option.some.injEq,Prod.mk.injEq] at H;obtain⟨rfl,rfl⟩:=H;exact d
 |program k e=>intro h c a H K d;exact e p H K d
 |mark m k e=>intro h c a H K d;exact e H K d
 |new o k e=>intro h c a H K d;exact e _ H K d
 |_=>intro h c a H;simp[FY] at H
end
section
theorem bf {α β:Type} (p:Program) (s:Sem α) (f:α→Sem β): ∀w,(s>>=f).run p w=match s.run p w with| .ok a d=>(f a).run p d| .halt e d=> .halt e d:=by
 show ∀w,(Sem.bind s f).run p w=_
 induction s with
 |pure a=>intro w;rfl
 |load m a k b=>
  intro w;simp only[Sem.bind,Sem.run];split
  ·exact b _ w
  ·split
   ·exact b _ w
   ·rfl
 |store m a v k b=>
  intro w;cases v<;>simp only[Sem.bind,Sem.run]<;>(split<;>(split<;>first|rfl|exact b _))
 |new o k b=>intro w;exact b _ _
 |shape r k b=>intro w;exact b _ _
 |freeze a n k b=>intro w;exact b _
 |frozen a k b=>intro w;exact b _ _
 |getObj r k b=>intro w;simp only[Sem.bind,Sem.run];split<;>first|rfl|exact b _ _
 |setObj r o k b=>intro w;simp only[Sem.bind,Sem.run];split<;>first|rfl|exact b _
 |choose q k b=>intro w;simp only[Sem.bind,Sem.run];split<;>exact b _ _
 |sys c k b=>intro w;exact b _ _
 |program k b=>intro w;exact b _ _
 |mark m k b=>intro w;exact b _
 |halt e=>intro w;rfl
theorem bN {α:Type} (p:Program) (a:α) (w:World):(pure a:Sem α).run p w= .ok a w:=rfl
theorem bF {P:Program} {t:TypeId} {d:TypeDesc} (h:P.underlying t=some d) (w:World):(underlying t).run P w= .ok d w:=by
 simp only[underlying,bf,program,Sem.run,h];rfl
theorem FZ {P:Program} {t:TypeId} {i:TypeInfo} (h:P.info? t=some i) (w:World):(typeInfo t).run P w= .ok i w:=by
 simp only[typeInfo,bf,program,Sem.run,h];rfl
theorem fj {P:Program} {t:TypeId} {i:TypeInfo} (h:P.info? t=some i) (w:World):(sizeOf t).run P w= .ok i.size w:=by
 simp only[sizeOf,bf,FZ h];rfl
theorem bJ {P:Program} {t:TypeId} {d:TypeDesc} (a:P.underlying t=some d) (h:af) (K:TypeDesc→af→Prop):cN P (underlying t) h K↔K d h:=by
 simp only[underlying,aM,program,cN,a];rfl
theorem dU {P:Program} {t:TypeId} {d:TypeInfo} (a:P.info? t=some d) (h:af) (K:TypeInfo→af→Prop):cN P (typeInfo t) h K↔K d h:=by
 simp only[typeInfo,aM,program,cN,a];rfl
theorem oO {P:Program} {t:TypeId} {d:TypeInfo} (a:P.info? t=some d) (h:af) (K:Nat→af→Prop):cN P (sizeOf t) h K↔K d.size h:=by
 simp only[sizeOf,aM,dU a];rfl
theorem bC {α:Type} (P:Program) (a:α) (h:af) (K:α→af→Prop):cN P (pure a) h K↔K a h:=Iff.rfl
inductive Tv where
 |bot
 |known (b:Bool)
 |val (v:Value)
 |mark (ds:List Deferred)
def Tv.ds:Tv→List Deferred
 | .mark ds=>ds
 |_=>[]
def Tv.v:Tv→Value
 | .bot=>undef
 | .mark _=>undef
 | .known b=> .bool b
 | .val v=>v
abbrev Tm:=Nat→Tv
def upd (t:Tm) (d:Nat) (x:Tv):Tm:=fun i=>match Nat.beq i d with|true=>x|false=>t i
def put (n:Nat) (t:Tm) (a:Option Tmp) (x:Tv):Tm:=
 match a with
 |none=>t
 |some d=>match Nat.blt d n with|true=>upd t d x|false=>t
def N5 (t:Tm):Operand→Tv
 | .tmp i=>t i
 | .const (.bool b)=> .known b
 | .const v=> .val v
 | .global g=> .val (.pointer (some ⟨g,0,none⟩))
 | .func f=> .val (.func (.func f) #[] #[])
def R4 (t:Tm):Operand→Bool
 | .tmp i=>match t i with| .bot=>false|_=>true
 |_=>true
def HX (t:Tm):List Operand→Bool
 |[]=>true
 |x::r=>match R4 t x with|true=>HX t r|false=>false
def MW (z:Value) (K:Value→Prop):Prop:=
 match z with
 | .int k _=> ∃n:Int,K (.int k n)
 | .bool _=> ∃b:Bool,K (.bool b)
 | .string _=> ∃s:ByteArray,K (.string s)
 | .pointer _=> ∃p:Option Addr,K (.pointer p)
 | .slice _ _ _=> ∃(p:Option Addr) (l c:Nat),K (.slice p l c)
 | .map _=> ∃r:Option Nat,K (.map r)
 |_=> ∃v:Value,K v
theorem kK {z:Value} {K:Value→Prop} (h:MW z K): ∃v,K v:=by
 cases z<;>simp only[MW] at h<;>first|exact h|(obtain⟨x,h⟩:=h;exact⟨_,h⟩)|(obtain⟨x,y,z,h⟩:=h;exact⟨_,h⟩)
def Qv:List Value→(List Value→Prop)→Prop
 |[],K=>K []
 |z::zs,K=>MW z fun v=>Qv zs fun a=>K (v::a)
theorem AY: ∀{zs:List Value} {K:List Value→Prop},Qv zs K→ ∃a,K a
 |[],_,h=>⟨_,h⟩
 |_::_,_,h=>by
  obtain⟨v,h⟩:=kK h;obtain⟨a,h⟩:=AY h;exact⟨_,h⟩
inductive Ty where
 |one (z:Value)
 |agg (zs:List Value)
def AZ:TypeDesc→Bool
 | .struct _| .array _ _=>true
 |_=>false
def zJ (P:Program) (t:TypeId):Option Ty:=
 match P.underlying t,P.info? t with
 |some d,some i=>
  match AZ d,i.zero with
  |true,some (.agg zs)=>match Nat.beq zs.size i.size with|true=>some (.agg zs.toList)|false=>none
  |false,some z=>some (.one z)
  |_,_=>none
 |_,_=>none
def R5 (a:Ty) (K:Value→Prop):Prop:=
 match a with
 | .one z=>MW z K
 | .agg zs=>Qv zs fun b=>K (.agg b.toArray)
theorem GT {a:Ty} {K:Value→Prop} (h:R5 a K): ∃v,K v:=by
 cases a with
 |one z=>exact kK h
 |agg zs=>obtain⟨b,h⟩:=AY h;exact⟨_,h⟩
def L5:List (Option Ty)→(List Value→Prop)→Prop
 |[],K=>K []
 |none::zs,K=> ∃v:Value,L5 zs fun a=>K (v::a)
 |some z::zs,K=>R5 z fun v=>L5 zs fun a=>K (v::a)
theorem ye: ∀{zs:List (Option Ty)} {K:List Value→Prop},L5 zs K→ ∃a,K a
 |[],_,h=>⟨_,h⟩
 |none::_,_,h=>by obtain⟨v,h⟩:=h;obtain⟨a,h⟩:=ye h;exact⟨_,h⟩
 |some _::_,_,h=>by obtain⟨v,h⟩:=GT h;obtain⟨a,h⟩:=ye h;exact⟨_,h⟩
def zK (P:Program) (t:TypeId) (v:Value) (K:Value→Prop):Prop:=
 match P.underlying t with
 |some (.tuple b)=>L5 (b.toList.map (zJ P)) fun a=>v= .tuple a.toArray∧K (.tuple a.toArray)
 |_=>match zJ P t with
  |some c=>R5 c fun x=>v=x∧K x
  |none=>K v
theorem kL {P:Program} {t:TypeId} {v:Value} {K:Value→Prop} (h:zK P t v K):K v:=by
 unfold zK at h;split at h
 ·obtain⟨c,b,a⟩:=ye h;rw[b];exact a
 ·split at h
  ·obtain⟨c,b,a⟩:=GT h;rw[b];exact a
  ·exact h
def L6 (z:Value) (h:af) (a:Addr) (K:Value→Prop):Prop:=MW z fun v=>aD h a=some v∧K v
def GU:List Value→af→Addr→Nat→(List Value→Prop)→Prop
 |[],_,_,_,K=>K []
 |z::zs,h,a,i,K=>L6 z h (a.add i) fun v=>GU zs h a (i+1) fun b=>K (v::b)
def EE (P:Program) (t:TypeId) (h:af) (a:Addr) (K:Value→Prop):Prop:=
 match zJ P t with
 |some (.one z)=>L6 z h a K
 |some (.agg zs)=>GU zs h a 0 fun b=>K (.agg b.toArray)
 |none=>False
def aW (h:af) (a:Addr) (v:Value) (K:af→Prop):Prop:=
 (∃u,aD h a=some u)∧vH h a=false∧K (FX h a v)
def bj:List Value→af→Addr→Nat→(af→Prop)→Prop
 |[],h,_,_,K=>K h
 |v::vs,h,a,i,K=>match lK v with
  |true=>aW h (a.add i) v fun b=>bj vs b a (i+1) K
  |false=>False
def KF (P:Program) (t:TypeId) (h:af) (a:Addr) (v:Value) (K:af→Prop):Prop:=
 match P.info? t with
 |some i=>match Nat.beq v.cells.size i.size with|true=>bj v.cells.toList h a 0 K|false=>False
 |none=>False
def eC (h a:af):Prop:= ∀(b:Nat) (c:Array Value) (e:TypeId) (f:Nat×Nat),h[b]? =some (Obj.cells c e f)→a[b]? =some (Obj.cells c e f)
theorem eC.refl (h:af):eC h h:=fun _ _ _ _ x=>x
theorem eC.trans {a b c:af} (h:eC a b) (k:eC b c):eC a c:=fun _ _ _ _ x=>k _ _ _ _ (h _ _ _ _ x)
theorem eC.push (h:af) (o:Obj):eC h (h.push o):=fun b c e f x=>by
 have d:b<h.size:=by
  rcases Nat.lt_or_ge b h.size with a|a
  ·exact a
  ·rw[WZ a] at x;cases x
 rw[Array.getElem?_push,if_neg (by omega)];exact x
theorem eC.cell {h d:af} (k:eC h d) {a:Addr} {v:Value} (b:aD h a=some v):aD d a=some v:=by
 unfold aD at *;split at b
 ·rename_i c e f g;rw[k _ _ _ _ g];exact b
 ·cases b
theorem zM {P:Program} {w:World} {a:Addr} {v:Value} (h:aD w.heap a=some v):(load a).run P w= .ok v w:=by
 have b:w.cell? a=some v:=h;simp only[load,Sem.run,b]
theorem i5 {P:Program} {t:TypeId} {d:TypeDesc} (h:P.underlying t=some d) (w:World):(isAgg t).run P w= .ok (AZ d) w:=by
 simp only[isAgg,bf,bF h];cases d<;>rfl
theorem MX (P:Program): ∀(zs:List Value) (h:af) (a:Addr) (i:Nat) (K:List Value→Prop),GU zs h a i K→
 ∃c,K c∧c.length=zs.length∧ ∀w:World,eC h w.heap→ ∀b,(loadCellsFrom a i zs.length b).run P w= .ok (b++c.toArray) w:=by
 intro zs
 induction zs with
 |nil=>intro h a i K H;exact⟨[],H,rfl,fun w _ b=>by simp[loadCellsFrom]⟩
 |cons z zs k=>
  intro h a i K H;simp only[GU,L6] at H;obtain⟨v,j,H⟩:=kK H;obtain⟨c,e,f,g⟩:=k h a (i+1) _ H;refine⟨v::c,e,by simp[f],fun w d b=> ?_⟩;simp only[UY,loadCellsFrom,bf,zM (d.cell j)];rw[g w d];simp
theorem GV {P:Program} {t:TypeId} {h:af} {a:Addr} {K:Value→Prop} (H:EE P t h a K):
 ∃v,K v∧ ∀w:World,eC h w.heap→(loadVar t a).run P w= .ok v w:=by
 unfold EE zJ at H;cases hu:P.underlying t with
 |none=>simp[hu] at H
 |some d=>
  cases hi:P.info? t with
  |none=>simp[hu,hi] at H
  |some i=>
   simp only[hu,hi] at H;cases hd:AZ d with
   |false=>
    simp only[hd] at H;cases hz:i.zero with
    |none=>simp[hz] at H
    |some z=>
     simp only[hz] at H;obtain⟨v,j,H⟩:=kK H;refine⟨v,H,fun w e=> ?_⟩;simp only[loadVar,bf,i5 hu,hd,Vr,if_false,zM (e.cell j)]
   |true=>
    cases hz:i.zero with
    |none=>simp[hz,hd] at H
    |some z=>
     cases z<;>simp only[hz,hd] at H<;>try exact H.elim
     rename_i zs;cases hn:Nat.beq zs.size i.size with
     |false=>simp[hn] at H
     |true=>
      simp only[hn] at H;obtain⟨l,f,k,g⟩:=MX P zs.toList h a 0 _ H;refine⟨_,f,fun w e=> ?_⟩;have b:=g w e #[];have c:i.size=zs.toList.length:=by rw[WC];exact(V5 hn).symm
      simp only[loadVar,bf,i5 hu,hd,if_true,fj hi,loadCells,c,b,bN,Array.empty_append]
theorem oP (P:Program): ∀(b:List Value) (h:af) (a:Addr) (i:Nat) (K:af→Prop),bj b h a i K→cN P (storeCells a b i) h fun _ c=>K c:=by
 intro b
 induction b with
 |nil=>intro h a i K H;exact H
 |cons v b f=>
  intro h a i K H;simp only[bj] at H;cases h1:lK v with
  |false=>simp[h1] at H
  |true=>
   simp only[h1] at H;obtain⟨e,d,H⟩:=H;simp only[storeCells,aM,store,cN];exact⟨h1,e,d,f _ _ _ _ H⟩
theorem I5 {P:Program} {t:TypeId} {h:af} {a:Addr} {v:Value} {K:af→Prop} (H:KF P t h a v K):cN P (storeVar t a v) h fun _ b=>K b:=by
 unfold KF at H;cases hi:P.info? t with
 |none=>simp[hi] at H
 |some i=>
  simp only[hi] at H;cases hn:Nat.beq v.cells.size i.size with
  |false=>simp[hn] at H
  |true=>
   simp only[hn] at H;simp only[storeVar,aM,oO hi];rw[if_neg (by rw[V5 hn];simp)];exact oP P _ _ _ _ _ H
end
section
def au (P:Program) (f:FuncId) (args:Array Value) (h:af) (K:Value→af→Prop):Prop:=
 (∀w,(callFunc f args).run P w= .ok (.enter f args) w)∧
 ∀w:World,w.heap=h→Calls P f args w fun e a=> ∃v,e= .returned v∧Fr w a∧K v a.heap
theorem au.mono {P:Program} {f:FuncId} {args:Array Value} {h:af} {K a:Value→af→Prop} (H:au P f args h K) (b: ∀v h',K v h'→a v h'):au P f args h a:=
 ⟨H.1,fun w c=>(H.2 w c).mono fun _ _ ⟨v,e,f,k⟩=>⟨v,e,f,b _ _ k⟩⟩
inductive UM where
 |pure|load|alloc|loud
def L7 (P:Program) (t:TypeId):Bool:=
 match P.underlying t with
 |some (.int _)=>true
 |_=>false
def R6 (P:Program) (t:TypeId):Bool:=
 match P.underlying t with
 |some (.slice _)=>true
 |_=>false
def I7 (P:Program):Op→UM
 | .move _| .assign _| .pick .. | .nilCheck _| .unOp .. | .fieldAddr .. | .field .. | .indexAddr .. | .index .. | .slice .. | .extract .. | .makeFunc .. | .build .. | .binOp .. => .pure
 | .convert s d _=>match L7 P s,L7 P d with|true,true=> .pure|_,_=> .loud
 | .call c=>match c.callee with
   | .builtin .len| .builtin .cap| .builtin .min| .builtin .max=> .pure
   |_=> .loud
 | .load .. => .load
 | .alloc .. | .box .. | .buildSlice .. => .alloc
 |_=> .loud
def bnd (x:Option Value) (y d:Nat) (K:Nat→Prop):Prop:=
 match x with
 |none=>K d
 |some (.int _ n)=>0≤n∧n≤(y:Int)∧K n.toNat
 |_=>False
def KG (P:Program) (t:TypeId) (x:Value) (lo hi c:Option Value) (K:Value→Prop):Prop:=
 match P.underlying t,x with
 |some .string,.string s=>
  match c with
  |none=>bnd hi s.size s.size fun h=>bnd lo h 0 fun l=>K (.string (s.extract l h))
  |_=>False
 |some (.slice e),.slice a len b=>
  match P.info? e,hi,c with
  |some i,none,none=>bnd lo len 0 fun l=>K (.slice (if b=l then a else a.map (·.add (l*i.size))) (len-l) (b-l))
  |some i,some hi,c=>bnd c b b fun m=>bnd (some hi) m len fun h=>bnd lo h 0 fun l=>K (.slice (if m=l then a else a.map (·.add (l*i.size))) (h-l) (m-l))
  |_,_,_=>False
 |some (.array n e),.pointer (some a)=>
  match P.info? e,c with
  |some i,none=>bnd hi n n fun h=>bnd lo h 0 fun l=>K (.slice (some (if n=l then a else a.add (l*i.size))) (h-l) (n-l))
  |_,_=>False
 |_,_=>False
def EF (P:Program) (t:TypeId) (x d:Value) (K:Value→Prop):Prop:=
 match d with
 | .int _ i=>
   match P.underlying t,x with
   |some (.slice e),.slice b len _=>
    match P.info? e with
    |some c=> ∃a,b=some a∧0≤i∧i<(len:Int)∧K (.pointer (some (a.add (i.toNat*c.size))))
    |none=>False
   |some (.array len e),.pointer (some a)=>
    match P.info? e with
    |some c=>0≤i∧i<(len:Int)∧K (.pointer (some (a.add (i.toNat*c.size))))
    |none=>False
   |_,_=>False
 |_=>False
def R7 (P:Program) (t:TypeId) (x f:Value) (K:Value→Prop):Prop:=
 match f with
 | .int _ i=>
   match P.underlying t,x with
   |some .string,.string s=>0≤i∧ ∃b:UInt8,s[i.toNat]? =some b∧K (.int .u8 b.toNat)
   |some (.array len e),.agg c=>
    match zJ P e,P.info? e with
    |some (.one z),some a=>0≤i∧i<(len:Int)∧MW z fun v=>c[i.toNat*a.size]? =some v∧K v
    |some (.agg zs),some a=>0≤i∧i<(len:Int)∧Qv zs fun d=>c.extract (i.toNat*a.size) (i.toNat*a.size+a.size)=d.toArray∧K (.agg d.toArray)
    |_,_=>False
   |_,_=>False
 |_=>False
def Qw {α:Type} (p q:Option α) (K:Bool→Prop):Prop:=
 match q with
 |none=>K p.isNone
 |some _=>match p with|none=>K false|some _=>False
def I8 (P:Program) (s:Sem Next) (K:Value→Prop):Prop:=
 match MV P s with
 |some (.value v)=>K v
 |_=>False
def I9 (a:BinOp) (b:Bool):Bool:=match a with| .neq=> !b|_=>b
def TC (d:Option TypeDesc) (x y:Value):Option Bool:=
 match d,x,y with
 |some (.int _),.int k a,.int c b=>if k=c then some (a==b) else none
 |some .bool,.bool a,.bool b=>some (a==b)
 |some .string,.string a,.string b=>some (a==b)
 |_,_,_=>none
def Qe (P:Program):List Field→List Value→List Value→Option Bool
 |[],[],[]=>some true
 |f::fs,x::xs,y::ys=>match TC (P.underlying f.type) x y,Qe P fs xs ys with
  |some b,some c=>some (b&&c)
  |_,_=>none
 |_,_,_=>none
def C1 (P:Program) (t:TypeId):Bool:=
 match P.underlying t with
 |some (.int _)=>true
 |some .bool=>true
 |some .string=>true
 |_=>false
def Ja (P:Program):List Field→Nat→Bool
 |[],_=>true
 |f::r,k=>f.name != "_" &&Nat.beq f.offset k&&C1 P f.type&&Ja P r (k+1)
def RF (P:Program) (t:TypeId) (a:List Field):Bool:=Ja P a 0&& !P.stoodInHeld t&& !P.eqGuardType P.depth t
def TD (P:Program) (c:BinOp) (t:TypeId) (x y:Value) (a:Prop) (K:Value→Prop):Prop:=
 match P.underlying t,x,y with
 |some (.pointer _),.pointer p,.pointer q=>Qw p q fun b=>K (.bool (I9 c b))
 |some (.slice _),.slice p _ _,.slice q _ _=>Qw p q fun b=>K (.bool (I9 c b))
 |some (.map _ _),.map p,.map q=>Qw p q fun b=>K (.bool (I9 c b))
 |some (.struct d),.agg xs,.agg e=>match RF P t d.toList,Qe P d.toList xs.toList e.toList with
  |true,some b=>K (.bool (I9 c b))
  |_,_=>False
 |_,_,_=>a
def KH (P:Program) (f:BinOp) (t:TypeId) (d:Operand) (x y:Value) (c:Prop) (K:Value→Prop):Prop:=
 match f with
 | .add=>
   match x,y with
   | .string a,.string b=>((a.size+b.size:Nat):Int)≤IntKind.i64.max∧K (.string (a++b))
   |_,_=>c
 | .eql=>TD P .eql t x y c K
 | .neq=>TD P .neq t x y c K
 | .quo=>
   match d with
   | .const _=>c
   |_=>match x,y with
    | .int k a,.int e b=>if k=e then b≠0∧K (.int k (k.wrap (a.tdiv b))) else False
    |_,_=>False
 | .rem=>
   match d with
   | .const _=>c
   |_=>match x,y with
    | .int k a,.int e b=>if k=e then b≠0∧K (.int k (a.tmod b)) else False
    |_,_=>False
 | .shl=>
   match d with
   | .const _=>c
   |_=>match x,y with
    | .int k a,.int _ n=>0≤n∧K (.int k (k.wrap (a*2 ^ (min n.toNat k.bits))))
    |_,_=>False
 | .shr=>
   match d with
   | .const _=>c
   |_=>match x,y with
    | .int k a,.int _ n=>0≤n∧K (.int k (a.fdiv (2 ^ (min n.toNat k.bits))))
    |_,_=>False
 |_=>c
def SZ (v:Value) (K:Value→Prop):Prop:=
 match v with
 | .pointer p=> ∃a,p=some a∧K (.pointer (some a))
 | .func (.func f) a b=>K (.func (.func f) a b)
 |_=>False
def OB (P:Program) (o:Oper) (d:Operand→Tv) (K:Tv→Prop):Prop:=
 let ρ:Operand→Value:=fun x=>(d x).v
 match o.op with
 | .move x| .assign x=>K (d x)
 | .pick c a b=>match d c with
   | .known true=>K (d a)
   | .known false=>K (d b)
   | .val (.bool x)=>(x=true→K (d a))∧(x=false→K (d b))
   |_=>False
 | .nilCheck x=>SZ (ρ x) fun v=>K (.val v)
 | .indexAddr t x i=>EF P t (ρ x) (ρ i) fun v=>K (.val v)
 | .index t x i=>R7 P t (ρ x) (ρ i) fun v=>K (.val v)
 | .slice t x lo hi e=>KG P t (ρ x) (lo.map ρ) (hi.map ρ) (e.map ρ) fun v=>K (.val v)
 | .binOp f t _ y _=>KH P f t y (match o.op with| .binOp _ _ x _ _=>ρ x|_=>undef) (ρ y) (I8 P (execOp ρ o) fun v=>K (.val v)) fun v=>K (.val v)
 |_=>I8 P (execOp ρ o) fun v=>K (.val v)
def Jb (h:af) (a:Addr):Nat→Nat→List Value→Prop
 |_,0,b=>b=[]
 |i,n+1,b=> ∃v r,aD h (a.add i)=some v∧Jb h a (i+1) n r∧b=v::r
def readO (h:af) (a:Option Addr) (n:Nat) (vs:List Value):Prop:=
 match a with
 |some a=>Jb h a 0 n vs
 |none=>vs=[]
def OC (e sz f:Nat) (z:Value) (base:Option Addr) (len d:Nat) (b:Option Addr) (n:Nat) (h:af) (K:Value→af→Prop):Prop:=
 ∃g,readO h b (n*sz) g∧
  (len+n≤d→match base with
   |some a=>bj g h (a.add (len*sz)) 0 fun i=>K (.slice base (len+n) d) i
   |none=>K (.slice base (len+n) d) h)∧
  (d<len+n→f≠0∧Builtin.nextslicecap (len+n) d*f≤2 ^ 48∧ ∃xs,readO h base (len*sz) xs∧
   ∀c,len+n≤c→K (.slice (some ⟨h.size,0,none⟩) (len+n) c) (h.push (.cells (xs++g++(Builtin.zeroCells z.cells (c-(len+n))).toList).toArray e (0,0))))
def R8 (P:Program) (t:TypeId) (s x:Value) (h:af) (K:Value→af→Prop):Prop:=
 match P.underlying t,s,x with
 |some (.slice e),.slice base len a,.slice b n _=>
  match P.info? e with
  |some c=>
   match c.zero with
   |some z=>OC e c.size c.bytes z base len a b n h K
   |none=>False
  |none=>False
 |_,_,_=>False
def UA (e sz a:Nat) (z:Value) (l c:Int) (h:af) (K:Value→af→Prop):Prop:=
 sz≠0∧0≤l∧l≤c∧c<2 ^ 63∧(a:Int)*c≤2 ^ 48∧
  K (.slice (some ⟨h.size,0,none⟩) l.toNat c.toNat) (h.push (.cells ((Array.range (c.toNat*sz)).map (z.cells[· % z.cells.size]!)) e (0,0)))
def TY (P:Program) (t:TypeId) (l c:Value) (h:af) (K:Value→af→Prop):Prop:=
 match P.underlying t,l,c with
 |some (.slice e),.int _ l,.int _ c=>
  match P.info? e with
  |some a=>
   match a.zero with
   |some z=>UA e a.size a.bytes z l c h K
   |none=>False
  |none=>False
 |_,_,_=>False
def UN (sz:Nat) (base:Option Addr) (len:Nat) (b:Option Addr) (n:Nat) (h:af) (K:Value→af→Prop):Prop:=
 ∃c,readO h b (Nat.min n len*sz) c∧match base with
  |some a=>bj c h a 0 fun d=>K (.int .i64 ((Nat.min n len:Nat):Int)) d
  |none=>K (.int .i64 ((Nat.min n len:Nat):Int)) h
def TZ (P:Program) (t:TypeId) (s x:Value) (h:af) (K:Value→af→Prop):Prop:=
 match P.underlying t,s,x with
 |some (.slice e),.slice base len _,.slice b n _=>
  match P.info? e with
  |some a=>UN a.size base len b n h K
  |none=>False
 |_,_,_=>False
def T0 (z:Value) (base:Option Addr) (len:Nat) (h:af) (K:af→Prop):Prop:=
 match base with
 |some a=>(len=0→K h)∧(len≠0→bj (Builtin.zeroCells z.cells len).toList h a 0 K)
 |none=>K h
def T1 (P:Program) (t:TypeId) (s:Value) (h:af) (K:Value→af→Prop):Prop:=
 match P.underlying t,s with
 |some (.slice e),.slice base len _=>
  match P.info? e with
  |some b=>
   match b.zero with
   |some z=>T0 z base len h fun a=>K (.tuple #[]) a
   |none=>False
  |none=>False
 |_,_=>False
def Qx (a:Option Addr) (n:Nat) (h:af) (K:ByteArray→Prop):Prop:=
 ∃c:List UInt8,readO h a n (c.map fun b=>Value.int .u8 b.toNat)∧K ⟨c.toArray⟩
def T2 (e:TypeId) (s:ByteArray) (h:af) (K:Value→af→Prop):Prop:=
 ∀c,s.size≤c→K (.slice (some ⟨h.size,0,none⟩) s.size c) (h.push (.cells (s.data.map (fun b=>Value.int .u8 b.toNat)++Array.replicate (c-s.size) (.int .u8 0)) e (c,c+1)))
def OD (P:Program) (d c:TypeId) (x:Value) (h:af) (b:Prop) (K:Value→af→Prop):Prop:=
 match P.underlying d,P.underlying c,x with
 |some (.slice e),some .string,.slice a n _=>match P.underlying e with
  |some (.int .u8)=>Qx a n h fun s=>K (.string s) h
  |_=>False
 |some .string,some (.slice e),.string s=>match P.underlying e with
  |some (.int .u8)=>T2 e s h K
  |_=>False
 |_,_,_=>b
def HY (P:Program) (s:Sem Next) (h:af) (K:Tv→af→Prop):Prop:=
 match FY P s h with
 |some (.value v,a)=>K (.val v) a
 |_=>False
def pE (P:Program) (s:Sem Next) (h:af) (K:Tv→af→Prop):Prop:=
 cN P s h fun b a=>match b with
  | .value v=>K (.val v) a
  | .skip=>K (.val undef) a
  |_=>False
def eO (n:Int) (e:MapEntry):Bool:=
 match e.key with
 | .int _ a=>n==a
 |_=>false
def MY (kk:IntKind) (es:Array MapEntry):Prop:= ∀e∈es.toList,∃a:Int,e.key= .int kk a
def kM (n:Int):List MapEntry→Nat→Option (Nat×Value)
 |[],_=>none
 |e::es,i=>match eO n e with|true=>some (i,e.val)|false=>kM n es (i+1)
def L9 (h:af) (m:Option Nat) (K:Array MapEntry→Nat→Prop):Prop:=
 match m with
 |none=>K #[] 0
 |some r=> ∃es c,h[r]? =some (.map es c)∧K es c
def nI (kk:IntKind) (z:Value) (m:Option Nat) (n:Int) (h:af) (K:Value→Bool→Prop):Prop:=
 L9 h m fun es _=>MY kk es∧match kM n es.toList 0 with
  |some x=>K x.2 true
  |none=>K z false
def R9 (kk:IntKind) (n:Int) (v:Value) (es:Array MapEntry) (c:Nat):Obj:=
 match kM n es.toList 0 with
 |some x=> .map (es.modify x.1 fun e=>{e with key:= .int kk n,val:=v}) c
 |none=> .map (es.push {key:= .int kk n,val:=v,born:=c}) (c+1)
def updB (kk:IntKind) (m:Option Nat) (n:Int) (v:Value) (h:af) (K:af→Prop):Prop:=
 match m with
 |none=>False
 |some r=> ∃es c,h[r]? =some (.map es c)∧MY kk es∧K (h.setIfInBounds r (R9 kk n v es c))
def Sa (n:Int) (es:Array MapEntry) (c:Nat):Obj:=
 match kM n es.toList 0 with
 |some x=> .map (es.eraseIdxIfInBounds x.1) c
 |none=> .map es c
def OE (kk:IntKind) (m:Option Nat) (n:Int) (h:af) (K:af→Prop):Prop:=
 match m with
 |none=>K h
 |some r=> ∃es c,h[r]? =some (.map es c)∧MY kk es∧K (h.setIfInBounds r (Sa n es c))
def S6 (kk:IntKind) (z:Value) (m:Option Nat) (n:Int) (h:af) (K:Value→Nat→af→Prop):Prop:=
 match m with
 |none=>False
 |some r=> ∃es c,h[r]? =some (.map es c)∧MY kk es∧match kM n es.toList 0 with
  |some x=>K x.2 (((es[x.1]?).map (·.born)).getD 0) (h.setIfInBounds r (.map (es.modify x.1 fun e=>{e with key:= .int kk n}) c))
  |none=>K z c (h.setIfInBounds r (.map (es.push {key:= .int kk n,val:=z,born:=c}) (c+1)))
def OG (m:Option Nat) (b:Int) (v:Value) (h:af) (K:af→Prop):Prop:=
 match m with
 |none=>False
 |some r=> ∃es c i,h[r]? =some (.map es c)∧es.findIdx? (fun e=>(e.born:Int)==b)=some i∧K (h.setIfInBounds r (.map (es.modify i fun e=>{e with val:=v}) c))
def OH (m:Option Nat) (h:af) (K:Nat→af→Prop):Prop:=
 L9 h m fun _ c=>K h.size (h.push (.mapIter m c #[] c))
def S7 (a:Addr) (h:af) (over:af→Prop) (K:Value→Value→af→Prop):Prop:=
 a.off=0∧ ∃m d b f,h[a.block]? =some (.mapIter m d b f)∧
  match m with
  |none=>over h
  |some r=> ∃es c,h[r]? =some (.map es c)∧d=c∧f=c∧(∀e∈es.toList,e.born<c)∧
   ((∀e∈es.toList,b.contains e.born=true)→over h)∧
   ∀e∈es.toList,b.contains e.born=false→K e.key e.val (h.setIfInBounds a.block (.mapIter (some r) c (b.push e.born) c))
def Sb (a:Addr) (h:af) (K:Int→Value→Prop):Prop:=
 a.off=0∧ ∃r f d c es,h[a.block]? =some (.mapIter (some r) f d c)∧h[r]? =some (.map es c)∧
  ∃b e n,d.back? =some b∧es.find? (fun e=>e.born==b)=some e∧e.key= .int .i64 n∧K n e.val
def KI (P:Program) (t:TypeId):Option (TypeId×TypeId×Value):=
 match P.underlying t with
 |some (.map b a)=>match L7 P b,P.info? a with
  |true,some c=>match c.zero with
   |some z=>some (b,a,z)
   |none=>none
  |_,_=>none
 |_=>none
def S8:Bool→Value→Bool→Value
 |true,v,b=> .tuple #[v,.bool b]
 |false,v,_=>v
def OI (P:Program) (t:TypeId) (x a:Value) (ok:Bool) (h:af) (K:Value→af→Prop):Prop:=
 match KI P t,x,a with
 |some y,.map m,.int c n=>nI c y.2.2 m n h fun v b=>K (S8 ok v b) h
 |_,_,_=>False
def Qy (P:Program) (t:TypeId) (m k v:Value) (h:af) (K:af→Prop):Prop:=
 match KI P t,m,k with
 |some _,.map m,.int a n=>updB a m n v h K
 |_,_,_=>False
def Sd (P:Program) (t:TypeId) (m k:Value) (h:af) (K:af→Prop):Prop:=
 match KI P t,m,k with
 |some _,.map m,.int a n=>OE a m n h K
 |_,_,_=>False
def Se (P:Program) (t:TypeId) (m k:Value) (h:af) (K:Value→af→Prop):Prop:=
 match KI P t,m,k with
 |some y,.map m,.int c n=>S6 c y.2.2 m n h fun v b a=>K (.tuple #[v,.int .i64 (b:Int)]) a
 |_,_,_=>False
def KJ (m b v:Value) (h:af) (K:af→Prop):Prop:=
 match m,b with
 | .map m,.int .i64 b=>OG m b v h K
 |_,_=>False
def KK (P:Program) (t:TypeId) (x:Value) (h:af) (K:Value→af→Prop):Prop:=
 match KI P t,x with
 |some _,.map m=>OH m h fun r a=>K (.pointer (some ⟨r,0,none⟩)) a
 |_,_=>False
def KL (b:Value) (h:af) (K:Int→Value→Prop):Prop:=
 match b with
 | .pointer (some a)=>Sb a h K
 |_=>False
def OJ (b:Value) (h:af) (over:af→Prop) (K:Value→Value→af→Prop):Prop:=
 match b with
 | .pointer (some a)=>S7 a h over K
 |_=>False
def yf (P:Program) (l:Nat) (args:Array Value) (h:af) (K:Value→af→Prop):Prop:=
 ∀w:World,w.heap=h→ ∃fn c a b,(Instr.yield l args).run P w= .ok (.round l fn c a b) w∧
  RoundIn Fence.wide 0 P l fn c a b w fun e d=> ∃v,e= .returned v∧Fr w d∧K v d.heap
theorem yf.mono {P:Program} {l:Nat} {args:Array Value} {h:af} {K d:Value→af→Prop} (H:yf P l args h K) (j: ∀v h',K v h'→d v h'):yf P l args h d:=
 fun w m=>let ⟨fn,c,a,b,g,i⟩:=H w m;⟨fn,c,a,b,g,i.mono fun _ _ ⟨v,e,f,k⟩=>⟨v,e,f,j _ _ k⟩⟩
def gV (P:Program) (v:Value) (args:List Value) (h:af) (K:Value→af→Prop):Prop:=
 match v with
 | .func (.func g) first captured=>au P g (first.toList++args++captured.toList).toArray h K
 | .func (.yield l) first _=>yf P l (first.toList++args).toArray h K
 |_=>False
def OK (P:Program) (o:Oper) (p:Operand→Tv) (h:af) (K:Tv→af→Prop):Prop:=
 let ρ:Operand→Value:=fun x=>(p x).v
 match o.op with
 | .store t a x=>match ρ a with
   | .pointer (some n)=>KF P t h n (ρ x) fun d=>K (.val undef) d
   |_=>False
 | .makeSlice t l c=>TY P t (ρ l) (ρ c) h fun v d=>K (.val v) d
 | .call c=>match c.callee with
   | .value f=>gV P (ρ f) (c.args.toList.map ρ) h fun v d=>zK P o.type v fun x=>K (.val x) d
   | .builtin .append=>match c.args.toList,c.argTypes.toList with
     |[s,x],[t,u]=>match R6 P u with
      |true=>R8 P t (ρ s) (ρ x) h fun v d=>zK P o.type v fun x=>K (.val x) d
      |false=>False
     |_,_=>False
   | .builtin .copy=>match c.args.toList,c.argTypes.toList with
     |[s,x],[t,_]=>TZ P t (ρ s) (ρ x) h fun v d=>K (.val v) d
     |_,_=>False
   | .builtin .delete=>match c.args.toList,c.argTypes.toList with
     |[m,k],t::_=>Sd P t (ρ m) (ρ k) h fun d=>K (.val (.tuple #[])) d
     |_,_=>False
   | .builtin .clear=>match c.args.toList,c.argTypes.toList with
     |[s],[t]=>T1 P t (ρ s) h fun v d=>K (.val v) d
     |_,_=>False
   |_=>pE P (execOp ρ o) h K
 | .lookup t x i ok=>OI P t (ρ x) (ρ i) ok h fun v d=>zK P o.type v fun y=>K (.val y) d
 | .mapUpdate t m k x=>Qy P t (ρ m) (ρ k) (ρ x) h fun d=>K (.val undef) d
 | .insert t m k x=>Qy P t (ρ m) (ρ k) (ρ x) h fun d=>K (.val undef) d
 | .mapEntry t m k=>Se P t (ρ m) (ρ k) h fun v d=>zK P o.type v fun y=>K (.val y) d
 | .entryStore _ m b x=>KJ (ρ m) (ρ b) (ρ x) h fun d=>K (.val undef) d
 | .range t x=>KK P t (ρ x) h fun v d=>K (.val v) d
 | .next g false=>OJ (ρ g) h (fun d=>K (.val (.tuple #[.bool false])) d) fun k v d=>K (.val (.tuple #[.bool true,k,v])) d
 | .entry g=>KL (ρ g) h fun k v=>K (.val (.tuple #[.int .i64 k,v])) h
 | .convert j e x=>OD P j e (ρ x) h (pE P (execOp ρ o) h K) fun v d=>zK P o.type v fun x=>K (.val x) d
 |_=>pE P (execOp ρ o) h K
def OL (P:Program) (o:Oper) (c:Operand→Tv) (h:af) (K:Tv→Prop):Prop:=
 match o.op with
 | .load t a=>match(c a).v with
   | .pointer (some b)=>EE P t h b fun v=>K (.val v)
   |_=>False
 |_=>False
def Jc (P:Program) (o:Oper) (a:Operand→Tv) (h:af) (K:Tv→af→Prop):Prop:=
 match I7 P o.op with
 | .pure=>OB P o a fun x=>K x h
 | .load=>OL P o a h fun x=>K x h
 | .alloc=>HY P (execOp (fun x=>(a x).v) o) h K
 | .loud=>OK P o a h K
end
section
theorem GW {P:Program} {s:Sem Next} {K:Value→Prop} (H:I8 P s K): ∃v,K v∧ ∀w,s.run P w= .ok (.value v) w:=by
 unfold I8 at H;split at H
 ·rename_i v a;exact⟨v,H,Oz P s a⟩
 ·exact H.elim
theorem kl {P:Program} {x:Option Value} {y d:Nat} {K:Nat→Prop} {code:BoundsCode} (H:bnd x y d K):
 ∃n,K n∧ ∀w,(match x with|some v=>Instr.sliceBound v y code|none=>pure d).run P w= .ok n w:=by
 unfold bnd at H;split at H
 ·exact⟨d,H,fun w=>rfl⟩
 ·rename_i k n;obtain⟨a,b,H⟩:=H;refine⟨_,H,fun w=> ?_⟩;simp only[Instr.sliceBound,asIntOf,bf,bN,a,b,and_self,if_true]
 ·exact H.elim
theorem KM {P:Program} {t:TypeId} {x:Value} {lo hi f:Option Value} {K:Value→Prop} (H:KG P t x lo hi f K):
 ∃v,K v∧ ∀w,(Instr.sliceAt t x lo hi f).run P w= .ok v w:=by
 unfold KG at H;split at H
 ·rename_i s d;split at H
  ·obtain⟨h,H,c⟩:=kl (P:=P) (code:= .sliceAlen) H;obtain⟨l,H,b⟩:=kl (P:=P) (code:= .sliceB) H;refine⟨_,H,fun w=> ?_⟩;have j:=c w;have g:=b w;cases hi<;>cases lo<;>simp_all [Instr.sliceAt,Instr.slice,Instr.sliceBounds,bf,bF d,bN]
  ·exact H.elim
 ·rename_i e a len o d;cases hP:P.info? e with
  |none=>cases hi<;>cases f<;>simp[hP] at H
  |some i=>
   cases hi with
   |none=>
    cases f with
    |some m=>simp[hP] at H
    |none=>
     simp only[hP] at H;obtain⟨l,H,b⟩:=kl (P:=P) (code:= .sliceB) H;refine⟨_,H,fun w=> ?_⟩;have g:=b w;cases lo<;>simp_all [Instr.sliceAt,Instr.slice,Instr.sliceBounds,bf,bF d,fj hP,bN]
   |some q=>
    cases f with
    |none=>
     simp only[hP] at H;obtain⟨m,H,k⟩:=kl (P:=P) (code:= .slice3Acap) H;obtain⟨h,H,c⟩:=kl (P:=P) (code:= .sliceAcap) H;obtain⟨l,H,b⟩:=kl (P:=P) (code:= .sliceB) H;refine⟨_,H,fun w=> ?_⟩;have j:=c w;have g:=b w;have p:=k w;cases lo<;>simp_all [Instr.sliceAt,Instr.slice,Instr.sliceBounds,bf,bF d,fj hP,bN]
    |some r=>
     simp only[hP] at H;obtain⟨m,H,k⟩:=kl (P:=P) (code:= .slice3Acap) H;obtain⟨h,H,c⟩:=kl (P:=P) (code:= .slice3B) H;obtain⟨l,H,b⟩:=kl (P:=P) (code:= .slice3C) H;refine⟨_,H,fun w=> ?_⟩;have j:=c w;have g:=b w;have p:=k w;cases lo<;>simp_all [Instr.sliceAt,Instr.slice,Instr.sliceBounds,bf,bF d,fj hP,bN]
 ·rename_i n e a d;cases hP:P.info? e with
  |none=>cases f<;>simp[hP] at H
  |some i=>
   cases f with
   |some m=>simp[hP] at H
   |none=>
    simp only[hP] at H;obtain⟨h,H,c⟩:=kl (P:=P) (code:= .sliceAlen) H;obtain⟨l,H,b⟩:=kl (P:=P) (code:= .sliceB) H;refine⟨_,H,fun w=> ?_⟩;have j:=c w;have g:=b w;cases hi<;>cases lo<;>simp_all [Instr.sliceAt,Instr.sureAddr,Instr.sliceBounds,bf,bF d,fj hP,bN]
 ·exact H.elim
theorem HZ {P:Program} {t:TypeId} {x h:Value} {K:Value→Prop} (H:EF P t x h K):
 ∃v,K v∧ ∀w,(Instr.indexAt t x h).run P w= .ok v w:=by
 unfold EF at H;split at H
 ·rename_i k i;split at H
  ·rename_i e b len c g;split at H
   ·rename_i j hi;obtain⟨a,rfl,d,f,H⟩:=H;refine⟨_,H,fun w=> ?_⟩;simp[Instr.indexAt,asIntOf,bf,bN,bF g,fj hi,d,f]
   ·exact H.elim
  ·rename_i len e a g;split at H
   ·rename_i j hi;obtain⟨d,f,H⟩:=H;refine⟨_,H,fun w=> ?_⟩;simp[Instr.indexAt,asIntOf,Instr.sureAddr,bf,bN,bF g,fj hi,d,f]
   ·exact H.elim
  ·exact H.elim
 ·exact H.elim
theorem OM {P:Program} {t:TypeId} {z:Value} (h:zJ P t=some (.one z)): ∃d,P.underlying t=some d∧AZ d=false:=by
 unfold zJ at h;split at h
 ·rename_i d i a hi;refine⟨d,a,?_⟩;split at h<;>first|(split at h<;>simp at h;done)|simp_all
 ·cases h
theorem ON {P:Program} {t:TypeId} {zs:List Value} (h:zJ P t=some (.agg zs)): ∃d,P.underlying t=some d∧AZ d=true:=by
 unfold zJ at h;split at h
 ·rename_i d i a hi;refine⟨d,a,?_⟩;split at h<;>first|(split at h<;>simp at h;done)|simp_all
 ·cases h
theorem OO {P:Program} {t:TypeId} {x m:Value} {K:Value→Prop} (H:R7 P t x m K):
 ∃v,K v∧ ∀w,(Instr.index t x m).run P w= .ok v w:=by
 unfold R7 at H;split at H
 ·rename_i k i;split at H
  ·rename_i s c;obtain⟨a,b,n,H⟩:=H;refine⟨_,H,fun w=> ?_⟩;simp[Instr.index,asIntOf,bf,bN,bF c,a,n]
  ·rename_i len e p c;split at H
   ·rename_i z o l hi;obtain⟨a,f,H⟩:=H;obtain⟨v,j,H⟩:=kK H;obtain⟨d,h,g⟩:=OM l;refine⟨_,H,fun w=> ?_⟩;simp[Instr.index,asIntOf,bf,bN,bF c,fj hi,part,i5 h,g,a,f,j]
   ·rename_i zs o l hi;obtain⟨a,f,H⟩:=H;obtain⟨q,j,H⟩:=AY H;obtain⟨d,h,g⟩:=ON l;refine⟨_,H,fun w=> ?_⟩;simp[Instr.index,asIntOf,bf,bN,bF c,fj hi,part,i5 h,g,a,f,j]
   ·exact H.elim
  ·exact H.elim
 ·exact H.elim
theorem Jd (P:Program) (a:BinOp) (t:TypeId) (x y:Operand) (p q:Option Addr) (w:World):
 (eqGuard a t x y (.pointer p) (.pointer q)).run P w= .ok () w:=by
 unfold eqGuard;cases a<;>rfl
theorem F0 (P:Program) (e:BinOp) (t:TypeId) (x y:Operand) (p q:Option Addr) (a b c d:Nat) (w:World):
 (eqGuard e t x y (.slice p a b) (.slice q c d)).run P w= .ok () w:=by
 unfold eqGuard;cases e<;>rfl
theorem Je (P:Program) (a:BinOp) (t:TypeId) (x y:Operand) (p q:Option Nat) (w:World):
 (eqGuard a t x y (.map p) (.map q)).run P w= .ok () w:=by
 unfold eqGuard;cases a<;>rfl
theorem oQ (P:Program) (a:BinOp) (t:TypeId) (x y:Operand) (k b:IntKind) (p q:Int) (w:World):
 (eqGuard a t x y (.int k p) (.int b q)).run P w= .ok () w:=by
 unfold eqGuard;cases a<;>rfl
theorem Jf {P:Program} {t e:TypeId} {p q:Option Addr} {K:Bool→Prop} (c:P.underlying t=some (.pointer e)) (H:Qw p q K) (d:Nat):
 ∃b,K b∧ ∀w,(Op.equalIn (d+1) t (.pointer p) (.pointer q)).run P w= .ok b w:=by
 unfold Qw at H;cases q with
 |none=>
  refine⟨_,H,fun w=> ?_⟩;cases p<;>simp[Op.equalIn,bf,bF c,bN]
 |some b=>
  cases p with
  |none=>exact⟨_,H,fun w=>by simp[Op.equalIn,bf,bF c,bN]⟩
  |some a=>exact H.elim
theorem F4 {P:Program} {t e:TypeId} {p q:Option Addr} {K:Bool→Prop} (h:P.underlying t=some (.slice e)) (H:Qw p q K) (d:Nat):
 ∃b,K b∧ ∀l c g f w,(Op.equalIn (d+1) t (.slice p l c) (.slice q g f)).run P w= .ok b w:=by
 unfold Qw at H;cases q with
 |none=>
  refine⟨_,H,fun l c g f w=> ?_⟩;cases p<;>simp[Op.equalIn,bf,bF h,bN]
 |some b=>
  cases p with
  |none=>exact⟨_,H,fun l c g f w=>by simp[Op.equalIn,bf,bF h,bN]⟩
  |some a=>exact H.elim
theorem Jg {P:Program} {t e k:TypeId} {p q:Option Nat} {K:Bool→Prop} (c:P.underlying t=some (.map k e)) (H:Qw p q K) (d:Nat):
 ∃b,K b∧ ∀w,(Op.equalIn (d+1) t (.map p) (.map q)).run P w= .ok b w:=by
 unfold Qw at H;cases q with
 |none=>
  refine⟨_,H,fun w=> ?_⟩;cases p<;>simp[Op.equalIn,bf,bF c,bN]
 |some b=>
  cases p with
  |none=>exact⟨_,H,fun w=>by simp[Op.equalIn,bf,bF c,bN]⟩
  |some a=>exact H.elim
theorem vI {P:Program} {t:TypeId} {x y:Value} {b:Bool} (h: ∀w,(Op.equalIn (9999+1) t x y).run P w= .ok b w) (w:World):(Op.equal t x y).run P w= .ok b w:=h w
theorem Qz {P:Program} {t:TypeId} {x y:Value} {b:Bool} (h:TC (P.underlying t) x y=some b) (d:Nat) (w:World):
 (Op.equalIn (d+1) t x y).run P w= .ok b w:=by
 unfold TC at h;split at h
 ·rename_i a;split at h
  ·rename_i c
   injection h with h
   subst c;subst h;simp[Op.equalIn,bf,bF a,bN]
  ·cases h
 ·rename_i a
  injection h with h
  subst h;simp[Op.equalIn,bf,bF a,bN]
 ·rename_i a
  injection h with h
  subst h;simp[Op.equalIn,bf,bF a,bN]
 ·cases h
theorem F5 {P:Program} {t:TypeId} (b:C1 P t=true) (w:World):(isAgg t).run P w= .ok false w:=by
 unfold C1 at b;split at b
 ·rename_i k a;rw[i5 a];rfl
 ·rename_i a;rw[i5 a];rfl
 ·rename_i a;rw[i5 a];rfl
 ·cases b
theorem Jh {P:Program} {t:TypeId} {cs:Array Value} {k:Nat} {v:Value} (a:C1 P t=true) (h:cs[k]? =some v) (w:World):(part t cs k).run P w= .ok v w:=by
 simp only[part,bf,F5 a,Vr,if_false,h];rfl
theorem OP {P:Program} {f:Field} {d:List Field} {x y:Value} {xs ys:List Value} {b:Bool} (h:Qe P (f::d) (x::xs) (y::ys)=some b):
 ∃a c,TC (P.underlying f.type) x y=some a∧Qe P d xs ys=some c∧b=(a&&c):=by
 simp only[Qe] at h;split at h
 ·rename_i a c e g;exact⟨a,c,e,g,by injection h with h;exact h.symm⟩
 ·cases h
theorem zN {P:Program} {xs ys:Array Value} (d:Nat): ∀(i:List Field) (k:Nat) (e g:List Value) (b:Bool),Ja P i k=true→
 (∀j v,e[j]? =some v→xs[k+j]? =some v)→(∀j v,g[j]? =some v→ys[k+j]? =some v)→Qe P i e g=some b→ ∀w:World,
 (forIn i ((none,()):Option Bool×Unit) (fun f r=>
  if f.name≠ "_" then do
   let a←part f.type xs f.offset
   let c←part f.type ys f.offset
   let a←Op.equalIn (d+1) f.type a c
   if(!a)=true then pure (ForInStep.done (some false,())) else pure (ForInStep.yield (none,()))
  else pure (ForInStep.yield (none,()))):Sem (Option Bool×Unit)).run P w= .ok (if b then(none,()) else(some false,())) w
 |[],k,e,g,b,_,_,_,h,w=>by
  cases e<;>cases g<;>simp[Qe] at h;subst h;rfl
 |f::i,k,e,g,b,l,hx,hy,h,w=>by
  cases e with
  |nil=>simp[Qe] at h
  |cons x e=>
   cases g with
   |nil=>simp[Qe] at h
   |cons y g=>
    obtain⟨s,t,u,z,rfl⟩:=OP h;simp only[Ja,U9,bne_iff_ne] at l;obtain⟨⟨⟨A,n⟩,q⟩,l⟩:=l;have n:f.offset=k:=V5 n;have o:=hx 0 x rfl;have p:=hy 0 y rfl;rw[Va] at o p;rw[List.forIn_cons,bf];rw[if_pos A,n];simp only[bf,Jh q o,Jh q p,Qz u d];cases s with
    |false=>rfl
    |true=>
     simp only[Bool.not_true,Vr,if_false,bN,Bool.true_and];exact zN d i (k+1) e g t l (fun j v m=>by have:=hx (j+1) v (by simpa using m);rw[show k+1+j=k+(j+1) by omega];exact this)
      (fun j v m=>by have:=hy (j+1) v (by simpa using m);rw[show k+1+j=k+(j+1) by omega];exact this) z w
theorem EG {P:Program} {t:TypeId} {a:Array Field} {xs ys:Array Value} {b:Bool} (g:P.underlying t=some (.struct a)) (f:Ja P a.toList 0=true)
 (e:P.stoodInHeld t=false) (h:Qe P a.toList xs.toList ys.toList=some b) (d:Nat) (w:World):(Op.equalIn (d+1+1) t (.agg xs) (.agg ys)).run P w= .ok b w:=by
 have:=zN (P:=P) (xs:=xs) (ys:=ys) d a.toList 0 xs.toList ys.toList b f (fun j v c=>by simpa using c) (fun j v c=>by simpa using c) h w;rw[Op.equalIn];simp only[bf,bF g,program,Sem.run,e,Vr,if_false];rw[←Array.forIn_toList,this];cases b<;>rfl
theorem EH {P:Program} {a:BinOp} {t:TypeId} {x y:Operand} {xs ys:Array Value} (b:P.eqGuardType P.depth t=false) (w:World):
 (eqGuard a t x y (.agg xs) (.agg ys)).run P w= .ok () w:=by
 unfold eqGuard;cases a<;>simp[bf,program,Sem.run,b,bN]<;>rfl
theorem Ma {P:Program} {g:BinOp} {t:TypeId} {i j:Operand} {x y:Value} {c:Prop} {K:Value→Prop} (a:g= .eql∨g= .neq)
 (n:c→ ∃v,K v∧ ∀w,(do eqGuard g t i j x y;binOp g t x y:Sem Value).run P w= .ok v w)
 (H:TD P g t x y c K): ∃v,K v∧ ∀w,(do eqGuard g t i j x y;binOp g t x y:Sem Value).run P w= .ok v w:=by
 unfold TD at H;split at H
 ·rename_i f;obtain⟨b,d,e⟩:=Jf f H 9999;refine⟨_,d,fun w=> ?_⟩;rcases a with rfl|rfl<;>simp[bf,Jd,binOp,vI e,bN,I9]
 ·rename_i f;obtain⟨b,d,e⟩:=F4 f H 9999;refine⟨_,d,fun w=> ?_⟩;rcases a with rfl|rfl<;>simp[bf,F0,binOp,vI (e _ _ _ _),bN,I9]
 ·rename_i f;obtain⟨b,d,e⟩:=Jg f H 9999;refine⟨_,d,fun w=> ?_⟩;rcases a with rfl|rfl<;>simp[bf,Je,binOp,vI e,bN,I9]
 ·rename_i p xs o f;split at H
  ·rename_i b h d;simp only[RF,U9,Wh] at h;obtain⟨⟨k,l⟩,m⟩:=h;have e: ∀w,(Op.equalIn (9999+1) t (.agg xs) (.agg o)).run P w= .ok b w:=EG f k l d 9998;refine⟨_,H,fun w=> ?_⟩;rw[bf,EH m];rcases a with rfl|rfl<;>simp only[binOp,bf,vI e,bN,I9]
  ·exact H.elim
 ·exact n H
theorem OQ {P:Program} {e:BinOp} {t:TypeId} {h f:Operand} {x y:Value} {c:Prop} {K:Value→Prop}
 (d:c→ ∃v,K v∧ ∀w,(do eqGuard e t h f x y;binOp e t x y:Sem Value).run P w= .ok v w)
 (H:KH P e t f x y c K): ∃v,K v∧ ∀w,(do eqGuard e t h f x y;binOp e t x y:Sem Value).run P w= .ok v w:=by
 cases e
 case add=>
  simp only[KH] at H;split at H
  ·obtain⟨h0,H⟩:=H;refine⟨_,H,fun w=> ?_⟩;have:=Int.not_lt.2 h0;rename_i a b;have i:(eqGuard BinOp.add t h f (.string a) (.string b)).run P w= .ok () w:=rfl;rw[bf,i];simp only[binOp,Op.stringOp];rw[if_neg (by omega)];rfl
  ·exact d H
 case eql=>exact Ma (.inl rfl) d H
 case neq=>exact Ma (.inr rfl) d H
 case quo=>
  simp only[KH] at H;split at H
  ·exact d H
  ·split at H
   ·split at H
    ·rename_i g;subst g;obtain⟨h0,H⟩:=H;refine⟨_,H,fun w=> ?_⟩;simp[bf,oQ,binOp,Op.intDiv,h0,bN]
    ·exact H.elim
   ·exact H.elim
 case rem=>
  simp only[KH] at H;split at H
  ·exact d H
  ·split at H
   ·split at H
    ·rename_i g;subst g;obtain⟨h0,H⟩:=H;refine⟨_,H,fun w=> ?_⟩;simp[bf,oQ,binOp,Op.intDiv,h0,bN]
    ·exact H.elim
   ·exact H.elim
 case shl=>
  simp only[KH] at H;split at H
  ·exact d H
  ·split at H
   ·obtain⟨h0,H⟩:=H;refine⟨_,H,fun w=> ?_⟩;have:=Int.not_lt.2 h0;simp[bf,oQ,binOp,Op.shift,this,bN]
   ·exact H.elim
 case shr=>
  simp only[KH] at H;split at H
  ·exact d H
  ·split at H
   ·obtain⟨h0,H⟩:=H;refine⟨_,H,fun w=> ?_⟩;have:=Int.not_lt.2 h0;simp[bf,oQ,binOp,Op.shift,this,bN]
   ·exact H.elim
 all_goals exact d H
theorem A0 {P:Program} {o:Oper} {d:Operand→Tv} {K:Tv→Prop} (H:OB P o d K):
 ∃x,K x∧ ∀w,(execOp (fun x=>(d x).v) o).run P w= .ok (.value x.v) w:=by
 have l:(I8 P (execOp (fun x=>(d x).v) o) fun v=>K (.val v))→ ∃x,K x∧ ∀w,(execOp (fun x=>(d x).v) o).run P w= .ok (.value x.v) w:=fun H=>by
  obtain⟨v,h,g⟩:=GW H;exact⟨.val v,h,g⟩
 obtain⟨z,k,r,pos,m,guard⟩:=o;unfold OB at H;cases k<;>simp only at H
 case move x=>exact⟨_,H,fun w=>rfl⟩
 case assign x=>exact⟨_,H,fun w=>rfl⟩
 case pick c a b=>
  split at H
  ·rename_i j;exact⟨_,H,fun w=>by simp[execOp,bf,j,Tv.v,asBool,bN]⟩
  ·rename_i j;exact⟨_,H,fun w=>by simp[execOp,bf,j,Tv.v,asBool,bN]⟩
  ·rename_i x j;cases x with
   |true=>exact⟨_,H.1 rfl,fun w=>by simp[execOp,bf,j,Tv.v,asBool,bN]⟩
   |false=>exact⟨_,H.2 rfl,fun w=>by simp[execOp,bf,j,Tv.v,asBool,bN]⟩
  ·exact H.elim
 case nilCheck x=>
  unfold SZ at H;split at H
  ·rename_i p q;obtain⟨a,rfl,H⟩:=H;exact⟨_,H,fun w=>by simp only[execOp,q];rfl⟩
  ·rename_i f a b q;exact⟨_,H,fun w=>by simp only[execOp,q];rfl⟩
  ·exact H.elim
 case indexAddr t x i=>
  obtain⟨v,h,g⟩:=HZ H;exact⟨_,h,fun w=>by simp only[execOp];rw[bf,g w];rfl⟩
 case index t x i=>
  obtain⟨v,h,g⟩:=OO H;exact⟨_,h,fun w=>by simp only[execOp];rw[bf,g w];rfl⟩
 case slice t x lo hi mx=>
  obtain⟨v,h,g⟩:=KM H;exact⟨_,h,fun w=>by simp only[execOp];rw[bf,g w];rfl⟩
 case binOp k t x y u=>
  have B: ∃v,K (.val v)∧ ∀w,(do eqGuard k t x y (d x).v (d y).v;binOp k t (d x).v (d y).v:Sem Value).run P w= .ok v w:=by
   refine OQ (K:=fun v=>K (.val v)) (fun C=> ?_) H;obtain⟨v,h,g⟩:=GW C;refine⟨v,h,fun w=> ?_⟩;have:=g w;simp only[execOp,bf] at this ⊢;cases h1:(eqGuard k t x y (d x).v (d y).v).run P w with
   |halt e s=>simp[h1] at this
   |ok a s=>
    simp only[h1] at this ⊢;cases h2:(binOp k t (d x).v (d y).v).run P s with
    |halt e D=>simp[h2] at this
    |ok b D=>
     simp only[h2,bN] at this
     injection this with n A
     injection n with n
     rw[n,A]
  obtain⟨v,h,g⟩:=B;refine⟨_,h,fun w=> ?_⟩;have:=g w;simp only[execOp];rw[bf,this];rfl
 all_goals exact l H
end
section
theorem qw {P:Program} {t:TypeId} {y:TypeId×TypeId×Value} (h:KI P t=some y):P.underlying t=some (.map y.1 y.2.1)∧(∃k,P.underlying y.1=some (.int k))∧ ∃a,P.info? y.2.1=some a∧a.zero=some y.2.2:=by
 unfold KI at h;split at h
 ·rename_i g f c;split at h
  ·rename_i a b hi;split at h
   ·rename_i z d;simp only[Option.some.injEq] at h;subst h;refine⟨c,?_,a,hi,d⟩;unfold L7 at b;split at b
    ·rename_i k e;exact⟨k,e⟩
    ·cases b
   ·cases h
  ·cases h
 ·cases h
theorem im {P:Program} {a:TypeId} {kk kk':IntKind} {n:Int} {e:Bool} {h:af} {K:Unit→af→Prop} (b:P.underlying a=some (.int kk')) (H:K () h):cN P (Instr.checkKey e 10000 a (.int kk n)) h K:=by
 unfold Instr.checkKey;simp only[aM,bJ b];exact H
theorem BX {kk kk':IntKind} {n:Int}: ∀{es:List MapEntry} {i:Nat},(∀e∈es,∃a:Int,e.key= .int kk a)→Instr.findNow (.int kk') (.int kk n) es i=some (kM n es i)
 |[],i,_=>rfl
 |e::es,i,ha=>by
  obtain⟨a,ea⟩:=ha e (by simp);have c:=BX (kk':=kk') (n:=n) (es:=es) (i:=i+1) fun x b=>ha x (by simp[b]);simp only[Instr.findNow,Instr.sameNow,ea,kM,eO,if_true];cases hb:n==a with
  |true=>rfl
  |false=>exact c
theorem km {P:Program} {a:TypeId} {kk kk':IntKind} {n:Int} {es:Array MapEntry} {h:af} {K:Option (Nat×Value)→af→Prop} (c:P.underlying a=some (.int kk')) (b:MY kk es) (H:K (kM n es.toList 0) h):cN P (Instr.findKey a (.int kk n) es.toList) h K:=by
 unfold Instr.findKey;simp only[aM,bJ c,BX b];exact H
theorem yg {P:Program} {t:TypeId} {a:TypeInfo} {z:Value} {h:af} {K:Value→af→Prop} (hi:P.info? t=some a) (b:a.zero=some z) (H:K z h):cN P (zeroValue t) h K:=by
 unfold zeroValue;simp only[aM,dU hi,b];exact H
theorem fk {P:Program} {r:Nat} {o:Obj} {h:af} {K:Obj→af→Prop} (b:h[r]? =some o) (a:mK o=false) (H:K o h):cN P (getObj r) h K:=⟨o,b,a,H⟩
theorem gI {P:Program} {r:Nat} {o u:Obj} {h:af} {K:Unit→af→Prop} (b:h[r]? =some u) (a:mK u=false) (H:K () (h.setIfInBounds r o)):cN P (setObj r o) h K:=⟨u,b,a,H⟩
theorem KN {P:Program} {t:TypeId} {x e:Value} {ok:Bool} {h:af} {K:Value→af→Prop} (H:OI P t x e ok h K):cN P (Instr.lookup t x e ok) h K:=by
 unfold OI at H;split at H
 ·rename_i y m j n i;obtain⟨g,⟨k,a⟩,l,hi,d⟩:=qw i;unfold Instr.lookup;simp only[aM,bJ g];unfold nI L9 at H;cases m with
  |none=>
   obtain⟨b,H⟩:=H;simp only[aM,bC];refine im a (km (es:= #[]) a b ?_);cases hf:kM n (#[]:Array MapEntry).toList 0 with
   |some x=>
    rw[hf] at H;simp only[bC,aM];cases ok<;>exact H
   |none=>
    rw[hf] at H;simp only[aM];refine yg hi d ?_;simp only[bC];cases ok<;>exact H
  |some r=>
   obtain⟨es,c,f,b,H⟩:=H;simp only[aM];refine fk f rfl ?_;simp only[aM,bC];refine im a (km a b ?_);cases hf:kM n es.toList 0 with
   |some x=>
    rw[hf] at H;simp only[bC,aM];cases ok<;>exact H
   |none=>
    rw[hf] at H;simp only[aM];refine yg hi d ?_;simp only[bC];cases ok<;>exact H
 ·exact H.elim
theorem xy {P:Program} {kk:IntKind} {a n:Int} {h:af} {K:Value→af→Prop} (b:n=a) (H:K (.int kk n) h):cN P (Instr.keyThatStays (.int kk a) (.int kk n)) h K:=by
 subst b;unfold Instr.keyThatStays;simp only[Instr.sameBits,beq_self_eq_true,Bool.and_self,if_true];exact H
theorem GX {n:Int}: ∀{es:List MapEntry} {i j:Nat} {v:Value},kM n es i=some (j,v)→ ∃e:MapEntry,i≤j∧es[j-i]? =some e∧eO n e=true∧e.val=v
 |[],_,_,_,h=>by simp[kM] at h
 |e::es,i,j,v,h=>by
  simp only[kM] at h;split at h
  ·rename_i f;simp only[Option.some.injEq,Prod.mk.injEq] at h;obtain⟨rfl,rfl⟩:=h;exact⟨e,U3 _,by simp,f,rfl⟩
  ·obtain⟨a,g,b,c,d⟩:=GX h;exact⟨a,by omega,by rw[show j-i=(j-(i+1))+1 by omega];exact b,c,d⟩
theorem Ji {kk:IntKind} {n:Int} {es:Array MapEntry} {j:Nat} {v:Value} (d:MY kk es) (h:kM n es.toList 0=some (j,v)):((es[j]?).map (·.key)).getD (.int kk n)= .int kk n:=by
 obtain⟨e,_,b,c,_⟩:=GX h;obtain⟨a,ea⟩:=d e (UR b);have:es[j]? =some e:=by simpa using b
 rw[this];simp only[Option.map_some,WJ,ea];simp only[eO,ea,beq_iff_eq] at c;rw[c]
theorem GY {P:Program} {t:TypeId} {m k v:Value} {h:af} {K:af→Prop} (H:Qy P t m k v h K):cN P (Instr.mapUpdate t m k v) h fun _ e=>K e:=by
 unfold Qy at H;split at H
 ·rename_i y m j n g;obtain⟨f,⟨k,d⟩,l,hi,i⟩:=qw g;unfold Instr.mapUpdate;simp only[aM,bJ f];unfold updB at H;cases m with
  |none=>exact H.elim
  |some r=>
   obtain⟨es,c,a,b,H⟩:=H;simp only[aM];refine fk a rfl ?_;simp only[aM];refine im d (km d b ?_);unfold R9 at H;cases hf:kM n es.toList 0 with
   |some x=>
    rw[hf] at H;simp only[aM];have:=Ji b hf;rw[this];exact xy rfl (gI a rfl H)
   |none=>
    rw[hf] at H;exact gI a rfl H
 ·exact H.elim
theorem MZ {P:Program} {t:TypeId} {i:TypeId} {r:List TypeId} {m k:Value} {h:af} {K:af→Prop} (H:Sd P t m k h K):cN P (Builtin.delete_ (t::r).toArray i #[m,k]) h fun v d=>v= .tuple #[]∧K d:=by
 unfold Sd at H;split at H
 ·rename_i y m l n g;obtain⟨f,⟨k,a⟩,o,hi,j⟩:=qw g;unfold Builtin.delete_;simp only[Wp,List.getElem?_cons_zero,List.getElem?_cons_succ,aM,bJ f];unfold OE at H;cases m with
  |none=>
   dsimp only;simp only[aM];refine im a ?_;exact⟨rfl,H⟩
  |some r=>
   obtain⟨es,c,b,e,H⟩:=H;simp only[aM];refine fk b rfl ?_;simp only[aM];refine im a (km a e ?_);unfold Sa at H;cases hf:kM n es.toList 0 with
   |some x=>rw[hf] at H;dsimp only;simp only[aM];refine gI b rfl ?_;exact⟨rfl,H⟩
   |none=>rw[hf] at H;dsimp only;simp only[aM];refine gI b rfl ?_;exact⟨rfl,H⟩
 ·exact H.elim
theorem M0 {P:Program} {t:TypeId} {m k:Value} {h:af} {K:Value→af→Prop} (H:Se P t m k h K):cN P (Instr.mapEntry t m k) h K:=by
 unfold Se at H;split at H
 ·rename_i y m l n i;obtain⟨g,⟨k,d⟩,o,hi,j⟩:=qw i;unfold Instr.mapEntry;simp only[aM,bJ g];unfold S6 at H;cases m with
  |none=>exact H.elim
  |some r=>
   obtain⟨es,c,a,b,H⟩:=H;simp only[aM];refine fk a rfl ?_;simp only[aM];refine im d (km d b ?_);cases hf:kM n es.toList 0 with
   |some x=>
    rw[hf] at H;simp only[aM];have:=Ji b hf;rw[this];refine xy rfl (gI a rfl ?_);have f:(Option.map (fun e:MapEntry=>(e.born:Int)) es[x.1]?).getD 0=(((Option.map (·.born) es[x.1]?).getD 0:Nat):Int):=by cases es[x.1]? <;>rfl
    show K (.tuple #[x.2,.int .i64 ((Option.map (fun e:MapEntry=>(e.born:Int)) es[x.1]?).getD 0)]) _;rw[f];exact H
   |none=>
    rw[hf] at H;simp only[aM];exact yg hi j (gI a rfl H)
 ·exact H.elim
theorem Jj {P:Program} {t:TypeId} {m b v:Value} {h:af} {K:af→Prop} (H:KJ m b v h K):cN P (Instr.entryStore t m b v) h fun _ d=>K d:=by
 unfold KJ at H;split at H
 ·rename_i m b;unfold OG at H;cases m with
  |none=>exact H.elim
  |some r=>
   obtain⟨es,c,i,a,hi,H⟩:=H;unfold Instr.entryStore;simp only[aM];refine fk a rfl ?_;simp only[aM,asInt,asIntOf,bC];rw[hi];exact gI a rfl H
 ·exact H.elim
theorem Jk {P:Program} {t:TypeId} {x:Value} {h:af} {K:Value→af→Prop} (H:KK P t x h K):cN P (Instr.range t x) h K:=by
 unfold KK at H;split at H
 ·rename_i y m d;obtain⟨b,⟨k,e⟩,g,hi,f⟩:=qw d;unfold Instr.range;simp only[aM,bJ b];unfold OH L9 at H;cases m with
  |none=>exact H
  |some r=>
   obtain⟨es,c,a,H⟩:=H;simp only[aM];exact fk a rfl H
 ·exact H.elim
theorem Jl {P:Program} {i:Value} {h:af} {K:Int→Value→Prop} (H:KL i h K) {f:Value→af→Prop} (m: ∀k v,K k v→f (.tuple #[.int .i64 k,v]) h):cN P (Instr.entry i) h f:=by
 unfold KL at H;split at H
 ·rename_i a;obtain⟨h0,r,d,j,c,es,g,s,b,e,n,o,p,q,H⟩:=H;obtain⟨blk,t,l⟩:=a;dsimp only at h0 g;subst h0;unfold Instr.entry;simp only[aM];refine fk g rfl ?_;simp only[o,aM];refine fk s rfl ?_;simp only[bne_self_eq_false,Vr,if_false,p,q,aM,bC];exact m _ _ H
 ·exact H.elim
theorem KO {P:Program} {U:TypeId} {I:Value} {h:af} {over:af→Prop} {K:Value→Value→af→Prop} (H:OJ I h over K) {s:Value→af→Prop} (G: ∀h',over h'→s (.tuple #[.bool false]) h') (N: ∀k v h',K k v h'→s (.tuple #[.bool true,k,v]) h'):
 cN P (Instr.next I false U) h s:=by
 unfold OJ at H;split at H
 ·rename_i a;obtain⟨h0,m,D,b,d,B,H⟩:=H;obtain⟨blk,T,J⟩:=a;dsimp only at h0 B H;subst h0;unfold Instr.next;simp only[aM];refine fk B rfl ?_;cases m with
  |none=>exact G _ H
  |some r=>
   dsimp only at H;obtain⟨es,c,Q,rfl,O,y,l,w⟩:=H;subst O;simp only[aM];refine fk Q rfl ?_;have A:(!b.isEmpty&& !es.isEmpty&&es.all fun x=>decide (x.born≥d))=false:=by
    cases g:es.isEmpty with
    |true=>simp
    |false=>
     have z:es≠ #[]:=by intro e;rw[e] at g;simp at g
     have f:(es.all fun x=>decide (x.born≥d))=false:=by
      rw[Bool.eq_false_iff];intro f;rw[Array.all_eq_true] at f;have S:0<es.size:=Array.size_pos_iff.2 z;have M:=f 0 S;have V:=y es[0] (by simp);simp at M;omega
     rw[f];simp
   dsimp only;rw[if_neg (by rw[A];simp)];simp only[aM,bC];have p:(Array.filter (fun e=>decide (e.born≥d)) (Array.filter (fun e=> !b.contains e.born) es))= #[]:=by
    apply Array.filter_eq_empty_iff.2;intro e g;have:=(WU.1 g).1;have:=y e (Vx.2 this);simp;omega
   have q:(Array.filter (fun e=>decide (e.born<d)) (Array.filter (fun e=> !b.contains e.born) es))=Array.filter (fun e=> !b.contains e.born) es:=by
    apply Array.filter_eq_self.2;intro e g;have:=(WU.1 g).1;have:=y e (Vx.2 this);simp;omega
   rw[p,q,Array.append_empty];generalize F:Array.filter (fun e=> !b.contains e.born) es=L;have o: ∀e∈L,e∈es.toList∧b.contains e.born=false:=fun e g=>by
    rw[←F] at g;have:=WU.1 g;exact⟨Vx.2 this.1,by simpa using this.2⟩
   have pick: ∀i:Nat,i<(((if L.isEmpty then #[none] else #[]):Array (Option MapEntry))++L.map some).size→
    cN P (match(((if L.isEmpty then #[none] else #[]):Array (Option MapEntry))++L.map some)[i]? with
     |some (some e)=>do
      setObj blk (.mapIter (some r) d (b.push e.born) d)
      pure (.tuple #[.bool true,e.key,e.val])
     |some none=>pure (.tuple #[.bool false])
     |none=>stuck "Next: no such candidate") h s:=by
    intro i hi;cases hLe:L.isEmpty with
    |true=>
     have u:L= #[]:=Array.isEmpty_iff.1 hLe;subst u;simp at hi;subst hi;have E:((((if(#[]:Array MapEntry).isEmpty then #[none] else #[]):Array (Option MapEntry))++Array.map some #[])[0]? :Option (Option MapEntry))=some none:=by simp
     simp only[hLe] at E ⊢;rw[E];refine G h (l fun e g=> ?_);cases hc:b.contains e.born with
     |true=>rfl
     |false=>
      have:e∈Array.filter (fun e=> !b.contains e.born) es:=WU.2 ⟨Vx.1 g,by rw[hc];rfl⟩;rw[F] at this;simp at this
    |false=>
     simp only[hLe,Vr,if_false,Array.empty_append,Array.size_map] at hi ⊢;rw[Array.getElem?_map,Array.getElem?_eq_getElem hi];simp only[Option.map_some,aM];have n:=o L[i] (Array.getElem_mem hi);exact gI B rfl (N _ _ _ (w _ n.1 n.2))
   have j:0<(((if L.isEmpty then #[none] else #[]):Array (Option MapEntry))++L.map some).size:=by
    cases hLe:L.isEmpty with
    |true=>
     have u:L= #[]:=Array.isEmpty_iff.1 hLe;rw[u];simp
    |false=>
     have:L≠ #[]:=fun e=>by rw[e] at hLe;simp at hLe
     have:=Array.size_pos_iff.2 this;simp;exact this
   generalize (((if L.isEmpty then #[none] else #[]):Array (Option MapEntry))++L.map some)=C at pick j ⊢;unfold choose;simp only[cN];split
   ·exact pick 0 j
   ·rename_i R;intro t;refine pick _ ?_;simp only[Question.forced,decide_eq_true_eq,Nat.not_le] at R;exact Nat.mod_lt _ (by omega)
 ·exact H.elim
end
section
def Qf (P:Program) (s:Sem Next) (h:af) (K:Value→af→Prop):Prop:=
 ∀w:World,w.heap=h→match s.run P w with
  | .ok (.value v) a=>Fr w a∧K v a.heap
  | .ok .skip a=>Fr w a∧K undef a.heap
  | .ok (.enter f d) a=>Fr w a∧Calls P f d a fun e b=> ∃v,e= .returned v∧Fr a b∧K v b.heap
  | .ok (.round l f i c g) a=>Fr w a∧RoundIn Fence.wide 0 P l f i c g a fun e b=> ∃v,e= .returned v∧Fr a b∧K v b.heap
  |_=>False
theorem Qf.mono {P:Program} {s:Sem Next} {h:af} {K b:Value→af→Prop} (H:Qf P s h K) (a: ∀v h',K v h'→b v h'):Qf P s h b:=by
 intro w c;have:=H w c;cases hr:s.run P w with
 |halt e g=>rw[hr] at this;exact this.elim
 |ok d g=>
  rw[hr] at this;cases d<;>simp only at this ⊢ <;>try exact this.elim
  ·exact⟨this.1,a _ _ this.2⟩
  ·exact⟨this.1,a _ _ this.2⟩
  ·exact⟨this.1,this.2.mono fun _ _ ⟨v,e,f,k⟩=>⟨v,e,f,a _ _ k⟩⟩
  ·exact⟨this.1,this.2.mono fun _ _ ⟨v,e,f,k⟩=>⟨v,e,f,a _ _ k⟩⟩
theorem A5 {P:Program} {o:Oper} {c:Operand→Tv} {h:af} {K:Tv→Prop} (H:OL P o c h K):
 ∃x,K x∧ ∀w:World,eC h w.heap→(execOp (fun x=>(c x).v) o).run P w= .ok (.value x.v) w:=by
 obtain⟨e,k,d,pos,b,guard⟩:=o;unfold OL at H;cases k<;>simp only at H<;>try exact H.elim
 rename_i t a;split at H
 ·rename_i l f;obtain⟨v,i,g⟩:=GV H;refine⟨_,i,fun w j=> ?_⟩;simp only[execOp,Instr.loadAt,Instr.sureAddr,bf,f,bN,g w j];rfl
 ·exact H.elim
theorem Jm {P:Program} {s:Sem Next} {h:af} {K:Tv→af→Prop} (H:pE P s h K):Qf P s h fun v c=> ∃x:Tv,x.v=v∧K x c:=by
 intro w f;obtain⟨a,g,e,d,b⟩:=I4 P s h _ H w f;rw[e];cases a<;>simp only at b ⊢ <;>first|exact⟨d,_,rfl,b⟩|exact b.elim
theorem KP {P:Program} {s:Sem Next} {h:af} {K:Tv→af→Prop} (H:HY P s h K):Qf P s h fun v a=> ∃x:Tv,x.v=v∧K x a:=by
 unfold HY at H;split at H
 ·rename_i v a b;have:=GS P s b (fun c a=>match c with| .value v=>K (.val v) a| .skip=>K (.val undef) a|_=>False) H;exact Jm this
 ·exact H.elim
theorem KQ (P:Program): ∀(n:Nat) (h:af) (a:Addr) (i:Nat) (c:List Value),Jb h a i n c→ ∀(b:Array Value) (K:Array Value→af→Prop),K (b++c.toArray) h→
 cN P (loadCellsFrom a i n b) h K:=by
 intro n
 induction n with
 |zero=>intro h a i c H b K d;simp only[Jb] at H;subst H;exact(by simpa using d:K b h)
 |succ n g=>
  intro h a i c H b K d;obtain⟨v,r,f,e,rfl⟩:=H;simp only[loadCellsFrom,aM,load,cN];refine⟨v,f,g h a (i+1) r e (b.push v) K ?_⟩;simpa using d
theorem nJ {P:Program} {h:af} {a:Option Addr} {size n l c:Nat} {vs:List Value} (H:readO h a (n*size) vs) {K:Array Value→af→Prop} (b:K vs.toArray h):
 cN P (Builtin.firstCells size n (.slice a l c)) h K:=by
 cases a with
 |none=>simp only[readO] at H;subst H;exact b
 |some a=>exact KQ P _ _ _ _ _ H #[] K (by simpa using b)
theorem H0 {P:Program} {t u p e:TypeId} {x:Value} {base:Option Addr} {len b:Nat} {h:af} {K:Value→af→Prop} {f:TypeInfo} {d:TypeDesc}
 (m: ∀k,d≠ .int k) (l:P.underlying u=some d) (o:P.underlying t=some (.slice e)) (c:P.info? e=some f)
 (H:cN P (do
  let n←Builtin.lenOf x
  let need:=len+n
  if need≤b then
   let new←Builtin.firstCells f.size n x
   if let some a:=base then storeCells (a.add (len*f.size)) new.toList
   pure (Value.slice base need b)
  else
   if(need:Int)>IntKind.i64.max∧(False∨f.bytes=0) then stuck ""
   if Builtin.nextslicecap need b*f.bytes>2 ^ 48 then stuck ""
   let newCap←choose (.appendCap need b e)
   askRoom (newCap*f.bytes);let old←Builtin.firstCells f.size len (.slice base len b)
   let new←Builtin.firstCells f.size n x
   let z←zeroValue e
   pure (.slice (some (←newRow e (old++new++Builtin.zeroCells z.cells (newCap-need)))) need newCap)) h K):
 cN P (Builtin.append_ #[t,u] p #[.slice base len b,x]) h K:=by
 cases d<;>first
  |exact absurd rfl (m _)
  |(simp only[Builtin.append_,Wp,List.getElem?_cons_zero,List.getElem?_cons_succ,aM,bJ o,oO c,bJ l,bC,Vr,if_false,Bool.not_false,if_true] at H ⊢
    refine qu P _ _ H fun n q H=> ?_;split
    ·rename_i g;rw[if_pos g] at H;exact H
    ·rename_i g;rw[if_neg g] at H;simp only[aM,dU c] at H ⊢;split at H
     ·simp only[aM] at H;exact H.elim
     ·rename_i i;rw[if_neg (by simpa using i)];simp only[bC,aM,dU c] at H ⊢;split at H
      ·simp only[aM] at H;exact H.elim
      ·rename_i j;rw[if_neg j];simpa only[bC,aM,dU c] using H)
theorem H1 {P:Program} (m:Nat) (h:af) (K:PUnit→af→Prop) (a:K ⟨⟩ h):cN P (askRoom m) h K:=by
 unfold askRoom;split<;>exact a
theorem M1 {P:Program} {t u:TypeId} {I:TypeId} {s x:Value} {h:af} {K:Value→af→Prop} (o:R6 P u=true) (H:R8 P t s x h K):
 cN P (Builtin.append_ #[t,u] I #[s,x]) h K:=by
 obtain⟨d,C,m⟩: ∃d,P.underlying u=some d∧ ∀k,d≠ .int k:=by
  unfold R6 at o;split at o
  ·rename_i e D;exact⟨_,D,fun k=>by simp⟩
  ·cases o
 unfold R8 at H;split at H
 ·rename_i e base len f b n J F;split at H
  ·rename_i L g;split at H
   ·rename_i z G;unfold OC at H;obtain⟨w,i,r,A⟩:=H;have q: ∀l (j:Value→af→Prop),cN P (zeroValue e) l j↔j z l:=by
     intro l j;simp only[zeroValue,aM,dU g,G];rfl
    refine H0 m C F g ?_;simp only[Builtin.lenOf,aM,bC];by_cases c:len+n≤f
    ·rw[if_pos c];simp only[aM];refine nJ i ?_;cases base with
     |none=>exact r c
     |some a=>
      have:=r c
      try simp only[aM]
      exact oP P _ _ _ _ _ this
    ·rw[if_neg c];obtain⟨B,v,xs,p,E⟩:=A (by omega);rw[if_neg (by simp[B])]
     try simp only[bC,aM]
     rw[if_neg (by omega)];simp only[bC,aM,choose,cN,Question.forced,Vr,if_false];intro tape;refine H1 _ _ _ ?_;refine nJ p ?_;refine nJ i ?_;rw[q];simp only[newRow,newObj,aM,cN,bC];have:=E (Question.cut (.appendCap (len+n) f e) tape) (by simp only[Question.cut];omega);have y: ∀Z:Array Value,(xs++w++Z.toList).toArray=xs.toArray++w.toArray++Z:=fun Z=>by apply Array.ext';simp
     rw[y] at this;exact this
   ·exact H.elim
  ·exact H.elim
 ·exact H.elim
theorem OR {P:Program} {t:TypeId} {l c:Value} {h:af} {K:Value→af→Prop} (H:TY P t l c h K):cN P (Instr.makeSlice t l c) h K:=by
 unfold TY at H;split at H
 ·rename_i e x l y c p;split at H
  ·rename_i r d;split at H
   ·rename_i z q;unfold UA at H;obtain⟨h0,s,u,v,w,i⟩:=H;have n: ∀b (a:Value→af→Prop),cN P (zeroValue e) b a↔a z b:=by
     intro b a;simp only[zeroValue,aM,dU d,q];rfl
    have wl:IntKind.i64.wrap l=l:=by simp only[IntKind.wrap,IntKind.bits,IntKind.signed];simp;omega
    have wc:IntKind.i64.wrap c=c:=by simp only[IntKind.wrap,IntKind.bits,IntKind.signed];simp;omega
    simp only[Instr.makeSlice,aM,bJ p,asInt,asIntOf,bC,dU d,wl,wc];rw[if_neg (by simp;omega)];have g: ∀(m:Nat) (b:af) (a:PUnit→af→Prop),a ⟨⟩ b→cN P (askRoom m) b a:=by
     intro m b a j;unfold askRoom;split<;>exact j
    simp only[bC,aM];refine g _ _ _ ?_;simp only[oO d];by_cases k:c.toNat*r.size=0
    ·rw[if_pos k];simp only[bC,newRow,newObj,aM,cN];rw[k] at i ⊢;have o: ∀f:Nat→Value,(Array.range 0).map f= #[]:=fun f=>by simp
     rw[o] at i ⊢;exact i
    ·rw[if_neg k];simp only[aM,n,bC,newRow,newObj,cN];exact i
   ·exact H.elim
  ·exact H.elim
 ·exact H.elim
theorem OS {P:Program} {t u i:TypeId} {s x:Value} {h:af} {K:Value→af→Prop} (H:TZ P t s x h K):cN P (Builtin.copy_ #[t,u] i #[s,x]) h K:=by
 unfold TZ at H;split at H
 ·rename_i e base len c b n j g;split at H
  ·rename_i k d;obtain⟨l,f,H⟩:=H;simp only[Builtin.copy_,Wp,List.getElem?_cons_zero,List.getElem?_cons_succ,aM,bJ g,oO d,bC,Builtin.lenOf];refine nJ f ?_;cases base with
   |none=>exact H
   |some a=>
    try simp only[aM]
    exact oP P _ _ _ _ _ H
  ·exact H.elim
 ·exact H.elim
theorem EI {P:Program} {e:TypeId} {d:TypeInfo} {z:Value} (a:P.info? e=some d) (f:d.zero=some z) (c:af) (b:Value→af→Prop):cN P (zeroValue e) c b↔b z c:=by
 simp only[zeroValue,aM,dU a,f];rfl
theorem OT {P:Program} {t g:TypeId} {s:Value} {h:af} {K:Value→af→Prop} (H:T1 P t s h K):cN P (Builtin.clear_ #[t] g #[s]) h K:=by
 unfold T1 at H;split at H
 ·rename_i e base len c b;split at H
  ·rename_i i d;split at H
   ·rename_i z f;unfold T0 at H;cases base with
    |none=>
     simp only[Builtin.clear_,Wp,List.getElem?_cons_zero,aM,bJ b,bC];exact H
    |some a=>
     cases len with
     |zero=>
      simp only[Builtin.clear_,Wp,List.getElem?_cons_zero,aM,bJ b,bC];exact H.1 rfl
     |succ n=>
      simp only[Builtin.clear_,Wp,List.getElem?_cons_zero,aM,bJ b,bC,EI d f];exact oP P _ _ _ _ _ (H.2 (by simp))
   ·exact H.elim
  ·exact H.elim
 ·exact H.elim
theorem GZ {P:Program} (f:Value→ByteArray→Sem (ForInStep ByteArray))
 (c: ∀(b:UInt8) (r:ByteArray) (h:af) (K:ForInStep ByteArray→af→Prop),K (.yield (r.push b)) h→cN P (f (.int .u8 b.toNat) r) h K): ∀(a:List UInt8) (s:ByteArray) (h:af) (K:ByteArray→af→Prop),
 K ⟨(s.data.toList++a).toArray⟩ h→cN P (forIn (a.map fun b=>Value.int .u8 (b.toNat:Int)) s f) h K
 |[],s,h,K,hk=>by
  rw[Vz,List.forIn_nil];have:(⟨(s.data.toList++[]).toArray⟩:ByteArray)=s:=by simp
  rw[this] at hk;exact hk
 |b::a,s,h,K,hk=>by
  rw[Vg,List.forIn_cons,aM];refine c b s h _ ?_;refine GZ f c a (s.push b) h K ?_;simpa[ByteArray.push] using hk
theorem KR {P:Program} {k g:TypeId} {x:Value} {h:af} {f:Prop} {A K:Value→af→Prop} (F:f→cN P (convert k g x) h K) (B: ∀v p,A v p→K v p) (H:OD P k g x h f A):
 cN P (convert k g x) h K:=by
 unfold OD at H;split at H
 ·rename_i e a n c w t;split at H
  ·rename_i u;obtain⟨G,j,m⟩:=H;replace m:=B _ _ m;have d:=nJ (P:=P) (size:=1) (n:=n) (l:=n) (c:=c) (by rw[US];exact j)
    (K:=fun C p=>cN P (do let mut s:=ByteArray.empty
                          for c in C do
                           let .int .u8 n:=c|stuck "bytesToString: byte expected"
                           s:=s.push (UInt8.ofNat n.toNat)
                          pure (Value.string s)) p K) (by
     simp only[aM,List.forIn_toArray];refine GZ _ (fun b r h K m=> ?_) G _ _ _ ?_
     ·have:UInt8.ofNat ((b.toNat:Int)).toNat=b:=by simp
      simp only[this];exact m
     ·exact m)
   simp only[convert,aM,bJ w,bJ t,bJ u,Conv.bytesToString];cases a with
   |none=>
    simp only[readO,List.map_eq_nil_iff] at j;subst j;exact m
   |some a=>
    simp only[Builtin.firstCells,US,aM] at d;dsimp only;simp only[aM];exact d
  ·exact H.elim
 ·rename_i e s w t;split at H
  ·rename_i u;simp only[convert,aM,bJ w,bJ t,bJ u,Conv.stringToBytes,choose,cN,Question.forced,Vr,if_false,newRow,newObj,bC,markStringish,shape];intro tape;have q:s.size≤Question.cut (.appendCap s.size 0 e) tape:=by simp only[Question.cut];omega
   have:=B _ _ (H _ q);have y: ∀o:Array Value,HW (h.push (.cells o e)) h.size=some (e,o.size):=fun o=>by simp[HW]
   simp only[y,aM,freeze,cN,bC];have z: ∀c,s.size≤c→(s.data.map (fun b=>Value.int .u8 (b.toNat:Int))++Array.replicate (c-s.size) (Value.int .u8 0)).size=c:=fun c q=>by
    simp only[Array.size_append,Array.size_map,Array.size_replicate];have:s.data.size=s.size:=rfl;omega
   rw[z _ q];have D: ∀(o:Array Value) (n:Nat),zI (h.push (.cells o e)) ⟨h.size,n,none⟩ 1=h.push (.cells o e (n,n+1)):=fun o n=>by
    simp only[zI,Nat.one_ne_zero,if_false];apply Array.ext
    ·simp
    ·intro i E I;simp only[Array.getElem_modify,Array.getElem_push];simp only[Array.size_modify,Array.size_push] at E;by_cases hi:h.size=i
     ·subst hi;simp
     ·rw[if_neg hi,dif_pos (by omega),dif_pos (by omega)]
   rw[D];exact this
  ·exact H.elim
 ·exact F H
theorem jI {ρ:Operand→Value} {c:Call} {type:TypeId} {b:Builtin} (d:c.callee= .builtin b):
 ∃a,resolve ρ c type=pure {target:= .builtin b c.argTypes type a,args:=c.args.map ρ}:=by
 unfold resolve;simp only[d];exact⟨_,rfl⟩
theorem OU {P:Program} {o:Oper} {b:Operand→Tv} {c:Call} {f:Operand} {g:FuncId} {first a:Array Value} {h:af} {K:Tv→af→Prop}
 (t:o.op= .call c) (p:c.callee= .value f) (r:(b f).v= .func (.func g) first a)
 (H:au P g (first.toList++c.args.toList.map (fun x=>(b x).v)++a.toList).toArray h fun v i=>zK P o.type v fun x=>K (.val x) i):
 Qf P (execOp (fun x=>(b x).v) o) h fun v i=> ∃x:Tv,x.v=v∧K x i:=by
 intro w u;have m:(first.toList++c.args.toList.map (fun x=>(b x).v)++a.toList).toArray=(first++c.args.map (fun x=>(b x).v))++a:=by
  apply Array.ext';simp
 rw[m] at H;have n:(execOp (fun x=>(b x).v) o).run P w= .ok (.enter g ((first++c.args.map (fun x=>(b x).v))++a)) w:=by
  obtain⟨l,y,k,pos,d,guard⟩:=o;subst t;simp only[execOp,resolve,p,Deferred.ofValue,r,bf,bN,invoke];exact H.1 w
 rw[n];refine⟨Fr.refl w,(H.2 w u).mono ?_⟩;rintro e z ⟨v,q,j,s⟩;exact⟨v,q,j,_,rfl,kL s⟩
theorem M3 {P:Program} {o:Oper} {g:Operand→Tv} {c:Call} {f:Operand} {l:Nat} {first a:Array Value} {h:af} {K:Tv→af→Prop}
 (A:o.op= .call c) (t:c.callee= .value f) (y:(g f).v= .func (.yield l) first a)
 (H:yf P l (first.toList++c.args.toList.map (fun x=>(g x).v)).toArray h fun v m=>zK P o.type v fun x=>K (.val x) m):
 Qf P (execOp (fun x=>(g x).v) o) h fun v m=> ∃x:Tv,x.v=v∧K x m:=by
 intro w B;have r:(first.toList++c.args.toList.map (fun x=>(g x).v)).toArray=first++c.args.map (fun x=>(g x).v):=by
  apply Array.ext';simp
 rw[r] at H;obtain⟨fn,j,b,i,C,d⟩:=H w B;have s:(execOp (fun x=>(g x).v) o).run P w= .ok (.round l fn j b i) w:=by
  obtain⟨q,D,p,pos,k,guard⟩:=o;subst A;simp only[execOp,resolve,t,Deferred.ofValue,y,bf,bN,invoke];exact C
 rw[s];refine⟨Fr.refl w,d.mono ?_⟩;rintro e E ⟨v,u,n,z⟩;exact⟨v,u,n,_,rfl,kL z⟩
theorem M4 {P:Program} {o:Oper} {p:Operand→Tv} {h:af} {K:Tv→af→Prop} (H:OK P o p h K):
 Qf P (execOp (fun x=>(p x).v) o) h fun v B=> ∃x:Tv,x.v=v∧K x B:=by
 have e:pE P (execOp (fun x=>(p x).v) o) h K→Qf P (execOp (fun x=>(p x).v) o) h fun v B=> ∃x:Tv,x.v=v∧K x B:=Jm;dsimp only[OK] at H;split at H
 ·rename_i t a x j;split at H
  ·rename_i Q D;refine e ?_;obtain⟨A,y,type,pos,d,guard⟩:=o;subst j;simp only[pE,execOp,aM,Instr.storeAt,Instr.sureAddr,D,bC];exact I5 H
  ·exact H.elim
 ·rename_i t l c j;refine e ?_;obtain⟨A,y,type,pos,d,guard⟩:=o;subst j;simp only[pE,execOp,aM,bC];exact OR H
 ·rename_i c j;split at H
  ·rename_i f C;unfold gV at H;split at H
   ·rename_i g first z J
    exact OU j C J H
   ·rename_i l first z J
    exact M3 j C J H
   ·exact H.elim
  ·rename_i C;split at H
   ·rename_i s x t u D I;split at H
    ·rename_i M;refine e ?_;obtain⟨A,y,type,pos,d,guard⟩:=o;subst j;have E:c.args= #[s,x]:=by apply Array.ext';simpa using D
     have F:c.argTypes= #[t,u]:=by apply Array.ext';simpa using I
     obtain⟨L,w⟩:=jI (ρ:=fun x=>(p x).v) (type:=type) C;simp only[pE,execOp,w,aM,bC,invoke,builtin,E,F];have G:(#[s,x]:Array Operand).map (fun x=>(p x).v)= #[(p s).v,(p x).v]:=by simp
     rw[G];exact qu P _ _ (M1 M H) fun v B q=>kL q
    ·exact H.elim
   ·exact H.elim
  ·rename_i C;split at H
   ·rename_i s x t u D I;refine e ?_;obtain⟨A,y,type,pos,d,guard⟩:=o;subst j;have E:c.args= #[s,x]:=by apply Array.ext';simpa using D
    have F:c.argTypes= #[t,u]:=by apply Array.ext';simpa using I
    obtain⟨L,w⟩:=jI (ρ:=fun x=>(p x).v) (type:=type) C;simp only[pE,execOp,w,aM,bC,invoke,builtin,E,F];have G:(#[s,x]:Array Operand).map (fun x=>(p x).v)= #[(p s).v,(p x).v]:=by simp
    rw[G];exact OS H
   ·exact H.elim
  ·rename_i C;split at H
   ·rename_i m k t r D I;refine e ?_;obtain⟨A,y,type,pos,d,guard⟩:=o;subst j;have E:c.args= #[m,k]:=by apply Array.ext';simpa using D
    have F:c.argTypes=(t::r).toArray:=by apply Array.ext';simpa using I
    obtain⟨L,w⟩:=jI (ρ:=fun x=>(p x).v) (type:=type) C;simp only[pE,execOp,w,aM,bC,invoke,builtin,E,F];have G:(#[m,k]:Array Operand).map (fun x=>(p x).v)= #[(p m).v,(p k).v]:=by simp
    rw[G];exact qu P _ _ (MZ H) fun v B q=>by obtain⟨rfl,q⟩:=q;exact q
   ·exact H.elim
  ·rename_i C;split at H
   ·rename_i s t D I;refine e ?_;obtain⟨A,y,type,pos,d,guard⟩:=o;subst j;have E:c.args= #[s]:=by apply Array.ext';simpa using D
    have F:c.argTypes= #[t]:=by apply Array.ext';simpa using I
    obtain⟨L,w⟩:=jI (ρ:=fun x=>(p x).v) (type:=type) C;simp only[pE,execOp,w,aM,bC,invoke,builtin,E,F];have G:(#[s]:Array Operand).map (fun x=>(p x).v)= #[(p s).v]:=by simp
    rw[G];exact OT H
   ·exact H.elim
  ·exact e H
 ·rename_i t x i ok j;refine e ?_;obtain⟨n,y,type,pos,d,guard⟩:=o;subst j;simp only[pE,execOp,aM,bC];exact qu P _ _ (KN H) fun v B q=>kL q
 ·rename_i t m k x j;refine e ?_;obtain⟨n,y,type,pos,d,guard⟩:=o;subst j;simp only[pE,execOp,aM,bC];exact GY H
 ·rename_i t m k x j;refine e ?_;obtain⟨n,y,type,pos,d,guard⟩:=o;subst j;simp only[pE,execOp,aM,bC];exact GY H
 ·rename_i t m k j;refine e ?_;obtain⟨n,y,type,pos,d,guard⟩:=o;subst j;simp only[pE,execOp,aM,bC];exact qu P _ _ (M0 H) fun v B q=>kL q
 ·rename_i t m b x j;refine e ?_;obtain⟨n,y,type,pos,d,guard⟩:=o;subst j;simp only[pE,execOp,aM,bC];exact Jj H
 ·rename_i t x j;refine e ?_;obtain⟨n,y,type,pos,d,guard⟩:=o;subst j;simp only[pE,execOp,aM,bC];exact Jk H
 ·rename_i N j;refine e ?_;obtain⟨n,y,type,pos,d,guard⟩:=o;subst j;simp only[pE,execOp,aM,bC];exact KO H (fun B q=>q) fun k v B q=>q
 ·rename_i N j;refine e ?_;obtain⟨n,y,type,pos,d,guard⟩:=o;subst j;simp only[pE,execOp,aM,bC];exact Jl H fun k v q=>q
 ·rename_i O A x j;refine e ?_;obtain⟨n,y,type,pos,d,guard⟩:=o;subst j;simp only[pE,execOp,aM,bC];refine KR (fun J=> ?_) (fun v B q=>kL q) H;simpa only[pE,execOp,aM,bC] using J
 ·exact e H
theorem M5 {P:Program} {o:Oper} {d:Operand→Tv} {h:af} {K:Tv→af→Prop} (H:Jc P o d h K):
 Qf P (execOp (fun x=>(d x).v) o) h fun v e=> ∃x:Tv,x.v=v∧K x e:=by
 unfold Jc at H;split at H
 ·obtain⟨x,c,b⟩:=A0 H;intro w a;rw[b w];exact⟨Fr.refl w,x,rfl,a▸c⟩
 ·obtain⟨x,c,b⟩:=A5 H;intro w a;rw[b w (a▸eC.refl _)];exact⟨Fr.refl w,x,rfl,a▸c⟩
 ·exact KP H
 ·exact M4 H
end
end Go.Sh

