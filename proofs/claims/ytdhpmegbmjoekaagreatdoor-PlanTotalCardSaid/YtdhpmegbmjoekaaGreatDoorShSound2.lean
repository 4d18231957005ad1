/- ShSem ShStep ShOp ShSound ShMapS ShSound2, in one text. -/
import Derived.Orders
import Derived.OrdersHeld
import Derived.Scope
import Derived.KernelRfl
import Derived.OrdersIn
import Derived.RangeFuncRecord
section
set_option linter.unusedVariables false
namespace Go.Sh
abbrev ae:=Array Obj
def aD (h:ae) (a:Addr):Option Value:=
 match h[a.block]? with
 |some (.cells c _ _)=>if a.spot.isSome then none else c[a.off]?
 |_=>none
def Gc (h:ae) (r:Nat):Option (TypeId×Nat):=
 match h[r]? with
 |some (.cells c elem _)=>some (elem,c.size)
 |_=>none
def ub (h:ae) (a:Addr):Bool:=
 match h[a.block]? with
 |some (.cells _ _ (lo,hi))=>lo≤a.off&&a.off<hi
 |_=>false
def xM (h:ae) (a:Addr) (n:Nat):ae:=
 if n=0 then h else
 h.modify a.block fun
  | .cells c elem (lo,hi)=> .cells c elem (if lo==hi then(a.off,a.off+n) else(min lo a.off,max hi (a.off+n)))
  |o=>o
def Et (h:ae) (a:Addr) (v:Value):ae:=
 h.modify a.block fun
  | .cells c elem frozen=> .cells (if a.spot.isSome then c else c.setIfInBounds a.off v) elem frozen
  |o=>o
def mB:Obj→Bool
 | .cells .. =>true
 |_=>false
def mC:Value→Bool
 | .agg _| .tuple _=>false
 |_=>true
def cB {α:Type} (p:Program):Sem α→ae→(α→ae→Prop)→Prop
 | .pure a,h,K=>K a h
 | .load _ a k,h,K=> ∃v,aD h a=some v∧cB p (k v) h K
 | .store _ a v k,h,K=>mC v=true∧(∃u,aD h a=some u)∧ub h a=false∧cB p k (Et h a v) K
 | .new o k,h,K=>cB p (k h.size) (h.push o) K
 | .shape r k,h,K=>cB p (k (Gc h r)) h K
 | .freeze a n k,h,K=>cB p k (xM h a n) K
 | .frozen a k,h,K=>cB p (k (ub h a)) h K
 | .getObj r k,h,K=> ∃o,h[r]? =some o∧mB o=false∧cB p (k o) h K
 | .setObj r o k,h,K=> ∃u,h[r]? =some u∧mB u=false∧cB p k (h.setIfInBounds r o) K
 | .choose q k,h,K=>if q.forced then cB p (k 0) h K else ∀t,cB p (k (q.cut t)) h K
 | .sys _ _,_,_=>False
 | .program k,h,K=>cB p (k p) h K
 | .mark _ k,h,K=>cB p k h K
 | .halt _,_,_=>False
structure Fr (w w':World):Prop where
 tape:w'.tape=w.tape
 os:w'.os=w.os
 output:w'.output=w.output
theorem Fr.refl (w:World):Fr w w:=⟨rfl,rfl,rfl⟩
theorem Fr.trans {a b c:World} (h:Fr a b) (k:Fr b c):Fr a c:=⟨k.tape.trans h.tape,k.os.trans h.os,k.output.trans h.output⟩
theorem Hm {α:Type} (p:Program) (s:Sem α): ∀(h:ae) (K:α→ae→Prop),cB p s h K→ ∀w:World,w.heap=h→
 ∃a w',s.run p w= .ok a w'∧Fr w w'∧K a w'.heap:=by
 induction s with
 |pure a=>intro h K H w hw;exact⟨a,w,rfl,Fr.refl w,hw▸H⟩
 |load m a k ih=>
  intro h K H w hw
  obtain⟨v,hv,H⟩:=H
  have hc:w.cell? a=some v:=by rw[←hv,←hw];rfl
  obtain⟨x,w',hr,hf,hk⟩:=ih v h K H w hw
  exact⟨x,w',by simp only[Sem.run,hc];exact hr,hf,hk⟩
 |store m a v k ih=>
  intro h K H w hw
  obtain⟨h1,⟨u,hu⟩,hfz,H⟩:=H
  have hc:w.cell? a=some u:=by rw[←hu,←hw];rfl
  have hz:w.frozen? a=false:=by rw[←hfz,←hw];rfl
  obtain⟨x,w',hr,hf,hk⟩:=ih (Et h a v) K H (w.setCell a v) (by rw[←hw];rfl)
  refine⟨x,w',?_,⟨hf.tape,hf.os,hf.output⟩,hk⟩
  cases v<;>first|(simp[mC] at h1;done)|(simp only[Sem.run,hc,hz,Bool.false_eq_true,if_false];exact hr)
 |new o k ih=>
  intro h K H w hw
  subst hw
  obtain⟨x,w',hr,hf,hk⟩:=ih w.heap.size (w.heap.push o) K H {w with heap:=w.heap.push o} rfl
  exact⟨x,w',hr,⟨hf.tape,hf.os,hf.output⟩,hk⟩
 |shape r k ih=>
  intro h K H w hw
  subst hw
  obtain⟨x,w',hr,hf,hk⟩:=ih (Gc w.heap r) w.heap K H w rfl
  exact⟨x,w',hr,hf,hk⟩
 |freeze a n k ih=>
  intro h K H w hw
  subst hw
  obtain⟨x,w',hr,hf,hk⟩:=ih (xM w.heap a n) K H (w.freeze a n) (by unfold World.freeze xM;split<;>rfl)
  have:Fr w (w.freeze a n):=by unfold World.freeze;split<;>exact⟨rfl,rfl,rfl⟩
  exact⟨x,w',hr,this.trans hf,hk⟩
 |frozen a k ih=>
  intro h K H w hw
  subst hw
  obtain⟨x,w',hr,hf,hk⟩:=ih (ub w.heap a) w.heap K H w rfl
  exact⟨x,w',hr,hf,hk⟩
 |getObj r k ih=>
  intro h K H w hw
  subst hw
  obtain⟨o,ho,hn,H⟩:=H
  obtain⟨x,w',hr,hf,hk⟩:=ih o w.heap K H w rfl
  refine⟨x,w',?_,hf,hk⟩
  simp only[Sem.run,ho]
  cases o<;>first|(simp[mB] at hn;done)|exact hr
 |setObj r o k ih=>
  intro h K H w hw
  subst hw
  obtain⟨u,ho,hn,H⟩:=H
  obtain⟨x,w',hr,hf,hk⟩:=ih (w.heap.setIfInBounds r o) K H {w with heap:=w.heap.setIfInBounds r o} rfl
  refine⟨x,w',?_,⟨hf.tape,hf.os,hf.output⟩,hk⟩
  simp only[Sem.run,ho]
  cases u<;>first|(simp[mB] at hn;done)|exact hr
 |choose q k ih=>
  intro h K H w hw
  subst hw
  simp only[cB] at H
  by_cases hq:q.forced=true
  ·rw[if_pos hq] at H
   obtain⟨x,w',hr,hf,hk⟩:=ih 0 w.heap K H w rfl
   exact⟨x,w',by simp only[Sem.run,hq,if_true];exact hr,hf,hk⟩
  ·rw[if_neg hq] at H
   obtain⟨x,w',hr,hf,hk⟩:=ih _ w.heap K (H (w.tape w.drawn q)) {w with drawn:=w.drawn+1} rfl
   refine⟨x,w',?_,⟨hf.tape,hf.os,hf.output⟩,hk⟩
   simp only[Sem.run,hq,Bool.false_eq_true,if_false];exact hr
 |sys c k ih=>intro h K H;exact H.elim
 |program k ih=>
  intro h K H w hw
  obtain⟨x,w',hr,hf,hk⟩:=ih p h K H w hw
  exact⟨x,w',hr,hf,hk⟩
 |mark m k ih=>
  intro h K H w hw
  obtain⟨x,w',hr,hf,hk⟩:=ih h K H w hw
  exact⟨x,w',hr,hf,hk⟩
 |halt e=>intro h K H;exact H.elim
theorem aH {α β:Type} (p:Program) (s:Sem α) (f:α→Sem β): ∀(h:ae) (K:β→ae→Prop),
 cB p (s>>=f) h K↔cB p s h (fun a h'=>cB p (f a) h' K):=by
 show ∀(h:ae) (K:β→ae→Prop),cB p (Sem.bind s f) h K↔_
 induction s with
 |pure a=>intro h K;rfl
 |load m a k ih=>intro h K;simp only[Sem.bind,cB,ih]
 |store m a v k ih=>intro h K;simp only[Sem.bind,cB,ih]
 |new o k ih=>intro h K;simp only[Sem.bind,cB,ih]
 |shape r k ih=>intro h K;simp only[Sem.bind,cB,ih]
 |freeze a n k ih=>intro h K;simp only[Sem.bind,cB,ih]
 |frozen a k ih=>intro h K;simp only[Sem.bind,cB,ih]
 |getObj r k ih=>intro h K;simp only[Sem.bind,cB,ih]
 |setObj r o k ih=>intro h K;simp only[Sem.bind,cB,ih]
 |choose q k ih=>intro h K;simp only[Sem.bind,cB,ih]
 |sys c k ih=>intro h K;rfl
 |program k ih=>intro h K;simp only[Sem.bind,cB,ih]
 |mark m k ih=>intro h K;simp only[Sem.bind,cB,ih]
 |halt e=>intro h K;rfl
theorem pI {α:Type} (p:Program) (s:Sem α): ∀(h:ae) {K K':α→ae→Prop},cB p s h K→(∀a h',K a h'→K' a h')→cB p s h K':=by
 induction s with
 |pure a=>intro h K K' H hk;exact hk _ _ H
 |load m a k ih=>intro h K K' H hk;obtain⟨v,hv,H⟩:=H;exact⟨v,hv,ih v h H hk⟩
 |store m a v k ih=>intro h K K' H hk;obtain⟨h1,h2,h3,H⟩:=H;exact⟨h1,h2,h3,ih _ H hk⟩
 |new o k ih=>intro h K K' H hk;exact ih _ _ H hk
 |shape r k ih=>intro h K K' H hk;exact ih _ _ H hk
 |freeze a n k ih=>intro h K K' H hk;exact ih _ H hk
 |frozen a k ih=>intro h K K' H hk;exact ih _ _ H hk
 |getObj r k ih=>intro h K K' H hk;obtain⟨v,hv,h2,H⟩:=H;exact⟨v,hv,h2,ih v h H hk⟩
 |setObj r o k ih=>intro h K K' H hk;obtain⟨v,hv,h2,H⟩:=H;exact⟨v,hv,h2,ih _ H hk⟩
 |choose q k ih=>
  intro h K K' H hk
  simp only[cB] at H ⊢
  split at H
  ·rename_i hq;rw[if_pos hq];exact ih _ _ H hk
  ·rename_i hq;rw[if_neg hq];exact fun t=>ih _ _ (H t) hk
 |sys c k ih=>intro h K K' H;exact H.elim
 |program k ih=>intro h K K' H hk;exact ih _ _ H hk
 |mark m k ih=>intro h K K' H hk;exact ih _ H hk
 |halt e=>intro h K K' H;exact H.elim
def K8 {α:Type} (p:Program):Sem α→Option α
 | .pure a=>some a
 | .program k=>K8 p (k p)
 | .mark _ k=>K8 p k
 |_=>none
theorem MB {α:Type} (p:Program) (s:Sem α) {a:α} (h:K8 p s=some a): ∀w,s.run p w= .ok a w:=by
 induction s with
 |pure b=>intro w;simp only[K8,Option.some.injEq] at h;subst h;rfl
 |program k ih=>intro w;exact ih p h w
 |mark m k ih=>intro w;exact ih h w
 |_=>simp[K8] at h
def Eu {α:Type} (p:Program):Sem α→ae→Option (α×ae)
 | .pure a,h=>some (a,h)
 | .program k,h=>Eu p (k p) h
 | .mark _ k,h=>Eu p k h
 | .new o k,h=>Eu p (k h.size) (h.push o)
 |_,_=>none
theorem E7 {α:Type} (p:Program) (s:Sem α): ∀{h h':ae} {a:α},Eu p s h=some (a,h')→ ∀K:α→ae→Prop,K a h'→cB p s h K:=by
 induction s with
 |pure b=>intro h h' a H K hk;simp only[Eu,Option.some.injEq,Prod.mk.injEq] at H;obtain⟨rfl,rfl⟩:=H;exact hk
 |program k ih=>intro h h' a H K hk;exact ih p H K hk
 |mark m k ih=>intro h h' a H K hk;exact ih H K hk
 |new o k ih=>intro h h' a H K hk;exact ih _ H K hk
 |_=>intro h h' a H;simp[Eu] at H
end Go.Sh
end
section
set_option linter.unusedVariables false
namespace Go.Sh
theorem ba {α β:Type} (p:Program) (s:Sem α) (f:α→Sem β): ∀w,(s>>=f).run p w=match s.run p w with| .ok a w'=>(f a).run p w'| .halt e w'=> .halt e w':=by
 show ∀w,(Sem.bind s f).run p w=_
 induction s with
 |pure a=>intro w;rfl
 |load m a k ih=>
  intro w;simp only[Sem.bind,Sem.run]
  split
  ·exact ih _ w
  ·split
   ·exact ih _ w
   ·rfl
 |store m a v k ih=>
  intro w
  cases v<;>simp only[Sem.bind,Sem.run]<;>(split<;>(split<;>first|rfl|exact ih _))
 |new o k ih=>intro w;exact ih _ _
 |shape r k ih=>intro w;exact ih _ _
 |freeze a n k ih=>intro w;exact ih _
 |frozen a k ih=>intro w;exact ih _ _
 |getObj r k ih=>intro w;simp only[Sem.bind,Sem.run];split<;>first|rfl|exact ih _ _
 |setObj r o k ih=>intro w;simp only[Sem.bind,Sem.run];split<;>first|rfl|exact ih _
 |choose q k ih=>intro w;simp only[Sem.bind,Sem.run];split<;>exact ih _ _
 |sys c k ih=>intro w;exact ih _ _
 |program k ih=>intro w;exact ih _ _
 |mark m k ih=>intro w;exact ih _
 |halt e=>intro w;rfl
theorem bG {α:Type} (p:Program) (a:α) (w:World):(pure a:Sem α).run p w= .ok a w:=rfl
theorem bE {P:Program} {t:TypeId} {d:TypeDesc} (h:P.underlying t=some d) (w:World):(underlying t).run P w= .ok d w:=by
 simp only[underlying,ba,program,Sem.run,h];rfl
theorem Ev {P:Program} {t:TypeId} {i:TypeInfo} (h:P.info? t=some i) (w:World):(typeInfo t).run P w= .ok i w:=by
 simp only[typeInfo,ba,program,Sem.run,h];rfl
theorem eY {P:Program} {t:TypeId} {i:TypeInfo} (h:P.info? t=some i) (w:World):(sizeOf t).run P w= .ok i.size w:=by
 simp only[sizeOf,ba,Ev h];rfl
theorem bF {P:Program} {t:TypeId} {d:TypeDesc} (hd:P.underlying t=some d) (h:ae) (K:TypeDesc→ae→Prop):cB P (underlying t) h K↔K d h:=by
 simp only[underlying,aH,program,cB,hd];rfl
theorem dP {P:Program} {t:TypeId} {d:TypeInfo} (hd:P.info? t=some d) (h:ae) (K:TypeInfo→ae→Prop):cB P (typeInfo t) h K↔K d h:=by
 simp only[typeInfo,aH,program,cB,hd];rfl
theorem ox {P:Program} {t:TypeId} {d:TypeInfo} (hd:P.info? t=some d) (h:ae) (K:Nat→ae→Prop):cB P (sizeOf t) h K↔K d.size h:=by
 simp only[sizeOf,aH,dP hd];rfl
theorem bA {α:Type} (P:Program) (a:α) (h:ae) (K:α→ae→Prop):cB P (pure a) h K↔K a h:=Iff.rfl
inductive Tv where
 |bot
 |known (b:Bool)
 |val (v:Value)
 |mark (ds:List Deferred)
def Tv.ds:Tv→List Deferred
 | .mark ds=>ds
 |_=>[]
def Tv.v:Tv→Value
 | .bot=>undef
 | .mark _=>undef
 | .known b=> .bool b
 | .val v=>v
abbrev Tm:=Nat→Tv
def upd (t:Tm) (d:Nat) (x:Tv):Tm:=fun i=>match Nat.beq i d with|true=>x|false=>t i
def put (n:Nat) (t:Tm) (dst:Option Tmp) (x:Tv):Tm:=
 match dst with
 |none=>t
 |some d=>match Nat.blt d n with|true=>upd t d x|false=>t
def Md (t:Tm):Operand→Tv
 | .tmp i=>t i
 | .const (.bool b)=> .known b
 | .const v=> .val v
 | .global g=> .val (.pointer (some ⟨g,0,none⟩))
 | .func f=> .val (.func (.func f) #[] #[])
def PQ (t:Tm):Operand→Bool
 | .tmp i=>match t i with| .bot=>false|_=>true
 |_=>true
def Gd (t:Tm):List Operand→Bool
 |[]=>true
 |x::r=>match PQ t x with|true=>Gd t r|false=>false
def K9 (z:Value) (K:Value→Prop):Prop:=
 match z with
 | .int k _=> ∃n:Int,K (.int k n)
 | .bool _=> ∃b:Bool,K (.bool b)
 | .string _=> ∃s:ByteArray,K (.string s)
 | .pointer _=> ∃p:Option Addr,K (.pointer p)
 | .slice _ _ _=> ∃(p:Option Addr) (l c:Nat),K (.slice p l c)
 | .map _=> ∃r:Option Nat,K (.map r)
 |_=> ∃v:Value,K v
theorem kH {z:Value} {K:Value→Prop} (h:K9 z K): ∃v,K v:=by
 cases z<;>simp only[K9] at h<;>first|exact h|(obtain⟨x,h⟩:=h;exact⟨_,h⟩)|(obtain⟨x,y,z,h⟩:=h;exact⟨_,h⟩)
def Ov:List Value→(List Value→Prop)→Prop
 |[],K=>K []
 |z::zs,K=>K9 z fun v=>Ov zs fun vs=>K (v::vs)
theorem zh: ∀{zs:List Value} {K:List Value→Prop},Ov zs K→ ∃vs,K vs
 |[],_,h=>⟨_,h⟩
 |_::_,_,h=>by
  obtain⟨v,h⟩:=kH h
  obtain⟨vs,h⟩:=zh h
  exact⟨_,h⟩
inductive Ty where
 |one (z:Value)
 |agg (zs:List Value)
def zi:TypeDesc→Bool
 | .struct _| .array _ _=>true
 |_=>false
def xN (P:Program) (t:TypeId):Option Ty:=
 match P.underlying t,P.info? t with
 |some d,some i=>
  match zi d,i.zero with
  |true,some (.agg zs)=>match Nat.beq zs.size i.size with|true=>some (.agg zs.toList)|false=>none
  |false,some z=>some (.one z)
  |_,_=>none
 |_,_=>none
def PR (ty:Ty) (K:Value→Prop):Prop:=
 match ty with
 | .one z=>K9 z K
 | .agg zs=>Ov zs fun vs=>K (.agg vs.toArray)
theorem E8 {ty:Ty} {K:Value→Prop} (h:PR ty K): ∃v,K v:=by
 cases ty with
 |one z=>exact kH h
 |agg zs=>obtain⟨vs,h⟩:=zh h;exact⟨_,h⟩
def Kg:List (Option Ty)→(List Value→Prop)→Prop
 |[],K=>K []
 |none::zs,K=> ∃v:Value,Kg zs fun vs=>K (v::vs)
 |some z::zs,K=>PR z fun v=>Kg zs fun vs=>K (v::vs)
theorem vZ: ∀{zs:List (Option Ty)} {K:List Value→Prop},Kg zs K→ ∃vs,K vs
 |[],_,h=>⟨_,h⟩
 |none::_,_,h=>by obtain⟨v,h⟩:=h;obtain⟨vs,h⟩:=vZ h;exact⟨_,h⟩
 |some _::_,_,h=>by obtain⟨v,h⟩:=E8 h;obtain⟨vs,h⟩:=vZ h;exact⟨_,h⟩
def xO (P:Program) (t:TypeId) (v:Value) (K:Value→Prop):Prop:=
 match P.underlying t with
 |some (.tuple ts)=>Kg (ts.toList.map (xN P)) fun vs=>v= .tuple vs.toArray∧K (.tuple vs.toArray)
 |_=>match xN P t with
  |some ty=>PR ty fun x=>v=x∧K x
  |none=>K v
theorem kI {P:Program} {t:TypeId} {v:Value} {K:Value→Prop} (h:xO P t v K):K v:=by
 unfold xO at h
 split at h
 ·obtain⟨vs,hv,hk⟩:=vZ h;rw[hv];exact hk
 ·split at h
  ·obtain⟨vs,hv,hk⟩:=E8 h;rw[hv];exact hk
  ·exact h
def Kh (z:Value) (h:ae) (a:Addr) (K:Value→Prop):Prop:=K9 z fun v=>aD h a=some v∧K v
def E9:List Value→ae→Addr→Nat→(List Value→Prop)→Prop
 |[],_,_,_,K=>K []
 |z::zs,h,a,i,K=>Kh z h (a.add i) fun v=>E9 zs h a (i+1) fun vs=>K (v::vs)
def CX (P:Program) (t:TypeId) (h:ae) (a:Addr) (K:Value→Prop):Prop:=
 match xN P t with
 |some (.one z)=>Kh z h a K
 |some (.agg zs)=>E9 zs h a 0 fun vs=>K (.agg vs.toArray)
 |none=>False
def bu (h:ae) (a:Addr) (v:Value) (K:ae→Prop):Prop:=
 (∃u,aD h a=some u)∧ub h a=false∧K (Et h a v)
def bt:List Value→ae→Addr→Nat→(ae→Prop)→Prop
 |[],h,_,_,K=>K h
 |v::vs,h,a,i,K=>match mC v with
  |true=>bu h (a.add i) v fun h'=>bt vs h' a (i+1) K
  |false=>False
def IW (P:Program) (t:TypeId) (h:ae) (a:Addr) (v:Value) (K:ae→Prop):Prop:=
 match P.info? t with
 |some i=>match Nat.beq v.cells.size i.size with|true=>bt v.cells.toList h a 0 K|false=>False
 |none=>False
def dY (h h':ae):Prop:= ∀(b:Nat) (c:Array Value) (e:TypeId) (f:Nat×Nat),h[b]? =some (Obj.cells c e f)→h'[b]? =some (Obj.cells c e f)
theorem dY.refl (h:ae):dY h h:=fun _ _ _ _ x=>x
theorem dY.trans {a b c:ae} (h:dY a b) (k:dY b c):dY a c:=fun _ _ _ _ x=>k _ _ _ _ (h _ _ _ _ x)
theorem dY.push (h:ae) (o:Obj):dY h (h.push o):=fun b c e f x=>by
 have hlt:b<h.size:=by
  rcases Nat.lt_or_ge b h.size with h'|h'
  ·exact h'
  ·rw[Array.getElem?_eq_none h'] at x;cases x
 rw[Array.getElem?_push,if_neg (by omega)];exact x
theorem dY.cell {h h':ae} (k:dY h h') {a:Addr} {v:Value} (hv:aD h a=some v):aD h' a=some v:=by
 unfold aD at *
 split at hv
 ·rename_i c e f hb;rw[k _ _ _ _ hb];exact hv
 ·cases hv
theorem xP {P:Program} {w:World} {a:Addr} {v:Value} (h:aD w.heap a=some v):(load a).run P w= .ok v w:=by
 have hc:w.cell? a=some v:=h
 simp only[load,Sem.run,hc]
theorem iU {P:Program} {t:TypeId} {d:TypeDesc} (h:P.underlying t=some d) (w:World):(isAgg t).run P w= .ok (zi d) w:=by
 simp only[isAgg,ba,bE h]
 cases d<;>rfl
theorem La (P:Program): ∀(zs:List Value) (h:ae) (a:Addr) (i:Nat) (K:List Value→Prop),E9 zs h a i K→
 ∃vs,K vs∧vs.length=zs.length∧ ∀w:World,dY h w.heap→ ∀acc,(loadCellsFrom a i zs.length acc).run P w= .ok (acc++vs.toArray) w:=by
 intro zs
 induction zs with
 |nil=>intro h a i K H;exact⟨[],H,rfl,fun w _ acc=>by simp[loadCellsFrom]⟩
 |cons z zs ih=>
  intro h a i K H
  simp only[E9,Kh] at H
  obtain⟨v,hv,H⟩:=kH H
  obtain⟨vs,hk,hl,hr⟩:=ih h a (i+1) _ H
  refine⟨v::vs,hk,by simp[hl],fun w hw acc=> ?_⟩
  simp only[List.length_cons,loadCellsFrom,ba,xP (hw.cell hv)]
  rw[hr w hw]
  simp
theorem Fa {P:Program} {t:TypeId} {h:ae} {a:Addr} {K:Value→Prop} (H:CX P t h a K):
 ∃v,K v∧ ∀w:World,dY h w.heap→(loadVar t a).run P w= .ok v w:=by
 unfold CX xN at H
 cases hu:P.underlying t with
 |none=>simp[hu] at H
 |some d=>
  cases hi:P.info? t with
  |none=>simp[hu,hi] at H
  |some i=>
   simp only[hu,hi] at H
   cases hd:zi d with
   |false=>
    simp only[hd] at H
    cases hz:i.zero with
    |none=>simp[hz] at H
    |some z=>
     simp only[hz] at H
     obtain⟨v,hv,H⟩:=kH H
     refine⟨v,H,fun w hw=> ?_⟩
     simp only[loadVar,ba,iU hu,hd,Bool.false_eq_true,if_false,xP (hw.cell hv)]
   |true=>
    cases hz:i.zero with
    |none=>simp[hz,hd] at H
    |some z=>
     cases z<;>simp only[hz,hd] at H<;>try exact H.elim
     rename_i zs
     cases hn:Nat.beq zs.size i.size with
     |false=>simp[hn] at H
     |true=>
      simp only[hn] at H
      obtain⟨vs,hk,hl,hr⟩:=La P zs.toList h a 0 _ H
      refine⟨_,hk,fun w hw=> ?_⟩
      have hr':=hr w hw #[]
      have hsz:i.size=zs.toList.length:=by rw[Array.length_toList];exact(Nat.eq_of_beq_eq_true hn).symm
      simp only[loadVar,ba,iU hu,hd,if_true,eY hi,loadCells,hsz,hr',bG,Array.empty_append]
theorem oy (P:Program): ∀(vs:List Value) (h:ae) (a:Addr) (i:Nat) (K:ae→Prop),bt vs h a i K→cB P (storeCells a vs i) h fun _ h'=>K h':=by
 intro vs
 induction vs with
 |nil=>intro h a i K H;exact H
 |cons v vs ih=>
  intro h a i K H
  simp only[bt] at H
  cases h1:mC v with
  |false=>simp[h1] at H
  |true=>
   simp only[h1] at H
   obtain⟨hu,hf,H⟩:=H
   simp only[storeCells,aH,store,cB]
   exact⟨h1,hu,hf,ih _ _ _ _ H⟩
theorem Hn {P:Program} {t:TypeId} {h:ae} {a:Addr} {v:Value} {K:ae→Prop} (H:IW P t h a v K):cB P (storeVar t a v) h fun _ h'=>K h':=by
 unfold IW at H
 cases hi:P.info? t with
 |none=>simp[hi] at H
 |some i=>
  simp only[hi] at H
  cases hn:Nat.beq v.cells.size i.size with
  |false=>simp[hn] at H
  |true=>
   simp only[hn] at H
   simp only[storeVar,aH,ox hi]
   rw[if_neg (by rw[Nat.eq_of_beq_eq_true hn];simp)]
   exact oy P _ _ _ _ _ H
end Go.Sh
end
section
set_option linter.unusedVariables false
namespace Go.Sh
def aq (P:Program) (f:FuncId) (args:Array Value) (h:ae) (K:Value→ae→Prop):Prop:=
 (∀w,(callFunc f args).run P w= .ok (.enter f args) w)∧
 ∀w:World,w.heap=h→Calls P f args w fun e w'=> ∃v,e= .returned v∧Fr w w'∧K v w'.heap
theorem aq.mono {P:Program} {f:FuncId} {args:Array Value} {h:ae} {K K':Value→ae→Prop} (H:aq P f args h K) (hk: ∀v h',K v h'→K' v h'):aq P f args h K':=
 ⟨H.1,fun w hw=>(H.2 w hw).mono fun _ _ ⟨v,e,f,k⟩=>⟨v,e,f,hk _ _ k⟩⟩
inductive Sq where
 |pure|load|alloc|loud
def Ki (P:Program) (t:TypeId):Bool:=
 match P.underlying t with
 |some (.int _)=>true
 |_=>false
def PS (P:Program) (t:TypeId):Bool:=
 match P.underlying t with
 |some (.slice _)=>true
 |_=>false
def Ho (P:Program):Op→Sq
 | .move _| .assign _| .pick .. | .nilCheck _| .unOp .. | .fieldAddr .. | .field .. | .indexAddr .. | .index .. | .slice .. | .extract .. | .makeFunc .. | .build .. | .binOp .. => .pure
 | .convert s d _=>match Ki P s,Ki P d with|true,true=> .pure|_,_=> .loud
 | .call c=>match c.callee with
   | .builtin .len| .builtin .cap| .builtin .min| .builtin .max=> .pure
   |_=> .loud
 | .load .. => .load
 | .alloc .. | .box .. | .buildSlice .. => .alloc
 |_=> .loud
def bnd (x:Option Value) (y d:Nat) (K:Nat→Prop):Prop:=
 match x with
 |none=>K d
 |some (.int _ n)=>0≤n∧n≤(y:Int)∧K n.toNat
 |_=>False
def Rd {α:Type}:Option α→Bool
 |some _=>true
 |none=>false
def IX (P:Program) (t:TypeId) (x:Value) (lo hi mx:Option Value) (K:Value→Prop):Prop:=
 match P.underlying t,x with
 |some .string,.string s=>
  match mx with
  |none=>bnd hi s.size s.size fun h=>bnd lo h 0 fun l=>K (.string (s.extract l h))
  |_=>False
 |some (.slice e),.slice a len cap=>
  match P.info? e,hi,mx with
  |some i,none,none=>bnd lo len 0 fun l=>K (.slice (if cap=l then a else a.map (·.add (l*i.size))) (len-l) (cap-l))
  |some i,some hi,mx=>bnd mx cap cap fun m=>bnd (some hi) m len fun h=>bnd lo h 0 fun l=>K (.slice (if m=l then a else a.map (·.add (l*i.size))) (h-l) (m-l))
  |_,_,_=>False
 |some (.array n e),.pointer (some a)=>
  match P.info? e,mx with
  |some i,none=>bnd hi n n fun h=>bnd lo h 0 fun l=>K (.slice (some (if n=l then a else a.add (l*i.size))) (h-l) (n-l))
  |_,_=>False
 |_,_=>False
def CY (P:Program) (t:TypeId) (x ix:Value) (K:Value→Prop):Prop:=
 match ix with
 | .int _ i=>
   match P.underlying t,x with
   |some (.slice e),.slice b len _=>
    match P.info? e with
    |some ti=> ∃a,b=some a∧0≤i∧i<(len:Int)∧K (.pointer (some (a.add (i.toNat*ti.size))))
    |none=>False
   |some (.array len e),.pointer (some a)=>
    match P.info? e with
    |some ti=>0≤i∧i<(len:Int)∧K (.pointer (some (a.add (i.toNat*ti.size))))
    |none=>False
   |_,_=>False
 |_=>False
def PT (P:Program) (t:TypeId) (x ix:Value) (K:Value→Prop):Prop:=
 match ix with
 | .int _ i=>
   match P.underlying t,x with
   |some .string,.string s=>0≤i∧ ∃b:UInt8,s[i.toNat]? =some b∧K (.int .u8 b.toNat)
   |some (.array len e),.agg cs=>
    match xN P e,P.info? e with
    |some (.one z),some ti=>0≤i∧i<(len:Int)∧K9 z fun v=>cs[i.toNat*ti.size]? =some v∧K v
    |some (.agg zs),some ti=>0≤i∧i<(len:Int)∧Ov zs fun vs=>cs.extract (i.toNat*ti.size) (i.toNat*ti.size+ti.size)=vs.toArray∧K (.agg vs.toArray)
    |_,_=>False
   |_,_=>False
 |_=>False
def Ow {α:Type} (p q:Option α) (K:Bool→Prop):Prop:=
 match q with
 |none=>K p.isNone
 |some _=>match p with|none=>K false|some _=>False
def Hp (P:Program) (s:Sem Next) (K:Value→Prop):Prop:=
 match K8 P s with
 |some (.value v)=>K v
 |_=>False
def Hq (op:BinOp) (b:Bool):Bool:=match op with| .neq=> !b|_=>b
def Re (d:Option TypeDesc) (x y:Value):Option Bool:=
 match d,x,y with
 |some (.int _),.int k a,.int k' b=>if k=k' then some (a==b) else none
 |some .bool,.bool a,.bool b=>some (a==b)
 |some .string,.string a,.string b=>some (a==b)
 |_,_,_=>none
def Od (P:Program):List Field→List Value→List Value→Option Bool
 |[],[],[]=>some true
 |f::fs,x::xs,y::ys=>match Re (P.underlying f.type) x y,Od P fs xs ys with
  |some b,some c=>some (b&&c)
  |_,_=>none
 |_,_,_=>none
def Bg (P:Program) (t:TypeId):Bool:=
 match P.underlying t with
 |some (.int _)=>true
 |some .bool=>true
 |some .string=>true
 |_=>false
def Hr (P:Program):List Field→Nat→Bool
 |[],_=>true
 |f::r,k=>f.name != "_" &&Nat.beq f.offset k&&Bg P f.type&&Hr P r (k+1)
def Px (P:Program) (t:TypeId) (fs:List Field):Bool:=Hr P fs 0&& !P.stoodInHeld t&& !P.eqGuardType P.depth t
def Rf (P:Program) (op:BinOp) (t:TypeId) (x y:Value) (fall:Prop) (K:Value→Prop):Prop:=
 match P.underlying t,x,y with
 |some (.pointer _),.pointer p,.pointer q=>Ow p q fun b=>K (.bool (Hq op b))
 |some (.slice _),.slice p _ _,.slice q _ _=>Ow p q fun b=>K (.bool (Hq op b))
 |some (.map _ _),.map p,.map q=>Ow p q fun b=>K (.bool (Hq op b))
 |some (.struct fs),.agg xs,.agg ys=>match Px P t fs.toList,Od P fs.toList xs.toList ys.toList with
  |true,some b=>K (.bool (Hq op b))
  |_,_=>False
 |_,_,_=>fall
def IY (P:Program) (op:BinOp) (t:TypeId) (yo:Operand) (x y:Value) (fall:Prop) (K:Value→Prop):Prop:=
 match op with
 | .add=>
   match x,y with
   | .string a,.string b=>((a.size+b.size:Nat):Int)≤IntKind.i64.max∧K (.string (a++b))
   |_,_=>fall
 | .eql=>Rf P .eql t x y fall K
 | .neq=>Rf P .neq t x y fall K
 | .quo=>
   match yo with
   | .const _=>fall
   |_=>match x,y with
    | .int k a,.int k' b=>if k=k' then b≠0∧K (.int k (k.wrap (a.tdiv b))) else False
    |_,_=>False
 | .rem=>
   match yo with
   | .const _=>fall
   |_=>match x,y with
    | .int k a,.int k' b=>if k=k' then b≠0∧K (.int k (a.tmod b)) else False
    |_,_=>False
 | .shl=>
   match yo with
   | .const _=>fall
   |_=>match x,y with
    | .int k a,.int _ n=>0≤n∧K (.int k (k.wrap (a*2 ^ (min n.toNat k.bits))))
    |_,_=>False
 | .shr=>
   match yo with
   | .const _=>fall
   |_=>match x,y with
    | .int k a,.int _ n=>0≤n∧K (.int k (a.fdiv (2 ^ (min n.toNat k.bits))))
    |_,_=>False
 |_=>fall
def QL (v:Value) (K:Value→Prop):Prop:=
 match v with
 | .pointer p=> ∃a,p=some a∧K (.pointer (some a))
 | .func (.func f) a b=>K (.func (.func f) a b)
 |_=>False
def MC (P:Program) (o:Oper) (tv:Operand→Tv) (K:Tv→Prop):Prop:=
 let ρ:Operand→Value:=fun x=>(tv x).v
 match o.op with
 | .move x| .assign x=>K (tv x)
 | .pick c a b=>match tv c with
   | .known true=>K (tv a)
   | .known false=>K (tv b)
   | .val (.bool x)=>(x=true→K (tv a))∧(x=false→K (tv b))
   |_=>False
 | .nilCheck x=>QL (ρ x) fun v=>K (.val v)
 | .indexAddr t x i=>CY P t (ρ x) (ρ i) fun v=>K (.val v)
 | .index t x i=>PT P t (ρ x) (ρ i) fun v=>K (.val v)
 | .slice t x lo hi mx=>IX P t (ρ x) (lo.map ρ) (hi.map ρ) (mx.map ρ) fun v=>K (.val v)
 | .binOp op t _ y _=>IY P op t y (match o.op with| .binOp _ _ x _ _=>ρ x|_=>undef) (ρ y) (Hp P (execOp ρ o) fun v=>K (.val v)) fun v=>K (.val v)
 |_=>Hp P (execOp ρ o) fun v=>K (.val v)
def QM (z:List Value):Nat→List Value
 |0=>[]
 |n+1=>z++QM z n
def Hs (h:ae) (a:Addr):Nat→Nat→List Value→Prop
 |_,0,vs=>vs=[]
 |i,n+1,vs=> ∃v r,aD h (a.add i)=some v∧Hs h a (i+1) n r∧vs=v::r
def readO (h:ae) (a:Option Addr) (n:Nat) (vs:List Value):Prop:=
 match a with
 |some a=>Hs h a 0 n vs
 |none=>vs=[]
def MD (e sz by_:Nat) (z:Value) (base:Option Addr) (len cap:Nat) (b:Option Addr) (n:Nat) (h:ae) (K:Value→ae→Prop):Prop:=
 ∃ys,readO h b (n*sz) ys∧
  (len+n≤cap→match base with
   |some a=>bt ys h (a.add (len*sz)) 0 fun h'=>K (.slice base (len+n) cap) h'
   |none=>K (.slice base (len+n) cap) h)∧
  (cap<len+n→by_≠0∧Builtin.nextslicecap (len+n) cap*by_≤2 ^ 48∧ ∃xs,readO h base (len*sz) xs∧
   ∀c,len+n≤c→K (.slice (some ⟨h.size,0,none⟩) (len+n) c) (h.push (.cells (xs++ys++(Builtin.zeroCells z.cells (c-(len+n))).toList).toArray e (0,0))))
def PU (P:Program) (t:TypeId) (s x:Value) (h:ae) (K:Value→ae→Prop):Prop:=
 match P.underlying t,s,x with
 |some (.slice e),.slice base len cap,.slice b n _=>
  match P.info? e with
  |some ti=>
   match ti.zero with
   |some z=>MD e ti.size ti.bytes z base len cap b n h K
   |none=>False
  |none=>False
 |_,_,_=>False
def R7 (e sz by_:Nat) (z:Value) (l c:Int) (h:ae) (K:Value→ae→Prop):Prop:=
 sz≠0∧0≤l∧l≤c∧c<2 ^ 63∧(by_:Int)*c≤2 ^ 48∧
  K (.slice (some ⟨h.size,0,none⟩) l.toNat c.toNat) (h.push (.cells ((Array.range (c.toNat*sz)).map (z.cells[· % z.cells.size]!)) e (0,0)))
def Rt (P:Program) (t:TypeId) (l c:Value) (h:ae) (K:Value→ae→Prop):Prop:=
 match P.underlying t,l,c with
 |some (.slice e),.int _ l,.int _ c=>
  match P.info? e with
  |some ti=>
   match ti.zero with
   |some z=>R7 e ti.size ti.bytes z l c h K
   |none=>False
  |none=>False
 |_,_,_=>False
def Sr (sz:Nat) (base:Option Addr) (len:Nat) (b:Option Addr) (n:Nat) (h:ae) (K:Value→ae→Prop):Prop:=
 ∃ys,readO h b (Nat.min n len*sz) ys∧match base with
  |some a=>bt ys h a 0 fun h'=>K (.int .i64 ((Nat.min n len:Nat):Int)) h'
  |none=>K (.int .i64 ((Nat.min n len:Nat):Int)) h
def Ru (P:Program) (t:TypeId) (s x:Value) (h:ae) (K:Value→ae→Prop):Prop:=
 match P.underlying t,s,x with
 |some (.slice e),.slice base len _,.slice b n _=>
  match P.info? e with
  |some ti=>Sr ti.size base len b n h K
  |none=>False
 |_,_,_=>False
def Rv (z:Value) (base:Option Addr) (len:Nat) (h:ae) (K:ae→Prop):Prop:=
 match base with
 |some a=>(len=0→K h)∧(len≠0→bt (Builtin.zeroCells z.cells len).toList h a 0 K)
 |none=>K h
def Rw (P:Program) (t:TypeId) (s:Value) (h:ae) (K:Value→ae→Prop):Prop:=
 match P.underlying t,s with
 |some (.slice e),.slice base len _=>
  match P.info? e with
  |some ti=>
   match ti.zero with
   |some z=>Rv z base len h fun h'=>K (.tuple #[]) h'
   |none=>False
  |none=>False
 |_,_=>False
def ME (a:Option Addr) (n:Nat) (h:ae) (K:ByteArray→Prop):Prop:=
 ∃ys:List UInt8,readO h a n (ys.map fun b=>Value.int .u8 b.toNat)∧K ⟨ys.toArray⟩
def QN (e:TypeId) (s:ByteArray) (h:ae) (K:Value→ae→Prop):Prop:=
 ∀c,s.size≤c→K (.slice (some ⟨h.size,0,none⟩) s.size c) (h.push (.cells (s.data.map (fun b=>Value.int .u8 b.toNat)++Array.replicate (c-s.size) (.int .u8 0)) e (c,c+1)))
def MF (P:Program) (src dst:TypeId) (x:Value) (h:ae) (fall:Prop) (K:Value→ae→Prop):Prop:=
 match P.underlying src,P.underlying dst,x with
 |some (.slice e),some .string,.slice a n _=>match P.underlying e with
  |some (.int .u8)=>ME a n h fun s=>K (.string s) h
  |_=>False
 |some .string,some (.slice e),.string s=>match P.underlying e with
  |some (.int .u8)=>QN e s h K
  |_=>False
 |_,_,_=>fall
def Ge (P:Program) (s:Sem Next) (h:ae) (K:Tv→ae→Prop):Prop:=
 match Eu P s h with
 |some (.value v,h')=>K (.val v) h'
 |_=>False
def oS (P:Program) (s:Sem Next) (h:ae) (K:Tv→ae→Prop):Prop:=
 cB P s h fun nx h'=>match nx with
  | .value v=>K (.val v) h'
  | .skip=>K (.val undef) h'
  |_=>False
def eZ (n:Int) (e:MapEntry):Bool:=
 match e.key with
 | .int _ a=>n==a
 |_=>false
def Lb (kk:IntKind) (es:Array MapEntry):Prop:= ∀e∈es.toList,∃a:Int,e.key= .int kk a
def kJ (n:Int):List MapEntry→Nat→Option (Nat×Value)
 |[],_=>none
 |e::es,i=>match eZ n e with|true=>some (i,e.val)|false=>kJ n es (i+1)
def Kj (h:ae) (m:Option Nat) (K:Array MapEntry→Nat→Prop):Prop:=
 match m with
 |none=>K #[] 0
 |some r=> ∃es c,h[r]? =some (.map es c)∧K es c
def lG (kk:IntKind) (z:Value) (m:Option Nat) (n:Int) (h:ae) (K:Value→Bool→Prop):Prop:=
 Kj h m fun es _=>Lb kk es∧match kJ n es.toList 0 with
  |some x=>K x.2 true
  |none=>K z false
def PV (kk:IntKind) (n:Int) (v:Value) (es:Array MapEntry) (c:Nat):Obj:=
 match kJ n es.toList 0 with
 |some x=> .map (es.modify x.1 fun e=>{e with key:= .int kk n,val:=v}) c
 |none=> .map (es.push {key:= .int kk n,val:=v,born:=c}) (c+1)
def updB (kk:IntKind) (m:Option Nat) (n:Int) (v:Value) (h:ae) (K:ae→Prop):Prop:=
 match m with
 |none=>False
 |some r=> ∃es c,h[r]? =some (.map es c)∧Lb kk es∧K (h.setIfInBounds r (PV kk n v es c))
def PW (n:Int) (es:Array MapEntry) (c:Nat):Obj:=
 match kJ n es.toList 0 with
 |some x=> .map (es.eraseIdxIfInBounds x.1) c
 |none=> .map es c
def MG (kk:IntKind) (m:Option Nat) (n:Int) (h:ae) (K:ae→Prop):Prop:=
 match m with
 |none=>K h
 |some r=> ∃es c,h[r]? =some (.map es c)∧Lb kk es∧K (h.setIfInBounds r (PW n es c))
def QO (kk:IntKind) (z:Value) (m:Option Nat) (n:Int) (h:ae) (K:Value→Nat→ae→Prop):Prop:=
 match m with
 |none=>False
 |some r=> ∃es c,h[r]? =some (.map es c)∧Lb kk es∧match kJ n es.toList 0 with
  |some x=>K x.2 (((es[x.1]?).map (·.born)).getD 0) (h.setIfInBounds r (.map (es.modify x.1 fun e=>{e with key:= .int kk n}) c))
  |none=>K z c (h.setIfInBounds r (.map (es.push {key:= .int kk n,val:=z,born:=c}) (c+1)))
def MH (m:Option Nat) (b:Int) (v:Value) (h:ae) (K:ae→Prop):Prop:=
 match m with
 |none=>False
 |some r=> ∃es c i,h[r]? =some (.map es c)∧es.findIdx? (fun e=>(e.born:Int)==b)=some i∧K (h.setIfInBounds r (.map (es.modify i fun e=>{e with val:=v}) c))
def MI (m:Option Nat) (h:ae) (K:Nat→ae→Prop):Prop:=
 Kj h m fun _ c=>K h.size (h.push (.mapIter m c #[] c))
def QP (a:Addr) (h:ae) (over:ae→Prop) (K:Value→Value→ae→Prop):Prop:=
 a.off=0∧ ∃m since seen last,h[a.block]? =some (.mapIter m since seen last)∧
  match m with
  |none=>over h
  |some r=> ∃es c,h[r]? =some (.map es c)∧since=c∧last=c∧(∀e∈es.toList,e.born<c)∧
   ((∀e∈es.toList,seen.contains e.born=true)→over h)∧
   ∀e∈es.toList,seen.contains e.born=false→K e.key e.val (h.setIfInBounds a.block (.mapIter (some r) c (seen.push e.born) c))
def PX (a:Addr) (h:ae) (K:Int→Value→Prop):Prop:=
 a.off=0∧ ∃r since seen c es,h[a.block]? =some (.mapIter (some r) since seen c)∧h[r]? =some (.map es c)∧
  ∃b e n,seen.back? =some b∧es.find? (fun e=>e.born==b)=some e∧e.key= .int .i64 n∧K n e.val
def IZ (P:Program) (t:TypeId):Option (TypeId×TypeId×Value):=
 match P.underlying t with
 |some (.map kt et)=>match Ki P kt,P.info? et with
  |true,some ti=>match ti.zero with
   |some z=>some (kt,et,z)
   |none=>none
  |_,_=>none
 |_=>none
def QQ:Bool→Value→Bool→Value
 |true,v,b=> .tuple #[v,.bool b]
 |false,v,_=>v
def MJ (P:Program) (t:TypeId) (x ix:Value) (ok:Bool) (h:ae) (K:Value→ae→Prop):Prop:=
 match IZ P t,x,ix with
 |some y,.map m,.int kk n=>lG kk y.2.2 m n h fun v b=>K (QQ ok v b) h
 |_,_,_=>False
def Ox (P:Program) (t:TypeId) (m k v:Value) (h:ae) (K:ae→Prop):Prop:=
 match IZ P t,m,k with
 |some _,.map m,.int kk n=>updB kk m n v h K
 |_,_,_=>False
def PY (P:Program) (t:TypeId) (m k:Value) (h:ae) (K:ae→Prop):Prop:=
 match IZ P t,m,k with
 |some _,.map m,.int kk n=>MG kk m n h K
 |_,_,_=>False
def PZ (P:Program) (t:TypeId) (m k:Value) (h:ae) (K:Value→ae→Prop):Prop:=
 match IZ P t,m,k with
 |some y,.map m,.int kk n=>QO kk y.2.2 m n h fun v b h'=>K (.tuple #[v,.int .i64 (b:Int)]) h'
 |_,_,_=>False
def I1 (m b v:Value) (h:ae) (K:ae→Prop):Prop:=
 match m,b with
 | .map m,.int .i64 b=>MH m b v h K
 |_,_=>False
def I3 (P:Program) (t:TypeId) (x:Value) (h:ae) (K:Value→ae→Prop):Prop:=
 match IZ P t,x with
 |some _,.map m=>MI m h fun r h'=>K (.pointer (some ⟨r,0,none⟩)) h'
 |_,_=>False
def I4 (it:Value) (h:ae) (K:Int→Value→Prop):Prop:=
 match it with
 | .pointer (some a)=>PX a h K
 |_=>False
def MK (it:Value) (h:ae) (over:ae→Prop) (K:Value→Value→ae→Prop):Prop:=
 match it with
 | .pointer (some a)=>QP a h over K
 |_=>False
def wd (P:Program) (l:Nat) (args:Array Value) (h:ae) (K:Value→ae→Prop):Prop:=
 ∀w:World,w.heap=h→ ∃fn tmps assign body,(Instr.yield l args).run P w= .ok (.round l fn tmps assign body) w∧
  RoundIn Fence.wide 0 P l fn tmps assign body w fun e w'=> ∃v,e= .returned v∧Fr w w'∧K v w'.heap
theorem wd.mono {P:Program} {l:Nat} {args:Array Value} {h:ae} {K K':Value→ae→Prop} (H:wd P l args h K) (hk: ∀v h',K v h'→K' v h'):wd P l args h K':=
 fun w hw=>let ⟨fn,tmps,assign,body,h1,h2⟩:=H w hw;⟨fn,tmps,assign,body,h1,h2.mono fun _ _ ⟨v,e,f,k⟩=>⟨v,e,f,hk _ _ k⟩⟩
def fw (P:Program) (v:Value) (args:List Value) (h:ae) (K:Value→ae→Prop):Prop:=
 match v with
 | .func (.func g) first captured=>aq P g (first.toList++args++captured.toList).toArray h K
 | .func (.yield l) first _=>wd P l (first.toList++args).toArray h K
 |_=>False
def ML (P:Program) (o:Oper) (tv:Operand→Tv) (h:ae) (K:Tv→ae→Prop):Prop:=
 let ρ:Operand→Value:=fun x=>(tv x).v
 match o.op with
 | .store t a x=>match ρ a with
   | .pointer (some ad)=>IW P t h ad (ρ x) fun h'=>K (.val undef) h'
   |_=>False
 | .makeSlice t l c=>Rt P t (ρ l) (ρ c) h fun v h'=>K (.val v) h'
 | .call c=>match c.callee with
   | .value f=>fw P (ρ f) (c.args.toList.map ρ) h fun v h'=>xO P o.type v fun x=>K (.val x) h'
   | .builtin .append=>match c.args.toList,c.argTypes.toList with
     |[s,x],[t,u]=>match PS P u with
      |true=>PU P t (ρ s) (ρ x) h fun v h'=>xO P o.type v fun x=>K (.val x) h'
      |false=>False
     |_,_=>False
   | .builtin .copy=>match c.args.toList,c.argTypes.toList with
     |[s,x],[t,_]=>Ru P t (ρ s) (ρ x) h fun v h'=>K (.val v) h'
     |_,_=>False
   | .builtin .delete=>match c.args.toList,c.argTypes.toList with
     |[m,k],t::_=>PY P t (ρ m) (ρ k) h fun h'=>K (.val (.tuple #[])) h'
     |_,_=>False
   | .builtin .clear=>match c.args.toList,c.argTypes.toList with
     |[s],[t]=>Rw P t (ρ s) h fun v h'=>K (.val v) h'
     |_,_=>False
   |_=>oS P (execOp ρ o) h K
 | .lookup t x i ok=>MJ P t (ρ x) (ρ i) ok h fun v h'=>xO P o.type v fun y=>K (.val y) h'
 | .mapUpdate t m k x=>Ox P t (ρ m) (ρ k) (ρ x) h fun h'=>K (.val undef) h'
 | .insert t m k x=>Ox P t (ρ m) (ρ k) (ρ x) h fun h'=>K (.val undef) h'
 | .mapEntry t m k=>PZ P t (ρ m) (ρ k) h fun v h'=>xO P o.type v fun y=>K (.val y) h'
 | .entryStore _ m b x=>I1 (ρ m) (ρ b) (ρ x) h fun h'=>K (.val undef) h'
 | .range t x=>I3 P t (ρ x) h fun v h'=>K (.val v) h'
 | .next it false=>MK (ρ it) h (fun h'=>K (.val (.tuple #[.bool false])) h') fun k v h'=>K (.val (.tuple #[.bool true,k,v])) h'
 | .entry it=>I4 (ρ it) h fun k v=>K (.val (.tuple #[.int .i64 k,v])) h
 | .convert src dst x=>MF P src dst (ρ x) h (oS P (execOp ρ o) h K) fun v h'=>xO P o.type v fun x=>K (.val x) h'
 |_=>oS P (execOp ρ o) h K
def MM (P:Program) (o:Oper) (tv:Operand→Tv) (h:ae) (K:Tv→Prop):Prop:=
 match o.op with
 | .load t a=>match(tv a).v with
   | .pointer (some ad)=>CX P t h ad fun v=>K (.val v)
   |_=>False
 |_=>False
def Ht (P:Program) (o:Oper) (tv:Operand→Tv) (h:ae) (K:Tv→ae→Prop):Prop:=
 match Ho P o.op with
 | .pure=>MC P o tv fun x=>K x h
 | .load=>MM P o tv h fun x=>K x h
 | .alloc=>Ge P (execOp (fun x=>(tv x).v) o) h K
 | .loud=>ML P o tv h K
end Go.Sh
end
section
set_option linter.unusedVariables false
namespace Go.Sh
set_option linter.unusedSimpArgs false
theorem Fb {P:Program} {s:Sem Next} {K:Value→Prop} (H:Hp P s K): ∃v,K v∧ ∀w,s.run P w= .ok (.value v) w:=by
 unfold Hp at H
 split at H
 ·rename_i v hv;exact⟨v,H,MB P s hv⟩
 ·exact H.elim
theorem kh {P:Program} {x:Option Value} {y d:Nat} {K:Nat→Prop} {code:BoundsCode} (H:bnd x y d K):
 ∃n,K n∧ ∀w,(match x with|some v=>Instr.sliceBound v y code|none=>pure d).run P w= .ok n w:=by
 unfold bnd at H
 split at H
 ·exact⟨d,H,fun w=>rfl⟩
 ·rename_i k n
  obtain⟨h1,h2,H⟩:=H
  refine⟨_,H,fun w=> ?_⟩
  simp only[Instr.sliceBound,asIntOf,ba,bG,h1,h2,and_self,if_true]
 ·exact H.elim
theorem I5 {P:Program} {t:TypeId} {x:Value} {lo hi mx:Option Value} {K:Value→Prop} (H:IX P t x lo hi mx K):
 ∃v,K v∧ ∀w,(Instr.sliceAt t x lo hi mx).run P w= .ok v w:=by
 unfold IX at H
 split at H
 ·rename_i s hu
  split at H
  ·obtain⟨h,H,hh⟩:=kh (P:=P) (code:= .sliceAlen) H
   obtain⟨l,H,hl⟩:=kh (P:=P) (code:= .sliceB) H
   refine⟨_,H,fun w=> ?_⟩
   have e1:=hh w;have e2:=hl w
   cases hi<;>cases lo<;>simp_all [Instr.sliceAt,Instr.slice,Instr.sliceBounds,ba,bE hu,bG]
  ·exact H.elim
 ·rename_i e a len cap hu
  cases hP:P.info? e with
  |none=>cases hi<;>cases mx<;>simp[hP] at H
  |some i=>
   cases hi with
   |none=>
    cases mx with
    |some m=>simp[hP] at H
    |none=>
     simp only[hP] at H
     obtain⟨l,H,hl⟩:=kh (P:=P) (code:= .sliceB) H
     refine⟨_,H,fun w=> ?_⟩
     have e2:=hl w
     cases lo<;>simp_all [Instr.sliceAt,Instr.slice,Instr.sliceBounds,ba,bE hu,eY hP,bG]
   |some hv=>
    cases mx with
    |none=>
     simp only[hP] at H
     obtain⟨m,H,hm⟩:=kh (P:=P) (code:= .slice3Acap) H
     obtain⟨h,H,hh⟩:=kh (P:=P) (code:= .sliceAcap) H
     obtain⟨l,H,hl⟩:=kh (P:=P) (code:= .sliceB) H
     refine⟨_,H,fun w=> ?_⟩
     have e1:=hh w;have e2:=hl w;have e3:=hm w
     cases lo<;>simp_all [Instr.sliceAt,Instr.slice,Instr.sliceBounds,ba,bE hu,eY hP,bG]
    |some mv=>
     simp only[hP] at H
     obtain⟨m,H,hm⟩:=kh (P:=P) (code:= .slice3Acap) H
     obtain⟨h,H,hh⟩:=kh (P:=P) (code:= .slice3B) H
     obtain⟨l,H,hl⟩:=kh (P:=P) (code:= .slice3C) H
     refine⟨_,H,fun w=> ?_⟩
     have e1:=hh w;have e2:=hl w;have e3:=hm w
     cases lo<;>simp_all [Instr.sliceAt,Instr.slice,Instr.sliceBounds,ba,bE hu,eY hP,bG]
 ·rename_i n e a hu
  cases hP:P.info? e with
  |none=>cases mx<;>simp[hP] at H
  |some i=>
   cases mx with
   |some m=>simp[hP] at H
   |none=>
    simp only[hP] at H
    obtain⟨h,H,hh⟩:=kh (P:=P) (code:= .sliceAlen) H
    obtain⟨l,H,hl⟩:=kh (P:=P) (code:= .sliceB) H
    refine⟨_,H,fun w=> ?_⟩
    have e1:=hh w;have e2:=hl w
    cases hi<;>cases lo<;>simp_all [Instr.sliceAt,Instr.sureAddr,Instr.sliceBounds,ba,bE hu,eY hP,bG]
 ·exact H.elim
theorem Gf {P:Program} {t:TypeId} {x ix:Value} {K:Value→Prop} (H:CY P t x ix K):
 ∃v,K v∧ ∀w,(Instr.indexAt t x ix).run P w= .ok v w:=by
 unfold CY at H
 split at H
 ·rename_i k i
  split at H
  ·rename_i e b len c hu
   split at H
   ·rename_i ti hi
    obtain⟨a,rfl,h1,h2,H⟩:=H
    refine⟨_,H,fun w=> ?_⟩
    simp[Instr.indexAt,asIntOf,ba,bG,bE hu,eY hi,h1,h2]
   ·exact H.elim
  ·rename_i len e a hu
   split at H
   ·rename_i ti hi
    obtain⟨h1,h2,H⟩:=H
    refine⟨_,H,fun w=> ?_⟩
    simp[Instr.indexAt,asIntOf,Instr.sureAddr,ba,bG,bE hu,eY hi,h1,h2]
   ·exact H.elim
  ·exact H.elim
 ·exact H.elim
theorem MN {P:Program} {t:TypeId} {z:Value} (h:xN P t=some (.one z)): ∃d,P.underlying t=some d∧zi d=false:=by
 unfold xN at h
 split at h
 ·rename_i d i hd hi
  refine⟨d,hd,?_⟩
  split at h<;>first|(split at h<;>simp at h;done)|simp_all
 ·cases h
theorem MO {P:Program} {t:TypeId} {zs:List Value} (h:xN P t=some (.agg zs)): ∃d,P.underlying t=some d∧zi d=true:=by
 unfold xN at h
 split at h
 ·rename_i d i hd hi
  refine⟨d,hd,?_⟩
  split at h<;>first|(split at h<;>simp at h;done)|simp_all
 ·cases h
theorem MP {P:Program} {t:TypeId} {x ix:Value} {K:Value→Prop} (H:PT P t x ix K):
 ∃v,K v∧ ∀w,(Instr.index t x ix).run P w= .ok v w:=by
 unfold PT at H
 split at H
 ·rename_i k i
  split at H
  ·rename_i s hu
   obtain⟨h1,b,hb,H⟩:=H
   refine⟨_,H,fun w=> ?_⟩
   simp[Instr.index,asIntOf,ba,bG,bE hu,h1,hb]
  ·rename_i len e cs hu
   split at H
   ·rename_i z ti hz hi
    obtain⟨h1,h2,H⟩:=H
    obtain⟨v,hv,H⟩:=kH H
    obtain⟨d,hd,ha⟩:=MN hz
    refine⟨_,H,fun w=> ?_⟩
    simp[Instr.index,asIntOf,ba,bG,bE hu,eY hi,part,iU hd,ha,h1,h2,hv]
   ·rename_i zs ti hz hi
    obtain⟨h1,h2,H⟩:=H
    obtain⟨vs,hv,H⟩:=zh H
    obtain⟨d,hd,ha⟩:=MO hz
    refine⟨_,H,fun w=> ?_⟩
    simp[Instr.index,asIntOf,ba,bG,bE hu,eY hi,part,iU hd,ha,h1,h2,hv]
   ·exact H.elim
  ·exact H.elim
 ·exact H.elim
theorem Hu (P:Program) (op:BinOp) (t:TypeId) (x y:Operand) (p q:Option Addr) (w:World):
 (eqGuard op t x y (.pointer p) (.pointer q)).run P w= .ok () w:=by
 unfold eqGuard;cases op<;>rfl
theorem Ew (P:Program) (op:BinOp) (t:TypeId) (x y:Operand) (p q:Option Addr) (a b c d:Nat) (w:World):
 (eqGuard op t x y (.slice p a b) (.slice q c d)).run P w= .ok () w:=by
 unfold eqGuard;cases op<;>rfl
theorem Hv (P:Program) (op:BinOp) (t:TypeId) (x y:Operand) (p q:Option Nat) (w:World):
 (eqGuard op t x y (.map p) (.map q)).run P w= .ok () w:=by
 unfold eqGuard;cases op<;>rfl
theorem oz (P:Program) (op:BinOp) (t:TypeId) (x y:Operand) (k k':IntKind) (p q:Int) (w:World):
 (eqGuard op t x y (.int k p) (.int k' q)).run P w= .ok () w:=by
 unfold eqGuard;cases op<;>rfl
theorem Hw {P:Program} {t e:TypeId} {p q:Option Addr} {K:Bool→Prop} (hu:P.underlying t=some (.pointer e)) (H:Ow p q K) (d:Nat):
 ∃b,K b∧ ∀w,(Op.equalIn (d+1) t (.pointer p) (.pointer q)).run P w= .ok b w:=by
 unfold Ow at H
 cases q with
 |none=>
  refine⟨_,H,fun w=> ?_⟩
  cases p<;>simp[Op.equalIn,ba,bE hu,bG]
 |some b=>
  cases p with
  |none=>exact⟨_,H,fun w=>by simp[Op.equalIn,ba,bE hu,bG]⟩
  |some a=>exact H.elim
theorem Ex {P:Program} {t e:TypeId} {p q:Option Addr} {K:Bool→Prop} (hu:P.underlying t=some (.slice e)) (H:Ow p q K) (d:Nat):
 ∃b,K b∧ ∀l c l' c' w,(Op.equalIn (d+1) t (.slice p l c) (.slice q l' c')).run P w= .ok b w:=by
 unfold Ow at H
 cases q with
 |none=>
  refine⟨_,H,fun l c l' c' w=> ?_⟩
  cases p<;>simp[Op.equalIn,ba,bE hu,bG]
 |some b=>
  cases p with
  |none=>exact⟨_,H,fun l c l' c' w=>by simp[Op.equalIn,ba,bE hu,bG]⟩
  |some a=>exact H.elim
theorem Hx {P:Program} {t e k:TypeId} {p q:Option Nat} {K:Bool→Prop} (hu:P.underlying t=some (.map k e)) (H:Ow p q K) (d:Nat):
 ∃b,K b∧ ∀w,(Op.equalIn (d+1) t (.map p) (.map q)).run P w= .ok b w:=by
 unfold Ow at H
 cases q with
 |none=>
  refine⟨_,H,fun w=> ?_⟩
  cases p<;>simp[Op.equalIn,ba,bE hu,bG]
 |some b=>
  cases p with
  |none=>exact⟨_,H,fun w=>by simp[Op.equalIn,ba,bE hu,bG]⟩
  |some a=>exact H.elim
theorem uc {P:Program} {t:TypeId} {x y:Value} {b:Bool} (h: ∀w,(Op.equalIn (9999+1) t x y).run P w= .ok b w) (w:World):(Op.equal t x y).run P w= .ok b w:=h w
theorem Oy {P:Program} {t:TypeId} {x y:Value} {b:Bool} (h:Re (P.underlying t) x y=some b) (d:Nat) (w:World):
 (Op.equalIn (d+1) t x y).run P w= .ok b w:=by
 unfold Re at h
 split at h
 ·rename_i hu
  split at h
  ·rename_i hk
   injection h with h
   subst hk;subst h
   simp[Op.equalIn,ba,bE hu,bG]
  ·cases h
 ·rename_i hu
  injection h with h
  subst h
  simp[Op.equalIn,ba,bE hu,bG]
 ·rename_i hu
  injection h with h
  subst h
  simp[Op.equalIn,ba,bE hu,bG]
 ·cases h
theorem Ey {P:Program} {t:TypeId} (ht:Bg P t=true) (w:World):(isAgg t).run P w= .ok false w:=by
 unfold Bg at ht
 split at ht
 ·rename_i k hu;rw[iU hu];rfl
 ·rename_i hu;rw[iU hu];rfl
 ·rename_i hu;rw[iU hu];rfl
 ·cases ht
theorem Hy {P:Program} {t:TypeId} {cs:Array Value} {k:Nat} {v:Value} (ht:Bg P t=true) (h:cs[k]? =some v) (w:World):(part t cs k).run P w= .ok v w:=by
 simp only[part,ba,Ey ht,Bool.false_eq_true,if_false,h]
 rfl
theorem MQ {P:Program} {f:Field} {fs:List Field} {x y:Value} {xs ys:List Value} {b:Bool} (h:Od P (f::fs) (x::xs) (y::ys)=some b):
 ∃b1 b2,Re (P.underlying f.type) x y=some b1∧Od P fs xs ys=some b2∧b=(b1&&b2):=by
 simp only[Od] at h
 split at h
 ·rename_i b1 b2 h1 h2;exact⟨b1,b2,h1,h2,by injection h with h;exact h.symm⟩
 ·cases h
theorem xQ {P:Program} {xs ys:Array Value} (d:Nat): ∀(fs:List Field) (k:Nat) (lx ly:List Value) (b:Bool),Hr P fs k=true→
 (∀j v,lx[j]? =some v→xs[k+j]? =some v)→(∀j v,ly[j]? =some v→ys[k+j]? =some v)→Od P fs lx ly=some b→ ∀w:World,
 (forIn fs ((none,()):Option Bool×Unit) (fun f __s=>
  if f.name≠ "_" then do
   let __do_lift←part f.type xs f.offset
   let __do_lift_1←part f.type ys f.offset
   let __do_lift←Op.equalIn (d+1) f.type __do_lift __do_lift_1
   if(!__do_lift)=true then pure (ForInStep.done (some false,())) else pure (ForInStep.yield (none,()))
  else pure (ForInStep.yield (none,()))):Sem (Option Bool×Unit)).run P w= .ok (if b then(none,()) else(some false,())) w
 |[],k,lx,ly,b,_,_,_,h,w=>by
  cases lx<;>cases ly<;>simp[Od] at h
  subst h;rfl
 |f::fs,k,lx,ly,b,hf,hx,hy,h,w=>by
  cases lx with
  |nil=>simp[Od] at h
  |cons x lx=>
   cases ly with
   |nil=>simp[Od] at h
   |cons y ly=>
    obtain⟨b1,b2,h1,h2,rfl⟩:=MQ h
    simp only[Hr,Bool.and_eq_true,bne_iff_ne] at hf
    obtain⟨⟨⟨hn,ho⟩,hs⟩,hf⟩:=hf
    have ho:f.offset=k:=Nat.eq_of_beq_eq_true ho
    have e1:=hx 0 x rfl
    have e2:=hy 0 y rfl
    rw[Nat.add_zero] at e1 e2
    rw[List.forIn_cons,ba]
    rw[if_pos hn,ho]
    simp only[ba,Hy hs e1,Hy hs e2,Oy h1 d]
    cases b1 with
    |false=>rfl
    |true=>
     simp only[Bool.not_true,Bool.false_eq_true,if_false,bG,Bool.true_and]
     exact xQ d fs (k+1) lx ly b2 hf (fun j v hj=>by have:=hx (j+1) v (by simpa using hj);rw[show k+1+j=k+(j+1) by omega];exact this)
      (fun j v hj=>by have:=hy (j+1) v (by simpa using hj);rw[show k+1+j=k+(j+1) by omega];exact this) h2 w
theorem CZ {P:Program} {t:TypeId} {fs:Array Field} {xs ys:Array Value} {b:Bool} (hu:P.underlying t=some (.struct fs)) (hf:Hr P fs.toList 0=true)
 (hst:P.stoodInHeld t=false) (h:Od P fs.toList xs.toList ys.toList=some b) (d:Nat) (w:World):(Op.equalIn (d+1+1) t (.agg xs) (.agg ys)).run P w= .ok b w:=by
 have:=xQ (P:=P) (xs:=xs) (ys:=ys) d fs.toList 0 xs.toList ys.toList b hf (fun j v hj=>by simpa using hj) (fun j v hj=>by simpa using hj) h w
 rw[Op.equalIn]
 simp only[ba,bE hu,program,Sem.run,hst,Bool.false_eq_true,if_false]
 rw[←Array.forIn_toList,this]
 cases b<;>rfl
theorem C0 {P:Program} {op:BinOp} {t:TypeId} {x y:Operand} {xs ys:Array Value} (hg:P.eqGuardType P.depth t=false) (w:World):
 (eqGuard op t x y (.agg xs) (.agg ys)).run P w= .ok () w:=by
 unfold eqGuard
 cases op<;>simp[ba,program,Sem.run,hg,bG]<;>rfl
theorem Kk {P:Program} {op:BinOp} {t:TypeId} {xo yo:Operand} {x y:Value} {fall:Prop} {K:Value→Prop} (hop:op= .eql∨op= .neq)
 (hf:fall→ ∃v,K v∧ ∀w,(do eqGuard op t xo yo x y;binOp op t x y:Sem Value).run P w= .ok v w)
 (H:Rf P op t x y fall K): ∃v,K v∧ ∀w,(do eqGuard op t xo yo x y;binOp op t x y:Sem Value).run P w= .ok v w:=by
 unfold Rf at H
 split at H
 ·rename_i hu
  obtain⟨b,hb,hr⟩:=Hw hu H 9999
  refine⟨_,hb,fun w=> ?_⟩
  rcases hop with rfl|rfl<;>simp[ba,Hu,binOp,uc hr,bG,Hq]
 ·rename_i hu
  obtain⟨b,hb,hr⟩:=Ex hu H 9999
  refine⟨_,hb,fun w=> ?_⟩
  rcases hop with rfl|rfl<;>simp[ba,Ew,binOp,uc (hr _ _ _ _),bG,Hq]
 ·rename_i hu
  obtain⟨b,hb,hr⟩:=Hx hu H 9999
  refine⟨_,hb,fun w=> ?_⟩
  rcases hop with rfl|rfl<;>simp[ba,Hv,binOp,uc hr,bG,Hq]
 ·rename_i fs xs ys hu
  split at H
  ·rename_i b hfl hb
   simp only[Px,Bool.and_eq_true,Bool.not_eq_true'] at hfl
   obtain⟨⟨h1,h3⟩,h4⟩:=hfl
   have hr: ∀w,(Op.equalIn (9999+1) t (.agg xs) (.agg ys)).run P w= .ok b w:=CZ hu h1 h3 hb 9998
   refine⟨_,H,fun w=> ?_⟩
   rw[ba,C0 h4]
   rcases hop with rfl|rfl<;>simp only[binOp,ba,uc hr,bG,Hq]
  ·exact H.elim
 ·exact hf H
theorem MR {P:Program} {op:BinOp} {t:TypeId} {xo yo:Operand} {x y:Value} {fall:Prop} {K:Value→Prop}
 (hf:fall→ ∃v,K v∧ ∀w,(do eqGuard op t xo yo x y;binOp op t x y:Sem Value).run P w= .ok v w)
 (H:IY P op t yo x y fall K): ∃v,K v∧ ∀w,(do eqGuard op t xo yo x y;binOp op t x y:Sem Value).run P w= .ok v w:=by
 cases op
 case add=>
  simp only[IY] at H
  split at H
  ·obtain⟨h0,H⟩:=H
   refine⟨_,H,fun w=> ?_⟩
   have:=Int.not_lt.2 h0
   rename_i a b
   have e1:(eqGuard BinOp.add t xo yo (.string a) (.string b)).run P w= .ok () w:=rfl
   rw[ba,e1]
   simp only[binOp,Op.stringOp]
   rw[if_neg (by omega)]
   rfl
  ·exact hf H
 case eql=>exact Kk (.inl rfl) hf H
 case neq=>exact Kk (.inr rfl) hf H
 case quo=>
  simp only[IY] at H
  split at H
  ·exact hf H
  ·split at H
   ·split at H
    ·rename_i hk;subst hk
     obtain⟨h0,H⟩:=H
     refine⟨_,H,fun w=> ?_⟩
     simp[ba,oz,binOp,Op.intDiv,h0,bG]
    ·exact H.elim
   ·exact H.elim
 case rem=>
  simp only[IY] at H
  split at H
  ·exact hf H
  ·split at H
   ·split at H
    ·rename_i hk;subst hk
     obtain⟨h0,H⟩:=H
     refine⟨_,H,fun w=> ?_⟩
     simp[ba,oz,binOp,Op.intDiv,h0,bG]
    ·exact H.elim
   ·exact H.elim
 case shl=>
  simp only[IY] at H
  split at H
  ·exact hf H
  ·split at H
   ·obtain⟨h0,H⟩:=H
    refine⟨_,H,fun w=> ?_⟩
    have:=Int.not_lt.2 h0
    simp[ba,oz,binOp,Op.shift,this,bG]
   ·exact H.elim
 case shr=>
  simp only[IY] at H
  split at H
  ·exact hf H
  ·split at H
   ·obtain⟨h0,H⟩:=H
    refine⟨_,H,fun w=> ?_⟩
    have:=Int.not_lt.2 h0
    simp[ba,oz,binOp,Op.shift,this,bG]
   ·exact H.elim
 all_goals exact hf H
theorem zj {P:Program} {o:Oper} {tv:Operand→Tv} {K:Tv→Prop} (H:MC P o tv K):
 ∃x,K x∧ ∀w,(execOp (fun x=>(tv x).v) o).run P w= .ok (.value x.v) w:=by
 have fall:(Hp P (execOp (fun x=>(tv x).v) o) fun v=>K (.val v))→ ∃x,K x∧ ∀w,(execOp (fun x=>(tv x).v) o).run P w= .ok (.value x.v) w:=fun H=>by
  obtain⟨v,hv,hr⟩:=Fb H
  exact⟨.val v,hv,hr⟩
 obtain⟨dst,op,type,pos,after,guard⟩:=o
 unfold MC at H
 cases op<;>simp only at H
 case move x=>exact⟨_,H,fun w=>rfl⟩
 case assign x=>exact⟨_,H,fun w=>rfl⟩
 case pick c a b=>
  split at H
  ·rename_i hc;exact⟨_,H,fun w=>by simp[execOp,ba,hc,Tv.v,asBool,bG]⟩
  ·rename_i hc;exact⟨_,H,fun w=>by simp[execOp,ba,hc,Tv.v,asBool,bG]⟩
  ·rename_i x hc
   cases x with
   |true=>exact⟨_,H.1 rfl,fun w=>by simp[execOp,ba,hc,Tv.v,asBool,bG]⟩
   |false=>exact⟨_,H.2 rfl,fun w=>by simp[execOp,ba,hc,Tv.v,asBool,bG]⟩
  ·exact H.elim
 case nilCheck x=>
  unfold QL at H
  split at H
  ·rename_i p hp
   obtain⟨a,rfl,H⟩:=H
   exact⟨_,H,fun w=>by simp only[execOp,hp];rfl⟩
  ·rename_i f a b hp
   exact⟨_,H,fun w=>by simp only[execOp,hp];rfl⟩
  ·exact H.elim
 case indexAddr t x i=>
  obtain⟨v,hv,hr⟩:=Gf H
  exact⟨_,hv,fun w=>by simp only[execOp];rw[ba,hr w];rfl⟩
 case index t x i=>
  obtain⟨v,hv,hr⟩:=MP H
  exact⟨_,hv,fun w=>by simp only[execOp];rw[ba,hr w];rfl⟩
 case slice t x lo hi mx=>
  obtain⟨v,hv,hr⟩:=I5 H
  exact⟨_,hv,fun w=>by simp only[execOp];rw[ba,hr w];rfl⟩
 case binOp op t x y u=>
  have hb: ∃v,K (.val v)∧ ∀w,(do eqGuard op t x y (tv x).v (tv y).v;binOp op t (tv x).v (tv y).v:Sem Value).run P w= .ok v w:=by
   refine MR (K:=fun v=>K (.val v)) (fun hf=> ?_) H
   obtain⟨v,hv,hr⟩:=Fb hf
   refine⟨v,hv,fun w=> ?_⟩
   have:=hr w
   simp only[execOp,ba] at this ⊢
   cases h1:(eqGuard op t x y (tv x).v (tv y).v).run P w with
   |halt e w1=>simp[h1] at this
   |ok a w1=>
    simp only[h1] at this ⊢
    cases h2:(binOp op t (tv x).v (tv y).v).run P w1 with
    |halt e w2=>simp[h2] at this
    |ok b w2=>
     simp only[h2,bG] at this
     injection this with e1 e2
     injection e1 with e1
     rw[e1,e2]
  obtain⟨v,hv,hr⟩:=hb
  refine⟨_,hv,fun w=> ?_⟩
  have:=hr w
  simp only[execOp]
  rw[ba,this]
  rfl
 all_goals exact fall H
end Go.Sh
end
section
set_option linter.unusedVariables false
namespace Go.Sh
set_option linter.unusedSimpArgs false
theorem pJ {P:Program} {t:TypeId} {y:TypeId×TypeId×Value} (h:IZ P t=some y):P.underlying t=some (.map y.1 y.2.1)∧(∃k,P.underlying y.1=some (.int k))∧ ∃ti,P.info? y.2.1=some ti∧ti.zero=some y.2.2:=by
 unfold IZ at h
 split at h
 ·rename_i kt et ht
  split at h
  ·rename_i ti hk hi
   split at h
   ·rename_i z hz
    simp only[Option.some.injEq] at h
    subst h
    refine⟨ht,?_,ti,hi,hz⟩
    unfold Ki at hk
    split at hk
    ·rename_i k e;exact⟨k,e⟩
    ·cases hk
   ·cases h
  ·cases h
 ·cases h
theorem hY {P:Program} {kt:TypeId} {kk kk':IntKind} {n:Int} {e:Bool} {h:ae} {K:Unit→ae→Prop} (hk:P.underlying kt=some (.int kk')) (H:K () h):cB P (Instr.checkKey e 10000 kt (.int kk n)) h K:=by
 unfold Instr.checkKey
 simp only[aH,bF hk]
 exact H
theorem zZ {kk kk':IntKind} {n:Int}: ∀{es:List MapEntry} {i:Nat},(∀e∈es,∃a:Int,e.key= .int kk a)→Instr.findNow (.int kk') (.int kk n) es i=some (kJ n es i)
 |[],i,_=>rfl
 |e::es,i,ha=>by
  obtain⟨a,ea⟩:=ha e (by simp)
  have ih:=zZ (kk':=kk') (n:=n) (es:=es) (i:=i+1) fun x hx=>ha x (by simp[hx])
  simp only[Instr.findNow,Instr.sameNow,ea,kJ,eZ,if_true]
  cases hb:n==a with
  |true=>rfl
  |false=>exact ih
theorem ki {P:Program} {kt:TypeId} {kk kk':IntKind} {n:Int} {es:Array MapEntry} {h:ae} {K:Option (Nat×Value)→ae→Prop} (hk:P.underlying kt=some (.int kk')) (ha:Lb kk es) (H:K (kJ n es.toList 0) h):cB P (Instr.findKey kt (.int kk n) es.toList) h K:=by
 unfold Instr.findKey
 simp only[aH,bF hk,zZ ha]
 exact H
theorem wg {P:Program} {t:TypeId} {ti:TypeInfo} {z:Value} {h:ae} {K:Value→ae→Prop} (hi:P.info? t=some ti) (hz:ti.zero=some z) (H:K z h):cB P (zeroValue t) h K:=by
 unfold zeroValue
 simp only[aH,dP hi,hz]
 exact H
theorem fa {P:Program} {r:Nat} {o:Obj} {h:ae} {K:Obj→ae→Prop} (ho:h[r]? =some o) (hc:mB o=false) (H:K o h):cB P (getObj r) h K:=⟨o,ho,hc,H⟩
theorem gD {P:Program} {r:Nat} {o u:Obj} {h:ae} {K:Unit→ae→Prop} (ho:h[r]? =some u) (hc:mB u=false) (H:K () (h.setIfInBounds r o)):cB P (setObj r o) h K:=⟨u,ho,hc,H⟩
theorem I7 {P:Program} {t:TypeId} {x ix:Value} {ok:Bool} {h:ae} {K:Value→ae→Prop} (H:MJ P t x ix ok h K):cB P (Instr.lookup t x ix ok) h K:=by
 unfold MJ at H
 split at H
 ·rename_i y m kk n hy
  obtain⟨ht,⟨k,hk⟩,ti,hi,hz⟩:=pJ hy
  unfold Instr.lookup
  simp only[aH,bF ht]
  unfold lG Kj at H
  cases m with
  |none=>
   obtain⟨ha,H⟩:=H
   simp only[aH,bA]
   refine hY hk (ki (es:= #[]) hk ha ?_)
   cases hf:kJ n (#[]:Array MapEntry).toList 0 with
   |some x=>
    rw[hf] at H
    simp only[bA,aH]
    cases ok<;>exact H
   |none=>
    rw[hf] at H
    simp only[aH]
    refine wg hi hz ?_
    simp only[bA]
    cases ok<;>exact H
  |some r=>
   obtain⟨es,c,hr,ha,H⟩:=H
   simp only[aH]
   refine fa hr rfl ?_
   simp only[aH,bA]
   refine hY hk (ki hk ha ?_)
   cases hf:kJ n es.toList 0 with
   |some x=>
    rw[hf] at H
    simp only[bA,aH]
    cases ok<;>exact H
   |none=>
    rw[hf] at H
    simp only[aH]
    refine wg hi hz ?_
    simp only[bA]
    cases ok<;>exact H
 ·exact H.elim
theorem vx {P:Program} {kk:IntKind} {a n:Int} {h:ae} {K:Value→ae→Prop} (hn:n=a) (H:K (.int kk n) h):cB P (Instr.keyThatStays (.int kk a) (.int kk n)) h K:=by
 subst hn
 unfold Instr.keyThatStays
 simp only[Instr.sameBits,beq_self_eq_true,Bool.and_self,if_true]
 exact H
theorem Fc {n:Int}: ∀{es:List MapEntry} {i j:Nat} {v:Value},kJ n es i=some (j,v)→ ∃e:MapEntry,i≤j∧es[j-i]? =some e∧eZ n e=true∧e.val=v
 |[],_,_,_,h=>by simp[kJ] at h
 |e::es,i,j,v,h=>by
  simp only[kJ] at h
  split at h
  ·rename_i hk
   simp only[Option.some.injEq,Prod.mk.injEq] at h
   obtain⟨rfl,rfl⟩:=h
   exact⟨e,Nat.le_refl _,by simp,hk,rfl⟩
  ·obtain⟨e',h1,h2,h3,h4⟩:=Fc h
   exact⟨e',by omega,by rw[show j-i=(j-(i+1))+1 by omega];exact h2,h3,h4⟩
theorem Hz {kk:IntKind} {n:Int} {es:Array MapEntry} {j:Nat} {v:Value} (ha:Lb kk es) (h:kJ n es.toList 0=some (j,v)):((es[j]?).map (·.key)).getD (.int kk n)= .int kk n:=by
 obtain⟨e,_,h2,h3,_⟩:=Fc h
 obtain⟨a,ea⟩:=ha e (List.mem_of_getElem? h2)
 have:es[j]? =some e:=by simpa using h2
 rw[this]
 simp only[Option.map_some,Option.getD_some,ea]
 simp only[eZ,ea,beq_iff_eq] at h3
 rw[h3]
theorem Fd {P:Program} {t:TypeId} {m k v:Value} {h:ae} {K:ae→Prop} (H:Ox P t m k v h K):cB P (Instr.mapUpdate t m k v) h fun _ h'=>K h':=by
 unfold Ox at H
 split at H
 ·rename_i y m kk n hy
  obtain⟨ht,⟨k,hk⟩,ti,hi,hz⟩:=pJ hy
  unfold Instr.mapUpdate
  simp only[aH,bF ht]
  unfold updB at H
  cases m with
  |none=>exact H.elim
  |some r=>
   obtain⟨es,c,hr,ha,H⟩:=H
   simp only[aH]
   refine fa hr rfl ?_
   simp only[aH]
   refine hY hk (ki hk ha ?_)
   unfold PV at H
   cases hf:kJ n es.toList 0 with
   |some x=>
    rw[hf] at H
    simp only[aH]
    have:=Hz ha hf
    rw[this]
    exact vx rfl (gD hr rfl H)
   |none=>
    rw[hf] at H
    exact gD hr rfl H
 ·exact H.elim
theorem Lc {P:Program} {t:TypeId} {ty:TypeId} {r:List TypeId} {m k:Value} {h:ae} {K:ae→Prop} (H:PY P t m k h K):cB P (Builtin.delete_ (t::r).toArray ty #[m,k]) h fun v h'=>v= .tuple #[]∧K h':=by
 unfold PY at H
 split at H
 ·rename_i y m kk n hy
  obtain⟨ht,⟨k,hk⟩,ti,hi,hz⟩:=pJ hy
  unfold Builtin.delete_
  simp only[List.getElem?_toArray,List.getElem?_cons_zero,List.getElem?_cons_succ,aH,bF ht]
  unfold MG at H
  cases m with
  |none=>
   dsimp only
   simp only[aH]
   refine hY hk ?_
   exact⟨rfl,H⟩
  |some r=>
   obtain⟨es,c,hr,ha,H⟩:=H
   simp only[aH]
   refine fa hr rfl ?_
   simp only[aH]
   refine hY hk (ki hk ha ?_)
   unfold PW at H
   cases hf:kJ n es.toList 0 with
   |some x=>rw[hf] at H;dsimp only;simp only[aH];refine gD hr rfl ?_;exact⟨rfl,H⟩
   |none=>rw[hf] at H;dsimp only;simp only[aH];refine gD hr rfl ?_;exact⟨rfl,H⟩
 ·exact H.elim
theorem Ld {P:Program} {t:TypeId} {m k:Value} {h:ae} {K:Value→ae→Prop} (H:PZ P t m k h K):cB P (Instr.mapEntry t m k) h K:=by
 unfold PZ at H
 split at H
 ·rename_i y m kk n hy
  obtain⟨ht,⟨k,hk⟩,ti,hi,hz⟩:=pJ hy
  unfold Instr.mapEntry
  simp only[aH,bF ht]
  unfold QO at H
  cases m with
  |none=>exact H.elim
  |some r=>
   obtain⟨es,c,hr,ha,H⟩:=H
   simp only[aH]
   refine fa hr rfl ?_
   simp only[aH]
   refine hY hk (ki hk ha ?_)
   cases hf:kJ n es.toList 0 with
   |some x=>
    rw[hf] at H
    simp only[aH]
    have:=Hz ha hf
    rw[this]
    refine vx rfl (gD hr rfl ?_)
    have e1:(Option.map (fun e:MapEntry=>(e.born:Int)) es[x.1]?).getD 0=(((Option.map (·.born) es[x.1]?).getD 0:Nat):Int):=by cases es[x.1]? <;>rfl
    show K (.tuple #[x.2,.int .i64 ((Option.map (fun e:MapEntry=>(e.born:Int)) es[x.1]?).getD 0)]) _
    rw[e1]
    exact H
   |none=>
    rw[hf] at H
    simp only[aH]
    exact wg hi hz (gD hr rfl H)
 ·exact H.elim
theorem HA {P:Program} {t:TypeId} {m b v:Value} {h:ae} {K:ae→Prop} (H:I1 m b v h K):cB P (Instr.entryStore t m b v) h fun _ h'=>K h':=by
 unfold I1 at H
 split at H
 ·rename_i m b
  unfold MH at H
  cases m with
  |none=>exact H.elim
  |some r=>
   obtain⟨es,c,i,hr,hi,H⟩:=H
   unfold Instr.entryStore
   simp only[aH]
   refine fa hr rfl ?_
   simp only[aH,asInt,asIntOf,bA]
   rw[hi]
   exact gD hr rfl H
 ·exact H.elim
theorem HB {P:Program} {t:TypeId} {x:Value} {h:ae} {K:Value→ae→Prop} (H:I3 P t x h K):cB P (Instr.range t x) h K:=by
 unfold I3 at H
 split at H
 ·rename_i y m hy
  obtain⟨ht,⟨k,hk⟩,ti,hi,hz⟩:=pJ hy
  unfold Instr.range
  simp only[aH,bF ht]
  unfold MI Kj at H
  cases m with
  |none=>exact H
  |some r=>
   obtain⟨es,c,hr,H⟩:=H
   simp only[aH]
   exact fa hr rfl H
 ·exact H.elim
theorem HC {P:Program} {it:Value} {h:ae} {K:Int→Value→Prop} (H:I4 it h K) {K':Value→ae→Prop} (hK: ∀k v,K k v→K' (.tuple #[.int .i64 k,v]) h):cB P (Instr.entry it) h K':=by
 unfold I4 at H
 split at H
 ·rename_i a
  obtain⟨h0,r,since,seen,c,es,hr,hm,b,e,n,hb,he,hk,H⟩:=H
  obtain⟨blk,off,spot⟩:=a
  dsimp only at h0 hr
  subst h0
  unfold Instr.entry
  simp only[aH]
  refine fa hr rfl ?_
  simp only[hb,aH]
  refine fa hm rfl ?_
  simp only[bne_self_eq_false,Bool.false_eq_true,if_false,he,hk,aH,bA]
  exact hK _ _ H
 ·exact H.elim
theorem I8 {P:Program} {ty:TypeId} {it:Value} {h:ae} {over:ae→Prop} {K:Value→Value→ae→Prop} (H:MK it h over K) {K':Value→ae→Prop} (ho: ∀h',over h'→K' (.tuple #[.bool false]) h') (hK: ∀k v h',K k v h'→K' (.tuple #[.bool true,k,v]) h'):
 cB P (Instr.next it false ty) h K':=by
 unfold MK at H
 split at H
 ·rename_i a
  obtain⟨h0,m,since,seen,last,hr,H⟩:=H
  obtain⟨blk,off,spot⟩:=a
  dsimp only at h0 hr H
  subst h0
  unfold Instr.next
  simp only[aH]
  refine fa hr rfl ?_
  cases m with
  |none=>exact ho _ H
  |some r=>
   dsimp only at H
   obtain⟨es,c,hm,rfl,hl,hb,hover,hK2⟩:=H
   subst hl
   simp only[aH]
   refine fa hm rfl ?_
   have hno:(!seen.isEmpty&& !es.isEmpty&&es.all fun x=>decide (x.born≥last))=false:=by
    cases he:es.isEmpty with
    |true=>simp
    |false=>
     have hne:es≠ #[]:=by intro e;rw[e] at he;simp at he
     have hall:(es.all fun x=>decide (x.born≥last))=false:=by
      rw[Bool.eq_false_iff]
      intro hall
      rw[Array.all_eq_true] at hall
      have hs:0<es.size:=Array.size_pos_iff.2 hne
      have h1:=hall 0 hs
      have h2:=hb es[0] (by simp)
      simp at h1;omega
     rw[hall];simp
   dsimp only
   rw[if_neg (by rw[hno];simp)]
   simp only[aH,bA]
   have hnew:(Array.filter (fun e=>decide (e.born≥last)) (Array.filter (fun e=> !seen.contains e.born) es))= #[]:=by
    apply Array.filter_eq_empty_iff.2
    intro e he
    have:=(Array.mem_filter.1 he).1
    have:=hb e (Array.mem_toList_iff.2 this)
    simp;omega
   have hold:(Array.filter (fun e=>decide (e.born<last)) (Array.filter (fun e=> !seen.contains e.born) es))=Array.filter (fun e=> !seen.contains e.born) es:=by
    apply Array.filter_eq_self.2
    intro e he
    have:=(Array.mem_filter.1 he).1
    have:=hb e (Array.mem_toList_iff.2 this)
    simp;omega
   rw[hnew,hold,Array.append_empty]
   generalize hL:Array.filter (fun e=> !seen.contains e.born) es=L
   have hmem: ∀e∈L,e∈es.toList∧seen.contains e.born=false:=fun e he=>by
    rw[←hL] at he
    have:=Array.mem_filter.1 he
    exact⟨Array.mem_toList_iff.2 this.1,by simpa using this.2⟩
   have pick: ∀i:Nat,i<(((if L.isEmpty then #[none] else #[]):Array (Option MapEntry))++L.map some).size→
    cB P (match(((if L.isEmpty then #[none] else #[]):Array (Option MapEntry))++L.map some)[i]? with
     |some (some e)=>do
      setObj blk (.mapIter (some r) last (seen.push e.born) last)
      pure (.tuple #[.bool true,e.key,e.val])
     |some none=>pure (.tuple #[.bool false])
     |none=>stuck "Next: no such candidate") h K':=by
    intro i hi
    cases hLe:L.isEmpty with
    |true=>
     have e0:L= #[]:=Array.isEmpty_iff.1 hLe
     subst e0
     simp at hi
     subst hi
     have e1:((((if(#[]:Array MapEntry).isEmpty then #[none] else #[]):Array (Option MapEntry))++Array.map some #[])[0]? :Option (Option MapEntry))=some none:=by simp
     simp only[hLe] at e1 ⊢
     rw[e1]
     refine ho h (hover fun e he=> ?_)
     cases hc:seen.contains e.born with
     |true=>rfl
     |false=>
      have:e∈Array.filter (fun e=> !seen.contains e.born) es:=Array.mem_filter.2 ⟨Array.mem_toList_iff.1 he,by rw[hc];rfl⟩
      rw[hL] at this
      simp at this
    |false=>
     simp only[hLe,Bool.false_eq_true,if_false,Array.empty_append,Array.size_map] at hi ⊢
     rw[Array.getElem?_map,Array.getElem?_eq_getElem hi]
     simp only[Option.map_some,aH]
     have hm2:=hmem L[i] (Array.getElem_mem hi)
     exact gD hr rfl (hK _ _ _ (hK2 _ hm2.1 hm2.2))
   have hpos:0<(((if L.isEmpty then #[none] else #[]):Array (Option MapEntry))++L.map some).size:=by
    cases hLe:L.isEmpty with
    |true=>
     have e0:L= #[]:=Array.isEmpty_iff.1 hLe
     rw[e0];simp
    |false=>
     have:L≠ #[]:=fun e=>by rw[e] at hLe;simp at hLe
     have:=Array.size_pos_iff.2 this
     simp;exact this
   generalize (((if L.isEmpty then #[none] else #[]):Array (Option MapEntry))++L.map some)=C at pick hpos ⊢
   unfold choose
   simp only[cB]
   split
   ·exact pick 0 hpos
   ·rename_i hq
    intro t
    refine pick _ ?_
    simp only[Question.forced,decide_eq_true_eq,Nat.not_le] at hq
    exact Nat.mod_lt _ (by omega)
 ·exact H.elim
end Go.Sh
end
section
set_option linter.unusedVariables false
namespace Go.Sh
set_option linter.unusedSimpArgs false
def Oe (P:Program) (s:Sem Next) (h:ae) (K:Value→ae→Prop):Prop:=
 ∀w:World,w.heap=h→match s.run P w with
  | .ok (.value v) w'=>Fr w w'∧K v w'.heap
  | .ok .skip w'=>Fr w w'∧K undef w'.heap
  | .ok (.enter f args) w'=>Fr w w'∧Calls P f args w' fun e w''=> ∃v,e= .returned v∧Fr w' w''∧K v w''.heap
  | .ok (.round l f tmps assign body) w'=>Fr w w'∧RoundIn Fence.wide 0 P l f tmps assign body w' fun e w''=> ∃v,e= .returned v∧Fr w' w''∧K v w''.heap
  |_=>False
theorem Oe.mono {P:Program} {s:Sem Next} {h:ae} {K K':Value→ae→Prop} (H:Oe P s h K) (hk: ∀v h',K v h'→K' v h'):Oe P s h K':=by
 intro w hw
 have:=H w hw
 cases hr:s.run P w with
 |halt e w'=>rw[hr] at this;exact this.elim
 |ok nx w'=>
  rw[hr] at this
  cases nx<;>simp only at this ⊢ <;>try exact this.elim
  ·exact⟨this.1,hk _ _ this.2⟩
  ·exact⟨this.1,hk _ _ this.2⟩
  ·exact⟨this.1,this.2.mono fun _ _ ⟨v,e,f,k⟩=>⟨v,e,f,hk _ _ k⟩⟩
  ·exact⟨this.1,this.2.mono fun _ _ ⟨v,e,f,k⟩=>⟨v,e,f,hk _ _ k⟩⟩
theorem zk {P:Program} {o:Oper} {tv:Operand→Tv} {h:ae} {K:Tv→Prop} (H:MM P o tv h K):
 ∃x,K x∧ ∀w:World,dY h w.heap→(execOp (fun x=>(tv x).v) o).run P w= .ok (.value x.v) w:=by
 obtain⟨dst,op,type,pos,after,guard⟩:=o
 unfold MM at H
 cases op<;>simp only at H<;>try exact H.elim
 rename_i t a
 split at H
 ·rename_i ad ha
  obtain⟨v,hv,hr⟩:=Fa H
  refine⟨_,hv,fun w hw=> ?_⟩
  simp only[execOp,Instr.loadAt,Instr.sureAddr,ba,ha,bG,hr w hw];rfl
 ·exact H.elim
theorem HD {P:Program} {s:Sem Next} {h:ae} {K:Tv→ae→Prop} (H:oS P s h K):Oe P s h fun v h'=> ∃x:Tv,x.v=v∧K x h':=by
 intro w hw
 obtain⟨a,w',hr,hf,hk⟩:=Hm P s h _ H w hw
 rw[hr]
 cases a<;>simp only at hk ⊢ <;>first|exact⟨hf,_,rfl,hk⟩|exact hk.elim
theorem I9 {P:Program} {s:Sem Next} {h:ae} {K:Tv→ae→Prop} (H:Ge P s h K):Oe P s h fun v h'=> ∃x:Tv,x.v=v∧K x h':=by
 unfold Ge at H
 split at H
 ·rename_i v h' hr
  have:=E7 P s hr (fun nx h'=>match nx with| .value v=>K (.val v) h'| .skip=>K (.val undef) h'|_=>False) H
  exact HD this
 ·exact H.elim
theorem Ja (P:Program): ∀(n:Nat) (h:ae) (a:Addr) (i:Nat) (vs:List Value),Hs h a i n vs→ ∀(acc:Array Value) (K:Array Value→ae→Prop),K (acc++vs.toArray) h→
 cB P (loadCellsFrom a i n acc) h K:=by
 intro n
 induction n with
 |zero=>intro h a i vs H acc K hk;simp only[Hs] at H;subst H;exact(by simpa using hk:K acc h)
 |succ n ih=>
  intro h a i vs H acc K hk
  obtain⟨v,r,hv,hr,rfl⟩:=H
  simp only[loadCellsFrom,aH,load,cB]
  refine⟨v,hv,ih h a (i+1) r hr (acc.push v) K ?_⟩
  simpa using hk
theorem nk {P:Program} {h:ae} {a:Option Addr} {size n l c:Nat} {vs:List Value} (H:readO h a (n*size) vs) {K:Array Value→ae→Prop} (hk:K vs.toArray h):
 cB P (Builtin.firstCells size n (.slice a l c)) h K:=by
 cases a with
 |none=>simp only[readO] at H;subst H;exact hk
 |some a=>exact Ja P _ _ _ _ _ H #[] K (by simpa using hk)
theorem Gg {P:Program} {t u ty e:TypeId} {x:Value} {base:Option Addr} {len cap:Nat} {h:ae} {K:Value→ae→Prop} {ti:TypeInfo} {d:TypeDesc}
 (hn: ∀k,d≠ .int k) (hd:P.underlying u=some d) (ht:P.underlying t=some (.slice e)) (hti:P.info? e=some ti)
 (H:cB P (do
  let n←Builtin.lenOf x
  let need:=len+n
  if need≤cap then
   let new←Builtin.firstCells ti.size n x
   if let some a:=base then storeCells (a.add (len*ti.size)) new.toList
   pure (Value.slice base need cap)
  else
   if(need:Int)>IntKind.i64.max∧(False∨ti.bytes=0) then stuck ""
   if Builtin.nextslicecap need cap*ti.bytes>2 ^ 48 then stuck ""
   let newCap←choose (.appendCap need cap e)
   askRoom (newCap*ti.bytes)
   let old←Builtin.firstCells ti.size len (.slice base len cap)
   let new←Builtin.firstCells ti.size n x
   let z←zeroValue e
   pure (.slice (some (←newRow e (old++new++Builtin.zeroCells z.cells (newCap-need)))) need newCap)) h K):
 cB P (Builtin.append_ #[t,u] ty #[.slice base len cap,x]) h K:=by
 cases d<;>first
  |exact absurd rfl (hn _)
  |(simp only[Builtin.append_,List.getElem?_toArray,List.getElem?_cons_zero,List.getElem?_cons_succ,aH,bF ht,ox hti,bF hd,bA,Bool.false_eq_true,if_false,Bool.not_false,if_true] at H ⊢
    refine pI P _ _ H fun n h' H=> ?_
    split
    ·rename_i hle;rw[if_pos hle] at H;exact H
    ·rename_i hle
     rw[if_neg hle] at H
     simp only[aH,dP hti] at H ⊢
     split at H
     ·simp only[aH] at H;exact H.elim
     ·rename_i h1
      rw[if_neg (by simpa using h1)]
      simp only[bA,aH,dP hti] at H ⊢
      split at H
      ·simp only[aH] at H;exact H.elim
      ·rename_i h2
       rw[if_neg h2]
       simpa only[bA,aH,dP hti] using H)
theorem Gh {P:Program} (m:Nat) (h:ae) (K:PUnit→ae→Prop) (hk:K ⟨⟩ h):cB P (askRoom m) h K:=by
 unfold askRoom;split<;>exact hk
theorem Le {P:Program} {t u:TypeId} {ty:TypeId} {s x:Value} {h:ae} {K:Value→ae→Prop} (hu:PS P u=true) (H:PU P t s x h K):
 cB P (Builtin.append_ #[t,u] ty #[s,x]) h K:=by
 obtain⟨d,hd,hni⟩: ∃d,P.underlying u=some d∧ ∀k,d≠ .int k:=by
  unfold PS at hu
  split at hu
  ·rename_i e he;exact⟨_,he,fun k=>by simp⟩
  ·cases hu
 unfold PU at H
 split at H
 ·rename_i e base len cap b n c' ht
  split at H
  ·rename_i ti hti
   split at H
   ·rename_i z hz
    unfold MD at H
    obtain⟨ys,hys,h1,h2⟩:=H
    have hz': ∀h' (K':Value→ae→Prop),cB P (zeroValue e) h' K'↔K' z h':=by
     intro h' K'
     simp only[zeroValue,aH,dP hti,hz];rfl
    refine Gg hni hd ht hti ?_
    simp only[Builtin.lenOf,aH,bA]
    by_cases hle:len+n≤cap
    ·rw[if_pos hle]
     simp only[aH]
     refine nk hys ?_
     cases base with
     |none=>exact h1 hle
     |some a=>
      have:=h1 hle
      try simp only[aH]
      exact oy P _ _ _ _ _ this
    ·rw[if_neg hle]
     obtain⟨hb,hcap,xs,hxs,hk⟩:=h2 (by omega)
     rw[if_neg (by simp[hb])]
     try simp only[bA,aH]
     rw[if_neg (by omega)]
     simp only[bA,aH,choose,cB,Question.forced,Bool.false_eq_true,if_false]
     intro tape
     refine Gh _ _ _ ?_
     refine nk hxs ?_
     refine nk hys ?_
     rw[hz']
     simp only[newRow,newObj,aH,cB,bA]
     have:=hk (Question.cut (.appendCap (len+n) cap e) tape) (by simp only[Question.cut];omega)
     have e2: ∀Z:Array Value,(xs++ys++Z.toList).toArray=xs.toArray++ys.toArray++Z:=fun Z=>by apply Array.ext';simp
     rw[e2] at this
     exact this
   ·exact H.elim
  ·exact H.elim
 ·exact H.elim
theorem MS {P:Program} {t:TypeId} {l c:Value} {h:ae} {K:Value→ae→Prop} (H:Rt P t l c h K):cB P (Instr.makeSlice t l c) h K:=by
 unfold Rt at H
 split at H
 ·rename_i e k1 l k2 c ht
  split at H
  ·rename_i ti hti
   split at H
   ·rename_i z hz
    unfold R7 at H
    obtain⟨h0,h1,h2,h3,h4,hk⟩:=H
    have hz': ∀h' (K':Value→ae→Prop),cB P (zeroValue e) h' K'↔K' z h':=by
     intro h' K'
     simp only[zeroValue,aH,dP hti,hz];rfl
    have wl:IntKind.i64.wrap l=l:=by simp only[IntKind.wrap,IntKind.bits,IntKind.signed];simp;omega
    have wc:IntKind.i64.wrap c=c:=by simp only[IntKind.wrap,IntKind.bits,IntKind.signed];simp;omega
    simp only[Instr.makeSlice,aH,bF ht,asInt,asIntOf,bA,dP hti,wl,wc]
    rw[if_neg (by simp;omega)]
    have hask: ∀(m:Nat) (h':ae) (K':PUnit→ae→Prop),K' ⟨⟩ h'→cB P (askRoom m) h' K':=by
     intro m h' K' hk'
     unfold askRoom
     split<;>exact hk'
    simp only[bA,aH]
    refine hask _ _ _ ?_
    simp only[ox hti]
    by_cases hn:c.toNat*ti.size=0
    ·rw[if_pos hn]
     simp only[bA,newRow,newObj,aH,cB]
     rw[hn] at hk ⊢
     have e0: ∀f:Nat→Value,(Array.range 0).map f= #[]:=fun f=>by simp
     rw[e0] at hk ⊢
     exact hk
    ·rw[if_neg hn]
     simp only[aH,hz',bA,newRow,newObj,cB]
     exact hk
   ·exact H.elim
  ·exact H.elim
 ·exact H.elim
theorem MT {P:Program} {t u ty:TypeId} {s x:Value} {h:ae} {K:Value→ae→Prop} (H:Ru P t s x h K):cB P (Builtin.copy_ #[t,u] ty #[s,x]) h K:=by
 unfold Ru at H
 split at H
 ·rename_i e base len c b n c' ht
  split at H
  ·rename_i ti hti
   obtain⟨ys,hys,H⟩:=H
   simp only[Builtin.copy_,List.getElem?_toArray,List.getElem?_cons_zero,List.getElem?_cons_succ,aH,bF ht,ox hti,bA,Builtin.lenOf]
   refine nk hys ?_
   cases base with
   |none=>exact H
   |some a=>
    try simp only[aH]
    exact oy P _ _ _ _ _ H
  ·exact H.elim
 ·exact H.elim
theorem C1 {P:Program} {e:TypeId} {ti:TypeInfo} {z:Value} (hti:P.info? e=some ti) (hz:ti.zero=some z) (h':ae) (K':Value→ae→Prop):cB P (zeroValue e) h' K'↔K' z h':=by
 simp only[zeroValue,aH,dP hti,hz];rfl
theorem MU {P:Program} {t ty:TypeId} {s:Value} {h:ae} {K:Value→ae→Prop} (H:Rw P t s h K):cB P (Builtin.clear_ #[t] ty #[s]) h K:=by
 unfold Rw at H
 split at H
 ·rename_i e base len c ht
  split at H
  ·rename_i ti hti
   split at H
   ·rename_i z hz
    unfold Rv at H
    cases base with
    |none=>
     simp only[Builtin.clear_,List.getElem?_toArray,List.getElem?_cons_zero,aH,bF ht,bA]
     exact H
    |some a=>
     cases len with
     |zero=>
      simp only[Builtin.clear_,List.getElem?_toArray,List.getElem?_cons_zero,aH,bF ht,bA]
      exact H.1 rfl
     |succ n=>
      simp only[Builtin.clear_,List.getElem?_toArray,List.getElem?_cons_zero,aH,bF ht,bA,C1 hti hz]
      exact oy P _ _ _ _ _ (H.2 (by simp))
   ·exact H.elim
  ·exact H.elim
 ·exact H.elim
theorem Fe {P:Program} (f:Value→ByteArray→Sem (ForInStep ByteArray))
 (hf: ∀(b:UInt8) (r:ByteArray) (h:ae) (K:ForInStep ByteArray→ae→Prop),K (.yield (r.push b)) h→cB P (f (.int .u8 b.toNat) r) h K): ∀(ys:List UInt8) (s:ByteArray) (h:ae) (K:ByteArray→ae→Prop),
 K ⟨(s.data.toList++ys).toArray⟩ h→cB P (forIn (ys.map fun b=>Value.int .u8 (b.toNat:Int)) s f) h K
 |[],s,h,K,hk=>by
  rw[List.map_nil,List.forIn_nil]
  have:(⟨(s.data.toList++[]).toArray⟩:ByteArray)=s:=by simp
  rw[this] at hk;exact hk
 |b::ys,s,h,K,hk=>by
  rw[List.map_cons,List.forIn_cons,aH]
  refine hf b s h _ ?_
  refine Fe f hf ys (s.push b) h K ?_
  simpa[ByteArray.push] using hk
theorem Jb {P:Program} {src dst:TypeId} {x:Value} {h:ae} {fall:Prop} {K' K:Value→ae→Prop} (hf:fall→cB P (convert src dst x) h K) (hK: ∀v h',K' v h'→K v h') (H:MF P src dst x h fall K'):
 cB P (convert src dst x) h K:=by
 unfold MF at H
 split at H
 ·rename_i e a n c hs hd
  split at H
  ·rename_i he
   obtain⟨ys,hys,hk⟩:=H
   replace hk:=hK _ _ hk
   have hread:=nk (P:=P) (size:=1) (n:=n) (l:=n) (c:=c) (by rw[Nat.mul_one];exact hys)
    (K:=fun cs h'=>cB P (do let mut s:=ByteArray.empty
                            for c in cs do
                             let .int .u8 n:=c|stuck "bytesToString: byte expected"
                             s:=s.push (UInt8.ofNat n.toNat)
                            pure (Value.string s)) h' K) (by
     simp only[aH,List.forIn_toArray]
     refine Fe _ (fun b r h K hk=> ?_) ys _ _ _ ?_
     ·have:UInt8.ofNat ((b.toNat:Int)).toNat=b:=by simp
      simp only[this];exact hk
     ·exact hk)
   simp only[convert,aH,bF hs,bF hd,bF he,Conv.bytesToString]
   cases a with
   |none=>
    simp only[readO,List.map_eq_nil_iff] at hys
    subst hys
    exact hk
   |some a=>
    simp only[Builtin.firstCells,Nat.mul_one,aH] at hread
    dsimp only
    simp only[aH]
    exact hread
  ·exact H.elim
 ·rename_i e s hs hd
  split at H
  ·rename_i he
   simp only[convert,aH,bF hs,bF hd,bF he,Conv.stringToBytes,choose,cB,Question.forced,Bool.false_eq_true,if_false,newRow,newObj,bA,markStringish,shape]
   intro tape
   have hc:s.size≤Question.cut (.appendCap s.size 0 e) tape:=by simp only[Question.cut];omega
   have:=hK _ _ (H _ hc)
   have hsh: ∀o:Array Value,Gc (h.push (.cells o e)) h.size=some (e,o.size):=fun o=>by simp[Gc]
   simp only[hsh,aH,freeze,cB,bA]
   have hsz: ∀c,s.size≤c→(s.data.map (fun b=>Value.int .u8 (b.toNat:Int))++Array.replicate (c-s.size) (Value.int .u8 0)).size=c:=fun c hc=>by
    simp only[Array.size_append,Array.size_map,Array.size_replicate]
    have:s.data.size=s.size:=rfl
    omega
   rw[hsz _ hc]
   have e3: ∀(o:Array Value) (n:Nat),xM (h.push (.cells o e)) ⟨h.size,n,none⟩ 1=h.push (.cells o e (n,n+1)):=fun o n=>by
    simp only[xM,Nat.one_ne_zero,if_false]
    apply Array.ext
    ·simp
    ·intro i h1 h2
     simp only[Array.getElem_modify,Array.getElem_push]
     simp only[Array.size_modify,Array.size_push] at h1
     by_cases hi:h.size=i
     ·subst hi;simp
     ·rw[if_neg hi,dif_pos (by omega),dif_pos (by omega)]
   rw[e3]
   exact this
  ·exact H.elim
 ·exact hf H
theorem jy {ρ:Operand→Value} {c:Call} {type:TypeId} {b:Builtin} (hc:c.callee= .builtin b):
 ∃cs,resolve ρ c type=pure {target:= .builtin b c.argTypes type cs,args:=c.args.map ρ}:=by
 unfold resolve;simp only[hc];exact⟨_,rfl⟩
theorem MV {P:Program} {o:Oper} {tv:Operand→Tv} {c:Call} {f:Operand} {g:FuncId} {first captured:Array Value} {h:ae} {K:Tv→ae→Prop}
 (ho:o.op= .call c) (hc:c.callee= .value f) (hf:(tv f).v= .func (.func g) first captured)
 (H:aq P g (first.toList++c.args.toList.map (fun x=>(tv x).v)++captured.toList).toArray h fun v h'=>xO P o.type v fun x=>K (.val x) h'):
 Oe P (execOp (fun x=>(tv x).v) o) h fun v h'=> ∃x:Tv,x.v=v∧K x h':=by
 intro w hw
 have e1:(first.toList++c.args.toList.map (fun x=>(tv x).v)++captured.toList).toArray=(first++c.args.map (fun x=>(tv x).v))++captured:=by
  apply Array.ext';simp
 rw[e1] at H
 have e2:(execOp (fun x=>(tv x).v) o).run P w= .ok (.enter g ((first++c.args.map (fun x=>(tv x).v))++captured)) w:=by
  obtain⟨dst,op,type,pos,after,guard⟩:=o
  subst ho
  simp only[execOp,resolve,hc,Deferred.ofValue,hf,ba,bG,invoke]
  exact H.1 w
 rw[e2]
 refine⟨Fr.refl w,(H.2 w hw).mono ?_⟩
 rintro e w' ⟨v,he,hfr,hk⟩
 exact⟨v,he,hfr,_,rfl,kI hk⟩
theorem Lf {P:Program} {o:Oper} {tv:Operand→Tv} {c:Call} {f:Operand} {l:Nat} {first captured:Array Value} {h:ae} {K:Tv→ae→Prop}
 (ho:o.op= .call c) (hc:c.callee= .value f) (hf:(tv f).v= .func (.yield l) first captured)
 (H:wd P l (first.toList++c.args.toList.map (fun x=>(tv x).v)).toArray h fun v h'=>xO P o.type v fun x=>K (.val x) h'):
 Oe P (execOp (fun x=>(tv x).v) o) h fun v h'=> ∃x:Tv,x.v=v∧K x h':=by
 intro w hw
 have e1:(first.toList++c.args.toList.map (fun x=>(tv x).v)).toArray=first++c.args.map (fun x=>(tv x).v):=by
  apply Array.ext';simp
 rw[e1] at H
 obtain⟨fn,tmps,assign,body,hy,hround⟩:=H w hw
 have e2:(execOp (fun x=>(tv x).v) o).run P w= .ok (.round l fn tmps assign body) w:=by
  obtain⟨dst,op,type,pos,after,guard⟩:=o
  subst ho
  simp only[execOp,resolve,hc,Deferred.ofValue,hf,ba,bG,invoke]
  exact hy
 rw[e2]
 refine⟨Fr.refl w,hround.mono ?_⟩
 rintro e w' ⟨v,he,hfr,hk⟩
 exact⟨v,he,hfr,_,rfl,kI hk⟩
theorem Lg {P:Program} {o:Oper} {tv:Operand→Tv} {h:ae} {K:Tv→ae→Prop} (H:ML P o tv h K):
 Oe P (execOp (fun x=>(tv x).v) o) h fun v h'=> ∃x:Tv,x.v=v∧K x h':=by
 have gen:oS P (execOp (fun x=>(tv x).v) o) h K→Oe P (execOp (fun x=>(tv x).v) o) h fun v h'=> ∃x:Tv,x.v=v∧K x h':=HD
 dsimp only[ML] at H
 split at H
 ·rename_i t a x ho
  split at H
  ·rename_i ad ha
   refine gen ?_
   obtain⟨dst,op,type,pos,after,guard⟩:=o
   subst ho
   simp only[oS,execOp,aH,Instr.storeAt,Instr.sureAddr,ha,bA]
   exact Hn H
  ·exact H.elim
 ·rename_i t l c ho
  refine gen ?_
  obtain⟨dst,op,type,pos,after,guard⟩:=o
  subst ho
  simp only[oS,execOp,aH,bA]
  exact MS H
 ·rename_i c ho
  split at H
  ·rename_i f hc
   unfold fw at H
   split at H
   ·rename_i g first captured hf
    exact MV ho hc hf H
   ·rename_i l first captured hf
    exact Lf ho hc hf H
   ·exact H.elim
  ·rename_i hc
   split at H
   ·rename_i s x t u ha ht
    split at H
    ·rename_i hu
     refine gen ?_
     obtain⟨dst,op,type,pos,after,guard⟩:=o
     subst ho
     have h1:c.args= #[s,x]:=by apply Array.ext';simpa using ha
     have h2:c.argTypes= #[t,u]:=by apply Array.ext';simpa using ht
     obtain⟨cs,hcs⟩:=jy (ρ:=fun x=>(tv x).v) (type:=type) hc
     simp only[oS,execOp,hcs,aH,bA,invoke,builtin,h1,h2]
     have h3:(#[s,x]:Array Operand).map (fun x=>(tv x).v)= #[(tv s).v,(tv x).v]:=by simp
     rw[h3]
     exact pI P _ _ (Le hu H) fun v h' hk=>kI hk
    ·exact H.elim
   ·exact H.elim
  ·rename_i hc
   split at H
   ·rename_i s x t u ha ht
    refine gen ?_
    obtain⟨dst,op,type,pos,after,guard⟩:=o
    subst ho
    have h1:c.args= #[s,x]:=by apply Array.ext';simpa using ha
    have h2:c.argTypes= #[t,u]:=by apply Array.ext';simpa using ht
    obtain⟨cs,hcs⟩:=jy (ρ:=fun x=>(tv x).v) (type:=type) hc
    simp only[oS,execOp,hcs,aH,bA,invoke,builtin,h1,h2]
    have h3:(#[s,x]:Array Operand).map (fun x=>(tv x).v)= #[(tv s).v,(tv x).v]:=by simp
    rw[h3]
    exact MT H
   ·exact H.elim
  ·rename_i hc
   split at H
   ·rename_i m k t r ha ht
    refine gen ?_
    obtain⟨dst,op,type,pos,after,guard⟩:=o
    subst ho
    have h1:c.args= #[m,k]:=by apply Array.ext';simpa using ha
    have h2:c.argTypes=(t::r).toArray:=by apply Array.ext';simpa using ht
    obtain⟨cs,hcs⟩:=jy (ρ:=fun x=>(tv x).v) (type:=type) hc
    simp only[oS,execOp,hcs,aH,bA,invoke,builtin,h1,h2]
    have h3:(#[m,k]:Array Operand).map (fun x=>(tv x).v)= #[(tv m).v,(tv k).v]:=by simp
    rw[h3]
    exact pI P _ _ (Lc H) fun v h' hk=>by obtain⟨rfl,hk⟩:=hk;exact hk
   ·exact H.elim
  ·rename_i hc
   split at H
   ·rename_i s t ha ht
    refine gen ?_
    obtain⟨dst,op,type,pos,after,guard⟩:=o
    subst ho
    have h1:c.args= #[s]:=by apply Array.ext';simpa using ha
    have h2:c.argTypes= #[t]:=by apply Array.ext';simpa using ht
    obtain⟨cs,hcs⟩:=jy (ρ:=fun x=>(tv x).v) (type:=type) hc
    simp only[oS,execOp,hcs,aH,bA,invoke,builtin,h1,h2]
    have h3:(#[s]:Array Operand).map (fun x=>(tv x).v)= #[(tv s).v]:=by simp
    rw[h3]
    exact MU H
   ·exact H.elim
  ·exact gen H
 ·rename_i t x i ok ho
  refine gen ?_
  obtain⟨dst',op,type,pos,after,guard⟩:=o
  subst ho
  simp only[oS,execOp,aH,bA]
  exact pI P _ _ (I7 H) fun v h' hk=>kI hk
 ·rename_i t m k x ho
  refine gen ?_
  obtain⟨dst',op,type,pos,after,guard⟩:=o
  subst ho
  simp only[oS,execOp,aH,bA]
  exact Fd H
 ·rename_i t m k x ho
  refine gen ?_
  obtain⟨dst',op,type,pos,after,guard⟩:=o
  subst ho
  simp only[oS,execOp,aH,bA]
  exact Fd H
 ·rename_i t m k ho
  refine gen ?_
  obtain⟨dst',op,type,pos,after,guard⟩:=o
  subst ho
  simp only[oS,execOp,aH,bA]
  exact pI P _ _ (Ld H) fun v h' hk=>kI hk
 ·rename_i t m b x ho
  refine gen ?_
  obtain⟨dst',op,type,pos,after,guard⟩:=o
  subst ho
  simp only[oS,execOp,aH,bA]
  exact HA H
 ·rename_i t x ho
  refine gen ?_
  obtain⟨dst',op,type,pos,after,guard⟩:=o
  subst ho
  simp only[oS,execOp,aH,bA]
  exact HB H
 ·rename_i it ho
  refine gen ?_
  obtain⟨dst',op,type,pos,after,guard⟩:=o
  subst ho
  simp only[oS,execOp,aH,bA]
  exact I8 H (fun h' hk=>hk) fun k v h' hk=>hk
 ·rename_i it ho
  refine gen ?_
  obtain⟨dst',op,type,pos,after,guard⟩:=o
  subst ho
  simp only[oS,execOp,aH,bA]
  exact HC H fun k v hk=>hk
 ·rename_i src dst x ho
  refine gen ?_
  obtain⟨dst',op,type,pos,after,guard⟩:=o
  subst ho
  simp only[oS,execOp,aH,bA]
  refine Jb (fun hf=> ?_) (fun v h' hk=>kI hk) H
  simpa only[oS,execOp,aH,bA] using hf
 ·exact gen H
theorem Lh {P:Program} {o:Oper} {tv:Operand→Tv} {h:ae} {K:Tv→ae→Prop} (H:Ht P o tv h K):
 Oe P (execOp (fun x=>(tv x).v) o) h fun v h'=> ∃x:Tv,x.v=v∧K x h':=by
 unfold Ht at H
 split at H
 ·obtain⟨x,hx,hr⟩:=zj H
  intro w hw;rw[hr w];exact⟨Fr.refl w,x,rfl,hw▸hx⟩
 ·obtain⟨x,hx,hr⟩:=zk H
  intro w hw;rw[hr w (hw▸dY.refl _)];exact⟨Fr.refl w,x,rfl,hw▸hx⟩
 ·exact I9 H
 ·exact Lg H
end Go.Sh
end
