/- ShMp ShRg, in one text. -/
import Derived.Test.YtdhpmegbmjoekaaGreatDoorShN
set_option linter.unusedVariables false
set_option linter.unusedSimpArgs false
namespace Go.Sh
section
structure ja (kk:IntKind) (es:List MapEntry) (c:Nat) (L:Int→Option Value):Prop where
 all: ∀e∈es,∃a:Int,e.key= .int kk a
 get: ∀n,(es.find? (eO n)).map (·.val)=L n
 born: ∀e∈es,e.born<c
 nodup:(es.map (·.born)).Nodup
 keys:es.Pairwise fun x y=> ∀n,eO n x=true→eO n y=false
theorem vU {n:Int}: ∀{es:List MapEntry} {k i:Nat} {v:Value},kM n es k=some (i,v)→ ∃a e f,es=a++e::f∧a.length+k=i∧eO n e=true∧e.val=v∧ ∀x∈a,eO n x=false
 |[],k,i,v,h=>by simp[kM] at h
 |e::es,k,i,v,h=>by
  simp only[kM] at h;split at h
  ·rename_i b;simp only[Option.some.injEq,Prod.mk.injEq] at h;obtain⟨rfl,rfl⟩:=h;exact⟨[],e,es,rfl,by simp,b,rfl,by simp⟩
  ·rename_i b;obtain⟨a,g,f,rfl,o,j,l,m⟩:=vU h;exact⟨e::a,g,f,rfl,by simp only[UY];omega,j,l,fun x d=>by
    rcases U7.1 d with rfl|d
    ·exact b
    ·exact m x d⟩
theorem vV {n:Int}: ∀{es:List MapEntry} {k:Nat},kM n es k=none→ ∀x∈es,eO n x=false
 |[],k,h,x,a=>by simp at a
 |e::es,k,h,x,a=>by
  simp only[kM] at h;split at h
  ·cases h
  ·rename_i b;rcases U7.1 a with rfl|a
   ·exact b
   ·exact vV h x a
theorem vW {n:Int} {es:List MapEntry} (h: ∀x∈es,eO n x=false):es.find? (eO n)=none:=List.find?_eq_none.2 fun x a=>by rw[h x a];simp
theorem z1 {n:Int} {a d:List MapEntry} {e:MapEntry} (h: ∀x∈a,eO n x=false) (b:eO n e=true):(a++e::d).find? (eO n)=some e:=by
 rw[List.find?_append,vW h,Option.none_or,List.find?_cons_of_pos b]
theorem vX {n:Int} {a b:List MapEntry} {e:MapEntry} (d:eO n e=false):(a++e::b).find? (eO n)=(a++b).find? (eO n):=by
 rw[List.find?_append,List.find?_append,List.find?_cons_of_neg (by rw[d];simp)]
theorem gG {n a:Int} {kk:IntKind} {e:MapEntry} (h:e.key= .int kk a):eO n e=(n==a):=by simp[eO,h]
def Q9 (L:Int→Option Value) (n:Int) (v:Value):Int→Option Value:=fun m=>if m=n then some v else L m
def Ie (L:Int→Option Value) (n:Int):Int→Option Value:=fun m=>if m=n then none else L m
section
variable {kk:IntKind} {es:List MapEntry} {c:Nat} {L:Int→Option Value}
theorem ja.nil:ja kk [] c fun _=>none:=⟨by simp,fun n=>rfl,by simp,by simp,List.Pairwise.nil⟩
theorem ja.idx_some (m:ja kk es c L) {n:Int} {i:Nat} {v:Value} (h:kM n es 0=some (i,v)):L n=some v:=by
 obtain⟨f,e,g,rfl,_,a,b,d⟩:=vU h;rw[←m.get,z1 d a,←b];rfl
theorem ja.idx_none (m:ja kk es c L) {n:Int} (h:kM n es 0=none):L n=none:=by
 rw[←m.get,vW (vV h)];rfl
theorem ja.push (m:ja kk es c L) {n:Int} (h: ∀x∈es,eO n x=false) (v:Value):ja kk (es++[{key:= .int kk n,val:=v,born:=c}]) (c+1) (Q9 L n v):=by
 refine⟨fun e b=> ?_,fun k=> ?_,fun e b=> ?_,?_,?_⟩
 ·rcases UX.1 b with b|b
  ·exact m.all e b
  ·simp only[SH] at b;subst b;exact⟨n,rfl⟩
 ·by_cases d:k=n
  ·subst d;rw[z1 h (by rw[gG (kk:=kk) (a:=k) rfl];simp)];simp[Q9]
  ·rw[vX (by rw[gG (kk:=kk) (a:=n) rfl];simp[d]),Vh,m.get];simp[Q9,d]
 ·rcases UX.1 b with b|b
  ·have:=m.born e b;omega
  ·simp only[SH] at b;subst b;exact Nat.lt_succ_self _
 ·rw[U4,Wa];refine⟨m.nodup,by simp,fun x g y f=> ?_⟩;simp only[Vg,Vz,SH] at f;obtain⟨e,b,rfl⟩:=U5.1 g;have:=m.born e b;omega
 ·rw[VK];refine⟨m.keys,WG _ _,fun x g y f k d=> ?_⟩;simp only[SH] at f;subst f;rw[gG (kk:=kk) (a:=n) rfl];by_cases e:k=n
  ·subst e;rw[h x g] at d;cases d
  ·simp[e]
theorem ja.mod {p q:List MapEntry} {e:MapEntry} (m:ja kk (p++e::q) c L) {n:Int} (s: ∀x∈p,eO n x=false) (o:eO n e=true) (v:Value):
 ja kk (p++{key:= .int kk n,val:=v,born:=e.born}::q) c (Q9 L n v):=by
 obtain⟨a,ea⟩:=m.all e (by simp);have l:n=a:=by rw[gG ea] at o;simpa using o
 subst l;have d: ∀k,eO k {key:= .int kk n,val:=v,born:=e.born}=eO k e:=fun k=>by rw[gG (kk:=kk) (a:=n) rfl,gG ea]
 refine⟨fun x b=> ?_,fun k=> ?_,fun x b=> ?_,?_,?_⟩
 ·rcases UX.1 b with b|b
  ·exact m.all x (Vu _ b)
  ·rcases U7.1 b with rfl|b
   ·exact⟨n,rfl⟩
   ·exact m.all x (VV _ (Vd _ b))
 ·by_cases f:k=n
  ·subst f;rw[z1 s (by rw[d];exact o)];simp[Q9]
  ·have i:eO k e=false:=by rw[gG ea];simp[f]
   rw[vX (by rw[d];exact i),←vX (e:=e) i,m.get];simp[Q9,f]
 ·rcases UX.1 b with b|b
  ·exact m.born x (Vu _ b)
  ·rcases U7.1 b with rfl|b
   ·exact m.born e (by simp)
   ·exact m.born x (VV _ (Vd _ b))
 ·have:=m.nodup;simpa using this
 ·have g:=m.keys;rw[VK,VL] at g ⊢;refine⟨g.1,⟨fun y j k f=>g.2.1.1 y j k (by rw[←d];exact f),g.2.1.2⟩,fun x b y j k f=> ?_⟩;rcases U7.1 j with rfl|j
  ·rw[d];exact g.2.2 x b e (by simp) k f
  ·exact g.2.2 x b y (Vd _ j) k f
theorem ja.del {f i:List MapEntry} {e:MapEntry} (m:ja kk (f++e::i) c L) {n:Int} (t: ∀x∈f,eO n x=false) (o:eO n e=true):ja kk (f++i) c (Ie L n):=by
 obtain⟨a,ea⟩:=m.all e (by simp);have l:n=a:=by rw[gG ea] at o;simpa using o
 subst l;have d:=m.keys;rw[VK,VL] at d;have g: ∀x,x∈f++i→x∈f++e::i:=fun x b=>by
  rcases UX.1 b with b|b
  ·exact Vu _ b
  ·exact VV _ (Vd _ b)
 refine⟨fun x b=>m.all x (g x b),fun k=> ?_,fun x b=>m.born x (g x b),?_,?_⟩
 ·by_cases q:k=n
  ·subst q;rw[vW fun x b=> ?_]
   ·simp[Ie]
   ·rcases UX.1 b with b|b
    ·exact t x b
    ·exact d.2.1.1 x b k o
  ·have p:eO k e=false:=by rw[gG ea];simp[q]
   rw[←vX (e:=e) p,m.get];simp[Ie,q]
 ·have:=m.nodup;rw[U4,Vg] at this;rw[U4];have j:=Wa.1 this;rw[Wa];exact⟨j.1,(Wj.1 j.2.1).2,fun x b y s=>j.2.2 x b y (Vd _ s)⟩
 ·rw[VK];exact⟨d.1,d.2.1.2,fun x b y s=>d.2.2 x b y (Vd _ s)⟩
theorem ja.del_none (m:ja kk es c L) {n:Int} (h: ∀x∈es,eO n x=false):ja kk es c (Ie L n):=by
 refine⟨m.all,fun k=> ?_,m.born,m.nodup,m.keys⟩;by_cases a:k=n
 ·subst a;rw[vW h];simp[Ie]
 ·rw[m.get];simp[Ie,a]
theorem ja.mem (m:ja kk es c L) {n:Int} {v:Value}:L n=some v↔ ∃e∈es,e.key= .int kk n∧e.val=v:=by
 rw[←m.get];constructor
 ·intro h;cases hf:es.find? (eO n) with
  |none=>rw[hf] at h;cases h
  |some e=>
   rw[hf] at h;obtain⟨a,ea⟩:=m.all e (List.mem_of_find?_eq_some hf);have:=List.find?_some hf;rw[gG ea] at this;have:n=a:=by simpa using this
   subst this;exact⟨e,List.mem_of_find?_eq_some hf,ea,by simpa using h⟩
 ·rintro⟨e,i,f,g⟩;obtain⟨k,l,rfl⟩:=List.append_of_mem i;have d:=m.keys;rw[VK] at d;have b:eO n e=true:=by rw[gG f];simp
  rw[z1 (fun x j=> ?_) b,Option.map_some,g];cases hx2:eO n x with
  |false=>rfl
  |true=>rw[d.2.2 x j e (by simp) n hx2] at b;cases b
end
theorem z3 {h:af} {r:Nat} {o u:Obj} (a:h[r]? =some u):(h.setIfInBounds r o)[r]? =some o:=by
 have:=(Vl.1 a).1;simp[this]
theorem Ig {h:af} {r:Nat} {o:Obj}:cp (fun j=>j=r) h (h.setIfInBounds r o):=by
 refine⟨by simp,fun j b a=> ?_⟩;rw[Array.getElem?_setIfInBounds_ne (Ne.symm a)]
def IB (r:Nat) (o:Obj):aY:=
 {P:=fun h=>h[r]? =some o,foot:=fun i=>i=r,lt:=fun a e=>by subst e;exact(Vl.1 a).1,
  loc:=fun a _ b=>by rw[b _ rfl];exact a}
def mp (kk:IntKind) (r:Nat) (L:Int→Option Value):aY:=
 {P:=fun h=> ∃es c,h[r]? =some (.map es c)∧ja kk es.toList c L,foot:=fun i=>i=r,
  lt:=fun a e=>by obtain⟨es,c,a,_⟩:=a;subst e;exact(Vl.1 a).1,
  loc:=fun a _ b=>by obtain⟨es,c,a,m⟩:=a;exact⟨es,c,by rw[b _ rfl];exact a,m⟩}
section
variable {h0 h:af} {T:Nat→Prop} {W R:List aY} {kk:IntKind} {r:Nat} {L:Int→Option Value} {n:Int} {z v:Value}
theorem Le (kk:IntKind) (S:aJ h0 T h W R) {K:Nat→af→Prop} (H: ∀r h',r=h.size→aJ h0 T h' (W++[mp kk r fun _=>none]) R→K r h'):aR h (.map #[] 0) K:=by
 refine H h.size _ rfl (S.add (W1:=[mp kk h.size fun _=>none]) (R1:=[]) (U:=no) (aJ.one (cp.push _ _ _) ⟨#[],0,by simp,ja.nil⟩ fun b a d=> ?_) fun b a f=>f);exact absurd a (by intro e;have:b=h.size:=e;omega)
theorem Pr {K:Value→Bool→Prop} (a:(mp kk r L).P h) (H:match L n with|some v=>K v true|none=>K z false):nI kk z (some r) n h K:=by
 obtain⟨es,c,b,m⟩:=a;refine⟨es,c,b,m.all,?_⟩;cases hi:kM n es.toList 0 with
 |some x=>rw[m.idx_some (i:=x.1) (v:=x.2) hi] at H;exact H
 |none=>rw[m.idx_none hi] at H;exact H
theorem Fe (f:MapEntry→MapEntry) (e:MapEntry) (b:List MapEntry): ∀a:List MapEntry,(a++e::b).modify a.length f=a++f e::b
 |[]=>rfl
 |x::r=>by
  have:=Fe f e b r;simp only[Xi,UY,List.modify_succ_cons,this]
theorem He (e:MapEntry) (b:List MapEntry): ∀a:List MapEntry,(a++e::b).eraseIdx a.length=a++b
 |[]=>rfl
 |x::r=>by
  have:=He e b r;simp only[Xi,UY,List.eraseIdx_cons_succ,this]
theorem Ra {a b:List MapEntry} {e:MapEntry} {es:Array MapEntry} (h:es.toList=a++e::b) (f:MapEntry→MapEntry):(es.modify a.length f).toList=a++f e::b:=by
 rw[Array.toList_modify,h];exact Fe f e b a
theorem vu (S:aJ h0 T h W R) (i:Nat) {K:af→Prop} (e:W[i]? =some (mp kk r L)) (H: ∀h',aJ h0 T h' (W.set i (mp kk r (Q9 L n v))) R→K h'):updB kk (some r) n v h K:=by
 obtain⟨es,c,a,m⟩:=S.w i _ e;refine⟨es,c,a,m.all,H _ (S.upd i e _ Ig ?_ fun b j=> .inl j)⟩;unfold R9;cases hi:kM n es.toList 0 with
 |some x=>
  obtain⟨p,l,q,d,k,f,o,g⟩:=vU (i:=x.1) (v:=x.2) hi;rw[d] at m;refine⟨_,_,z3 a,?_⟩;rw[←k,Va,Ra d];exact m.mod g f v
 |none=>
  refine⟨_,_,z3 a,?_⟩;rw[Array.toList_push];exact m.push (vV hi) v
theorem Ps (S:aJ h0 T h W R) (i:Nat) {K:af→Prop} (e:W[i]? =some (mp kk r L)) (H: ∀h',aJ h0 T h' (W.set i (mp kk r (Ie L n))) R→K h'):OE kk (some r) n h K:=by
 obtain⟨es,c,a,m⟩:=S.w i _ e;refine⟨es,c,a,m.all,H _ (S.upd i e _ Ig ?_ fun b o=> .inl o)⟩;unfold Sa;cases hi:kM n es.toList 0 with
 |some x=>
  obtain⟨f,j,g,d,p,k,q,l⟩:=vU (i:=x.1) (v:=x.2) hi;refine⟨_,_,z3 a,?_⟩;have:(es.eraseIdxIfInBounds x.1).toList=f++g:=by
   rw[Array.toList_eraseIdxIfInBounds,d,←p,Va];exact He j g f
  rw[this];rw[d] at m;exact m.del l k
 |none=>
  refine⟨_,_,z3 a,m.del_none (vV hi)⟩
end
end
section
theorem z4 {P:Program} {v:Value} {args:List Value} {h:af} {K a:Value→af→Prop} (H:gV P v args h K) (b: ∀v h',K v h'→a v h'):gV P v args h a:=by
 unfold gV at H ⊢;split at H
 ·exact au.mono H b
 ·exact yf.mono H b
 ·exact H.elim
theorem Ff {h d:af} {a:Addr} {v:Value} (k:cp no h d) (b:aD h a=some v):aD d a=some v:=by
 have e:a.block<h.size:=by
  unfold aD at b;apply Decidable.byContradiction;intro f;rw[WZ (by omega)] at b;cases b
 unfold aD at b ⊢;rw[k.same a.block e (fun h=>h)];exact b
section
variable {h0 h:af} {T:Nat→Prop} {W R:List aY}
theorem Hf (S:aJ h0 T h W R) (o:Obj):aJ h0 T (h.push o) (W++[IB h.size o]) R:=by
 refine S.add (W1:=[IB h.size o]) (R1:=[]) (U:=no) (aJ.one (cp.push _ _ _) (by show(h.push o)[h.size]? =some o;simp) fun b a d=> ?_) fun b a f=>f;exact absurd a (by intro e;have:b=h.size:=e;omega)
theorem ij (S:aJ h0 T h W R) (i:Nat) {r:Nat} {o:Obj} (a:Obj) (e:W[i]? =some (IB r o)):aJ h0 T (h.setIfInBounds r a) (W.set i (IB r a)) R:=
 S.upd i e _ Ig (z3 (S.w i _ e)) fun b d=> .inl d
theorem JK {P:Program} (S:aJ h0 T h W R) {i:FuncId} {j:Array Value} {L:List Ls} {round:Obj→Obj→Nat→Qd L→(af→Prop)→af→Prop} {K:Nat→af→Prop}
 (H: ∀(D l:Nat) (a b d:Obj) (h2:af),aJ h0 T h2 (W++[IB D (.deferred (some []))]++[IB l a]) R→
  (∀(y:Qd L) (f:af) (g:Value→af→Prop),f[l]? =some a→round a b l y (fun h3=>h3[l]? =some b∧g (.bool true) (h3.setIfInBounds l a)) f→gV P (.func (.yield l) #[] #[]) (CT L y) f g)→
  au P i (#[.func (.yield l) #[] #[]]++j) h2 fun _ h3=>h3[l]? =some a∧K D (h3.setIfInBounds l d)):
 yd P (.func (.func i) #[] j) L round h K:=by
 refine⟨i,j,rfl,fun a b d _ _ _ p=> ?_⟩;have k:=Hf (Hf S (.deferred (some []))) a;have e:(h.push (.deferred (some []))).size=h.size+1:=by simp
 rw[e] at k;refine H h.size (h.size+1) a b d _ k fun y f g m o=> ?_;have:=p y f g m o;unfold gV;simpa using this
end
end
end Go.Sh

