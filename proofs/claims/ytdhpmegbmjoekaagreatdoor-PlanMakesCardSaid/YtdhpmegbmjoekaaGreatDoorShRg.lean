/- ShMp ShRg, in one text. -/
import Derived.Test.YtdhpmegbmjoekaaGreatDoorShN
set_option linter.unusedVariables false
set_option linter.unusedSimpArgs false
namespace Go.Sh
section
structure jN (kk:IntKind) (es:List MapEntry) (c:Nat) (L:Int→Option Value):Prop where
 all: ∀e∈es,∃a:Int,e.key= .int kk a
 get: ∀n,(es.find? (fx n)).map (·.val)=L n
 born: ∀e∈es,e.born<c
 nodup:(es.map (·.born)).Nodup
 keys:es.Pairwise fun x y=> ∀n,fx n x=true→fx n y=false
theorem vn{n:Int}: ∀{es:List MapEntry}{k i:Nat}{v:Value},lE n es k=some (i,v)→ ∃a e f,es=a++e::f∧a.length+k=i∧fx n e=true∧e.val=v∧ ∀x∈a,fx n x=false
 |[],k,i,v,h=>by simp[lE]at h
 |e::es,k,i,v,h=>by
  simp only[lE]at h;split at h
  ·rename_i b;simp only[Option.some.injEq,Prod.mk.injEq]at h;obtain⟨rfl,rfl⟩:=h;exact⟨[],e,es,rfl,by simp,b,rfl,by simp⟩
  ·rename_i b;obtain⟨a,g,f,rfl,o,j,l,m⟩:=vn h;exact⟨e::a,g,f,rfl,by simp only[VS];omega,j,l,fun x d=>by
    rcases V5.1 d with rfl|d
    ·exact b
    ·exact m x d⟩
theorem vo{n:Int}: ∀{es:List MapEntry}{k:Nat},lE n es k=none→ ∀x∈es,fx n x=false
 |[],k,h,x,a=>by simp at a
 |e::es,k,h,x,a=>by
  simp only[lE]at h;split at h
  ·cases h
  ·rename_i b;rcases V5.1 a with rfl|a
   ·exact b
   ·exact vo h x a
theorem vp{n:Int}{es:List MapEntry}(h: ∀x∈es,fx n x=false):es.find? (fx n)=none:=List.find?_eq_none.2 fun x a=>by rw[h x a];simp
theorem D7{n:Int}{a d:List MapEntry}{e:MapEntry}(h: ∀x∈a,fx n x=false)(b:fx n e=true):(a++e::d).find? (fx n)=some e:=by
 rw[List.find?_append,vp h,Option.none_or,List.find?_cons_of_pos b]
theorem vq{n:Int}{a b:List MapEntry}{e:MapEntry}(d:fx n e=false):(a++e::b).find? (fx n)=(a++b).find? (fx n):=by
 rw[List.find?_append,List.find?_append,List.find?_cons_of_neg (by rw[d];simp)]
theorem iY{n a:Int}{kk:IntKind}{e:MapEntry}(h:e.key= .int kk a):fx n e=(n==a):=by simp[fx,h]
def R6(L:Int→Option Value)(n:Int)(v:Value):Int→Option Value:=fun m=>if m=n then some v else L m
def Hx(L:Int→Option Value)(n:Int):Int→Option Value:=fun m=>if m=n then none else L m
section
variable {kk:IntKind} {es:List MapEntry} {c:Nat} {L:Int→Option Value}
theorem jN.nil:jN kk [] c fun _=>none:=⟨by simp,fun n=>rfl,by simp,by simp,List.Pairwise.nil⟩
theorem jN.idx_some(m:jN kk es c L){n:Int}{i:Nat}{v:Value}(h:lE n es 0=some (i,v)):L n=some v:=by
 obtain⟨f,e,g,rfl,_,a,b,d⟩:=vn h;rw[←m.get,D7 d a,←b];rfl
theorem jN.idx_none(m:jN kk es c L){n:Int}(h:lE n es 0=none):L n=none:=by
 rw[←m.get,vp (vo h)];rfl
theorem jN.push(m:jN kk es c L){n:Int}(h: ∀x∈es,fx n x=false)(v:Value):jN kk (es++[{key:= .int kk n,val:=v,born:=c}]) (c+1) (R6 L n v):=by
 refine⟨fun e b=> ?_,fun k=> ?_,fun e b=> ?_,?_,?_⟩
 ·rcases VW.1 b with b|b
  ·exact m.all e b
  ·simp only[VK]at b;subst b;exact⟨n,rfl⟩
 ·by_cases d:k=n
  ·subst d;rw[D7 h (by rw[iY (kk:=kk) (a:=k) rfl];simp)];simp[R6]
  ·rw[vq (by rw[iY (kk:=kk) (a:=n) rfl];simp[d]),Wd,m.get];simp[R6,d]
 ·rcases VW.1 b with b|b
  ·have:=m.born e b;omega
  ·simp only[VK]at b;subst b;exact Nat.lt_succ_self _
 ·rw[V2,W5];refine⟨m.nodup,by simp,fun x g y f=> ?_⟩;simp only[Wc,WZ,VK]at f;obtain⟨e,b,rfl⟩:=VZ.1 g;have:=m.born e b;omega
 ·rw[WL];refine⟨m.keys,XG _ _,fun x g y f k d=> ?_⟩;simp only[VK]at f;subst f;rw[iY (kk:=kk) (a:=n) rfl];by_cases e:k=n
  ·subst e;rw[h x g]at d;cases d
  ·simp[e]
theorem jN.mod{p q:List MapEntry}{e:MapEntry}(m:jN kk (p++e::q) c L){n:Int}(s: ∀x∈p,fx n x=false)(o:fx n e=true)(v:Value):
 jN kk (p++{key:= .int kk n,val:=v,born:=e.born}::q) c (R6 L n v):=by
 obtain⟨a,ea⟩:=m.all e (by simp);have l:n=a:=by rw[iY ea]at o;simpa using o
 subst l;have d: ∀k,fx k {key:= .int kk n,val:=v,born:=e.born}=fx k e:=fun k=>by rw[iY (kk:=kk) (a:=n) rfl,iY ea]
 refine⟨fun x b=> ?_,fun k=> ?_,fun x b=> ?_,?_,?_⟩
 ·rcases VW.1 b with b|b
  ·exact m.all x (Wt _ b)
  ·rcases V5.1 b with rfl|b
   ·exact⟨n,rfl⟩
   ·exact m.all x (WP _ (V0 _ b))
 ·by_cases f:k=n
  ·subst f;rw[D7 s (by rw[d];exact o)];simp[R6]
  ·have i:fx k e=false:=by rw[iY ea];simp[f]
   rw[vq (by rw[d];exact i),←vq (e:=e) i,m.get];simp[R6,f]
 ·rcases VW.1 b with b|b
  ·exact m.born x (Wt _ b)
  ·rcases V5.1 b with rfl|b
   ·exact m.born e (by simp)
   ·exact m.born x (WP _ (V0 _ b))
 ·have:=m.nodup;simpa using this
 ·have g:=m.keys;rw[WL,WI]at g ⊢;refine⟨g.1,⟨fun y j k f=>g.2.1.1 y j k (by rw[←d];exact f),g.2.1.2⟩,fun x b y j k f=> ?_⟩;rcases V5.1 j with rfl|j
  ·rw[d];exact g.2.2 x b e (by simp) k f
  ·exact g.2.2 x b y (V0 _ j) k f
theorem jN.del{f i:List MapEntry}{e:MapEntry}(m:jN kk (f++e::i) c L){n:Int}(t: ∀x∈f,fx n x=false)(o:fx n e=true):jN kk (f++i) c (Hx L n):=by
 obtain⟨a,ea⟩:=m.all e (by simp);have l:n=a:=by rw[iY ea]at o;simpa using o
 subst l;have d:=m.keys;rw[WL,WI]at d;have g: ∀x,x∈f++i→x∈f++e::i:=fun x b=>by
  rcases VW.1 b with b|b
  ·exact Wt _ b
  ·exact WP _ (V0 _ b)
 refine⟨fun x b=>m.all x (g x b),fun k=> ?_,fun x b=>m.born x (g x b),?_,?_⟩
 ·by_cases q:k=n
  ·subst q;rw[vp fun x b=> ?_]
   ·simp[Hx]
   ·rcases VW.1 b with b|b
    ·exact t x b
    ·exact d.2.1.1 x b k o
  ·have p:fx k e=false:=by rw[iY ea];simp[q]
   rw[←vq (e:=e) p,m.get];simp[Hx,q]
 ·have:=m.nodup;rw[V2,Wc]at this;rw[V2];have j:=W5.1 this;rw[W5];exact⟨j.1,(WY.1 j.2.1).2,fun x b y s=>j.2.2 x b y (V0 _ s)⟩
 ·rw[WL];exact⟨d.1,d.2.1.2,fun x b y s=>d.2.2 x b y (V0 _ s)⟩
theorem jN.del_none(m:jN kk es c L){n:Int}(h: ∀x∈es,fx n x=false):jN kk es c (Hx L n):=by
 refine⟨m.all,fun k=> ?_,m.born,m.nodup,m.keys⟩;by_cases a:k=n
 ·subst a;rw[vp h];simp[Hx]
 ·rw[m.get];simp[Hx,a]
end
theorem rF{h:ah}{r:Nat}{o u:Obj}(a:h[r]? =some u):(h.setIfInBounds r o)[r]? =some o:=by
 have:=(Wi.1 a).1;simp[this]
theorem Hy{h:ah}{r:Nat}{o:Obj}:cd (fun j=>j=r) h (h.setIfInBounds r o):=by
 refine⟨by simp,fun j b a=> ?_⟩;rw[Array.getElem?_setIfInBounds_ne (Ne.symm a)]
def HS(r:Nat)(o:Obj):bc:=
 {P:=fun h=>h[r]? =some o,foot:=fun i=>i=r,lt:=fun a e=>by subst e;exact(Wi.1 a).1,
  loc:=fun a _ b=>by rw[b _ rfl];exact a}
def mp(kk:IntKind)(r:Nat)(L:Int→Option Value):bc:=
 {P:=fun h=> ∃es c,h[r]? =some (.map es c)∧jN kk es.toList c L,foot:=fun i=>i=r,
  lt:=fun a e=>by obtain⟨es,c,a,_⟩:=a;subst e;exact(Wi.1 a).1,
  loc:=fun a _ b=>by obtain⟨es,c,a,m⟩:=a;exact⟨es,c,by rw[b _ rfl];exact a,m⟩}
section
variable {h0 h:ah} {T:Nat→Prop} {W R:List bc} {kk:IntKind} {r:Nat} {L:Int→Option Value} {n:Int} {z v:Value}
theorem Ly(kk:IntKind)(S:aG h0 T h W R){K:Nat→ah→Prop}(H: ∀r h',r=h.size→aG h0 T h' (W++[mp kk r fun _=>none]) R→K r h'):aP h (.map #[] 0) K:=by
 refine H h.size _ rfl (S.add (W1:=[mp kk h.size fun _=>none]) (R1:=[]) (U:=no) (aG.one (cd.push _ _ _) ⟨#[],0,by simp,jN.nil⟩ fun b a d=> ?_) fun b a f=>f);exact absurd a (by intro e;have:b=h.size:=e;omega)
theorem Qk{K:Value→Bool→Prop}(a:(mp kk r L).P h)(H:match L n with|some v=>K v true|none=>K z false):m5 kk z (some r) n h K:=by
 obtain⟨es,c,b,m⟩:=a;refine⟨es,c,b,m.all,?_⟩;cases hi:lE n es.toList 0 with
 |some x=>rw[m.idx_some (i:=x.1) (v:=x.2) hi]at H;exact H
 |none=>rw[m.idx_none hi]at H;exact H
theorem D8(f:MapEntry→MapEntry)(e:MapEntry)(b:List MapEntry): ∀a:List MapEntry,(a++e::b).modify a.length f=a++f e::b
 |[]=>rfl
 |x::r=>by
  have:=D8 f e b r;simp only[Yg,VS,List.modify_succ_cons,this]
theorem Ga(e:MapEntry)(b:List MapEntry): ∀a:List MapEntry,(a++e::b).eraseIdx a.length=a++b
 |[]=>rfl
 |x::r=>by
  have:=Ga e b r;simp only[Yg,VS,List.eraseIdx_cons_succ,this]
theorem R7{a b:List MapEntry}{e:MapEntry}{es:Array MapEntry}(h:es.toList=a++e::b)(f:MapEntry→MapEntry):(es.modify a.length f).toList=a++f e::b:=by
 rw[Array.toList_modify,h];exact D8 f e b a
theorem uQ(S:aG h0 T h W R)(i:Nat){K:ah→Prop}(e:W[i]? =some (mp kk r L))(H: ∀h',aG h0 T h' (W.set i (mp kk r (R6 L n v))) R→K h'):updB kk (some r) n v h K:=by
 obtain⟨es,c,a,m⟩:=S.w i _ e;refine⟨es,c,a,m.all,H _ (S.upd i e _ Hy ?_ fun b j=> .inl j)⟩;unfold Ta;cases hi:lE n es.toList 0 with
 |some x=>
  obtain⟨p,l,q,d,k,f,o,g⟩:=vn (i:=x.1) (v:=x.2) hi;rw[d]at m;refine⟨_,_,rF a,?_⟩;rw[←k,We,R7 d];exact m.mod g f v
 |none=>
  refine⟨_,_,rF a,?_⟩;rw[Array.toList_push];exact m.push (vo hi) v
theorem Ql(S:aG h0 T h W R)(i:Nat){K:ah→Prop}(e:W[i]? =some (mp kk r L))(H: ∀h',aG h0 T h' (W.set i (mp kk r (Hx L n))) R→K h'):Po kk (some r) n h K:=by
 obtain⟨es,c,a,m⟩:=S.w i _ e;refine⟨es,c,a,m.all,H _ (S.upd i e _ Hy ?_ fun b o=> .inl o)⟩;unfold Tb;cases hi:lE n es.toList 0 with
 |some x=>
  obtain⟨f,j,g,d,p,k,q,l⟩:=vn (i:=x.1) (v:=x.2) hi;refine⟨_,_,rF a,?_⟩;have:(es.eraseIdxIfInBounds x.1).toList=f++g:=by
   rw[Array.toList_eraseIdxIfInBounds,d,←p,We];exact Ga j g f
  rw[this];rw[d]at m;exact m.del l k
 |none=>
  refine⟨_,_,rF a,m.del_none (vo hi)⟩
end
end
section
theorem yA{P:Program}{v:Value}{args:List Value}{h:ah}{K a:Value→ah→Prop}(H:gS P v args h K)(b: ∀v h',K v h'→a v h'):gS P v args h a:=by
 unfold gS at H ⊢;split at H
 ·exact au.mono H b
 ·exact xd.mono H b
 ·exact H.elim
theorem Lz{h d:ah}{a:Addr}{v:Value}(k:cd no h d)(b:aB h a=some v):aB d a=some v:=by
 have e:a.block<h.size:=by
  unfold aB at b;apply Decidable.byContradiction;intro f;rw[X4 (by omega)]at b;cases b
 unfold aB at b ⊢;rw[k.same a.block e (fun h=>h)];exact b
section
variable {h0 h:ah} {T:Nat→Prop} {W R:List bc}
theorem Gb(S:aG h0 T h W R)(o:Obj):aG h0 T (h.push o) (W++[HS h.size o]) R:=by
 refine S.add (W1:=[HS h.size o]) (R1:=[]) (U:=no) (aG.one (cd.push _ _ _) (by show(h.push o)[h.size]? =some o;simp) fun b a d=> ?_) fun b a f=>f;exact absurd a (by intro e;have:b=h.size:=e;omega)
theorem gY(S:aG h0 T h W R)(i:Nat){r:Nat}{o:Obj}(a:Obj)(e:W[i]? =some (HS r o)):aG h0 T (h.setIfInBounds r a) (W.set i (HS r a)) R:=
 S.upd i e _ Hy (rF (S.w i _ e)) fun b d=> .inl d
theorem Jp{P:Program}(S:aG h0 T h W R){i:FuncId}{j:Array Value}{L:List Ls}{round:Obj→Obj→Nat→Q2 L→(ah→Prop)→ah→Prop}{K:Nat→ah→Prop}
 (H: ∀(D l:Nat)(a b d:Obj)(h2:ah),aG h0 T h2 (W++[HS D (.deferred (some []))]++[HS l a]) R→
  (∀(y:Q2 L)(f:ah)(g:Value→ah→Prop),f[l]? =some a→round a b l y (fun h3=>h3[l]? =some b∧g (.bool true) (h3.setIfInBounds l a)) f→gS P (.func (.yield l) #[] #[]) (B5 L y) f g)→
  au P i (#[.func (.yield l) #[] #[]]++j) h2 fun _ h3=>h3[l]? =some a∧K D (h3.setIfInBounds l d)):
 w8 P (.func (.func i) #[] j) L round h K:=by
 refine⟨i,j,rfl,fun a b d _ _ _ p=> ?_⟩;have k:=Gb (Gb S (.deferred (some []))) a;have e:(h.push (.deferred (some []))).size=h.size+1:=by simp
 rw[e]at k;refine H h.size (h.size+1) a b d _ k fun y f g m o=> ?_;have:=p y f g m o;unfold gS;simpa using this
