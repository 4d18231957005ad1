/- Sh, part 11: facts of a heap that stand apart from one another, kept in lists; rules over them. -/
import Derived.Test.YtdhpmegbmjoekaaGreatDoorShL
set_option linter.unusedSimpArgs false
set_option linter.unusedVariables false
namespace Go.Sh
structure bc where
 P:ah→Prop
 foot:Nat→Prop
 lt: ∀{h:ah}{b:Nat},P h→foot b→b<h.size
 loc: ∀{h h':ah},P h→h.size≤h'.size→(∀b,foot b→h'[b]? =h[b]?)→P h'
def aJ(b:Nat)(cs:List Value):bc:=
 {P:=fun h=>At h b cs,foot:=fun i=>i=b,lt:=fun a e=>by subst e;exact a.lt,
  loc:=fun a _ c=>by obtain⟨e,lo,hi,hb,d⟩:=a;exact⟨e,lo,hi,by rw[c _ rfl];exact hb,d⟩}
def row(p:Option Addr)(xs:List Value):bc:=
 {P:=fun h=>bD h p xs,foot:=fun i=>xs≠[]∧ ∃a,p=some a∧a.block=i,
  lt:=fun{h} {b} r=>by
   rintro⟨c,a,rfl,rfl⟩
   rcases r with rfl|⟨o,e,_,g,d,_⟩
   ·exact absurd rfl c
   ·cases e;exact d.lt
  loc:=fun{h} {q} r _ n=>by
   rcases r with rfl|⟨a,rfl,j,g,⟨e,f,k⟩,m,l⟩
   ·exact .inl rfl
   ·by_cases c:xs=[]
    ·exact .inl c
    ·exact .inr ⟨a,rfl,j,g,⟨e,f,by rw[n _ ⟨c,a,rfl,rfl⟩];exact k⟩,m,l⟩}
def own(sz:Nat)(p:Option Addr)(l c:Nat)(xs:List Value):bc:=
 {P:=fun h=>m8 h 0 sz p l c xs,foot:=fun i=> ∃a,p=some a∧a.block=i,
  lt:=fun{h} {b} o=>by
   rintro⟨a,rfl,rfl⟩
   obtain⟨_,_,⟨e,_⟩|⟨b,g,e,_,d,_⟩⟩:=o
   ·cases e
   ·cases e;exact d.lt
  loc:=fun{h} {u} o s r=>by
   obtain⟨j,k,m|⟨b,g,rfl,q,⟨e,lo,hi,f,t⟩,n⟩⟩:=o
   ·exact⟨j,k,.inl m⟩
   ·exact⟨j,k,.inr ⟨b,g,rfl,q,⟨e,lo,hi,by rw[r _ ⟨_,rfl,rfl⟩];exact f,t⟩,n⟩⟩}
structure aG (h0:ah) (T:Nat→Prop) (h:ah) (W R:List bc):Prop where
 fra:cd T h0 h
 w: ∀(i:Nat)(f:bc),W[i]? =some f→f.P h
 r: ∀(i:Nat)(f:bc),R[i]? =some f→f.P h
 ok: ∀(i:Nat)(f:bc),W[i]? =some f→ ∀b,f.foot b→b<h0.size→T b
 ww: ∀(i j:Nat)(f g:bc),W[i]? =some f→W[j]? =some g→i≠j→ ∀b,f.foot b→g.foot b→False
 wr: ∀(i j:Nat)(f g:bc),W[i]? =some f→R[j]? =some g→ ∀b,f.foot b→g.foot b→False
theorem aG.start(h:ah)(T:Nat→Prop):aG h T h [] []:=
 ⟨cd.refl _ _,by simp,by simp,by simp,by simp,by simp⟩
theorem aG.read{h0 h:ah}{T:Nat→Prop}{R:List bc}(S:aG h0 T h [] R)(f:bc)(b:f.P h):aG h0 T h [] (R++[f]):=
 ⟨S.fra,by simp,(fun i g a=>by
  rw[Wm]at a;split at a
  ·exact S.r i g a
  ·rw[XF]at a;split at a
   ·cases a;exact b
   ·cases a),by simp,by simp,by simp⟩
theorem aG.one{h0 h:ah}{T:Nat→Prop}{f:bc}(k:cd T h0 h)(l:f.P h)(n: ∀b,f.foot b→b<h0.size→T b):aG h0 T h [f] []:=by
 have c: ∀(i:Nat)(g:bc),[f][i]? =some g→i=0∧g=f:=fun i g a=>by
  rw[XF]at a;split at a
  ·cases a;exact⟨by assumption,rfl⟩
  ·cases a
 refine⟨k,fun i g a=> ?_,by simp,fun i g a=> ?_,fun i j g e a d m=> ?_,by simp⟩
 ·obtain⟨_,rfl⟩:=c i g a;exact l
 ·obtain⟨_,rfl⟩:=c i g a;exact n
 ·have:=(c i g a).1;have:=(c j e d).1;omega
theorem aG.upd{h0 h u:ah}{T:Nat→Prop}{W R:List bc}(S:aG h0 T h W R)(i:Nat){f:bc}(e:W[i]? =some f)(t:bc)(k:cd f.foot h u)(A:t.P u)
 (y: ∀b,t.foot b→f.foot b∨h.size≤b):aG h0 T u (W.set i t) R:=by
 have hi:i<W.length:=(R8.1 e).1;have p: ∀(j:Nat)(g:bc),W[j]? =some g→i≠j→g.P u:=fun j g a v=>g.loc (S.w j g a) k.size fun b c=>k.same b (g.lt (S.w j g a) c) fun n=>S.ww i j f g e a v b n c;refine⟨⟨W3 S.fra.size k.size,fun b c z=> ?_⟩,fun j g a=> ?_,fun j g a=> ?_,fun j g a b c s=> ?_,fun j l g o a d x b c m=> ?_,fun j l g o a d b c m=> ?_⟩
 ·rw[k.same b (Xf c S.fra.size) fun n=>z (S.ok i f e b n c)];exact S.fra.same b c z
 ·rw[Xh]at a;split at a
  ·cases a;exact A
  ·exact p j g a (by assumption)
 ·exact g.loc (S.r j g a) k.size fun b c=>k.same b (g.lt (S.r j g a) c) fun n=>S.wr i j f g e a b n c
 ·rw[Xh]at a;split at a
  ·cases a;rcases y b c with c|c
   ·exact S.ok i f e b c s
   ·have:=S.fra.size;omega
  ·exact S.ok j g a b c s
 ·have key: ∀(j:Nat)(g:bc),W[j]? =some g→i≠j→ ∀b,t.foot b→g.foot b→False:=fun j g a v b c q=>by
   rcases y b c with c|c
   ·exact S.ww i j f g e a v b c q
   ·have:=g.lt (S.w j g a) q;omega
  rw[Xh]at a d;split at a
  ·cases a;split at d
   ·omega
   ·exact key l o d (by assumption) b c m
  ·split at d
   ·cases d;exact key j g a (by assumption) b m c
   ·exact S.ww j l g o a d x b c m
 ·rw[Xh]at a;split at a
  ·cases a;rcases y b c with c|c
   ·exact S.wr i l f o e d b c m
   ·have:=o.lt (S.r l o d) m;omega
  ·exact S.wr j l g o a d b c m
theorem aG.add{h0 h o:ah}{T U:Nat→Prop}{W R W1 R1:List bc}(S:aG h0 T h W R)(n:aG h U o W1 R1)(q: ∀b,b<h.size→ ¬U b):aG h0 T o (W++W1) R:=by
 have k:cd no h o:=n.fra.mono fun b c t=>q b c t;have i: ∀(j:Nat)(g:bc),W[j]? =some g→g.P o:=fun j (g:bc) a=>g.loc (S.w j g a) k.size fun b c=>k.same b (g.lt (S.w j g a) c) fun h=>h;have new: ∀(j:Nat)(g:bc),W1[j]? =some g→ ∀b,g.foot b→h.size≤b:=fun j g a b c=>by
  apply Decidable.byContradiction;intro m;exact q b (by omega) (n.ok j g a b c (by omega))
 refine⟨⟨W3 S.fra.size k.size,fun b c s=> ?_⟩,fun j g a=> ?_,fun j g a=> ?_,fun j g a b c m=> ?_,fun j l g f a d p b c e=> ?_,fun j l g f a d b c e=> ?_⟩
 ·rw[k.same b (Xf c S.fra.size) fun h=>h];exact S.fra.same b c s
 ·rw[Wm]at a;split at a
  ·exact i j g a
  ·exact n.w _ g a
 ·exact g.loc (S.r j g a) k.size fun b c=>k.same b (g.lt (S.r j g a) c) fun h=>h
 ·rw[Wm]at a;split at a
  ·exact S.ok j g a b c m
  ·have:=new _ g a b c;have:=S.fra.size;omega
 ·rw[Wm]at a d;split at a
  ·split at d
   ·exact S.ww j l g f a d p b c e
   ·have:=new _ f d b e;have:=g.lt (S.w _ g a) c;omega
  ·split at d
   ·have:=new _ g a b c;have:=f.lt (S.w _ f d) e;omega
   ·exact n.ww _ _ g f a d (by omega) b c e
 ·rw[Wm]at a;split at a
  ·exact S.wr j l g f a d b c e
  ·have:=new _ g a b c;have:=f.lt (S.r _ f d) e;omega
def pick(W:List bc):List Nat→List bc
 |[]=>[]
 |i::l=>match W[i]? with
  |some f=>f::pick W l
  |none=>pick W l
theorem cY{W:List bc}: ∀{l:List Nat}{k:Nat}{f:bc},(pick W l)[k]? =some f→ ∃i,i∈l∧W[i]? =some f
 |[],k,f,h=>by simp[pick]at h
 |i::l,k,f,h=>by
  simp only[pick]at h;split at h
  ·rename_i g c;cases k with
   |zero=>simp at h;subst h;exact⟨i,by simp,c⟩
   |succ k=>obtain⟨j,a,b⟩:=cY (l:=l) (k:=k) (f:=f) (by simpa using h);exact⟨j,by simp[a],b⟩
  ·obtain⟨j,a,b⟩:=cY h;exact⟨j,by simp[a],b⟩
theorem m6{W:List bc}(e: ∀(i j:Nat) (f g:bc),W[i]? =some f→W[j]? =some g→i≠j→ ∀b,f.foot b→g.foot b→False):
 ∀{l:List Nat},l.Nodup→ ∀(i j:Nat)(f g:bc),(pick W l)[i]? =some f→(pick W l)[j]? =some g→i≠j→ ∀b,f.foot b→g.foot b→False
 |[],_,i,j,f,g,a,_,_=>by simp[pick]at a
 |n::l,hn,i,j,f,g,a,hg,hij=>by
  obtain⟨o,p⟩:=WY.1 hn;simp only[pick]at a hg;split at a
  ·rename_i w c;cases i with
   |zero=>
    simp at a;subst a;cases j with
    |zero=>omega
    |succ j=>
     obtain⟨m,h,d⟩:=cY (l:=l) (k:=j) (f:=g) (by simpa[c] using hg);exact e n m w g c d (by rintro rfl;exact o h)
   |succ i=>
    have a:(pick W l)[i]? =some f:=by simpa using a
    cases j with
    |zero=>
     obtain⟨m,h,d⟩:=cY a;simp[c]at hg;subst hg;exact e m n f w d c (by rintro rfl;exact o h)
    |succ j=>exact m6 e p i j f g a (by simpa[c] using hg) (by omega)
  ·rename_i c;rw[c]at hg;exact m6 e p i j f g a hg hij
theorem aG.pick{h0 h:ah}{T:Nat→Prop}{W R:List bc}(S:aG h0 T h W R)(l r:List Nat)(d:l.Nodup:=by decide):aG h0 T h (Sh.pick W l) (Sh.pick R r):=
 ⟨S.fra,fun k f a=>by obtain⟨i,_,hi⟩:=cY a;exact S.w i f hi,fun k f a=>by obtain⟨i,_,hi⟩:=cY a;exact S.r i f hi,
  fun k f a=>by obtain⟨i,_,hi⟩:=cY a;exact S.ok i f hi,m6 S.ww d,
  fun i j f g a b=>by obtain⟨e,_,hi⟩:=cY a;obtain⟨m,_,c⟩:=cY b;exact S.wr e m f g hi c⟩
def PD(W:List bc):Nat→Prop:=fun b=> ∃(i:Nat)(f:bc),W[i]? =some f∧f.foot b
theorem aG.into{h0 h:ah}{T:Nat→Prop}{W R:List bc}(S:aG h0 T h W R)(l m r:List Nat)(t:(l++m).Nodup:=by decide):aG h (PD (Sh.pick W l)) h (Sh.pick W l) (Sh.pick W m++Sh.pick R r):=by
 have c:=W5.1 t;refine⟨cd.refl _ _,(S.pick l r c.1).w,fun k f a=> ?_,fun k f a b s _=>⟨k,f,a,s⟩,m6 S.ww c.1,fun i j f g a d=> ?_⟩
 ·rw[Wm]at a;split at a
  ·obtain⟨i,_,hi⟩:=cY a;exact S.w i f hi
  ·obtain⟨i,_,hi⟩:=cY a;exact S.r i f hi
 ·obtain⟨q,e,hi⟩:=cY a;rw[Wm]at d;split at d
  ·obtain⟨p,o,n⟩:=cY d;exact S.ww q p f g hi n (c.2.2 _ e _ o)
  ·obtain⟨p,_,n⟩:=cY d;exact S.wr q p f g hi n
theorem aG.fra0{h0 h a:ah}{T:Nat→Prop}{W R:List bc}(S:aG h0 T h W R)(k:cd no h a):aG h0 T a W R:=by
 have:aG h0 T a (W++[]) R:=S.add (W1:=[]) (R1:=[]) (U:=no) ⟨k,by simp,by simp,by simp,by simp,by simp⟩ fun b _ h=>h
 rwa [Wd]at this
def bY:List bc→List Nat→List bc→List bc
 |W,[],W1=>W++W1
 |W,i::l,f::W1=>bY (W.set i f) l W1
 |W,_::_,[]=>W
theorem mr{f:bc}{k:Nat}: ∀{l:List Nat}{W a:List bc},l.Nodup→(∀i∈l,i<W.length)→l.length≤a.length→(bY W l a)[k]? =some f→
 (∃m,a[m]? =some f∧(l[m]? =some k∨(l.length≤m∧k=W.length+(m-l.length))))∨(k∉l∧W[k]? =some f)
 |[],W,a,_,_,_,h=>by
  simp only[bY]at h;rw[Wm]at h;split at h
  ·exact .inr ⟨by simp,h⟩
  ·exact .inl ⟨_,h,.inr ⟨by simp,by simp;omega⟩⟩
 |i::l,W,f0::a,hn,hi,hl,h=>by
  obtain⟨p,g⟩:=WY.1 hn;simp only[bY]at h;rcases mr g (fun j n=>by rw[VU];exact hi j (by simp[n])) (by simpa using hl) h with ⟨m,o,c⟩|⟨e,b⟩
  ·refine .inl ⟨m+1,by simpa using o,?_⟩;rcases c with c|⟨c,e⟩
   ·exact .inl (by simpa using c)
   ·rw[VU]at e;exact .inr ⟨by simp;omega,by simp;omega⟩
  ·rw[Xh]at b;split at b
   ·rename_i d;subst d;rw[if_pos (hi i (by simp))]at b;cases b;exact .inl ⟨0,rfl,.inl rfl⟩
   ·exact .inr ⟨by simp;exact⟨by omega,e⟩,b⟩
 |i::l,W,[],_,_,hl,_=>by simp at hl
theorem aG.back{h0 h K:ah}{T:Nat→Prop}{W R W1 R1:List bc}(S:aG h0 T h W R)(l:List Nat)(x:aG h (PD (Sh.pick W l)) K W1 R1)(G:l.Nodup:=by decide)(n:l.all (· <W.length)=true:=by rfl)(e:Nat.ble l.length W1.length=true:=by rfl):
 aG h0 T K (bY W l W1) R:=by
 have n: ∀i∈l,i<W.length:=fun i hi=>by simpa using Xy.1 n i hi
 have e:l.length≤W1.length:=OU e;have y: ∀(b:Nat),b<h.size→PD (Sh.pick W l) b→ ∃i f,i∈l∧W[i]? =some f∧f.foot b:=fun b _ ⟨j,f,J,a⟩=>by
  obtain⟨i,hi,o⟩:=cY J;exact⟨i,f,hi,o,a⟩
 have A: ∀(j:Nat)(g:bc),W[j]? =some g→j∉l→ ∀b,g.foot b→ ¬PD (Sh.pick W l) b:=fun j g p J b a C=>by
  obtain⟨i,f,hi,o,d⟩:=y b (g.lt (S.w j g p) a) C;exact S.ww i j f g o p (by rintro rfl;exact J hi) b d a
 have new: ∀(j:Nat)(g:bc),W1[j]? =some g→ ∀b,g.foot b→(∃i f,i∈l∧W[i]? =some f∧f.foot b)∨h.size≤b:=fun j g p b a=>by
  by_cases n:b<h.size
  ·exact .inl (y b n (x.ok j g p b a n))
  ·exact .inr (by omega)
 refine⟨⟨W3 S.fra.size x.fra.size,fun b a L=> ?_⟩,fun j g p=> ?_,fun j g p=> ?_,fun j g p b a z=> ?_,fun j k g q p t D b a c=> ?_,fun j k g q p t b a c=> ?_⟩
 ·rw[x.fra.same b (Xf a S.fra.size) fun C=>by
   obtain⟨i,f,hi,o,d⟩:=y b (Xf a S.fra.size) C;exact L (S.ok i f o b d a)]
  exact S.fra.same b a L
 ·rcases mr G n e p with ⟨m,v,_⟩|⟨B,o⟩
  ·exact x.w m g v
  ·exact g.loc (S.w j g o) x.fra.size fun b a=>x.fra.same b (g.lt (S.w j g o) a) (A j g o B b a)
 ·exact g.loc (S.r j g p) x.fra.size fun b a=>x.fra.same b (g.lt (S.r j g p) a) fun C=>by
   obtain⟨i,f,hi,o,d⟩:=y b (g.lt (S.r j g p) a) C;exact S.wr i j f g o p b d a
 ·rcases mr G n e p with ⟨m,v,_⟩|⟨B,o⟩
  ·rcases new m g v b a with ⟨i,f,hi,u,d⟩|h
   ·exact S.ok i f u b d z
   ·have:=S.fra.size;omega
  ·exact S.ok j g o b a z
 ·have key: ∀(m:Nat)(g:bc),W1[m]? =some g→ ∀(k:Nat)(q:bc),k∉l→W[k]? =some q→ ∀b,g.foot b→q.foot b→False:=fun m g v k q B o b a c=>by
   rcases new m g v b a with ⟨i,f,hi,u,d⟩|h
   ·exact S.ww i k f q u o (by rintro rfl;exact B hi) b d c
   ·have:=q.lt (S.w k q o) c;omega
  rcases mr G n e p with ⟨m,v,H⟩|⟨B,o⟩<;>rcases mr G n e t with ⟨M,F,s⟩|⟨E,I⟩
  ·refine x.ww m M g q v F ?_ b a c;rintro rfl;rcases H with H|⟨H,O⟩<;>rcases s with s|⟨s,N⟩
   ·rw[H]at s;cases s;exact D rfl
   ·have:=(R8.1 H).1;omega
   ·have:=(R8.1 s).1;omega
   ·omega
  ·exact key m g v k q E I b a c
  ·exact key M q F j g B o b c a
  ·exact S.ww j k g q o I D b a c
 ·rcases mr G n e p with ⟨m,v,_⟩|⟨E,o⟩
  ·rcases new m g v b a with ⟨i,f,hi,u,d⟩|h
   ·exact S.wr i k f q u t b d c
   ·have:=q.lt (S.r k q t) c;omega
  ·exact S.wr j k g q o t b a c
theorem aG.size{h0 h:ah}{T:Nat→Prop}{W R:List bc}(S:aG h0 T h W R):h0.size≤h.size:=S.fra.size
theorem aG.c{h0 h : ah}{T : Nat → Prop}{W R : List bc}(S : aG h0 T h W R)(i : Nat){b k : Nat}{cs : List Value}{v : Value}(e : W[i]? = some (aJ b cs) := by rfl)(c : cs[k]? = some v := by rfl) : aB h ⟨b, k, none⟩ = some v := At.cell (S.w i _ e) c
theorem aG.ro{h0 h : ah}{T : Nat → Prop}{W R : List bc}(S : aG h0 T h W R)(i : Nat){p : Option Addr}{xs : List Value}(e : R[i]? = some (row p xs) := by rfl) : bD h p xs := S.r i _ e
theorem aG.ow{h0 h : ah}{T : Nat → Prop}{W R : List bc}(S : aG h0 T h W R)(i : Nat){sz : Nat}{p : Option Addr}{l c : Nat}{xs : List Value}(e : W[i]? = some (own sz p l c xs) := by rfl) : m8 h 0 sz p l c xs := S.w i _ e
theorem aG.rd{h0 h : ah}{T : Nat → Prop}{W R : List bc}(S : aG h0 T h W R)(i : Nat){f : bc}(e : R[i]? = some f := by rfl) : f.P h := S.r i f e
theorem aG.wd{h0 h : ah}{T : Nat → Prop}{W R : List bc}(S : aG h0 T h W R)(i : Nat){f : bc}(e : W[i]? = some f := by rfl) : f.P h := S.w i f e
theorem aG.ap{h0 h : ah}{T : Nat → Prop}{W R : List bc}(S : aG h0 T h W R)(i : Nat){b : Nat}{cs : List Value}(e : W[i]? = some (aJ b cs) := by rfl) : At h b cs := S.w i _ e
theorem aG.at{h0 h:ah}{T:Nat→Prop}{W R:List bc}(S:aG h0 T h W R)(i:Nat){b:Nat}{cs:List Value}(e:W[i]? =some (aJ b cs)):At h b cs:=S.w i _ e
theorem aG.own{h0 h:ah}{T:Nat→Prop}{W R:List bc}(S:aG h0 T h W R)(i:Nat){sz:Nat}{p:Option Addr}{l c:Nat}{xs:List Value}(e:W[i]? =some (own sz p l c xs)):m8 h 0 sz p l c xs:=S.w i _ e
theorem aG.row{h0 h:ah}{T:Nat→Prop}{W R:List bc}(S:aG h0 T h W R)(i:Nat){p:Option Addr}{xs:List Value}(e:R[i]? =some (row p xs)):bD h p xs:=S.r i _ e
theorem aG.cell{h0 h:ah}{T:Nat→Prop}{W R:List bc}(S:aG h0 T h W R)(i:Nat){b k:Nat}{cs:List Value}{v:Value}(e:W[i]? =some (aJ b cs))(c:cs[k]? =some v):aB h ⟨b,k,none⟩=some v:=(S.at i e).cell c
theorem aG.cellR{h0 h:ah}{T:Nat→Prop}{W R:List bc}(S:aG h0 T h W R)(i:Nat){b k:Nat}{cs:List Value}{v:Value}(e:R[i]? =some (aJ b cs))(c:cs[k]? =some v):aB h ⟨b,k,none⟩=some v:=At.cell (S.r i _ e) c
theorem aA{h0 h:ah}{T:Nat→Prop}{W R:List bc}(S:aG h0 T h W R){cs:List Value}{e:TypeId}{K:Nat→ah→Prop}(H: ∀b a,b=h.size→aG h0 T a (W++[aJ b cs]) R→K b a):aP h (.cells cs.toArray e (0,0)) K:=by
 refine Dv fun b a f k d i=>H b a f ?_;exact S.add (aG.one i d fun c g j=>by have:c=b:=g;omega) fun b _ h=>h
theorem be{h0 h:ah}{T:Nat→Prop}{W R:List bc}(S:aG h0 T h W R)(i:Nat){b k:Nat}{cs:List Value}{v:Value}{K:ah→Prop}(e:W[i]? =some (aJ b cs))(f:k<cs.length)
 (H: ∀a,a.size=h.size→aG h0 T a (W.set i (aJ b (cs.set k v))) R→K a):aQ h ⟨b,k,none⟩ v K:=
 kY (S.at i e) f fun a g c d=>H a g (S.upd i e (aJ b (cs.set k v)) d c fun _ h=> .inl h)
theorem ck{h0 h : ah}{T : Nat → Prop}{W R : List bc}(S : aG h0 T h W R)(i : Nat){b k : Nat}{cs : List Value}{v : Value}{K : ah → Prop}(H : ∀ h', h'.size = h.size → aG h0 T h' (W.set i (aJ b (cs.set k v))) R → K h')(e : W[i]? = some (aJ b cs) := by rfl)(a : k < cs.length := by exact OU rfl) : aQ h ⟨b, k, none⟩ v K := be S i e a H
theorem aG.nil{h0 h:ah}{T:Nat→Prop}{W R:List bc}(S:aG h0 T h W R)(sz:Nat):aG h0 T h (W++[Sh.own sz none 0 0 []]) R:=by
 exact S.add (aG.one (cd.refl no _) (m8.nil _ _ _) fun c e=>by obtain⟨a,d,_⟩:=e;cases d) fun b _ h=>h
theorem cI{h0 h:ah}{T:Nat→Prop}{W R:List bc}(S:aG h0 T h W R)(i:Nat){e sz f:Nat}{z:Value}{p:Option Addr}{l c n:Nat}{q:Option Addr}{xs ys:List Value}{K:Option Addr→Nat→Nat→ah→Prop}
 (w:W[i]? =some (own sz p l c xs)) (D:z.cells.size=sz) (x:f≠0) (m:(2*(l+n)+1024)*f≤2 ^ 48) (U:bD h q ys) (d:ys.length=n*sz) (J: ∀y∈ys,ib y=true)
 (H: ∀p' l' c' t,l'=l+n→aG h0 T t (W.set i (own sz p' l' c' (xs++ys))) R→K p' l' c' t):eI e sz f z p l c q n h K:=by
 have o:m8 h 0 sz p l c xs:=S.w i _ w;unfold eI Pk;refine⟨ys,U.readO d,fun r=> ?_,fun C=>⟨x,?_,xs,o.row.readO o.1,fun G A=> ?_⟩⟩
 ·obtain⟨B,X,⟨rfl,rfl,rfl⟩|⟨b,u,rfl,g,v,s,P⟩⟩:=o
  ·have O:n=0:=by omega
   subst O;have F:ys=[]:=Wn.1 (by simpa using d);have E:xs=[]:=Wn.1 (by simpa using B);subst F;subst E;exact⟨_,_,_,rfl,H none 0 0 h rfl (S.upd i w (Sh.own sz none 0 0 []) (cd.refl _ _) (m8.nil _ _ _) fun b g=> .inl g)⟩
  ·simp only;rw[aR,SN];have I:l*sz+n*sz≤u.length:=by rw[s,←Wr];exact Wu _ r
   refine m9 ys h u (l*sz) 0 v (by omega) J fun t Y k M=> ?_;refine⟨_,_,_,rfl,H _ _ _ t rfl (S.upd i w (Sh.own sz _ _ _ (xs++ys)) (M.mono fun j _ N=>⟨_,rfl,N.symm⟩) ?_ fun b g=> .inl g)⟩;refine⟨by rw[Tz,B,d,Wr],r,.inr ⟨b,_,rfl,g,k,?_,?_⟩⟩
   ·simp only[We,Tz,VV,Wh];omega
   ·have Q:u.take (l*sz)=xs:=by rw[←B];exact P
    simp only[We,Q];rw[VY,←VY xs ys];rw[W6 (by simp)];rw[py (by simp)]
 ·exact W3 (Wu _ (sy _ _ C)) m
 ·refine⟨_,_,_,rfl,H _ _ _ _ rfl (S.upd i w (Sh.own sz _ _ _ (xs++ys)) (cd.push _ _ _) ?_ fun b g=> .inr ?_)⟩
  ·refine⟨by rw[Tz,o.1,d,Wr],A,.inr ⟨h.size,_,rfl,WV _,At.new h _ e,?_,?_⟩⟩
   ·have V:(Builtin.zeroCells z.cells (G-(l+n))).toList.length=(G-(l+n))*sz:=by simp[Builtin.zeroCells,D]
    simp only[Tz,V,o.1,d];rw[←Wr,←Wr];congr 1;omega
   ·rw[W6 (by simp),py (by simp)]
  ·obtain⟨a,L,rfl⟩:=g;cases L;exact VX _
theorem fm{i:Int}{n:Nat}{K:Unit→Prop}(h0:0≤i)(a:i<(n:Int))(H:K ()):lZ i n K:=⟨h0,a,H⟩
theorem aG.two{h0 h:ah}{T:Nat→Prop}{f g:bc}(k:cd T h0 h)(m:f.P h)(o:g.P h)(r: ∀b,f.foot b→b<h0.size→T b)(d: ∀b,g.foot b→b<h0.size→T b)(e: ∀b,f.foot b→g.foot b→False):aG h0 T h [f,g] []:=by
 have key: ∀(i:Nat)(u:bc),[f,g][i]? =some u→(i=0∧u=f)∨(i=1∧u=g):=fun i u a=>by
  match i,a with
  |0,a=>simp at a;exact .inl ⟨rfl,a.symm⟩
  |1,a=>simp at a;exact .inr ⟨rfl,a.symm⟩
  |n+2,a=>simp at a
 refine⟨k,fun i u a=> ?_,by simp,fun i u a=> ?_,fun i j u v a s p b l c=> ?_,by simp⟩
 ·rcases key i u a with ⟨_,rfl⟩|⟨_,rfl⟩
  ·exact m
  ·exact o
 ·rcases key i u a with ⟨_,rfl⟩|⟨_,rfl⟩
  ·exact r
  ·exact d
 ·rcases key i u a with ⟨hi,rfl⟩|⟨hi,rfl⟩<;>rcases key j v s with ⟨q,rfl⟩|⟨q,rfl⟩
  ·omega
  ·exact e b l c
  ·exact e b c l
  ·omega
theorem aG.view{h0 h:ah}{T:Nat→Prop}{W R:List bc}(S:aG h0 T h W R)(j:Nat){g:bc}(e:R[j]? =some g)(c:bc)(p:g.P h→c.P h)(q: ∀b,c.foot b→g.foot b):aG h0 T h W (R.set j c):=by
 have o:j<R.length:=(R8.1 e).1;have key: ∀(i:Nat)(u:bc),(R.set j c)[i]? =some u→u=c∨R[i]? =some u:=fun i u a=>by
  rw[Xh]at a;by_cases l:j=i
  ·subst l;simp only[o,if_true]at a;cases a;exact .inl rfl
  ·simp only[l,if_false]at a;exact .inr a
 refine⟨S.fra,S.w,fun i u a=> ?_,S.ok,S.ww,fun i k f u n a b m d=> ?_⟩
 ·rcases key i u a with rfl|a
  ·exact p (S.r j g e)
  ·exact S.r i u a
 ·rcases key k u a with rfl|a
  ·exact S.wr i j f g n e b m (q b d)
  ·exact S.wr i k f u n a b m d
theorem aG.rowB{h0 h:ah}{T:Nat→Prop}{W R:List bc}(S:aG h0 T h W R)(j:Nat){b:Nat}{cs:List Value}(e:R[j]? =some (aJ b cs):=by rfl):aG h0 T h W (R.set j (Sh.row (some ⟨b,0,none⟩) cs)):=
 S.view j e _ (fun h=>bD.of_at h) fun i hi=>by obtain⟨_,a,c,rfl⟩:=hi;cases c;rfl
theorem aG.rowO{h0 h:ah}{T:Nat→Prop}{W R:List bc}(S:aG h0 T h W R)(j:Nat){sz:Nat}{p:Option Addr}{l c:Nat}{xs:List Value}(e:R[j]? =some (Sh.own sz p l c xs):=by rfl):aG h0 T h W (R.set j (Sh.row p xs)):=
 S.view j e _ (fun h=>m8.row h) fun _ hi=>hi.2
theorem aG.updB{h0 h c:ah}{T:Nat→Prop}{W R:List bc}(S:aG h0 T h W R)(i:Nat){b:Nat}{cs a:List Value}(k:cd (fun j=>j=b) h c)(d:At c b a)(e:W[i]? =some (aJ b cs):=by rfl):aG h0 T c (W.set i (aJ b a)) R:=
 S.upd i e (aJ b a) k d fun _ h=> .inl h
theorem bD.drop'{h:ah}{p:Option Addr}{xs:List Value}(r:bD h p xs)(n:Nat)(b:n≤xs.length):bD h (p.map fun a=>Addr.add a n) (xs.drop n):=by
 cases p with
 |none=>
  rcases r with rfl|⟨a,e,_⟩
  ·exact .inl (by simp)
  ·cases e
 |some a=>exact r.drop n b
theorem aG.part{h0 h:ah}{T:Nat→Prop}{W R:List bc}(S:aG h0 T h W R)(j:Nat){p:Option Addr}{xs:List Value}(lo n:Nat)(d:lo≤xs.length)(e:R[j]? =some (Sh.row p xs):=by rfl):aG h0 T h W (R.set j (Sh.row (p.map fun a=>Addr.add a lo) ((xs.drop lo).take n))):=
 S.view j e _ (fun h=>(bD.drop' h lo d).take n) fun i hi=>by
  obtain⟨f,a,b,rfl⟩:=hi;cases p with
  |none=>cases b
  |some c=>
   cases b;refine⟨?_,c,rfl,?_⟩
   ·rintro rfl;simp at f
   ·unfold Addr.add;split<;>rfl
theorem UM(c:Nat)(s:Nat)(p:Option Addr):(if c=0 then p else Option.map (fun a=>Addr.add a (0*s)) p)=p:=by
 split
 ·rfl
 ·exact PE p s
theorem aG.head{h0 h:ah}{T:Nat→Prop}{W R:List bc}(S:aG h0 T h W R)(j:Nat){p:Option Addr}{xs:List Value}(n:Nat)(e:R[j]? =some (Sh.row p xs):=by rfl):aG h0 T h W (R.set j (Sh.row p (xs.take n))):=
 S.view j e _ (fun h=>bD.take h n) fun i hi=>⟨fun a=>hi.1 (by rw[a];simp),hi.2⟩
theorem aG.tail{h0 h:ah}{T:Nat→Prop}{W R:List bc}(S:aG h0 T h W R)(j:Nat){p:Option Addr}{xs:List Value}(c k s:Nat)(g:xs.length≤c*s)(l:k*s≤xs.length)(e:R[j]? =some (Sh.row p xs):=by rfl):
 aG h0 T h W (R.set j (Sh.row (if c=k then p else Option.map (fun a=>Addr.add a (k*s)) p) (xs.drop (k*s)))):=by
 refine S.view j e _ (fun h=> ?_) fun i hi=> ?_
 ·show bD _ (if c=k then p else Option.map (fun a=>Addr.add a (k*s)) p) (xs.drop (k*s));split
  ·rename_i d;subst d;exact .inl (by rw[List.drop_eq_nil_iff];exact g)
  ·exact bD.drop' h (k*s) l
 ·obtain⟨m,a,b,rfl⟩:=hi;refine⟨fun h=>m (by rw[h];simp),?_⟩;split at b
  ·exact⟨a,b,rfl⟩
  ·cases p with
   |none=>cases b
   |some f=>
    cases b;refine⟨f,rfl,?_⟩;unfold Addr.add;split<;>rfl
theorem vd(xs:List Int)(n:Nat):(az xs).take n=az (xs.take n):=by simp[az,List.map_take]
theorem NC(xs:List Int)(n:Nat):(az xs).drop n=az (xs.drop n):=by simp[az,List.map_drop]
theorem m7{h:ah}{a:Addr}{v:Value}{K:ah→Prop}(H:aQ h a v K):aQ h a v K:=H
theorem aV{k:IntKind}{h:ah}{a:Addr}{K:Int→Prop}(H:af k h a K):af k h a K:=H
theorem zP{h:ah}{a:Addr}{K:Bool→Prop}(H:dH h a K):dH h a K:=H
theorem uy{h:ah}{a:Addr}{K:ByteArray→Prop}(H:sr h a K):sr h a K:=H
theorem cp{h:ah}{a:Addr}{K:Option Addr→Nat→Nat→Prop}(H:am h a K):am h a K:=H
theorem uz{h:ah}{a:Addr}{v:Option Value}{K:Prop}(H:aB h a=v∧K):aB h a=v∧K:=H
theorem aX{h:ah}{a:Addr}{v:Option Value}{K:Prop}(H:aB h a=v)(k:K):aB h a=v∧K:=⟨H,k⟩
def cM(l:List bc):bc:=
 {P:=fun h=> ∀f∈l,f.P h,foot:=fun b=> ∃f∈l,f.foot b,
  lt:=fun a ⟨f,hf,c⟩=>f.lt (a f hf) c,
  loc:=fun a d c f hf=>f.loc (a f hf) d fun b h=>c b ⟨f,hf,h⟩}
theorem aG.oneOf{h0 h:ah}{T:Nat→Prop}{W R:List bc}(S:aG h0 T h W R)(j:Nat){l:List bc}{f:bc}(a:f∈l)(e:R[j]? =some (cM l):=by rfl):aG h0 T h W (R.set j f):=
 S.view j e f (fun h=>h f a) fun _ b=>⟨f,a,b⟩
theorem aG.readF{h0 h:ah}{T:Nat→Prop}{W R:List bc}(S:aG h0 T h W R)(j:Nat){l:List bc}{f:bc}(a:f∈l)(e:R[j]? =some (cM l):=by rfl):f.P h:=S.r j _ e f a
theorem ve{α:Type}(f:α→List Value)(c:Nat)(a: ∀x,(f x).length=c): ∀(l:List α)(i j:Nat)(x:α),l[i]? =some x→j<c→(l.map f).flatten[i*c+j]? =(f x)[j]?
 |[],i,j,x,h,_=>by simp at h
 |y::r,0,j,x,h,hj=>by
  simp at h;subst h;rw[Wc,WR,WE (by rw[a];omega)];simp
 |y::r,i+1,j,x,h,hj=>by
  rw[Wc,WR,Wl (by rw[a,Wr];omega),a];have:=ve f c a r i j x (by simpa using h) hj;rw[←this];congr 1;rw[Wr];omega
theorem pT{α:Type}(f:α→List Value)(c:Nat)(a: ∀x,(f x).length=c): ∀(l:List α),(l.map f).flatten.length=l.length*c
 |[]=>by simp
 |y::r=>by rw[Wc,WR,Tz,a,pT f c a r,VS,Wr];omega
