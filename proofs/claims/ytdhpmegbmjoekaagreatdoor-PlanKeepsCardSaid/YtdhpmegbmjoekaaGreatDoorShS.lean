/- Sh, part 11: facts of a heap that stand apart from one another, kept in lists; rules over them. -/
import Derived.Test.YtdhpmegbmjoekaaGreatDoorShL
set_option linter.unusedSimpArgs false
set_option linter.unusedVariables false
namespace Go.Sh
structure aY where
 P:af→Prop
 foot:Nat→Prop
 lt: ∀{h:af} {b:Nat},P h→foot b→b<h.size
 loc: ∀{h h':af},P h→h.size≤h'.size→(∀b,foot b→h'[b]? =h[b]?)→P h'
def blk (b:Nat) (cs:List Value):aY:=
 {P:=fun h=>At h b cs,foot:=fun i=>i=b,lt:=fun a e=>by subst e;exact a.lt,
  loc:=fun a _ c=>by obtain⟨e,lo,hi,hb,d⟩:=a;exact⟨e,lo,hi,by rw[c _ rfl];exact hb,d⟩}
def row (p:Option Addr) (xs:List Value):aY:=
 {P:=fun h=>bI h p xs,foot:=fun i=>xs≠[]∧ ∃a,p=some a∧a.block=i,
  lt:=fun{h} {b} r=>by
   rintro⟨c,a,rfl,rfl⟩
   rcases r with rfl|⟨o,e,_,g,d,_⟩
   ·exact absurd rfl c
   ·cases e;exact d.lt
  loc:=fun{h} {q} r _ n=>by
   rcases r with rfl|⟨a,rfl,j,g,⟨e,f,k⟩,m,l⟩
   ·exact .inl rfl
   ·by_cases c:xs=[]
    ·exact .inl c
    ·exact .inr ⟨a,rfl,j,g,⟨e,f,by rw[n _ ⟨c,a,rfl,rfl⟩];exact k⟩,m,l⟩}
def own (sz:Nat) (p:Option Addr) (l c:Nat) (xs:List Value):aY:=
 {P:=fun h=>qB h 0 sz p l c xs,foot:=fun i=> ∃a,p=some a∧a.block=i,
  lt:=fun{h} {b} o=>by
   rintro⟨a,rfl,rfl⟩
   obtain⟨_,_,⟨e,_⟩|⟨b,g,e,_,d,_⟩⟩:=o
   ·cases e
   ·cases e;exact d.lt
  loc:=fun{h} {u} o s r=>by
   obtain⟨j,k,m|⟨b,g,rfl,q,⟨e,lo,hi,f,t⟩,n⟩⟩:=o
   ·exact⟨j,k,.inl m⟩
   ·exact⟨j,k,.inr ⟨b,g,rfl,q,⟨e,lo,hi,by rw[r _ ⟨_,rfl,rfl⟩];exact f,t⟩,n⟩⟩}
structure aJ (h0:af) (T:Nat→Prop) (h:af) (W R:List aY):Prop where
 fra:cp T h0 h
 w: ∀(i:Nat) (f:aY),W[i]? =some f→f.P h
 r: ∀(i:Nat) (f:aY),R[i]? =some f→f.P h
 ok: ∀(i:Nat) (f:aY),W[i]? =some f→ ∀b,f.foot b→b<h0.size→T b
 ww: ∀(i j:Nat) (f g:aY),W[i]? =some f→W[j]? =some g→i≠j→ ∀b,f.foot b→g.foot b→False
 wr: ∀(i j:Nat) (f g:aY),W[i]? =some f→R[j]? =some g→ ∀b,f.foot b→g.foot b→False
theorem aJ.start (h:af) (T:Nat→Prop):aJ h T h [] []:=
 ⟨cp.refl _ _,by simp,by simp,by simp,by simp,by simp⟩
theorem aJ.read {h0 h:af} {T:Nat→Prop} {R:List aY} (S:aJ h0 T h [] R) (f:aY) (b:f.P h):aJ h0 T h [] (R++[f]):=
 ⟨S.fra,by simp,(fun i g a=>by
  rw[Vy] at a;split at a
  ·exact S.r i g a
  ·rw[WF] at a;split at a
   ·cases a;exact b
   ·cases a),by simp,by simp,by simp⟩
theorem aJ.one {h0 h:af} {T:Nat→Prop} {f:aY} (k:cp T h0 h) (l:f.P h) (n: ∀b,f.foot b→b<h0.size→T b):aJ h0 T h [f] []:=by
 have c: ∀(i:Nat) (g:aY),[f][i]? =some g→i=0∧g=f:=fun i g a=>by
  rw[WF] at a;split at a
  ·cases a;exact⟨by assumption,rfl⟩
  ·cases a
 refine⟨k,fun i g a=> ?_,by simp,fun i g a=> ?_,fun i j g e a d m=> ?_,by simp⟩
 ·obtain⟨_,rfl⟩:=c i g a;exact l
 ·obtain⟨_,rfl⟩:=c i g a;exact n
 ·have:=(c i g a).1;have:=(c j e d).1;omega
theorem aJ.upd {h0 h u:af} {T:Nat→Prop} {W R:List aY} (S:aJ h0 T h W R) (i:Nat) {f:aY} (e:W[i]? =some f) (t:aY) (k:cp f.foot h u) (A:t.P u)
 (y: ∀b,t.foot b→f.foot b∨h.size≤b):aJ h0 T u (W.set i t) R:=by
 have hi:i<W.length:=(Pt.1 e).1;have p: ∀(j:Nat) (g:aY),W[j]? =some g→i≠j→g.P u:=fun j g a v=>g.loc (S.w j g a) k.size fun b c=>k.same b (g.lt (S.w j g a) c) fun n=>S.ww i j f g e a v b n c;refine⟨⟨VZ S.fra.size k.size,fun b c z=> ?_⟩,fun j g a=> ?_,fun j g a=> ?_,fun j g a b c s=> ?_,fun j l g o a d x b c m=> ?_,fun j l g o a d b c m=> ?_⟩
 ·rw[k.same b (Wd c S.fra.size) fun n=>z (S.ok i f e b n c)];exact S.fra.same b c z
 ·rw[Wi] at a;split at a
  ·cases a;exact A
  ·exact p j g a (by assumption)
 ·exact g.loc (S.r j g a) k.size fun b c=>k.same b (g.lt (S.r j g a) c) fun n=>S.wr i j f g e a b n c
 ·rw[Wi] at a;split at a
  ·cases a;rcases y b c with c|c
   ·exact S.ok i f e b c s
   ·have:=S.fra.size;omega
  ·exact S.ok j g a b c s
 ·have key: ∀(j:Nat) (g:aY),W[j]? =some g→i≠j→ ∀b,t.foot b→g.foot b→False:=fun j g a v b c q=>by
   rcases y b c with c|c
   ·exact S.ww i j f g e a v b c q
   ·have:=g.lt (S.w j g a) q;omega
  rw[Wi] at a d;split at a
  ·cases a;split at d
   ·omega
   ·exact key l o d (by assumption) b c m
  ·split at d
   ·cases d;exact key j g a (by assumption) b m c
   ·exact S.ww j l g o a d x b c m
 ·rw[Wi] at a;split at a
  ·cases a;rcases y b c with c|c
   ·exact S.wr i l f o e d b c m
   ·have:=o.lt (S.r l o d) m;omega
  ·exact S.wr j l g o a d b c m
theorem aJ.add {h0 h o:af} {T U:Nat→Prop} {W R W1 R1:List aY} (S:aJ h0 T h W R) (n:aJ h U o W1 R1) (q: ∀b,b<h.size→ ¬U b):aJ h0 T o (W++W1) R:=by
 have k:cp no h o:=n.fra.mono fun b c t=>q b c t;have i: ∀(j:Nat) (g:aY),W[j]? =some g→g.P o:=fun j (g:aY) a=>g.loc (S.w j g a) k.size fun b c=>k.same b (g.lt (S.w j g a) c) fun h=>h;have new: ∀(j:Nat) (g:aY),W1[j]? =some g→ ∀b,g.foot b→h.size≤b:=fun j g a b c=>by
  apply Decidable.byContradiction;intro m;exact q b (by omega) (n.ok j g a b c (by omega))
 refine⟨⟨VZ S.fra.size k.size,fun b c s=> ?_⟩,fun j g a=> ?_,fun j g a=> ?_,fun j g a b c m=> ?_,fun j l g f a d p b c e=> ?_,fun j l g f a d b c e=> ?_⟩
 ·rw[k.same b (Wd c S.fra.size) fun h=>h];exact S.fra.same b c s
 ·rw[Vy] at a;split at a
  ·exact i j g a
  ·exact n.w _ g a
 ·exact g.loc (S.r j g a) k.size fun b c=>k.same b (g.lt (S.r j g a) c) fun h=>h
 ·rw[Vy] at a;split at a
  ·exact S.ok j g a b c m
  ·have:=new _ g a b c;have:=S.fra.size;omega
 ·rw[Vy] at a d;split at a
  ·split at d
   ·exact S.ww j l g f a d p b c e
   ·have:=new _ f d b e;have:=g.lt (S.w _ g a) c;omega
  ·split at d
   ·have:=new _ g a b c;have:=f.lt (S.w _ f d) e;omega
   ·exact n.ww _ _ g f a d (by omega) b c e
 ·rw[Vy] at a;split at a
  ·exact S.wr j l g f a d b c e
  ·have:=new _ g a b c;have:=f.lt (S.r _ f d) e;omega
def pick (W:List aY):List Nat→List aY
 |[]=>[]
 |i::l=>match W[i]? with
  |some f=>f::pick W l
  |none=>pick W l
theorem dy {W:List aY}: ∀{l:List Nat} {k:Nat} {f:aY},(pick W l)[k]? =some f→ ∃i,i∈l∧W[i]? =some f
 |[],k,f,h=>by simp[pick] at h
 |i::l,k,f,h=>by
  simp only[pick] at h;split at h
  ·rename_i g c;cases k with
   |zero=>simp at h;subst h;exact⟨i,by simp,c⟩
   |succ k=>obtain⟨j,a,b⟩:=dy (l:=l) (k:=k) (f:=f) (by simpa using h);exact⟨j,by simp[a],b⟩
  ·obtain⟨j,a,b⟩:=dy h;exact⟨j,by simp[a],b⟩
theorem nK {W:List aY} (e: ∀(i j:Nat) (f g:aY),W[i]? =some f→W[j]? =some g→i≠j→ ∀b,f.foot b→g.foot b→False):
 ∀{l:List Nat},l.Nodup→ ∀(i j:Nat) (f g:aY),(pick W l)[i]? =some f→(pick W l)[j]? =some g→i≠j→ ∀b,f.foot b→g.foot b→False
 |[],_,i,j,f,g,a,_,_=>by simp[pick] at a
 |n::l,hn,i,j,f,g,a,hg,hij=>by
  obtain⟨o,p⟩:=Wj.1 hn;simp only[pick] at a hg;split at a
  ·rename_i w c;cases i with
   |zero=>
    simp at a;subst a;cases j with
    |zero=>omega
    |succ j=>
     obtain⟨m,h,d⟩:=dy (l:=l) (k:=j) (f:=g) (by simpa[c] using hg);exact e n m w g c d (by rintro rfl;exact o h)
   |succ i=>
    have a:(pick W l)[i]? =some f:=by simpa using a
    cases j with
    |zero=>
     obtain⟨m,h,d⟩:=dy a;simp[c] at hg;subst hg;exact e m n f w d c (by rintro rfl;exact o h)
    |succ j=>exact nK e p i j f g a (by simpa[c] using hg) (by omega)
  ·rename_i c;rw[c] at hg;exact nK e p i j f g a hg hij
theorem aJ.pick {h0 h:af} {T:Nat→Prop} {W R:List aY} (S:aJ h0 T h W R) (l r:List Nat) (d:l.Nodup:=by decide):aJ h0 T h (Sh.pick W l) (Sh.pick R r):=
 ⟨S.fra,fun k f a=>by obtain⟨i,_,hi⟩:=dy a;exact S.w i f hi,fun k f a=>by obtain⟨i,_,hi⟩:=dy a;exact S.r i f hi,
  fun k f a=>by obtain⟨i,_,hi⟩:=dy a;exact S.ok i f hi,nK S.ww d,
  fun i j f g a b=>by obtain⟨e,_,hi⟩:=dy a;obtain⟨m,_,c⟩:=dy b;exact S.wr e m f g hi c⟩
def OW (W:List aY):Nat→Prop:=fun b=> ∃(i:Nat) (f:aY),W[i]? =some f∧f.foot b
theorem aJ.into {h0 h:af} {T:Nat→Prop} {W R:List aY} (S:aJ h0 T h W R) (l m r:List Nat) (t:(l++m).Nodup:=by decide):aJ h (OW (Sh.pick W l)) h (Sh.pick W l) (Sh.pick W m++Sh.pick R r):=by
 have c:=Wa.1 t;refine⟨cp.refl _ _,(S.pick l r c.1).w,fun k f a=> ?_,fun k f a b s _=>⟨k,f,a,s⟩,nK S.ww c.1,fun i j f g a d=> ?_⟩
 ·rw[Vy] at a;split at a
  ·obtain⟨i,_,hi⟩:=dy a;exact S.w i f hi
  ·obtain⟨i,_,hi⟩:=dy a;exact S.r i f hi
 ·obtain⟨q,e,hi⟩:=dy a;rw[Vy] at d;split at d
  ·obtain⟨p,o,n⟩:=dy d;exact S.ww q p f g hi n (c.2.2 _ e _ o)
  ·obtain⟨p,_,n⟩:=dy d;exact S.wr q p f g hi n
theorem aJ.fra0 {h0 h a:af} {T:Nat→Prop} {W R:List aY} (S:aJ h0 T h W R) (k:cp no h a):aJ h0 T a W R:=by
 have:aJ h0 T a (W++[]) R:=S.add (W1:=[]) (R1:=[]) (U:=no) ⟨k,by simp,by simp,by simp,by simp,by simp⟩ fun b _ h=>h
 rwa [Vh] at this
def bE:List aY→List Nat→List aY→List aY
 |W,[],W1=>W++W1
 |W,i::l,f::W1=>bE (W.set i f) l W1
 |W,_::_,[]=>W
theorem mL {f:aY} {k:Nat}: ∀{l:List Nat} {W a:List aY},l.Nodup→(∀i∈l,i<W.length)→l.length≤a.length→(bE W l a)[k]? =some f→
 (∃m,a[m]? =some f∧(l[m]? =some k∨(l.length≤m∧k=W.length+(m-l.length))))∨(k∉l∧W[k]? =some f)
 |[],W,a,_,_,_,h=>by
  simp only[bE] at h;rw[Vy] at h;split at h
  ·exact .inr ⟨by simp,h⟩
  ·exact .inl ⟨_,h,.inr ⟨by simp,by simp;omega⟩⟩
 |i::l,W,f0::a,hn,hi,hl,h=>by
  obtain⟨p,g⟩:=Wj.1 hn;simp only[bE] at h;rcases mL g (fun j n=>by rw[U1];exact hi j (by simp[n])) (by simpa using hl) h with ⟨m,o,c⟩|⟨e,b⟩
  ·refine .inl ⟨m+1,by simpa using o,?_⟩;rcases c with c|⟨c,e⟩
   ·exact .inl (by simpa using c)
   ·rw[U1] at e;exact .inr ⟨by simp;omega,by simp;omega⟩
  ·rw[Wi] at b;split at b
   ·rename_i d;subst d;rw[if_pos (hi i (by simp))] at b;cases b;exact .inl ⟨0,rfl,.inl rfl⟩
   ·exact .inr ⟨by simp;exact⟨by omega,e⟩,b⟩
 |i::l,W,[],_,_,hl,_=>by simp at hl
theorem aJ.back {h0 h K:af} {T:Nat→Prop} {W R W1 R1:List aY} (S:aJ h0 T h W R) (l:List Nat) (x:aJ h (OW (Sh.pick W l)) K W1 R1) (G:l.Nodup:=by decide) (n:l.all (· <W.length)=true:=by rfl) (e:Nat.ble l.length W1.length=true:=by rfl):
 aJ h0 T K (bE W l W1) R:=by
 have n: ∀i∈l,i<W.length:=fun i hi=>by simpa using Wu.1 n i hi
 have e:l.length≤W1.length:=jb e;have y: ∀(b:Nat),b<h.size→OW (Sh.pick W l) b→ ∃i f,i∈l∧W[i]? =some f∧f.foot b:=fun b _ ⟨j,f,J,a⟩=>by
  obtain⟨i,hi,o⟩:=dy J;exact⟨i,f,hi,o,a⟩
 have A: ∀(j:Nat) (g:aY),W[j]? =some g→j∉l→ ∀b,g.foot b→ ¬OW (Sh.pick W l) b:=fun j g p J b a C=>by
  obtain⟨i,f,hi,o,d⟩:=y b (g.lt (S.w j g p) a) C;exact S.ww i j f g o p (by rintro rfl;exact J hi) b d a
 have new: ∀(j:Nat) (g:aY),W1[j]? =some g→ ∀b,g.foot b→(∃i f,i∈l∧W[i]? =some f∧f.foot b)∨h.size≤b:=fun j g p b a=>by
  by_cases n:b<h.size
  ·exact .inl (y b n (x.ok j g p b a n))
  ·exact .inr (by omega)
 refine⟨⟨VZ S.fra.size x.fra.size,fun b a L=> ?_⟩,fun j g p=> ?_,fun j g p=> ?_,fun j g p b a z=> ?_,fun j k g q p t D b a c=> ?_,fun j k g q p t b a c=> ?_⟩
 ·rw[x.fra.same b (Wd a S.fra.size) fun C=>by
   obtain⟨i,f,hi,o,d⟩:=y b (Wd a S.fra.size) C;exact L (S.ok i f o b d a)]
  exact S.fra.same b a L
 ·rcases mL G n e p with ⟨m,v,_⟩|⟨B,o⟩
  ·exact x.w m g v
  ·exact g.loc (S.w j g o) x.fra.size fun b a=>x.fra.same b (g.lt (S.w j g o) a) (A j g o B b a)
 ·exact g.loc (S.r j g p) x.fra.size fun b a=>x.fra.same b (g.lt (S.r j g p) a) fun C=>by
   obtain⟨i,f,hi,o,d⟩:=y b (g.lt (S.r j g p) a) C;exact S.wr i j f g o p b d a
 ·rcases mL G n e p with ⟨m,v,_⟩|⟨B,o⟩
  ·rcases new m g v b a with ⟨i,f,hi,u,d⟩|h
   ·exact S.ok i f u b d z
   ·have:=S.fra.size;omega
  ·exact S.ok j g o b a z
 ·have key: ∀(m:Nat) (g:aY),W1[m]? =some g→ ∀(k:Nat) (q:aY),k∉l→W[k]? =some q→ ∀b,g.foot b→q.foot b→False:=fun m g v k q B o b a c=>by
   rcases new m g v b a with ⟨i,f,hi,u,d⟩|h
   ·exact S.ww i k f q u o (by rintro rfl;exact B hi) b d c
   ·have:=q.lt (S.w k q o) c;omega
  rcases mL G n e p with ⟨m,v,H⟩|⟨B,o⟩<;>rcases mL G n e t with ⟨M,F,s⟩|⟨E,I⟩
  ·refine x.ww m M g q v F ?_ b a c;rintro rfl;rcases H with H|⟨H,O⟩<;>rcases s with s|⟨s,N⟩
   ·rw[H] at s;cases s;exact D rfl
   ·have:=(Pt.1 H).1;omega
   ·have:=(Pt.1 s).1;omega
   ·omega
  ·exact key m g v k q E I b a c
  ·exact key M q F j g B o b c a
  ·exact S.ww j k g q o I D b a c
 ·rcases mL G n e p with ⟨m,v,_⟩|⟨E,o⟩
  ·rcases new m g v b a with ⟨i,f,hi,u,d⟩|h
   ·exact S.wr i k f q u t b d c
   ·have:=q.lt (S.r k q t) c;omega
  ·exact S.wr j k g q o t b a c
theorem aJ.size {h0 h:af} {T:Nat→Prop} {W R:List aY} (S:aJ h0 T h W R):h0.size≤h.size:=S.fra.size
theorem aJ.at {h0 h:af} {T:Nat→Prop} {W R:List aY} (S:aJ h0 T h W R) (i:Nat) {b:Nat} {cs:List Value} (e:W[i]? =some (blk b cs)):At h b cs:=S.w i _ e
theorem aJ.own {h0 h:af} {T:Nat→Prop} {W R:List aY} (S:aJ h0 T h W R) (i:Nat) {sz:Nat} {p:Option Addr} {l c:Nat} {xs:List Value} (e:W[i]? =some (own sz p l c xs)):qB h 0 sz p l c xs:=S.w i _ e
theorem aJ.row {h0 h:af} {T:Nat→Prop} {W R:List aY} (S:aJ h0 T h W R) (i:Nat) {p:Option Addr} {xs:List Value} (e:R[i]? =some (row p xs)):bI h p xs:=S.r i _ e
theorem aJ.cell {h0 h:af} {T:Nat→Prop} {W R:List aY} (S:aJ h0 T h W R) (i:Nat) {b k:Nat} {cs:List Value} {v:Value} (e:W[i]? =some (blk b cs)) (c:cs[k]? =some v):aD h ⟨b,k,none⟩=some v:=(S.at i e).cell c
theorem aJ.cellR {h0 h:af} {T:Nat→Prop} {W R:List aY} (S:aJ h0 T h W R) (i:Nat) {b k:Nat} {cs:List Value} {v:Value} (e:R[i]? =some (blk b cs)) (c:cs[k]? =some v):aD h ⟨b,k,none⟩=some v:=At.cell (S.r i _ e) c
theorem aA {h0 h:af} {T:Nat→Prop} {W R:List aY} (S:aJ h0 T h W R) {cs:List Value} {e:TypeId} {K:Nat→af→Prop} (H: ∀b a,b=h.size→aJ h0 T a (W++[blk b cs]) R→K b a):aR h (.cells cs.toArray e (0,0)) K:=by
 refine OX fun b a f k d i=>H b a f ?_;exact S.add (aJ.one i d fun c g j=>by have:c=b:=g;omega) fun b _ h=>h
theorem aE {h0 h:af} {T:Nat→Prop} {W R:List aY} (S:aJ h0 T h W R) (i:Nat) {b k:Nat} {cs:List Value} {v:Value} {K:af→Prop} (e:W[i]? =some (blk b cs)) (f:k<cs.length)
 (H: ∀a,a.size=h.size→aJ h0 T a (W.set i (blk b (cs.set k v))) R→K a):aW h ⟨b,k,none⟩ v K:=
 OY (S.at i e) f fun a g c d=>H a g (S.upd i e (blk b (cs.set k v)) d c fun _ h=> .inl h)
theorem aJ.nil {h0 h:af} {T:Nat→Prop} {W R:List aY} (S:aJ h0 T h W R) (sz:Nat):aJ h0 T h (W++[Sh.own sz none 0 0 []]) R:=by
 exact S.add (aJ.one (cp.refl no _) (qB.nil _ _ _) fun c e=>by obtain⟨a,d,_⟩:=e;cases d) fun b _ h=>h
theorem cK {h0 h:af} {T:Nat→Prop} {W R:List aY} (S:aJ h0 T h W R) (i:Nat) {e sz f:Nat} {z:Value} {p:Option Addr} {l c n:Nat} {q:Option Addr} {xs ys:List Value} {K:Option Addr→Nat→Nat→af→Prop}
 (w:W[i]? =some (own sz p l c xs)) (D:z.cells.size=sz) (x:f≠0) (m:(2*(l+n)+1024)*f≤2 ^ 48) (U:bI h q ys) (d:ys.length=n*sz) (J: ∀y∈ys,lK y=true)
 (H: ∀p' l' c' t,l'=l+n→aJ h0 T t (W.set i (own sz p' l' c' (xs++ys))) R→K p' l' c' t):dx e sz f z p l c q n h K:=by
 have o:qB h 0 sz p l c xs:=S.w i _ w;unfold dx OC;refine⟨ys,U.readO d,fun r=> ?_,fun C=>⟨x,?_,xs,o.row.readO o.1,fun G A=> ?_⟩⟩
 ·obtain⟨B,X,⟨rfl,rfl,rfl⟩|⟨b,u,rfl,g,v,s,P⟩⟩:=o
  ·have O:n=0:=by omega
   subst O;have F:ys=[]:=Vm.1 (by simpa using d);have E:xs=[]:=Vm.1 (by simpa using B);subst F;subst E;exact⟨_,_,_,rfl,H none 0 0 h rfl (S.upd i w (Sh.own sz none 0 0 []) (cp.refl _ _) (qB.nil _ _ _) fun b g=> .inl g)⟩
  ·simp only;rw[aQ,SI];have I:l*sz+n*sz≤u.length:=by rw[s,←Vt];exact Vn _ r
   refine nM ys h u (l*sz) 0 v (by omega) J fun t Y k M=> ?_;refine⟨_,_,_,rfl,H _ _ _ t rfl (S.upd i w (Sh.own sz _ _ _ (xs++ys)) (M.mono fun j _ N=>⟨_,rfl,N.symm⟩) ?_ fun b g=> .inl g)⟩;refine⟨by rw[Rb,B,d,Vt],r,.inr ⟨b,_,rfl,g,k,?_,?_⟩⟩
   ·simp only[Va,Rb,U0,VF];omega
   ·have Q:u.take (l*sz)=xs:=by rw[←B];exact P
    simp only[Va,Q];rw[U6,←U6 xs ys];rw[V3 (by simp)];rw[N6 (by simp)]
 ·exact VZ (Vn _ (tp _ _ C)) m
 ·refine⟨_,_,_,rfl,H _ _ _ _ rfl (S.upd i w (Sh.own sz _ _ _ (xs++ys)) (cp.push _ _ _) ?_ fun b g=> .inr ?_)⟩
  ·refine⟨by rw[Rb,o.1,d,Vt],A,.inr ⟨h.size,_,rfl,V1 _,At.new h _ e,?_,?_⟩⟩
   ·have V:(Builtin.zeroCells z.cells (G-(l+n))).toList.length=(G-(l+n))*sz:=by simp[Builtin.zeroCells,D]
    simp only[Rb,V,o.1,d];rw[←Vt,←Vt];congr 1;omega
   ·rw[V3 (by simp),N6 (by simp)]
  ·obtain⟨a,L,rfl⟩:=g;cases L;exact U3 _
theorem jN {i:Int} {n:Nat} {K:Unit→Prop} (h0:0≤i) (a:i<(n:Int)) (H:K ()):wt i n K:=⟨h0,a,H⟩
theorem aJ.two {h0 h:af} {T:Nat→Prop} {f g:aY} (k:cp T h0 h) (m:f.P h) (o:g.P h) (r: ∀b,f.foot b→b<h0.size→T b) (d: ∀b,g.foot b→b<h0.size→T b) (e: ∀b,f.foot b→g.foot b→False):aJ h0 T h [f,g] []:=by
 have key: ∀(i:Nat) (u:aY),[f,g][i]? =some u→(i=0∧u=f)∨(i=1∧u=g):=fun i u a=>by
  match i,a with
  |0,a=>simp at a;exact .inl ⟨rfl,a.symm⟩
  |1,a=>simp at a;exact .inr ⟨rfl,a.symm⟩
  |n+2,a=>simp at a
 refine⟨k,fun i u a=> ?_,by simp,fun i u a=> ?_,fun i j u v a s p b l c=> ?_,by simp⟩
 ·rcases key i u a with ⟨_,rfl⟩|⟨_,rfl⟩
  ·exact m
  ·exact o
 ·rcases key i u a with ⟨_,rfl⟩|⟨_,rfl⟩
  ·exact r
  ·exact d
 ·rcases key i u a with ⟨hi,rfl⟩|⟨hi,rfl⟩<;>rcases key j v s with ⟨q,rfl⟩|⟨q,rfl⟩
  ·omega
  ·exact e b l c
  ·exact e b c l
  ·omega
theorem aJ.view {h0 h:af} {T:Nat→Prop} {W R:List aY} (S:aJ h0 T h W R) (j:Nat) {g:aY} (e:R[j]? =some g) (c:aY) (p:g.P h→c.P h) (q: ∀b,c.foot b→g.foot b):aJ h0 T h W (R.set j c):=by
 have o:j<R.length:=(Pt.1 e).1;have key: ∀(i:Nat) (u:aY),(R.set j c)[i]? =some u→u=c∨R[i]? =some u:=fun i u a=>by
  rw[Wi] at a;by_cases l:j=i
  ·subst l;simp only[o,if_true] at a;cases a;exact .inl rfl
  ·simp only[l,if_false] at a;exact .inr a
 refine⟨S.fra,S.w,fun i u a=> ?_,S.ok,S.ww,fun i k f u n a b m d=> ?_⟩
 ·rcases key i u a with rfl|a
  ·exact p (S.r j g e)
  ·exact S.r i u a
 ·rcases key k u a with rfl|a
  ·exact S.wr i j f g n e b m (q b d)
  ·exact S.wr i k f u n a b m d
theorem aJ.rowB {h0 h:af} {T:Nat→Prop} {W R:List aY} (S:aJ h0 T h W R) (j:Nat) {b:Nat} {cs:List Value} (e:R[j]? =some (blk b cs):=by rfl):aJ h0 T h W (R.set j (Sh.row (some ⟨b,0,none⟩) cs)):=
 S.view j e _ (fun h=>bI.of_at h) fun i hi=>by obtain⟨_,a,c,rfl⟩:=hi;cases c;rfl
theorem aJ.rowO {h0 h:af} {T:Nat→Prop} {W R:List aY} (S:aJ h0 T h W R) (j:Nat) {sz:Nat} {p:Option Addr} {l c:Nat} {xs:List Value} (e:R[j]? =some (Sh.own sz p l c xs):=by rfl):aJ h0 T h W (R.set j (Sh.row p xs)):=
 S.view j e _ (fun h=>qB.row h) fun _ hi=>hi.2
theorem aJ.updB {h0 h c:af} {T:Nat→Prop} {W R:List aY} (S:aJ h0 T h W R) (i:Nat) {b:Nat} {cs a:List Value} (k:cp (fun j=>j=b) h c) (d:At c b a) (e:W[i]? =some (blk b cs):=by rfl):aJ h0 T c (W.set i (blk b a)) R:=
 S.upd i e (blk b a) k d fun _ h=> .inl h
theorem bI.drop' {h:af} {p:Option Addr} {xs:List Value} (r:bI h p xs) (n:Nat) (b:n≤xs.length):bI h (p.map fun a=>Addr.add a n) (xs.drop n):=by
 cases p with
 |none=>
  rcases r with rfl|⟨a,e,_⟩
  ·exact .inl (by simp)
  ·cases e
 |some a=>exact r.drop n b
theorem aJ.part {h0 h:af} {T:Nat→Prop} {W R:List aY} (S:aJ h0 T h W R) (j:Nat) {p:Option Addr} {xs:List Value} (lo n:Nat) (d:lo≤xs.length) (e:R[j]? =some (Sh.row p xs):=by rfl):aJ h0 T h W (R.set j (Sh.row (p.map fun a=>Addr.add a lo) ((xs.drop lo).take n))):=
 S.view j e _ (fun h=>(bI.drop' h lo d).take n) fun i hi=>by
  obtain⟨f,a,b,rfl⟩:=hi;cases p with
  |none=>cases b
  |some c=>
   cases b;refine⟨?_,c,rfl,?_⟩
   ·rintro rfl;simp at f
   ·unfold Addr.add;split<;>rfl
theorem TE (c:Nat) (s:Nat) (p:Option Addr):(if c=0 then p else Option.map (fun a=>Addr.add a (0*s)) p)=p:=by
 split
 ·rfl
 ·exact OZ p s
theorem aJ.head {h0 h:af} {T:Nat→Prop} {W R:List aY} (S:aJ h0 T h W R) (j:Nat) {p:Option Addr} {xs:List Value} (n:Nat) (e:R[j]? =some (Sh.row p xs):=by rfl):aJ h0 T h W (R.set j (Sh.row p (xs.take n))):=
 S.view j e _ (fun h=>bI.take h n) fun i hi=>⟨fun a=>hi.1 (by rw[a];simp),hi.2⟩
theorem aJ.tail {h0 h:af} {T:Nat→Prop} {W R:List aY} (S:aJ h0 T h W R) (j:Nat) {p:Option Addr} {xs:List Value} (c k s:Nat) (g:xs.length≤c*s) (l:k*s≤xs.length) (e:R[j]? =some (Sh.row p xs):=by rfl):
 aJ h0 T h W (R.set j (Sh.row (if c=k then p else Option.map (fun a=>Addr.add a (k*s)) p) (xs.drop (k*s)))):=by
 refine S.view j e _ (fun h=> ?_) fun i hi=> ?_
 ·show bI _ (if c=k then p else Option.map (fun a=>Addr.add a (k*s)) p) (xs.drop (k*s));split
  ·rename_i d;subst d;exact .inl (by rw[List.drop_eq_nil_iff];exact g)
  ·exact bI.drop' h (k*s) l
 ·obtain⟨m,a,b,rfl⟩:=hi;refine⟨fun h=>m (by rw[h];simp),?_⟩;split at b
  ·exact⟨a,b,rfl⟩
  ·cases p with
   |none=>cases b
   |some f=>
    cases b;refine⟨f,rfl,?_⟩;unfold Addr.add;split<;>rfl
theorem vL (xs:List Int) (n:Nat):(az xs).take n=az (xs.take n):=by simp[az,Xg]
theorem M7 (xs:List Int) (n:Nat):(az xs).drop n=az (xs.drop n):=by simp[az,List.map_drop]
theorem nL {h:af} {a:Addr} {v:Value} {K:af→Prop} (H:aW h a v K):aW h a v K:=H
theorem aV {k:IntKind} {h:af} {a:Addr} {K:Int→Prop} (H:ah k h a K):ah k h a K:=H
theorem A7 {h:af} {a:Addr} {K:Bool→Prop} (H:eT h a K):eT h a K:=H
theorem vf {h:af} {a:Addr} {K:ByteArray→Prop} (H:tl h a K):tl h a K:=H
theorem cg {h:af} {a:Addr} {K:Option Addr→Nat→Nat→Prop} (H:aq h a K):aq h a K:=H
theorem vg {h:af} {a:Addr} {v:Option Value} {K:Prop} (H:aD h a=v∧K):aD h a=v∧K:=H
theorem aX {h:af} {a:Addr} {v:Option Value} {K:Prop} (H:aD h a=v) (k:K):aD h a=v∧K:=⟨H,k⟩
def bP (l:List aY):aY:=
 {P:=fun h=> ∀f∈l,f.P h,foot:=fun b=> ∃f∈l,f.foot b,
  lt:=fun a ⟨f,hf,c⟩=>f.lt (a f hf) c,
  loc:=fun a d c f hf=>f.loc (a f hf) d fun b h=>c b ⟨f,hf,h⟩}
theorem aJ.oneOf {h0 h:af} {T:Nat→Prop} {W R:List aY} (S:aJ h0 T h W R) (j:Nat) {l:List aY} {f:aY} (a:f∈l) (e:R[j]? =some (bP l):=by rfl):aJ h0 T h W (R.set j f):=
 S.view j e f (fun h=>h f a) fun _ b=>⟨f,a,b⟩
theorem aJ.readF {h0 h:af} {T:Nat→Prop} {W R:List aY} (S:aJ h0 T h W R) (j:Nat) {l:List aY} {f:aY} (a:f∈l) (e:R[j]? =some (bP l):=by rfl):f.P h:=S.r j _ e f a
theorem vM {α:Type} (f:α→List Value) (c:Nat) (a: ∀x,(f x).length=c): ∀(l:List α) (i j:Nat) (x:α),l[i]? =some x→j<c→(l.map f).flatten[i*c+j]? =(f x)[j]?
 |[],i,j,x,h,_=>by simp at h
 |y::r,0,j,x,h,hj=>by
  simp at h;subst h;rw[Vg,VW,VC (by rw[a];omega)];simp
 |y::r,i+1,j,x,h,hj=>by
  rw[Vg,VW,Vp (by rw[a,Vt];omega),a];have:=vM f c a r i j x (by simpa using h) hj;rw[←this];congr 1;rw[Vt];omega
theorem qA {α:Type} (f:α→List Value) (c:Nat) (a: ∀x,(f x).length=c): ∀(l:List α),(l.map f).flatten.length=l.length*c
 |[]=>by simp
 |y::r=>by rw[Vg,VW,Rb,a,qA f c a r,UY,Vt];omega
end Go.Sh

