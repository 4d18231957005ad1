/- Sh, part 14: what an argument is, by its type's shape: whole numbers, bools, strings, slices; structs and arrays of these. -/
import Derived.Test.YtdhpmegbmjoekaaGreatDoorShRow
set_option linter.unusedSimpArgs false
set_option linter.unusedVariables false
namespace Go.Sh
open Go.RowKit Go.ChangeShapes Go.WideShapes
inductive Sp where
 |int (k:IntKind)
 |bool
 |str
 |sl (es:List Sp)
def Mt (h:af):Nat→Sp→Value→Prop
 |0,_,_=>False
 |_+1,.int k,v=> ∃x,v= .int k x∧(Lit.int k x).wf=true
 |_+1,.bool,v=> ∃x,v= .bool x
 |_+1,.str,v=> ∃s,v= .string s∧s.size≤maxLen
 |n+1,.sl es,v=> ∃(p:Option Addr) (l c:Nat) (a:List (List Value)),v= .slice p l c∧a.length=l∧l≤c∧c≤maxLen∧bI h p a.flatten∧
   ∀xs∈a,xs.length=es.length∧ ∀(i:Nat) s x,es[i]? =some s→xs[i]? =some x→Mt h n s x
def N2 (h:af) (n:Nat) (ss:List Sp) (cs:List Value):Prop:=cs.length=ss.length∧ ∀(i:Nat) s v,ss[i]? =some s→cs[i]? =some v→Mt h n s v
theorem Mt.succ {h:af}: ∀{n:Nat} {s:Sp} {v:Value},Mt h n s v→Mt h (n+1) s v
 |0,_,_,m=>m.elim
 |_+1,.int _,_,m=>m
 |_+1,.bool,_,m=>m
 |_+1,.str,_,m=>m
 |n+1,.sl es,_,m=>by
  obtain⟨p,l,c,a,g,j,k,o,q,b⟩:=m;exact⟨p,l,c,a,g,j,k,o,q,fun xs d=>⟨(b xs d).1,fun i s x e f=>((b xs d).2 i s x e f).succ⟩⟩
def CV (P:Program):Nat→List Field→List (List Sp)→Bool
 |_,[],[]=>true
 |o,f::fs,s::ss=>f.offset==o&&P.cellsOf f.type==s.length&&CV P (o+s.length) fs ss
 |_,_,_=>false
def oZ (P:Program):Nat→TypeId→Option (List Sp)
 |0,_=>none
 |n+1,t=>match P.underlying t with
  |some .bool=>some [.bool]
  |some (.int k)=>some [.int k]
  |some .string=>some [.str]
  |some (.slice e)=>match oZ P n e with
   |some es=>if es.length=P.cellsOf e then some [.sl es] else none
   |none=>none
  |some (.struct b)=>match b.toList.mapM fun f=>oZ P n f.type with
   |some a=>if CV P 0 b.toList a=true∧P.cellsOf t=a.flatten.length then some a.flatten else none
   |none=>none
  |some (.array m e)=>match oZ P n e with
   |some es=>if es.length=P.cellsOf e∧P.cellsOf t=(List.replicate m es).flatten.length then some (List.replicate m es).flatten else none
   |none=>none
  |_=>none
theorem B7 {α:Type} {p:Nat→α→Prop}: ∀(n:Nat),(∀i,i<n→ ∃x,p i x)→ ∃l:List α,l.length=n∧ ∀i x,l[i]? =some x→p i x
 |0,_=>⟨[],rfl,by simp⟩
 |n+1,H=>by
  obtain⟨l,b,c⟩:=B7 n fun i hi=>H i (by omega);obtain⟨x,d⟩:=H n (by omega);refine⟨l++[x],by simp[b],fun i y a=> ?_⟩;rw[Vy] at a;split at a
  ·exact c i y a
  ·rw[WF] at a;split at a
   ·cases a;have:i=n:=by omega
    subst this;exact d
   ·cases a
theorem Kj {c:Nat}: ∀{a:List (List Value)} {j:Nat} {v:Value},(∀xs∈a,xs.length=c)→a.flatten[j]? =some v→ ∃i k xs,j=i*c+k∧k<c∧a[i]? =some xs∧xs[k]? =some v
 |[],_,_,_,h=>by simp at h
 |xs::r,j,v,hc,h=>by
  have m:=hc xs (by simp);rw[VW,Vy] at h;split at h
  ·exact⟨0,j,xs,by omega,by omega,rfl,h⟩
  ·obtain⟨i,k,b,e,g,d,f⟩:=Kj (fun b l=>hc b (by simp[l])) h;refine⟨i+1,k,b,?_,g,by simpa using d,f⟩;rw[Vt];omega
theorem P4 (a:Addr) (m n:Nat):Addr.add (Addr.add a m) n=Addr.add a (m+n):=by
 by_cases h:n=0
 ·subst h;rfl
 ·exact rW a m h
theorem P5 {P:Program} {h:af} {n:Nat} {cs:List Value}: ∀(c:List Field) (a:List (List Sp)) (o:Nat),CV P o c a=true→
 (∀(i:Nat) (f:Field) (ss:List Sp),c[i]? =some f→a[i]? =some ss→N2 h n ss ((cs.drop f.offset).take (P.cellsOf f.type)))→ ∀(i:Nat) (s:Sp) (v:Value),a.flatten[i]? =some s→cs[o+i]? =some v→Mt h n s v
 |[],[],_,_,_,i,s,v,h1,_=>by simp at h1
 |f::c,ss::a,o,b,H,i,s,v,h1,h2=>by
  simp only[CV,U9,beq_iff_eq] at b;obtain⟨⟨k,j⟩,b⟩:=b;rw[VW,Vy] at h1;split at h1
  ·rename_i hi;refine(H 0 f ss rfl rfl).2 i s v h1 ?_;rw[k,j,Wl,if_pos hi,VI];exact h2
  ·refine P5 (cs:=cs) c a (o+ss.length) b (fun i f d e g=>H (i+1) f d (by simpa using e) (by simpa using g)) (i-ss.length) s v h1 ?_;rw[show o+ss.length+(i-ss.length)=o+i by omega];exact h2
 |[],_::_,_,b,_,_,_,_,_,_=>by simp[CV] at b
 |_::_,[],_,b,_,_,_,_,_,_=>by simp[CV] at b
theorem P6 {h:af} {n:Nat} {cs:List Value} {ss:List Sp}: ∀(m o:Nat),(∀i,i<m→N2 h n ss ((cs.drop (o+i*ss.length)).take ss.length))→ ∀(i:Nat) (s:Sp) (v:Value),(List.replicate m ss).flatten[i]? =some s→cs[o+i]? =some v→Mt h n s v
 |0,_,_,i,s,v,a,_=>by simp at a
 |m+1,o,H,i,s,v,a,b=>by
  rw[VO,VW,Vy] at a;split at a
  ·rename_i hi;refine(H 0 (by omega)).2 i s v a ?_;rw[Wl,if_pos hi,VI,Nat.zero_mul,Va];exact b
  ·refine P6 (cs:=cs) m (o+ss.length) (fun i hi=> ?_) (i-ss.length) s v a ?_
   ·have:=H (i+1) (by omega)
    rwa [show o+(i+1)*ss.length=o+ss.length+i*ss.length by rw[Vt];omega] at this
   ·rw[show o+ss.length+(i-ss.length)=o+i by omega];exact b
theorem nX {H:Type} {enc:TypeId×Value→H} {P:Program} {w:World} {base:Nat} {sp:Nat→Bool} {E:Bool}: ∀(n:Nat) (t:TypeId) (ss:List Sp) (p:Nat) (J:List Value) (x:DataW H×List MemPlace),
 oZ P n t=some ss→DataW.trod enc P w base sp E p t J=some x→N2 w.heap n ss J
 |0,_,_,_,_,_,d,_=>by simp[oZ] at d
 |n+1,t,ss,p,J,x,d,z=>by
  unfold oZ at d;split at d
  ·rename_i l;cases d;obtain⟨b,rfl,_⟩:=DataW.trod_bool l z;refine⟨rfl,fun i s v c g=> ?_⟩;cases i with
   |zero=>simp at c g;subst c;subst g;exact⟨b,rfl⟩
   |succ i=>simp at c
  ·rename_i k l;cases d;obtain⟨b,rfl,_,T⟩:=DataW.trod_int l z;refine⟨rfl,fun i s v c g=> ?_⟩;cases i with
   |zero=>simp at c g;subst c;subst g;exact⟨b,rfl,T⟩
   |succ i=>simp at c
  ·rename_i l;cases d;obtain⟨b,rfl,_,T⟩:=DataW.trod_string l z;refine⟨rfl,fun i s v c g=> ?_⟩;cases i with
   |zero=>simp at c g;subst c;subst g;exact⟨b,rfl,T⟩
   |succ i=>simp at c
  ·rename_i e l;split at d
   ·rename_i es u;split at d
    ·rename_i M;cases d;rcases DataW.trod_slice l z with ⟨rfl,_⟩|⟨a,len,I,L,X,m,_,rfl,_,hb,hl,hm,W,O,_,_⟩
     ·refine⟨rfl,fun i s v c g=> ?_⟩;cases i with
      |zero=>simp at c g;subst c;subst g;exact⟨none,0,0,[],rfl,rfl,U3 _,V1 _,.inl rfl,by simp⟩
      |succ i=>simp at c
     ·have D: ∀i,i<len→ ∃B,N2 w.heap n es B∧ ∀k v,B[k]? =some v→w.cell? (a.add (i*es.length+k))=some v:=by
       intro i hi;have c:=O i hi;rw[aO (by omega),Option.bind_eq_some_iff] at c;obtain⟨B,N,S⟩:=c;refine⟨B,nX n e es m B _ u S,fun k v Q=> ?_⟩;obtain⟨_,h,r⟩:=World.cells?_some N;have R:k<P.cellsOf e:=by rw[←h];exact(Pt.1 Q).1
       rw[M,←P4,r k R,Q]
      obtain⟨G,o,A⟩:=B7 len D;refine⟨rfl,fun i s v c g=> ?_⟩;cases i with
      |succ i=>simp at c
      |zero=>
       simp at c g;subst c;subst g;have q: ∀xs∈G,N2 w.heap n es xs:=fun xs y=>by
        obtain⟨i,hi⟩:=List.getElem?_of_mem y;exact(A i xs hi).1
       refine⟨some a,len,I,G,rfl,o,hl,hm,Af fun j v hv=> ?_,q⟩;obtain⟨i,k,xs,rfl,Q,c,g⟩:=Kj (fun xs y=>(q xs y).1) hv;exact(A i xs c).2 k v g
    ·cases d
   ·cases d
  ·rename_i Z l;split at d
   ·rename_i U F;split at d
    ·rename_i r;cases d;obtain⟨xs,m,_,_,h,o,A⟩:=DataW.trod_struct l z;refine⟨by rw[h,r.2],fun i s v c g=>(P5 Z.toList U 0 r.1 (fun i f ss K Y=> ?_) i s v c (by simpa using g)).succ⟩;have V:=mapM_some_get F i f K;rw[Y] at V;have hi:i<xs.length:=by rw[o];simpa using(Pt.1 K).1
     have C:=A i f (by simpa using K);rw[aO hi] at C;exact nX n f.type ss m _ _ V C
    ·cases d
   ·cases d
  ·rename_i m e l;split at d
   ·rename_i es u;split at d
    ·rename_i r;cases d;obtain⟨xs,m',_,_,h,o,A⟩:=DataW.trod_array l z;refine⟨by rw[h,r.2],fun i s v c g=>(P6 m 0 (fun i hi=> ?_) i s v c (by simpa using g)).succ⟩;have C:=A i hi;rw[aO (by omega)] at C;have:=nX n e es m' _ _ u C
     rwa [←r.1,←SI (i*es.length)] at this
    ·cases d
   ·cases d
  ·cases d
theorem Tl {H:Type} {enc:TypeId×Value→H} {P:Program} {W:World} {base k:Nat} {r:Reach} {q:Nat→Bool} {e:Bool} {t:TypeId} {v:Value} {d:DataW H} {p:List MemPlace} {n:Nat} {ss:List Sp}
 (m:oZ P n t=some ss) (j:(match P.underlying t with|some (.struct _)|some (.array _ _)=>true|_=>false)=true) (b:Value.okWide P W r k t v) (h:DataW.Trod enc P W base q e t v d p):
 ∃a:List Value,v= .agg a.toArray∧N2 W.heap n ss a:=by
 obtain⟨c,l⟩:=h;have o: ∃a,v= .agg a:=by
  unfold Value.okWide at b;split at b
  ·obtain⟨a,rfl,_⟩:=b;exact⟨a,rfl⟩
  ·obtain⟨a,rfl,_⟩:=b;exact⟨a,rfl⟩
  ·split at j
   ·rename_i g i _ _ f;exact absurd f (g _)
   ·rename_i g i _ _ _ f;exact absurd f (i _ _)
   ·cases j
 obtain⟨a,rfl⟩:=o;exact⟨a.toList,by simp,nX n t ss c _ _ m l⟩
theorem TH {H:Type} {enc:TypeId×Value→H} {P:Program} {W:World} {base i:Nat} {r:Reach} {q:Nat→Bool} {f:Bool} {t e:TypeId} {v:Value} {d:DataW H} {o:List MemPlace} {n:Nat} {es:List Sp}
 (k:oZ P (n+1) t=some [.sl es]) (m:P.underlying t=some (.slice e)) (g:Value.okWide P W r i t v) (h:DataW.Trod enc P W base q f t v d o):
 ∃(p:Option Addr) (l c:Nat) (a:List (List Value)),v= .slice p l c∧a.length=l∧l≤c∧c≤maxLen∧bI W.heap p a.flatten∧ ∀xs∈a,N2 W.heap n es xs:=by
 obtain⟨p,l,c,rfl⟩:=okWide_slice m g;obtain⟨b,j⟩:=h;have:=(nX (n+1) t _ b _ _ k j).2 0 _ _ rfl (by simp[Value.cells];rfl);exact this
theorem N2.cons {h:af} {n:Nat} {s:Sp} {ss:List Sp} {cs:List Value} (m:N2 h n (s::ss) cs): ∃x r,cs=x::r∧Mt h n s x∧N2 h n ss r:=by
 obtain⟨a,b⟩:=m
 match cs,a with
 |x::r,a=>exact⟨x,r,rfl,b 0 s x rfl rfl,by simpa using a,fun i s v c d=>b (i+1) s v (by simpa using c) (by simpa using d)⟩
theorem N2.nil {h:af} {n:Nat} {cs:List Value} (m:N2 h n [] cs):cs=[]:=Vm.1 m.1
theorem RA {h:af} {n:Nat}: ∀(a:List (List Value)),(∀xs∈a,N2 h (n+1) [.int .i64] xs)→ ∃b:List Int,a.flatten=az b∧b.length=a.length∧ ∀y∈b,-2 ^ 63≤y∧y<2 ^ 63
 |[],_=>⟨[],rfl,rfl,by simp⟩
 |xs::r,H=>by
  obtain⟨b,d,e,f⟩:=RA r fun x j=>H x (by simp[j]);obtain⟨x,k,rfl,m,g⟩:=(H xs (by simp)).cons;obtain rfl:=g.nil;obtain⟨y,rfl,i⟩:=m;exact⟨y::b,by rw[VW,d];rfl,by simp[e],fun z c=>by
   rcases U7.1 c with rfl|c
   ·exact T8 i
   ·exact f z c⟩
end Go.Sh

