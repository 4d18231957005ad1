/- Sh, part 14: what an argument is, by its type's shape: whole numbers, bools, strings, slices; structs and arrays of these. -/
import Derived.Test.YtdhpmegbmjoekaaGreatDoorShRow
set_option linter.unusedSimpArgs false
set_option linter.unusedVariables false
namespace Go.Sh
open Go.RowKit Go.ChangeShapes Go.WideShapes
inductive Sp where
 |int (k:IntKind)
 |bool
 |str
 |sl (es:List Sp)
def Mt(h:ah):Nat→Sp→Value→Prop
 |0,_,_=>False
 |_+1,.int k,v=> ∃x,v= .int k x∧(Lit.int k x).wf=true
 |_+1,.bool,v=> ∃x,v= .bool x
 |_+1,.str,v=> ∃s,v= .string s∧s.size≤maxLen
 |n+1,.sl es,v=> ∃(p:Option Addr)(l c:Nat)(a:List (List Value)),v= .slice p l c∧a.length=l∧l≤c∧c≤maxLen∧bD h p a.flatten∧
   ∀xs∈a,xs.length=es.length∧ ∀(i:Nat) s x,es[i]? =some s→xs[i]? =some x→Mt h n s x
def OQ(h:ah)(n:Nat)(ss:List Sp)(cs:List Value):Prop:=cs.length=ss.length∧ ∀(i:Nat) s v,ss[i]? =some s→cs[i]? =some v→Mt h n s v
theorem Mt.succ{h:ah}: ∀{n:Nat}{s:Sp}{v:Value},Mt h n s v→Mt h (n+1) s v
 |0,_,_,m=>m.elim
 |_+1,.int _,_,m=>m
 |_+1,.bool,_,m=>m
 |_+1,.str,_,m=>m
 |n+1,.sl es,_,m=>by
  obtain⟨p,l,c,a,g,j,k,o,q,b⟩:=m;exact⟨p,l,c,a,g,j,k,o,q,fun xs d=>⟨(b xs d).1,fun i s x e f=>((b xs d).2 i s x e f).succ⟩⟩
def yK(P:Program):Nat→List Field→List (List Sp)→Bool
 |_,[],[]=>true
 |o,f::fs,s::ss=>f.offset==o&&P.cellsOf f.type==s.length&&yK P (o+s.length) fs ss
 |_,_,_=>false
def oK(P:Program):Nat→TypeId→Option (List Sp)
 |0,_=>none
 |n+1,t=>match P.underlying t with
  |some .bool=>some [.bool]
  |some (.int k)=>some [.int k]
  |some .string=>some [.str]
  |some (.slice e)=>match oK P n e with
   |some es=>if es.length=P.cellsOf e then some [.sl es] else none
   |none=>none
  |some (.struct b)=>match b.toList.mapM fun f=>oK P n f.type with
   |some a=>if yK P 0 b.toList a=true∧P.cellsOf t=a.flatten.length then some a.flatten else none
   |none=>none
  |some (.array m e)=>match oK P n e with
   |some es=>if es.length=P.cellsOf e∧P.cellsOf t=(List.replicate m es).flatten.length then some (List.replicate m es).flatten else none
   |none=>none
  |_=>none
theorem AZ{α:Type}{p:Nat→α→Prop}: ∀(n:Nat),(∀i,i<n→ ∃x,p i x)→ ∃l:List α,l.length=n∧ ∀i x,l[i]? =some x→p i x
 |0,_=>⟨[],rfl,by simp⟩
 |n+1,H=>by
  obtain⟨l,b,c⟩:=AZ n fun i hi=>H i (by omega);obtain⟨x,d⟩:=H n (by omega);refine⟨l++[x],by simp[b],fun i y a=> ?_⟩;rw[Wm]at a;split at a
  ·exact c i y a
  ·rw[XF]at a;split at a
   ·cases a;have:i=n:=by omega
    subst this;exact d
   ·cases a
theorem JY{c:Nat}: ∀{a:List (List Value)}{j:Nat}{v:Value},(∀xs∈a,xs.length=c)→a.flatten[j]? =some v→ ∃i k xs,j=i*c+k∧k<c∧a[i]? =some xs∧xs[k]? =some v
 |[],_,_,_,h=>by simp at h
 |xs::r,j,v,hc,h=>by
  have m:=hc xs (by simp);rw[WR,Wm]at h;split at h
  ·exact⟨0,j,xs,by omega,by omega,rfl,h⟩
  ·obtain⟨i,k,b,e,g,d,f⟩:=JY (fun b l=>hc b (by simp[l])) h;refine⟨i+1,k,b,?_,g,by simpa using d,f⟩;rw[Wr];omega
theorem QS(a:Addr)(m n:Nat):Addr.add (Addr.add a m) n=Addr.add a (m+n):=by
 by_cases h:n=0
 ·subst h;rfl
 ·exact mh a m h
theorem QT{P:Program}{h:ah}{n:Nat}{cs:List Value}: ∀(d:List Field)(a:List (List Sp))(o:Nat),yK P o d a=true→
 (∀(i:Nat)(f:Field)(c:List Sp),d[i]? =some f→a[i]? =some c→OQ h n c ((cs.drop f.offset).take (P.cellsOf f.type)))→ ∀(i:Nat)(s:Sp)(v:Value),a.flatten[i]? =some s→cs[o+i]? =some v→Mt h n s v
 |[],[],_,_,_,i,s,v,h1,_=>by simp at h1
 |f::d,c::a,o,b,H,i,s,v,h1,h2=>by
  simp only[yK,V8,beq_iff_eq]at b;obtain⟨⟨l,k⟩,b⟩:=b;rw[WR,Wm]at h1;split at h1
  ·rename_i hi;refine(H 0 f c rfl rfl).2 i s v h1 ?_;rw[l,k,Xk,if_pos hi,Wz];exact h2
  ·refine QT (cs:=cs) d a (o+c.length) b (fun i f e g j=>H (i+1) f e (by simpa using g) (by simpa using j)) (i-c.length) s v h1 ?_;rw[show o+c.length+(i-c.length)=o+i by omega];exact h2
 |[],_::_,_,b,_,_,_,_,_,_=>by simp[yK]at b
 |_::_,[],_,b,_,_,_,_,_,_=>by simp[yK]at b
theorem QU{h:ah}{n:Nat}{cs:List Value}{ss:List Sp}: ∀(m o:Nat),(∀i,i<m→OQ h n ss ((cs.drop (o+i*ss.length)).take ss.length))→ ∀(i:Nat)(s:Sp)(v:Value),(List.replicate m ss).flatten[i]? =some s→cs[o+i]? =some v→Mt h n s v
 |0,_,_,i,s,v,a,_=>by simp at a
 |m+1,o,H,i,s,v,a,b=>by
  rw[Wp,WR,Wm]at a;split at a
  ·rename_i hi;refine(H 0 (by omega)).2 i s v a ?_;rw[Xk,if_pos hi,Wz,WH,We];exact b
  ·refine QU (cs:=cs) m (o+ss.length) (fun i hi=> ?_) (i-ss.length) s v a ?_
   ·have:=H (i+1) (by omega)
    rwa [show o+(i+1)*ss.length=o+ss.length+i*ss.length by rw[Wr];omega]at this
   ·rw[show o+ss.length+(i-ss.length)=o+i by omega];exact b
theorem nE{H:Type}{enc:TypeId×Value→H}{P:Program}{w:World}{base:Nat}{sp:Nat→Bool}{F:Bool}: ∀(n:Nat)(t:TypeId)(I:List Sp)(p:Nat)(L:List Value)(x:DataW H×List MemPlace),
 oK P n t=some I→DataW.trod enc P w base sp F p t L=some x→OQ w.heap n I L
 |0,_,_,_,_,_,d,_=>by simp[oK]at d
 |n+1,t,I,p,L,x,d,A=>by
  unfold oK at d;split at d
  ·rename_i l;cases d;obtain⟨b,rfl,_⟩:=DataW.trod_bool l A;refine⟨rfl,fun i s v c g=> ?_⟩;cases i with
   |zero=>simp at c g;subst c;subst g;exact⟨b,rfl⟩
   |succ i=>simp at c
  ·rename_i k l;cases d;obtain⟨b,rfl,_,V⟩:=DataW.trod_int l A;refine⟨rfl,fun i s v c g=> ?_⟩;cases i with
   |zero=>simp at c g;subst c;subst g;exact⟨b,rfl,V⟩
   |succ i=>simp at c
  ·rename_i l;cases d;obtain⟨b,rfl,_,V⟩:=DataW.trod_string l A;refine⟨rfl,fun i s v c g=> ?_⟩;cases i with
   |zero=>simp at c g;subst c;subst g;exact⟨b,rfl,V⟩
   |succ i=>simp at c
  ·rename_i e l;split at d
   ·rename_i es u;split at d
    ·rename_i O;cases d;rcases DataW.trod_slice l A with ⟨rfl,_⟩|⟨a,z,K,N,Z,m,_,rfl,_,hb,hl,hm,Y,R,_,_⟩
     ·refine⟨rfl,fun i s v c g=> ?_⟩;cases i with
      |zero=>simp at c g;subst c;subst g;exact⟨none,0,0,[],rfl,rfl,VX _,WV _,.inl rfl,by simp⟩
      |succ i=>simp at c
     ·have E: ∀i,i<z→ ∃C,OQ w.heap n es C∧ ∀k v,C[k]? =some v→w.cell? (a.add (i*es.length+k))=some v:=by
       intro i hi;have c:=R i hi;rw[bo (by omega),Option.bind_eq_some_iff]at c;obtain⟨C,Q,U⟩:=c;refine⟨C,nE n e es m C _ u U,fun k v S=> ?_⟩;obtain⟨_,h,r⟩:=World.cells?_some Q;have T:k<P.cellsOf e:=by rw[←h];exact(R8.1 S).1
       rw[O,←QS,r k T,S]
      obtain⟨J,o,B⟩:=AZ z E;refine⟨rfl,fun i s v c g=> ?_⟩;cases i with
      |succ i=>simp at c
      |zero=>
       simp at c g;subst c;subst g;have q: ∀xs∈J,OQ w.heap n es xs:=fun xs y=>by
        obtain⟨i,hi⟩:=List.getElem?_of_mem y;exact(B i xs hi).1
       refine⟨some a,z,K,J,rfl,o,hl,hm,yN fun j v hv=> ?_,q⟩;obtain⟨i,k,xs,rfl,S,c,g⟩:=JY (fun xs y=>(q xs y).1) hv;exact(B i xs c).2 k v g
    ·cases d
   ·cases d
  ·rename_i fs l;split at d
   ·rename_i W G;split at d
    ·rename_i r;cases d;obtain⟨xs,m,_,_,h,o,B⟩:=DataW.trod_struct l A;refine⟨by rw[h,r.2],fun i s v c g=>(QT fs.toList W 0 r.1 (fun i f I M e2=> ?_) i s v c (by simpa using g)).succ⟩;have X:=mapM_some_get G i f M;rw[e2]at X;have hi:i<xs.length:=by rw[o];simpa using(R8.1 M).1
     have D:=B i f (by simpa using M);rw[bo hi]at D;exact nE n f.type I m _ _ X D
    ·cases d
   ·cases d
  ·rename_i m e l;split at d
   ·rename_i es u;split at d
    ·rename_i r;cases d;obtain⟨xs,m',_,_,h,o,B⟩:=DataW.trod_array l A;refine⟨by rw[h,r.2],fun i s v c g=>(QU m 0 (fun i hi=> ?_) i s v c (by simpa using g)).succ⟩;have D:=B i hi;rw[bo (by omega)]at D;have:=nE n e es m' _ _ u D
     rwa [←r.1,←SN (i*es.length)]at this
    ·cases d
   ·cases d
  ·cases d
theorem QV{H:Type}{enc:TypeId×Value→H}{P:Program}{W:World}{base k:Nat}{r:Reach}{q:Nat→Bool}{e:Bool}{t:TypeId}{v:Value}{d:DataW H}{p:List MemPlace}{n:Nat}{ss:List Sp}
 (m:oK P n t=some ss) (j:(match P.underlying t with|some (.struct _)|some (.array _ _)=>true|_=>false)=true) (b:Value.okWide P W r k t v) (h:DataW.Trod enc P W base q e t v d p):
 ∃a:List Value,v= .agg a.toArray∧OQ W.heap n ss a:=by
 obtain⟨c,l⟩:=h;have o: ∃a,v= .agg a:=by
  unfold Value.okWide at b;split at b
  ·obtain⟨a,rfl,_⟩:=b;exact⟨a,rfl⟩
  ·obtain⟨a,rfl,_⟩:=b;exact⟨a,rfl⟩
  ·split at j
   ·rename_i g i _ _ f;exact absurd f (g _)
   ·rename_i g i _ _ _ f;exact absurd f (i _ _)
   ·cases j
 obtain⟨a,rfl⟩:=o;exact⟨a.toList,by simp,nE n t ss c _ _ m l⟩
theorem OQ.cons{h:ah}{n:Nat}{s:Sp}{ss:List Sp}{cs:List Value}(m:OQ h n (s::ss) cs): ∃x r,cs=x::r∧Mt h n s x∧OQ h n ss r:=by
 obtain⟨a,b⟩:=m
 match cs,a with
 |x::r,a=>exact⟨x,r,rfl,b 0 s x rfl rfl,by simpa using a,fun i s v c d=>b (i+1) s v (by simpa using c) (by simpa using d)⟩
theorem OQ.nil{h:ah}{n:Nat}{cs:List Value}(m:OQ h n [] cs):cs=[]:=Wn.1 m.1