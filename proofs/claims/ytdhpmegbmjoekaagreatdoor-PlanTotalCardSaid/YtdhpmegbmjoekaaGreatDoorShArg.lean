/- Sh, part 14: what an argument is, by its type's shape: whole numbers, bools, strings, slices; structs and arrays of these. -/
import Derived.Test.YtdhpmegbmjoekaaGreatDoorShRow
set_option linter.unusedVariables false
namespace Go.Sh
open Go.RowKit Go.ChangeShapes Go.WideShapes
inductive Sp where
 |int (k:IntKind)
 |bool
 |str
 |sl (es:List Sp)
def Mt (h:ae):Nat→Sp→Value→Prop
 |0,_,_=>False
 |_+1,.int k,v=> ∃x,v= .int k x∧(Lit.int k x).wf=true
 |_+1,.bool,v=> ∃x,v= .bool x
 |_+1,.str,v=> ∃s,v= .string s∧s.size≤maxLen
 |n+1,.sl es,v=> ∃(p:Option Addr) (l c:Nat) (xss:List (List Value)),v= .slice p l c∧xss.length=l∧l≤c∧c≤maxLen∧bT h p xss.flatten∧
   ∀xs∈xss,xs.length=es.length∧ ∀(i:Nat) s x,es[i]? =some s→xs[i]? =some x→Mt h n s x
def Mb (h:ae) (n:Nat) (ss:List Sp) (cs:List Value):Prop:=cs.length=ss.length∧ ∀(i:Nat) s v,ss[i]? =some s→cs[i]? =some v→Mt h n s v
theorem Mt.succ {h:ae}: ∀{n:Nat} {s:Sp} {v:Value},Mt h n s v→Mt h (n+1) s v
 |0,_,_,m=>m.elim
 |_+1,.int _,_,m=>m
 |_+1,.bool,_,m=>m
 |_+1,.str,_,m=>m
 |n+1,.sl es,_,m=>by
  obtain⟨p,l,c,xss,h1,h2,h3,h4,h5,h6⟩:=m
  exact⟨p,l,c,xss,h1,h2,h3,h4,h5,fun xs hx=>⟨(h6 xs hx).1,fun i s x e1 e2=>((h6 xs hx).2 i s x e1 e2).succ⟩⟩
def lay (P:Program):Nat→List Field→List (List Sp)→Bool
 |_,[],[]=>true
 |o,f::fs,s::ss=>f.offset==o&&P.cellsOf f.type==s.length&&lay P (o+s.length) fs ss
 |_,_,_=>false
def oG (P:Program):Nat→TypeId→Option (List Sp)
 |0,_=>none
 |n+1,t=>match P.underlying t with
  |some .bool=>some [.bool]
  |some (.int k)=>some [.int k]
  |some .string=>some [.str]
  |some (.slice e)=>match oG P n e with
   |some es=>if es.length=P.cellsOf e then some [.sl es] else none
   |none=>none
  |some (.struct fs)=>match fs.toList.mapM fun f=>oG P n f.type with
   |some sss=>if lay P 0 fs.toList sss=true∧P.cellsOf t=sss.flatten.length then some sss.flatten else none
   |none=>none
  |some (.array m e)=>match oG P n e with
   |some es=>if es.length=P.cellsOf e∧P.cellsOf t=(List.replicate m es).flatten.length then some (List.replicate m es).flatten else none
   |none=>none
  |_=>none
theorem Af {α:Type} {p:Nat→α→Prop}: ∀(n:Nat),(∀i,i<n→ ∃x,p i x)→ ∃l:List α,l.length=n∧ ∀i x,l[i]? =some x→p i x
 |0,_=>⟨[],rfl,by simp⟩
 |n+1,H=>by
  obtain⟨l,hl,hp⟩:=Af n fun i hi=>H i (by omega)
  obtain⟨x,hx⟩:=H n (by omega)
  refine⟨l++[x],by simp[hl],fun i y hy=> ?_⟩
  rw[List.getElem?_append] at hy
  split at hy
  ·exact hp i y hy
  ·rw[List.getElem?_singleton] at hy
   split at hy
   ·cases hy
    have:i=n:=by omega
    subst this;exact hx
   ·cases hy
theorem Iu {c:Nat}: ∀{xss:List (List Value)} {j:Nat} {v:Value},(∀xs∈xss,xs.length=c)→xss.flatten[j]? =some v→ ∃i k xs,j=i*c+k∧k<c∧xss[i]? =some xs∧xs[k]? =some v
 |[],_,_,_,h=>by simp at h
 |xs::r,j,v,hc,h=>by
  have hx:=hc xs (by simp)
  rw[List.flatten_cons,List.getElem?_append] at h
  split at h
  ·exact⟨0,j,xs,by omega,by omega,rfl,h⟩
  ·obtain⟨i,k,ys,e,hk,h1,h2⟩:=Iu (fun ys hy=>hc ys (by simp[hy])) h
   refine⟨i+1,k,ys,?_,hk,by simpa using h1,h2⟩
   rw[Nat.add_mul];omega
theorem N1 (a:Addr) (m n:Nat):Addr.add (Addr.add a m) n=Addr.add a (m+n):=by
 by_cases h:n=0
 ·subst h;rfl
 ·exact ug a m h
theorem N2 {P:Program} {h:ae} {n:Nat} {cs:List Value}: ∀(fs:List Field) (sss:List (List Sp)) (o:Nat),lay P o fs sss=true→
 (∀(i:Nat) (f:Field) (ss:List Sp),fs[i]? =some f→sss[i]? =some ss→Mb h n ss ((cs.drop f.offset).take (P.cellsOf f.type)))→ ∀(i:Nat) (s:Sp) (v:Value),sss.flatten[i]? =some s→cs[o+i]? =some v→Mt h n s v
 |[],[],_,_,_,i,s,v,h1,_=>by simp at h1
 |f::fs,ss::sss,o,hl,H,i,s,v,h1,h2=>by
  simp only[lay,Bool.and_eq_true,beq_iff_eq] at hl
  obtain⟨⟨ho,hc⟩,hl⟩:=hl
  rw[List.flatten_cons,List.getElem?_append] at h1
  split at h1
  ·rename_i hi
   refine(H 0 f ss rfl rfl).2 i s v h1 ?_
   rw[ho,hc,List.getElem?_take,if_pos hi,List.getElem?_drop]
   exact h2
  ·refine N2 (cs:=cs) fs sss (o+ss.length) hl (fun i f ss' e1 e2=>H (i+1) f ss' (by simpa using e1) (by simpa using e2)) (i-ss.length) s v h1 ?_
   rw[show o+ss.length+(i-ss.length)=o+i by omega];exact h2
 |[],_::_,_,hl,_,_,_,_,_,_=>by simp[lay] at hl
 |_::_,[],_,hl,_,_,_,_,_,_=>by simp[lay] at hl
theorem N3 {h:ae} {n:Nat} {cs:List Value} {ss:List Sp}: ∀(m o:Nat),(∀i,i<m→Mb h n ss ((cs.drop (o+i*ss.length)).take ss.length))→ ∀(i:Nat) (s:Sp) (v:Value),(List.replicate m ss).flatten[i]? =some s→cs[o+i]? =some v→Mt h n s v
 |0,_,_,i,s,v,h1,_=>by simp at h1
 |m+1,o,H,i,s,v,h1,h2=>by
  rw[List.replicate_succ,List.flatten_cons,List.getElem?_append] at h1
  split at h1
  ·rename_i hi
   refine(H 0 (by omega)).2 i s v h1 ?_
   rw[List.getElem?_take,if_pos hi,List.getElem?_drop,Nat.zero_mul,Nat.add_zero]
   exact h2
  ·refine N3 (cs:=cs) m (o+ss.length) (fun i hi=> ?_) (i-ss.length) s v h1 ?_
   ·have:=H (i+1) (by omega)
    rwa [show o+(i+1)*ss.length=o+ss.length+i*ss.length by rw[Nat.add_mul];omega] at this
   ·rw[show o+ss.length+(i-ss.length)=o+i by omega];exact h2
theorem nE {H:Type} {enc:TypeId×Value→H} {P:Program} {w:World} {base:Nat} {sp:Nat→Bool} {held:Bool}: ∀(n:Nat) (t:TypeId) (ss:List Sp) (fuel:Nat) (cs:List Value) (x:DataW H×List MemPlace),
 oG P n t=some ss→DataW.trod enc P w base sp held fuel t cs=some x→Mb w.heap n ss cs
 |0,_,_,_,_,_,hs,_=>by simp[oG] at hs
 |n+1,t,ss,fuel,cs,x,hs,hd=>by
  unfold oG at hs
  split at hs
  ·rename_i hu
   cases hs
   obtain⟨b,rfl,_⟩:=DataW.trod_bool hu hd
   refine⟨rfl,fun i s v h1 h2=> ?_⟩
   cases i with
   |zero=>simp at h1 h2;subst h1;subst h2;exact⟨b,rfl⟩
   |succ i=>simp at h1
  ·rename_i k hu
   cases hs
   obtain⟨b,rfl,_,hw⟩:=DataW.trod_int hu hd
   refine⟨rfl,fun i s v h1 h2=> ?_⟩
   cases i with
   |zero=>simp at h1 h2;subst h1;subst h2;exact⟨b,rfl,hw⟩
   |succ i=>simp at h1
  ·rename_i hu
   cases hs
   obtain⟨b,rfl,_,hw⟩:=DataW.trod_string hu hd
   refine⟨rfl,fun i s v h1 h2=> ?_⟩
   cases i with
   |zero=>simp at h1 h2;subst h1;subst h2;exact⟨b,rfl,hw⟩
   |succ i=>simp at h1
  ·rename_i e hu
   split at hs
   ·rename_i es hes
    split at hs
    ·rename_i hce
     cases hs
     rcases DataW.trod_slice hu hd with ⟨rfl,_⟩|⟨a,len,cap,elems,rest,m,_,rfl,_,hb,hl,hm,hlen,hel,_,_⟩
     ·refine⟨rfl,fun i s v h1 h2=> ?_⟩
      cases i with
      |zero=>simp at h1 h2;subst h1;subst h2;exact⟨none,0,0,[],rfl,rfl,Nat.le_refl _,Nat.zero_le _,.inl rfl,by simp⟩
      |succ i=>simp at h1
     ·have each: ∀i,i<len→ ∃ci,Mb w.heap n es ci∧ ∀k v,ci[k]? =some v→w.cell? (a.add (i*es.length+k))=some v:=by
       intro i hi
       have h1:=hel i hi
       rw[List.getElem?_eq_getElem (by omega),Option.bind_eq_some_iff] at h1
       obtain⟨ci,hci,hti⟩:=h1
       refine⟨ci,nE n e es m ci _ hes hti,fun k v hk=> ?_⟩
       obtain⟨_,hcl,hc⟩:=World.cells?_some hci
       have hkl:k<P.cellsOf e:=by rw[←hcl];exact(List.getElem?_eq_some_iff.1 hk).1
       rw[hce,←N1,hc k hkl,hk]
      obtain⟨xss,hxl,hx⟩:=Af len each
      refine⟨rfl,fun i s v h1 h2=> ?_⟩
      cases i with
      |succ i=>simp at h1
      |zero=>
       simp at h1 h2;subst h1;subst h2
       have hmem: ∀xs∈xss,Mb w.heap n es xs:=fun xs hxs=>by
        obtain⟨i,hi⟩:=List.getElem?_of_mem hxs
        exact(hx i xs hi).1
       refine⟨some a,len,cap,xss,rfl,hxl,hl,hm,yl fun j v hv=> ?_,hmem⟩
       obtain⟨i,k,xs,rfl,hk,h1,h2⟩:=Iu (fun xs hxs=>(hmem xs hxs).1) hv
       exact(hx i xs h1).2 k v h2
    ·cases hs
   ·cases hs
  ·rename_i fs hu
   split at hs
   ·rename_i sss hsss
    split at hs
    ·rename_i hc
     cases hs
     obtain⟨xs,m,_,_,hcl,hxl,hx⟩:=DataW.trod_struct hu hd
     refine⟨by rw[hcl,hc.2],fun i s v h1 h2=>(N2 fs.toList sss 0 hc.1 (fun i f ss e1 e2=> ?_) i s v h1 (by simpa using h2)).succ⟩
     have e3:=mapM_some_get hsss i f e1
     rw[e2] at e3
     have hi:i<xs.length:=by rw[hxl];simpa using(List.getElem?_eq_some_iff.1 e1).1
     have e4:=hx i f (by simpa using e1)
     rw[List.getElem?_eq_getElem hi] at e4
     exact nE n f.type ss m _ _ e3 e4
    ·cases hs
   ·cases hs
  ·rename_i m e hu
   split at hs
   ·rename_i es hes
    split at hs
    ·rename_i hc
     cases hs
     obtain⟨xs,m',_,_,hcl,hxl,hx⟩:=DataW.trod_array hu hd
     refine⟨by rw[hcl,hc.2],fun i s v h1 h2=>(N3 m 0 (fun i hi=> ?_) i s v h1 (by simpa using h2)).succ⟩
     have e4:=hx i hi
     rw[List.getElem?_eq_getElem (by omega)] at e4
     have:=nE n e es m' _ _ hes e4
     rwa [←hc.1,←Nat.zero_add (i*es.length)] at this
    ·cases hs
   ·cases hs
  ·cases hs
theorem N4 {H:Type} {enc:TypeId×Value→H} {P:Program} {W:World} {base b0:Nat} {r:Reach} {sp:Nat→Bool} {held:Bool} {t:TypeId} {v:Value} {d:DataW H} {ps:List MemPlace} {n:Nat} {ss:List Sp}
 (hs:oG P n t=some ss) (hu:(match P.underlying t with|some (.struct _)|some (.array _ _)=>true|_=>false)=true) (hok:Value.okWide P W r b0 t v) (h:DataW.Trod enc P W base sp held t v d ps):
 ∃cs:List Value,v= .agg cs.toArray∧Mb W.heap n ss cs:=by
 obtain⟨fuel,hf⟩:=h
 have hv: ∃cs,v= .agg cs:=by
  unfold Value.okWide at hok
  split at hok
  ·obtain⟨cs,rfl,_⟩:=hok;exact⟨cs,rfl⟩
  ·obtain⟨cs,rfl,_⟩:=hok;exact⟨cs,rfl⟩
  ·split at hu
   ·rename_i h1 h2 _ _ h3;exact absurd h3 (h1 _)
   ·rename_i h1 h2 _ _ _ h3;exact absurd h3 (h2 _ _)
   ·cases hu
 obtain⟨cs,rfl⟩:=hv
 exact⟨cs.toList,by simp,nE n t ss fuel _ _ hs hf⟩
theorem Ri {H:Type} {enc:TypeId×Value→H} {P:Program} {W:World} {base b0:Nat} {r:Reach} {sp:Nat→Bool} {held:Bool} {t e:TypeId} {v:Value} {d:DataW H} {ps:List MemPlace} {n:Nat} {es:List Sp}
 (hs:oG P (n+1) t=some [.sl es]) (hu:P.underlying t=some (.slice e)) (hok:Value.okWide P W r b0 t v) (h:DataW.Trod enc P W base sp held t v d ps):
 ∃(p:Option Addr) (l c:Nat) (xss:List (List Value)),v= .slice p l c∧xss.length=l∧l≤c∧c≤maxLen∧bT W.heap p xss.flatten∧ ∀xs∈xss,Mb W.heap n es xs:=by
 obtain⟨p,l,c,rfl⟩:=okWide_slice hu hok
 obtain⟨fuel,hf⟩:=h
 have:=(nE (n+1) t _ fuel _ _ hs hf).2 0 _ _ rfl (by simp[Value.cells];rfl)
 exact this
theorem Mb.cons {h:ae} {n:Nat} {s:Sp} {ss:List Sp} {cs:List Value} (m:Mb h n (s::ss) cs): ∃x r,cs=x::r∧Mt h n s x∧Mb h n ss r:=by
 obtain⟨hl,hm⟩:=m
 match cs,hl with
 |x::r,hl=>exact⟨x,r,rfl,hm 0 s x rfl rfl,by simpa using hl,fun i s v h1 h2=>hm (i+1) s v (by simpa using h1) (by simpa using h2)⟩
theorem Mb.nil {h:ae} {n:Nat} {cs:List Value} (m:Mb h n [] cs):cs=[]:=List.length_eq_zero_iff.1 m.1
theorem Pq {h:ae} {n:Nat}: ∀(xss:List (List Value)),(∀xs∈xss,Mb h (n+1) [.int .i64] xs)→ ∃ys:List Int,xss.flatten=az ys∧ys.length=xss.length∧ ∀y∈ys,-2 ^ 63≤y∧y<2 ^ 63
 |[],_=>⟨[],rfl,rfl,by simp⟩
 |xs::r,H=>by
  obtain⟨ys,h1,h2,h3⟩:=Pq r fun x hx=>H x (by simp[hx])
  obtain⟨x,r',rfl,m,hm⟩:=(H xs (by simp)).cons
  obtain rfl:=hm.nil
  obtain⟨y,rfl,hw⟩:=m
  exact⟨y::ys,by rw[List.flatten_cons,h1];rfl,by simp[h2],fun z hz=>by
   rcases List.mem_cons.1 hz with rfl|hz
   ·exact RD hw
   ·exact h3 z hz⟩
end Go.Sh
