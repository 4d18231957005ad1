/- CLv CLv2 CLv3 CLv4, in one text. -/
import Derived.Test.YtdhpmegbmjoekaaGreatDoorCStep3
set_option linter.unusedVariables false
set_option linter.unusedSimpArgs false
namespace Go.Proofs.YtdhpmegbmjoekaaGreatDoor.G
open Go Go.Sh
section
theorem jL{α:Type} [DecidableEq α]: ∀(c a:List α),c.Nodup→(∀x∈c,x∈a)→c.length≤a.length
 |[],_,_,_=>WV _
 |x::r,a,hn,hs=>by
  have d:=hs x (by simp);rw[WY]at hn;have:=jL r (a.erase x) hn.2 fun y f=>by
   have b:y≠x:=fun e=>hn.1 (e▸f);exact(List.mem_erase_of_ne b).2 (hs y (by simp[f]))
  rw[List.length_erase_of_mem d]at this;have:=List.length_pos_of_mem d;simp only[VS];omega
theorem AO(x:Int): ∀l:List Int,l.Pairwise (· ≤ ·)→(uN x l).Pairwise (· ≤ ·)
 |[],_=>by simp[uN]
 |y::r,h=>by
  rw[WI]at h;unfold uN;split
  ·rename_i b;rw[WI,WI];refine⟨fun z a=> ?_,h⟩;rcases V5.1 a with rfl|a
   ·exact b
   ·have:=h.1 z a;omega
  ·rename_i b;rw[WI];refine⟨fun z a=> ?_,AO x r h.2⟩;rcases(yv x z r).1 a with rfl|a
   ·omega
   ·exact h.1 z a
theorem yq: ∀xs:List Int,(km xs).Pairwise (· ≤ ·)
 |[]=>List.Pairwise.nil
 |x::r=>AO x _ (yq r)
theorem RP(l:List Int): ∀c:List Int,c.Pairwise (· < ·)→l.Pairwise (· ≤ ·)→(∀y∈c,∀z∈l,y≤z)→(l.foldl fr c).Pairwise (· < ·):=by
 induction l with
 |nil=>intro c h _ _;exact h
 |cons x r t=>
  intro c h j f;rw[WI]at j;rw[Wg];have g: ∀y∈fr c x,∀z∈r,y≤z:=fun y b z d=>by
   unfold fr at b;split at b
   ·exact f y b z (by simp[d])
   ·rcases VW.1 b with b|b
    ·exact f y b z (by simp[d])
    ·simp only[VK]at b;subst b;exact j.1 z d
  refine t _ ?_ j.2 g;unfold fr;split
  ·exact h
  ·rename_i n;rw[WL];refine⟨h,XG _ _,fun y b z d=> ?_⟩;simp only[VK]at d;subst d;have k:=f y b z (by simp);rcases Int.lt_or_eq_of_le k with o|rfl
   ·exact o
   ·exfalso;obtain⟨m,e⟩: ∃m,c.getLast? =some m:=by
     cases c with
     |nil=>simp at b
     |cons a s=>exact⟨_,List.getLast?_eq_some_getLast (by simp)⟩
    have p:=f m (List.mem_of_getLast? e) y (by simp);have:y≤m:=by
     obtain⟨s,q⟩:=List.getLast?_eq_some_iff.1 e;rw[q]at h b;rw[WL]at h;rcases VW.1 b with b|b
     ·have:=h.2.2 y b m (by simp);omega
     ·simp only[VK]at b;omega
    exact n (by rw[e];congr 1;omega)
theorem Uf(xs:List Int):(sd xs).Pairwise (· < ·):=RP _ [] List.Pairwise.nil (yq xs) (by simp)
theorem Qb(xs:List Int):(sd xs).Nodup:=(Uf xs).imp fun h e=>by omega
inductive Lv (ns:List Nd) (out:Int):Int→Prop
 |out:Lv ns out out
 |inn {i:Nat} {n:Nd} {j:Int}:Lv ns out ((i:Int)+1)→ns[i]? =some n→j∈n.inn→Lv ns out j
def cnt(ns:List Nd)(E:List Int)(j:Int):Nat:=(E.filter fun x=>decide (j∈innOf ns x)).length
theorem Lt(ns:List Nd)(E F:List Int)(j:Int):cnt ns (E++F) j=cnt ns E j+cnt ns F j:=by simp[cnt,List.filter_append]
theorem Tr(ns:List Nd)(E:List Int)(j:Int):cnt ns E j≤E.length:=List.length_filter_le _ _
theorem vi{ns:List Nd}{E:List Int}{j:Int}:0<cnt ns E j↔ ∃x∈E,j∈innOf ns x:=by
 unfold cnt;rw[List.length_pos_iff_exists_mem];constructor
 ·rintro⟨x,a⟩;rw[Xm]at a;exact⟨x,a.1,by simpa using a.2⟩
 ·rintro⟨x,a,b⟩;exact⟨x,Xm.2 ⟨a,by simpa using b⟩⟩
def xl(o:Option Int)(c:Nat):Option Int:=if c=0 then o else some (o.getD 0+c)
theorem zW(o:Option Int):xl o 0=o:=rfl
theorem Jc(o:Option Int)(a b:Nat):xl (xl o a) b=xl o (a+b):=by
 unfold xl;by_cases c:b=0
 ·subst c;simp
 ·rw[if_neg c,if_neg (show ¬a+b=0 by omega)];by_cases d:a=0
  ·subst d;simp
  ·rw[if_neg d];simp;omega
theorem jF{o:Option Int}{c:Nat}{r:Option Int}(h:xl o c=r):(c=0∧o=r)∨(0<c∧some (o.getD 0+c)=r):=by
 unfold xl at h;by_cases a:c=0
 ·rw[if_pos a]at h;exact .inl ⟨a,h⟩
 ·rw[if_neg a]at h;exact .inr ⟨by omega,h⟩
theorem oE{o:Option Int}{c:Nat}(h:(xl o c).isSome):(c=0∧o.isSome)∨0<c:=by
 unfold xl at h;by_cases a:c=0
 ·rw[if_pos a]at h;exact .inl ⟨a,h⟩
 ·exact .inr (by omega)
theorem vj{o:Option Int}{c:Nat}(h:0<c):xl o c=some (o.getD 0+c):=by unfold xl;rw[if_neg (by omega)]
theorem RQ(M:LM)(j:Int)(h:0≤(M j).getD 0∧(M j).getD 0<2 ^ 62)(k:Int):nN M j k=xl (M k) (if k=j then 1 else 0):=by
 unfold nN qh;by_cases a:k=j
 ·subst a;rw[if_pos rfl,if_pos rfl,al (by omega)];rfl
 ·rw[if_neg a,if_neg a];rfl
structure NV (ns:List Nd) (pos:Int→Nat) (M:LM) (top:Nat) (roots:List Int) (E:List Int) (M':LM):Prop where
 nd:E.Nodup
 new: ∀x∈E,M x=none∧0<x∧x≤(ns.length:Int)∧pos x<top
 lv: ∀x∈E,∀out,(∀r∈roots,Lv ns out r)→Lv ns out x
 ct: ∀j,M' j=xl (M j) (cnt ns E j+if j∈roots then 1 else 0)
 cl: ∀x∈E,∀j∈innOf ns x,0<j→j∈E∨(M j).isSome
 rt: ∀r∈roots,0<r→r∈E∨(M r).isSome
 up: ∀x∈E,x∈roots∨ ∃y∈E,x∈innOf ns y
theorem fp{ns:List Nd}{i:Nat}{n:Nd}(h:ns[i]? =some n):innOf ns ((i:Int)+1)=n.inn:=by
 unfold innOf;rw[show((i:Int)+1-1).toNat=i by omega,h]
theorem mD{ns:List Nd}{x j:Int}(a:0<x)(h:j∈innOf ns x): ∃(i:Nat)(n:Nd),x=(i:Int)+1∧ns[i]? =some n∧j∈n.inn:=by
 unfold innOf at h;cases e:ns[(x-1).toNat]? with
 |none=>rw[e]at h;simp at h
 |some n=>rw[e]at h;exact⟨(x-1).toNat,n,by omega,e,h⟩
theorem nz.down{ns:List Nd}{pos:Int→Nat}(h:nz ns pos){x j:Int}(c:0<x)(a:j∈innOf ns x):0≤j∧j≤(ns.length:Int)∧(0<j→pos j<pos x):=by
 obtain⟨i,n,rfl,e,b⟩:=mD c a;exact(h i n e).2 j b
theorem Jd(ns:List Nd)(k:Nat)(M:LM)(l:List Int)(j:Int):gT ns k M (l++[j])=if 0<j∧(nN (gT ns k M l) j j).getD 0=1 then uO ns k (nN (gT ns k M l) j) j else nN (gT ns k M l) j:=by
 unfold gT;rw[V7];rfl
theorem Je{ns:List Nd}{pos:Int→Nat}(hr:nz ns pos){k:Nat}
 (ih: ∀(M:LM)(i:Int)(B:Nat),0<i→i≤(ns.length:Int)→pos i<k→(∀j c,M j=some c→0≤c∧c≤B)→(∀j c,pos j<pos i→0<j→M j=some c→1≤c)→B+k*(ns.length+2)<2 ^ 62→ ∃E,NV ns pos M (pos i) (innOf ns i) E (uO ns k M i))
 (M:LM) (G B:Nat) (ap:G≤k) (hB: ∀j c,M j=some c→0≤c∧c≤B) (h1: ∀j c,pos j<G→0<j→M j=some c→1≤c) (hb:B+(k+1)*(ns.length+2)<2 ^ 62):
 ∀(n:Nat)(l:List Int),l.length=n→l.Nodup→(∀j∈l,0≤j∧j≤(ns.length:Int)∧(0<j→pos j<G))→ ∃E,NV ns pos M G l E (gT ns k M l):=by
 intro n
 induction n with
 |zero=>
  intro l hl _ _;have:l=[]:=Wn.1 hl;subst this;exact⟨[],List.nodup_nil,by simp,by simp,fun j=>by simp[cnt,zW,gT],by simp,by simp,by simp⟩
 |succ n aj=>
  intro l hl J V;obtain⟨s,j,rfl⟩: ∃s j,l=s++[j]:=⟨l.dropLast,l.getLast (by intro e;subst e;simp at hl),(List.dropLast_concat_getLast _).symm⟩;have A:s.Nodup∧j∉s:=by
   rw[W5]at J;exact⟨J.1,fun W=>J.2.2 j W j (by simp) rfl⟩
  have q:=V j (by simp);obtain⟨E,w⟩:=aj s (by simpa using hl) A.1 fun x a=>V x (by simp[a]);rw[Jd];generalize hX:gT ns k M s=X at w ⊢;have ao:E.length≤ns.length:=by
   have:=jL E ((List.range ns.length).map fun i:Nat=>(i:Int)+1) w.nd fun x a=>by
    have:=w.new x a;rw[VZ];exact⟨(x-1).toNat,by rw[Wq];omega,by omega⟩
   simpa using this
  have T: ∀j c,X j=some c→0≤c∧c≤(B+(ns.length+1):Nat):=fun y c f=>by
   rw[w.ct y]at f;have m:=Tr ns E y;rcases jF f with ⟨m,f⟩|⟨m,f⟩
   ·have:=hB y c f;omega
   ·have e:=Option.some.inj f;have:0≤(M y).getD 0∧(M y).getD 0≤(B:Int):=by
     cases t:M y with
     |none=>simp
     |some d=>simpa using hB y d t
    have:(if y∈s then 1 else 0)≤1:=by split<;>omega
    omega
  have ab:0≤(X j).getD 0∧(X j).getD 0<2 ^ 62:=by
   cases t:X j with
   |none=>simp
   |some d=>
    have:=T j d t;have:(B+(ns.length+1))≤B+(k+1)*(ns.length+2):=by
     have:1*(ns.length+2)≤(k+1)*(ns.length+2):=Wu _ (by omega);omega
    simp only[XI];omega
  have u:=RQ X j ab;have S: ∀x∈E,(X x).isSome:=fun x a=>by
   rw[w.ct x];rcases w.up x a with P|⟨y,f,ai⟩
   ·rw[if_pos P,vj (by omega)];rfl
   ·rw[vj (by have:=vi.2 ⟨y,f,ai⟩;omega)];rfl
  have I:nN X j j=some ((X j).getD 0+1):=by rw[u j,if_pos rfl];rfl
  have Q: ∀y,nN X j y=xl (M y) (cnt ns E y+if y∈s++[j] then 1 else 0):=fun y=>by
   rw[u y,w.ct y,Jc];congr 1;by_cases f:y=j
   ·subst f;rw[if_pos rfl,if_neg A.2,if_pos (by simp)]
   ·rw[if_neg f];by_cases P:y∈s
    ·rw[if_pos P,if_pos (by simp[P])]
    ·rw[if_neg P,if_neg (by simp[P,f])]
  by_cases b:0<j∧(nN X j j).getD 0=1
  ·rw[if_pos b];have o:X j=none:=by
    cases t:X j with
    |none=>rfl
    |some d=>
     exfalso;rw[I,t]at b;have hd:d=0:=by have:=b.2;simp at this;omega
     rw[w.ct j]at t;rcases jF t with ⟨m,t⟩|⟨m,t⟩
     ·have:=h1 j d (q.2.2 b.1) b.1 t;omega
     ·have e:=Option.some.inj t;have:0≤(M j).getD 0:=by
       cases hMj:M j with
       |none=>simp
       |some d'=>simpa using(hB j d' hMj).1
      omega
   have aa:M j=none:=by
    rw[w.ct j]at o;rcases jF o with ⟨m,o⟩|⟨m,o⟩
    ·exact o
    ·cases o
   have ag:=q.2.2 b.1;obtain⟨F,v⟩:=ih (nN X j) j (B+(ns.length+2)) b.1 q.2.1 (by omega) (fun y c f=>by
    rw[u y]at f;rcases jF f with ⟨m,f⟩|⟨m,f⟩
    ·have:=T y c f;omega
    ·have N:y=j:=by
      by_cases h:y=j
      ·exact h
      ·rw[if_neg h]at m;omega
     subst N;rw[if_pos rfl,o]at f;have:=Option.some.inj f;simp at this;omega) (fun y c hp p f=>by
    have N:y≠j:=fun e=>by subst e;omega
    rw[u y,if_neg N,zW,w.ct y]at f;rcases jF f with ⟨m,f⟩|⟨m,f⟩
    ·exact h1 y c (by omega) p f
    ·have e:=Option.some.inj f;have:0≤(M y).getD 0:=by
      cases hMj:M y with
      |none=>simp
      |some d'=>simpa using(hB y d' hMj).1
     omega) (by rw[Wr]at hb;omega)
   have ad:j∉E:=fun W=>by have:=S j W;rw[o]at this;cases this
   have U: ∀y,y≠j→nN X j y=X y:=fun y f=>by rw[u y,if_neg f,zW]
   have R: ∀x∈F,x≠j:=fun x a e=>by
    have:=(v.new x a).1;rw[e,I]at this;cases this
   have fX: ∀x∈F,X x=none:=fun x a=>by rw[←U x (R x a)];exact(v.new x a).1
   have fM: ∀x∈F,M x=none:=fun x a=>by
    have:=fX x a;rw[w.ct x]at this;rcases jF this with ⟨m,this⟩|⟨m,this⟩
    ·exact this
    ·cases this
   have fE: ∀x∈F,x∉E:=fun x a hE=>by have:=S x hE;rw[fX x a]at this;cases this
   have an: ∀out,(∀r∈s++[j],Lv ns out r)→ ∀r∈innOf ns j,Lv ns out r:=fun out K r g=>by
    obtain⟨i,n',e,en,hm⟩:=mD b.1 g;have:=K j (by simp);rw[e]at this;exact this.inn en hm
   refine⟨E++(j::F),?_,?_,?_,?_,?_,?_,?_⟩
   ·rw[W5,WY];refine⟨w.nd,⟨fun W=>R j W rfl,v.nd⟩,fun x a y f e=> ?_⟩;subst e;rcases V5.1 f with rfl|f
    ·exact ad a
    ·exact fE x f a
   ·intro x a;rcases VW.1 a with a|a
    ·exact w.new x a
    ·rcases V5.1 a with rfl|a
     ·exact⟨aa,b.1,q.2.1,ag⟩
     ·have:=v.new x a;exact⟨fM x a,this.2.1,this.2.2.1,by omega⟩
   ·intro x a out K;rcases VW.1 a with a|a
    ·exact w.lv x a out fun r g=>K r (by simp[g])
    ·rcases V5.1 a with rfl|a
     ·exact K x (by simp)
     ·exact v.lv x a out (an out K)
   ·intro y;rw[v.ct y,Q y,Jc];congr 1;have e:cnt ns (E++j::F) y=cnt ns E y+(cnt ns F y+if y∈innOf ns j then 1 else 0):=by
     rw[Lt];congr 1;unfold cnt;rw[List.filter_cons];by_cases f:y∈innOf ns j
     ·rw[if_pos (by simpa using f),if_pos f];rfl
     ·rw[if_neg (by simpa using f),if_neg f];rfl
    rw[e];omega
   ·intro x a y f p;have put: ∀z,z∈F∨(nN X j z).isSome→0<z→z∈E++j::F∨(M z).isSome:=fun z H h0=>by
     rcases H with H|H
     ·exact .inl (by simp[H])
     ·by_cases Y:z=j
      ·exact .inl (by simp[Y])
      ·rw[U z Y,w.ct z]at H;rcases oE H with ⟨m,H⟩|m
       ·exact .inr H
       ·by_cases Z:z∈s
        ·rcases w.rt z Z h0 with h|h
         ·exact .inl (by simp[h])
         ·exact .inr h
        ·rw[if_neg Z]at m;obtain⟨x',L,O⟩:=vi.1 (show 0<cnt ns E z by omega);rcases w.cl x' L z O h0 with h|h
         ·exact .inl (by simp[h])
         ·exact .inr h
    rcases VW.1 a with a|a
    ·rcases w.cl x a y f p with h|h
     ·exact .inl (by simp[h])
     ·exact .inr h
    ·rcases V5.1 a with rfl|a
     ·exact put y (v.rt y f p) p
     ·exact put y (v.cl x a y f p) p
   ·intro r g C;rcases VW.1 g with g|g
    ·rcases w.rt r g C with h|h
     ·exact .inl (by simp[h])
     ·exact .inr h
    ·simp only[VK]at g;subst g;exact .inl (by simp)
   ·intro x a;rcases VW.1 a with a|a
    ·rcases w.up x a with h|⟨y,f,h⟩
     ·exact .inl (by simp[h])
     ·exact .inr ⟨y,by simp[f],h⟩
    ·rcases V5.1 a with rfl|a
     ·exact .inl (by simp)
     ·rcases v.up x a with h|⟨y,f,h⟩
      ·exact .inr ⟨j,by simp,h⟩
      ·exact .inr ⟨y,by simp[f],h⟩
  ·rw[if_neg b];refine⟨E,w.nd,w.new,fun x a out K=>w.lv x a out fun r g=>K r (by simp[g]),Q,w.cl,?_,fun x a=> ?_⟩
   ·intro r g C;rcases VW.1 g with g|g
    ·exact w.rt r g C
    ·simp only[VK]at g;subst g;have D:(X r).isSome:=by
      cases t:X r with
      |some d=>rfl
      |none=>exact absurd ⟨C,by rw[I,t];rfl⟩ b
     rw[w.ct r]at D;rcases oE D with ⟨m,D⟩|m
     ·exact .inr D
     ·rw[if_neg A.2]at m;obtain⟨x',L,O⟩:=vi.1 (show 0<cnt ns E r by omega);exact w.cl x' L r O C
   ·rcases w.up x a with h|h
    ·exact .inl (by simp[h])
    ·exact .inr h
end
section
theorem NV.roots{ns:List Nd}{pos:Int→Nat}{M:LM}{a:Nat}{f k:List Int}{E:List Int}{g:LM}(w:NV ns pos M a f E g)(h: ∀x,x∈f↔x∈k):NV ns pos M a k E g:=
 ⟨w.nd,w.new,fun x e out l=>w.lv x e out fun r d=>l r ((h r).1 d),fun j=>by
  rw[w.ct j];congr 2;by_cases b:j∈f
  ·rw[if_pos b,if_pos ((h j).1 b)]
  ·rw[if_neg b,if_neg (fun c=>b ((h j).2 c))],w.cl,fun r d=>w.rt r ((h r).2 d),fun x e=>(w.up x e).imp (fun c=>(h x).1 c) id⟩
theorem DY{ns:List Nd}{pos:Int→Nat}(a:nz ns pos): ∀(k:Nat)(M:LM)(i:Int)(B:Nat),0<i→i≤(ns.length:Int)→pos i<k→(∀j c,M j=some c→0≤c∧c≤B)→(∀j c,pos j<pos i→0<j→M j=some c→1≤c)→B+k*(ns.length+2)<2 ^ 62→
 ∃E,NV ns pos M (pos i) (innOf ns i) E (uO ns k M i)
 |0,_,_,_,_,_,h,_,_,_=>by omega
 |k+1,M,i,B,h0,g,l,d,b,e=>by
  rw[D3];obtain⟨E,w⟩:=Je a (DY a k) M (pos i) B (by omega) d b e _ (sd (innOf ns i)) rfl (Qb _) fun j f=>a.down h0 ((Lw _ _).1 f);exact⟨E,w.roots fun x=>Lw x _⟩
def je(ns:List Nd)(M:LM)(x:Int):List Nat:=(List.range ns.length).filter fun w=>decide ((M ((w:Int)+1)).isSome∧x∈innOf ns ((w:Int)+1))
theorem jG{ns:List Nd}{M:LM}{x:Int}{w:Nat}:w∈je ns M x↔w<ns.length∧(M ((w:Int)+1)).isSome∧x∈innOf ns ((w:Int)+1):=by
 unfold je;rw[Xm,Wq,decide_eq_true_iff]
structure gm (ns:List Nd) (out:Int) (M:LM) (pos:Int→Nat):Prop where
 ranked:nz ns pos
 out1:1≤out
 outn:out≤(ns.length:Int)
 one: ∀n∈ns,n.kind=9∨n.kind=10→n.inn.length=1
 lv: ∀x,(M x).isSome↔Lv ns out x
 ct: ∀x c,1≤x→M x=some c→c=((je ns M x).length:Int)
theorem NW{ns:List Nd}{out:Int}{pos:Int→Nat}(L:nz ns pos)(Q:pos out≤ns.length)(J:1≤out)(C:out≤(ns.length:Int))(V:ns.length<2 ^ 20)(one: ∀n∈ns,n.kind=9∨n.kind=10→n.inn.length=1):
 gm ns out (ko ns out) pos:=by
 have f: ∀x c,qh (fun _=>none:LM) out 0 x=some c→x=out∧c=0:=fun x c h=>by
  unfold qh at h;split at h
  ·rename_i e;exact⟨e,(Option.some.inj h).symm⟩
  ·cases h
 obtain⟨E,w⟩:=DY L (ns.length+1) (qh (fun _=>none) out 0) out 0 (by omega) C (by omega) (fun j c h=>by have:=(f j c h).2;omega) (fun j c Q h0 h=>by have:=(f j c h).1;subst this;omega) (by
  have:(ns.length+1)*(ns.length+2)≤2 ^ 20*(2 ^ 20+1):=X9 (by omega) (by omega);omega)
 have u:qh (fun _=>none:LM) out 0 out=some 0:=by unfold qh;rw[if_pos rfl]
 have m: ∀x,(qh (fun _=>none:LM) out 0 x).isSome→x=out:=fun x h=>by
  obtain⟨c,o⟩:=W8.1 h;exact(f x c o).1
 show gm ns out (uO ns (ns.length+1) (qh (fun _=>none) out 0) out) pos;generalize uO ns (ns.length+1) (qh (fun _=>none) out 0) out=M at w ⊢;have D:out∉E:=fun h=>by have:=(w.new out h).1;rw[u]at this;cases this
 have b: ∀r∈innOf ns out,Lv ns out r:=fun r F=>by
  obtain⟨i,n,e,t,A⟩:=mD (by omega) F;have h:Lv ns out out:= .out;have h:Lv ns out ((i:Int)+1):=by rw[←e];exact h
  exact h.inn t A
 have B: ∀x,0<x→(M x).isSome→x=out∨x∈E:=fun x h0 p=>by
  rw[w.ct x]at p;rcases oE p with ⟨_,h⟩|h
  ·exact .inl (m x h)
  ·by_cases g:x∈innOf ns out
   ·rcases w.rt x g h0 with h|h
    ·exact .inr h
    ·exact .inl (m x h)
   ·rw[if_neg g]at h;obtain⟨y,a,k⟩:=vi.1 (show 0<cnt ns E x by omega);rcases w.cl y a x k h0 with h|h
    ·exact .inr h
    ·exact .inl (m x h)
 have l: ∀y,y=out∨y∈E→ ∀j,j∈innOf ns y→(M j).isSome:=fun y a j K=>by
  rw[w.ct j];rcases a with rfl|a
  ·rw[if_pos K,vj (by omega)];rfl
  ·rw[vj (by have:=vi.2 ⟨y,a,K⟩;omega)];rfl
 have s:(M out).isSome:=by
  rw[w.ct out];generalize (cnt ns E out+if out∈innOf ns out then 1 else 0)=q;unfold xl;split
  ·rw[u];rfl
  ·rfl
 have z: ∀x,(M x).isSome↔Lv ns out x:=fun x=>by
  constructor
  ·intro p;rw[w.ct x]at p;rcases oE p with ⟨_,h⟩|h
   ·rw[m x h];exact .out
   ·by_cases g:x∈innOf ns out
    ·exact b x g
    ·rw[if_neg g]at h;obtain⟨y,a,k⟩:=vi.1 (show 0<cnt ns E x by omega);obtain⟨i,n,e,t,A⟩:=mD (w.new y a).2.1 k;have:=w.lv y a out b;rw[e]at this;exact this.inn t A
  ·intro p
   induction p with
   |out=>exact s
   | @inn i n j h t A S=>exact l _ (B _ (by omega) S) j (by rw[fp t];exact A)
 refine⟨L,J,C,one,z,fun x c p o=> ?_⟩;have N:c=((cnt ns (out::E) x:Nat):Int):=by
  have e:cnt ns (out::E) x=cnt ns E x+if x∈innOf ns out then 1 else 0:=by
   unfold cnt;rw[List.filter_cons];by_cases a:x∈innOf ns out
   ·rw[if_pos (by simpa using a),if_pos a];rfl
   ·rw[if_neg (by simpa using a),if_neg a];rfl
  rw[w.ct x]at o;rcases jF o with ⟨h0,o⟩|⟨h0,o⟩
  ·have:=(f x c o).2;rw[e];omega
  ·have o:=Option.some.inj o;have:(qh (fun _=>none:LM) out 0 x).getD 0=0:=by
    cases h:qh (fun _=>none:LM) out 0 x with
    |none=>rfl
    |some d=>rw[(f x d h).2];rfl
   rw[e];omega
 rw[N];congr 1;have H:((out::E).filter fun y=>decide (x∈innOf ns y)).Nodup:=List.Pairwise.filter _ (WY.2 ⟨D,w.nd⟩);have I:((je ns M x).map fun w:Nat=>(w:Int)+1).Nodup:=by
  unfold List.Nodup;rw[XW];have:(je ns M x).Nodup:=List.Pairwise.filter _ X1;exact this.imp fun h e=>h (by omega)
 have T:=jL _ ((je ns M x).map fun w:Nat=>(w:Int)+1) H fun y a=>by
  rw[Xm,decide_eq_true_iff]at a;obtain⟨a,k⟩:=a;have G:0<y∧y≤(ns.length:Int)∧(M y).isSome:=by
   rcases V5.1 a with rfl|a
   ·exact⟨by omega,C,s⟩
   ·exact⟨(w.new y a).2.1,(w.new y a).2.2.1,(z y).2 (w.lv y a out b)⟩
  rw[VZ];have e:(((y-1).toNat:Nat):Int)+1=y:=by omega
  exact⟨(y-1).toNat,jG.2 ⟨by omega,by rw[e];exact G.2.2,by rw[e];exact k⟩,e⟩
 have U:=jL _ ((out::E).filter fun y=>decide (x∈innOf ns y)) I fun y a=>by
  obtain⟨v,R,rfl⟩:=VZ.1 a;obtain⟨J,O,P⟩:=jG.1 R;rw[Xm,decide_eq_true_iff];refine⟨?_,P⟩;rcases B _ (by omega) O with h|h
  ·rw[h];simp
  ·exact V0 _ h
 rw[Ug]at T U;unfold cnt;omega
theorem uL{ns:List Nd}{M:LM}{a:Int}: ∀j:Nat,j≤ns.length→(fq ns M a j=0∧ ∀w<j,¬((M ((w:Int)+1)).isSome∧a∈innOf ns ((w:Int)+1)))∨ ∃w<j,fq ns M a j=(w:Int)+1∧(M ((w:Int)+1)).isSome∧a∈innOf ns ((w:Int)+1)
 |0,_=> .inl ⟨rfl,fun w h=>absurd h (X7 _)⟩
 |j+1,m=>by
  have f:j<ns.length:=by omega
  obtain⟨n,k⟩: ∃n,ns[j]? =some n:=⟨_,bo f⟩;have g:=fp k;unfold fq;rw[k];show((if(M ((j:Int)+1)).isSome∧a∈n.inn then(j:Int)+1 else fq ns M a j)=0∧_)∨ ∃w<j+1,(if(M ((j:Int)+1)).isSome∧a∈n.inn then(j:Int)+1 else fq ns M a j)=_∧_;by_cases b:(M ((j:Int)+1)).isSome∧a∈n.inn
  ·rw[if_pos b];exact .inr ⟨j,by omega,rfl,b.1,by rw[g];exact b.2⟩
  ·rw[if_neg b];rcases uL (ns:=ns) (M:=M) (a:=a) j (by omega) with ⟨l,c⟩|⟨w,l,c⟩
   ·refine .inl ⟨l,fun w o d=> ?_⟩;by_cases e:w=j
    ·subst e;rw[g]at d;exact b d
    ·exact c w (by omega) d
   ·exact .inr ⟨w,by omega,c⟩
theorem gm.hasUser{ns:List Nd}{out:Int}{M:LM}{pos:Int→Nat}(I:gm ns out M pos):Mz ns M:=by
 intro i hi f;have j:=I.ct _ _ (by omega) f;have:0<(je ns M ((i:Int)+1)).length:=by omega
 obtain⟨w,g⟩:=List.length_pos_iff_exists_mem.1 this;obtain⟨b,c,d⟩:=jG.1 g;unfold eO;rcases uL (M:=M) (a:=(i:Int)+1) ns.length (VX _) with ⟨_,h⟩|⟨v,_,e,_⟩
 ·exact absurd ⟨c,d⟩ (h w b)
 ·omega
theorem gm.user{ns:List Nd}{out:Int}{M:LM}{pos:Int→Nat}(I:gm ns out M pos){a:Int}(n:1≤a)(m:M a=some 1): ∃w:Nat,eO ns M a=(w:Int)+1∧w<ns.length∧(M ((w:Int)+1)).isSome∧a∈innOf ns ((w:Int)+1)∧
 ∀v:Nat,v<ns.length→(M ((v:Int)+1)).isSome→a∈innOf ns ((v:Int)+1)→v=w:=by
 have o:=I.ct _ _ n m;have l:(je ns M a).length=1:=by omega
 obtain⟨w,f⟩:=Xu.1 l;obtain⟨g,j,k⟩:=jG.1 (show w∈je ns M a by rw[f];simp);have only: ∀v:Nat,v<ns.length→(M ((v:Int)+1)).isSome→a∈innOf ns ((v:Int)+1)→v=w:=fun v b c d=>by
  have:=jG.2 ⟨b,c,d⟩;rw[f]at this;simpa using this
 rcases uL (M:=M) (a:=a) ns.length (VX _) with ⟨_,h⟩|⟨v,b,e,c,d⟩
 ·exact absurd ⟨j,k⟩ (h w g)
 ·have:=only v b c d;subst this;exact⟨v,e,g,j,k,only⟩
end
section
structure qc (ns:List Nd) (out:Int) (M:LM) (i w:Nat) (na nu a':Nd) (st:Cd):Prop where
 ea:ns[i]? =some na
 m1:M ((i:Int)+1)=some 1
 no:(i:Int)+1≠out
 we:gq na.kind
 us:eO ns M ((i:Int)+1)=(w:Int)+1
 eu:ns[w]? =some nu
 tk:nF na nu=some a'
 st:st=(vF ((w:Int)+1) ((i:Int)+1) (ns.set i a'),if out=(w:Int)+1 then(i:Int)+1 else out,R2 (qh M ((i:Int)+1) ((M ((w:Int)+1)).getD 0)) ((w:Int)+1))
theorem DZ{ns:List Nd}{out:Int}{M:LM}{pos:Int→Nat}(I:gm ns out M pos){i:Nat}{st:Cd}(h:eP ns out M i=some st): ∃w na nu a',qc ns out M i w na nu a' st:=by
 unfold eP at h;cases e1:ns[i]? with
 |none=>rw[e1]at h;cases h
 |some na=>
  rw[e1]at h
  replace h:(if M ((i:Int)+1)=some 1∧(i:Int)+1≠out∧gq na.kind then
   match ns[(eO ns M ((i:Int)+1)-1).toNat]? with
   |none=>none
   |some nu=>(nF na nu).map fun a'=>(vF (eO ns M ((i:Int)+1)) ((i:Int)+1) (ns.set i a'),if out=eO ns M ((i:Int)+1) then(i:Int)+1 else out,
    R2 (qh M ((i:Int)+1) ((M (eO ns M ((i:Int)+1))).getD 0)) (eO ns M ((i:Int)+1)))
   else none)=some st:=h
  by_cases a:M ((i:Int)+1)=some 1∧(i:Int)+1≠out∧gq na.kind
  ·rw[if_pos a]at h;obtain⟨w,b,_⟩:=I.user (by omega) a.1;rw[b,show((w:Int)+1-1).toNat=w by omega]at h;cases e2:ns[w]? with
   |none=>rw[e2]at h;cases h
   |some nu=>
    rw[e2]at h;replace h:(nF na nu).map (fun a'=>(vF ((w:Int)+1) ((i:Int)+1) (ns.set i a'),if out=(w:Int)+1 then(i:Int)+1 else out,
     R2 (qh M ((i:Int)+1) ((M ((w:Int)+1)).getD 0)) ((w:Int)+1)))=some st:=h
    obtain⟨a',c,d⟩:=WM.1 h;exact⟨w,na,nu,a',e1,a.1,a.2.1,a.2.2,b,e2,c,d.symm⟩
  ·rw[if_neg a]at h;cases h
theorem iM{a u x:Nd}(h:nF a u=some x):x.inn=a.inn∧x.kind=a.kind∧x.weights=a.weights∧x.bias=a.bias∧(u.kind=10∨u.kind=9):=by
 unfold nF at h;split at h
 ·rename_i b;cases h;exact⟨rfl,rfl,rfl,rfl,.inl b.1⟩
 ·split at h
  ·rename_i b;cases h;exact⟨rfl,rfl,rfl,rfl,.inr b.1⟩
  ·cases h
theorem Jf(u a:Int)(ns:List Nd)(q:Nat):(vF u a ns)[q]? =ns[q]?.map fun n=>if(q:Int)+1=u then n else{n with inn:=n.inn.map (nM u a)}:=by
 unfold vF;rw[XN]
theorem uM(u a:Int)(ns:List Nd):(vF u a ns).length=ns.length:=by simp[vF]
section
variable {ns:List Nd} {out:Int} {M:LM} {pos:Int→Nat} {i w:Nat} {na nu a':Nd} {st:Cd}
theorem qc.len(s:qc ns out M i w na nu a' st):st.1.length=ns.length:=by rw[s.st];show(vF _ _ _).length=_;rw[uM,VU]
theorem qc.il(s:qc ns out M i w na nu a' st):i<ns.length:=(R8.1 s.ea).1
theorem qc.wl(s:qc ns out M i w na nu a' st):w<ns.length:=(R8.1 s.eu).1
theorem qc.inn(I:gm ns out M pos)(s:qc ns out M i w na nu a' st):nu.inn=[(i:Int)+1]:=by
 obtain⟨v,f,_,_,b,_⟩:=I.user (a:=(i:Int)+1) (by omega) s.m1;have e:v=w:=by have:=s.us;omega
 subst e;rw[fp s.eu]at b;have c:=I.one nu (VL s.eu) ((iM s.tk).2.2.2.2.symm.imp id id);obtain⟨x,d⟩:=Xu.1 c;rw[d]at b ⊢;simp only[VK]at b;rw[b]
theorem qc.live(I:gm ns out M pos)(s:qc ns out M i w na nu a' st):(M ((w:Int)+1)).isSome∧ ∀v:Nat,v<ns.length→(M ((v:Int)+1)).isSome→((i:Int)+1)∈innOf ns ((v:Int)+1)→v=w:=by
 obtain⟨v,d,_,b,_,c⟩:=I.user (a:=(i:Int)+1) (by omega) s.m1;have e:v=w:=by have:=s.us;omega
 subst e;exact⟨b,c⟩
theorem qc.lt(I:gm ns out M pos)(s:qc ns out M i w na nu a' st):pos ((i:Int)+1)<pos ((w:Int)+1):=by
 have:=(I.ranked w nu s.eu).2 ((i:Int)+1) (by rw[s.inn I];simp);exact this.2.2 (by omega)
theorem qc.ne(I:gm ns out M pos)(s:qc ns out M i w na nu a' st):i≠w:=fun e=>by have:=s.lt I;rw[e]at this;omega
theorem qc.get(s:qc ns out M i w na nu a' st)(q:Nat):st.1[q]? =ns[q]?.map fun n=>let m:=if q=i then a' else n;if(q:Int)+1=(w:Int)+1 then m else{m with inn:=m.inn.map (nM ((w:Int)+1) ((i:Int)+1))}:=by
 rw[s.st];show(vF _ _ _)[q]? =_;rw[Jf];by_cases h:i=q
 ·subst h;rw[V4 s.il,s.ea];simp
 ·rw[Wv h];cases ns[q]? with
  |none=>rfl
  |some n=>simp only[Option.map_some];rw[if_neg (Ne.symm h)]
theorem qc.innOf(s:qc ns out M i w na nu a' st)(q:Nat):innOf st.1 ((q:Int)+1)=if q=w then G.innOf ns ((q:Int)+1) else(G.innOf ns ((q:Int)+1)).map (nM ((w:Int)+1) ((i:Int)+1)):=by
 have a:=s.get q;cases e:ns[q]? with
 |none=>
  rw[e]at a;have b:G.innOf st.1 ((q:Int)+1)=[]:=by unfold G.innOf;rw[show((q:Int)+1-1).toNat=q by omega,a];rfl
  have c:G.innOf ns ((q:Int)+1)=[]:=by unfold G.innOf;rw[show((q:Int)+1-1).toNat=q by omega,e]
  rw[b,c];simp
 |some n=>
  rw[e,Option.map_some]at a;rw[fp a,fp e];have hi:(if q=i then a' else n).inn=n.inn:=by
   split
   ·rename_i h;subst h;have:=s.ea;rw[e]at this;cases this;exact(iM s.tk).1
   ·rfl
  by_cases h:q=w
  ·rw[if_pos (by omega),if_pos h,hi]
  ·rw[if_neg (by omega),if_neg h];show(if q=i then a' else n).inn.map _=_;rw[hi]
theorem ml{u a k:Int}(h:k≠u):nM u a k=k:=if_neg h
theorem oF(u a:Int):nM u a u=a:=if_pos rfl
theorem qc.cnt(s:qc ns out M i w na nu a' st)(x:Int):st.2.2 x=if x=(w:Int)+1 then none else if x=(i:Int)+1 then some ((M ((w:Int)+1)).getD 0) else M x:=by
 rw[s.st];rfl
theorem qc.some(I:gm ns out M pos)(s:qc ns out M i w na nu a' st)(x:Int):(st.2.2 x).isSome↔(M x).isSome∧x≠(w:Int)+1:=by
 rw[s.cnt];by_cases a:x=(w:Int)+1
 ·rw[if_pos a];simp[a]
 ·rw[if_neg a];by_cases b:x=(i:Int)+1
  ·rw[if_pos b,b,s.m1];simp;omega
  ·rw[if_neg b];simp[a]
theorem qc.inv(I:gm ns out M pos)(s:qc ns out M i w na nu a' st):gm st.1 st.2.1 st.2.2 pos:=by
 have aa:=s.lt I;have ab:=s.ne I;have g:=s.len;have Z:=s.il;have K:=s.inn I;have p:=s.live I;have b:st.2.1=if out=(w:Int)+1 then(i:Int)+1 else out:=by rw[s.st]
 have r:G.innOf ns ((w:Int)+1)=[(i:Int)+1]:=by rw[fp s.eu,K]
 have C:Lv ns out ((i:Int)+1):=(I.lv _).1 (by rw[s.m1];rfl);have H: ∀{q:Nat}{n:Nd}{j:Int},Lv ns out ((q:Int)+1)→j∈G.innOf ns ((q:Int)+1)→Lv ns out j:=fun{q n j} h L=>by
  obtain⟨V,n2,e,u,z⟩:=mD (by omega) L;have:V=q:=by omega
  subst this;exact h.inn u z
 have F: ∀{q:Nat}{j:Int},Lv st.1 st.2.1 ((q:Int)+1)→j∈G.innOf st.1 ((q:Int)+1)→Lv st.1 st.2.1 j:=fun{q j} h L=>by
  obtain⟨V,n2,e,u,z⟩:=mD (by omega) L;have:V=q:=by omega
  subst this;exact h.inn u z
 have W: ∀x,Lv st.1 st.2.1 x↔Lv ns out x∧x≠(w:Int)+1:=fun x=>by
  constructor
  ·intro h
   induction h with
   |out=>
    rw[b];split
    ·exact⟨C,by omega⟩
    ·rename_i h;exact⟨.out,h⟩
   | @inn q n j h u z P=>
     have N:j∈G.innOf st.1 ((q:Int)+1):=by rw[fp u];exact z
     rw[s.innOf,if_neg (by have:=P.2;omega)]at N;obtain⟨k,l,rfl⟩:=VZ.1 N;by_cases a:k=(w:Int)+1
     ·rw[a,oF];exact⟨C,by omega⟩
     ·rw[ml a];exact⟨H (n:=n) P.1 l,a⟩
  ·rintro⟨h,U⟩;have key: ∀x,Lv ns out x→(x≠(w:Int)+1→Lv st.1 st.2.1 x)∧(x=(w:Int)+1→Lv st.1 st.2.1 ((i:Int)+1)):=by
    intro x h
    induction h with
    |out=>
     refine⟨fun h=> ?_,fun h=> ?_⟩
     ·rw[if_neg h]at b;rw[←b];exact .out
     ·rw[if_pos h]at b;rw[←b];exact .out
    | @inn q n j h u z P=>
      have A:j∈G.innOf ns ((q:Int)+1):=by rw[fp u];exact z
      by_cases m:q=w
      ·subst m;rw[r]at A;simp only[VK]at A;have S:=P.2 rfl;exact⟨fun _=>by rw[A];exact S,fun h=>by omega⟩
      ·have S:=P.1 (by omega);have T:nM ((w:Int)+1) ((i:Int)+1) j∈G.innOf st.1 ((q:Int)+1):=by
        rw[s.innOf,if_neg m];exact V1 A
       have:=F S T;exact⟨fun h=>by rw[ml h]at this;exact this,fun h=>by rw[h,oF]at this;exact this⟩
   exact(key x h).1 U
 refine⟨fun q n u=> ?_,?_,?_,fun n hn l=> ?_,fun x=> ?_,fun x c U v=> ?_⟩
 ·have z:n.inn=G.innOf st.1 ((q:Int)+1):=(fp u).symm;have m:q<ns.length:=by rw[←g];exact(R8.1 u).1
  obtain⟨t,o⟩: ∃t,ns[q]? =Option.some t:=⟨_,bo m⟩;have r0:=I.ranked q t o;rw[z,s.innOf,fp o,g];by_cases f:q=w
  ·rw[if_pos f];exact r0
  ·rw[if_neg f,Ug];refine⟨r0.1,fun j L=> ?_⟩;obtain⟨k,l,rfl⟩:=VZ.1 L;have Y:=r0.2 k l;by_cases a:k=(w:Int)+1
   ·rw[a,oF];refine⟨by omega,by omega,fun _=> ?_⟩;have:=Y.2.2 (by omega);rw[a]at this;omega
   ·rw[ml a];exact Y
 ·rw[b];split
  ·omega
  ·exact I.out1
 ·rw[b,g];split
  ·omega
  ·exact I.outn
 ·obtain⟨q,m⟩:=Wx.1 hn;rw[s.get]at m;obtain⟨t,o,e⟩:=WM.1 m;dsimp only at e;have hi:(if q=i then a' else t).inn=t.inn∧(if q=i then a' else t).kind=t.kind:=by
   split
   ·rename_i h;subst h;have:=s.ea;rw[o]at this;cases this;exact⟨(iM s.tk).1,(iM s.tk).2.1⟩
   ·exact⟨rfl,rfl⟩
  have R:t.kind=9∨t.kind=10:=by
   rw[←hi.2];rw[←e]at l;split at l<;>exact l
  have:=I.one t (VL o) R;rw[←e];split
  ·rw[hi.1];exact this
  ·show(List.map _ _).length=1;rw[Ug,hi.1];exact this
 ·rw[s.some I,I.lv,W]
 ·rw[s.cnt]at v;have O:x≠(w:Int)+1:=fun e=>by rw[if_pos e]at v;cases v
  rw[if_neg O]at v;have D: ∀y:Int,(∀q:Nat,q<ns.length→(((st.2.2 ((q:Int)+1)).isSome∧x∈G.innOf st.1 ((q:Int)+1))↔((M ((q:Int)+1)).isSome∧y∈G.innOf ns ((q:Int)+1))))→je st.1 st.2.2 x=je ns M y:=fun y h=>by
   unfold je;rw[g];refine List.filter_congr fun q m=> ?_;rw[decide_eq_decide];exact h q (Wq.1 m)
  by_cases B:x=(i:Int)+1
  ·rw[if_pos B]at v;obtain⟨d,X⟩:=W8.1 p.1;have:=I.ct _ _ (by omega) X;rw[D ((w:Int)+1) fun q m=> ?_,←this]
   ·rw[X]at v;exact(Option.some.inj v).symm
   ·rw[s.some I,s.innOf];by_cases f:q=w
    ·subst f;constructor
     ·intro h;exact absurd rfl h.1.2
     ·rintro⟨_,h⟩;rw[r]at h;simp only[VK]at h;omega
    ·rw[if_neg f];constructor
     ·rintro⟨⟨E,J⟩,Q⟩;refine⟨E,?_⟩;obtain⟨k,l,e⟩:=VZ.1 Q;by_cases a:k=(w:Int)+1
      ·rw[←a];exact l
      ·rw[ml a]at e;rw[e,B]at l;exact absurd (p.2 q m E l) f
     ·rintro⟨E,J⟩;exact⟨⟨E,by omega⟩,VZ.2 ⟨_,J,by rw[oF,B]⟩⟩
  ·rw[if_neg B]at v;have:=I.ct _ _ U v;rw[D x fun q m=> ?_,←this];rw[s.some I,s.innOf];by_cases f:q=w
   ·subst f;constructor
    ·intro h;exact absurd rfl h.1.2
    ·rintro⟨_,h⟩;rw[r]at h;simp only[VK]at h;omega
   ·rw[if_neg f];constructor
    ·rintro⟨⟨E,J⟩,Q⟩;refine⟨E,?_⟩;obtain⟨k,l,e⟩:=VZ.1 Q;by_cases a:k=(w:Int)+1
     ·rw[a,oF]at e;omega
     ·rw[ml a]at e;rw[←e];exact l
    ·rintro⟨E,J⟩;exact⟨⟨E,by omega⟩,VZ.2 ⟨_,J,ml O⟩⟩
def keys(n:Nat)(M:LM):Nat:=((List.range n).filter fun w:Nat=>(M ((w:Int)+1)).isSome).length
theorem Cb(n:Nat)(M:LM):keys n M≤n:=by have:=List.length_filter_le (fun w:Nat=>(M ((w:Int)+1)).isSome) (List.range n);rw[WT]at this;exact this
theorem qc.keys(I:gm ns out M pos)(s:qc ns out M i w na nu a' st):G.keys ns.length st.2.2<G.keys ns.length M:=by
 have nd:(w::(List.range ns.length).filter fun v:Nat=>(st.2.2 ((v:Int)+1)).isSome).Nodup:=by
  rw[WY];refine⟨fun h=> ?_,List.Pairwise.filter _ X1⟩;rw[Xm]at h;exact((s.some I _).1 h.2).2 rfl
 have:=jL _ ((List.range ns.length).filter fun v:Nat=>(M ((v:Int)+1)).isSome) nd fun v a=>by
  rw[Xm,Wq];rcases V5.1 a with rfl|a
  ·exact⟨s.wl,(s.live I).1⟩
  ·rw[Xm,Wq]at a;exact⟨a.1,((s.some I _).1 a.2).1⟩
 simp only[VS]at this;unfold G.keys;omega
end
theorem Jg{ns:List Nd}{out:Int}{M:LM}{st:Cd}: ∀(k i:Nat),lJ ns out M k i=some st→ ∃j,eP ns out M j=some st∧i≤j∧ ∀q,i≤q→q<j→eP ns out M q=none
 |0,i,h=>by cases h
 |k+1,i,h=>by
  cases e:eP ns out M i with
  |some x=>
   rw[D2 e]at h;exact⟨i,by rw[e];exact h,VX _,fun q c d=>by omega⟩
  |none=>
   rw[D1 e]at h;obtain⟨j,c,d,f⟩:=Jg k (i+1) h;exact⟨j,c,by omega,fun q g a=>by
    by_cases b:q=i
    ·rw[b];exact e
    ·exact f q (by omega) a⟩
theorem vk{ns:List Nd}{out:Int}{M:LM}{pos:Int→Nat}(I:gm ns out M pos){st:Cd}(h:fd ns out M=some st): ∃i w na nu a',qc ns out M i w na nu a' st∧ ∀q<i,eP ns out M q=none:=by
 obtain⟨j,a,_,b⟩:=Jg _ _ h;obtain⟨w,na,nu,a',s⟩:=DZ I a;exact⟨j,w,na,nu,a',s,fun q c=>b q (WV _) c⟩
def eM:Nat→Cd→Cd
 |0,s=>s
 |k+1,s=>match fd s.1 s.2.1 s.2.2 with
  |some t=>eM k t
  |none=>s
inductive yr:Cd→Cd→Prop
 |done {s:Cd}:fd s.1 s.2.1 s.2.2=none→yr s s
 |more {s t f:Cd}:fd s.1 s.2.1 s.2.2=some t→yr t f→yr s f
theorem yt{pos:Int→Nat}: ∀(k:Nat)(s:Cd),gm s.1 s.2.1 s.2.2 pos→keys s.1.length s.2.2<k→yr s (eM k s)
 |0,s,_,h=>by omega
 |k+1,s,I,h=>by
  unfold eM;cases e:fd s.1 s.2.1 s.2.2 with
  |none=>exact .done e
  |some t=>
   obtain⟨i,w,na,nu,a',st,_⟩:=vk I e;refine .more e (yt k t (st.inv I) ?_);have:=st.keys I;rw[st.len];omega
end
section
theorem lf(ns:List Nd)(a:List Int):j9 ns a=a∨ ∃(i:Nat)(n:Nd),ns[i]? =some n∧((i:Int)+1)∉a∧(∀j∈n.inn,j∈a)∧j9 ns a=a++[(i:Int)+1]:=by
 unfold j9;cases h:jr a ns 0 with
 |none=>exact .inl rfl
 |some x=>
  obtain⟨k,n,b,e,c,d⟩:=xn h;rw[SN]at b;subst b;exact .inr ⟨k,n,e,c,d,rfl⟩
theorem nt(ns:List Nd): ∀k,(bM ns k).Nodup
 |0=>by simp[bM]
 |k+1=>by
  have f:=nt ns k;show(j9 ns (bM ns k)).Nodup;rcases lf ns (bM ns k) with e|⟨i,n,_,g,_,e⟩
  ·rw[e];exact f
  ·rw[e,W5];refine⟨f,by simp,fun a h b d c=> ?_⟩;simp only[VK]at d;subst c d;exact g h
theorem qd(ns:List Nd): ∀(k i:Nat)(n:Nd),ns[i]? =some n→((i:Int)+1)∈bM ns k→ ∀j∈n.inn,j∈bM ns k∧(bM ns k).idxOf j<(bM ns k).idxOf ((i:Int)+1)
 |0,i,n,_,h,_,_=>by simp[bM]at h;omega
 |k+1,i,n,d,h,j,a=>by
  have f:=qd ns k i n d;rw[show bM ns (k+1)=j9 ns (bM ns k) from rfl]at h ⊢;rcases lf ns (bM ns k) with e|⟨q,m,c,o,g,e⟩
  ·rw[e]at h ⊢;exact f h j a
  ·rw[e]at h ⊢;by_cases hi:((i:Int)+1)∈bM ns k
   ·have:=f hi j a;rw[XX,XX,if_pos this.1,if_pos hi];exact⟨by simp[this.1],this.2⟩
   ·have l:i=q:=by
     rcases VW.1 h with h|h
     ·exact absurd h hi
     ·simp only[VK]at h;omega
    subst l;rw[d]at c;cases c;have b:=g j a;rw[XX,XX,if_pos b,if_neg hi];have:=XR b;exact⟨by simp[b],by omega⟩
theorem ny{ns:List Nd}(h:(bK ns).length=ns.length){x:Int}(b:1≤x)(c:x≤(ns.length:Int)):x∈bK ns:=by
 apply Decidable.byContradiction;intro d;have nd:(x::bK ns).Nodup:=WY.2 ⟨d,by
  have:=nt ns ns.length;rw[dr]at this;exact(WY.1 this).2⟩
 have:=jL _ ((List.range ns.length).map fun i:Nat=>(i:Int)+1) nd fun y a=>by
  have:1≤y∧y≤(ns.length:Int):=by
   rcases V5.1 a with rfl|a
   ·exact⟨b,c⟩
   ·exact ft ns ns.length y a
  rw[VZ];exact⟨(y-1).toNat,by rw[Wq];omega,by omega⟩
 simp only[VS,Ug,WT]at this;omega
def posG(ns:List Nd)(x:Int):Nat:=if x∈bM ns ns.length then(bM ns ns.length).idxOf x else 0
theorem Cc(ns:List Nd)(x:Int):posG ns x≤ns.length:=by
 unfold posG;split
 ·rename_i h;have b:=XR h;have a:=lh ns ns.length;rw[XA]at a;omega
 ·omega
theorem qe{ns:List Nd}(h:(bK ns).length=ns.length){i:Nat}{n:Nd}(a:ns[i]? =some n){j:Int}(c:j∈n.inn):posG ns j<posG ns ((i:Int)+1):=by
 have hi:=(R8.1 a).1;have b:((i:Int)+1)∈bM ns ns.length:=by
  rw[dr];exact V0 _ (ny h (by omega) (by omega))
 have:=qd ns ns.length i n a b j c;unfold posG;rw[if_pos b,if_pos this.1];exact this.2
theorem FY{ns:List Nd}: ∀(l ws rs:List Int),(dk ns l ws rs).1=0→(∀i∈l,1≤i∧i≤(ns.length:Int))→ ∀i∈l,∃n v,ns[i.toNat-1]? =some n∧n.chk v=0
 |[],_,_,_,_,i,hi=>by simp at hi
 |x::r,ws,rs,h,hl,i,hi=>by
  have d:=hl x (by simp);obtain⟨n,b⟩: ∃n,ns[x.toNat-1]? =some n:=⟨_,bo (l:=ns) (i:=x.toNat-1) (by omega)⟩;unfold dk at h;rw[b]at h;dsimp only at h;by_cases a:n.chk (bQ ws n.inn)≠0
  ·rw[if_pos a]at h;exact absurd h a
  ·rw[if_neg a]at h;by_cases c:cf n (bQ rs n.inn)<0
   ·rw[if_pos c]at h;exact absurd (show(15:Int)=0 from h) (by decide)
   ·rw[if_neg c]at h;rcases V5.1 hi with rfl|hi
    ·exact⟨n,_,b,Decidable.byContradiction a⟩
    ·exact FY r _ _ h (fun i hi=>hl i (by simp[hi])) i hi
theorem zX{g:Gr}(h:g.look.e=0):g.first=0∧(bK g.nodes).length=g.nodes.length∧(dk g.nodes (bK g.nodes) (g.width::List.replicate g.nodes.length 0) (1::List.replicate g.nodes.length 0)).1=0:=by
 unfold Gr.look at h;split at h
 ·rename_i a;exact absurd h a
 ·rename_i a;split at h
  ·cases h
  ·rename_i c;split at h
   ·rename_i b;exact absurd h b
   ·rename_i b;exact⟨by omega,by omega,by omega⟩
theorem Jh{g:Gr}(h:g.look.e=0):nz g.nodes (posG g.nodes)∧1≤g.out∧g.out≤(g.nodes.length:Int)∧1≤g.nodes.length∧g.nodes.length≤12∧(∀n∈g.nodes,n.kind=9∨n.kind=10→n.inn.length=1)∧ ∀n∈g.nodes,∃v,n.chk v=0:=by
 obtain⟨y,o,z⟩:=zX h;obtain⟨s,t,_,_,l,u⟩:=bX y;have chk: ∀(i:Nat)(n:Nd),g.nodes[i]? =some n→ ∃v,n.chk v=0:=fun(i:Nat) (n:Nd) a=>by
  have hi:=(R8.1 a).1;obtain⟨m,v,k,b⟩:=FY _ _ _ z (fun x A=>ft g.nodes g.nodes.length x A) ((i:Int)+1) (ny o (by omega) (by omega));rw[show((i:Int)+1).toNat-1=i by omega,a]at k;cases k;exact⟨v,b⟩
 refine⟨fun i n a=> ?_,l.1,l.2,s,t,fun n d B=> ?_,fun n d=> ?_⟩
 ·obtain⟨v,b⟩:=chk i n a;obtain⟨_,_,q,r,_,f,c,_⟩:=fD b;refine⟨?_,fun j p=> ?_⟩
  ·by_cases m:dm n.kind
   ·have:=f m;omega
   ·have:=c m;omega
  ·have:=u n (VL a) j p;exact⟨by omega,by omega,fun _=>qe o a p⟩
 ·obtain⟨i,a⟩:=Wx.1 d;obtain⟨v,b⟩:=chk i n a;obtain⟨_,_,q,r,_,f,c,_⟩:=fD b;have:=c (by rintro(h|h)<;>omega);omega
 ·obtain⟨i,a⟩:=Wx.1 d;exact chk i n a
theorem vl{g:Gr}(h:g.look.e=0):gm g.nodes g.out (ko g.nodes g.out) (posG g.nodes):=by
 obtain⟨a,b,c,f,j,d,_⟩:=Jh h;exact NW a (Cc _ _) b c (by omega) d
