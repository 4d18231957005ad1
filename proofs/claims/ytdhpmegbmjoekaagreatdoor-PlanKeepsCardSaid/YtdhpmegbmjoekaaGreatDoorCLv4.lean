/- CLv CLv2 CLv3 CLv4, in one text. -/
import Derived.Test.YtdhpmegbmjoekaaGreatDoorCStep3
set_option linter.unusedVariables false
set_option linter.unusedSimpArgs false
namespace Go.Proofs.YtdhpmegbmjoekaaGreatDoor.G
open Go Go.Sh
section
theorem jW {α:Type} [DecidableEq α]: ∀(c a:List α),c.Nodup→(∀x∈c,x∈a)→c.length≤a.length
 |[],_,_,_=>V1 _
 |x::r,a,hn,hs=>by
  have d:=hs x (by simp);rw[Wj] at hn;have:=jW r (a.erase x) hn.2 fun y f=>by
   have b:y≠x:=fun e=>hn.1 (e▸f);exact(List.mem_erase_of_ne b).2 (hs y (by simp[f]))
  rw[List.length_erase_of_mem d] at this;have:=List.length_pos_of_mem d;simp only[UY];omega
theorem BZ (x:Int): ∀l:List Int,l.Pairwise (· ≤ ·)→(vq x l).Pairwise (· ≤ ·)
 |[],_=>by simp[vq]
 |y::r,h=>by
  rw[VL] at h;unfold vq;split
  ·rename_i b;rw[VL,VL];refine⟨fun z a=> ?_,h⟩;rcases U7.1 a with rfl|a
   ·exact b
   ·have:=h.1 z a;omega
  ·rename_i b;rw[VL];refine⟨fun z a=> ?_,BZ x r h.2⟩;rcases(zX x z r).1 a with rfl|a
   ·omega
   ·exact h.1 z a
theorem zV: ∀xs:List Int,(kG xs).Pairwise (· ≤ ·)
 |[]=>List.Pairwise.nil
 |x::r=>BZ x _ (zV r)
theorem QT (l:List Int): ∀c:List Int,c.Pairwise (· < ·)→l.Pairwise (· ≤ ·)→(∀y∈c,∀z∈l,y≤z)→(l.foldl fI c).Pairwise (· < ·):=by
 induction l with
 |nil=>intro c h _ _;exact h
 |cons x r t=>
  intro c h j f;rw[VL] at j;rw[Wb];have g: ∀y∈fI c x,∀z∈r,y≤z:=fun y b z d=>by
   unfold fI at b;split at b
   ·exact f y b z (by simp[d])
   ·rcases UX.1 b with b|b
    ·exact f y b z (by simp[d])
    ·simp only[SH] at b;subst b;exact j.1 z d
  refine t _ ?_ j.2 g;unfold fI;split
  ·exact h
  ·rename_i n;rw[VK];refine⟨h,WG _ _,fun y b z d=> ?_⟩;simp only[SH] at d;subst d;have k:=f y b z (by simp);rcases Int.lt_or_eq_of_le k with o|rfl
   ·exact o
   ·exfalso;obtain⟨m,e⟩: ∃m,c.getLast? =some m:=by
     cases c with
     |nil=>simp at b
     |cons a s=>exact⟨_,List.getLast?_eq_some_getLast (by simp)⟩
    have p:=f m (List.mem_of_getLast? e) y (by simp);have:y≤m:=by
     obtain⟨s,q⟩:=List.getLast?_eq_some_iff.1 e;rw[q] at h b;rw[VK] at h;rcases UX.1 b with b|b
     ·have:=h.2.2 y b m (by simp);omega
     ·simp only[SH] at b;omega
    exact n (by rw[e];congr 1;omega)
theorem Tc (xs:List Int):(sd xs).Pairwise (· < ·):=QT _ [] List.Pairwise.nil (zV xs) (by simp)
theorem Pg (xs:List Int):(sd xs).Nodup:=(Tc xs).imp fun h e=>by omega
inductive Lv (ns:List Nd) (out:Int):Int→Prop
 |out:Lv ns out out
 |inn {i:Nat} {n:Nd} {j:Int}:Lv ns out ((i:Int)+1)→ns[i]? =some n→j∈n.inn→Lv ns out j
def cnt (ns:List Nd) (E:List Int) (j:Int):Nat:=(E.filter fun x=>decide (j∈innOf ns x)).length
theorem K9 (ns:List Nd) (E F:List Int) (j:Int):cnt ns (E++F) j=cnt ns E j+cnt ns F j:=by simp[cnt,List.filter_append]
theorem Sj (ns:List Nd) (E:List Int) (j:Int):cnt ns E j≤E.length:=List.length_filter_le _ _
theorem vO {ns:List Nd} {E:List Int} {j:Int}:0<cnt ns E j↔ ∃x∈E,j∈innOf ns x:=by
 unfold cnt;rw[List.length_pos_iff_exists_mem];constructor
 ·rintro⟨x,a⟩;rw[Wr] at a;exact⟨x,a.1,by simpa using a.2⟩
 ·rintro⟨x,a,b⟩;exact⟨x,Wr.2 ⟨a,by simpa using b⟩⟩
def yn (o:Option Int) (c:Nat):Option Int:=if c=0 then o else some (o.getD 0+c)
theorem A8 (o:Option Int):yn o 0=o:=rfl
theorem Jy (o:Option Int) (a b:Nat):yn (yn o a) b=yn o (a+b):=by
 unfold yn;by_cases c:b=0
 ·subst c;simp
 ·rw[if_neg c,if_neg (show ¬a+b=0 by omega)];by_cases d:a=0
  ·subst d;simp
  ·rw[if_neg d];simp;omega
theorem jP {o:Option Int} {c:Nat} {r:Option Int} (h:yn o c=r):(c=0∧o=r)∨(0<c∧some (o.getD 0+c)=r):=by
 unfold yn at h;by_cases a:c=0
 ·rw[if_pos a] at h;exact .inl ⟨a,h⟩
 ·rw[if_neg a] at h;exact .inr ⟨by omega,h⟩
theorem oW {o:Option Int} {c:Nat} (h:(yn o c).isSome):(c=0∧o.isSome)∨0<c:=by
 unfold yn at h;by_cases a:c=0
 ·rw[if_pos a] at h;exact .inl ⟨a,h⟩
 ·exact .inr (by omega)
theorem vP {o:Option Int} {c:Nat} (h:0<c):yn o c=some (o.getD 0+c):=by unfold yn;rw[if_neg (by omega)]
theorem QU (M:LM) (j:Int) (h:0≤(M j).getD 0∧(M j).getD 0<2 ^ 62) (k:Int):oc M j k=yn (M k) (if k=j then 1 else 0):=by
 unfold oc wy;by_cases a:k=j
 ·subst a;rw[if_pos rfl,if_pos rfl,al (by omega)];rfl
 ·rw[if_neg a,if_neg a];rfl
structure Nj (ns:List Nd) (pos:Int→Nat) (M:LM) (top:Nat) (roots:List Int) (E:List Int) (M':LM):Prop where
 nd:E.Nodup
 new: ∀x∈E,M x=none∧0<x∧x≤(ns.length:Int)∧pos x<top
 lv: ∀x∈E,∀out,(∀r∈roots,Lv ns out r)→Lv ns out x
 ct: ∀j,M' j=yn (M j) (cnt ns E j+if j∈roots then 1 else 0)
 cl: ∀x∈E,∀j∈innOf ns x,0<j→j∈E∨(M j).isSome
 rt: ∀r∈roots,0<r→r∈E∨(M r).isSome
 up: ∀x∈E,x∈roots∨ ∃y∈E,x∈innOf ns y
theorem gk {ns:List Nd} {i:Nat} {n:Nd} (h:ns[i]? =some n):innOf ns ((i:Int)+1)=n.inn:=by
 unfold innOf;rw[show((i:Int)+1-1).toNat=i by omega,h]
theorem mQ {ns:List Nd} {x j:Int} (a:0<x) (h:j∈innOf ns x): ∃(i:Nat) (n:Nd),x=(i:Int)+1∧ns[i]? =some n∧j∈n.inn:=by
 unfold innOf at h;cases e:ns[(x-1).toNat]? with
 |none=>rw[e] at h;simp at h
 |some n=>rw[e] at h;exact⟨(x-1).toNat,n,by omega,e,h⟩
theorem nP.down {ns:List Nd} {pos:Int→Nat} (h:nP ns pos) {x j:Int} (c:0<x) (a:j∈innOf ns x):0≤j∧j≤(ns.length:Int)∧(0<j→pos j<pos x):=by
 obtain⟨i,n,rfl,e,b⟩:=mQ c a;exact(h i n e).2 j b
theorem Jz (ns:List Nd) (k:Nat) (M:LM) (l:List Int) (j:Int):gX ns k M (l++[j])=if 0<j∧(oc (gX ns k M l) j j).getD 0=1 then vr ns k (oc (gX ns k M l) j) j else oc (gX ns k M l) j:=by
 unfold gX;rw[Vk];rfl
theorem JA {ns:List Nd} {pos:Int→Nat} (hr:nP ns pos) {k:Nat}
 (ih: ∀(M:LM) (i:Int) (B:Nat),0<i→i≤(ns.length:Int)→pos i<k→(∀j c,M j=some c→0≤c∧c≤B)→(∀j c,pos j<pos i→0<j→M j=some c→1≤c)→B+k*(ns.length+2)<2 ^ 62→ ∃E,Nj ns pos M (pos i) (innOf ns i) E (vr ns k M i))
 (M:LM) (G B:Nat) (ap:G≤k) (hB: ∀j c,M j=some c→0≤c∧c≤B) (h1: ∀j c,pos j<G→0<j→M j=some c→1≤c) (hb:B+(k+1)*(ns.length+2)<2 ^ 62):
 ∀(n:Nat) (l:List Int),l.length=n→l.Nodup→(∀j∈l,0≤j∧j≤(ns.length:Int)∧(0<j→pos j<G))→ ∃E,Nj ns pos M G l E (gX ns k M l):=by
 intro n
 induction n with
 |zero=>
  intro l hl _ _;have:l=[]:=Vm.1 hl;subst this;exact⟨[],List.nodup_nil,by simp,by simp,fun j=>by simp[cnt,A8,gX],by simp,by simp,by simp⟩
 |succ n aj=>
  intro l hl J V;obtain⟨s,j,rfl⟩: ∃s j,l=s++[j]:=⟨l.dropLast,l.getLast (by intro e;subst e;simp at hl),(List.dropLast_concat_getLast _).symm⟩;have A:s.Nodup∧j∉s:=by
   rw[Wa] at J;exact⟨J.1,fun W=>J.2.2 j W j (by simp) rfl⟩
  have q:=V j (by simp);obtain⟨E,w⟩:=aj s (by simpa using hl) A.1 fun x a=>V x (by simp[a]);rw[Jz];generalize hX:gX ns k M s=X at w ⊢;have ao:E.length≤ns.length:=by
   have:=jW E ((List.range ns.length).map fun i:Nat=>(i:Int)+1) w.nd fun x a=>by
    have:=w.new x a;rw[U5];exact⟨(x-1).toNat,by rw[VD];omega,by omega⟩
   simpa using this
  have T: ∀j c,X j=some c→0≤c∧c≤(B+(ns.length+1):Nat):=fun y c f=>by
   rw[w.ct y] at f;have m:=Sj ns E y;rcases jP f with ⟨m,f⟩|⟨m,f⟩
   ·have:=hB y c f;omega
   ·have e:=Option.some.inj f;have:0≤(M y).getD 0∧(M y).getD 0≤(B:Int):=by
     cases t:M y with
     |none=>simp
     |some d=>simpa using hB y d t
    have:(if y∈s then 1 else 0)≤1:=by split<;>omega
    omega
  have ab:0≤(X j).getD 0∧(X j).getD 0<2 ^ 62:=by
   cases t:X j with
   |none=>simp
   |some d=>
    have:=T j d t;have:(B+(ns.length+1))≤B+(k+1)*(ns.length+2):=by
     have:1*(ns.length+2)≤(k+1)*(ns.length+2):=Vn _ (by omega);omega
    simp only[WJ];omega
  have u:=QU X j ab;have S: ∀x∈E,(X x).isSome:=fun x a=>by
   rw[w.ct x];rcases w.up x a with P|⟨y,f,ai⟩
   ·rw[if_pos P,vP (by omega)];rfl
   ·rw[vP (by have:=vO.2 ⟨y,f,ai⟩;omega)];rfl
  have I:oc X j j=some ((X j).getD 0+1):=by rw[u j,if_pos rfl];rfl
  have Q: ∀y,oc X j y=yn (M y) (cnt ns E y+if y∈s++[j] then 1 else 0):=fun y=>by
   rw[u y,w.ct y,Jy];congr 1;by_cases f:y=j
   ·subst f;rw[if_pos rfl,if_neg A.2,if_pos (by simp)]
   ·rw[if_neg f];by_cases P:y∈s
    ·rw[if_pos P,if_pos (by simp[P])]
    ·rw[if_neg P,if_neg (by simp[P,f])]
  by_cases b:0<j∧(oc X j j).getD 0=1
  ·rw[if_pos b];have o:X j=none:=by
    cases t:X j with
    |none=>rfl
    |some d=>
     exfalso;rw[I,t] at b;have hd:d=0:=by have:=b.2;simp at this;omega
     rw[w.ct j] at t;rcases jP t with ⟨m,t⟩|⟨m,t⟩
     ·have:=h1 j d (q.2.2 b.1) b.1 t;omega
     ·have e:=Option.some.inj t;have:0≤(M j).getD 0:=by
       cases hMj:M j with
       |none=>simp
       |some d'=>simpa using(hB j d' hMj).1
      omega
   have aa:M j=none:=by
    rw[w.ct j] at o;rcases jP o with ⟨m,o⟩|⟨m,o⟩
    ·exact o
    ·cases o
   have ag:=q.2.2 b.1;obtain⟨F,v⟩:=ih (oc X j) j (B+(ns.length+2)) b.1 q.2.1 (by omega) (fun y c f=>by
    rw[u y] at f;rcases jP f with ⟨m,f⟩|⟨m,f⟩
    ·have:=T y c f;omega
    ·have N:y=j:=by
      by_cases h:y=j
      ·exact h
      ·rw[if_neg h] at m;omega
     subst N;rw[if_pos rfl,o] at f;have:=Option.some.inj f;simp at this;omega) (fun y c hp p f=>by
    have N:y≠j:=fun e=>by subst e;omega
    rw[u y,if_neg N,A8,w.ct y] at f;rcases jP f with ⟨m,f⟩|⟨m,f⟩
    ·exact h1 y c (by omega) p f
    ·have e:=Option.some.inj f;have:0≤(M y).getD 0:=by
      cases hMj:M y with
      |none=>simp
      |some d'=>simpa using(hB y d' hMj).1
     omega) (by rw[Vt] at hb;omega)
   have ad:j∉E:=fun W=>by have:=S j W;rw[o] at this;cases this
   have U: ∀y,y≠j→oc X j y=X y:=fun y f=>by rw[u y,if_neg f,A8]
   have R: ∀x∈F,x≠j:=fun x a e=>by
    have:=(v.new x a).1;rw[e,I] at this;cases this
   have fX: ∀x∈F,X x=none:=fun x a=>by rw[←U x (R x a)];exact(v.new x a).1
   have fM: ∀x∈F,M x=none:=fun x a=>by
    have:=fX x a;rw[w.ct x] at this;rcases jP this with ⟨m,this⟩|⟨m,this⟩
    ·exact this
    ·cases this
   have fE: ∀x∈F,x∉E:=fun x a hE=>by have:=S x hE;rw[fX x a] at this;cases this
   have an: ∀out,(∀r∈s++[j],Lv ns out r)→ ∀r∈innOf ns j,Lv ns out r:=fun out K r g=>by
    obtain⟨i,n',e,en,hm⟩:=mQ b.1 g;have:=K j (by simp);rw[e] at this;exact this.inn en hm
   refine⟨E++(j::F),?_,?_,?_,?_,?_,?_,?_⟩
   ·rw[Wa,Wj];refine⟨w.nd,⟨fun W=>R j W rfl,v.nd⟩,fun x a y f e=> ?_⟩;subst e;rcases U7.1 f with rfl|f
    ·exact ad a
    ·exact fE x f a
   ·intro x a;rcases UX.1 a with a|a
    ·exact w.new x a
    ·rcases U7.1 a with rfl|a
     ·exact⟨aa,b.1,q.2.1,ag⟩
     ·have:=v.new x a;exact⟨fM x a,this.2.1,this.2.2.1,by omega⟩
   ·intro x a out K;rcases UX.1 a with a|a
    ·exact w.lv x a out fun r g=>K r (by simp[g])
    ·rcases U7.1 a with rfl|a
     ·exact K x (by simp)
     ·exact v.lv x a out (an out K)
   ·intro y;rw[v.ct y,Q y,Jy];congr 1;have e:cnt ns (E++j::F) y=cnt ns E y+(cnt ns F y+if y∈innOf ns j then 1 else 0):=by
     rw[K9];congr 1;unfold cnt;rw[List.filter_cons];by_cases f:y∈innOf ns j
     ·rw[if_pos (by simpa using f),if_pos f];rfl
     ·rw[if_neg (by simpa using f),if_neg f];rfl
    rw[e];omega
   ·intro x a y f p;have put: ∀z,z∈F∨(oc X j z).isSome→0<z→z∈E++j::F∨(M z).isSome:=fun z H h0=>by
     rcases H with H|H
     ·exact .inl (by simp[H])
     ·by_cases Y:z=j
      ·exact .inl (by simp[Y])
      ·rw[U z Y,w.ct z] at H;rcases oW H with ⟨m,H⟩|m
       ·exact .inr H
       ·by_cases Z:z∈s
        ·rcases w.rt z Z h0 with h|h
         ·exact .inl (by simp[h])
         ·exact .inr h
        ·rw[if_neg Z] at m;obtain⟨x',L,O⟩:=vO.1 (show 0<cnt ns E z by omega);rcases w.cl x' L z O h0 with h|h
         ·exact .inl (by simp[h])
         ·exact .inr h
    rcases UX.1 a with a|a
    ·rcases w.cl x a y f p with h|h
     ·exact .inl (by simp[h])
     ·exact .inr h
    ·rcases U7.1 a with rfl|a
     ·exact put y (v.rt y f p) p
     ·exact put y (v.cl x a y f p) p
   ·intro r g C;rcases UX.1 g with g|g
    ·rcases w.rt r g C with h|h
     ·exact .inl (by simp[h])
     ·exact .inr h
    ·simp only[SH] at g;subst g;exact .inl (by simp)
   ·intro x a;rcases UX.1 a with a|a
    ·rcases w.up x a with h|⟨y,f,h⟩
     ·exact .inl (by simp[h])
     ·exact .inr ⟨y,by simp[f],h⟩
    ·rcases U7.1 a with rfl|a
     ·exact .inl (by simp)
     ·rcases v.up x a with h|⟨y,f,h⟩
      ·exact .inr ⟨j,by simp,h⟩
      ·exact .inr ⟨y,by simp[f],h⟩
  ·rw[if_neg b];refine⟨E,w.nd,w.new,fun x a out K=>w.lv x a out fun r g=>K r (by simp[g]),Q,w.cl,?_,fun x a=> ?_⟩
   ·intro r g C;rcases UX.1 g with g|g
    ·exact w.rt r g C
    ·simp only[SH] at g;subst g;have D:(X r).isSome:=by
      cases t:X r with
      |some d=>rfl
      |none=>exact absurd ⟨C,by rw[I,t];rfl⟩ b
     rw[w.ct r] at D;rcases oW D with ⟨m,D⟩|m
     ·exact .inr D
     ·rw[if_neg A.2] at m;obtain⟨x',L,O⟩:=vO.1 (show 0<cnt ns E r by omega);exact w.cl x' L r O C
   ·rcases w.up x a with h|h
    ·exact .inl (by simp[h])
    ·exact .inr h
end
section
theorem Nj.roots {ns:List Nd} {pos:Int→Nat} {M:LM} {a:Nat} {f k:List Int} {E:List Int} {g:LM} (w:Nj ns pos M a f E g) (h: ∀x,x∈f↔x∈k):Nj ns pos M a k E g:=
 ⟨w.nd,w.new,fun x e out l=>w.lv x e out fun r d=>l r ((h r).1 d),fun j=>by
  rw[w.ct j];congr 2;by_cases b:j∈f
  ·rw[if_pos b,if_pos ((h j).1 b)]
  ·rw[if_neg b,if_neg (fun c=>b ((h j).2 c))],w.cl,fun r d=>w.rt r ((h r).2 d),fun x e=>(w.up x e).imp (fun c=>(h x).1 c) id⟩
theorem E4 {ns:List Nd} {pos:Int→Nat} (a:nP ns pos): ∀(k:Nat) (M:LM) (i:Int) (B:Nat),0<i→i≤(ns.length:Int)→pos i<k→(∀j c,M j=some c→0≤c∧c≤B)→(∀j c,pos j<pos i→0<j→M j=some c→1≤c)→B+k*(ns.length+2)<2 ^ 62→
 ∃E,Nj ns pos M (pos i) (innOf ns i) E (vr ns k M i)
 |0,_,_,_,_,_,h,_,_,_=>by omega
 |k+1,M,i,B,h0,g,l,d,b,e=>by
  rw[Fa];obtain⟨E,w⟩:=JA a (E4 a k) M (pos i) B (by omega) d b e _ (sd (innOf ns i)) rfl (Pg _) fun j f=>a.down h0 ((Lc _ _).1 f);exact⟨E,w.roots fun x=>Lc x _⟩
def jQ (ns:List Nd) (M:LM) (x:Int):List Nat:=(List.range ns.length).filter fun w=>decide ((M ((w:Int)+1)).isSome∧x∈innOf ns ((w:Int)+1))
theorem jR {ns:List Nd} {M:LM} {x:Int} {w:Nat}:w∈jQ ns M x↔w<ns.length∧(M ((w:Int)+1)).isSome∧x∈innOf ns ((w:Int)+1):=by
 unfold jQ;rw[Wr,VD,decide_eq_true_iff]
structure gw (ns:List Nd) (out:Int) (M:LM) (pos:Int→Nat):Prop where
 ranked:nP ns pos
 out1:1≤out
 outn:out≤(ns.length:Int)
 one: ∀n∈ns,n.kind=9∨n.kind=10→n.inn.length=1
 lv: ∀x,(M x).isSome↔Lv ns out x
 ct: ∀x c,1≤x→M x=some c→c=((jQ ns M x).length:Int)
theorem Nk {ns:List Nd} {out:Int} {pos:Int→Nat} (K:nP ns pos) (P:pos out≤ns.length) (I:1≤out) (B:out≤(ns.length:Int)) (U:ns.length<2 ^ 20) (one: ∀n∈ns,n.kind=9∨n.kind=10→n.inn.length=1):
 gw ns out (lP ns out) pos:=by
 have f: ∀x c,wy (fun _=>none:LM) out 0 x=some c→x=out∧c=0:=fun x c h=>by
  unfold wy at h;split at h
  ·rename_i e;exact⟨e,(Option.some.inj h).symm⟩
  ·cases h
 obtain⟨E,w⟩:=E4 K (ns.length+1) (wy (fun _=>none) out 0) out 0 (by omega) B (by omega) (fun j c h=>by have:=(f j c h).2;omega) (fun j c P h0 h=>by have:=(f j c h).1;subst this;omega) (by
  have:(ns.length+1)*(ns.length+2)≤2 ^ 20*(2 ^ 20+1):=Nat.mul_le_mul (by omega) (by omega);omega)
 have t:wy (fun _=>none:LM) out 0 out=some 0:=by unfold wy;rw[if_pos rfl]
 have m: ∀x,(wy (fun _=>none:LM) out 0 x).isSome→x=out:=fun x h=>by
  obtain⟨c,o⟩:=We.1 h;exact(f x c o).1
 show gw ns out (vr ns (ns.length+1) (wy (fun _=>none) out 0) out) pos;generalize vr ns (ns.length+1) (wy (fun _=>none) out 0) out=M at w ⊢;have C:out∉E:=fun h=>by have:=(w.new out h).1;rw[t] at this;cases this
 have b: ∀r∈innOf ns out,Lv ns out r:=fun r D=>by
  obtain⟨i,n,e,en,z⟩:=mQ (by omega) D;have h:Lv ns out out:= .out;have h:Lv ns out ((i:Int)+1):=by rw[←e];exact h
  exact h.inn en z
 have A: ∀x,0<x→(M x).isSome→x=out∨x∈E:=fun x h0 p=>by
  rw[w.ct x] at p;rcases oW p with ⟨_,h⟩|h
  ·exact .inl (m x h)
  ·by_cases g:x∈innOf ns out
   ·rcases w.rt x g h0 with h|h
    ·exact .inr h
    ·exact .inl (m x h)
   ·rw[if_neg g] at h;obtain⟨y,a,k⟩:=vO.1 (show 0<cnt ns E x by omega);rcases w.cl y a x k h0 with h|h
    ·exact .inr h
    ·exact .inl (m x h)
 have l: ∀y,y=out∨y∈E→ ∀j,j∈innOf ns y→(M j).isSome:=fun y a j J=>by
  rw[w.ct j];rcases a with rfl|a
  ·rw[if_pos J,vP (by omega)];rfl
  ·rw[vP (by have:=vO.2 ⟨y,a,J⟩;omega)];rfl
 have s:(M out).isSome:=by
  rw[w.ct out];generalize (cnt ns E out+if out∈innOf ns out then 1 else 0)=q;unfold yn;split
  ·rw[t];rfl
  ·rfl
 have u: ∀x,(M x).isSome↔Lv ns out x:=fun x=>by
  constructor
  ·intro p;rw[w.ct x] at p;rcases oW p with ⟨_,h⟩|h
   ·rw[m x h];exact .out
   ·by_cases g:x∈innOf ns out
    ·exact b x g
    ·rw[if_neg g] at h;obtain⟨y,a,k⟩:=vO.1 (show 0<cnt ns E x by omega);obtain⟨i,n,e,en,z⟩:=mQ (w.new y a).2.1 k;have:=w.lv y a out b;rw[e] at this;exact this.inn en z
  ·intro p
   induction p with
   |out=>exact s
   | @inn i n j h en z R=>exact l _ (A _ (by omega) R) j (by rw[gk en];exact z)
 refine⟨K,I,B,one,u,fun x c p o=> ?_⟩;have L:c=((cnt ns (out::E) x:Nat):Int):=by
  have e:cnt ns (out::E) x=cnt ns E x+if x∈innOf ns out then 1 else 0:=by
   unfold cnt;rw[List.filter_cons];by_cases a:x∈innOf ns out
   ·rw[if_pos (by simpa using a),if_pos a];rfl
   ·rw[if_neg (by simpa using a),if_neg a];rfl
  rw[w.ct x] at o;rcases jP o with ⟨h0,o⟩|⟨h0,o⟩
  ·have:=(f x c o).2;rw[e];omega
  ·have o:=Option.some.inj o;have:(wy (fun _=>none:LM) out 0 x).getD 0=0:=by
    cases h:wy (fun _=>none:LM) out 0 x with
    |none=>rfl
    |some d=>rw[(f x d h).2];rfl
   rw[e];omega
 rw[L];congr 1;have G:((out::E).filter fun y=>decide (x∈innOf ns y)).Nodup:=List.Pairwise.filter _ (Wj.2 ⟨C,w.nd⟩);have H:((jQ ns M x).map fun w:Nat=>(w:Int)+1).Nodup:=by
  unfold List.Nodup;rw[List.pairwise_map];have:(jQ ns M x).Nodup:=List.Pairwise.filter _ WX;exact this.imp fun h e=>h (by omega)
 have S:=jW _ ((jQ ns M x).map fun w:Nat=>(w:Int)+1) G fun y a=>by
  rw[Wr,decide_eq_true_iff] at a;obtain⟨a,k⟩:=a;have F:0<y∧y≤(ns.length:Int)∧(M y).isSome:=by
   rcases U7.1 a with rfl|a
   ·exact⟨by omega,B,s⟩
   ·exact⟨(w.new y a).2.1,(w.new y a).2.2.1,(u y).2 (w.lv y a out b)⟩
  rw[U5];have e:(((y-1).toNat:Nat):Int)+1=y:=by omega
  exact⟨(y-1).toNat,jR.2 ⟨by omega,by rw[e];exact F.2.2,by rw[e];exact k⟩,e⟩
 have T:=jW _ ((out::E).filter fun y=>decide (x∈innOf ns y)) H fun y a=>by
  obtain⟨v,Q,rfl⟩:=U5.1 a;obtain⟨I,N,O⟩:=jR.1 Q;rw[Wr,decide_eq_true_iff];refine⟨?_,O⟩;rcases A _ (by omega) N with h|h
  ·rw[h];simp
  ·exact Vd _ h
 rw[UT] at S T;unfold cnt;omega
theorem vo {ns:List Nd} {M:LM} {a:Int}: ∀j:Nat,j≤ns.length→(iV ns M a j=0∧ ∀w<j,¬((M ((w:Int)+1)).isSome∧a∈innOf ns ((w:Int)+1)))∨ ∃w<j,iV ns M a j=(w:Int)+1∧(M ((w:Int)+1)).isSome∧a∈innOf ns ((w:Int)+1)
 |0,_=> .inl ⟨rfl,fun w h=>absurd h (W3 _)⟩
 |j+1,l=>by
  have f:j<ns.length:=by omega
  obtain⟨n,en⟩: ∃n,ns[j]? =some n:=⟨_,aO f⟩;have g:=gk en;unfold iV;rw[en];show((if(M ((j:Int)+1)).isSome∧a∈n.inn then(j:Int)+1 else iV ns M a j)=0∧_)∨ ∃w<j+1,(if(M ((j:Int)+1)).isSome∧a∈n.inn then(j:Int)+1 else iV ns M a j)=_∧_;by_cases b:(M ((j:Int)+1)).isSome∧a∈n.inn
  ·rw[if_pos b];exact .inr ⟨j,by omega,rfl,b.1,by rw[g];exact b.2⟩
  ·rw[if_neg b];rcases vo (ns:=ns) (M:=M) (a:=a) j (by omega) with ⟨k,c⟩|⟨w,k,c⟩
   ·refine .inl ⟨k,fun w m d=> ?_⟩;by_cases e:w=j
    ·subst e;rw[g] at d;exact b d
    ·exact c w (by omega) d
   ·exact .inr ⟨w,by omega,c⟩
theorem gw.hasUser {ns:List Nd} {out:Int} {M:LM} {pos:Int→Nat} (I:gw ns out M pos):Mm ns M:=by
 intro i hi f;have j:=I.ct _ _ (by omega) f;have:0<(jQ ns M ((i:Int)+1)).length:=by omega
 obtain⟨w,g⟩:=List.length_pos_iff_exists_mem.1 this;obtain⟨b,c,d⟩:=jR.1 g;unfold iz;rcases vo (M:=M) (a:=(i:Int)+1) ns.length (U3 _) with ⟨_,h⟩|⟨v,_,e,_⟩
 ·exact absurd ⟨c,d⟩ (h w b)
 ·omega
theorem gw.user {ns:List Nd} {out:Int} {M:LM} {pos:Int→Nat} (I:gw ns out M pos) {a:Int} (n:1≤a) (m:M a=some 1): ∃w:Nat,iz ns M a=(w:Int)+1∧w<ns.length∧(M ((w:Int)+1)).isSome∧a∈innOf ns ((w:Int)+1)∧
 ∀v:Nat,v<ns.length→(M ((v:Int)+1)).isSome→a∈innOf ns ((v:Int)+1)→v=w:=by
 have o:=I.ct _ _ n m;have l:(jQ ns M a).length=1:=by omega
 obtain⟨w,f⟩:=WH.1 l;obtain⟨g,j,k⟩:=jR.1 (show w∈jQ ns M a by rw[f];simp);have only: ∀v:Nat,v<ns.length→(M ((v:Int)+1)).isSome→a∈innOf ns ((v:Int)+1)→v=w:=fun v b c d=>by
  have:=jR.2 ⟨b,c,d⟩;rw[f] at this;simpa using this
 rcases vo (M:=M) (a:=a) ns.length (U3 _) with ⟨_,h⟩|⟨v,b,e,c,d⟩
 ·exact absurd ⟨j,k⟩ (h w g)
 ·have:=only v b c d;subst this;exact⟨v,e,g,j,k,only⟩
end
section
structure qN (ns:List Nd) (out:Int) (M:LM) (i w:Nat) (na nu a':Nd) (st:CU):Prop where
 ea:ns[i]? =some na
 m1:M ((i:Int)+1)=some 1
 no:(i:Int)+1≠out
 we:gY na.kind
 us:iz ns M ((i:Int)+1)=(w:Int)+1
 eu:ns[w]? =some nu
 tk:pG na nu=some a'
 st:st=(Ba ((w:Int)+1) ((i:Int)+1) (ns.set i a'),if out=(w:Int)+1 then(i:Int)+1 else out,Q6 (wy M ((i:Int)+1) ((M ((w:Int)+1)).getD 0)) ((w:Int)+1))
theorem La {ns:List Nd} {out:Int} {M:LM} {pos:Int→Nat} (I:gw ns out M pos) {i:Nat} {st:CU} (h:gW ns out M i=some st): ∃w na nu a',qN ns out M i w na nu a' st:=by
 unfold gW at h;cases e1:ns[i]? with
 |none=>rw[e1] at h;cases h
 |some na=>
  rw[e1] at h
  replace h:(if M ((i:Int)+1)=some 1∧(i:Int)+1≠out∧gY na.kind then
   match ns[(iz ns M ((i:Int)+1)-1).toNat]? with
   |none=>none
   |some nu=>(pG na nu).map fun a'=>(Ba (iz ns M ((i:Int)+1)) ((i:Int)+1) (ns.set i a'),if out=iz ns M ((i:Int)+1) then(i:Int)+1 else out,
    Q6 (wy M ((i:Int)+1) ((M (iz ns M ((i:Int)+1))).getD 0)) (iz ns M ((i:Int)+1)))
   else none)=some st:=h
  by_cases a:M ((i:Int)+1)=some 1∧(i:Int)+1≠out∧gY na.kind
  ·rw[if_pos a] at h;obtain⟨w,b,_⟩:=I.user (by omega) a.1;rw[b,show((w:Int)+1-1).toNat=w by omega] at h;cases e2:ns[w]? with
   |none=>rw[e2] at h;cases h
   |some nu=>
    rw[e2] at h;replace h:(pG na nu).map (fun a'=>(Ba ((w:Int)+1) ((i:Int)+1) (ns.set i a'),if out=(w:Int)+1 then(i:Int)+1 else out,
     Q6 (wy M ((i:Int)+1) ((M ((w:Int)+1)).getD 0)) ((w:Int)+1)))=some st:=h
    obtain⟨a',c,d⟩:=V8.1 h;exact⟨w,na,nu,a',e1,a.1,a.2.1,a.2.2,b,e2,c,d.symm⟩
  ·rw[if_neg a] at h;cases h
theorem fH {a u x:Nd} (h:pG a u=some x):x.inn=a.inn∧x.kind=a.kind∧x.weights=a.weights∧x.bias=a.bias∧(u.kind=10∨u.kind=9):=by
 unfold pG at h;split at h
 ·rename_i b;cases h;exact⟨rfl,rfl,rfl,rfl,.inl b.1⟩
 ·split at h
  ·rename_i b;cases h;exact⟨rfl,rfl,rfl,rfl,.inr b.1⟩
  ·cases h
theorem Ph (u a:Int) (ns:List Nd) (q:Nat):(Ba u a ns)[q]? =ns[q]?.map fun n=>if(q:Int)+1=u then n else{n with inn:=n.inn.map (yq u a)}:=by
 unfold Ba;rw[WK]
theorem JB (u a:Int) (ns:List Nd):(Ba u a ns).length=ns.length:=by simp[Ba]
section
variable {ns:List Nd} {out:Int} {M:LM} {pos:Int→Nat} {i w:Nat} {na nu a':Nd} {st:CU}
theorem qN.len (s:qN ns out M i w na nu a' st):st.1.length=ns.length:=by rw[s.st];show(Ba _ _ _).length=_;rw[JB,U1]
theorem qN.il (s:qN ns out M i w na nu a' st):i<ns.length:=(Pt.1 s.ea).1
theorem qN.wl (s:qN ns out M i w na nu a' st):w<ns.length:=(Pt.1 s.eu).1
theorem qN.inn (I:gw ns out M pos) (s:qN ns out M i w na nu a' st):nu.inn=[(i:Int)+1]:=by
 obtain⟨v,f,_,_,b,_⟩:=I.user (a:=(i:Int)+1) (by omega) s.m1;have e:v=w:=by have:=s.us;omega
 subst e;rw[gk s.eu] at b;have c:=I.one nu (UR s.eu) ((fH s.tk).2.2.2.2.symm.imp id id);obtain⟨x,d⟩:=WH.1 c;rw[d] at b ⊢;simp only[SH] at b;rw[b]
theorem qN.live (I:gw ns out M pos) (s:qN ns out M i w na nu a' st):(M ((w:Int)+1)).isSome∧ ∀v:Nat,v<ns.length→(M ((v:Int)+1)).isSome→((i:Int)+1)∈innOf ns ((v:Int)+1)→v=w:=by
 obtain⟨v,d,_,b,_,c⟩:=I.user (a:=(i:Int)+1) (by omega) s.m1;have e:v=w:=by have:=s.us;omega
 subst e;exact⟨b,c⟩
theorem qN.lt (I:gw ns out M pos) (s:qN ns out M i w na nu a' st):pos ((i:Int)+1)<pos ((w:Int)+1):=by
 have:=(I.ranked w nu s.eu).2 ((i:Int)+1) (by rw[s.inn I];simp);exact this.2.2 (by omega)
theorem qN.ne (I:gw ns out M pos) (s:qN ns out M i w na nu a' st):i≠w:=fun e=>by have:=s.lt I;rw[e] at this;omega
theorem qN.get (s:qN ns out M i w na nu a' st) (q:Nat):st.1[q]? =ns[q]?.map fun n=>let m:=if q=i then a' else n;if(q:Int)+1=(w:Int)+1 then m else{m with inn:=m.inn.map (yq ((w:Int)+1) ((i:Int)+1))}:=by
 rw[s.st];show(Ba _ _ _)[q]? =_;rw[Ph];by_cases h:i=q
 ·subst h;rw[Ve s.il,s.ea];simp
 ·rw[VS h];cases ns[q]? with
  |none=>rfl
  |some n=>simp only[Option.map_some];rw[if_neg (Ne.symm h)]
theorem qN.innOf (s:qN ns out M i w na nu a' st) (q:Nat):innOf st.1 ((q:Int)+1)=if q=w then G.innOf ns ((q:Int)+1) else(G.innOf ns ((q:Int)+1)).map (yq ((w:Int)+1) ((i:Int)+1)):=by
 have a:=s.get q;cases e:ns[q]? with
 |none=>
  rw[e] at a;have b:G.innOf st.1 ((q:Int)+1)=[]:=by unfold G.innOf;rw[show((q:Int)+1-1).toNat=q by omega,a];rfl
  have c:G.innOf ns ((q:Int)+1)=[]:=by unfold G.innOf;rw[show((q:Int)+1-1).toNat=q by omega,e]
  rw[b,c];simp
 |some n=>
  rw[e,Option.map_some] at a;rw[gk a,gk e];have hi:(if q=i then a' else n).inn=n.inn:=by
   split
   ·rename_i h;subst h;have:=s.ea;rw[e] at this;cases this;exact(fH s.tk).1
   ·rfl
  dsimp only;by_cases h:q=w
  ·rw[if_pos (by omega),if_pos h,hi]
  ·rw[if_neg (by omega),if_neg h];show(if q=i then a' else n).inn.map _=_;rw[hi]
theorem oX {u a k:Int} (h:k≠u):yq u a k=k:=if_neg h
theorem rZ (u a:Int):yq u a u=a:=if_pos rfl
theorem qN.cnt (s:qN ns out M i w na nu a' st) (x:Int):st.2.2 x=if x=(w:Int)+1 then none else if x=(i:Int)+1 then some ((M ((w:Int)+1)).getD 0) else M x:=by
 rw[s.st];rfl
theorem qN.some (I:gw ns out M pos) (s:qN ns out M i w na nu a' st) (x:Int):(st.2.2 x).isSome↔(M x).isSome∧x≠(w:Int)+1:=by
 rw[s.cnt];by_cases a:x=(w:Int)+1
 ·rw[if_pos a];simp[a]
 ·rw[if_neg a];by_cases b:x=(i:Int)+1
  ·rw[if_pos b,b,s.m1];simp;omega
  ·rw[if_neg b];simp[a]
theorem qN.inv (I:gw ns out M pos) (s:qN ns out M i w na nu a' st):gw st.1 st.2.1 st.2.2 pos:=by
 have aa:=s.lt I;have ab:=s.ne I;have l:=s.len;have Z:=s.il;have ad:=s.wl;have K:=s.inn I;have g:=s.live I;have b:st.2.1=if out=(w:Int)+1 then(i:Int)+1 else out:=by rw[s.st]
 have r:G.innOf ns ((w:Int)+1)=[(i:Int)+1]:=by rw[gk s.eu,K]
 have B:Lv ns out ((i:Int)+1):=(I.lv _).1 (by rw[s.m1];rfl);have Y:Lv ns out ((w:Int)+1):=(I.lv _).1 g.1;have rank: ∀q j,j∈G.innOf ns ((q:Nat)+1:Int)→0≤j∧j≤(ns.length:Int)∧(0<j→pos j<pos ((q:Int)+1)):=fun q j F=>I.ranked.down (by omega) F;have H: ∀{q:Nat} {n:Nd} {j:Int},Lv ns out ((q:Int)+1)→j∈G.innOf ns ((q:Int)+1)→Lv ns out j:=fun{q n j} h F=>by
  obtain⟨U,n2,e,en,v⟩:=mQ (by omega) F;have:U=q:=by omega
  subst this;exact h.inn en v
 have E: ∀{q:Nat} {j:Int},Lv st.1 st.2.1 ((q:Int)+1)→j∈G.innOf st.1 ((q:Int)+1)→Lv st.1 st.2.1 j:=fun{q j} h F=>by
  obtain⟨U,n2,e,en,v⟩:=mQ (by omega) F;have:U=q:=by omega
  subst this;exact h.inn en v
 have V: ∀x,Lv st.1 st.2.1 x↔Lv ns out x∧x≠(w:Int)+1:=fun x=>by
  constructor
  ·intro h
   induction h with
   |out=>
    rw[b];split
    ·exact⟨B,by omega⟩
    ·rename_i h;exact⟨.out,h⟩
   | @inn q n j h en v O=>
     have L:j∈G.innOf st.1 ((q:Int)+1):=by rw[gk en];exact v
     rw[s.innOf,if_neg (by have:=O.2;omega)] at L;obtain⟨k,m,rfl⟩:=U5.1 L;by_cases a:k=(w:Int)+1
     ·rw[a,rZ];exact⟨B,by omega⟩
     ·rw[oX a];exact⟨H (n:=n) O.1 m,a⟩
  ·rintro⟨h,T⟩;have key: ∀x,Lv ns out x→(x≠(w:Int)+1→Lv st.1 st.2.1 x)∧(x=(w:Int)+1→Lv st.1 st.2.1 ((i:Int)+1)):=by
    intro x h
    induction h with
    |out=>
     refine⟨fun h=> ?_,fun h=> ?_⟩
     ·rw[if_neg h] at b;rw[←b];exact .out
     ·rw[if_pos h] at b;rw[←b];exact .out
    | @inn q n j h en v O=>
      have z:j∈G.innOf ns ((q:Int)+1):=by rw[gk en];exact v
      by_cases o:q=w
      ·subst o;rw[r] at z;simp only[SH] at z;have R:=O.2 rfl;exact⟨fun _=>by rw[z];exact R,fun h=>by omega⟩
      ·have R:=O.1 (by omega);have S:yq ((w:Int)+1) ((i:Int)+1) j∈G.innOf st.1 ((q:Int)+1):=by
        rw[s.innOf,if_neg o];exact U2 z
       have:=E R S;exact⟨fun h=>by rw[oX h] at this;exact this,fun h=>by rw[h,rZ] at this;exact this⟩
   exact(key x h).1 T
 refine⟨fun q n en=> ?_,?_,?_,fun n hn m=> ?_,fun x=> ?_,fun x c T u=> ?_⟩
 ·have v:n.inn=G.innOf st.1 ((q:Int)+1):=(gk en).symm;have o:q<ns.length:=by rw[←l];exact(Pt.1 en).1
  obtain⟨t,p⟩: ∃t,ns[q]? =Option.some t:=⟨_,aO o⟩;have r0:=I.ranked q t p;rw[v,s.innOf,gk p,l];by_cases f:q=w
  ·rw[if_pos f];exact r0
  ·rw[if_neg f,UT];refine⟨r0.1,fun j F=> ?_⟩;obtain⟨k,m,rfl⟩:=U5.1 F;have X:=r0.2 k m;by_cases a:k=(w:Int)+1
   ·rw[a,rZ];refine⟨by omega,by omega,fun _=> ?_⟩;have:=X.2.2 (by omega);rw[a] at this;omega
   ·rw[oX a];exact X
 ·rw[b];split
  ·omega
  ·exact I.out1
 ·rw[b,l];split
  ·omega
  ·exact I.outn
 ·obtain⟨q,o⟩:=VN.1 hn;rw[s.get] at o;obtain⟨t,p,e⟩:=V8.1 o;dsimp only at e;have hi:(if q=i then a' else t).inn=t.inn∧(if q=i then a' else t).kind=t.kind:=by
   split
   ·rename_i h;subst h;have:=s.ea;rw[p] at this;cases this;exact⟨(fH s.tk).1,(fH s.tk).2.1⟩
   ·exact⟨rfl,rfl⟩
  have Q:t.kind=9∨t.kind=10:=by
   rw[←hi.2];rw[←e] at m;split at m<;>exact m
  have:=I.one t (UR p) Q;rw[←e];split
  ·rw[hi.1];exact this
  ·show(List.map _ _).length=1;rw[UT,hi.1];exact this
 ·rw[s.some I,I.lv,V]
 ·rw[s.cnt] at u;have N:x≠(w:Int)+1:=fun e=>by rw[if_pos e] at u;cases u
  rw[if_neg N] at u;have C: ∀y:Int,(∀q:Nat,q<ns.length→(((st.2.2 ((q:Int)+1)).isSome∧x∈G.innOf st.1 ((q:Int)+1))↔((M ((q:Int)+1)).isSome∧y∈G.innOf ns ((q:Int)+1))))→jQ st.1 st.2.2 x=jQ ns M y:=fun y h=>by
   unfold jQ;rw[l];refine List.filter_congr fun q o=> ?_;rw[decide_eq_decide];exact h q (VD.1 o)
  by_cases A:x=(i:Int)+1
  ·rw[if_pos A] at u;obtain⟨d,W⟩:=We.1 g.1;have:=I.ct _ _ (by omega) W;rw[C ((w:Int)+1) fun q o=> ?_,←this]
   ·rw[W] at u;exact(Option.some.inj u).symm
   ·rw[s.some I,s.innOf];by_cases f:q=w
    ·subst f;constructor
     ·intro h;exact absurd rfl h.1.2
     ·rintro⟨_,h⟩;rw[r] at h;simp only[SH] at h;omega
    ·rw[if_neg f];constructor
     ·rintro⟨⟨D,J⟩,P⟩;refine⟨D,?_⟩;obtain⟨k,m,e⟩:=U5.1 P;by_cases a:k=(w:Int)+1
      ·rw[←a];exact m
      ·rw[oX a] at e;rw[e,A] at m;exact absurd (g.2 q o D m) f
     ·rintro⟨D,J⟩;exact⟨⟨D,by omega⟩,U5.2 ⟨_,J,by rw[rZ,A]⟩⟩
  ·rw[if_neg A] at u;have:=I.ct _ _ T u;rw[C x fun q o=> ?_,←this];rw[s.some I,s.innOf];by_cases f:q=w
   ·subst f;constructor
    ·intro h;exact absurd rfl h.1.2
    ·rintro⟨_,h⟩;rw[r] at h;simp only[SH] at h;omega
   ·rw[if_neg f];constructor
    ·rintro⟨⟨D,J⟩,P⟩;refine⟨D,?_⟩;obtain⟨k,m,e⟩:=U5.1 P;by_cases a:k=(w:Int)+1
     ·rw[a,rZ] at e;omega
     ·rw[oX a] at e;rw[←e];exact m
    ·rintro⟨D,J⟩;exact⟨⟨D,by omega⟩,U5.2 ⟨_,J,oX N⟩⟩
def keys (n:Nat) (M:LM):Nat:=((List.range n).filter fun w:Nat=>(M ((w:Int)+1)).isSome).length
theorem Ml (n:Nat) (M:LM):keys n M≤n:=by have:=List.length_filter_le (fun w:Nat=>(M ((w:Int)+1)).isSome) (List.range n);rw[V2] at this;exact this
theorem qN.keys (I:gw ns out M pos) (s:qN ns out M i w na nu a' st):G.keys ns.length st.2.2<G.keys ns.length M:=by
 have nd:(w::(List.range ns.length).filter fun v:Nat=>(st.2.2 ((v:Int)+1)).isSome).Nodup:=by
  rw[Wj];refine⟨fun h=> ?_,List.Pairwise.filter _ WX⟩;rw[Wr] at h;exact((s.some I _).1 h.2).2 rfl
 have:=jW _ ((List.range ns.length).filter fun v:Nat=>(M ((v:Int)+1)).isSome) nd fun v a=>by
  rw[Wr,VD];rcases U7.1 a with rfl|a
  ·exact⟨s.wl,(s.live I).1⟩
  ·rw[Wr,VD] at a;exact⟨a.1,((s.some I _).1 a.2).1⟩
 simp only[UY] at this;unfold G.keys;omega
end
theorem JC {ns:List Nd} {out:Int} {M:LM} {st:CU}: ∀(k i:Nat),qG ns out M k i=some st→ ∃j,gW ns out M j=some st∧i≤j∧ ∀q,i≤q→q<j→gW ns out M q=none
 |0,i,h=>by cases h
 |k+1,i,h=>by
  cases e:gW ns out M i with
  |some x=>
   rw[E9 e] at h;exact⟨i,by rw[e];exact h,U3 _,fun q c d=>by omega⟩
  |none=>
   rw[E8 e] at h;obtain⟨j,c,d,f⟩:=JC k (i+1) h;exact⟨j,c,by omega,fun q g a=>by
    by_cases b:q=i
    ·rw[b];exact e
    ·exact f q (by omega) a⟩
theorem mR {ns:List Nd} {out:Int} {M:LM} {pos:Int→Nat} (I:gw ns out M pos) {st:CU} (h:ig ns out M=some st): ∃i w na nu a',qN ns out M i w na nu a' st∧ ∀q<i,gW ns out M q=none:=by
 obtain⟨j,a,_,b⟩:=JC _ _ h;obtain⟨w,na,nu,a',s⟩:=La I a;exact⟨j,w,na,nu,a',s,fun q c=>b q (V1 _) c⟩
def de:Nat→CU→CU
 |0,s=>s
 |k+1,s=>match ig s.1 s.2.1 s.2.2 with
  |some t=>de k t
  |none=>s
inductive E5:CU→CU→Prop
 |done {s:CU}:ig s.1 s.2.1 s.2.2=none→E5 s s
 |more {s t f:CU}:ig s.1 s.2.1 s.2.2=some t→E5 t f→E5 s f
theorem E6 {pos:Int→Nat}: ∀(k:Nat) (s:CU),gw s.1 s.2.1 s.2.2 pos→keys s.1.length s.2.2<k→E5 s (de k s)
 |0,s,_,h=>by omega
 |k+1,s,I,h=>by
  unfold de;cases e:ig s.1 s.2.1 s.2.2 with
  |none=>exact .done e
  |some t=>
   obtain⟨i,w,na,nu,a',st,_⟩:=mR I e;refine .more e (E6 k t (st.inv I) ?_);have:=st.keys I;rw[st.len];omega
end
section
theorem lL (ns:List Nd) (a:List Int):kr ns a=a∨ ∃(i:Nat) (n:Nd),ns[i]? =some n∧((i:Int)+1)∉a∧(∀j∈n.inn,j∈a)∧kr ns a=a++[(i:Int)+1]:=by
 unfold kr;cases h:jC a ns 0 with
 |none=>exact .inl rfl
 |some x=>
  obtain⟨k,n,b,e,c,d⟩:=yt h;rw[SI] at b;subst b;exact .inr ⟨k,n,e,c,d,rfl⟩
theorem yp (ns:List Nd): ∀k,(bK ns k).Nodup
 |0=>by simp[bK]
 |k+1=>by
  have f:=yp ns k;show(kr ns (bK ns k)).Nodup;rcases lL ns (bK ns k) with e|⟨i,n,_,g,_,e⟩
  ·rw[e];exact f
  ·rw[e,Wa];refine⟨f,by simp,fun a h b d c=> ?_⟩;simp only[SH] at d;subst c d;exact g h
theorem qF (ns:List Nd): ∀(k i:Nat) (n:Nd),ns[i]? =some n→((i:Int)+1)∈bK ns k→ ∀j∈n.inn,j∈bK ns k∧(bK ns k).idxOf j<(bK ns k).idxOf ((i:Int)+1)
 |0,i,n,_,h,_,_=>by simp[bK] at h;omega
 |k+1,i,n,en,h,j,a=>by
  have d:=qF ns k i n en;rw[show bK ns (k+1)=kr ns (bK ns k) from rfl] at h ⊢;rcases lL ns (bK ns k) with e|⟨q,m,c,l,f,e⟩
  ·rw[e] at h ⊢;exact d h j a
  ·rw[e] at h ⊢;by_cases hi:((i:Int)+1)∈bK ns k
   ·have:=d hi j a;rw[WS,WS,if_pos this.1,if_pos hi];exact⟨by simp[this.1],this.2⟩
   ·have g:i=q:=by
     rcases UX.1 h with h|h
     ·exact absurd h hi
     ·simp only[SH] at h;omega
    subst g;rw[en] at c;cases c;have b:=f j a;rw[WS,WS,if_pos b,if_neg hi];have:=WM b;exact⟨by simp[b],by omega⟩
theorem nO {ns:List Nd} (h:(cC ns).length=ns.length) {x:Int} (b:1≤x) (c:x≤(ns.length:Int)):x∈cC ns:=by
 apply Decidable.byContradiction;intro d;have nd:(x::cC ns).Nodup:=Wj.2 ⟨d,by
  have:=yp ns ns.length;rw[dM] at this;exact(Wj.1 this).2⟩
 have:=jW _ ((List.range ns.length).map fun i:Nat=>(i:Int)+1) nd fun y a=>by
  have:1≤y∧y≤(ns.length:Int):=by
   rcases U7.1 a with rfl|a
   ·exact⟨b,c⟩
   ·exact fJ ns ns.length y a
  rw[U5];exact⟨(y-1).toNat,by rw[VD];omega,by omega⟩
 simp only[UY,UT,V2] at this;omega
def posG (ns:List Nd) (x:Int):Nat:=if x∈bK ns ns.length then(bK ns ns.length).idxOf x else 0
theorem vQ (ns:List Nd) (x:Int):posG ns x≤ns.length:=by
 unfold posG;split
 ·rename_i h;have b:=WM h;have a:=lQ ns ns.length;rw[WA] at a;omega
 ·omega
theorem kN {ns:List Nd} (h:(cC ns).length=ns.length) {i:Nat} {n:Nd} (en:ns[i]? =some n) {j:Int} (b:j∈n.inn):posG ns j<posG ns ((i:Int)+1):=by
 have hi:=(Pt.1 en).1;have a:((i:Int)+1)∈bK ns ns.length:=by
  rw[dM];exact Vd _ (nO h (by omega) (by omega))
 have:=qF ns ns.length i n en a j b;unfold posG;rw[if_pos a,if_pos this.1];exact this.2
theorem G3 {ns:List Nd}: ∀(l ws rs:List Int),(dq ns l ws rs).1=0→(∀i∈l,1≤i∧i≤(ns.length:Int))→ ∀i∈l,∃n v,ns[i.toNat-1]? =some n∧n.chk v=0
 |[],_,_,_,_,i,hi=>by simp at hi
 |x::r,ws,rs,h,hl,i,hi=>by
  have c:=hl x (by simp);obtain⟨n,en⟩: ∃n,ns[x.toNat-1]? =some n:=⟨_,aO (l:=ns) (i:=x.toNat-1) (by omega)⟩;unfold dq at h;rw[en] at h;dsimp only at h;by_cases a:n.chk (bZ ws n.inn)≠0
  ·rw[if_pos a] at h;exact absurd h a
  ·rw[if_neg a] at h;by_cases b:bY n (bZ rs n.inn)<0
   ·rw[if_pos b] at h;exact absurd (show(15:Int)=0 from h) (by decide)
   ·rw[if_neg b] at h;rcases U7.1 hi with rfl|hi
    ·exact⟨n,_,en,Decidable.byContradiction a⟩
    ·exact G3 r _ _ h (fun i hi=>hl i (by simp[hi])) i hi
theorem A9 {g:Gr} (h:g.look.e=0):g.first=0∧(cC g.nodes).length=g.nodes.length∧(dq g.nodes (cC g.nodes) (g.width::List.replicate g.nodes.length 0) (1::List.replicate g.nodes.length 0)).1=0:=by
 unfold Gr.look at h;split at h
 ·rename_i a;exact absurd h a
 ·rename_i a;split at h
  ·cases h
  ·rename_i c;split at h
   ·rename_i b;exact absurd h b
   ·rename_i b;exact⟨by omega,by omega,by omega⟩
theorem JD {g:Gr} (h:g.look.e=0):nP g.nodes (posG g.nodes)∧1≤g.out∧g.out≤(g.nodes.length:Int)∧1≤g.nodes.length∧g.nodes.length≤12∧(∀n∈g.nodes,n.kind=9∨n.kind=10→n.inn.length=1)∧ ∀n∈g.nodes,∃v,n.chk v=0:=by
 obtain⟨u,l,y⟩:=A9 h;obtain⟨r,s,_,_,k,t⟩:=bR u;have chk: ∀(i:Nat) (n:Nd),g.nodes[i]? =some n→ ∃v,n.chk v=0:=fun(i:Nat) (n:Nd) en=>by
  have hi:=(Pt.1 en).1;obtain⟨m,v,f,a⟩:=G3 _ _ _ y (fun x z=>fJ g.nodes g.nodes.length x z) ((i:Int)+1) (nO l (by omega) (by omega));rw[show((i:Int)+1).toNat-1=i by omega,en] at f;cases f;exact⟨v,a⟩
 refine⟨fun i n en=> ?_,k.1,k.2,r,s,fun n c A=> ?_,fun n c=> ?_⟩
 ·obtain⟨v,a⟩:=chk i n en;obtain⟨_,_,p,q,_,d,b,_⟩:=dc a;refine⟨?_,fun j o=> ?_⟩
  ·by_cases m:cJ n.kind
   ·have:=d m;omega
   ·have:=b m;omega
  ·have:=t n (UR en) j o;exact⟨by omega,by omega,fun _=>kN l en o⟩
 ·obtain⟨i,en⟩:=VN.1 c;obtain⟨v,a⟩:=chk i n en;obtain⟨_,_,p,q,_,d,b,_⟩:=dc a;have:=b (by rintro(h|h)<;>omega);omega
 ·obtain⟨i,en⟩:=VN.1 c;exact chk i n en
theorem vR {g:Gr} (h:g.look.e=0):gw g.nodes g.out (lP g.nodes g.out) (posG g.nodes):=by
 obtain⟨a,b,c,f,j,d,_⟩:=JD h;exact Nk a (vQ _ _) b c (by omega) d
end
end Go.Proofs.YtdhpmegbmjoekaaGreatDoor.G

