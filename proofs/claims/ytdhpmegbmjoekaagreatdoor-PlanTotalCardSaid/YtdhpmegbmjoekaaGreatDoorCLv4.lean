/- CLv CLv2 CLv3 CLv4, in one text. -/
import Derived.Test.YtdhpmegbmjoekaaGreatDoorCStep3
section
namespace Go.Proofs.YtdhpmegbmjoekaaGreatDoor.G
open Go Go.Sh
set_option linter.unusedVariables false
set_option linter.unusedSimpArgs false
theorem jR {α:Type} [DecidableEq α]: ∀(l1 l2:List α),l1.Nodup→(∀x∈l1,x∈l2)→l1.length≤l2.length
 |[],_,_,_=>Nat.zero_le _
 |x::r,l2,hn,hs=>by
  have hx:=hs x (by simp)
  rw[List.nodup_cons] at hn
  have:=jR r (l2.erase x) hn.2 fun y hy=>by
   have hne:y≠x:=fun e=>hn.1 (e▸hy)
   exact(List.mem_erase_of_ne hne).2 (hs y (by simp[hy]))
  rw[List.length_erase_of_mem hx] at this
  have:=List.length_pos_of_mem hx
  simp only[List.length_cons];omega
theorem Aa (x:Int): ∀l:List Int,l.Pairwise (· ≤ ·)→(tF x l).Pairwise (· ≤ ·)
 |[],_=>by simp[tF]
 |y::r,h=>by
  rw[List.pairwise_cons] at h
  unfold tF
  split
  ·rename_i hxy
   rw[List.pairwise_cons,List.pairwise_cons]
   refine⟨fun z hz=> ?_,h⟩
   rcases List.mem_cons.1 hz with rfl|hz
   ·exact hxy
   ·have:=h.1 z hz;omega
  ·rename_i hxy
   rw[List.pairwise_cons]
   refine⟨fun z hz=> ?_,Aa x r h.2⟩
   rcases(xX x z r).1 hz with rfl|hz
   ·omega
   ·exact h.1 z hz
theorem xV: ∀xs:List Int,(kB xs).Pairwise (· ≤ ·)
 |[]=>List.Pairwise.nil
 |x::r=>Aa x _ (xV r)
theorem OJ (l:List Int): ∀acc:List Int,acc.Pairwise (· < ·)→l.Pairwise (· ≤ ·)→(∀y∈acc,∀z∈l,y≤z)→(l.foldl ft acc).Pairwise (· < ·):=by
 induction l with
 |nil=>intro acc h _ _;exact h
 |cons x r ih=>
  intro acc h hl ha
  rw[List.pairwise_cons] at hl
  rw[List.foldl_cons]
  have ha': ∀y∈ft acc x,∀z∈r,y≤z:=fun y hy z hz=>by
   unfold ft at hy
   split at hy
   ·exact ha y hy z (by simp[hz])
   ·rcases List.mem_append.1 hy with hy|hy
    ·exact ha y hy z (by simp[hz])
    ·simp only[List.mem_singleton] at hy;subst hy;exact hl.1 z hz
  refine ih _ ?_ hl.2 ha'
  unfold ft
  split
  ·exact h
  ·rename_i hne
   rw[List.pairwise_append]
   refine⟨h,List.pairwise_singleton _ _,fun y hy z hz=> ?_⟩
   simp only[List.mem_singleton] at hz;subst hz
   have hle:=ha y hy z (by simp)
   rcases Int.lt_or_eq_of_le hle with h'|rfl
   ·exact h'
   ·exfalso
    obtain⟨m,e⟩: ∃m,acc.getLast? =some m:=by
     cases acc with
     |nil=>simp at hy
     |cons a s=>exact⟨_,List.getLast?_eq_some_getLast (by simp)⟩
    have hml:=ha m (List.mem_of_getLast? e) y (by simp)
    have:y≤m:=by
     obtain⟨s,hs⟩:=List.getLast?_eq_some_iff.1 e
     rw[hs] at h hy
     rw[List.pairwise_append] at h
     rcases List.mem_append.1 hy with hy|hy
     ·have:=h.2.2 y hy m (by simp);omega
     ·simp only[List.mem_singleton] at hy;omega
    exact hne (by rw[e];congr 1;omega)
theorem QT (xs:List Int):(sd xs).Pairwise (· < ·):=OJ _ [] List.Pairwise.nil (xV xs) (by simp)
theorem M6 (xs:List Int):(sd xs).Nodup:=(QT xs).imp fun h e=>by omega
inductive Lv (ns:List Nd) (out:Int):Int→Prop
 |out:Lv ns out out
 |inn {i:Nat} {n:Nd} {j:Int}:Lv ns out ((i:Int)+1)→ns[i]? =some n→j∈n.inn→Lv ns out j
def cnt (ns:List Nd) (E:List Int) (j:Int):Nat:=(E.filter fun x=>decide (j∈innOf ns x)).length
theorem Jh (ns:List Nd) (E F:List Int) (j:Int):cnt ns (E++F) j=cnt ns E j+cnt ns F j:=by simp[cnt,List.filter_append]
theorem P6 (ns:List Nd) (E:List Int) (j:Int):cnt ns E j≤E.length:=List.length_filter_le _ _
theorem uh {ns:List Nd} {E:List Int} {j:Int}:0<cnt ns E j↔ ∃x∈E,j∈innOf ns x:=by
 unfold cnt
 rw[List.length_pos_iff_exists_mem]
 constructor
 ·rintro⟨x,hx⟩
  rw[List.mem_filter] at hx
  exact⟨x,hx.1,by simpa using hx.2⟩
 ·rintro⟨x,hx,hj⟩
  exact⟨x,List.mem_filter.2 ⟨hx,by simpa using hj⟩⟩
def wj (o:Option Int) (c:Nat):Option Int:=if c=0 then o else some (o.getD 0+c)
theorem zm (o:Option Int):wj o 0=o:=rfl
theorem HK (o:Option Int) (a b:Nat):wj (wj o a) b=wj o (a+b):=by
 unfold wj
 by_cases h1:b=0
 ·subst h1;simp
 ·rw[if_neg h1,if_neg (show ¬a+b=0 by omega)]
  by_cases h2:a=0
  ·subst h2;simp
  ·rw[if_neg h2];simp;omega
theorem jH {o:Option Int} {c:Nat} {r:Option Int} (h:wj o c=r):(c=0∧o=r)∨(0<c∧some (o.getD 0+c)=r):=by
 unfold wj at h
 by_cases h1:c=0
 ·rw[if_pos h1] at h;exact .inl ⟨h1,h⟩
 ·rw[if_neg h1] at h;exact .inr ⟨by omega,h⟩
theorem oD {o:Option Int} {c:Nat} (h:(wj o c).isSome):(c=0∧o.isSome)∨0<c:=by
 unfold wj at h
 by_cases h1:c=0
 ·rw[if_pos h1] at h;exact .inl ⟨h1,h⟩
 ·exact .inr (by omega)
theorem ui {o:Option Int} {c:Nat} (h:0<c):wj o c=some (o.getD 0+c):=by unfold wj;rw[if_neg (by omega)]
theorem OK (M:LM) (j:Int) (h:0≤(M j).getD 0∧(M j).getD 0<2 ^ 62) (k:Int):nK M j k=wj (M k) (if k=j then 1 else 0):=by
 unfold nK tH
 by_cases hk:k=j
 ·subst hk
  rw[if_pos rfl,if_pos rfl,al (by omega)];rfl
 ·rw[if_neg hk,if_neg hk];rfl
structure Lk (ns:List Nd) (pos:Int→Nat) (M:LM) (top:Nat) (roots:List Int) (E:List Int) (M':LM):Prop where
 nd:E.Nodup
 new: ∀x∈E,M x=none∧0<x∧x≤(ns.length:Int)∧pos x<top
 lv: ∀x∈E,∀out,(∀r∈roots,Lv ns out r)→Lv ns out x
 ct: ∀j,M' j=wj (M j) (cnt ns E j+if j∈roots then 1 else 0)
 cl: ∀x∈E,∀j∈innOf ns x,0<j→j∈E∨(M j).isSome
 rt: ∀r∈roots,0<r→r∈E∨(M r).isSome
 up: ∀x∈E,x∈roots∨ ∃y∈E,x∈innOf ns y
theorem fS {ns:List Nd} {i:Nat} {n:Nd} (h:ns[i]? =some n):innOf ns ((i:Int)+1)=n.inn:=by
 unfold innOf
 rw[show((i:Int)+1-1).toNat=i by omega,h]
theorem mF {ns:List Nd} {x j:Int} (hx:0<x) (h:j∈innOf ns x): ∃(i:Nat) (n:Nd),x=(i:Int)+1∧ns[i]? =some n∧j∈n.inn:=by
 unfold innOf at h
 cases e:ns[(x-1).toNat]? with
 |none=>rw[e] at h;simp at h
 |some n=>rw[e] at h;exact⟨(x-1).toNat,n,by omega,e,h⟩
theorem nt.down {ns:List Nd} {pos:Int→Nat} (h:nt ns pos) {x j:Int} (hx:0<x) (hj:j∈innOf ns x):0≤j∧j≤(ns.length:Int)∧(0<j→pos j<pos x):=by
 obtain⟨i,n,rfl,e,hm⟩:=mF hx hj
 exact(h i n e).2 j hm
theorem HL (ns:List Nd) (k:Nat) (M:LM) (l:List Int) (j:Int):gK ns k M (l++[j])=if 0<j∧(nK (gK ns k M l) j j).getD 0=1 then tG ns k (nK (gK ns k M l) j) j else nK (gK ns k M l) j:=by
 unfold gK
 rw[List.foldl_append];rfl
theorem HM {ns:List Nd} {pos:Int→Nat} (hr:nt ns pos) {k:Nat}
 (ih: ∀(M:LM) (i:Int) (B:Nat),0<i→i≤(ns.length:Int)→pos i<k→(∀j c,M j=some c→0≤c∧c≤B)→(∀j c,pos j<pos i→0<j→M j=some c→1≤c)→B+k*(ns.length+2)<2 ^ 62→ ∃E,Lk ns pos M (pos i) (innOf ns i) E (tG ns k M i))
 (M:LM) (top B:Nat) (htop:top≤k) (hB: ∀j c,M j=some c→0≤c∧c≤B) (h1: ∀j c,pos j<top→0<j→M j=some c→1≤c) (hb:B+(k+1)*(ns.length+2)<2 ^ 62):
 ∀(n:Nat) (l:List Int),l.length=n→l.Nodup→(∀j∈l,0≤j∧j≤(ns.length:Int)∧(0<j→pos j<top))→ ∃E,Lk ns pos M top l E (gK ns k M l):=by
 intro n
 induction n with
 |zero=>
  intro l hl _ _
  have:l=[]:=List.length_eq_zero_iff.1 hl
  subst this
  exact⟨[],List.nodup_nil,by simp,by simp,fun j=>by simp[cnt,zm,gK],by simp,by simp,by simp⟩
 |succ n ihn=>
  intro l hl hnd hin
  obtain⟨s,j,rfl⟩: ∃s j,l=s++[j]:=⟨l.dropLast,l.getLast (by intro e;subst e;simp at hl),(List.dropLast_concat_getLast _).symm⟩
  have hnd':s.Nodup∧j∉s:=by
   rw[List.nodup_append] at hnd
   exact⟨hnd.1,fun hj=>hnd.2.2 j hj j (by simp) rfl⟩
  have hjin:=hin j (by simp)
  obtain⟨E,w⟩:=ihn s (by simpa using hl) hnd'.1 fun x hx=>hin x (by simp[hx])
  rw[HL]
  generalize hX:gK ns k M s=X at w ⊢
  have elen:E.length≤ns.length:=by
   have:=jR E ((List.range ns.length).map fun i:Nat=>(i:Int)+1) w.nd fun x hx=>by
    have:=w.new x hx
    rw[List.mem_map]
    exact⟨(x-1).toNat,by rw[List.mem_range];omega,by omega⟩
   simpa using this
  have hXB: ∀j c,X j=some c→0≤c∧c≤(B+(ns.length+1):Nat):=fun y c hy=>by
   rw[w.ct y] at hy
   have hc:=P6 ns E y
   rcases jH hy with ⟨hc,hy⟩|⟨hc,hy⟩
   ·have:=hB y c hy;omega
   ·have e:=Option.some.inj hy
    have:0≤(M y).getD 0∧(M y).getD 0≤(B:Int):=by
     cases hM:M y with
     |none=>simp
     |some d=>simpa using hB y d hM
    have:(if y∈s then 1 else 0)≤1:=by split<;>omega
    omega
  have hXj:0≤(X j).getD 0∧(X j).getD 0<2 ^ 62:=by
   cases hM:X j with
   |none=>simp
   |some d=>
    have:=hXB j d hM
    have:(B+(ns.length+1))≤B+(k+1)*(ns.length+2):=by
     have:1*(ns.length+2)≤(k+1)*(ns.length+2):=Nat.mul_le_mul_right _ (by omega)
     omega
    simp only[Option.getD_some];omega
  have hbm:=OK X j hXj
  have hEX: ∀x∈E,(X x).isSome:=fun x hx=>by
   rw[w.ct x]
   rcases w.up x hx with hs|⟨y,hy,hxy⟩
   ·rw[if_pos hs,ui (by omega)];rfl
   ·rw[ui (by have:=uh.2 ⟨y,hy,hxy⟩;omega)];rfl
  have hbj:nK X j j=some ((X j).getD 0+1):=by rw[hbm j,if_pos rfl];rfl
  have bct: ∀y,nK X j y=wj (M y) (cnt ns E y+if y∈s++[j] then 1 else 0):=fun y=>by
   rw[hbm y,w.ct y,HK]
   congr 1
   by_cases hy:y=j
   ·subst hy;rw[if_pos rfl,if_neg hnd'.2,if_pos (by simp)]
   ·rw[if_neg hy]
    by_cases hs:y∈s
    ·rw[if_pos hs,if_pos (by simp[hs])]
    ·rw[if_neg hs,if_neg (by simp[hs,hy])]
  by_cases hcond:0<j∧(nK X j j).getD 0=1
  ·rw[if_pos hcond]
   have hXn:X j=none:=by
    cases hM:X j with
    |none=>rfl
    |some d=>
     exfalso
     rw[hbj,hM] at hcond
     have hd:d=0:=by have:=hcond.2;simp at this;omega
     rw[w.ct j] at hM
     rcases jH hM with ⟨hc,hM⟩|⟨hc,hM⟩
     ·have:=h1 j d (hjin.2.2 hcond.1) hcond.1 hM;omega
     ·have e:=Option.some.inj hM
      have:0≤(M j).getD 0:=by
       cases hMj:M j with
       |none=>simp
       |some d'=>simpa using(hB j d' hMj).1
      omega
   have hMn:M j=none:=by
    rw[w.ct j] at hXn
    rcases jH hXn with ⟨hc,hXn⟩|⟨hc,hXn⟩
    ·exact hXn
    ·cases hXn
   have hpj:=hjin.2.2 hcond.1
   obtain⟨F,v⟩:=ih (nK X j) j (B+(ns.length+2)) hcond.1 hjin.2.1 (by omega) (fun y c hy=>by
    rw[hbm y] at hy
    rcases jH hy with ⟨hc,hy⟩|⟨hc,hy⟩
    ·have:=hXB y c hy;omega
    ·have hyj:y=j:=by
      by_cases h:y=j
      ·exact h
      ·rw[if_neg h] at hc;omega
     subst hyj
     rw[if_pos rfl,hXn] at hy
     have:=Option.some.inj hy
     simp at this;omega) (fun y c hp hy0 hy=>by
    have hyj:y≠j:=fun e=>by subst e;omega
    rw[hbm y,if_neg hyj,zm,w.ct y] at hy
    rcases jH hy with ⟨hc,hy⟩|⟨hc,hy⟩
    ·exact h1 y c (by omega) hy0 hy
    ·have e:=Option.some.inj hy
     have:0≤(M y).getD 0:=by
      cases hMj:M y with
      |none=>simp
      |some d'=>simpa using(hB y d' hMj).1
     omega) (by rw[Nat.add_mul] at hb;omega)
   have hjE:j∉E:=fun hj=>by have:=hEX j hj;rw[hXn] at this;cases this
   have hbX: ∀y,y≠j→nK X j y=X y:=fun y hy=>by rw[hbm y,if_neg hy,zm]
   have fne: ∀x∈F,x≠j:=fun x hx e=>by
    have:=(v.new x hx).1
    rw[e,hbj] at this;cases this
   have fX: ∀x∈F,X x=none:=fun x hx=>by rw[←hbX x (fne x hx)];exact(v.new x hx).1
   have fM: ∀x∈F,M x=none:=fun x hx=>by
    have:=fX x hx
    rw[w.ct x] at this
    rcases jH this with ⟨hc,this⟩|⟨hc,this⟩
    ·exact this
    ·cases this
   have fE: ∀x∈F,x∉E:=fun x hx hE=>by have:=hEX x hE;rw[fX x hx] at this;cases this
   have jlv: ∀out,(∀r∈s++[j],Lv ns out r)→ ∀r∈innOf ns j,Lv ns out r:=fun out ho r hr'=>by
    obtain⟨i,n',e,en,hm⟩:=mF hcond.1 hr'
    have:=ho j (by simp)
    rw[e] at this
    exact this.inn en hm
   refine⟨E++(j::F),?_,?_,?_,?_,?_,?_,?_⟩
   ·rw[List.nodup_append,List.nodup_cons]
    refine⟨w.nd,⟨fun hj=>fne j hj rfl,v.nd⟩,fun x hx y hy e=> ?_⟩
    subst e
    rcases List.mem_cons.1 hy with rfl|hy
    ·exact hjE hx
    ·exact fE x hy hx
   ·intro x hx
    rcases List.mem_append.1 hx with hx|hx
    ·exact w.new x hx
    ·rcases List.mem_cons.1 hx with rfl|hx
     ·exact⟨hMn,hcond.1,hjin.2.1,hpj⟩
     ·have:=v.new x hx
      exact⟨fM x hx,this.2.1,this.2.2.1,by omega⟩
   ·intro x hx out ho
    rcases List.mem_append.1 hx with hx|hx
    ·exact w.lv x hx out fun r hr'=>ho r (by simp[hr'])
    ·rcases List.mem_cons.1 hx with rfl|hx
     ·exact ho x (by simp)
     ·exact v.lv x hx out (jlv out ho)
   ·intro y
    rw[v.ct y,bct y,HK]
    congr 1
    have e:cnt ns (E++j::F) y=cnt ns E y+(cnt ns F y+if y∈innOf ns j then 1 else 0):=by
     rw[Jh]
     congr 1
     unfold cnt
     rw[List.filter_cons]
     by_cases hy:y∈innOf ns j
     ·rw[if_pos (by simpa using hy),if_pos hy];rfl
     ·rw[if_neg (by simpa using hy),if_neg hy];rfl
    rw[e];omega
   ·intro x hx y hy hy0
    have put: ∀z,z∈F∨(nK X j z).isSome→0<z→z∈E++j::F∨(M z).isSome:=fun z hz h0=>by
     rcases hz with hz|hz
     ·exact .inl (by simp[hz])
     ·by_cases hzj:z=j
      ·exact .inl (by simp[hzj])
      ·rw[hbX z hzj,w.ct z] at hz
       rcases oD hz with ⟨hc,hz⟩|hc
       ·exact .inr hz
       ·by_cases hzs:z∈s
        ·rcases w.rt z hzs h0 with h|h
         ·exact .inl (by simp[h])
         ·exact .inr h
        ·rw[if_neg hzs] at hc
         obtain⟨x',hx',hzx⟩:=uh.1 (show 0<cnt ns E z by omega)
         rcases w.cl x' hx' z hzx h0 with h|h
         ·exact .inl (by simp[h])
         ·exact .inr h
    rcases List.mem_append.1 hx with hx|hx
    ·rcases w.cl x hx y hy hy0 with h|h
     ·exact .inl (by simp[h])
     ·exact .inr h
    ·rcases List.mem_cons.1 hx with rfl|hx
     ·exact put y (v.rt y hy hy0) hy0
     ·exact put y (v.cl x hx y hy hy0) hy0
   ·intro r hr' hr0
    rcases List.mem_append.1 hr' with hr'|hr'
    ·rcases w.rt r hr' hr0 with h|h
     ·exact .inl (by simp[h])
     ·exact .inr h
    ·simp only[List.mem_singleton] at hr';subst hr'
     exact .inl (by simp)
   ·intro x hx
    rcases List.mem_append.1 hx with hx|hx
    ·rcases w.up x hx with h|⟨y,hy,h⟩
     ·exact .inl (by simp[h])
     ·exact .inr ⟨y,by simp[hy],h⟩
    ·rcases List.mem_cons.1 hx with rfl|hx
     ·exact .inl (by simp)
     ·rcases v.up x hx with h|⟨y,hy,h⟩
      ·exact .inr ⟨j,by simp,h⟩
      ·exact .inr ⟨y,by simp[hy],h⟩
  ·rw[if_neg hcond]
   refine⟨E,w.nd,w.new,fun x hx out ho=>w.lv x hx out fun r hr'=>ho r (by simp[hr']),bct,w.cl,?_,fun x hx=> ?_⟩
   ·intro r hr' hr0
    rcases List.mem_append.1 hr' with hr'|hr'
    ·exact w.rt r hr' hr0
    ·simp only[List.mem_singleton] at hr';subst hr'
     have hXs:(X r).isSome:=by
      cases hM:X r with
      |some d=>rfl
      |none=>exact absurd ⟨hr0,by rw[hbj,hM];rfl⟩ hcond
     rw[w.ct r] at hXs
     rcases oD hXs with ⟨hc,hXs⟩|hc
     ·exact .inr hXs
     ·rw[if_neg hnd'.2] at hc
      obtain⟨x',hx',hzx⟩:=uh.1 (show 0<cnt ns E r by omega)
      exact w.cl x' hx' r hzx hr0
   ·rcases w.up x hx with h|h
    ·exact .inl (by simp[h])
    ·exact .inr h
end Go.Proofs.YtdhpmegbmjoekaaGreatDoor.G
end
section
namespace Go.Proofs.YtdhpmegbmjoekaaGreatDoor.G
open Go Go.Sh
set_option linter.unusedVariables false
set_option linter.unusedSimpArgs false
theorem Lk.roots {ns:List Nd} {pos:Int→Nat} {M:LM} {top:Nat} {r1 r2:List Int} {E:List Int} {M':LM} (w:Lk ns pos M top r1 E M') (h: ∀x,x∈r1↔x∈r2):Lk ns pos M top r2 E M':=
 ⟨w.nd,w.new,fun x hx out ho=>w.lv x hx out fun r hr=>ho r ((h r).1 hr),fun j=>by
  rw[w.ct j]
  congr 2
  by_cases hj:j∈r1
  ·rw[if_pos hj,if_pos ((h j).1 hj)]
  ·rw[if_neg hj,if_neg (fun hh=>hj ((h j).2 hh))],w.cl,fun r hr=>w.rt r ((h r).2 hr),fun x hx=>(w.up x hx).imp (fun hh=>(h x).1 hh) id⟩
theorem Df {ns:List Nd} {pos:Int→Nat} (hr:nt ns pos): ∀(k:Nat) (M:LM) (i:Int) (B:Nat),0<i→i≤(ns.length:Int)→pos i<k→(∀j c,M j=some c→0≤c∧c≤B)→(∀j c,pos j<pos i→0<j→M j=some c→1≤c)→B+k*(ns.length+2)<2 ^ 62→
 ∃E,Lk ns pos M (pos i) (innOf ns i) E (tG ns k M i)
 |0,_,_,_,_,_,h,_,_,_=>by omega
 |k+1,M,i,B,h0,hn,hp,hB,h1,hb=>by
  rw[Dl]
  obtain⟨E,w⟩:=HM hr (Df hr k) M (pos i) B (by omega) hB h1 hb _ (sd (innOf ns i)) rfl (M6 _) fun j hj=>hr.down h0 ((Jk _ _).1 hj)
  exact⟨E,w.roots fun x=>Jk x _⟩
def jI (ns:List Nd) (M:LM) (x:Int):List Nat:=(List.range ns.length).filter fun w=>decide ((M ((w:Int)+1)).isSome∧x∈innOf ns ((w:Int)+1))
theorem jJ {ns:List Nd} {M:LM} {x:Int} {w:Nat}:w∈jI ns M x↔w<ns.length∧(M ((w:Int)+1)).isSome∧x∈innOf ns ((w:Int)+1):=by
 unfold jI
 rw[List.mem_filter,List.mem_range,decide_eq_true_iff]
structure fZ (ns:List Nd) (out:Int) (M:LM) (pos:Int→Nat):Prop where
 ranked:nt ns pos
 out1:1≤out
 outn:out≤(ns.length:Int)
 one: ∀n∈ns,n.kind=9∨n.kind=10→n.inn.length=1
 lv: ∀x,(M x).isSome↔Lv ns out x
 ct: ∀x c,1≤x→M x=some c→c=((jI ns M x).length:Int)
theorem Ll {ns:List Nd} {out:Int} {pos:Int→Nat} (hr:nt ns pos) (hp:pos out≤ns.length) (h1:1≤out) (hn:out≤(ns.length:Int)) (hl:ns.length<2 ^ 20) (one: ∀n∈ns,n.kind=9∨n.kind=10→n.inn.length=1):
 fZ ns out (kj ns out) pos:=by
 have hM0: ∀x c,tH (fun _=>none:LM) out 0 x=some c→x=out∧c=0:=fun x c h=>by
  unfold tH at h
  split at h
  ·rename_i e;exact⟨e,(Option.some.inj h).symm⟩
  ·cases h
 obtain⟨E,w⟩:=Df hr (ns.length+1) (tH (fun _=>none) out 0) out 0 (by omega) hn (by omega) (fun j c h=>by have:=(hM0 j c h).2;omega) (fun j c hp h0 h=>by have:=(hM0 j c h).1;subst this;omega) (by
  have:(ns.length+1)*(ns.length+2)≤2 ^ 20*(2 ^ 20+1):=Nat.mul_le_mul (by omega) (by omega)
  omega)
 have hMo:tH (fun _=>none:LM) out 0 out=some 0:=by unfold tH;rw[if_pos rfl]
 have hME: ∀x,(tH (fun _=>none:LM) out 0 x).isSome→x=out:=fun x h=>by
  obtain⟨c,hc⟩:=Option.isSome_iff_exists.1 h
  exact(hM0 x c hc).1
 show fZ ns out (tG ns (ns.length+1) (tH (fun _=>none) out 0) out) pos
 generalize tG ns (ns.length+1) (tH (fun _=>none) out 0) out=M at w ⊢
 have hoE:out∉E:=fun h=>by have:=(w.new out h).1;rw[hMo] at this;cases this
 have hroot: ∀r∈innOf ns out,Lv ns out r:=fun r hr'=>by
  obtain⟨i,n,e,en,hm⟩:=mF (by omega) hr'
  have h:Lv ns out out:= .out
  have h:Lv ns out ((i:Int)+1):=by rw[←e];exact h
  exact h.inn en hm
 have inE: ∀x,0<x→(M x).isSome→x=out∨x∈E:=fun x h0 hx=>by
  rw[w.ct x] at hx
  rcases oD hx with ⟨_,h⟩|h
  ·exact .inl (hME x h)
  ·by_cases hxr:x∈innOf ns out
   ·rcases w.rt x hxr h0 with h|h
    ·exact .inr h
    ·exact .inl (hME x h)
   ·rw[if_neg hxr] at h
    obtain⟨y,hy,hxy⟩:=uh.1 (show 0<cnt ns E x by omega)
    rcases w.cl y hy x hxy h0 with h|h
    ·exact .inr h
    ·exact .inl (hME x h)
 have some_of: ∀y,y=out∨y∈E→ ∀j,j∈innOf ns y→(M j).isSome:=fun y hy j hj=>by
  rw[w.ct j]
  rcases hy with rfl|hy
  ·rw[if_pos hj,ui (by omega)];rfl
  ·rw[ui (by have:=uh.2 ⟨y,hy,hj⟩;omega)];rfl
 have outS:(M out).isSome:=by
  rw[w.ct out]
  generalize (cnt ns E out+if out∈innOf ns out then 1 else 0)=q
  unfold wj
  split
  ·rw[hMo];rfl
  ·rfl
 have hlv: ∀x,(M x).isSome↔Lv ns out x:=fun x=>by
  constructor
  ·intro hx
   rw[w.ct x] at hx
   rcases oD hx with ⟨_,h⟩|h
   ·rw[hME x h];exact .out
   ·by_cases hxr:x∈innOf ns out
    ·exact hroot x hxr
    ·rw[if_neg hxr] at h
     obtain⟨y,hy,hxy⟩:=uh.1 (show 0<cnt ns E x by omega)
     obtain⟨i,n,e,en,hm⟩:=mF (w.new y hy).2.1 hxy
     have:=w.lv y hy out hroot
     rw[e] at this
     exact this.inn en hm
  ·intro hx
   induction hx with
   |out=>exact outS
   | @inn i n j h en hm ih=>exact some_of _ (inE _ (by omega) ih) j (by rw[fS en];exact hm)
 refine⟨hr,h1,hn,one,hlv,fun x c hx hc=> ?_⟩
 have ec:c=((cnt ns (out::E) x:Nat):Int):=by
  have e:cnt ns (out::E) x=cnt ns E x+if x∈innOf ns out then 1 else 0:=by
   unfold cnt
   rw[List.filter_cons]
   by_cases hy:x∈innOf ns out
   ·rw[if_pos (by simpa using hy),if_pos hy];rfl
   ·rw[if_neg (by simpa using hy),if_neg hy];rfl
  rw[w.ct x] at hc
  rcases jH hc with ⟨h0,hc⟩|⟨h0,hc⟩
  ·have:=(hM0 x c hc).2
   rw[e];omega
  ·have hc:=Option.some.inj hc
   have:(tH (fun _=>none:LM) out 0 x).getD 0=0:=by
    cases h:tH (fun _=>none:LM) out 0 x with
    |none=>rfl
    |some d=>rw[(hM0 x d h).2];rfl
   rw[e];omega
 rw[ec]
 congr 1
 have nd1:((out::E).filter fun y=>decide (x∈innOf ns y)).Nodup:=List.Pairwise.filter _ (List.nodup_cons.2 ⟨hoE,w.nd⟩)
 have nd2:((jI ns M x).map fun w:Nat=>(w:Int)+1).Nodup:=by
  unfold List.Nodup
  rw[List.pairwise_map]
  have:(jI ns M x).Nodup:=List.Pairwise.filter _ List.nodup_range
  exact this.imp fun h e=>h (by omega)
 have l1:=jR _ ((jI ns M x).map fun w:Nat=>(w:Int)+1) nd1 fun y hy=>by
  rw[List.mem_filter,decide_eq_true_iff] at hy
  obtain⟨hy,hxy⟩:=hy
  have hy0:0<y∧y≤(ns.length:Int)∧(M y).isSome:=by
   rcases List.mem_cons.1 hy with rfl|hy
   ·exact⟨by omega,hn,outS⟩
   ·exact⟨(w.new y hy).2.1,(w.new y hy).2.2.1,(hlv y).2 (w.lv y hy out hroot)⟩
  rw[List.mem_map]
  have e:(((y-1).toNat:Nat):Int)+1=y:=by omega
  exact⟨(y-1).toNat,jJ.2 ⟨by omega,by rw[e];exact hy0.2.2,by rw[e];exact hxy⟩,e⟩
 have l2:=jR _ ((out::E).filter fun y=>decide (x∈innOf ns y)) nd2 fun y hy=>by
  obtain⟨v,hv,rfl⟩:=List.mem_map.1 hy
  obtain⟨h1,h2,h3⟩:=jJ.1 hv
  rw[List.mem_filter,decide_eq_true_iff]
  refine⟨?_,h3⟩
  rcases inE _ (by omega) h2 with h|h
  ·rw[h];simp
  ·exact List.mem_cons_of_mem _ h
 rw[List.length_map] at l1 l2
 unfold cnt
 omega
theorem tE {ns:List Nd} {M:LM} {a:Int}: ∀j:Nat,j≤ns.length→(iI ns M a j=0∧ ∀w<j,¬((M ((w:Int)+1)).isSome∧a∈innOf ns ((w:Int)+1)))∨ ∃w<j,iI ns M a j=(w:Int)+1∧(M ((w:Int)+1)).isSome∧a∈innOf ns ((w:Int)+1)
 |0,_=> .inl ⟨rfl,fun w h=>absurd h (Nat.not_lt_zero _)⟩
 |j+1,hj=>by
  have hj':j<ns.length:=by omega
  obtain⟨n,en⟩: ∃n,ns[j]? =some n:=⟨_,List.getElem?_eq_getElem hj'⟩
  have ei:=fS en
  unfold iI
  rw[en]
  show((if(M ((j:Int)+1)).isSome∧a∈n.inn then(j:Int)+1 else iI ns M a j)=0∧_)∨ ∃w<j+1,(if(M ((j:Int)+1)).isSome∧a∈n.inn then(j:Int)+1 else iI ns M a j)=_∧_
  by_cases hc:(M ((j:Int)+1)).isSome∧a∈n.inn
  ·rw[if_pos hc]
   exact .inr ⟨j,by omega,rfl,hc.1,by rw[ei];exact hc.2⟩
  ·rw[if_neg hc]
   rcases tE (ns:=ns) (M:=M) (a:=a) j (by omega) with ⟨h1,h2⟩|⟨w,h1,h2⟩
   ·refine .inl ⟨h1,fun w hw hh=> ?_⟩
    by_cases e:w=j
    ·subst e;rw[ei] at hh;exact hc hh
    ·exact h2 w (by omega) hh
   ·exact .inr ⟨w,by omega,h2⟩
theorem fZ.hasUser {ns:List Nd} {out:Int} {M:LM} {pos:Int→Nat} (I:fZ ns out M pos):Kp ns M:=by
 intro i hi hM
 have hc:=I.ct _ _ (by omega) hM
 have:0<(jI ns M ((i:Int)+1)).length:=by omega
 obtain⟨w,hw⟩:=List.length_pos_iff_exists_mem.1 this
 obtain⟨h1,h2,h3⟩:=jJ.1 hw
 unfold ij
 rcases tE (M:=M) (a:=(i:Int)+1) ns.length (Nat.le_refl _) with ⟨_,h⟩|⟨v,_,e,_⟩
 ·exact absurd ⟨h2,h3⟩ (h w h1)
 ·omega
theorem fZ.user {ns:List Nd} {out:Int} {M:LM} {pos:Int→Nat} (I:fZ ns out M pos) {a:Int} (ha:1≤a) (hM:M a=some 1): ∃w:Nat,ij ns M a=(w:Int)+1∧w<ns.length∧(M ((w:Int)+1)).isSome∧a∈innOf ns ((w:Int)+1)∧
 ∀v:Nat,v<ns.length→(M ((v:Int)+1)).isSome→a∈innOf ns ((v:Int)+1)→v=w:=by
 have hc:=I.ct _ _ ha hM
 have h1:(jI ns M a).length=1:=by omega
 obtain⟨w,hw⟩:=List.length_eq_one_iff.1 h1
 obtain⟨w1,w2,w3⟩:=jJ.1 (show w∈jI ns M a by rw[hw];simp)
 have only: ∀v:Nat,v<ns.length→(M ((v:Int)+1)).isSome→a∈innOf ns ((v:Int)+1)→v=w:=fun v v1 v2 v3=>by
  have:=jJ.2 ⟨v1,v2,v3⟩
  rw[hw] at this;simpa using this
 rcases tE (M:=M) (a:=a) ns.length (Nat.le_refl _) with ⟨_,h⟩|⟨v,v1,e,v2,v3⟩
 ·exact absurd ⟨w2,w3⟩ (h w w1)
 ·have:=only v v1 v2 v3
  subst this
  exact⟨v,e,w1,w2,w3,only⟩
end Go.Proofs.YtdhpmegbmjoekaaGreatDoor.G
end
section
namespace Go.Proofs.YtdhpmegbmjoekaaGreatDoor.G
open Go Go.Sh
set_option linter.unusedVariables false
set_option linter.unusedSimpArgs false
structure pY (ns:List Nd) (out:Int) (M:LM) (i w:Nat) (na nu a':Nd) (st:Bc):Prop where
 ea:ns[i]? =some na
 m1:M ((i:Int)+1)=some 1
 no:(i:Int)+1≠out
 we:jb na.kind
 us:ij ns M ((i:Int)+1)=(w:Int)+1
 eu:ns[w]? =some nu
 tk:qK na nu=some a'
 st:st=(zo ((w:Int)+1) ((i:Int)+1) (ns.set i a'),if out=(w:Int)+1 then(i:Int)+1 else out,OW (tH M ((i:Int)+1) ((M ((w:Int)+1)).getD 0)) ((w:Int)+1))
theorem Ji {ns:List Nd} {out:Int} {M:LM} {pos:Int→Nat} (I:fZ ns out M pos) {i:Nat} {st:Bc} (h:gJ ns out M i=some st): ∃w na nu a',pY ns out M i w na nu a' st:=by
 unfold gJ at h
 cases e1:ns[i]? with
 |none=>rw[e1] at h;cases h
 |some na=>
  rw[e1] at h
  replace h:(if M ((i:Int)+1)=some 1∧(i:Int)+1≠out∧jb na.kind then
   match ns[(ij ns M ((i:Int)+1)-1).toNat]? with
   |none=>none
   |some nu=>(qK na nu).map fun a'=>(zo (ij ns M ((i:Int)+1)) ((i:Int)+1) (ns.set i a'),if out=ij ns M ((i:Int)+1) then(i:Int)+1 else out,
    OW (tH M ((i:Int)+1) ((M (ij ns M ((i:Int)+1))).getD 0)) (ij ns M ((i:Int)+1)))
   else none)=some st:=h
  by_cases hc:M ((i:Int)+1)=some 1∧(i:Int)+1≠out∧jb na.kind
  ·rw[if_pos hc] at h
   obtain⟨w,hw,_⟩:=I.user (by omega) hc.1
   rw[hw,show((w:Int)+1-1).toNat=w by omega] at h
   cases e2:ns[w]? with
   |none=>rw[e2] at h;cases h
   |some nu=>
    rw[e2] at h
    replace h:(qK na nu).map (fun a'=>(zo ((w:Int)+1) ((i:Int)+1) (ns.set i a'),if out=(w:Int)+1 then(i:Int)+1 else out,
     OW (tH M ((i:Int)+1) ((M ((w:Int)+1)).getD 0)) ((w:Int)+1)))=some st:=h
    obtain⟨a',h1,h2⟩:=Option.map_eq_some_iff.1 h
    exact⟨w,na,nu,a',e1,hc.1,hc.2.1,hc.2.2,hw,e2,h1,h2.symm⟩
  ·rw[if_neg hc] at h;cases h
theorem gV {a u x:Nd} (h:qK a u=some x):x.inn=a.inn∧x.kind=a.kind∧x.weights=a.weights∧x.bias=a.bias∧(u.kind=10∨u.kind=9):=by
 unfold qK at h
 split at h
 ·rename_i hc;cases h;exact⟨rfl,rfl,rfl,rfl,.inl hc.1⟩
 ·split at h
  ·rename_i hc;cases h;exact⟨rfl,rfl,rfl,rfl,.inr hc.1⟩
  ·cases h
theorem M7 (u a:Int) (ns:List Nd) (q:Nat):(zo u a ns)[q]? =ns[q]?.map fun n=>if(q:Int)+1=u then n else{n with inn:=n.inn.map (wk u a)}:=by
 unfold zo;rw[List.getElem?_mapIdx]
theorem HN (u a:Int) (ns:List Nd):(zo u a ns).length=ns.length:=by simp[zo]
section
variable {ns:List Nd} {out:Int} {M:LM} {pos:Int→Nat} {i w:Nat} {na nu a':Nd} {st:Bc}
theorem pY.len (s:pY ns out M i w na nu a' st):st.1.length=ns.length:=by rw[s.st];show(zo _ _ _).length=_;rw[HN,List.length_set]
theorem pY.il (s:pY ns out M i w na nu a' st):i<ns.length:=(List.getElem?_eq_some_iff.1 s.ea).1
theorem pY.wl (s:pY ns out M i w na nu a' st):w<ns.length:=(List.getElem?_eq_some_iff.1 s.eu).1
theorem pY.inn (I:fZ ns out M pos) (s:pY ns out M i w na nu a' st):nu.inn=[(i:Int)+1]:=by
 obtain⟨v,hv,_,_,hm,_⟩:=I.user (a:=(i:Int)+1) (by omega) s.m1
 have e:v=w:=by have:=s.us;omega
 subst e
 rw[fS s.eu] at hm
 have h1:=I.one nu (List.mem_of_getElem? s.eu) ((gV s.tk).2.2.2.2.symm.imp id id)
 obtain⟨x,hx⟩:=List.length_eq_one_iff.1 h1
 rw[hx] at hm ⊢
 simp only[List.mem_singleton] at hm
 rw[hm]
theorem pY.live (I:fZ ns out M pos) (s:pY ns out M i w na nu a' st):(M ((w:Int)+1)).isSome∧ ∀v:Nat,v<ns.length→(M ((v:Int)+1)).isSome→((i:Int)+1)∈innOf ns ((v:Int)+1)→v=w:=by
 obtain⟨v,hv,_,h1,_,h2⟩:=I.user (a:=(i:Int)+1) (by omega) s.m1
 have e:v=w:=by have:=s.us;omega
 subst e
 exact⟨h1,h2⟩
theorem pY.lt (I:fZ ns out M pos) (s:pY ns out M i w na nu a' st):pos ((i:Int)+1)<pos ((w:Int)+1):=by
 have:=(I.ranked w nu s.eu).2 ((i:Int)+1) (by rw[s.inn I];simp)
 exact this.2.2 (by omega)
theorem pY.ne (I:fZ ns out M pos) (s:pY ns out M i w na nu a' st):i≠w:=fun e=>by have:=s.lt I;rw[e] at this;omega
theorem pY.get (s:pY ns out M i w na nu a' st) (q:Nat):st.1[q]? =ns[q]?.map fun n=>let m:=if q=i then a' else n;if(q:Int)+1=(w:Int)+1 then m else{m with inn:=m.inn.map (wk ((w:Int)+1) ((i:Int)+1))}:=by
 rw[s.st]
 show(zo _ _ _)[q]? =_
 rw[M7]
 by_cases h:i=q
 ·subst h
  rw[List.getElem?_set_self s.il,s.ea]
  simp
 ·rw[List.getElem?_set_ne h]
  cases ns[q]? with
  |none=>rfl
  |some n=>simp only[Option.map_some];rw[if_neg (Ne.symm h)]
theorem pY.innOf (s:pY ns out M i w na nu a' st) (q:Nat):innOf st.1 ((q:Int)+1)=if q=w then G.innOf ns ((q:Int)+1) else(G.innOf ns ((q:Int)+1)).map (wk ((w:Int)+1) ((i:Int)+1)):=by
 have hg:=s.get q
 cases e:ns[q]? with
 |none=>
  rw[e] at hg
  have h1:G.innOf st.1 ((q:Int)+1)=[]:=by unfold G.innOf;rw[show((q:Int)+1-1).toNat=q by omega,hg];rfl
  have h2:G.innOf ns ((q:Int)+1)=[]:=by unfold G.innOf;rw[show((q:Int)+1-1).toNat=q by omega,e]
  rw[h1,h2];simp
 |some n=>
  rw[e,Option.map_some] at hg
  rw[fS hg,fS e]
  have hi:(if q=i then a' else n).inn=n.inn:=by
   split
   ·rename_i h;subst h
    have:=s.ea;rw[e] at this;cases this
    exact(gV s.tk).1
   ·rfl
  dsimp only
  by_cases h:q=w
  ·rw[if_pos (by omega),if_pos h,hi]
  ·rw[if_neg (by omega),if_neg h]
   show(if q=i then a' else n).inn.map _=_
   rw[hi]
theorem oE {u a k:Int} (h:k≠u):wk u a k=k:=if_neg h
theorem qG (u a:Int):wk u a u=a:=if_pos rfl
theorem pY.cnt (s:pY ns out M i w na nu a' st) (x:Int):st.2.2 x=if x=(w:Int)+1 then none else if x=(i:Int)+1 then some ((M ((w:Int)+1)).getD 0) else M x:=by
 rw[s.st];rfl
theorem pY.some (I:fZ ns out M pos) (s:pY ns out M i w na nu a' st) (x:Int):(st.2.2 x).isSome↔(M x).isSome∧x≠(w:Int)+1:=by
 rw[s.cnt]
 by_cases h1:x=(w:Int)+1
 ·rw[if_pos h1];simp[h1]
 ·rw[if_neg h1]
  by_cases h2:x=(i:Int)+1
  ·rw[if_pos h2,h2,s.m1];simp;omega
  ·rw[if_neg h2];simp[h1]
theorem pY.inv (I:fZ ns out M pos) (s:pY ns out M i w na nu a' st):fZ st.1 st.2.1 st.2.2 pos:=by
 have hlt:=s.lt I
 have hne:=s.ne I
 have hlen:=s.len
 have hil:=s.il
 have hwl:=s.wl
 have hinn:=s.inn I
 have hlive:=s.live I
 have hout:st.2.1=if out=(w:Int)+1 then(i:Int)+1 else out:=by rw[s.st]
 have innw:G.innOf ns ((w:Int)+1)=[(i:Int)+1]:=by rw[fS s.eu,hinn]
 have aliv:Lv ns out ((i:Int)+1):=(I.lv _).1 (by rw[s.m1];rfl)
 have uliv:Lv ns out ((w:Int)+1):=(I.lv _).1 hlive.1
 have rank: ∀q j,j∈G.innOf ns ((q:Nat)+1:Int)→0≤j∧j≤(ns.length:Int)∧(0<j→pos j<pos ((q:Int)+1)):=fun q j hj=>I.ranked.down (by omega) hj
 have edge: ∀{q:Nat} {n:Nd} {j:Int},Lv ns out ((q:Int)+1)→j∈G.innOf ns ((q:Int)+1)→Lv ns out j:=fun{q n j} h hj=>by
  obtain⟨i2,n2,e,en,hm⟩:=mF (by omega) hj
  have:i2=q:=by omega
  subst this
  exact h.inn en hm
 have edge': ∀{q:Nat} {j:Int},Lv st.1 st.2.1 ((q:Int)+1)→j∈G.innOf st.1 ((q:Int)+1)→Lv st.1 st.2.1 j:=fun{q j} h hj=>by
  obtain⟨i2,n2,e,en,hm⟩:=mF (by omega) hj
  have:i2=q:=by omega
  subst this
  exact h.inn en hm
 have lvs: ∀x,Lv st.1 st.2.1 x↔Lv ns out x∧x≠(w:Int)+1:=fun x=>by
  constructor
  ·intro h
   induction h with
   |out=>
    rw[hout]
    split
    ·exact⟨aliv,by omega⟩
    ·rename_i h;exact⟨.out,h⟩
   | @inn q n j h en hm ih=>
     have hm':j∈G.innOf st.1 ((q:Int)+1):=by rw[fS en];exact hm
     rw[s.innOf,if_neg (by have:=ih.2;omega)] at hm'
     obtain⟨k,hk,rfl⟩:=List.mem_map.1 hm'
     by_cases hku:k=(w:Int)+1
     ·rw[hku,qG];exact⟨aliv,by omega⟩
     ·rw[oE hku];exact⟨edge (n:=n) ih.1 hk,hku⟩
  ·rintro⟨h,hx⟩
   have key: ∀x,Lv ns out x→(x≠(w:Int)+1→Lv st.1 st.2.1 x)∧(x=(w:Int)+1→Lv st.1 st.2.1 ((i:Int)+1)):=by
    intro x h
    induction h with
    |out=>
     refine⟨fun h=> ?_,fun h=> ?_⟩
     ·rw[if_neg h] at hout;rw[←hout];exact .out
     ·rw[if_pos h] at hout;rw[←hout];exact .out
    | @inn q n j h en hm ih=>
      have hm0:j∈G.innOf ns ((q:Int)+1):=by rw[fS en];exact hm
      by_cases hq:q=w
      ·subst hq
       rw[innw] at hm0
       simp only[List.mem_singleton] at hm0
       have hl:=ih.2 rfl
       exact⟨fun _=>by rw[hm0];exact hl,fun h=>by omega⟩
      ·have hl:=ih.1 (by omega)
       have hmm:wk ((w:Int)+1) ((i:Int)+1) j∈G.innOf st.1 ((q:Int)+1):=by
        rw[s.innOf,if_neg hq];exact List.mem_map_of_mem hm0
       have:=edge' hl hmm
       exact⟨fun h=>by rw[oE h] at this;exact this,fun h=>by rw[h,qG] at this;exact this⟩
   exact(key x h).1 hx
 refine⟨fun q n en=> ?_,?_,?_,fun n hn hk=> ?_,fun x=> ?_,fun x c hx hc=> ?_⟩
 ·have hm:n.inn=G.innOf st.1 ((q:Int)+1):=(fS en).symm
  have hq:q<ns.length:=by rw[←hlen];exact(List.getElem?_eq_some_iff.1 en).1
  obtain⟨n0,en0⟩: ∃n0,ns[q]? =Option.some n0:=⟨_,List.getElem?_eq_getElem hq⟩
  have r0:=I.ranked q n0 en0
  rw[hm,s.innOf,fS en0,hlen]
  by_cases hqw:q=w
  ·rw[if_pos hqw];exact r0
  ·rw[if_neg hqw,List.length_map]
   refine⟨r0.1,fun j hj=> ?_⟩
   obtain⟨k,hk,rfl⟩:=List.mem_map.1 hj
   have rk:=r0.2 k hk
   by_cases hku:k=(w:Int)+1
   ·rw[hku,qG]
    refine⟨by omega,by omega,fun _=> ?_⟩
    have:=rk.2.2 (by omega)
    rw[hku] at this;omega
   ·rw[oE hku];exact rk
 ·rw[hout];split
  ·omega
  ·exact I.out1
 ·rw[hout,hlen];split
  ·omega
  ·exact I.outn
 ·obtain⟨q,hq⟩:=List.mem_iff_getElem?.1 hn
  rw[s.get] at hq
  obtain⟨n0,en0,e⟩:=Option.map_eq_some_iff.1 hq
  dsimp only at e
  have hi:(if q=i then a' else n0).inn=n0.inn∧(if q=i then a' else n0).kind=n0.kind:=by
   split
   ·rename_i h;subst h
    have:=s.ea;rw[en0] at this;cases this
    exact⟨(gV s.tk).1,(gV s.tk).2.1⟩
   ·exact⟨rfl,rfl⟩
  have hk0:n0.kind=9∨n0.kind=10:=by
   rw[←hi.2]
   rw[←e] at hk
   split at hk<;>exact hk
  have:=I.one n0 (List.mem_of_getElem? en0) hk0
  rw[←e]
  split
  ·rw[hi.1];exact this
  ·show(List.map _ _).length=1
   rw[List.length_map,hi.1];exact this
 ·rw[s.some I,I.lv,lvs]
 ·rw[s.cnt] at hc
  have hxw:x≠(w:Int)+1:=fun e=>by rw[if_pos e] at hc;cases hc
  rw[if_neg hxw] at hc
  have filt: ∀y:Int,(∀q:Nat,q<ns.length→(((st.2.2 ((q:Int)+1)).isSome∧x∈G.innOf st.1 ((q:Int)+1))↔((M ((q:Int)+1)).isSome∧y∈G.innOf ns ((q:Int)+1))))→jI st.1 st.2.2 x=jI ns M y:=fun y h=>by
   unfold jI
   rw[hlen]
   refine List.filter_congr fun q hq=> ?_
   rw[decide_eq_decide]
   exact h q (List.mem_range.1 hq)
  by_cases hxi:x=(i:Int)+1
  ·rw[if_pos hxi] at hc
   obtain⟨d,hd⟩:=Option.isSome_iff_exists.1 hlive.1
   have:=I.ct _ _ (by omega) hd
   rw[filt ((w:Int)+1) fun q hq=> ?_,←this]
   ·rw[hd] at hc;exact(Option.some.inj hc).symm
   ·rw[s.some I,s.innOf]
    by_cases hqw:q=w
    ·subst hqw
     constructor
     ·intro h;exact absurd rfl h.1.2
     ·rintro⟨_,h⟩
      rw[innw] at h;simp only[List.mem_singleton] at h
      omega
    ·rw[if_neg hqw]
     constructor
     ·rintro⟨⟨h1,h2⟩,h3⟩
      refine⟨h1,?_⟩
      obtain⟨k,hk,e⟩:=List.mem_map.1 h3
      by_cases hku:k=(w:Int)+1
      ·rw[←hku];exact hk
      ·rw[oE hku] at e
       rw[e,hxi] at hk
       exact absurd (hlive.2 q hq h1 hk) hqw
     ·rintro⟨h1,h2⟩
      exact⟨⟨h1,by omega⟩,List.mem_map.2 ⟨_,h2,by rw[qG,hxi]⟩⟩
  ·rw[if_neg hxi] at hc
   have:=I.ct _ _ hx hc
   rw[filt x fun q hq=> ?_,←this]
   rw[s.some I,s.innOf]
   by_cases hqw:q=w
   ·subst hqw
    constructor
    ·intro h;exact absurd rfl h.1.2
    ·rintro⟨_,h⟩
     rw[innw] at h;simp only[List.mem_singleton] at h
     omega
   ·rw[if_neg hqw]
    constructor
    ·rintro⟨⟨h1,h2⟩,h3⟩
     refine⟨h1,?_⟩
     obtain⟨k,hk,e⟩:=List.mem_map.1 h3
     by_cases hku:k=(w:Int)+1
     ·rw[hku,qG] at e;omega
     ·rw[oE hku] at e
      rw[←e];exact hk
    ·rintro⟨h1,h2⟩
     exact⟨⟨h1,by omega⟩,List.mem_map.2 ⟨_,h2,oE hxw⟩⟩
def keys (n:Nat) (M:LM):Nat:=((List.range n).filter fun w:Nat=>(M ((w:Int)+1)).isSome).length
theorem Ko (n:Nat) (M:LM):keys n M≤n:=by have:=List.length_filter_le (fun w:Nat=>(M ((w:Int)+1)).isSome) (List.range n);rw[List.length_range] at this;exact this
theorem pY.keys (I:fZ ns out M pos) (s:pY ns out M i w na nu a' st):G.keys ns.length st.2.2<G.keys ns.length M:=by
 have nd:(w::(List.range ns.length).filter fun v:Nat=>(st.2.2 ((v:Int)+1)).isSome).Nodup:=by
  rw[List.nodup_cons]
  refine⟨fun h=> ?_,List.Pairwise.filter _ List.nodup_range⟩
  rw[List.mem_filter] at h
  exact((s.some I _).1 h.2).2 rfl
 have:=jR _ ((List.range ns.length).filter fun v:Nat=>(M ((v:Int)+1)).isSome) nd fun v hv=>by
  rw[List.mem_filter,List.mem_range]
  rcases List.mem_cons.1 hv with rfl|hv
  ·exact⟨s.wl,(s.live I).1⟩
  ·rw[List.mem_filter,List.mem_range] at hv
   exact⟨hv.1,((s.some I _).1 hv.2).1⟩
 simp only[List.length_cons] at this
 unfold G.keys
 omega
end
theorem HO {ns:List Nd} {out:Int} {M:LM} {st:Bc}: ∀(k i:Nat),pR ns out M k i=some st→ ∃j,gJ ns out M j=some st∧i≤j∧ ∀q,i≤q→q<j→gJ ns out M q=none
 |0,i,h=>by cases h
 |k+1,i,h=>by
  cases e:gJ ns out M i with
  |some x=>
   rw[Dk e] at h
   exact⟨i,by rw[e];exact h,Nat.le_refl _,fun q h1 h2=>by omega⟩
  |none=>
   rw[Dj e] at h
   obtain⟨j,h1,h2,h3⟩:=HO k (i+1) h
   exact⟨j,h1,by omega,fun q hq1 hq2=>by
    by_cases hqi:q=i
    ·rw[hqi];exact e
    ·exact h3 q (by omega) hq2⟩
theorem mG {ns:List Nd} {out:Int} {M:LM} {pos:Int→Nat} (I:fZ ns out M pos) {st:Bc} (h:gW ns out M=some st): ∃i w na nu a',pY ns out M i w na nu a' st∧ ∀q<i,gJ ns out M q=none:=by
 obtain⟨j,h1,_,h3⟩:=HO _ _ h
 obtain⟨w,na,nu,a',s⟩:=Ji I h1
 exact⟨j,w,na,nu,a',s,fun q hq=>h3 q (Nat.zero_le _) hq⟩
def cY:Nat→Bc→Bc
 |0,s=>s
 |k+1,s=>match gW s.1 s.2.1 s.2.2 with
  |some t=>cY k t
  |none=>s
inductive Dg:Bc→Bc→Prop
 |done {s:Bc}:gW s.1 s.2.1 s.2.2=none→Dg s s
 |more {s t f:Bc}:gW s.1 s.2.1 s.2.2=some t→Dg t f→Dg s f
theorem Dh {pos:Int→Nat}: ∀(k:Nat) (s:Bc),fZ s.1 s.2.1 s.2.2 pos→keys s.1.length s.2.2<k→Dg s (cY k s)
 |0,s,_,h=>by omega
 |k+1,s,I,h=>by
  unfold cY
  cases e:gW s.1 s.2.1 s.2.2 with
  |none=>exact .done e
  |some t=>
   obtain⟨i,w,na,nu,a',st,_⟩:=mG I e
   refine .more e (Dh k t (st.inv I) ?_)
   have:=st.keys I
   rw[st.len];omega
end Go.Proofs.YtdhpmegbmjoekaaGreatDoor.G
end
section
namespace Go.Proofs.YtdhpmegbmjoekaaGreatDoor.G
open Go Go.Sh
set_option linter.unusedVariables false
set_option linter.unusedSimpArgs false
theorem lI (ns:List Nd) (there:List Int):nz ns there=there∨ ∃(i:Nat) (n:Nd),ns[i]? =some n∧((i:Int)+1)∉there∧(∀j∈n.inn,j∈there)∧nz ns there=there++[(i:Int)+1]:=by
 unfold nz
 cases h:kC there ns 0 with
 |none=>exact .inl rfl
 |some x=>
  obtain⟨k,n,hx,hn,h1,h2⟩:=wm h
  rw[Nat.zero_add] at hx
  subst hx
  exact .inr ⟨k,n,hn,h1,h2,rfl⟩
theorem qH (ns:List Nd): ∀k,(bR ns k).Nodup
 |0=>by simp[bR]
 |k+1=>by
  have ih:=qH ns k
  show(nz ns (bR ns k)).Nodup
  rcases lI ns (bR ns k) with e|⟨i,n,_,h1,_,e⟩
  ·rw[e];exact ih
  ·rw[e,List.nodup_append]
   refine⟨ih,by simp,fun a ha b hb hab=> ?_⟩
   simp only[List.mem_singleton] at hb
   subst hab hb;exact h1 ha
theorem pP (ns:List Nd): ∀(k i:Nat) (n:Nd),ns[i]? =some n→((i:Int)+1)∈bR ns k→ ∀j∈n.inn,j∈bR ns k∧(bR ns k).idxOf j<(bR ns k).idxOf ((i:Int)+1)
 |0,i,n,_,h,_,_=>by simp[bR] at h;omega
 |k+1,i,n,en,h,j,hj=>by
  have ih:=pP ns k i n en
  rw[show bR ns (k+1)=nz ns (bR ns k) from rfl] at h ⊢
  rcases lI ns (bR ns k) with e|⟨q,m,em,h1,h2,e⟩
  ·rw[e] at h ⊢;exact ih h j hj
  ·rw[e] at h ⊢
   by_cases hi:((i:Int)+1)∈bR ns k
   ·have:=ih hi j hj
    rw[List.idxOf_append,List.idxOf_append,if_pos this.1,if_pos hi]
    exact⟨by simp[this.1],this.2⟩
   ·have hq:i=q:=by
     rcases List.mem_append.1 h with h|h
     ·exact absurd h hi
     ·simp only[List.mem_singleton] at h;omega
    subst hq
    rw[en] at em;cases em
    have hm:=h2 j hj
    rw[List.idxOf_append,List.idxOf_append,if_pos hm,if_neg hi]
    have:=List.idxOf_lt_length_of_mem hm
    exact⟨by simp[hm],by omega⟩
theorem pQ {ns:List Nd} (h:(cU ns).length=ns.length) {x:Int} (h1:1≤x) (h2:x≤(ns.length:Int)):x∈cU ns:=by
 apply Decidable.byContradiction
 intro hx
 have nd:(x::cU ns).Nodup:=List.nodup_cons.2 ⟨hx,by
  have:=qH ns ns.length
  rw[eC] at this
  exact(List.nodup_cons.1 this).2⟩
 have:=jR _ ((List.range ns.length).map fun i:Nat=>(i:Int)+1) nd fun y hy=>by
  have:1≤y∧y≤(ns.length:Int):=by
   rcases List.mem_cons.1 hy with rfl|hy
   ·exact⟨h1,h2⟩
   ·exact fT ns ns.length y hy
  rw[List.mem_map]
  exact⟨(y-1).toNat,by rw[List.mem_range];omega,by omega⟩
 simp only[List.length_cons,List.length_map,List.length_range] at this
 omega
def posG (ns:List Nd) (x:Int):Nat:=if x∈bR ns ns.length then(bR ns ns.length).idxOf x else 0
theorem Bh (ns:List Nd) (x:Int):posG ns x≤ns.length:=by
 unfold posG
 split
 ·rename_i h
  have h1:=List.idxOf_lt_length_of_mem h
  have h2:=tI ns ns.length
  rw[List.length_tail] at h2
  omega
 ·omega
theorem mH {ns:List Nd} (h:(cU ns).length=ns.length) {i:Nat} {n:Nd} (en:ns[i]? =some n) {j:Int} (hj:j∈n.inn):posG ns j<posG ns ((i:Int)+1):=by
 have hi:=(List.getElem?_eq_some_iff.1 en).1
 have hm:((i:Int)+1)∈bR ns ns.length:=by
  rw[eC]
  exact List.mem_cons_of_mem _ (pQ h (by omega) (by omega))
 have:=pP ns ns.length i n en hm j hj
 unfold posG
 rw[if_pos hm,if_pos this.1];exact this.2
theorem Fi {ns:List Nd}: ∀(l ws rs:List Int),(dJ ns l ws rs).1=0→(∀i∈l,1≤i∧i≤(ns.length:Int))→ ∀i∈l,∃n v,ns[i.toNat-1]? =some n∧n.chk v=0
 |[],_,_,_,_,i,hi=>by simp at hi
 |x::r,ws,rs,h,hl,i,hi=>by
  have hx:=hl x (by simp)
  obtain⟨n,en⟩: ∃n,ns[x.toNat-1]? =some n:=⟨_,List.getElem?_eq_getElem (l:=ns) (i:=x.toNat-1) (by omega)⟩
  unfold dJ at h
  rw[en] at h
  dsimp only at h
  by_cases hc:n.chk (cI ws n.inn)≠0
  ·rw[if_pos hc] at h;exact absurd h hc
  ·rw[if_neg hc] at h
   by_cases hr:cd n (cI rs n.inn)<0
   ·rw[if_pos hr] at h;exact absurd (show(15:Int)=0 from h) (by decide)
   ·rw[if_neg hr] at h
    rcases List.mem_cons.1 hi with rfl|hi
    ·exact⟨n,_,en,Decidable.byContradiction hc⟩
    ·exact Fi r _ _ h (fun i hi=>hl i (by simp[hi])) i hi
theorem zn {g:Gr} (h:g.look.e=0):g.first=0∧(cU g.nodes).length=g.nodes.length∧(dJ g.nodes (cU g.nodes) (g.width::List.replicate g.nodes.length 0) (1::List.replicate g.nodes.length 0)).1=0:=by
 unfold Gr.look at h
 split at h
 ·rename_i h1;exact absurd h h1
 ·rename_i h1
  split at h
  ·cases h
  ·rename_i h2
   split at h
   ·rename_i h3;exact absurd h h3
   ·rename_i h3
    exact⟨by omega,by omega,by omega⟩
theorem HP {g:Gr} (h:g.look.e=0):nt g.nodes (posG g.nodes)∧1≤g.out∧g.out≤(g.nodes.length:Int)∧1≤g.nodes.length∧g.nodes.length≤12∧(∀n∈g.nodes,n.kind=9∨n.kind=10→n.inn.length=1)∧ ∀n∈g.nodes,∃v,n.chk v=0:=by
 obtain⟨h1,h2,h3⟩:=zn h
 obtain⟨f1,f2,_,_,f5,f6⟩:=bW h1
 have chk: ∀(i:Nat) (n:Nd),g.nodes[i]? =some n→ ∃v,n.chk v=0:=fun(i:Nat) (n:Nd) en=>by
  have hi:=(List.getElem?_eq_some_iff.1 en).1
  obtain⟨m,v,em,hv⟩:=Fi _ _ _ h3 (fun x hx=>fT g.nodes g.nodes.length x hx) ((i:Int)+1) (pQ h2 (by omega) (by omega))
  rw[show((i:Int)+1).toNat-1=i by omega,en] at em
  cases em
  exact⟨v,hv⟩
 refine⟨fun i n en=> ?_,f5.1,f5.2,f1,f2,fun n hn hk=> ?_,fun n hn=> ?_⟩
 ·obtain⟨v,hv⟩:=chk i n en
  obtain⟨_,_,c1,c2,_,c4,c5,_⟩:=iH hv
  refine⟨?_,fun j hj=> ?_⟩
  ·by_cases m:dv n.kind
   ·have:=c4 m;omega
   ·have:=c5 m;omega
  ·have:=f6 n (List.mem_of_getElem? en) j hj
   exact⟨by omega,by omega,fun _=>mH h2 en hj⟩
 ·obtain⟨i,en⟩:=List.mem_iff_getElem?.1 hn
  obtain⟨v,hv⟩:=chk i n en
  obtain⟨_,_,c1,c2,_,c4,c5,_⟩:=iH hv
  have:=c5 (by rintro(h|h)<;>omega)
  omega
 ·obtain⟨i,en⟩:=List.mem_iff_getElem?.1 hn
  exact chk i n en
theorem uj {g:Gr} (h:g.look.e=0):fZ g.nodes g.out (kj g.nodes g.out) (posG g.nodes):=by
 obtain⟨h1,h2,h3,h4,h5,h6,_⟩:=HP h
 exact Ll h1 (Bh _ _) h2 h3 (by omega) h6
end Go.Proofs.YtdhpmegbmjoekaaGreatDoor.G
end
