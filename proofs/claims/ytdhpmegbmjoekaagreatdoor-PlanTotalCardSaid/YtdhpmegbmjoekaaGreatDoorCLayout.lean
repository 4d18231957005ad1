/- Contracts: arena.Layout, earshotref07.up, earshotref07.Layout. -/
import Derived.Test.YtdhpmegbmjoekaaGreatDoorCSame
namespace Go.Proofs.YtdhpmegbmjoekaaGreatDoor.G
open Go Go.Sh
set_option linter.unusedVariables false
def lay:List Int→Int→Option (List Int×Int)
 |[],e=>some ([],e)
 |n::r,e=>if n>4096-e then none else(lay r ((e+n+3) / 4*4)).map fun x=>(e::x.1,x.2)
def cL (xs:List Int):List Int×Int×Int:=
 if ∃n∈xs,n<0 then([],0,1) else match lay xs 0 with
  |none=>([],0,17)
  |some x=>(x.1,x.2,0)
theorem NZ {xs:List Int} {i:Nat} {e:Int} {acc:List Int} (hi:i<xs.length) (h:lay xs 0=(lay (xs.drop i) e).map fun x=>(acc++x.1,x.2)):
 (xs[i]>4096-e→lay xs 0=none)∧(¬xs[i]>4096-e→lay xs 0=(lay (xs.drop (i+1)) ((e+xs[i]+3) / 4*4)).map fun x=>((acc++[e])++x.1,x.2)):=by
 rw[List.drop_eq_getElem_cons hi] at h
 simp only[lay] at h
 constructor
 ·intro hg;rw[if_pos hg] at h;exact h
 ·intro hg;rw[if_neg hg] at h;rw[h];cases lay (List.drop (i+1) xs) ((e+xs[i]+3) / 4*4)<;>simp
theorem DR {xs:List Int} {i:Nat} (hi:i<xs.length) (h:xs[i]<0):cL xs=([],0,1):=by
 unfold cL;rw[if_pos ⟨_,List.getElem_mem hi,h⟩]
theorem Ad {xs:List Int} (hn: ∀n∈xs,0≤n) (h:lay xs 0=none):cL xs=([],0,17):=by
 unfold cL;rw[if_neg (by rintro⟨n,hm,hl⟩;have:=hn n hm;omega),h]
theorem Ae {xs:List Int} {x:List Int×Int} (hn: ∀n∈xs,0≤n) (h:lay xs 0=some x):cL xs=(x.1,x.2,0):=by
 unfold cL;rw[if_neg (by rintro⟨n,hm,hl⟩;have:=hn n hm;omega),h]
theorem Iq {xs:List Int} {p:Int→Prop} (h: ∀j (hj:j<xs.length),p xs[j]): ∀n∈xs,p n:=by
 intro n hn
 obtain⟨j,hj,rfl⟩:=List.getElem_of_mem hn
 exact h j hj
theorem Ir (a b:List Int):az a++az b=az (a++b):=by simp[az]
def JM (xs:List Int) (h:ae) (v:Value) (h':ae):Prop:=
 ∃p l c,v= .tuple #[.slice p l c,.int .i64 (cL xs).2.1,.int .i64 (cL xs).2.2]∧qF h' h.size 1 p l c (az (cL xs).1)∧cu no h h'
theorem L7 {p:Option Addr} {l c:Nat} {h:ae} {xs:List Int} (hx:bT h p (az xs)) (hxl:xs.length=l) (hb:l≤2 ^ 32) (hr: ∀n∈xs,-2 ^ 63≤n∧n<2 ^ 63):
 aq P j6 #[.slice p l c] h (JM xs h):=by
 refine wL _ _ _ ?_
 unfold wK
 refine aT (fun m s h'=>h'=h∧ ∃i:Nat,s=((p,l,c),(p,l,c),(l:Int),(i:Int),())∧i≤l∧m=l-i∧ ∀j (hj:j<i) (hj':j<xs.length),0≤xs[j]) l ⟨rfl,0,rfl,by omega,by omega,by intro j hj;omega⟩ ?_
 rintro m s h' ⟨rfl,i,rfl,hi,rfl,hn⟩
 unfold qV
 dsimp only
 refine au (fun hlt=> ?_) (fun hge=> ?_)
 ·have hlt:i<l:=by omega
  have hlt':i<xs.length:=by omega
  obtain⟨a,rfl⟩:=hx.some_of (by rw[aB];omega)
  refine aG rfl rfl hlt ?_
  simp only[Int.toNat_natCast,Nat.mul_one]
  refine af (hx.cell (aN (List.getElem?_eq_getElem hlt'))) ?_
  refine au (fun hneg=> ?_) (fun hpos=> ?_)
  ·refine⟨none,0,0,?_,?_,cu.refl _ _⟩
   ·rw[DR hlt' hneg]
   ·rw[DR hlt' hneg];exact qF.nil _ _ _
  ·rw[al (by omega)]
   refine⟨l-(i+1),by omega,by trivial,i+1,rfl,by omega,rfl,fun j hj hj'=> ?_⟩
   by_cases e:j=i
   ·subst e;omega
   ·exact hn j (by omega) hj'
 ·have hnn: ∀n∈xs,0≤n:=Iq fun j hj=>hn j (by omega) hj
  clear hn hge
  refine aT (fun m s h2=>cu no h' h2∧ ∃(i:Nat) (q:Option Addr) (k d:Nat) (e:Int) (acc:List Int),s=((q,k,d),e,(p,l,c),(l:Int),(i:Int),())∧i≤l∧m=l-i∧k=i∧qF h2 h'.size 1 q k d (az acc)∧
   0≤e∧e≤4096∧lay xs 0=(lay (xs.drop i) e).map fun x=>(acc++x.1,x.2)) l ⟨cu.refl _ _,0,none,0,0,0,[],rfl,by omega,by omega,rfl,qF.nil _ _ _,by omega,by omega,by simp⟩ ?_
  rintro m s h2 ⟨hf,i,q,k,d,e,acc,rfl,hi,rfl,rfl,ho,he0,he1,hlay⟩
  unfold pc
  dsimp only
  refine au (fun hlt=> ?_) (fun hge=> ?_)
  ·have hlt:k<l:=by omega
   have hlt':k<xs.length:=by omega
   have hx2:=hx.frame0 hf
   obtain⟨a,rfl⟩:=hx.some_of (by rw[aB];omega)
   refine aG rfl rfl hlt ?_
   simp only[Int.toNat_natCast,Nat.mul_one]
   refine af (hx2.cell (aN (List.getElem?_eq_getElem hlt'))) ?_
   obtain⟨s1,s2⟩:=NZ hlt' hlay
   have h0:=hnn _ (List.getElem_mem hlt')
   rw[al (n:=4096-e) (by omega)]
   refine au (fun hbig=> ?_) (fun hsm=> ?_)
   ·refine⟨none,0,0,?_,?_,hf⟩
    ·rw[Ad hnn (s1 hbig)]
    ·rw[Ad hnn (s1 hbig)];exact qF.nil _ _ _
   ·refine MY (cs:=[.int .i64 e]) fun b h3 hb hs3 hat hf3=> ?_
    have ho3:=ho.frame0 hf3
    refine M1 (xs:=az acc) (ys:=[.int .i64 e]) ho3 (by have:=hf.size;omega) rfl (by omega) (by omega) (bT.of_at hat) rfl (by simp[mC]) ?_
    intro p' l' c' h4 hl' ho4 hf4 hsz
    have hf04:cu no h' h4:=(hf.trans hf3).own hf4 (Nat.le_refl _)
    rw[al (n:=e+_) (by omega),al (n:=_+4) (by omega),al (n:=_-1) (by omega),Int.tdiv_eq_ediv_of_nonneg (by omega),al (n:=_ / 4) (by omega),al (n:=_*4) (by omega),al (n:=(k:Int)+1) (by omega)]
    refine⟨l-(k+1),by omega,hf04,k+1,p',l',c',(e+xs[k]+3) / 4*4,acc++[e],?_,by omega,rfl,hl',?_,by omega,by omega,s2 hsm⟩
    ·rw[show e+xs[k]+4-1=e+xs[k]+3 by omega];rfl
    ·rw[←Ir];exact ho4
  ·have:k=l:=by omega
   rw[List.drop_of_length_le (by omega)] at hlay
   simp only[lay,Option.map_some,List.append_nil] at hlay
   refine⟨q,k,d,?_,?_,hf⟩
   ·rw[Ae hnn hlay]
   ·rw[Ae hnn hlay];exact ho
def PG (xs:List Int) (h:ae) (v:Value) (h':ae):Prop:=
 ∃p l c,v= .agg #[.slice p l c,.int .i64 (cL xs).2.1,.int .i64 (cL xs).2.2]∧qF h' h.size 1 p l c (az (cL xs).1)∧cu no h h'
end Go.Proofs.YtdhpmegbmjoekaaGreatDoor.G
