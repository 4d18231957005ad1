/- CSame CLayout, in one text. -/
import Derived.Test.YtdhpmegbmjoekaaGreatDoorGen
import Derived.Test.YtdhpmegbmjoekaaGreatDoorShL
set_option linter.unusedSimpArgs false
set_option linter.unusedVariables false
namespace Go.Proofs.YtdhpmegbmjoekaaGreatDoor.G
open Go Go.Sh
section
end
section
def CV:List Int→Int→Option (List Int×Int)
 |[],e=>some ([],e)
 |n::r,e=>if n>4096-e then none else(CV r ((e+n+3) / 4*4)).map fun x=>(e::x.1,x.2)
def fL (xs:List Int):List Int×Int×Int:=
 if ∃n∈xs,n<0 then([],0,1) else match CV xs 0 with
  |none=>([],0,17)
  |some x=>(x.1,x.2,0)
theorem PI {xs:List Int} {i:Nat} {e:Int} {a:List Int} (hi:i<xs.length) (h:CV xs 0=(CV (xs.drop i) e).map fun x=>(a++x.1,x.2)):
 (xs[i]>4096-e→CV xs 0=none)∧(¬xs[i]>4096-e→CV xs 0=(CV (xs.drop (i+1)) ((e+xs[i]+3) / 4*4)).map fun x=>((a++[e])++x.1,x.2)):=by
 rw[Vb hi] at h;simp only[CV] at h;constructor
 ·intro b;rw[if_pos b] at h;exact h
 ·intro b;rw[if_neg b] at h;rw[h];cases CV (List.drop (i+1) xs) ((e+xs[i]+3) / 4*4)<;>simp
theorem Ft {xs:List Int} {i:Nat} (hi:i<xs.length) (h:xs[i]<0):fL xs=([],0,1):=by
 unfold fL;rw[if_pos ⟨_,UU hi,h⟩]
theorem B2 {xs:List Int} (b: ∀n∈xs,0≤n) (h:CV xs 0=none):fL xs=([],0,17):=by
 unfold fL;rw[if_neg (by rintro⟨n,a,c⟩;have:=b n a;omega),h]
theorem B3 {xs:List Int} {x:List Int×Int} (b: ∀n∈xs,0≤n) (h:CV xs 0=some x):fL xs=(x.1,x.2,0):=by
 unfold fL;rw[if_neg (by rintro⟨n,a,c⟩;have:=b n a;omega),h]
theorem JZ {xs:List Int} {p:Int→Prop} (h: ∀j (a:j<xs.length),p xs[j]): ∀n∈xs,p n:=by
 intro n b;obtain⟨j,a,rfl⟩:=List.getElem_of_mem b;exact h j a
theorem J0 (a b:List Int):az a++az b=az (a++b):=by simp[az]
def Lr (xs:List Int) (h:af) (v:Value) (a:af):Prop:=
 ∃p l c,v= .tuple #[.slice p l c,.int .i64 (fL xs).2.1,.int .i64 (fL xs).2.2]∧qB a h.size 1 p l c (az (fL xs).1)∧cp no h a
theorem NL {p:Option Addr} {l c:Nat} {h:af} {xs:List Int} (E:bI h p (az xs)) (Z:xs.length=l) (U:l≤2 ^ 32) (hr: ∀n∈xs,-2 ^ 63≤n∧n<2 ^ 63):
 au P ng #[.slice p l c] h (Lr xs h):=by
 refine zB _ _ _ ?_;unfold zA;refine aP (fun m s w=>w=h∧ ∃i:Nat,s=((p,l,c),(p,l,c),(l:Int),(i:Int),())∧i≤l∧m=l-i∧ ∀j (D:j<i) (C:j<xs.length),0≤xs[j]) l ⟨rfl,0,rfl,by omega,by omega,by intro j D;omega⟩ ?_;rintro m s w ⟨rfl,i,rfl,hi,rfl,J⟩;unfold th;dsimp only;refine am (fun r=> ?_) (fun B=> ?_)
 ·have r:i<l:=by omega
  have f:i<xs.length:=by omega
  obtain⟨a,rfl⟩:=E.some_of (by rw[av];omega);refine aB rfl rfl r ?_;simp only[oe,US];refine ae (E.cell (aI (aO f))) ?_;refine am (fun v=> ?_) (fun Q=> ?_)
  ·refine⟨none,0,0,?_,?_,cp.refl _ _⟩
   ·rw[Ft f v]
   ·rw[Ft f v];exact qB.nil _ _ _
  ·rw[al (by omega)];refine⟨l-(i+1),by omega,by trivial,i+1,rfl,by omega,rfl,fun j D C=> ?_⟩;by_cases e:j=i
   ·subst e;omega
   ·exact J j (by omega) C
 ·have t: ∀n∈xs,0≤n:=JZ fun j D=>J j (by omega) D;clear J B
  refine aP (fun m s F=>cp no w F∧ ∃(i:Nat) (q:Option Addr) (k d:Nat) (e:Int) (o:List Int),s=((q,k,d),e,(p,l,c),(l:Int),(i:Int),())∧i≤l∧m=l-i∧k=i∧qB F w.size 1 q k d (az o)∧
   0≤e∧e≤4096∧CV xs 0=(CV (xs.drop i) e).map fun x=>(o++x.1,x.2)) l ⟨cp.refl _ _,0,none,0,0,0,[],rfl,by omega,by omega,rfl,qB.nil _ _ _,by omega,by omega,by simp⟩ ?_
  rintro m s F ⟨y,i,q,k,d,e,o,rfl,hi,rfl,rfl,O,V,W,g⟩;unfold qm;dsimp only;refine am (fun r=> ?_) (fun B=> ?_)
  ·have r:k<l:=by omega
   have f:k<xs.length:=by omega
   have N:=E.frame0 y;obtain⟨a,rfl⟩:=E.some_of (by rw[av];omega);refine aB rfl rfl r ?_;simp only[oe,US];refine ae (N.cell (aI (aO f))) ?_;obtain⟨R,s2⟩:=PI f g;have h0:=t _ (UU f);rw[al (n:=4096-e) (by omega)];refine am (fun u=> ?_) (fun M=> ?_)
   ·refine⟨none,0,0,?_,?_,y⟩
    ·rw[B2 t (R u)]
    ·rw[B2 t (R u)];exact qB.nil _ _ _
   ·refine OX (cs:=[.int .i64 e]) fun b h3 U X G A=> ?_;have K:=O.frame0 A;refine O0 (xs:=az o) (ys:=[.int .i64 e]) K (by have:=y.size;omega) rfl (by omega) (by omega) (bI.of_at G) rfl (by simp[lK]) ?_;intro p' l' S T I L H Y;have z:cp no w T:=(y.trans A).own H (U3 _);rw[al (n:=e+_) (by omega),al (n:=_+4) (by omega),al (n:=_-1) (by omega),WN (by omega),al (n:=_ / 4) (by omega),al (n:=_*4) (by omega),al (n:=(k:Int)+1) (by omega)];refine⟨l-(k+1),by omega,z,k+1,p',l',S,(e+xs[k]+3) / 4*4,o++[e],?_,by omega,rfl,I,?_,by omega,by omega,s2 M⟩
    ·rw[show e+xs[k]+4-1=e+xs[k]+3 by omega];rfl
    ·rw[←J0];exact L
  ·have:k=l:=by omega
   rw[Vq (by omega)] at g;simp only[CV,Option.map_some,Vh] at g;refine⟨q,k,d,?_,?_,y⟩
   ·rw[B3 t g]
   ·rw[B3 t g];exact O
end
end Go.Proofs.YtdhpmegbmjoekaaGreatDoor.G

