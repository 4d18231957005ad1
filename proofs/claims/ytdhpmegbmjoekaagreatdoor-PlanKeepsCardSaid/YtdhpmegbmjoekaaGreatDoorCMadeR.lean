/- CBuilt CMade5 CLivP CMade21 CRight CMadeR, in one text. -/
import Derived.Test.YtdhpmegbmjoekaaGreatDoorCMade4
import Derived.Test.YtdhpmegbmjoekaaGreatDoorCFused
import Derived.Test.YtdhpmegbmjoekaaGreatDoorShRg
import Derived.Test.YtdhpmegbmjoekaaGreatDoorCFuse2
import Derived.Test.YtdhpmegbmjoekaaGreatDoorCLv4
set_option linter.unusedVariables false
set_option linter.unusedSimpArgs false
namespace Go.Proofs.YtdhpmegbmjoekaaGreatDoor.G
open Go Go.Sh
section
def at_ (xs:List Int) (x:Int):Int:=xs.getD x.toNat 0
theorem ie {n:Nd} {ws:List Int} (d:ws.length=n.inn.length) (e:bv 1 16 ws) (f:dF n.kind 1 12) (g:cJ n.kind→2≤ws.length∧ws.length≤4) (i: ¬cJ n.kind→ws.length=1) (j:n.post=0) (k:n.else0) (m:n.sized (ws.getD 0 0))
 (a:n.kind=7→ ∀x∈ws,x=ws.getD 0 0) (b:n.kind=8→hG ws≤16):n.chk ws=0:=by
 unfold Nd.chk;rw[if_neg (by rintro(h|h);exact h d;exact h e),if_neg,if_neg (fun h=>h m),if_neg (fun h=>h.2 (a h.1)),if_neg (fun h=>by have:=b h.1;omega)];rintro(h|h|h|h|h|h)
 ·exact h f
 ·exact h.2 (g h.1)
 ·exact h.2 (i h.1)
 ·omega
 ·exact h.1 j
 ·exact h k
theorem mM {lo hi b a:Int} {xs:List Int} (h:bv lo hi xs) (e:b≤lo) (f:hi≤a):bv b a xs:=fun x d=>by have:=h x d;omega
theorem ES {ins ws:List Int} {st:Bool} {n:Nd} (g:GoodN ins ws st n) (y:ws.length=ins.length) (M:ins.length=1∨ins.length=2) (x:bv 1 16 ws):
 n.chk (ws.take n.inn.length)=0∧dF (n.wid (ws.take n.inn.length)) 1 16:=by
 have D: ∃w r,ws=w::r:=by
  cases ws with
  |nil=>simp at y;omega
  |cons w r=>exact⟨w,r,rfl⟩
 obtain⟨w,r,rfl⟩:=D;have o:1≤w∧w≤16:=x w (by simp);have f: ∀k,(ins.take 1).length=k→(w::r).take k=[w]:=fun k K=>by
  have:k=1:=by rw[←K,U0];simp at y;omega
  rw[this];rfl
 have e:(ins.take 1).length=1:=by rw[U0];omega
 have d:bv 1 16 [w]:=by rw[dj];exact⟨o,dO _ _⟩
 have a: ∀{n:Nd} {u:List Int},n.chk u=0→n.wid u=if wide n.kind then n.width else if n.kind=11 then 1 else if n.kind≠8 then u.getD 0 0 else hG u:=fun{n u} h=>by unfold Nd.wid;rw[if_neg (by omega)]
 have z:(w::r).getD 0 0=w:=rfl;have N:[w].getD 0 0=w:=rfl;cases g with
 |add st A v=>
  have B:(w::r).take ins.length=w::r:=N6 (by omega);have b:Nd.chk ⟨7,ins,0,0,0,0,0,0,[],[],0,0,0,0,0⟩ (w::r)=0:=by
   refine ie y x (by show dF 7 1 12;omega) (fun _=>by omega) (fun h=>absurd (.inl rfl) h) rfl ⟨fun _=>⟨rfl,rfl,rfl,rfl⟩,fun _=>rfl,fun _=>rfl,fun _=>⟨rfl,rfl⟩,.inr ⟨rfl,rfl⟩,.inr ⟨rfl,rfl⟩⟩
    ⟨fun h=>absurd h (by first|(dsimp only;decide)|decide|dsimp only),fun h=>absurd h (by first|(dsimp only;decide)|decide|dsimp only),fun h=>absurd h (by first|(dsimp only;decide)|decide|dsimp only),fun h=>absurd h (by first|(dsimp only;decide)|decide|dsimp only),by first|(dsimp only;decide)|decide|dsimp only⟩ (fun _=>v) (fun h=>absurd h (by first|(dsimp only;decide)|decide|dsimp only))
  rw[B];refine⟨b,?_⟩;rw[a b,if_neg (by first|(dsimp only;decide)|decide|dsimp only),if_neg (by first|(dsimp only;decide)|decide|dsimp only),if_pos (by first|(dsimp only;decide)|decide|dsimp only)];exact o
 |join st A m=>
  have B:(w::r).take ins.length=w::r:=N6 (by omega);have b:Nd.chk ⟨8,ins,0,0,0,0,0,0,[],[],0,0,0,0,0⟩ (w::r)=0:=by
   refine ie y x (by show dF 8 1 12;omega) (fun _=>by omega) (fun h=>absurd (.inr rfl) h) rfl ⟨fun _=>⟨rfl,rfl,rfl,rfl⟩,fun _=>rfl,fun _=>rfl,fun _=>⟨rfl,rfl⟩,.inr ⟨rfl,rfl⟩,.inr ⟨rfl,rfl⟩⟩
    ⟨fun h=>absurd h (by first|(dsimp only;decide)|decide|dsimp only),fun h=>absurd h (by first|(dsimp only;decide)|decide|dsimp only),fun h=>absurd h (by first|(dsimp only;decide)|decide|dsimp only),fun h=>absurd h (by first|(dsimp only;decide)|decide|dsimp only),by first|(dsimp only;decide)|decide|dsimp only⟩ (fun h=>absurd h (by first|(dsimp only;decide)|decide|dsimp only)) (fun _=>m)
  rw[B];refine⟨b,?_⟩;rw[a b,if_neg (by first|(dsimp only;decide)|decide|dsimp only),if_neg (by first|(dsimp only;decide)|decide|dsimp only),if_neg (by first|(dsimp only;decide)|decide|dsimp only)];rw[dj] at x;have:=jK x.2;simp only[hG] at m ⊢;omega
 |conv width size step gap left right ww bb i C j q s t=>
  obtain⟨E,F,G,H,I⟩:=i;rw[z] at j;have b:Nd.chk ⟨1,ins.take 1,width,size,step,gap,left,right,ww,bb,0,0,0,0,0⟩ [w]=0:=by
   refine ie e.symm d (by show dF 1 1 12;omega) (fun h=>absurd h (by first|(dsimp only;decide)|decide|dsimp only)) (fun h=>rfl) rfl ⟨fun h=>absurd (.inl rfl) h,fun h=>absurd (.inl rfl) h.1,fun h=>absurd (.inl rfl) h,fun h=>absurd (.inl rfl) h,.inr ⟨rfl,rfl⟩,.inr ⟨rfl,rfl⟩⟩
    ⟨fun _=>by show dF size 1 8;omega,fun _=>⟨by show dF step 1 4;omega,by show dF gap 1 4;omega,?_,?_⟩,fun _=>by show dF width 1 16;omega,fun _=>⟨j,q,mM s (by first|(dsimp only;decide)|decide|dsimp only) (by first|(dsimp only;decide)|decide|dsimp only),mM t (by first|(dsimp only;decide)|decide|dsimp only) (by first|(dsimp only;decide)|decide|dsimp only)⟩,by first|(dsimp only;decide)|decide|dsimp only⟩ (fun h=>absurd h (by first|(dsimp only;decide)|decide|dsimp only)) (fun h=>absurd h (by first|(dsimp only;decide)|decide|dsimp only))
   ·show 0≤left∧left<(size-1)*gap+1;omega
   ·show 0≤right∧right<(size-1)*gap+1;omega
  rw[f _ rfl];refine⟨b,?_⟩;rw[a b,if_pos (by first|(dsimp only;decide)|decide|dsimp only)];show dF width 1 16;omega
 |depth size step gap left right ww bb i j q s t=>
  obtain⟨E,F,G,H,I⟩:=i;rw[z] at j q;have b:Nd.chk ⟨2,ins.take 1,0,size,step,gap,left,right,ww,bb,0,0,0,0,0⟩ [w]=0:=by
   refine ie e.symm d (by show dF 2 1 12;omega) (fun h=>absurd h (by first|(dsimp only;decide)|decide|dsimp only)) (fun h=>rfl) rfl ⟨fun h=>absurd (.inr (.inl rfl)) h,fun h=>absurd (.inr (.inl rfl)) h.1,fun h=>rfl,fun h=>absurd (.inr (.inl rfl)) h,.inr ⟨rfl,rfl⟩,.inr ⟨rfl,rfl⟩⟩
    ⟨fun _=>by show dF size 1 8;omega,fun _=>⟨by show dF step 1 4;omega,by show dF gap 1 4;omega,?_,?_⟩,fun h=>absurd h (by first|(dsimp only;decide)|decide|dsimp only),fun _=>⟨?_,q,mM s (by first|(dsimp only;decide)|decide|dsimp only) (by first|(dsimp only;decide)|decide|dsimp only),mM t (by first|(dsimp only;decide)|decide|dsimp only) (by first|(dsimp only;decide)|decide|dsimp only)⟩,by first|(dsimp only;decide)|decide|dsimp only⟩ (fun h=>absurd h (by first|(dsimp only;decide)|decide|dsimp only)) (fun h=>absurd h (by first|(dsimp only;decide)|decide|dsimp only))
   ·show 0≤left∧left<(size-1)*gap+1;omega
   ·show 0≤right∧right<(size-1)*gap+1;omega
   ·show(ww.length:Int)=w*size;rw[j,W0]
  rw[f _ rfl];refine⟨b,?_⟩;rw[a b,if_neg (by first|(dsimp only;decide)|decide|dsimp only),if_neg (by first|(dsimp only;decide)|decide|dsimp only),if_pos (by first|(dsimp only;decide)|decide|dsimp only)];exact o
 |pool k size step gap left right K i=>
  obtain⟨E,F,G,H,I⟩:=i;have b:Nd.chk ⟨k,ins.take 1,0,size,step,gap,left,right,[],[],0,0,0,0,0⟩ [w]=0:=by
   refine ie e.symm d (by show dF k 1 12;omega) (fun h=>absurd h (by show ¬cJ k;omega)) (fun h=>rfl) rfl ⟨fun h=>absurd (by show dA k;omega) h,fun h=>absurd (by show dA k;omega) h.1,fun h=>rfl,fun h=>⟨rfl,rfl⟩,.inr ⟨rfl,rfl⟩,.inr ⟨rfl,rfl⟩⟩
    ⟨fun _=>by show dF size 1 8;omega,fun _=>⟨by show dF step 1 4;omega,by show dF gap 1 4;omega,?_,?_⟩,fun h=>absurd h (by show ¬wide k;omega),fun h=>absurd h (by show ¬gY k;omega),by first|(dsimp only;decide)|decide|dsimp only⟩ (fun h=>absurd h (by show ¬k=7;omega)) (fun h=>absurd h (by show ¬k=8;omega))
   ·have:Nd.span ⟨k,ins.take 1,0,size,step,gap,left,right,[],[],0,0,0,0,0⟩=(size-1)*gap+1:=by
     show Bn k size gap=_;unfold Bn;rw[if_neg (by omega),if_pos (by omega)]
    rw[this];show 0≤left∧left<(size-1)*gap+1;omega
   ·have:Nd.span ⟨k,ins.take 1,0,size,step,gap,left,right,[],[],0,0,0,0,0⟩=(size-1)*gap+1:=by
     show Bn k size gap=_;unfold Bn;rw[if_neg (by omega),if_pos (by omega)]
    rw[this];show 0≤right∧right<(size-1)*gap+1;omega
  rw[f _ rfl];refine⟨b,?_⟩;rw[a b,if_neg (by show ¬wide k;omega),if_neg (by show ¬k=11;omega),if_pos (by show k≠8;omega)];exact o
 |smooth size O=>
  have b:Nd.chk ⟨12,ins.take 1,0,size,0,0,0,0,[],[],0,0,0,0,0⟩ [w]=0:=by
   refine ie e.symm d (by show dF 12 1 12;omega) (fun h=>absurd h (by first|(dsimp only;decide)|decide|dsimp only)) (fun h=>rfl) rfl ⟨fun h=>⟨rfl,rfl,rfl,rfl⟩,fun h=>absurd rfl h.2,fun h=>rfl,fun h=>⟨rfl,rfl⟩,.inr ⟨rfl,rfl⟩,.inr ⟨rfl,rfl⟩⟩
    ⟨fun _=>by show dF size 1 8;omega,fun h=>absurd h (by first|(dsimp only;decide)|decide|dsimp only),fun h=>absurd h (by first|(dsimp only;decide)|decide|dsimp only),fun h=>absurd h (by first|(dsimp only;decide)|decide|dsimp only),by first|(dsimp only;decide)|decide|dsimp only⟩ (fun h=>absurd h (by first|(dsimp only;decide)|decide|dsimp only)) (fun h=>absurd h (by first|(dsimp only;decide)|decide|dsimp only))
  rw[f _ rfl];refine⟨b,?_⟩;rw[a b,if_neg (by first|(dsimp only;decide)|decide|dsimp only),if_neg (by first|(dsimp only;decide)|decide|dsimp only),if_pos (by first|(dsimp only;decide)|decide|dsimp only)];exact o
 |whole=>
  have b:Nd.chk ⟨5,ins.take 1,0,0,0,0,0,0,[],[],0,0,0,0,0⟩ [w]=0:=by
   refine ie e.symm d (by show dF 5 1 12;omega) (fun h=>absurd h (by first|(dsimp only;decide)|decide|dsimp only)) (fun h=>rfl) rfl ⟨fun h=>⟨rfl,rfl,rfl,rfl⟩,fun h=>rfl,fun h=>rfl,fun h=>⟨rfl,rfl⟩,.inr ⟨rfl,rfl⟩,.inr ⟨rfl,rfl⟩⟩
    ⟨fun h=>absurd h (by first|(dsimp only;decide)|decide|dsimp only),fun h=>absurd h (by first|(dsimp only;decide)|decide|dsimp only),fun h=>absurd h (by first|(dsimp only;decide)|decide|dsimp only),fun h=>absurd h (by first|(dsimp only;decide)|decide|dsimp only),by first|(dsimp only;decide)|decide|dsimp only⟩ (fun h=>absurd h (by first|(dsimp only;decide)|decide|dsimp only)) (fun h=>absurd h (by first|(dsimp only;decide)|decide|dsimp only))
  rw[f _ rfl];refine⟨b,?_⟩;rw[a b,if_neg (by first|(dsimp only;decide)|decide|dsimp only),if_neg (by first|(dsimp only;decide)|decide|dsimp only),if_pos (by first|(dsimp only;decide)|decide|dsimp only)];exact o
 |dense st width ww bb C j q s t=>
  rw[z] at j;have b:Nd.chk ⟨6,ins.take 1,width,0,0,0,0,0,ww,bb,0,0,0,0,0⟩ [w]=0:=by
   refine ie e.symm d (by show dF 6 1 12;omega) (fun h=>absurd h (by first|(dsimp only;decide)|decide|dsimp only)) (fun h=>rfl) rfl ⟨fun h=>⟨rfl,rfl,rfl,rfl⟩,fun h=>rfl,fun h=>absurd (.inr rfl) h,fun h=>absurd (.inr (.inr rfl)) h,.inr ⟨rfl,rfl⟩,.inr ⟨rfl,rfl⟩⟩
    ⟨fun h=>absurd h (by first|(dsimp only;decide)|decide|dsimp only),fun h=>absurd h (by first|(dsimp only;decide)|decide|dsimp only),fun _=>by show dF width 1 16;omega,fun _=>⟨j,q,mM s (by first|(dsimp only;decide)|decide|dsimp only) (by first|(dsimp only;decide)|decide|dsimp only),mM t (by first|(dsimp only;decide)|decide|dsimp only) (by first|(dsimp only;decide)|decide|dsimp only)⟩,by first|(dsimp only;decide)|decide|dsimp only⟩ (fun h=>absurd h (by first|(dsimp only;decide)|decide|dsimp only)) (fun h=>absurd h (by first|(dsimp only;decide)|decide|dsimp only))
  rw[f _ rfl];refine⟨b,?_⟩;rw[a b,if_pos (by first|(dsimp only;decide)|decide|dsimp only)];show dF width 1 16;omega
 |clamp st low high J A=>
  have b:Nd.chk ⟨9,ins.take 1,0,0,0,0,0,0,[],[],0,0,low,high,0⟩ [w]=0:=by
   refine ie e.symm d (by show dF 9 1 12;omega) (fun h=>absurd h (by first|(dsimp only;decide)|decide|dsimp only)) (fun h=>rfl) rfl ⟨fun h=>⟨rfl,rfl,rfl,rfl⟩,fun h=>rfl,fun h=>rfl,fun h=>⟨rfl,rfl⟩,.inr ⟨rfl,rfl⟩,.inl (.inl rfl)⟩
    ⟨fun h=>absurd h (by first|(dsimp only;decide)|decide|dsimp only),fun h=>absurd h (by first|(dsimp only;decide)|decide|dsimp only),fun h=>absurd h (by first|(dsimp only;decide)|decide|dsimp only),fun h=>absurd h (by first|(dsimp only;decide)|decide|dsimp only),by first|(dsimp only;decide)|decide|dsimp only,by first|(dsimp only;decide)|decide|dsimp only,?_,?_,?_⟩ (fun h=>absurd h (by first|(dsimp only;decide)|decide|dsimp only)) (fun h=>absurd h (by first|(dsimp only;decide)|decide|dsimp only))
   ·show-2147483648≤low∧low≤2147483647;omega
   ·show-2147483648≤high∧high≤2147483647;omega
   ·show low≤high;omega
  rw[f _ rfl];refine⟨b,?_⟩;rw[a b,if_neg (by first|(dsimp only;decide)|decide|dsimp only),if_neg (by first|(dsimp only;decide)|decide|dsimp only),if_pos (by first|(dsimp only;decide)|decide|dsimp only)];exact o
 |scale st mult shift J A=>
  have b:Nd.chk ⟨10,ins.take 1,0,0,0,0,0,0,[],[],mult,shift,0,0,0⟩ [w]=0:=by
   refine ie e.symm d (by show dF 10 1 12;omega) (fun h=>absurd h (by first|(dsimp only;decide)|decide|dsimp only)) (fun h=>rfl) rfl ⟨fun h=>⟨rfl,rfl,rfl,rfl⟩,fun h=>rfl,fun h=>rfl,fun h=>⟨rfl,rfl⟩,.inl (.inl rfl),.inr ⟨rfl,rfl⟩⟩
    ⟨fun h=>absurd h (by first|(dsimp only;decide)|decide|dsimp only),fun h=>absurd h (by first|(dsimp only;decide)|decide|dsimp only),fun h=>absurd h (by first|(dsimp only;decide)|decide|dsimp only),fun h=>absurd h (by first|(dsimp only;decide)|decide|dsimp only),?_,?_,by first|(dsimp only;decide)|decide|dsimp only,by first|(dsimp only;decide)|decide|dsimp only,by first|(dsimp only;decide)|decide|dsimp only⟩ (fun h=>absurd h (by first|(dsimp only;decide)|decide|dsimp only)) (fun h=>absurd h (by first|(dsimp only;decide)|decide|dsimp only))
   ·exact J
   ·show 0≤shift∧shift≤30;omega
  rw[f _ rfl];refine⟨b,?_⟩;rw[a b,if_neg (by first|(dsimp only;decide)|decide|dsimp only),if_neg (by first|(dsimp only;decide)|decide|dsimp only),if_pos (by first|(dsimp only;decide)|decide|dsimp only)];exact o
 |best st=>
  have b:Nd.chk ⟨11,ins.take 1,0,0,0,0,0,0,[],[],0,0,0,0,0⟩ [w]=0:=by
   refine ie e.symm d (by show dF 11 1 12;omega) (fun h=>absurd h (by first|(dsimp only;decide)|decide|dsimp only)) (fun h=>rfl) rfl ⟨fun h=>⟨rfl,rfl,rfl,rfl⟩,fun h=>rfl,fun h=>rfl,fun h=>⟨rfl,rfl⟩,.inr ⟨rfl,rfl⟩,.inr ⟨rfl,rfl⟩⟩
    ⟨fun h=>absurd h (by first|(dsimp only;decide)|decide|dsimp only),fun h=>absurd h (by first|(dsimp only;decide)|decide|dsimp only),fun h=>absurd h (by first|(dsimp only;decide)|decide|dsimp only),fun h=>absurd h (by first|(dsimp only;decide)|decide|dsimp only),by first|(dsimp only;decide)|decide|dsimp only⟩ (fun h=>absurd h (by first|(dsimp only;decide)|decide|dsimp only)) (fun h=>absurd h (by first|(dsimp only;decide)|decide|dsimp only))
  rw[f _ rfl];refine⟨b,?_⟩;rw[a b,if_neg (by first|(dsimp only;decide)|decide|dsimp only),if_pos (by first|(dsimp only;decide)|decide|dsimp only)];decide
theorem G0 {ins ws:List Int} {ρ:Int} {n:Nd} (g:GoodN ins ws (decide (ρ=0)) n) (h0:0≤ρ):0≤bY n [ρ]∧bY n [ρ]≤3*ρ:=by
 have e:bY n [ρ]=if ρ=0∧(dW n.kind∨n.kind=5) then-1 else if n.kind=5 then 0 else ρ*cE n.kind n.step:=by
  unfold bY;have:[ρ].getD 0 0=ρ:=rfl;rw[this,if_neg (by simp)]
 rw[e];have key:(dA n.kind→ρ≠0∧1≤n.step∧n.step≤3)→(n.kind=12∨n.kind=5→ρ≠0)→0≤(if ρ=0∧(dW n.kind∨n.kind=5) then-1 else if n.kind=5 then 0 else ρ*cE n.kind n.step)∧(if ρ=0∧(dW n.kind∨n.kind=5) then-1 else if n.kind=5 then 0 else ρ*cE n.kind n.step)≤3*ρ:=by
  intro j m;rw[if_neg (by rintro⟨a,(b|b)|b⟩;exact(j b).1 a;exact m (.inl b) a;exact m (.inr b) a)];split
  ·omega
  ·unfold cE;split
   ·rename_i q;obtain⟨_,s,o⟩:=j q;refine⟨Vw h0 (by omega),?_⟩;have:=Int.mul_le_mul_of_nonneg_left o h0;omega
   ·omega
 generalize i:decide (ρ=0)=st at g;have d:st=false→ρ≠0:=fun h=>by rw[h] at i;simpa using i
 cases g with
 |conv width size step gap left right ww bb f=>exact key (fun _=>⟨d rfl,f.2.1⟩) (fun _=>d rfl)
 |depth size step gap left right ww bb f=>exact key (fun _=>⟨d rfl,f.2.1⟩) (fun _=>d rfl)
 |pool k size step gap left right t f=>exact key (fun _=>⟨d rfl,f.2.1⟩) (fun _=>d rfl)
 |smooth size u=>exact key (fun h=>absurd h (by first|(dsimp only;decide)|decide|dsimp only)) (fun _=>d rfl)
 |whole=>exact key (fun h=>absurd h (by first|(dsimp only;decide)|decide|dsimp only)) (fun _=>d rfl)
 |add=>exact key (fun h=>absurd h (by first|(dsimp only;decide)|decide|dsimp only)) (fun h=>absurd h (by first|(dsimp only;decide)|decide|dsimp only))
 |join=>exact key (fun h=>absurd h (by first|(dsimp only;decide)|decide|dsimp only)) (fun h=>absurd h (by first|(dsimp only;decide)|decide|dsimp only))
 |dense=>exact key (fun h=>absurd h (by first|(dsimp only;decide)|decide|dsimp only)) (fun h=>absurd h (by first|(dsimp only;decide)|decide|dsimp only))
 |clamp=>exact key (fun h=>absurd h (by first|(dsimp only;decide)|decide|dsimp only)) (fun h=>absurd h (by first|(dsimp only;decide)|decide|dsimp only))
 |scale=>exact key (fun h=>absurd h (by first|(dsimp only;decide)|decide|dsimp only)) (fun h=>absurd h (by first|(dsimp only;decide)|decide|dsimp only))
 |best=>exact key (fun h=>absurd h (by first|(dsimp only;decide)|decide|dsimp only)) (fun h=>absurd h (by first|(dsimp only;decide)|decide|dsimp only))
def Tb (ws rs:List Int) (n:Nd) (b a:Int):Prop:=
 ∃ins:List Int,(ins.length=1∨ins.length=2)∧(∀x∈ins,0≤x∧x<ws.length)∧(∀x∈ins,at_ rs x=at_ rs (ins.getD 0 0))∧GoodN ins (ins.map (at_ ws)) (decide (at_ rs (ins.getD 0 0)=0)) n∧
  b=n.wid ((ins.map (at_ ws)).take n.inn.length)∧a=bY n [at_ rs (ins.getD 0 0)]
inductive mn (w0:Int):List Nd→List Int→List Int→Prop
 |nil:mn w0 [] [w0] [1]
 |snoc (ns:List Nd) (ws rs:List Int) (n:Nd) (w' r':Int):mn w0 ns ws rs→Tb ws rs n w' r'→mn w0 (ns++[n]) (ws++[w']) (rs++[r'])
theorem KW {xs:List Int} {x:Int} (h0:0≤x) (a:x<xs.length):at_ xs x∈xs:=by
 unfold at_;rw[cH (by omega)];exact UU _
theorem mn.len {w0:Int} {ns:List Nd} {ws rs:List Int} (b:mn w0 ns ws rs):ws.length=ns.length+1∧rs.length=ns.length+1:=by
 induction b with
 |nil=>exact⟨rfl,rfl⟩
 |snoc ns ws rs n e d b st a=>simp;omega
theorem ET {ws:List Int} {ins:List Int} (hi: ∀x∈ins,0≤x∧x<(ws.length:Int)) (b:bv 1 16 ws):bv 1 16 (ins.map (at_ ws)):=fun y d=>by
 obtain⟨x,a,rfl⟩:=U5.1 d;exact b _ (KW (hi x a).1 (hi x a).2)
theorem mn.range {w0:Int} (h0:dF w0 1 16) {ns:List Nd} {ws rs:List Int} (b:mn w0 ns ws rs):bv 1 16 ws∧bv 0 (3 ^ ns.length) rs:=by
 induction b with
 |nil=>exact⟨by rw[dj];exact⟨h0,dO _ _⟩,by rw[dj];exact⟨by decide,dO _ _⟩⟩
 |snoc ns ws rs n z y b st v=>
  obtain⟨e,f⟩:=v;have q:=b.len;obtain⟨ins,g,hi,w,o,rfl,rfl⟩:=st;have i:=ES o (by simp) g (ET hi e);have d:ins.getD 0 0∈ins:=by rw[cH (by omega)];exact UU _
  have j:=hi _ d;have k:=f _ (KW (xs:=rs) j.1 (by omega));have s:=G0 o k.1;have t:(3:Int) ^ (ns.length+1)=3 ^ ns.length*3:=Ww 3 ns.length;have u:(1:Int)≤3 ^ ns.length:=by
   have:=WQ (n:=3) (m:=ns.length) (by decide);omega
  refine⟨fun x a=> ?_,fun x a=> ?_⟩
  ·rcases UX.1 a with a|a
   ·exact e x a
   ·simp only[SH] at a;subst a;exact i.2
  ·rw[Rb,Wo,t];rcases UX.1 a with a|a
   ·have:=f x a;omega
   ·simp only[SH] at a;subst a;omega
def EU (g:Gr):Prop:=
 ∃(ns:List Nd) (ws rs:List Int) (out:Int),dF g.width 1 3∧dF g.low (-199) 0∧dF g.high 0 199∧1≤ns.length∧ns.length≤6∧mn g.width ns ws rs∧dF out 1 ns.length∧
  (g=⟨g.width,g.low,g.high,ns,out⟩∨g=(⟨g.width,g.low,g.high,ns,out⟩:Gr).turned)
end
section
theorem zS {ins ws:List Int} {st:Bool} {n:Nd} (g:GoodN ins ws st n):n.inn=ins∨n.inn=ins.take 1:=by
 cases g<;>first|exact .inl rfl|exact .inr rfl
theorem rX {ins ws:List Int} {st:Bool} {n:Nd} (g:GoodN ins ws st n) {x:Int} (a:x∈n.inn):x∈ins:=by
 rcases zS g with h|h
 ·rw[h] at a;exact a
 ·rw[h] at a;exact VX a
theorem mn.inn {w0:Int} {ns:List Nd} {ws rs:List Int} (b:mn w0 ns ws rs): ∀n∈ns,∀x∈n.inn,0≤x∧x≤(ns.length:Int):=by
 induction b with
 |nil=>intro n g;cases g
 |snoc ns ws rs n k j b st i=>
  intro m a x d;rw[Rb,Wo];rcases UX.1 a with a|a
  ·have:=i m a x d;omega
  ·simp only[SH] at a;subst a;obtain⟨ins,e,hi,_,f,_⟩:=st;have:=hi x (rX f d);have:=b.len.1;omega
def Jq (h:af) (v:Value) (b:af):Prop:=
 ∃a:Gv,v=a.v∧a.ok∧EU a.gr∧(∀n∈a.ns,n.inn.l≤2 ^ 20∧n.weights.l≤2 ^ 20∧n.bias.l≤2 ^ 20)∧aJ h no b [own 15 a.p a.l a.c (aF a.ns),aU a.ns] []
structure Jr where
 a:Nat
 q:Option Addr
 k:Nat
 d:Nat
 ns:List Nv
 wp:Option Addr
 wl:Nat
 wc:Nat
 ws:List Int
 rp:Option Addr
 rl:Nat
 rc:Nat
 rs:List Int
section
variable {h:af} {r gb t2 l c:Nat} {p:Option Addr} {L:List Int} {w0 lo hi out:Int}
abbrev Jr.fs (r gb t2:Nat) (p:Option Addr) (l c:Nat) (w0 lo hi out:Int) (m:Jr):List aY:=
 [tq r p l c m.a,blk gb (⟨w0,lo,hi,m.q,m.k,m.d,out,[]⟩:Gv).cells,own 15 m.q m.k m.d (aF m.ns),aU m.ns,own 1 m.wp m.wl m.wc (az m.ws),own 1 m.rp m.rl m.rc (az m.rs),blk t2 (aL bT (zT bT))]
def Jr.ok (l:Nat) (w0:Int) (m:Jr):Prop:=
 m.a≤l∧m.ns.length=m.k∧m.ws.length=m.wl∧m.rs.length=m.rl∧mn w0 (m.ns.map Nv.nd) m.ws m.rs∧ ∀n∈m.ns,n.ok∧n.inn.l≤2 ^ 20∧n.weights.l≤2 ^ 20∧n.bias.l≤2 ^ 20
theorem Jr.len {m:Jr} (ok:m.ok l w0):m.wl=m.k+1∧m.rl=m.k+1:=by
 obtain⟨_,b,d,e,a,_⟩:=ok;have:=a.len;rw[UT] at this;omega
theorem mN (A:List Nv) (n:Nv):aU (A++[n])=bP (A.map Nv.rows++[n.rows]):=by unfold aU;rw[U4];rfl
set_option maxHeartbeats 2000000 in
theorem O5 {g:af} {m:Jr} {ip o:Option Addr} {il ic z u cJ a:Nat} {C:Bool} {ins:List Int}
 (ok:m.ok l w0) (bq:dF w0 1 3) (hk:m.k<6) (hL:L.length=l) (hl:l<2 ^ 62)
 {K:((Addr×Addr×Addr×Bool×Int×(Option Addr×Nat×Nat)×(Option Addr×Nat×Nat)×Int×Unit))→af→Prop} {Q:Value→af→Prop}
 (S:aJ h no g ([tq r p l c m.a,blk gb (⟨w0,lo,hi,m.q,m.k,m.d,out,[]⟩:Gv).cells,own 15 m.q m.k m.d (aF m.ns),aU m.ns,own 1 m.wp m.wl m.wc (az m.ws),own 1 m.rp m.rl m.rc (az m.rs),blk t2 (aL bT (zT bT)),own 1 ip il ic (az ins),own 1 o z u (az (ins.map (at_ m.ws)))]) [row p (az L)])
 (U:ins.length=1∨ins.length=2) (v: ∀x∈ins,0≤x∧x<(m.ws.length:Int)) (a1: ∀x∈ins,at_ m.rs x=at_ m.rs (ins.getD 0 0)) (ha:ins.getD 0 0=(a:Int))
 (H: ∀(g:af) (m':Jr),m'.ok l w0→m'.k=m.k+1→aJ h no g (m'.fs r gb t2 p l c w0 lo hi out) [row p (az L)]→K (⟨t2,0,none⟩,⟨r,0,none⟩,⟨gb,0,none⟩,C,(cJ:Int),(m'.wp,m'.wl,m'.wc),(m'.rp,m'.rl,m'.rc),((m.k+2:Nat):Int),()) g):
 m6 Q K ⟨t2,0,none⟩ ⟨r,0,none⟩ ⟨gb,0,none⟩ C (cJ:Int) m.wp m.wl m.wc m.rp m.rl m.rc ((m.k+1:Nat):Int) (a:Int) ip il ic o z u g:=by
 unfold m6;obtain⟨ax,bn,br,bp,hb,ay⟩:=ok;have X:=hb.len;rw[UT] at X;have s:=hb.range (by omega);have V:(a:Int)∈ins:=by rw[←ha,cH (by omega)];exact UU _
 have bl:=v _ V;have E:a<m.rs.length:=by omega
 have P:at_ m.rs (a:Int)=m.rs[a]:=by unfold at_;rw[oe];exact cH E
 have bs:=s.2 m.rs[a] (UU _);have a6:(3:Int) ^ (m.ns.map Nv.nd).length≤243:=by
  rw[UT];have:(3:Nat) ^ m.ns.length≤3 ^ 5:=VT (by decide) (by omega);have h2:=Int.ofNat_le.2 this;rw[V6,V6] at h2;exact Int.le_trans h2 (by decide)
 have b:=(S.own 5 rfl).row;obtain⟨ar,B⟩:=b.some_of (by rw[av];omega);rw[B] at b;refine aB B rfl (by omega) ?_;simp only[oe,US];refine ae (b.cell (aI (aO E))) ?_;have ap:=(jl (i:=7) S rfl).1;have y:=(jl (i:=8) S rfl).1;dsimp only at ap y;have a8:z≤u:=(S.own 8 rfl).2.1;have a4:z=ins.length:=by rw[←y];simp
 have D:bv 1 16 (ins.map (at_ m.ws)):=ET v s.1;refine(Pb (still:=(m.rs[a]==0)) ((S.into [0,7] [8] [0]).rowO 0) 1 0 rfl hL ax hl rfl y (by omega) (by omega) D).mono ?_;rintro _ g2 ⟨nv,a',rfl,J,n1,n2,n3,j,an,S1⟩;replace S:=S.back [0,7] S1;dsimp only[bE,List.set] at S;refine iU nv.t ⟨rfl,?_⟩;refine aA S fun aj h1 _ S=> ?_;refine cA S 9 rfl rfl (bu rfl) fun h2 _ S=> ?_;dsimp only[List.set,Xi,Xj] at S;refine ak (p:=m.q) (l:=m.k) (c:=m.d) (S.cell 1 rfl rfl) ?_;refine aN S 9 rfl (x:=nv.t) rfl ?_;refine aA S fun ba h3 _ S=> ?_;dsimp only[List.set,Xi,Xj] at S;refine cK S 2 (ys:=nv.cells) rfl rfl (by decide) (by omega) (bI.of_at (S.at 10 rfl)) rfl (bu rfl) fun Y N O h4 bm S=> ?_;dsimp only[List.set] at S;refine aE S 1 rfl (k:=3) (jb rfl) fun h5 _ S=> ?_;dsimp only[List.set] at S;have S2:aJ h no h5 [tq r p l c a',blk gb (⟨w0,lo,hi,Y,N,O,out,[]⟩:Gv).cells,own 15 Y N O (aF m.ns++nv.cells),aU m.ns,own 1 m.wp m.wl m.wc (az m.ws),own 1 m.rp m.rl m.rc (az m.rs),blk t2 (aL bT (zT bT)),nv.rows,own 1 o z u (az (ins.map (at_ m.ws))),blk aj nv.cells] [row p (az L)]:=S.pw [0,1,2,3,4,5,6,7,8,9];clear S;have S:=S2;clear S2;refine aN S 9 rfl (x:=nv.t) rfl ?_;refine ak (p:=nv.inn.p) (l:=nv.inn.l) (c:=nv.inn.c) (S.cell 9 rfl rfl) ?_;have a5:nv.inn.l=nv.nd.inn.length:=J.1.1.symm;have aw:nv.nd.inn.length≤ins.length:=by
  rcases zS j with e|e<;>rw[e]
  ·exact U3 _
  ·rw[U0];omega
 refine ko (n:=nv.inn.l) rfl (by omega) ?_;rw[show(if u=0 then o else Option.map (fun a=>Addr.add a 0) o)=o from TE u 1 o];have I:bI h5 o (az ((ins.map (at_ m.ws)).take nv.nd.inn.length)):=by rw[←vL];exact(S.own 8 rfl).row.take _
 refine(Dk J (S.w 7 _ rfl) (by omega) (by omega) (by omega) I (by rw[U0,UT];omega) (by omega)).mono ?_;rintro _ g6 ⟨rfl,F⟩;refine⟨_,rfl,?_⟩;replace S:=S.fra0 F;have ao:=ES j (by simp) U D;generalize a3:nv.nd.wid ((ins.map (at_ m.ws)).take nv.nd.inn.length)=w' at ao ⊢;refine aA S (fun bd _ _ S=> ?_);dsimp only[Xi,Xj] at S;refine cK S 4 (ys:=az [w']) rfl rfl (by decide) (by omega) (bI.of_at (S.at 10 rfl)) rfl cX fun ai ag ad h7 a9 S=> ?_;dsimp only[List.set] at S;have ei: ∀(A:List Int) (x:Int),az A++az [x]=az (A++[x]):=fun A x=>by simp[az]
 rw[ei] at S;refine cR S 9 rfl rfl ?_;have b:=(S.own 5 rfl).row;rw[B] at b;refine aB B rfl (by omega) ?_;refine aN S 9 rfl (x:=nv.t) rfl (ae (b.cell (aI (aO E))) ?_);refine aA S (fun bg _ _ S=> ?_);dsimp only[Xi,Xj] at S;have a2:dA nv.nd.kind→0≤nv.nd.step∧nv.nd.step≤3:=by
  intro hf;have G:=j;generalize (m.rs[a]==0)=st at G;generalize nv.nd=nd at G hf;cases G with
  |conv width size step gap left right ww bb f=>exact⟨by have:=f.2.1;show 0≤step;omega,by have:=f.2.1;show step≤3;omega⟩
  |depth size step gap left right ww bb f=>exact⟨by have:=f.2.1;show 0≤step;omega,by have:=f.2.1;show step≤3;omega⟩
  |pool k size step gap left right hk f=>exact⟨by have:=f.2.1;show 0≤step;omega,by have:=f.2.1;show step≤3;omega⟩
  |_=>exact absurd hf (by dsimp only;decide)
 have g1:[m.rs[a]].getD 0 0=m.rs[a]:=rfl;refine(MN (nv:=nv) (l:=1) (rs:=[m.rs[a]]) (bI.of_at (S.at 11 rfl)) rfl (by decide) (by decide) (by rw[g1];omega) (fun hf=>by have:=a2 hf;exact⟨this.1,by have h2:nv.step≤3:=this.2;omega⟩)).mono ?_;rintro _ g8 ⟨rfl,F⟩;refine⟨_,rfl,?_⟩;replace S:=S.fra0 F;generalize a0:bY nv.nd [m.rs[a]]=r';refine aA S (fun bk _ _ S=> ?_);dsimp only[Xi,Xj] at S;refine cK S 5 (ys:=az [r']) rfl rfl (by decide) (by omega) (bI.of_at (S.at 12 rfl)) rfl cX fun ab aa Z h9 a7 S=> ?_;dsimp only[List.set] at S;rw[ei] at S;refine cR S 9 rfl rfl ?_;rw[al (by omega)];have S3:=S.joinR [0,1,2,4,5,6] 3 7 rfl rfl;dsimp only[Sh.pick,List.getElem?_cons_zero,List.getElem?_cons_succ,Xi,Xj] at S3;refine H h9 ⟨a',Y,N,O,m.ns++[nv],ai,ag,ad,m.ws++[w'],ab,aa,Z,m.rs++[r']⟩ ⟨an,by simp;omega,by simp;omega,by simp;omega,?_,?_⟩ (by show N=_;omega) ?_
 ·show mn w0 ((m.ns++[nv]).map Nv.nd) (m.ws++[w']) (m.rs++[r']);rw[U4];refine .snoc _ _ _ _ _ _ hb ⟨ins,U,v,a1,?_,a3.symm,?_⟩
  ·rw[ha,P];have:decide (m.rs[a]=0)=(m.rs[a]==0):=by rw[VQ,decide_eq_true_iff,beq_iff_eq]
   rw[this];exact j
  ·rw[ha,P];exact a0.symm
 ·intro n M;rcases UX.1 M with M|M
  ·exact ay n M
  ·simp only[SH] at M;subst M;exact⟨J,n1,n2,n3⟩
 ·have e1:aF (m.ns++[nv])=aF m.ns++nv.cells:=by rw[iZ];simp[aF]
  show aJ h no h9 [tq r p l c a',blk gb (⟨w0,lo,hi,Y,N,O,out,[]⟩:Gv).cells,own 15 Y N O (aF (m.ns++[nv])),aU (m.ns++[nv]),own 1 ai ag ad (az (m.ws++[w'])),own 1 ab aa Z (az (m.rs++[r'])),blk t2 (aL bT (zT bT))] [row p (az L)];rw[e1,mN];exact S3.pw [0,1,2,6,3,4,5]
theorem EV {xs:List Int} {i:Nat} (h:i<xs.length):at_ xs (i:Int)=xs[i]:=by unfold at_;rw[oe];exact cH h
set_option maxHeartbeats 1000000 in
theorem O6 {g:af} {m:Jr} {cJ a:Nat} {i:Bool} (ok:m.ok l w0) (ai:dF w0 1 3) (hk:m.k<6) (U:L.length=l) (Y:l<2 ^ 62)
 {K:((Addr×Addr×Addr×Bool×Int×(Option Addr×Nat×Nat)×(Option Addr×Nat×Nat)×Int×Unit))→af→Prop} {Q:Value→af→Prop}
 (S:aJ h no g (m.fs r gb t2 p l c w0 lo hi out) [row p (az L)]) (ha:a≤m.k)
 (H: ∀(g:af) (m':Jr),m'.ok l w0→m'.k=m.k+1→aJ h no g (m'.fs r gb t2 p l c w0 lo hi out) [row p (az L)]→K (⟨t2,0,none⟩,⟨r,0,none⟩,⟨gb,0,none⟩,i,(cJ:Int),(m'.wp,m'.wl,m'.wc),(m'.rp,m'.rl,m'.rc),((m.k+2:Nat):Int),()) g):
 m7 Q K ⟨t2,0,none⟩ ⟨r,0,none⟩ ⟨gb,0,none⟩ i (cJ:Int) m.wp m.wl m.wc m.rp m.rl m.rc ((m.k+1:Nat):Int) (a:Int) g:=by
 unfold m7;have a5:=Jr.len ok;have ax:=ok;obtain⟨Z,aa,aj,ad,hb,ab⟩:=ax;have D:a<m.ws.length:=by omega
 have I:a<m.rs.length:=by omega
 refine aA S (fun w _ _ S=> ?_);dsimp only[Xi,Xj] at S;have e:=(S.own 4 rfl).row;obtain⟨aw,v⟩:=e.some_of (by rw[av];omega);rw[v] at e;refine aB v rfl (by omega) ?_;simp only[oe,US];refine ae (e.cell (aI (aO D))) ?_;refine aA S (fun y _ _ S=> ?_);dsimp only[Xi,Xj] at S;replace S:=S.toOwn 7 1 1 1 rfl (U3 _);replace S:=S.toOwn 8 1 1 1 rfl (U3 _);dsimp only[List.set,List.take] at S;refine(cQ S 0 0 rfl rfl U Z Y (m.k+1) (by omega) (by omega)).mono ?_;rintro _ g2 ⟨b,a2,rfl,a9,V,S⟩;refine⟨_,rfl,?_⟩;dsimp only[List.set] at S ⊢;have M:b<m.ws.length:=by omega
 have J:b<m.rs.length:=by omega
 refine⟨fun s g=> ∃(t:Nat) (G o:Option Addr) (F E n j:Nat) (ins:List Int),s=(⟨t2,0,none⟩,⟨r,0,none⟩,⟨gb,0,none⟩,i,(cJ:Int),(m.wp,m.wl,m.wc),(m.rp,m.rl,m.rc),((m.k+1:Nat):Int),(a:Int),(G,F,E),(o,n,j),())∧t≤l∧
  (ins.length=1∨ins.length=2)∧(∀x∈ins,0≤x∧x<(m.ws.length:Int))∧(∀x∈ins,at_ m.rs x=at_ m.rs (ins.getD 0 0))∧ins.getD 0 0=(a:Int)∧
  aJ h no g ([tq r p l c t,blk gb (⟨w0,lo,hi,m.q,m.k,m.d,out,[]⟩:Gv).cells,own 15 m.q m.k m.d (aF m.ns),aU m.ns,own 1 m.wp m.wl m.wc (az m.ws),own 1 m.rp m.rl m.rc (az m.rs),blk t2 (aL bT (zT bT)),own 1 G F E (az ins),own 1 o n j (az (ins.map (at_ m.ws)))]) [row p (az L)],?_,?_⟩
 ·rintro s g ⟨t,G,o,F,E,n,j,ins,rfl,B,P,N,ag,h0,S⟩;exact O5 (m:={m with a:=t}) ⟨B,aa,aj,ad,hb,ab⟩ ai hk U Y S P N ag h0 H
 ·have one: ∀g t,t≤l→aJ h no g ([tq r p l c t,blk gb (⟨w0,lo,hi,m.q,m.k,m.d,out,[]⟩:Gv).cells,own 15 m.q m.k m.d (aF m.ns),aU m.ns,own 1 m.wp m.wl m.wc (az m.ws),own 1 m.rp m.rl m.rc (az m.rs),blk t2 (aL bT (zT bT)),own 1 (some ⟨w,0,none⟩) 1 1 (az [(a:Int)]),own 1 (some ⟨y,0,none⟩) 1 1 (az [m.ws[a]])]) [row p (az L)]→
   ∃(t:Nat) (G o:Option Addr) (F E n j:Nat) (ins:List Int),(((⟨t2,0,none⟩:Addr),(⟨r,0,none⟩:Addr),(⟨gb,0,none⟩:Addr),i,(cJ:Int),(m.wp,m.wl,m.wc),(m.rp,m.rl,m.rc),((m.k+1:Nat):Int),(a:Int),(some (⟨w,0,none⟩:Addr),1,1),(some (⟨y,0,none⟩:Addr),1,1),()):Addr×Addr×Addr×Bool×Int×(Option Addr×Nat×Nat)×(Option Addr×Nat×Nat)×Int×Int×(Option Addr×Nat×Nat)×(Option Addr×Nat×Nat)×Unit)=(⟨t2,0,none⟩,⟨r,0,none⟩,⟨gb,0,none⟩,i,(cJ:Int),(m.wp,m.wl,m.wc),(m.rp,m.rl,m.rc),((m.k+1:Nat):Int),(a:Int),(G,F,E),(o,n,j),())∧t≤l∧
   (ins.length=1∨ins.length=2)∧(∀x∈ins,0≤x∧x<(m.ws.length:Int))∧(∀x∈ins,at_ m.rs x=at_ m.rs (ins.getD 0 0))∧ins.getD 0 0=(a:Int)∧
   aJ h no g ([tq r p l c t,blk gb (⟨w0,lo,hi,m.q,m.k,m.d,out,[]⟩:Gv).cells,own 15 m.q m.k m.d (aF m.ns),aU m.ns,own 1 m.wp m.wl m.wc (az m.ws),own 1 m.rp m.rl m.rc (az m.rs),blk t2 (aL bT (zT bT)),own 1 G F E (az ins),own 1 o n j (az (ins.map (at_ m.ws)))]) [row p (az L)]:=
   fun g t B S=>⟨t,some ⟨w,0,none⟩,some ⟨y,0,none⟩,1,1,1,1,[(a:Int)],rfl,B,.inl rfl,(by intro x u;simp at u;subst u;omega),(by intro x u;simp at u;subst u;rfl),rfl,by
    have:[(a:Int)].map (at_ m.ws)=[m.ws[a]]:=by rw[Vg,Vz,EV D]
    rw[this];exact S⟩
  refine(cQ S 0 0 rfl rfl U V Y 3 (by omega) (by omega)).mono ?_;rintro _ g3 ⟨x3,O,rfl,ba,C,S⟩;refine⟨_,rfl,?_⟩;dsimp only[List.set] at S ⊢;refine aH (fun _=> ?_) (fun _=>one _ O C S);have f:=(S.own 5 rfl).row;obtain⟨ar,z⟩:=f.some_of (by rw[av];omega);rw[z] at f;refine aB z rfl (by omega) (aB z rfl (by omega) ?_);simp only[oe,US];refine ae (f.cell (aI (aO J))) (ae (f.cell (aI (aO I))) ?_);refine aH (fun X=> ?_) (fun _=>one _ O C S);have ei: ∀(A:List Int) (x:Int),az A++az [x]=az (A++[x]):=fun A x=>by simp[az]
  refine aA S (fun a7 _ _ S=> ?_);dsimp only[Xi,Xj] at S;refine cK S 7 (ys:=az [(b:Int)]) rfl rfl (by decide) (by decide) (bI.of_at (S.at 9 rfl)) rfl cX fun ap ao an h7 a4 S=> ?_;dsimp only[List.set] at S;have e:=(S.own 4 rfl).row;rw[v] at e;refine aB v rfl (by omega) ?_;refine ae (e.cell (aI (aO M))) ?_;refine aA S (fun a8 _ _ S=> ?_);dsimp only[Xi,Xj] at S;refine cK S 8 (ys:=az [m.ws[b]]) rfl rfl (by decide) (by decide) (bI.of_at (S.at 10 rfl)) rfl cX fun a1 a0 ay h8 a6 S=> ?_;dsimp only[List.set] at S;refine⟨O,ap,a1,ao,an,a0,ay,[(a:Int),(b:Int)],rfl,C,.inr rfl,?_,?_,rfl,?_⟩
  ·intro x u;simp at u;rcases u with rfl|rfl<;>omega
  ·intro x u;have e0:[(a:Int),(b:Int)].getD 0 0=(a:Int):=rfl;rw[e0];simp at u;rcases u with rfl|rfl
   ·rfl
   ·rw[EV J,EV I];exact X
  ·have:[(a:Int),(b:Int)].map (at_ m.ws)=[m.ws[a],m.ws[b]]:=by rw[Vg,Vg,Vz,EV D,EV M]
   rw[this];exact S.pw [0,1,2,3,4,5,6,7,8]
theorem Js {g:af} {m:Jr} {v:Bool} (ok:m.ok l w0) (K:dF w0 1 3) (I:dF lo (-199) 0) (H:dF hi 0 199) (aa:1≤m.k) (hk:m.k≤6) (ho:dF out 1 m.k) (S:aJ h no g (m.fs r gb t2 p l c w0 lo hi out) [row p (az L)]):
 aG v (aT bT g ⟨gb,0,none⟩ fun A=>au P iS #[bB bT A] g fun z w=>Ez bT fun u=>z=bB bT u∧bj (aL bT u) w ⟨t2,0,none⟩ 0 fun o=>aT bT o ⟨t2,0,none⟩ fun B=>Jq h (bB bT B) o)
  (aT bT g ⟨gb,0,none⟩ fun C=>bj (aL bT C) g ⟨t2,0,none⟩ 0 fun s=>aT bT s ⟨t2,0,none⟩ fun D=>Jq h (bB bT D) s):=by
 obtain⟨ab,y,ag,ad,X,j⟩:=ok;have G:((m.ns.map Nv.nd).length:Int)=m.k:=by rw[UT];omega
 have J:(m.ns.map Nv.nd).length=m.k:=by rw[UT];omega
 generalize a:(⟨w0,lo,hi,m.q,m.k,m.d,out,m.ns⟩:Gv)=gv;have f:gv.gr=⟨w0,lo,hi,m.ns.map Nv.nd,out⟩:=by rw[←a];rfl
 have V:gv.gr.width=w0:=by rw[f]
 have U:gv.gr.low=lo:=by rw[f]
 have Q:gv.gr.high=hi:=by rw[f]
 have mk: ∀e:Gr,e.width=w0→e.low=lo→e.high=hi→(e=gv.gr∨e=gv.gr.turned)→EU e:=fun e E N O h=>
  ⟨m.ns.map Nv.nd,m.ws,m.rs,out,by rw[E];exact K,by rw[N];exact I,by rw[O];exact H,by omega,by omega,by rw[E];exact X,by rw[J];exact ho,by rw[E,N,O,←f];exact h⟩
 refine oT (fun _=> ?_) (fun _=> ?_)
 ·refine aN S 1 rfl (x:=gv.t) (by rw[←a];rfl) ?_;have M:=S.into [2,3] [] [];dsimp only[Sh.pick,List.getElem?_cons_zero,List.getElem?_cons_succ,Xj] at M;have Y:aJ g (OW [own 15 m.q m.k m.d (aF m.ns),aU m.ns]) g [own 15 gv.p gv.l gv.c (aF gv.ns),aU gv.ns] []:=by rw[←a];exact M
  refine(Pd Y (fun n b=>(j n (by rw[←a] at b;exact b)).1) (by rw[←a];show m.k≤100;omega) (by rw[←a];exact y) (fun n b=>(j n (by rw[←a] at b;exact b)).2) ?_ (by rw[←a];show 0≤out∧out≤2 ^ 20;omega)).mono ?_
  ·intro n b x hx;rw[←a] at b;have:=X.inn n.nd (U5.2 ⟨n,b,rfl⟩) x hx;rw[G] at this;omega
  ·rintro _ g2 ⟨e,rfl,F,i,gs,Z⟩;refine iU e.t ⟨rfl,?_⟩;replace S:=S.back [2,3] Z;dsimp only[bE,List.set] at S;refine cA S 6 rfl rfl (bu rfl) fun h3 _ S=> ?_;refine aN S 6 rfl (x:=e.t) rfl ?_;exact⟨e,rfl,F,mk _ (by rw[i];exact V) (by rw[i];exact U) (by rw[i];exact Q) (.inr i),gs,S.pick [2,3] []⟩
 ·refine aN S 1 rfl (x:=gv.t) (by rw[←a];rfl) ?_;refine cA S 6 rfl rfl (bu rfl) fun h3 _ S=> ?_;dsimp only[List.set] at S;refine aN S 6 rfl (x:=gv.t) rfl ?_;refine⟨gv,rfl,?_,mk _ V U Q (.inl rfl),?_,?_⟩
  ·rw[←a];exact⟨y,(S.own 2 rfl).2.1,fun n b=>(j n b).1⟩
  ·rw[←a];exact fun n b=>(j n b).2
  ·rw[←a];exact S.pick [2,3] []
set_option maxHeartbeats 1000000 in
theorem M9 {g:af} (S:aJ h no g [blk t2 (aL bT (zT bT))] [row p (az L)]) (d:L.length=l) (e:l<2 ^ 62):o8 (Jq h) p l c ⟨t2,0,none⟩ g:=by
 unfold o8;refine aA S (fun f _ _ S=> ?_);have b:aJ h no _ [tq f p l c 0,blk t2 (aL bT (zT bT))] [row p (az L)]:=S.pw [1,0];refine(cQ b 0 0 rfl rfl d (by omega) e 3 (by omega) (by omega)).mono ?_;rintro _ g1 ⟨y,a1,rfl,an,D,S⟩;refine⟨_,rfl,?_⟩;dsimp only[List.set] at S ⊢;rw[al (by omega)];refine aA S fun gb h1 _ S=> ?_;refine cA S 2 rfl rfl (bu (l:=bT) (x:=(⟨1+(y:Int),0,0,none,0,0,0,[]⟩:Gv).t) rfl) fun h2 _ S=> ?_;refine(cQ S 0 0 rfl rfl d D e 200 (by omega) (by omega)).mono ?_;rintro _ g2 ⟨N,a2,rfl,ao,E,S⟩;refine⟨_,rfl,?_⟩;dsimp only[List.set,Xi,Xj] at S ⊢;rw[al (n:=0-(N:Int)) (by omega)];refine aE S 2 rfl (k:=1) (jb rfl) fun h3 _ S=> ?_;refine(cQ S 0 0 rfl rfl d E e 200 (by omega) (by omega)).mono ?_;rintro _ g3 ⟨o,a3,rfl,ap,F,S⟩;refine⟨_,rfl,?_⟩;dsimp only[List.set,Xi,Xj] at S ⊢;refine aE S 2 rfl (k:=2) (jb rfl) fun h4 _ S=> ?_;refine(cQ S 0 0 rfl rfl d F e 2 (by omega) (by omega)).mono ?_;rintro _ g4 ⟨V,a4,rfl,ar,G,S⟩;refine⟨_,rfl,?_⟩;refine(cQ (S.pw [0,1,2]) 0 0 rfl rfl d G e 6 (by omega) (by omega)).mono ?_;rintro _ g5 ⟨z,O,rfl,aw,H,S⟩;refine⟨_,rfl,?_⟩;have b:aJ h no g5 [tq f p l c O,blk t2 (aL bT (zT bT)),blk gb (⟨1+(y:Int),0-(N:Int),(o:Int),none,0,0,0,[]⟩:Gv).cells] [row p (az L)]:=S;clear S;have S:=b;clear b;refine ae (n:=1+(y:Int)) (S.cell 2 rfl rfl) ?_;refine aA S (fun A _ _ S=> ?_);refine aA S (fun B _ _ S=> ?_);dsimp only[Xi,Xj] at S;replace S:=S.toOwn 3 1 1 1 rfl (U3 _);replace S:=S.toOwn 4 1 1 1 rfl (U3 _);replace S:=(S.nil 15).reads0;dsimp only[List.set,List.take,Xi,Xj] at S;generalize aj:1+(y:Int)=w0 at S;generalize ai:0-(N:Int)=lo at S;rw[al (n:=1+(z:Int)) (by omega)];have em:1+(z:Int)=((1+z:Nat):Int):=by omega
 rw[em];generalize J:1+z=cJ;refine aP (fun U s g=> ∃m:Jr,s=(⟨t2,0,none⟩,⟨f,0,none⟩,⟨gb,0,none⟩,((V:Int)==1),(cJ:Int),(m.wp,m.wl,m.wc),(m.rp,m.rl,m.rc),((m.k+1:Nat):Int),())∧m.ok l w0∧m.k≤cJ∧U=cJ-m.k∧aJ h no g (m.fs f gb t2 p l c w0 lo (o:Int) 0) [row p (az L)]) cJ
  ⟨⟨O,none,0,0,[],some ⟨A,0,none⟩,1,1,[w0],some ⟨B,0,none⟩,1,1,[1]⟩,rfl,⟨H,rfl,rfl,rfl,.nil,by intro n hn;cases hn⟩,V1 _,rfl,S.pw [0,2,5,6,3,4,1]⟩ ?_
 clear S;rintro U s g ⟨m,rfl,ok,ad,rfl,S⟩;unfold ug;dsimp only;have Q:=Jr.len ok;refine am (fun ag=> ?_) (fun aa=> ?_)
 ·refine⟨fun s g=> ∃(a v:Nat),s=(⟨t2,0,none⟩,⟨f,0,none⟩,⟨gb,0,none⟩,((V:Int)==1),(cJ:Int),(m.wp,m.wl,m.wc),(m.rp,m.rl,m.rc),((m.k+1:Nat):Int),(a:Int),())∧a≤m.k∧v≤l∧aJ h no g (({m with a:=v}:Jr).fs f gb t2 p l c w0 lo (o:Int) 0) [row p (az L)],?_,?_⟩
  ·rintro s g ⟨a,v,rfl,ha,C,S⟩;refine O6 (m:={m with a:=v}) ⟨C,ok.2⟩ (by omega) (by show m.k<6;omega) d e S ha fun g u M j Z=>⟨cJ-u.k,?_,u,?_,M,?_,rfl,Z⟩
   ·have:u.k=m.k+1:=j;omega
   ·have:u.k=m.k+1:=j;rw[this]
   ·have:u.k=m.k+1:=j;omega
  ·refine(cQ S 0 0 rfl rfl d ok.1 e 3 (by omega) (by omega)).mono ?_;rintro _ g6 ⟨x6,a6,rfl,ax,q,S⟩;refine⟨_,rfl,?_⟩;dsimp only[List.set] at S ⊢;refine aH (fun _=> ?_) (fun _=> ?_)
   ·refine(cQ S 0 0 rfl rfl d q e (m.k+1) (by omega) (by omega)).mono ?_;rintro _ g7 ⟨X,w,rfl,K,i,S⟩;refine⟨_,rfl,?_⟩;dsimp only[List.set] at S ⊢;exact⟨X,w,rfl,by omega,i,S⟩
   ·refine⟨m.k,a6,?_,U3 _,q,S⟩;rw[al (by omega)];have:((m.k+1:Nat):Int)-1=(m.k:Int):=by omega
    rw[this]
 ·have ab:m.k=cJ:=by omega
  refine aE S 1 rfl (k:=4) (jb rfl) fun h6 _ S=> ?_;have b:aJ h no h6 (m.fs f gb t2 p l c w0 lo (o:Int) (cJ:Int)) [row p (az L)]:=S;clear S;refine(cQ b 0 0 rfl rfl d ok.1 e 5 (by omega) (by omega)).mono ?_;rintro _ g7 ⟨X,w,rfl,K,i,S⟩;refine⟨_,rfl,?_⟩;dsimp only[List.set] at S ⊢;refine aH (fun _=> ?_) (fun _=> ?_)
  ·refine(cQ S 0 0 rfl rfl d i e cJ (by omega) (by omega)).mono ?_;rintro _ g8 ⟨Y,P,rfl,ay,I,S⟩;refine⟨_,rfl,?_⟩;dsimp only[List.set] at S ⊢;rw[al (by omega)];refine aE S 1 rfl (k:=4) (jb rfl) fun h9 _ S=> ?_;have b:aJ h no h9 (({m with a:=P}:Jr).fs f gb t2 p l c w0 lo (o:Int) (1+(Y:Int))) [row p (az L)]:=S;exact Js (m:={m with a:=P}) ⟨I,ok.2⟩ (by omega) (by omega) (by omega) (by show 1≤m.k;omega) (by show m.k≤6;omega) (by show dF (1+(Y:Int)) 1 m.k;omega) b
  ·have b:aJ h no _ (({m with a:=w}:Jr).fs f gb t2 p l c w0 lo (o:Int) (cJ:Int)) [row p (az L)]:=S;exact Js (m:={m with a:=w}) ⟨i,ok.2⟩ (by omega) (by omega) (by omega) (by show 1≤m.k;omega) (by show m.k≤6;omega) (by show dF (cJ:Int) 1 m.k;omega) b
theorem O7 (e:bI h p (az L)) (i:L.length=l) (u:l≤c) (t:l<2 ^ 62):au P re #[.slice p l c] h (Jq h):=by
 refine Ce _ _ _ ?_;unfold Dv;have S:=aJ.start h no;refine aA S fun a f m S=> ?_;dsimp only[Xj] at S;have w:=e.frame0 S.fra;have b:aJ h no f [blk a (aL bT (zT bT))] [row p (az L)]:=by
  have A:=(aJ.start h no).read (row p (az L)) e;exact A.add S fun _ _ h=>h
 refine⟨fun s g=> ∃(k d:Nat) (M:List Int),s=((p,k,d),⟨a,0,none⟩,())∧M.length=k∧k<2 ^ 62∧aJ h no g [blk a (aL bT (zT bT))] [row p (az M)],?_,?_⟩
 ·rintro s g ⟨k,d,M,rfl,j,q,S⟩;exact M9 S j q
 ·refine am (fun o=> ?_) (fun v=>⟨l,c,L,rfl,i,t,b⟩);refine ko (n:=240) rfl (by omega) ?_;rw[TE];refine⟨240,c-0,L.take 240,rfl,by rw[U0];omega,by decide,?_⟩;have:=b.head 0 240;dsimp only[List.set] at this;rw[vL] at this;exact this
end
end
section
def Inn (ns:List Nd):Prop:= ∀n∈ns,∀j∈n.inn,0≤j∧j≤(ns.length:Int)
theorem nP.Inn {ns:List Nd} {pos:Int→Nat} (h:nP ns pos):Inn ns:=fun n b j a=>by
 obtain⟨i,en⟩:=VN.1 b;have:=(h i n en).2 j a;exact⟨this.1,this.2.1⟩
section
variable {h:af}
theorem gw.range {ns:List Nd} {out:Int} {M:LM} {pos:Int→Nat} (I:gw ns out M pos) {x:Int} (h:(M x).isSome):0≤x∧x≤(ns.length:Int):=by
 have:=(I.lv x).1 h
 induction this with
 |out=>exact⟨by have:=I.out1;omega,I.outn⟩
 | @inn i n j _ en a _=>exact I.ranked.Inn n (UR en) j a
end
end
section
def vi (o:Int):Nd:=⟨9,[o],0,0,0,0,0,0,[],[],0,0,-90,700,0⟩
def vj (o:Int):Nd:=⟨10,[o],0,0,0,0,0,0,[],[],21000,14,0,0,0⟩
def EW (o:Int):Nd:=⟨11,[o],0,0,0,0,0,0,[],[],0,0,0,0,0⟩
def Jt (g:Gr) (n:Nd):Gr:={g with nodes:=g.nodes++[n],out:=(g.nodes.length:Int)+1}
inductive KX (b:Gr):Nat→Gr→Prop
 |base:KX b 0 b
 |step {k:Nat} {g:Gr} {n:Nd}:KX b k g→(n=vi g.out∨n=vj g.out)→KX b (k+1) (Jt g n)
def RG (g:Gr):Gr:={g with nodes:=g.nodes++[EW g.out]}
def C2 (g:Gr):Prop:= ∃(b:Gr) (k:Nat) (a:Gr),EU b∧k≤3∧KX b k a∧(g=a∨g=RG a)
theorem EU.len {g:Gr} (m:EU g):1≤g.nodes.length∧g.nodes.length≤6:=by
 obtain⟨ns,ws,rs,out,_,_,_,a,b,_,_,h|h⟩:=m
 ·rw[h];exact⟨a,b⟩
 ·rw[h];have:(Gr.turned ⟨g.width,g.low,g.high,ns,out⟩).nodes.length=ns.length:=by simp[Gr.turned]
  rw[this];exact⟨a,b⟩
section
variable {h0 h:af} {T:Nat→Prop} {W R:List aY}
theorem EX (S:aJ h0 T h W R) (i:Nat) {b:Nat} {o:Int} {n:Nv} (e:W[i]? =some (blk b [.int .i64 o])) (j:n.inn=⟨some ⟨b,0,none⟩,1,1,[o]⟩) (k:n.weights=Sl.nil) (m:n.bias=Sl.nil):aJ h0 T h (W.set i n.rows) R:=
 S.turn i e _ (fun a f g=>by
  simp only[U7,VU,or_false] at g;rcases g with rfl|rfl|rfl
  ·rw[j];exact bI.of_at a
  ·rw[k];exact bI.nil _ _
  ·rw[m];exact bI.nil _ _) fun s ⟨f,g,d⟩=>by
  simp only[U7,VU,or_false] at g;rcases g with rfl|rfl|rfl
  ·rw[j] at d;obtain⟨_,a,q,d⟩:=d;cases q;exact d.symm
  ·rw[k] at d;exact absurd rfl d.1
  ·rw[m] at d;exact absurd rfl d.1
def QJ (h:af) (v:Value) (b:af):Prop:=
 ∃a:Gv,v=a.v∧a.ok∧C2 a.gr∧a.l≤10∧(∀n∈a.ns,n.inn.l≤2 ^ 20∧n.weights.l≤2 ^ 20∧n.bias.l≤2 ^ 20)∧aJ h no b [own 15 a.p a.l a.c (aF a.ns),aU a.ns] []
variable {p:Option Addr} {l c:Nat} {L:List Int}
theorem O8 (g:bI h p (az L)) (e:L.length=l) (b:l≤c) (f:l<2 ^ 62):au P rg #[.slice p l c] h (Jq h):=by
 refine Cf _ _ _ ?_;unfold Dw;have S:=(aJ.start h no).read (row p (az L)) g;refine aA (cs:=aL bT (zT bT)) S fun j k _ S=> ?_;dsimp only[Xj] at S;refine(O7 (S.row 0 rfl) e b f).mono ?_;rintro _ m ⟨a,rfl,ok,i,sz,d⟩;replace S:=S.add d fun _ _ h=>h;dsimp only[Xi,Xj] at S;refine iU a.t ⟨rfl,?_⟩;refine cA S 0 rfl rfl (bu rfl) fun n _ S=> ?_;dsimp only[List.set] at S;refine aN S 0 rfl (x:=a.t) rfl ?_;exact⟨a,rfl,ok,i,sz,yu (S.pw [1,2])⟩
theorem O9 (hx:bI h p (az L)) (hL:L.length=l) (aj:l≤c) (hl:l<2 ^ 62) (more:Int):au P rh #[.slice p l c,.int .i64 more] h (QJ h):=by
 refine Cg _ _ _ _ ?_;unfold Dx;have S:=(aJ.start h no).read (row p (az L)) hx;refine aA (cs:=aL bT (zT bT)) S fun V h1 _ S=> ?_;dsimp only[Xj] at S;refine(O8 (S.row 0 rfl) hL aj hl).mono ?_;rintro _ h2 ⟨q,rfl,ok,mg,sz,S1⟩;replace S:=yu (S.add S1 fun _ _ h=>h);dsimp only[Xi,Xj] at S;refine iU q.t ⟨rfl,?_⟩;refine aA (cs:=aL bT (zT bT)) S fun X h7 _ S=> ?_;dsimp only[Xi,Xj] at S;refine cA S 3 rfl rfl (bu rfl) fun h8 _ S=> ?_;dsimp only[List.set] at S;refine aA (cs:=[]) S fun b9 ap _ S=> ?_;dsimp only[Xi,Xj] at S;refine ak (p:=q.p) (l:=q.l) (c:=q.c) (S.cell 3 rfl rfl) ?_;replace S:=S.toOwn 4 15 0 0 rfl (U3 _);dsimp only[List.set,List.take] at S;have ai:q.gr.nodes.length=q.l:=by rw[←ok.1];simp[Gv.gr]
 have ab:=mg.len;rw[ai] at ab;have J:=(S.own 1 rfl).row;refine cK S 4 (ys:=aF q.ns) rfl rfl (by decide) (by omega) J (by rw[bW,ok.1]) G8 fun U l12 O ar K S=> ?_;dsimp only[List.set,Xj] at S;rw[SI] at K;subst K;refine aE S 3 rfl (jb rfl) fun ag _ S=> ?_;dsimp only[List.set] at S;obtain⟨B,eB,hB⟩: ∃B:Nat,cn .i64 (fu more 1) 3=(B:Int)∧B≤3:=by
  have:=zO (fu more 1) 3 2 (by decide) (by decide);have e:((3:Nat):Int)=3:=rfl;rw[e] at this;exact⟨(cn .i64 (fu more 1) 3).toNat,by omega,by omega⟩
 have S0:aJ h no ag [blk V (aL bT (zT bT)),blk X ({q with p:=U,c:=O}:Gv).cells,own 15 U q.l O (aF q.ns),aU q.ns] []:=S.pw [0,3,4,2];have Z:=(S0.own 2 rfl).2.1;clear S S1 J
 refine aP (fun mm s g=> ∃(i:Nat) (a:Gv),s=(more,⟨V,0,none⟩,⟨X,0,none⟩,(i:Int),())∧i≤B∧mm=B-i∧a.ok∧a.l=q.l+i∧KX q.gr i a.gr∧(∀n∈a.ns,n.inn.l≤2 ^ 20∧n.weights.l≤2 ^ 20∧n.bias.l≤2 ^ 20)∧
  aJ h no g [blk V (aL bT (zT bT)),blk X a.cells,own 15 a.p a.l a.c (aF a.ns),aU a.ns] []) B
  ⟨0,{q with p:=U,c:=O},rfl,by omega,rfl,⟨ok.1,Z,ok.2.2⟩,rfl,.base,sz,S0⟩ ?_
 clear S0 Z;rintro mm s g ⟨i,a,rfl,hi,rfl,w,cl,cm,Y,S⟩;unfold wL;rw[eB];simp only[aQ,SI];have aa:a.gr.nodes.length=a.l:=by rw[←w.1];simp[Gv.gr]
 have Q: ∀{b:Nat} {n:Nv},n.inn=⟨some ⟨b,0,none⟩,1,1,[a.out]⟩→n.weights=Sl.nil→n.bias=Sl.nil→n.ok∧(n.inn.l≤2 ^ 20∧n.weights.l≤2 ^ 20∧n.bias.l≤2 ^ 20):=fun{b n} h1 h2 h3=>by
  refine⟨⟨?_,?_,?_⟩,?_,?_,?_⟩
  ·rw[h1];exact⟨rfl,U3 _⟩
  ·rw[h2];exact⟨rfl,U3 _⟩
  ·rw[h3];exact⟨rfl,U3 _⟩
  ·rw[h1];show 1≤2 ^ 20;decide
  ·rw[h2];decide
  ·rw[h3];decide
 have C: ∀{n:Nv},(n.ok∧(n.inn.l≤2 ^ 20∧n.weights.l≤2 ^ 20∧n.bias.l≤2 ^ 20))→(∀m∈a.ns++[n],m.ok)∧ ∀m∈a.ns++[n],m.inn.l≤2 ^ 20∧m.weights.l≤2 ^ 20∧m.bias.l≤2 ^ 20:=fun{n} hn=>by
  constructor
  ·intro m y;rcases UX.1 y with y|y
   ·exact w.2.2 m y
   ·simp only[SH] at y;subst y;exact hn.1
  ·intro m y;rcases UX.1 y with y|y
   ·exact Y m y
   ·simp only[SH] at y;subst y;exact hn.2
 have A: ∀n:Nv,aF a.ns++n.cells=aF (a.ns++[n]):=fun n=>by rw[iZ,show aF [n]=n.cells by simp[aF]]
 refine am (fun ax=> ?_) (fun aw=> ?_)
 ·have ei:IntKind.wrap .i64 ((i:Int)+1)=((i+1:Nat):Int):=by rw[al (by omega)];rfl
  rw[ei];refine ae (n:=a.out) (S.cell 1 rfl rfl) ?_;refine aA (cs:=[.int .i64 a.out]) S fun H g2 _ S=> ?_;dsimp only[Xi,Xj] at S;refine aA (cs:=aL cS (zT cS)) S fun an g3 _ S=> ?_;dsimp only[Xi,Xj] at S;obtain⟨u,j⟩: ∃u:Nv,u=⟨9,⟨some ⟨H,0,none⟩,1,1,[a.out]⟩,0,0,0,0,0,0,Sl.nil,Sl.nil,0,0,-90,700,0⟩:=⟨_,rfl⟩;refine cA S 5 rfl rfl (bu (l:=cS) (x:=(⟨9,⟨some ⟨H,0,none⟩,1,1,[a.out]⟩,0,0,0,0,0,0,Sl.nil,Sl.nil,0,0,-90,700,0⟩:Nv).t) rfl) fun g4 _ S=> ?_;dsimp only[List.set] at S;refine⟨by rw[hZ];omega,?_⟩;refine eD (fun _=> ?_) (fun _=> ?_)
  ·refine ae (n:=a.out) (S.cell 1 rfl rfl) ?_;refine aA (cs:=[.int .i64 a.out]) S fun I g5 _ S=> ?_;dsimp only[Xi,Xj] at S;obtain⟨v,k⟩: ∃v:Nv,v=⟨10,⟨some ⟨I,0,none⟩,1,1,[a.out]⟩,0,0,0,0,0,0,Sl.nil,Sl.nil,21000,14,0,0,0⟩:=⟨_,rfl⟩;refine cA S 5 rfl rfl (bu (l:=cS) (x:=(⟨10,⟨some ⟨I,0,none⟩,1,1,[a.out]⟩,0,0,0,0,0,0,Sl.nil,Sl.nil,21000,14,0,0,0⟩:Nv).t) rfl) fun g6 _ S=> ?_;dsimp only[List.set] at S;refine ak (p:=a.p) (l:=a.l) (c:=a.c) (S.cell 1 rfl rfl) ?_;have en:aL cS (⟨10,⟨some ⟨I,0,none⟩,1,1,[a.out]⟩,0,0,0,0,0,0,Sl.nil,Sl.nil,21000,14,0,0,0⟩:Nv).t=v.cells:=by rw[k];rfl
   refine aN S 5 rfl (x:=v.t) en ?_;refine aA S fun ad g7 _ S=> ?_;dsimp only[Xi,Xj] at S;refine cK S 2 (ys:=v.cells) rfl rfl (by decide) (by omega) (bI.of_at (S.at 7 rfl)) rfl (bu rfl) fun o l2 d g8 F S=> ?_;dsimp only[List.set] at S;subst F;refine aE S 1 rfl (jb rfl) fun g9 _ S=> ?_;dsimp only[List.set] at S;refine ak (p:=o) (l:=a.l+1) (c:=d) (S.cell 1 rfl rfl) ?_;refine aE S 1 rfl (jb rfl) fun D _ S=> ?_;dsimp only[List.set] at S;have z:=EX S 6 (n:=v) rfl (by rw[k]) (by rw[k]) (by rw[k]);dsimp only[List.set] at z;rw[A] at z;have S3:aJ h no D [blk V (aL bT (zT bT)),blk X (⟨a.width,a.low,a.high,o,a.l+1,d,((a.l+1:Nat):Int),a.ns++[v]⟩:Gv).cells,own 15 o (a.l+1) d (aF (a.ns++[v])),bP (a.ns.map Nv.rows),v.rows] []:=z.pw [0,1,2,3,6];have G:=S3.joinR [0,1,2] 3 4 rfl rfl;rw[←mN] at G;have E:=(S3.own 2 rfl).2.1;have M:=C (Q (b:=I) (n:=v) (by rw[k]) (by rw[k]) (by rw[k]));refine⟨B-(i+1),by omega,i+1,⟨a.width,a.low,a.high,o,a.l+1,d,((a.l+1:Nat):Int),a.ns++[v]⟩,rfl,by omega,rfl,⟨by show(a.ns++[v]).length=_;rw[Rb,w.1];rfl,E,M.1⟩,by show a.l+1=_;omega,?_,M.2,G⟩;have e:(⟨a.width,a.low,a.high,o,a.l+1,d,((a.l+1:Nat):Int),a.ns++[v]⟩:Gv).gr=Jt a.gr (vj a.gr.out):=by
    unfold Jt;rw[aa];show Gr.mk _ _ _ ((a.ns++[v]).map Nv.nd) _=Gr.mk _ _ _ (a.ns.map Nv.nd++[vj a.out]) _;rw[U4,k];rfl
   rw[e];exact .step cm (.inr rfl)
  ·refine ak (p:=a.p) (l:=a.l) (c:=a.c) (S.cell 1 rfl rfl) ?_;have en:aL cS (⟨9,⟨some ⟨H,0,none⟩,1,1,[a.out]⟩,0,0,0,0,0,0,Sl.nil,Sl.nil,0,0,-90,700,0⟩:Nv).t=u.cells:=by rw[j];rfl
   refine aN S 5 rfl (x:=u.t) en ?_;refine aA S fun ad g7 _ S=> ?_;dsimp only[Xi,Xj] at S;refine cK S 2 (ys:=u.cells) rfl rfl (by decide) (by omega) (bI.of_at (S.at 6 rfl)) rfl (bu rfl) fun o l2 d g8 F S=> ?_;dsimp only[List.set] at S;subst F;refine aE S 1 rfl (jb rfl) fun g9 _ S=> ?_;dsimp only[List.set] at S;refine ak (p:=o) (l:=a.l+1) (c:=d) (S.cell 1 rfl rfl) ?_;refine aE S 1 rfl (jb rfl) fun D _ S=> ?_;dsimp only[List.set] at S;have z:=EX S 4 (n:=u) rfl (by rw[j]) (by rw[j]) (by rw[j]);dsimp only[List.set] at z;rw[A] at z;have S3:aJ h no D [blk V (aL bT (zT bT)),blk X (⟨a.width,a.low,a.high,o,a.l+1,d,((a.l+1:Nat):Int),a.ns++[u]⟩:Gv).cells,own 15 o (a.l+1) d (aF (a.ns++[u])),bP (a.ns.map Nv.rows),u.rows] []:=z.pw [0,1,2,3,4];have G:=S3.joinR [0,1,2] 3 4 rfl rfl;rw[←mN] at G;have E:=(S3.own 2 rfl).2.1;have M:=C (Q (b:=H) (n:=u) (by rw[j]) (by rw[j]) (by rw[j]));refine⟨B-(i+1),by omega,i+1,⟨a.width,a.low,a.high,o,a.l+1,d,((a.l+1:Nat):Int),a.ns++[u]⟩,rfl,by omega,rfl,⟨by show(a.ns++[u]).length=_;rw[Rb,w.1];rfl,E,M.1⟩,by show a.l+1=_;omega,?_,M.2,G⟩;have e:(⟨a.width,a.low,a.high,o,a.l+1,d,((a.l+1:Nat):Int),a.ns++[u]⟩:Gv).gr=Jt a.gr (vi a.gr.out):=by
    unfold Jt;rw[aa];show Gr.mk _ _ _ ((a.ns++[u]).map Nv.nd) _=Gr.mk _ _ _ (a.ns.map Nv.nd++[vi a.out]) _;rw[U4,j];rfl
   rw[e];exact .step cm (.inl rfl)
 ·refine eD (fun _=> ?_) (fun _=> ?_)
  ·refine ak (p:=a.p) (l:=a.l) (c:=a.c) (S.cell 1 rfl rfl) ?_;refine ae (n:=a.out) (S.cell 1 rfl rfl) ?_;refine aA (cs:=[.int .i64 a.out]) S fun N g2 _ S=> ?_;dsimp only[Xi,Xj] at S;obtain⟨nb,f⟩: ∃nb:Nv,nb=⟨11,⟨some ⟨N,0,none⟩,1,1,[a.out]⟩,0,0,0,0,0,0,Sl.nil,Sl.nil,0,0,0,0,0⟩:=⟨_,rfl⟩;refine aA (cs:=(⟨11,⟨some ⟨N,0,none⟩,1,1,[a.out]⟩,0,0,0,0,0,0,Sl.nil,Sl.nil,0,0,0,0,0⟩:Nv).cells) S fun ao g3 _ S=> ?_;rw[←f] at S;dsimp only[Xi,Xj] at S;refine cK S 2 (ys:=nb.cells) rfl rfl (by decide) (by omega) (bI.of_at (S.at 5 rfl)) rfl (bu rfl) fun o l2 d g8 F S=> ?_;dsimp only[List.set] at S;subst F;refine aE S 1 rfl (jb rfl) fun g9 _ S=> ?_;dsimp only[List.set] at S;have z:=EX S 4 (n:=nb) rfl (by rw[f]) (by rw[f]) (by rw[f]);dsimp only[List.set] at z;rw[A] at z;have S3:aJ h no g9 [blk V (aL bT (zT bT)),blk X (⟨a.width,a.low,a.high,o,a.l+1,d,a.out,a.ns++[nb]⟩:Gv).cells,own 15 o (a.l+1) d (aF (a.ns++[nb])),bP (a.ns.map Nv.rows),nb.rows] []:=z.pw [0,1,2,3,4];have G:=S3.joinR [0,1,2] 3 4 rfl rfl;rw[←mN] at G;have E:=(S3.own 2 rfl).2.1;have M:=C (Q (b:=N) (n:=nb) (by rw[f]) (by rw[f]) (by rw[f]));refine aN G 1 rfl (x:=(⟨a.width,a.low,a.high,o,a.l+1,d,a.out,a.ns++[nb]⟩:Gv).t) rfl ?_;refine cA G 0 rfl rfl (bu rfl) fun D _ S=> ?_;simp only[Sh.pick,List.getElem?_cons_zero,List.getElem?_cons_succ,Xi,Xj,Wk] at S;refine aN S 0 rfl (x:=(⟨a.width,a.low,a.high,o,a.l+1,d,a.out,a.ns++[nb]⟩:Gv).t) rfl ?_;refine⟨⟨a.width,a.low,a.high,o,a.l+1,d,a.out,a.ns++[nb]⟩,rfl,⟨by show(a.ns++[nb]).length=_;rw[Rb,w.1];rfl,E,M.1⟩,⟨q.gr,i,a.gr,mg,by omega,cm,.inr ?_⟩,by show a.l+1≤10;omega,M.2,S.pw [2,3]⟩;unfold RG;show Gr.mk _ _ _ ((a.ns++[nb]).map Nv.nd) _=Gr.mk _ _ _ (a.ns.map Nv.nd++[EW a.out]) _;rw[U4,f];rfl
  ·refine aN S 1 rfl (x:=a.t) rfl ?_;refine cA S 0 rfl rfl (bu rfl) fun D _ S=> ?_;dsimp only[List.set] at S;refine aN S 0 rfl (x:=a.t) rfl ?_;exact⟨a,rfl,w,⟨q.gr,i,a.gr,mg,by omega,cm,.inl rfl⟩,by omega,Y,S.pw [2,3]⟩
end
end
section
structure bM (g:Gr) (W R:Int→Int) (pos:Int→Nat):Prop where
 first:g.first=0
 rank: ∀(i:Nat) (n:Nd),g.nodes[i]? =some n→ ∀j∈n.inn,0<j→pos j<pos ((i:Int)+1)
 w0:W 0=g.width
 r0:R 0=1
 chk: ∀(i:Nat) (n:Nd),g.nodes[i]? =some n→n.chk (n.inn.map W)=0
 wid: ∀(i:Nat) (n:Nd),g.nodes[i]? =some n→W ((i:Int)+1)=n.wid (n.inn.map W)
 rat: ∀(i:Nat) (n:Nd),g.nodes[i]? =some n→0≤bY n (n.inn.map R)
 rid: ∀(i:Nat) (n:Nd),g.nodes[i]? =some n→R ((i:Int)+1)=bY n (n.inn.map R)
theorem EY {a:List Int}: ∀{ns:List Nd} {i:Nat},jC a ns i=none→ ∀(k:Nat) (n:Nd),ns[k]? =some n→((i+k:Nat):Int)+1∈a∨ ∃j∈n.inn,j∉a
 |[],i,_,k,n,h=>by simp at h
 |m::r,i,h,k,n,hk=>by
  unfold jC at h;split at h
  ·cases h
  ·rename_i e;cases k with
   |zero=>
    simp only[List.getElem?_cons_zero,Option.some.injEq] at hk;subst hk;by_cases b:((i:Int)+1)∈a
    ·exact .inl b
    ·right;exact Classical.byContradiction fun g=>e ⟨b,fun j f=>Classical.byContradiction fun d=>g ⟨j,f,d⟩⟩
   |succ k=>
    have:=EY h k n (by simpa using hk);rw[show i+1+k=i+(k+1) by omega] at this;exact this
theorem EZ (ns:List Nd) (k:Nat):(0:Int)∈bK ns k:=by rw[dM];exact VG
theorem G1 {ns:List Nd} {pos:Int→Nat} (m: ∀(i:Nat) (n:Nd),ns[i]? =some n→ ∀j∈n.inn,0<j→pos j<pos ((i:Int)+1)) (hi: ∀n∈ns,bv 0 ns.length n.inn): ∀k≤ns.length,(bK ns k).tail.length=k
 |0,_=>rfl
 |k+1,u=>by
  have w:=G1 m hi k (by omega);show(kr ns (bK ns k)).tail.length=k+1;cases hN:jC (bK ns k) ns 0 with
  |some x=>
   unfold kr;rw[hN];dsimp only;rw[dM];simp only[Xi,List.tail_cons,Rb,UY,Vf];omega
  |none=>
   exfalso;have a:=EY hN;have all: ∀(p:Nat) (x:Int),pos x=p→1≤x→x≤(ns.length:Int)→x∈bK ns k:=by
    intro p
    induction p using Nat.strongRecOn with
    |ind p d=>
     intro x v s t;obtain⟨i,rfl⟩: ∃i:Nat,x=(i:Int)+1:=⟨(x-1).toNat,by omega⟩;obtain⟨n,en⟩: ∃n,ns[i]? =some n:=⟨_,aO (by omega)⟩;have:=a i n en;rw[SI] at this;rcases this with h|⟨j,g,f⟩
     ·exact h
     ·exfalso;have o:=hi n (UR en) j g;by_cases h0:j=0
      ·subst h0;exact f (EZ _ _)
      ·have:=m i n en j g (by omega);exact f (d (pos j) (by omega) j rfl (by omega) (by omega))
   have:=jW ((List.range ns.length).map fun i:Nat=>(i:Int)+1) (bK ns k).tail (by
    unfold List.Nodup;rw[List.pairwise_map];exact List.nodup_range.imp fun h e=>h (by omega)) fun y q=>by
    obtain⟨i,b,rfl⟩:=U5.1 q;rw[VD] at b;have:=all _ ((i:Int)+1) rfl (by omega) (by omega);rw[dM] at this;rcases U7.1 this with h|h
    ·omega
    ·exact h
   simp only[UT,V2] at this;omega
def vals (n:Nat) (V:Int→Int) (S:List Int):List Int:=(List.range (n+1)).map fun x:Nat=>if(x:Int)∈S then V x else 0
theorem vk {n:Nat} {V:Int→Int} {S:List Int} {x:Nat} (h:x≤n):(vals n V S)[x]? =some (if(x:Int)∈S then V x else 0):=by
 unfold vals;rw[UW,Vj (by omega)];rfl
theorem fm (n:Nat) (V:Int→Int) (S:List Int):(vals n V S).length=n+1:=by simp[vals]
theorem Ju {n:Nat} {V b:Int→Int} {S a:List Int} (h: ∀x:Nat,x≤n→(if(x:Int)∈S then V x else 0)=if(x:Int)∈a then b x else 0):vals n V S=vals n b a:=by
 unfold vals;refine U8 fun x d=> ?_;rw[VD] at d;exact h x (by omega)
theorem mO (n:Nat) (V:Int→Int):vals n V [0]=V 0::List.replicate n 0:=by
 apply Vo;intro x;by_cases a:x≤n
 ·rw[vk a];cases x with
  |zero=>simp
  |succ x=>
   rw[if_neg (by simp;omega),List.getElem?_cons_succ,List.getElem?_replicate,if_pos (by omega)]
 ·rw[Vc (by rw[fm];omega),Vc (by simp;omega)]
theorem qD {n:Nat} {V:Int→Int} {S js:List Int} (h: ∀j∈js,j∈S∧0≤j∧j≤(n:Int)):bZ (vals n V S) js=js.map V:=by
 unfold bZ;refine U8 fun j b=> ?_;obtain⟨a,d,e⟩:=h j b;rw[UV,vk (by omega),show((j.toNat:Nat):Int)=j by omega,if_pos a];rfl
theorem qE {n:Nat} {V:Int→Int} {S:List Int} {i:Nat} (hi:i+1≤n) {v:Int} (d:v=V ((i:Int)+1)):(vals n V S).set (i+1) v=vals n V (S++[(i:Int)+1]):=by
 apply Vo;intro x;by_cases b:x≤n
 ·rw[vk b];by_cases h:i+1=x
  ·subst h;rw[Ve (by rw[fm];omega),if_pos (by simp),d];rfl
  ·rw[VS h,vk b];congr 1;by_cases a:(x:Int)∈S
   ·rw[if_pos a,if_pos (by simp[a])]
   ·rw[if_neg a,if_neg (by simp[a];omega)]
 ·rw[Vc (by rw[U1,fm];omega),Vc (by rw[fm];omega)]
theorem yj {ns:List Nd} {x:Int}: ∀(a ws rs:List Int),(∀i∈a,1≤i∧i≤(ns.length:Int))→(dq ns a ws rs).1=0→dq ns (a++[x]) ws rs=dq ns [x] (dq ns a ws rs).2.1 (dq ns a ws rs).2.2
 |[],ws,rs,_,_=>rfl
 |i::r,ws,rs,hi,h=>by
  have g:=hi i VG;obtain⟨n,en⟩: ∃n,ns[i.toNat-1]? =some n:=⟨_,aO (l:=ns) (i:=i.toNat-1) (by omega)⟩;have e: ∀t,dq ns (i::t) ws rs=if n.chk (bZ ws n.inn)≠0 then(n.chk (bZ ws n.inn),ws,rs) else if bY n (bZ rs n.inn)<0 then(15,ws,rs) else dq ns t (ws.set i.toNat (n.wid (bZ ws n.inn))) (rs.set i.toNat (bY n (bZ rs n.inn))):=fun t=>by
   conv=>lhs;unfold dq
   rw[en]
  rw[Xi,e,e];rw[e] at h;by_cases b:n.chk (bZ ws n.inn)≠0
  ·rw[if_pos b] at h;exact absurd h b
  ·rw[if_neg b] at h ⊢;rw[if_neg b];by_cases d:bY n (bZ rs n.inn)<0
   ·rw[if_pos d] at h;exact absurd (show(15:Int)=0 from h) (by decide)
   ·rw[if_neg d] at h ⊢;rw[if_neg d];exact yj r _ _ (fun y f=>hi y (Vd _ f)) h
theorem G2 {ns:List Nd} {x:Int}: ∀(a ws rs:List Int),(∀i∈a,1≤i∧i≤(ns.length:Int))→(dq ns (a++[x]) ws rs).1=0→(dq ns a ws rs).1=0
 |[],ws,rs,_,_=>rfl
 |i::r,ws,rs,hi,h=>by
  have g:=hi i VG;obtain⟨n,en⟩: ∃n,ns[i.toNat-1]? =some n:=⟨_,aO (l:=ns) (i:=i.toNat-1) (by omega)⟩;have e: ∀t,dq ns (i::t) ws rs=if n.chk (bZ ws n.inn)≠0 then(n.chk (bZ ws n.inn),ws,rs) else if bY n (bZ rs n.inn)<0 then(15,ws,rs) else dq ns t (ws.set i.toNat (n.wid (bZ ws n.inn))) (rs.set i.toNat (bY n (bZ rs n.inn))):=fun t=>by
   conv=>lhs;unfold dq
   rw[en]
  rw[Xi,e] at h;rw[e];by_cases b:n.chk (bZ ws n.inn)≠0
  ·rw[if_pos b] at h;exact absurd h b
  ·rw[if_neg b] at h ⊢;by_cases d:bY n (bZ rs n.inn)<0
   ·rw[if_pos d] at h;exact absurd (show(15:Int)=0 from h) (by decide)
   ·rw[if_neg d] at h ⊢;exact G2 r _ _ (fun y f=>hi y (Vd _ f)) h
theorem vm {ns:List Nd} {k:Nat} {x:Int} (h:bK ns (k+1)=bK ns k++[x]):(bK ns (k+1)).tail=(bK ns k).tail++[x]:=by
 rw[h,dM];rfl
theorem bM.lookK {g:Gr} {W R:Int→Int} {pos:Int→Nat} (r:bM g W R pos): ∀k,dq g.nodes (bK g.nodes k).tail (g.width::List.replicate g.nodes.length 0) (1::List.replicate g.nodes.length 0)=(0,vals g.nodes.length W (bK g.nodes k),vals g.nodes.length R (bK g.nodes k))
 |0=>by
  show(0,_,_)=(0,vals g.nodes.length W [0],vals g.nodes.length R [0]);rw[mO,mO,r.w0,r.r0]
 |k+1=>by
  have b:=r.lookK k;rcases lL g.nodes (bK g.nodes k) with e|⟨i,n,en,m,f,e⟩
  ·rw[show bK g.nodes (k+1)=bK g.nodes k from e];exact b
  ·have e:bK g.nodes (k+1)=bK g.nodes k++[(i:Int)+1]:=e;rw[vm e,yj _ _ _ (fJ g.nodes k) (by rw[b]),b,e];have hi:=(Pt.1 en).1;have d:=(bR r.first).2.2.2.2.2 n (UR en);have a: ∀j∈n.inn,j∈bK g.nodes k∧0≤j∧j≤(g.nodes.length:Int):=fun j a=>⟨f j a,(d j a).1,(d j a).2⟩;unfold dq;rw[show((i:Int)+1).toNat-1=i by omega,en];dsimp only;rw[qD a,qD a,if_neg (by rw[r.chk i n en];simp),if_neg (by have:=r.rat i n en;omega),show((i:Int)+1).toNat=i+1 by omega];unfold dq;rw[qE (by omega) (r.wid i n en).symm,qE (by omega) (r.rid i n en).symm]
theorem bM.ordered {g:Gr} {W R:Int→Int} {pos:Int→Nat} (r:bM g W R pos):(cC g.nodes).length=g.nodes.length:=
 G1 r.rank (bR r.first).2.2.2.2.2 _ (U3 _)
theorem zU {ns:List Nd} (h:(cC ns).length=ns.length) (V:Int→Int):vals ns.length V (bK ns ns.length)=(List.range (ns.length+1)).map fun x:Nat=>V x:=by
 unfold vals;refine U8 fun x a=> ?_;rw[VD] at a;rw[if_pos];by_cases h0:x=0
 ·subst h0;exact EZ _ _
 ·rw[dM];exact Vd _ (nO h (by omega) (by omega))
theorem bM.look {g:Gr} {W R:Int→Int} {pos:Int→Nat} (r:bM g W R pos):g.look=⟨0,cC g.nodes,(List.range (g.nodes.length+1)).map fun x:Nat=>W x,(List.range (g.nodes.length+1)).map fun x:Nat=>R x⟩:=by
 have a:=r.lookK g.nodes.length;have a:dq g.nodes (cC g.nodes) (g.width::List.replicate g.nodes.length 0) (1::List.replicate g.nodes.length 0)=_:=a;unfold Gr.look;rw[if_neg (by rw[r.first];simp),if_neg (by rw[r.ordered];simp),a,if_neg (by simp),zU r.ordered,zU r.ordered]
theorem KY {g:Gr} (h:g.look.e=0): ∃W R,bM g W R (posG g.nodes):=by
 obtain⟨G,H,N⟩:=A9 h;have O:=(bR G).2.2.2.2.2
 have key: ∀k,(dq g.nodes (bK g.nodes k).tail (g.width::List.replicate g.nodes.length 0) (1::List.replicate g.nodes.length 0)).1=0→ ∃W R:Int→Int,W 0=g.width∧R 0=1∧
  dq g.nodes (bK g.nodes k).tail (g.width::List.replicate g.nodes.length 0) (1::List.replicate g.nodes.length 0)=(0,vals g.nodes.length W (bK g.nodes k),vals g.nodes.length R (bK g.nodes k))∧
  ∀(i:Nat) (n:Nd),g.nodes[i]? =some n→((i:Int)+1)∈bK g.nodes k→n.chk (n.inn.map W)=0∧W ((i:Int)+1)=n.wid (n.inn.map W)∧0≤bY n (n.inn.map R)∧R ((i:Int)+1)=bY n (n.inn.map R):=by
  intro k
  induction k with
  |zero=>
   intro _;refine⟨fun _=>g.width,fun _=>1,rfl,rfl,?_,fun i n en hi=> ?_⟩
   ·show(0,_,_)=(0,vals g.nodes.length _ [0],vals g.nodes.length _ [0]);rw[mO,mO]
   ·simp[bK] at hi;omega
  |succ k J=>
   rcases lL g.nodes (bK g.nodes k) with e|⟨q,m,z,E,F,e⟩
   ·rw[show bK g.nodes (k+1)=bK g.nodes k from e];exact J
   ·have e:bK g.nodes (k+1)=bK g.nodes k++[(q:Int)+1]:=e;intro o;rw[vm e] at o ⊢;have y:=G2 _ _ _ (fJ g.nodes k) o;obtain⟨W,R,w0,r0,D,a⟩:=J y;rw[yj _ _ _ (fJ g.nodes k) y,D] at o ⊢;have P:=(Pt.1 z).1;have t:=O m (UR z);have f: ∀j∈m.inn,j∈bK g.nodes k∧0≤j∧j≤(g.nodes.length:Int):=fun j f=>⟨F j f,(t j f).1,(t j f).2⟩
    have M:dq g.nodes [(q:Int)+1] (vals g.nodes.length W (bK g.nodes k)) (vals g.nodes.length R (bK g.nodes k))=
     if m.chk (m.inn.map W)≠0 then(m.chk (m.inn.map W),vals g.nodes.length W (bK g.nodes k),vals g.nodes.length R (bK g.nodes k)) else if bY m (m.inn.map R)<0 then(15,vals g.nodes.length W (bK g.nodes k),vals g.nodes.length R (bK g.nodes k))
     else(0,(vals g.nodes.length W (bK g.nodes k)).set (q+1) (m.wid (m.inn.map W)),(vals g.nodes.length R (bK g.nodes k)).set (q+1) (bY m (m.inn.map R))):=by
     conv=>lhs;unfold dq
     rw[show((q:Int)+1).toNat-1=q by omega,z];dsimp only;rw[qD f,qD f,show((q:Int)+1).toNat=q+1 by omega];rfl
    dsimp only at o ⊢;rw[M] at o ⊢;by_cases A:m.chk (m.inn.map W)≠0
    ·rw[if_pos A] at o;exact absurd o A
    ·rw[if_neg A] at o ⊢;by_cases I:bY m (m.inn.map R)<0
     ·rw[if_pos I] at o;exact absurd (show(15:Int)=0 from o) (by decide)
     ·rw[if_neg I] at o ⊢;have d: ∀(V:Int→Int) (v:Int) (l:List Int),(∀j∈l,j∈bK g.nodes k)→l.map (fun x=>if x=(q:Int)+1 then v else V x)=l.map V:=fun V v l D=>U8 fun j f=>if_neg (fun(h:j=(q:Int)+1)=>E (h▸D j f));have s: ∀(i:Nat) (n:Nd),g.nodes[i]? =some n→((i:Int)+1)∈bK g.nodes k→ ∀j∈n.inn,j∈bK g.nodes k:=fun i n en hi j f=>(qF g.nodes k i n en hi j f).1;have K: ∀(V:Int→Int) (v:Int),(vals g.nodes.length V (bK g.nodes k)).set (q+1) v=vals g.nodes.length (fun x=>if x=(q:Int)+1 then v else V x) (bK g.nodes k++[(q:Int)+1]):=fun V v=>by
       rw[←qE (n:=g.nodes.length) (V:=fun x=>if x=(q:Int)+1 then v else V x) (by omega) (if_pos rfl).symm];congr 1;refine Ju fun x _=> ?_;by_cases w:(x:Int)∈bK g.nodes k
       ·rw[if_pos w,if_pos w,if_neg (fun(h:(x:Int)=(q:Int)+1)=>E (h▸w))]
       ·rw[if_neg w,if_neg w]
      refine⟨fun x=>if x=(q:Int)+1 then m.wid (m.inn.map W) else W x,fun x=>if x=(q:Int)+1 then bY m (m.inn.map R) else R x,?_,?_,?_,fun i n en hi=> ?_⟩
      ·dsimp only;rw[if_neg (by omega)];exact w0
      ·dsimp only;rw[if_neg (by omega)];exact r0
      ·rw[K,K,e]
      ·dsimp only;rw[e] at hi;by_cases B:((i:Int)+1)∈bK g.nodes k
       ·have u: ¬((i:Int)+1=(q:Int)+1):=fun h=>E (h▸B);have b:=s i n en B;rw[d W _ _ b,d R _ _ b,if_neg u,if_neg u];exact a i n en B
       ·have C:i=q:=by
         rcases UX.1 hi with h|h
         ·exact absurd h B
         ·simp only[SH] at h;omega
        subst C;rw[z] at en;cases en;rw[d W _ _ F,d R _ _ F,if_pos rfl,if_pos rfl];exact⟨Decidable.byContradiction A,rfl,by omega,rfl⟩
 obtain⟨W,R,w0,r0,_,a⟩:=key g.nodes.length N;have b: ∀(i:Nat) (n:Nd),g.nodes[i]? =some n→((i:Int)+1)∈bK g.nodes g.nodes.length:=fun i n en=>by
  have:=(Pt.1 en).1;rw[dM];exact Vd _ (nO H (by omega) (by omega))
 exact⟨W,R,G,fun i n en j f _=>kN H en f,w0,r0,fun i n en=>(a i n en (b i n en)).1,fun i n en=>(a i n en (b i n en)).2.1,fun i n en=>(a i n en (b i n en)).2.2.1,fun i n en=>(a i n en (b i n en)).2.2.2⟩
end
section
theorem KZ {n:Nd} {rs:List Int} (h: ∀x∈rs,x=rs.getD 0 0):bY n rs=bY n [rs.getD 0 0]:=by
 have e:[rs.getD 0 0].getD 0 0=rs.getD 0 0:=rfl;have b: ∀x∈[rs.getD 0 0],x=[rs.getD 0 0].getD 0 0:=fun x d=>by simp only[SH] at d;rw[e];exact d
 rw[e] at b;have f: ¬ ¬(∀x∈rs,x=rs.getD 0 0):=fun a=>a h;have g: ¬ ¬(∀x∈[rs.getD 0 0],x=rs.getD 0 0):=fun a=>a b;unfold bY;rw[e,if_neg f,if_neg g]
theorem C3 {n:Nd} {l:List Int} (h:l.length=n.inn.length) (ws:List Int):({n with inn:=l}:Nd).chk ws=n.chk ws:=by
 unfold Nd.chk;show(if ws.length≠l.length∨ ¬bv 1 16 ws then(1:Int) else _)=_;rw[h];rfl
theorem Mf {n:Nd} {l:List Int} (h:l.length=n.inn.length) (ws:List Int):({n with inn:=l}:Nd).wid ws=n.wid ws:=by
 unfold Nd.wid;rw[C3 h]
theorem vn {g:Gr} (b:1≤g.nodes.length∧g.nodes.length≤12) (d:1≤g.width∧g.width≤16) (e:g.low≤g.high∧ -32768≤g.low∧g.high≤32767) (f:1≤g.out∧g.out≤(g.nodes.length:Int)) (a: ∀n∈g.nodes,bv 0 g.nodes.length n.inn):g.first=0:=by
 unfold Gr.first;rw[if_neg (by omega),if_neg (by omega),if_pos a]
theorem bM.map {g e:Gr} {W R:Int→Int} {pos:Int→Nat} (r:bM g W R pos) (φ:Int→Int) (h0:φ 0=0) (t:e.first=0) (z:e.width=g.width) (y: ∀x,0<x→x≤(e.nodes.length:Int)→0<φ x)
 (w: ∀(i:Nat) (a:Nd),e.nodes[i]? =some a→ ∃(k:Nat) (n:Nd),φ ((i:Int)+1)=(k:Int)+1∧g.nodes[k]? =some n∧a={n with inn:=a.inn}∧a.inn.map φ=n.inn):
 bM e (W ∘ φ) (R ∘ φ) (pos ∘ φ):=by
 have q:=(bR t).2.2.2.2.2;refine⟨t,fun i a en j u h=> ?_,?_,?_,fun i a en=> ?_,fun i a en=> ?_,fun i a en=> ?_,fun i a en=> ?_⟩
 ·obtain⟨k,n,f,b,d,m⟩:=w i a en;show pos (φ j)<pos (φ ((i:Int)+1));rw[f];have s:=q a (UR en) j u;exact r.rank k n b (φ j) (by rw[←m];exact U2 u) (y j h s.2)
 ·show W (φ 0)=_;rw[h0,r.w0,z]
 ·show R (φ 0)=_;rw[h0,r.r0]
 all_goals
  obtain⟨k,n,f,b,d,m⟩:=w i a en;have v:a.inn.length=n.inn.length:=by rw[←m,UT]
  have o: ∀V:Int→Int,a.inn.map (V ∘ φ)=n.inn.map V:=fun V=>by rw[←m,VP]
 ·rw[o,d,C3 v];exact r.chk k n b
 ·rw[o,d];show W (φ ((i:Int)+1))=_;rw[Mf v,f];exact r.wid k n b
 ·rw[o,d];exact r.rat k n b
 ·rw[o,d];show R (φ ((i:Int)+1))=_;rw[f];exact r.rid k n b
theorem E0 {xs:List Int} {v x:Int} (h0:0≤x) (a:x<(xs.length:Int)):at_ (xs++[v]) x=at_ xs x:=by
 unfold at_;rw[UV,UV,VC (by omega)]
theorem Mg (xs:List Int) (v:Int) {x:Int} (h:x=(xs.length:Int)):at_ (xs++[v]) x=v:=by
 subst h;unfold at_;rw[UV,oe,VE];rfl
theorem mn.each {w0:Int} (h0:dF w0 1 16) {ns:List Nd} {ws rs:List Int} (b:mn w0 ns ws rs):at_ ws 0=w0∧at_ rs 0=1∧ ∀(i:Nat) (n:Nd),ns[i]? =some n→(∀j∈n.inn,0≤j∧j≤(i:Int))∧n.chk (n.inn.map (at_ ws))=0∧at_ ws ((i:Int)+1)=n.wid (n.inn.map (at_ ws))∧0≤bY n (n.inn.map (at_ rs))∧at_ rs ((i:Int)+1)=bY n (n.inn.map (at_ rs)):=by
 induction b with
 |nil=>exact⟨rfl,rfl,fun i n h=>by simp at h⟩
 |snoc ns ws rs n Y X b st F=>
  obtain⟨P,i1,F⟩:=F;have J:=b.len;have d:=b.range h0;have same: ∀(xs:List Int) (v:Int) (l:List Int),(∀j∈l,0≤j∧j<(xs.length:Int))→l.map (at_ (xs++[v]))=l.map (at_ xs):=fun xs v l I=>U8 fun j a=>E0 (I j a).1 (I j a).2;refine⟨by rw[E0 (by omega) (by omega)];exact P,by rw[E0 (by omega) (by omega)];exact i1,fun i m s=> ?_⟩;by_cases hi:i<ns.length
  ·rw[VC hi] at s;obtain⟨G,Q,S,U,V⟩:=F i m s;have K:=same ws Y m.inn fun j a=>by have:=G j a;omega
   have M:=same rs X m.inn fun j a=>by have:=G j a;omega
   rw[K,M,E0 (by omega) (by omega),E0 (by omega) (by omega)];exact⟨G,Q,S,U,V⟩
  ·have B:i=ns.length:=by
    have:=(Pt.1 s).1;simp at this;omega
   subst B;rw[VE] at s;cases s;obtain⟨ins,z,f,O,q,rfl,rfl⟩:=st;have C:=ET f d.1;have u:=ES q (by simp) z C;have g:ins.getD 0 0∈ins:=by rw[cH (by omega)];exact UU _
   have E:=d.2 _ (KW (xs:=rs) (f _ g).1 (by have:=f _ g;omega));have A:=G0 q E.1;have w:n.inn=ins.take n.inn.length:=by
    rcases zS q with h|h
    ·rw[h,Wv]
    ·rw[h,U0];congr 1;omega
   have o:(ins.map (at_ ws)).take n.inn.length=n.inn.map (at_ ws):=by
    conv=>rhs;rw[w]
    rw[Xg]
   have e: ∀j∈n.inn,0≤j∧j<(ws.length:Int):=fun j a=>f j (rX q a);rw[same ws _ n.inn e,same rs _ n.inn fun j a=>by have:=e j a;omega,Mg ws _ (by omega),Mg rs _ (by omega)];rw[o] at u ⊢;have N:1≤n.inn.length:=by
    rcases zS q with h|h
    ·rw[h];omega
    ·rw[h,U0];omega
   have k:0<(n.inn.map (at_ rs)).length:=by rw[UT];omega
   have y: ∀x∈n.inn.map (at_ rs),x=at_ rs (ins.getD 0 0):=fun x D=>by
    obtain⟨j,a,rfl⟩:=U5.1 D;exact O j (rX q a)
   have H:(n.inn.map (at_ rs)).getD 0 0=at_ rs (ins.getD 0 0):=by
    rw[cH k];exact y _ (UU _)
   have t:bY n (n.inn.map (at_ rs))=bY n [at_ rs (ins.getD 0 0)]:=by
    rw[←H];exact KZ fun x D=>by rw[y x D,H]
   rw[t];exact⟨fun j a=>by have:=e j a;omega,u.1,rfl,A.1,rfl⟩
theorem mn.right {w0 lo hi out:Int} (h0:dF w0 1 16) {ns:List Nd} {ws rs:List Int} (b:mn w0 ns ws rs) (f:(⟨w0,lo,hi,ns,out⟩:Gr).first=0):bM ⟨w0,lo,hi,ns,out⟩ (at_ ws) (at_ rs) Int.toNat:=by
 obtain⟨d,e,a⟩:=b.each h0;exact⟨f,fun i n en j g h=>by have:=(a i n en).1 j g;omega,d,e,fun i n en=>(a i n en).2.1,fun i n en=>(a i n en).2.2.1,fun i n en=>(a i n en).2.2.2.1,fun i n en=>(a i n en).2.2.2.2⟩
theorem bM.turned {g:Gr} {W R:Int→Int} {pos:Int→Nat} (r:bM g W R pos):bM g.turned (W ∘ gJ g.nodes.length) (R ∘ gJ g.nodes.length) (pos ∘ gJ g.nodes.length):=by
 obtain⟨o,q,s,t,w,k⟩:=bR r.first;have e:g.turned.nodes.length=g.nodes.length:=by simp[Gr.turned]
 have a: ∀(i:Nat) (b:Nd),g.turned.nodes[i]? =some b→i<g.nodes.length∧ ∃n,g.nodes[g.nodes.length-1-i]? =some n∧b=Mk g.nodes.length n:=fun i b h=>by
  have hi:i<g.nodes.length:=by have:=(Pt.1 h).1;omega
  have h:(g.nodes.map (Mk g.nodes.length)).reverse[i]? =some b:=h;rw[List.getElem?_reverse (by rw[UT];exact hi),UT,UW,V8] at h;obtain⟨n,d,m⟩:=h;exact⟨hi,n,d,m.symm⟩
 refine r.map (gJ g.nodes.length) (by simp[gJ]) ?_ rfl (fun x z u=> ?_) (fun i b en=> ?_)
 ·refine vn ?_ s t ?_ fun b f=> ?_
  ·rw[e];exact⟨o,q⟩
  ·rw[e];show 1≤(g.nodes.length:Int)+1-g.out∧(g.nodes.length:Int)+1-g.out≤_;omega
  ·obtain⟨i,en⟩:=VN.1 f;obtain⟨_,n,d,rfl⟩:=a i b en;rw[e];intro x v;obtain⟨y,j,rfl⟩:=U5.1 v;have:=k n (UR d) y j;unfold gJ;split<;>omega
 ·rw[e] at u;unfold gJ;rw[if_pos (by omega)];omega
 ·obtain⟨hi,n,d,rfl⟩:=a i b en;refine⟨g.nodes.length-1-i,n,by unfold gJ;rw[if_pos (by omega)];omega,d,rfl,?_⟩;show(n.inn.map (gJ g.nodes.length)).map (gJ g.nodes.length)=n.inn;rw[VP]
  conv=>rhs;rw[←W8 n.inn]
  refine U8 fun y j=> ?_;have:=k n (UR d) y j;show gJ _ (gJ _ y)=y;by_cases h0:y>0
  ·unfold gJ;rw[if_pos h0,if_pos (by omega)];omega
  ·unfold gJ;rw[if_neg h0,if_neg h0]
theorem EU.right {g:Gr} (m:EU g): ∃W R pos,bM g W R pos:=by
 obtain⟨ns,ws,rs,out,f,d,a,i,s,b,o,j⟩:=m;have r:=b.right (lo:=g.low) (hi:=g.high) (out:=out) (show dF g.width 1 16 from⟨f.1,by have:=f.2;omega⟩)
  (vn (g:=⟨g.width,g.low,g.high,ns,out⟩) ⟨i,by show ns.length≤12;omega⟩ ⟨f.1,by show g.width≤16;have:=f.2;omega⟩ ⟨by show g.low≤g.high;have:=d.2;have:=a.1;omega,by show-32768≤g.low;have:=d.1;omega,by show g.high≤32767;have:=a.2;omega⟩ o fun n k x q=>b.inn n k x q)
 rcases j with e|e
 ·rw[e];exact⟨_,_,_,r⟩
 ·rw[e];exact⟨_,_,_,r.turned⟩
theorem Mi (f:Nat→Nat): ∀(l:List Nat) (x:Nat),x∈l→f x≤(l.map f).sum
 |[],x,h=>by simp at h
 |y::r,x,h=>by
  rw[Vg,Xh];rcases U7.1 h with rfl|h
  ·omega
  ·have:=Mi f r x h;omega
theorem bM.snoc {g:Gr} {W R:Int→Int} {pos:Int→Nat} (r:bM g W R pos) {n:Nd} {o:Int} (M:g.nodes.length<12) (e: ∀j∈n.inn,0≤j∧j≤(g.nodes.length:Int)) (N:1≤o∧o≤(g.nodes.length:Int)+1) (F:n.chk (n.inn.map W)=0) (G:0≤bY n (n.inn.map R)):
 ∃z y s,bM {g with nodes:=g.nodes++[n],out:=o} z y s:=by
 obtain⟨H,I,C,D,J,u⟩:=bR r.first;obtain⟨B,A⟩: ∃B,((List.range (g.nodes.length+1)).map fun x:Nat=>pos (x:Int)).sum=B:=⟨_,rfl⟩;have E: ∀j:Int,0≤j→j≤(g.nodes.length:Int)→pos j≤B:=fun j h0 K=>by
  have:=Mi (fun x:Nat=>pos (x:Int)) (List.range (g.nodes.length+1)) j.toNat (VD.2 (by omega));rw[A] at this;rw[show((j.toNat:Nat):Int)=j by omega] at this;exact this
 have d: ∀(V:Int→Int) (v:Int) (l:List Int),(∀j∈l,0≤j∧j≤(g.nodes.length:Int))→l.map (fun x=>if x=(g.nodes.length:Int)+1 then v else V x)=l.map V:=fun V v l h=>U8 fun j k=>if_neg (by have:=h j k;omega);have f: ∀(i:Nat) (m:Nd),(g.nodes++[n])[i]? =some m→(i<g.nodes.length∧g.nodes[i]? =some m)∨(i=g.nodes.length∧m=n):=fun i m h=>by
  by_cases hi:i<g.nodes.length
  ·rw[VC hi] at h;exact .inl ⟨hi,h⟩
  ·have t:i=g.nodes.length:=by
    have:=(Pt.1 h).1;simp at this;omega
   subst t;rw[VE] at h;cases h;exact .inr ⟨rfl,rfl⟩
 have b: ∀(i:Nat) (m:Nd),g.nodes[i]? =some m→ ∀j∈m.inn,0≤j∧j≤(g.nodes.length:Int):=fun i m a j k=>u m (UR a) j k;refine⟨fun x=>if x=(g.nodes.length:Int)+1 then n.wid (n.inn.map W) else W x,fun x=>if x=(g.nodes.length:Int)+1 then bY n (n.inn.map R) else R x,fun x=>if x=(g.nodes.length:Int)+1 then B+1 else pos x,?_,?_,?_,?_,?_,?_,?_,?_⟩
 ·refine vn ?_ C D ?_ fun m q x w=> ?_
  ·simp only[Rb,UY,Vf];omega
  ·simp only[Rb,UY,Vf];omega
  ·simp only[Rb,UY,Vf];rcases UX.1 q with q|q
   ·have:=u m q x w;omega
   ·simp only[SH] at q;subst q;have:=e x w;omega
 ·intro i m a j k h0
  try dsimp only
  rcases f i m a with ⟨hi,a⟩|⟨rfl,rfl⟩
  ·have:=b i m a j k;rw[if_neg (by omega),if_neg (by omega)];exact r.rank i m a j k h0
  ·have:=e j k;rw[if_neg (by omega),if_pos rfl];have:=E j (by omega) (by omega);omega
 ·try dsimp only
  rw[if_neg (by omega)];exact r.w0
 ·try dsimp only
  rw[if_neg (by omega)];exact r.r0
 all_goals
  intro i m a
  try dsimp only
  rcases f i m a with ⟨hi,a⟩|⟨rfl,rfl⟩
 ·rw[d W _ _ (b i m a)];exact r.chk i m a
 ·rw[d W _ _ e];exact F
 ·rw[d W _ _ (b i m a),if_neg (by omega)];exact r.wid i m a
 ·rw[d W _ _ e,if_pos rfl]
 ·rw[d R _ _ (b i m a)];exact r.rat i m a
 ·rw[d R _ _ e];exact G
 ·rw[d R _ _ (b i m a),if_neg (by omega)];exact r.rid i m a
 ·rw[d R _ _ e,if_pos rfl]
theorem Na {n:Nd} {ws:List Int} (h:n.chk ws=0):dF (n.wid ws) 1 16:=by
 obtain⟨b,j,u,v,y,z,A,B,C,d,i,e⟩:=dc h;unfold Nd.wid;rw[if_neg (fun o=>o h)];have m:ws.getD 0 0∈ws:=by rw[cH (by omega)];exact UU _
 split
 ·rename_i q;exact d.2.2.1 q
 ·split
  ·decide
  ·split
   ·exact b _ m
   ·rename_i E;refine⟨?_,e (by omega)⟩;cases ws with
    |nil=>simp at j
    |cons w r=>
     have D:=b w VG;have pos: ∀l:List Int,bv 1 16 l→0≤hG l:=by
      intro l
      induction l with
      |nil=>intro _;exact WR _
      |cons a t s=>
       intro g;have k:=g a VG;have:=s fun x f=>g x (Vd _ f);show 0≤a+hG t;omega
     have k:=pos r fun x f=>b x (Vd _ f);show 1≤w+hG r;omega
theorem bM.wide {g:Gr} {W R:Int→Int} {pos:Int→Nat} (r:bM g W R pos) {x:Int} (h0:0≤x) (b:x≤(g.nodes.length:Int)):dF (W x) 1 16:=by
 by_cases a:x=0
 ·subst a;rw[r.w0];exact(bR r.first).2.2.1
 ·obtain⟨i,rfl⟩: ∃i:Nat,x=(i:Int)+1:=⟨(x-1).toNat,by omega⟩;obtain⟨n,en⟩: ∃n,g.nodes[i]? =some n:=⟨_,aO (by omega)⟩;rw[r.wid i n en];exact Na (r.chk i n en)
theorem bM.rates {g:Gr} {W R:Int→Int} {pos:Int→Nat} (r:bM g W R pos) {x:Int} (h0:0≤x) (b:x≤(g.nodes.length:Int)):0≤R x:=by
 by_cases a:x=0
 ·subst a;rw[r.r0];decide
 ·obtain⟨i,rfl⟩: ∃i:Nat,x=(i:Int)+1:=⟨(x-1).toNat,by omega⟩;obtain⟨n,en⟩: ∃n,g.nodes[i]? =some n:=⟨_,aO (by omega)⟩;rw[r.rid i n en];exact r.rat i n en
theorem E1 {n:Nd} {w:Int} (i:n.kind=9∨n.kind=10∨n.kind=11) (hi:n.inn.length=1) (d:n.post=0) (b:n.else0) (e:n.sized w) (g:dF w 1 16):n.chk [w]=0:=by
 have f:bv 1 16 [w]:=fun x a=>by simp only[SH] at a;subst a;exact g
 exact ie hi.symm f ⟨by omega,by omega⟩ (fun h=>absurd h (by unfold cJ;omega)) (fun _=>rfl) d b e (fun h=>by omega) (fun h=>by omega)
theorem QK {n:Nd} {o w:Int} (b:n=vi o∨n=vj o∨n=EW o) (a:dF w 1 16):n.chk [w]=0:=by
 rcases b with rfl|rfl|rfl
 ·exact E1 (.inl rfl) rfl rfl (by show(vi 0).else0;decide) (by
   show(vi 0).sized w;exact⟨fun h=>absurd h (by decide),fun h=>absurd h (by decide),fun h=>absurd h (by decide),fun h=>absurd h (by decide),by decide⟩) a
 ·exact E1 (.inr (.inl rfl)) rfl rfl (by show(vj 0).else0;decide) (by
   show(vj 0).sized w;exact⟨fun h=>absurd h (by decide),fun h=>absurd h (by decide),fun h=>absurd h (by decide),fun h=>absurd h (by decide),by decide⟩) a
 ·exact E1 (.inr (.inr rfl)) rfl rfl (by show(EW 0).else0;decide) (by
   show(EW 0).sized w;exact⟨fun h=>absurd h (by decide),fun h=>absurd h (by decide),fun h=>absurd h (by decide),fun h=>absurd h (by decide),by decide⟩) a
theorem Pa {n:Nd} {o ρ:Int} (a:n=vi o∨n=vj o∨n=EW o) (h:0≤ρ):0≤bY n [ρ]:=by
 have e:bY n [ρ]=ρ:=by
  rcases a with rfl|rfl|rfl
  ·unfold bY;rw[if_neg (by simp),if_neg (fun h=>absurd h.2 (by show ¬(dW 9∨(9:Int)=5);decide)),if_neg (by show ¬((9:Int)=5);decide)];show ρ*1=ρ;omega
  ·unfold bY;rw[if_neg (by simp),if_neg (fun h=>absurd h.2 (by show ¬(dW 10∨(10:Int)=5);decide)),if_neg (by show ¬((10:Int)=5);decide)];show ρ*1=ρ;omega
  ·unfold bY;rw[if_neg (by simp),if_neg (fun h=>absurd h.2 (by show ¬(dW 11∨(11:Int)=5);decide)),if_neg (by show ¬((11:Int)=5);decide)];show ρ*1=ρ;omega
 rw[e];exact h
theorem bM.one {g:Gr} {W R:Int→Int} {pos:Int→Nat} (r:bM g W R pos) {n:Nd} (d:n=vi g.out∨n=vj g.out∨n=EW g.out) (m:g.nodes.length<12) {o:Int} (q:1≤o∧o≤(g.nodes.length:Int)+1):
 ∃k i a,bM {g with nodes:=g.nodes++[n],out:=o} k i a:=by
 have e:=(bR r.first).2.2.2.2.1;have b:n.inn=[g.out]:=by rcases d with rfl|rfl|rfl<;>rfl
 refine r.snoc m (fun j f=> ?_) q ?_ ?_
 ·rw[b] at f;simp only[SH] at f;omega
 ·rw[b];exact QK d (r.wide (by omega) e.2)
 ·rw[b];exact Pa d (r.rates (by omega) e.2)
theorem KX.right {b:Gr} (d: ∃W R pos,bM b W R pos) (j:b.nodes.length≤6) {k:Nat} {g:Gr} (m:KX b k g):(∃W R pos,bM g W R pos)∧g.nodes.length=b.nodes.length+k∨6<k:=by
 induction m with
 |base=>exact .inl ⟨d,rfl⟩
 | @step k g n m f i=>
   rcases i with ⟨⟨W,R,pos,r⟩,a⟩|h
   ·by_cases e:6<k+1
    ·exact .inr e
    ·left;refine⟨r.one (f.imp id .inl) (by omega) (by omega),?_⟩;show(g.nodes++[n]).length=_;rw[Rb,a];rfl
   ·exact .inr (by omega)
theorem C2.right {g:Gr} (m:C2 g): ∃W R pos,bM g W R pos:=by
 obtain⟨b,k,j,a,n,f,e⟩:=m;rcases f.right a.right a.len.2 with ⟨⟨W,R,pos,r⟩,d⟩|h
 ·rcases e with rfl|rfl
  ·exact⟨_,_,_,r⟩
  ·have i:=(bR r.first).2.2.2.2.1;have:=a.len.2;exact r.one (.inr (.inr rfl)) (by omega) (by omega)
 ·omega
end
end Go.Proofs.YtdhpmegbmjoekaaGreatDoor.G

