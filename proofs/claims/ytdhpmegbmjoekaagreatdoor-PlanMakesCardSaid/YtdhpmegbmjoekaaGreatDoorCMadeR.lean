/- CBuilt CMade5 CLivP CMade21 CRight CMadeR, in one text. -/
import Derived.Test.YtdhpmegbmjoekaaGreatDoorCMade4
import Derived.Test.YtdhpmegbmjoekaaGreatDoorCFused
set_option linter.unusedVariables false
set_option linter.unusedSimpArgs false
namespace Go.Proofs.YtdhpmegbmjoekaaGreatDoor.G
open Go Go.Sh
section
def at_(xs:List Int)(x:Int):Int:=xs.getD x.toNat 0
theorem gX{n:Nd}{ws:List Int}(d:ws.length=n.inn.length)(e:bv 1 16 ws)(f:dB n.kind 1 12)(g:dm n.kind→2≤ws.length∧ws.length≤4)(i: ¬dm n.kind→ws.length=1)(j:n.post=0)(k:n.else0)(m:n.sized (ws.getD 0 0))
 (a:n.kind=7→ ∀x∈ws,x=ws.getD 0 0) (b:n.kind=8→gW ws≤16):n.chk ws=0:=by
 unfold Nd.chk;rw[if_neg (by rintro(h|h);exact h d;exact h e),if_neg,if_neg (fun h=>h m),if_neg (fun h=>h.2 (a h.1)),if_neg (fun h=>by have:=b h.1;omega)];rintro(h|h|h|h|h|h)
 ·exact h f
 ·exact h.2 (g h.1)
 ·exact h.2 (i h.1)
 ·omega
 ·exact h.1 j
 ·exact h k
theorem mz{lo hi b a:Int}{xs:List Int}(h:bv lo hi xs)(e:b≤lo)(f:hi≤a):bv b a xs:=fun x d=>by have:=h x d;omega
theorem DM{ins ws:List Int}{st:Bool}{n:Nd}(g:GoodN ins ws st n)(y:ws.length=ins.length)(M:ins.length=1∨ins.length=2)(x:bv 1 16 ws):
 n.chk (ws.take n.inn.length)=0∧dB (n.wid (ws.take n.inn.length)) 1 16:=by
 have D: ∃w r,ws=w::r:=by
  cases ws with
  |nil=>simp at y;omega
  |cons w r=>exact⟨w,r,rfl⟩
 obtain⟨w,r,rfl⟩:=D;have o:1≤w∧w≤16:=x w (by simp);have f: ∀k,(ins.take 1).length=k→(w::r).take k=[w]:=fun k K=>by
  have:k=1:=by rw[←K,VV];simp at y;omega
  rw[this];rfl
 have e:(ins.take 1).length=1:=by rw[VV];omega
 have d:bv 1 16 [w]:=by rw[cn];exact⟨o,cK _ _⟩
 have a: ∀{n:Nd}{u:List Int},n.chk u=0→n.wid u=if wide n.kind then n.width else if n.kind=11 then 1 else if n.kind≠8 then u.getD 0 0 else gW u:=fun{n u} h=>by unfold Nd.wid;rw[if_neg (by omega)]
 have z:(w::r).getD 0 0=w:=rfl;cases g with
 |add st A v=>
  have B:(w::r).take ins.length=w::r:=py (by omega);have b:Nd.chk ⟨7,ins,0,0,0,0,0,0,[],[],0,0,0,0,0⟩ (w::r)=0:=by
   refine gX y x (by show dB 7 1 12;omega) (fun _=>by omega) (fun h=>absurd (.inl rfl) h) rfl ⟨fun _=>⟨rfl,rfl,rfl,rfl⟩,fun _=>rfl,fun _=>rfl,fun _=>⟨rfl,rfl⟩,.inr ⟨rfl,rfl⟩,.inr ⟨rfl,rfl⟩⟩
    ⟨fun h=>absurd h (by first|(dsimp only;decide)|decide|dsimp only),fun h=>absurd h (by first|(dsimp only;decide)|decide|dsimp only),fun h=>absurd h (by first|(dsimp only;decide)|decide|dsimp only),fun h=>absurd h (by first|(dsimp only;decide)|decide|dsimp only),by first|(dsimp only;decide)|decide|dsimp only⟩ (fun _=>v) (fun h=>absurd h (by first|(dsimp only;decide)|decide|dsimp only))
  rw[B];refine⟨b,?_⟩;rw[a b,if_neg (by first|(dsimp only;decide)|decide|dsimp only),if_neg (by first|(dsimp only;decide)|decide|dsimp only),if_pos (by first|(dsimp only;decide)|decide|dsimp only)];exact o
 |join st A m=>
  have B:(w::r).take ins.length=w::r:=py (by omega);have b:Nd.chk ⟨8,ins,0,0,0,0,0,0,[],[],0,0,0,0,0⟩ (w::r)=0:=by
   refine gX y x (by show dB 8 1 12;omega) (fun _=>by omega) (fun h=>absurd (.inr rfl) h) rfl ⟨fun _=>⟨rfl,rfl,rfl,rfl⟩,fun _=>rfl,fun _=>rfl,fun _=>⟨rfl,rfl⟩,.inr ⟨rfl,rfl⟩,.inr ⟨rfl,rfl⟩⟩
    ⟨fun h=>absurd h (by first|(dsimp only;decide)|decide|dsimp only),fun h=>absurd h (by first|(dsimp only;decide)|decide|dsimp only),fun h=>absurd h (by first|(dsimp only;decide)|decide|dsimp only),fun h=>absurd h (by first|(dsimp only;decide)|decide|dsimp only),by first|(dsimp only;decide)|decide|dsimp only⟩ (fun h=>absurd h (by first|(dsimp only;decide)|decide|dsimp only)) (fun _=>m)
  rw[B];refine⟨b,?_⟩;rw[a b,if_neg (by first|(dsimp only;decide)|decide|dsimp only),if_neg (by first|(dsimp only;decide)|decide|dsimp only),if_neg (by first|(dsimp only;decide)|decide|dsimp only)];rw[cn]at x;have:=jD x.2;simp only[gW]at m ⊢;omega
 |conv width size step gap left right ww bb i C j q s t=>
  obtain⟨E,F,G,H,I⟩:=i;rw[z]at j;have b:Nd.chk ⟨1,ins.take 1,width,size,step,gap,left,right,ww,bb,0,0,0,0,0⟩ [w]=0:=by
   refine gX e.symm d (by show dB 1 1 12;omega) (fun h=>absurd h (by first|(dsimp only;decide)|decide|dsimp only)) (fun h=>rfl) rfl ⟨fun h=>absurd (.inl rfl) h,fun h=>absurd (.inl rfl) h.1,fun h=>absurd (.inl rfl) h,fun h=>absurd (.inl rfl) h,.inr ⟨rfl,rfl⟩,.inr ⟨rfl,rfl⟩⟩
    ⟨fun _=>by show dB size 1 8;omega,fun _=>⟨by show dB step 1 4;omega,by show dB gap 1 4;omega,?_,?_⟩,fun _=>by show dB width 1 16;omega,fun _=>⟨j,q,mz s (by first|(dsimp only;decide)|decide|dsimp only) (by first|(dsimp only;decide)|decide|dsimp only),mz t (by first|(dsimp only;decide)|decide|dsimp only) (by first|(dsimp only;decide)|decide|dsimp only)⟩,by first|(dsimp only;decide)|decide|dsimp only⟩ (fun h=>absurd h (by first|(dsimp only;decide)|decide|dsimp only)) (fun h=>absurd h (by first|(dsimp only;decide)|decide|dsimp only))
   ·show 0≤left∧left<(size-1)*gap+1;omega
   ·show 0≤right∧right<(size-1)*gap+1;omega
  rw[f _ rfl];refine⟨b,?_⟩;rw[a b,if_pos (by first|(dsimp only;decide)|decide|dsimp only)];show dB width 1 16;omega
 |depth size step gap left right ww bb i j q s t=>
  obtain⟨E,F,G,H,I⟩:=i;rw[z]at j q;have b:Nd.chk ⟨2,ins.take 1,0,size,step,gap,left,right,ww,bb,0,0,0,0,0⟩ [w]=0:=by
   refine gX e.symm d (by show dB 2 1 12;omega) (fun h=>absurd h (by first|(dsimp only;decide)|decide|dsimp only)) (fun h=>rfl) rfl ⟨fun h=>absurd (.inr (.inl rfl)) h,fun h=>absurd (.inr (.inl rfl)) h.1,fun h=>rfl,fun h=>absurd (.inr (.inl rfl)) h,.inr ⟨rfl,rfl⟩,.inr ⟨rfl,rfl⟩⟩
    ⟨fun _=>by show dB size 1 8;omega,fun _=>⟨by show dB step 1 4;omega,by show dB gap 1 4;omega,?_,?_⟩,fun h=>absurd h (by first|(dsimp only;decide)|decide|dsimp only),fun _=>⟨?_,q,mz s (by first|(dsimp only;decide)|decide|dsimp only) (by first|(dsimp only;decide)|decide|dsimp only),mz t (by first|(dsimp only;decide)|decide|dsimp only) (by first|(dsimp only;decide)|decide|dsimp only)⟩,by first|(dsimp only;decide)|decide|dsimp only⟩ (fun h=>absurd h (by first|(dsimp only;decide)|decide|dsimp only)) (fun h=>absurd h (by first|(dsimp only;decide)|decide|dsimp only))
   ·show 0≤left∧left<(size-1)*gap+1;omega
   ·show 0≤right∧right<(size-1)*gap+1;omega
   ·show(ww.length:Int)=w*size;rw[j,XQ]
  rw[f _ rfl];refine⟨b,?_⟩;rw[a b,if_neg (by first|(dsimp only;decide)|decide|dsimp only),if_neg (by first|(dsimp only;decide)|decide|dsimp only),if_pos (by first|(dsimp only;decide)|decide|dsimp only)];exact o
 |pool k size step gap left right K i=>
  obtain⟨E,F,G,H,I⟩:=i;have b:Nd.chk ⟨k,ins.take 1,0,size,step,gap,left,right,[],[],0,0,0,0,0⟩ [w]=0:=by
   refine gX e.symm d (by show dB k 1 12;omega) (fun h=>absurd h (by show ¬dm k;omega)) (fun h=>rfl) rfl ⟨fun h=>absurd (by show dp k;omega) h,fun h=>absurd (by show dp k;omega) h.1,fun h=>rfl,fun h=>⟨rfl,rfl⟩,.inr ⟨rfl,rfl⟩,.inr ⟨rfl,rfl⟩⟩
    ⟨fun _=>by show dB size 1 8;omega,fun _=>⟨by show dB step 1 4;omega,by show dB gap 1 4;omega,?_,?_⟩,fun h=>absurd h (by show ¬wide k;omega),fun h=>absurd h (by show ¬gq k;omega),by first|(dsimp only;decide)|decide|dsimp only⟩ (fun h=>absurd h (by show ¬k=7;omega)) (fun h=>absurd h (by show ¬k=8;omega))
   ·have:Nd.span ⟨k,ins.take 1,0,size,step,gap,left,right,[],[],0,0,0,0,0⟩=(size-1)*gap+1:=by
     show wk k size gap=_;unfold wk;rw[if_neg (by omega),if_pos (by omega)]
    rw[this];show 0≤left∧left<(size-1)*gap+1;omega
   ·have:Nd.span ⟨k,ins.take 1,0,size,step,gap,left,right,[],[],0,0,0,0,0⟩=(size-1)*gap+1:=by
     show wk k size gap=_;unfold wk;rw[if_neg (by omega),if_pos (by omega)]
    rw[this];show 0≤right∧right<(size-1)*gap+1;omega
  rw[f _ rfl];refine⟨b,?_⟩;rw[a b,if_neg (by show ¬wide k;omega),if_neg (by show ¬k=11;omega),if_pos (by show k≠8;omega)];exact o
 |smooth size N=>
  have b:Nd.chk ⟨12,ins.take 1,0,size,0,0,0,0,[],[],0,0,0,0,0⟩ [w]=0:=by
   refine gX e.symm d (by show dB 12 1 12;omega) (fun h=>absurd h (by first|(dsimp only;decide)|decide|dsimp only)) (fun h=>rfl) rfl ⟨fun h=>⟨rfl,rfl,rfl,rfl⟩,fun h=>absurd rfl h.2,fun h=>rfl,fun h=>⟨rfl,rfl⟩,.inr ⟨rfl,rfl⟩,.inr ⟨rfl,rfl⟩⟩
    ⟨fun _=>by show dB size 1 8;omega,fun h=>absurd h (by first|(dsimp only;decide)|decide|dsimp only),fun h=>absurd h (by first|(dsimp only;decide)|decide|dsimp only),fun h=>absurd h (by first|(dsimp only;decide)|decide|dsimp only),by first|(dsimp only;decide)|decide|dsimp only⟩ (fun h=>absurd h (by first|(dsimp only;decide)|decide|dsimp only)) (fun h=>absurd h (by first|(dsimp only;decide)|decide|dsimp only))
  rw[f _ rfl];refine⟨b,?_⟩;rw[a b,if_neg (by first|(dsimp only;decide)|decide|dsimp only),if_neg (by first|(dsimp only;decide)|decide|dsimp only),if_pos (by first|(dsimp only;decide)|decide|dsimp only)];exact o
 |whole=>
  have b:Nd.chk ⟨5,ins.take 1,0,0,0,0,0,0,[],[],0,0,0,0,0⟩ [w]=0:=by
   refine gX e.symm d (by show dB 5 1 12;omega) (fun h=>absurd h (by first|(dsimp only;decide)|decide|dsimp only)) (fun h=>rfl) rfl ⟨fun h=>⟨rfl,rfl,rfl,rfl⟩,fun h=>rfl,fun h=>rfl,fun h=>⟨rfl,rfl⟩,.inr ⟨rfl,rfl⟩,.inr ⟨rfl,rfl⟩⟩
    ⟨fun h=>absurd h (by first|(dsimp only;decide)|decide|dsimp only),fun h=>absurd h (by first|(dsimp only;decide)|decide|dsimp only),fun h=>absurd h (by first|(dsimp only;decide)|decide|dsimp only),fun h=>absurd h (by first|(dsimp only;decide)|decide|dsimp only),by first|(dsimp only;decide)|decide|dsimp only⟩ (fun h=>absurd h (by first|(dsimp only;decide)|decide|dsimp only)) (fun h=>absurd h (by first|(dsimp only;decide)|decide|dsimp only))
  rw[f _ rfl];refine⟨b,?_⟩;rw[a b,if_neg (by first|(dsimp only;decide)|decide|dsimp only),if_neg (by first|(dsimp only;decide)|decide|dsimp only),if_pos (by first|(dsimp only;decide)|decide|dsimp only)];exact o
 |dense st width ww bb C j q s t=>
  rw[z]at j;have b:Nd.chk ⟨6,ins.take 1,width,0,0,0,0,0,ww,bb,0,0,0,0,0⟩ [w]=0:=by
   refine gX e.symm d (by show dB 6 1 12;omega) (fun h=>absurd h (by first|(dsimp only;decide)|decide|dsimp only)) (fun h=>rfl) rfl ⟨fun h=>⟨rfl,rfl,rfl,rfl⟩,fun h=>rfl,fun h=>absurd (.inr rfl) h,fun h=>absurd (.inr (.inr rfl)) h,.inr ⟨rfl,rfl⟩,.inr ⟨rfl,rfl⟩⟩
    ⟨fun h=>absurd h (by first|(dsimp only;decide)|decide|dsimp only),fun h=>absurd h (by first|(dsimp only;decide)|decide|dsimp only),fun _=>by show dB width 1 16;omega,fun _=>⟨j,q,mz s (by first|(dsimp only;decide)|decide|dsimp only) (by first|(dsimp only;decide)|decide|dsimp only),mz t (by first|(dsimp only;decide)|decide|dsimp only) (by first|(dsimp only;decide)|decide|dsimp only)⟩,by first|(dsimp only;decide)|decide|dsimp only⟩ (fun h=>absurd h (by first|(dsimp only;decide)|decide|dsimp only)) (fun h=>absurd h (by first|(dsimp only;decide)|decide|dsimp only))
  rw[f _ rfl];refine⟨b,?_⟩;rw[a b,if_pos (by first|(dsimp only;decide)|decide|dsimp only)];show dB width 1 16;omega
 |clamp st low high J A=>
  have b:Nd.chk ⟨9,ins.take 1,0,0,0,0,0,0,[],[],0,0,low,high,0⟩ [w]=0:=by
   refine gX e.symm d (by show dB 9 1 12;omega) (fun h=>absurd h (by first|(dsimp only;decide)|decide|dsimp only)) (fun h=>rfl) rfl ⟨fun h=>⟨rfl,rfl,rfl,rfl⟩,fun h=>rfl,fun h=>rfl,fun h=>⟨rfl,rfl⟩,.inr ⟨rfl,rfl⟩,.inl (.inl rfl)⟩
    ⟨fun h=>absurd h (by first|(dsimp only;decide)|decide|dsimp only),fun h=>absurd h (by first|(dsimp only;decide)|decide|dsimp only),fun h=>absurd h (by first|(dsimp only;decide)|decide|dsimp only),fun h=>absurd h (by first|(dsimp only;decide)|decide|dsimp only),by first|(dsimp only;decide)|decide|dsimp only,by first|(dsimp only;decide)|decide|dsimp only,?_,?_,?_⟩ (fun h=>absurd h (by first|(dsimp only;decide)|decide|dsimp only)) (fun h=>absurd h (by first|(dsimp only;decide)|decide|dsimp only))
   ·show-2147483648≤low∧low≤2147483647;omega
   ·show-2147483648≤high∧high≤2147483647;omega
   ·show low≤high;omega
  rw[f _ rfl];refine⟨b,?_⟩;rw[a b,if_neg (by first|(dsimp only;decide)|decide|dsimp only),if_neg (by first|(dsimp only;decide)|decide|dsimp only),if_pos (by first|(dsimp only;decide)|decide|dsimp only)];exact o
 |scale st mult shift J A=>
  have b:Nd.chk ⟨10,ins.take 1,0,0,0,0,0,0,[],[],mult,shift,0,0,0⟩ [w]=0:=by
   refine gX e.symm d (by show dB 10 1 12;omega) (fun h=>absurd h (by first|(dsimp only;decide)|decide|dsimp only)) (fun h=>rfl) rfl ⟨fun h=>⟨rfl,rfl,rfl,rfl⟩,fun h=>rfl,fun h=>rfl,fun h=>⟨rfl,rfl⟩,.inl (.inl rfl),.inr ⟨rfl,rfl⟩⟩
    ⟨fun h=>absurd h (by first|(dsimp only;decide)|decide|dsimp only),fun h=>absurd h (by first|(dsimp only;decide)|decide|dsimp only),fun h=>absurd h (by first|(dsimp only;decide)|decide|dsimp only),fun h=>absurd h (by first|(dsimp only;decide)|decide|dsimp only),?_,?_,by first|(dsimp only;decide)|decide|dsimp only,by first|(dsimp only;decide)|decide|dsimp only,by first|(dsimp only;decide)|decide|dsimp only⟩ (fun h=>absurd h (by first|(dsimp only;decide)|decide|dsimp only)) (fun h=>absurd h (by first|(dsimp only;decide)|decide|dsimp only))
   ·exact J
   ·show 0≤shift∧shift≤30;omega
  rw[f _ rfl];refine⟨b,?_⟩;rw[a b,if_neg (by first|(dsimp only;decide)|decide|dsimp only),if_neg (by first|(dsimp only;decide)|decide|dsimp only),if_pos (by first|(dsimp only;decide)|decide|dsimp only)];exact o
 |best st=>
  have b:Nd.chk ⟨11,ins.take 1,0,0,0,0,0,0,[],[],0,0,0,0,0⟩ [w]=0:=by
   refine gX e.symm d (by show dB 11 1 12;omega) (fun h=>absurd h (by first|(dsimp only;decide)|decide|dsimp only)) (fun h=>rfl) rfl ⟨fun h=>⟨rfl,rfl,rfl,rfl⟩,fun h=>rfl,fun h=>rfl,fun h=>⟨rfl,rfl⟩,.inr ⟨rfl,rfl⟩,.inr ⟨rfl,rfl⟩⟩
    ⟨fun h=>absurd h (by first|(dsimp only;decide)|decide|dsimp only),fun h=>absurd h (by first|(dsimp only;decide)|decide|dsimp only),fun h=>absurd h (by first|(dsimp only;decide)|decide|dsimp only),fun h=>absurd h (by first|(dsimp only;decide)|decide|dsimp only),by first|(dsimp only;decide)|decide|dsimp only⟩ (fun h=>absurd h (by first|(dsimp only;decide)|decide|dsimp only)) (fun h=>absurd h (by first|(dsimp only;decide)|decide|dsimp only))
  rw[f _ rfl];refine⟨b,?_⟩;rw[a b,if_neg (by first|(dsimp only;decide)|decide|dsimp only),if_pos (by first|(dsimp only;decide)|decide|dsimp only)];decide
theorem FV{ins ws:List Int}{ρ:Int}{n:Nd}(g:GoodN ins ws (decide (ρ=0)) n)(h0:0≤ρ):0≤cf n [ρ]∧cf n [ρ]≤3*ρ:=by
 have e:cf n [ρ]=if ρ=0∧(iK n.kind∨n.kind=5) then-1 else if n.kind=5 then 0 else ρ*dv n.kind n.step:=by
  unfold cf;have:[ρ].getD 0 0=ρ:=rfl;rw[this,if_neg (by simp)]
 rw[e];have key:(dp n.kind→ρ≠0∧1≤n.step∧n.step≤3)→(n.kind=12∨n.kind=5→ρ≠0)→0≤(if ρ=0∧(iK n.kind∨n.kind=5) then-1 else if n.kind=5 then 0 else ρ*dv n.kind n.step)∧(if ρ=0∧(iK n.kind∨n.kind=5) then-1 else if n.kind=5 then 0 else ρ*dv n.kind n.step)≤3*ρ:=by
  intro j m;rw[if_neg (by rintro⟨a,(b|b)|b⟩;exact(j b).1 a;exact m (.inl b) a;exact m (.inr b) a)];split
  ·omega
  ·unfold dv;split
   ·rename_i q;obtain⟨_,s,o⟩:=j q;refine⟨WA h0 (by omega),?_⟩;have:=Xs o h0;omega
   ·omega
 generalize i:decide (ρ=0)=st at g;have d:st=false→ρ≠0:=fun h=>by rw[h]at i;simpa using i
 cases g with
 |conv width size step gap left right ww bb f=>exact key (fun _=>⟨d rfl,f.2.1⟩) (fun _=>d rfl)
 |depth size step gap left right ww bb f=>exact key (fun _=>⟨d rfl,f.2.1⟩) (fun _=>d rfl)
 |pool k size step gap left right t f=>exact key (fun _=>⟨d rfl,f.2.1⟩) (fun _=>d rfl)
 |smooth size u=>exact key (fun h=>absurd h (by first|(dsimp only;decide)|decide|dsimp only)) (fun _=>d rfl)
 |whole=>exact key (fun h=>absurd h (by first|(dsimp only;decide)|decide|dsimp only)) (fun _=>d rfl)
 |add=>exact key (fun h=>absurd h (by first|(dsimp only;decide)|decide|dsimp only)) (fun h=>absurd h (by first|(dsimp only;decide)|decide|dsimp only))
 |join=>exact key (fun h=>absurd h (by first|(dsimp only;decide)|decide|dsimp only)) (fun h=>absurd h (by first|(dsimp only;decide)|decide|dsimp only))
 |dense=>exact key (fun h=>absurd h (by first|(dsimp only;decide)|decide|dsimp only)) (fun h=>absurd h (by first|(dsimp only;decide)|decide|dsimp only))
 |clamp=>exact key (fun h=>absurd h (by first|(dsimp only;decide)|decide|dsimp only)) (fun h=>absurd h (by first|(dsimp only;decide)|decide|dsimp only))
 |scale=>exact key (fun h=>absurd h (by first|(dsimp only;decide)|decide|dsimp only)) (fun h=>absurd h (by first|(dsimp only;decide)|decide|dsimp only))
 |best=>exact key (fun h=>absurd h (by first|(dsimp only;decide)|decide|dsimp only)) (fun h=>absurd h (by first|(dsimp only;decide)|decide|dsimp only))
def Ud(ws rs:List Int)(n:Nd)(b a:Int):Prop:=
 ∃ins:List Int,(ins.length=1∨ins.length=2)∧(∀x∈ins,0≤x∧x<ws.length)∧(∀x∈ins,at_ rs x=at_ rs (ins.getD 0 0))∧GoodN ins (ins.map (at_ ws)) (decide (at_ rs (ins.getD 0 0)=0)) n∧
  b=n.wid ((ins.map (at_ ws)).take n.inn.length)∧a=cf n [at_ rs (ins.getD 0 0)]
inductive lI (w0:Int):List Nd→List Int→List Int→Prop
 |nil:lI w0 [] [w0] [1]
 |snoc (ns:List Nd) (ws rs:List Int) (n:Nd) (w' r':Int):lI w0 ns ws rs→Ud ws rs n w' r'→lI w0 (ns++[n]) (ws++[w']) (rs++[r'])
theorem Lj{xs:List Int}{x:Int}(h0:0≤x)(a:x<xs.length):at_ xs x∈xs:=by
 unfold at_;rw[cA (by omega)];exact VN _
theorem lI.len{w0:Int}{ns:List Nd}{ws rs:List Int}(b:lI w0 ns ws rs):ws.length=ns.length+1∧rs.length=ns.length+1:=by
 induction b with
 |nil=>exact⟨rfl,rfl⟩
 |snoc ns ws rs n e d b st a=>simp;omega
theorem DN{ws:List Int}{ins:List Int}(hi: ∀x∈ins,0≤x∧x<(ws.length:Int))(b:bv 1 16 ws):bv 1 16 (ins.map (at_ ws)):=fun y d=>by
 obtain⟨x,a,rfl⟩:=VZ.1 d;exact b _ (Lj (hi x a).1 (hi x a).2)
theorem lI.range{w0:Int}(h0:dB w0 1 16){ns:List Nd}{ws rs:List Int}(b:lI w0 ns ws rs):bv 1 16 ws∧bv 0 (3 ^ ns.length) rs:=by
 induction b with
 |nil=>exact⟨by rw[cn];exact⟨h0,cK _ _⟩,by rw[cn];exact⟨by decide,cK _ _⟩⟩
 |snoc ns ws rs n z y b st v=>
  obtain⟨e,f⟩:=v;have q:=b.len;obtain⟨ins,g,hi,w,o,rfl,rfl⟩:=st;have i:=DM o (by simp) g (DN hi e);have d:ins.getD 0 0∈ins:=by rw[cA (by omega)];exact VN _
  have j:=hi _ d;have k:=f _ (Lj (xs:=rs) j.1 (by omega));have s:=FV o k.1;have t:(3:Int) ^ (ns.length+1)=3 ^ ns.length*3:=Xt 3 ns.length;have u:(1:Int)≤3 ^ ns.length:=by
   have:=XV (n:=3) (m:=ns.length) (by decide);omega
  refine⟨fun x a=> ?_,fun x a=> ?_⟩
  ·rcases VW.1 a with a|a
   ·exact e x a
   ·simp only[VK]at a;subst a;exact i.2
  ·rw[Tz,WQ,t];rcases VW.1 a with a|a
   ·have:=f x a;omega
   ·simp only[VK]at a;subst a;omega
def DO(g:Gr):Prop:=
 ∃(ns:List Nd)(ws rs:List Int)(out:Int),dB g.width 1 3∧dB g.low (-199) 0∧dB g.high 0 199∧1≤ns.length∧ns.length≤6∧lI g.width ns ws rs∧dB out 1 ns.length∧
  (g=⟨g.width,g.low,g.high,ns,out⟩∨g=(⟨g.width,g.low,g.high,ns,out⟩:Gr).turned)
end
section
theorem ym{ins ws:List Int}{st:Bool}{n:Nd}(g:GoodN ins ws st n):n.inn=ins∨n.inn=ins.take 1:=by
 cases g<;>first|exact .inl rfl|exact .inr rfl
theorem rA{ins ws:List Int}{st:Bool}{n:Nd}(g:GoodN ins ws st n){x:Int}(a:x∈n.inn):x∈ins:=by
 rcases ym g with h|h
 ·rw[h]at a;exact a
 ·rw[h]at a;exact W9 a
theorem lI.inn{w0:Int}{ns:List Nd}{ws rs:List Int}(b:lI w0 ns ws rs): ∀n∈ns,∀x∈n.inn,0≤x∧x≤(ns.length:Int):=by
 induction b with
 |nil=>intro n g;cases g
 |snoc ns ws rs n k j b st i=>
  intro m a x d;rw[Tz,WQ];rcases VW.1 a with a|a
  ·have:=i m a x d;omega
  ·simp only[VK]at a;subst a;obtain⟨ins,e,hi,_,f,_⟩:=st;have:=hi x (rA f d);have:=b.len.1;omega
def I4(h:ah)(v:Value)(b:ah):Prop:=
 ∃a:Gv,v=a.v∧a.ok∧DO a.gr∧(∀n∈a.ns,n.inn.l≤2 ^ 20∧n.weights.l≤2 ^ 20∧n.bias.l≤2 ^ 20)∧aG h no b [own 15 a.p a.l a.c (aD a.ns),aM a.ns] []
structure J0 where
 a:Nat
 q:Option Addr
 k:Nat
 d:Nat
 ns:List Nv
 wp:Option Addr
 wl:Nat
 wc:Nat
 ws:List Int
 rp:Option Addr
 rl:Nat
 rc:Nat
 rs:List Int
section
variable {h:ah} {r gb t2 l c:Nat} {p:Option Addr} {L:List Int} {w0 lo hi out:Int}
abbrev J0.fs(r gb t2:Nat)(p:Option Addr)(l c:Nat)(w0 lo hi out:Int)(m:J0):List bc:=
 [sB r p l c m.a,aJ gb (⟨w0,lo,hi,m.q,m.k,m.d,out,[]⟩:Gv).cells,own 15 m.q m.k m.d (aD m.ns),aM m.ns,own 1 m.wp m.wl m.wc (az m.ws),own 1 m.rp m.rl m.rc (az m.rs),aJ t2 (aK bz (zT bz))]
def J0.ok(l:Nat)(w0:Int)(m:J0):Prop:=
 m.a≤l∧m.ns.length=m.k∧m.ws.length=m.wl∧m.rs.length=m.rl∧lI w0 (m.ns.map Nv.nd) m.ws m.rs∧ ∀n∈m.ns,n.ok∧n.inn.l≤2 ^ 20∧n.weights.l≤2 ^ 20∧n.bias.l≤2 ^ 20
theorem J0.len{m:J0}(ok:m.ok l w0):m.wl=m.k+1∧m.rl=m.k+1:=by
 obtain⟨_,b,d,e,a,_⟩:=ok;have:=a.len;rw[Ug]at this;omega
theorem mA(A:List Nv)(n:Nv):aM (A++[n])=cM (A.map Nv.rows++[n.rows]):=by unfold aM;rw[V2];rfl
set_option maxHeartbeats 2000000 in
theorem PY{g:ah}{m:J0}{ip o:Option Addr}{il ic y u dm a:Nat}{B:Bool}{ins:List Int}
 (ok:m.ok l w0) (br:dB w0 1 3) (hk:m.k<6) (hL:L.length=l) (hl:l<2 ^ 62)
 {K:((Addr×Addr×Addr×Bool×Int×(Option Addr×Nat×Nat)×(Option Addr×Nat×Nat)×Int×Unit))→ah→Prop} {Q:Value→ah→Prop}
 (S:aG h no g ([sB r p l c m.a,aJ gb (⟨w0,lo,hi,m.q,m.k,m.d,out,[]⟩:Gv).cells,own 15 m.q m.k m.d (aD m.ns),aM m.ns,own 1 m.wp m.wl m.wc (az m.ws),own 1 m.rp m.rl m.rc (az m.rs),aJ t2 (aK bz (zT bz)),own 1 ip il ic (az ins),own 1 o y u (az (ins.map (at_ m.ws)))]) [row p (az L)])
 (P:ins.length=1∨ins.length=2) (v: ∀x∈ins,0≤x∧x<(m.ws.length:Int)) (a1: ∀x∈ins,at_ m.rs x=at_ m.rs (ins.getD 0 0)) (ha:ins.getD 0 0=(a:Int))
 (H: ∀(g:ah)(m':J0),m'.ok l w0→m'.k=m.k+1→aG h no g (m'.fs r gb t2 p l c w0 lo hi out) [row p (az L)]→K (⟨t2,0,none⟩,⟨r,0,none⟩,⟨gb,0,none⟩,B,(dm:Int),(m'.wp,m'.wl,m'.wc),(m'.rp,m'.rl,m'.rc),((m.k+2:Nat):Int),()) g):
 tm Q K ⟨t2,0,none⟩ ⟨r,0,none⟩ ⟨gb,0,none⟩ B (dm:Int) m.wp m.wl m.wc m.rp m.rl m.rc ((m.k+1:Nat):Int) (a:Int) ip il ic o y u g:=by
 obtain⟨ax,bp,bs,bq,hb,ay⟩:=ok;have V:=hb.len;rw[Ug]at V;have s:=hb.range (by omega);have U:(a:Int)∈ins:=by rw[←ha,cA (by omega)];exact VN _
 have bm:=v _ U;have D:a<m.rs.length:=by omega
 have O:at_ m.rs (a:Int)=m.rs[a]:=by unfold at_;rw[hC];exact cA D
 have bw:=s.2 m.rs[a] (VN _);have a6:(3:Int) ^ (m.ns.map Nv.nd).length≤243:=by
  rw[Ug];have:(3:Nat) ^ m.ns.length≤3 ^ 5:=WG (by decide) (by omega);have h2:=Int.ofNat_le.2 this;rw[WN,WN]at h2;exact X5 h2 (by decide)
 have b:=(S.ow 5).row;obtain⟨ar,z⟩:=b.some_of (by rw[av];omega);rw[z]at b;refine aC z rfl (by omega) ?_;simp only[hC,VO];refine ae (b.cell (aF (bo D))) ?_;have ao:=(jd (i:=7) S rfl).1;have w:=(jd (i:=8) S rfl).1;dsimp only at ao w;have a8:y≤u:=(S.ow 8).2.1;have a4:y=ins.length:=by rw[←w];simp
 have C:bv 1 16 (ins.map (at_ m.ws)):=DN v s.1;refine(P6 (still:=(m.rs[a]==0)) ((S.into [0,7] [8] [0]).rowO 0) 1 0 rfl hL ax hl rfl w (by omega) (by omega) C).mono ?_;rintro _ g2 ⟨nv,a',rfl,I,n1,n2,n3,j,aj,S1⟩;replace S:=S.back [0,7] S1;refine fy nv.t ⟨rfl,?_⟩;refine aA S fun ai h1 _ S=> ?_;refine bP S 9 rfl rfl (aW rfl) fun h2 _ S=> ?_;refine ak (p:=m.q) (l:=m.k) (c:=m.d) (S.c 1) ?_;refine aL S 9 rfl (x:=nv.t) rfl ?_;refine aA S fun ba h3 _ S=> ?_;refine cI S 2 (ys:=nv.cells) rfl rfl (by decide) (by omega) (bD.of_at (S.ap 10)) rfl (aW rfl) fun X M N h4 bn S=> ?_;refine be S 1 rfl (k:=3) (OU rfl) fun h5 _ S=> ?_;have S2:aG h no h5 [sB r p l c a',aJ gb (⟨w0,lo,hi,X,M,N,out,[]⟩:Gv).cells,own 15 X M N (aD m.ns++nv.cells),aM m.ns,own 1 m.wp m.wl m.wc (az m.ws),own 1 m.rp m.rl m.rc (az m.rs),aJ t2 (aK bz (zT bz)),nv.rows,own 1 o y u (az (ins.map (at_ m.ws))),aJ ai nv.cells] [row p (az L)]:=S.pw [0,1,2,3,4,5,6,7,8,9];have S:=S2;refine aL S 9 rfl (x:=nv.t) rfl ?_;refine ak (p:=nv.inn.p) (l:=nv.inn.l) (c:=nv.inn.c) (S.c 9) ?_;have a5:nv.inn.l=nv.nd.inn.length:=I.1.1.symm;have aw:nv.nd.inn.length≤ins.length:=by
  rcases ym j with e|e<;>rw[e]
  ·exact VX _
  ·rw[VV];omega
 refine iH (n:=nv.inn.l) rfl (by omega) ?_;rw[show(if u=0 then o else Option.map (fun a=>Addr.add a 0) o)=o from UM u 1 o];have G:bD h5 o (az ((ins.map (at_ m.ws)).take nv.nd.inn.length)):=by rw[←vd];exact(S.ow 8).row.take _
 refine(DI I (S.wd 7) (by omega) (by omega) (by omega) G (by rw[VV,Ug];omega) (by omega)).mono ?_;rintro _ g6 ⟨rfl,F⟩;refine⟨_,rfl,?_⟩;replace S:=S.fra0 F;have an:=DM j (by simp) P C;generalize a3:nv.nd.wid ((ins.map (at_ m.ws)).take nv.nd.inn.length)=w' at an ⊢;refine aA S (fun bd _ _ S=> ?_);refine cI S 4 (ys:=az [w']) rfl rfl (by decide) (by omega) (bD.of_at (S.ap 10)) rfl dc fun ag ad ab h7 a9 S=> ?_;have ei: ∀(A:List Int)(x:Int),az A++az [x]=az (A++[x]):=fun A x=>by simp[az]
 rw[ei]at S;refine da S 9 rfl rfl ?_;have b:=(S.ow 5).row;rw[z]at b;refine aC z rfl (by omega) ?_;refine aL S 9 rfl (x:=nv.t) rfl (ae (b.cell (aF (bo D))) ?_);refine aA S (fun bg _ _ S=> ?_);have a2:dp nv.nd.kind→0≤nv.nd.step∧nv.nd.step≤3:=by
  intro hf;have E:=j;generalize (m.rs[a]==0)=st at E;generalize nv.nd=nd at E hf;cases E with
  |conv width size step gap left right ww bb f=>exact⟨by have:=f.2.1;show 0≤step;omega,by have:=f.2.1;show step≤3;omega⟩
  |depth size step gap left right ww bb f=>exact⟨by have:=f.2.1;show 0≤step;omega,by have:=f.2.1;show step≤3;omega⟩
  |pool k size step gap left right hk f=>exact⟨by have:=f.2.1;show 0≤step;omega,by have:=f.2.1;show step≤3;omega⟩
  |_=>exact absurd hf (by dsimp only;decide)
 have g1:[m.rs[a]].getD 0 0=m.rs[a]:=rfl;refine(NM (nv:=nv) (l:=1) (rs:=[m.rs[a]]) (bD.of_at (S.ap 11)) rfl (by decide) (by decide) (by rw[g1];omega) (fun hf=>by have:=a2 hf;exact⟨this.1,by have h2:nv.step≤3:=this.2;omega⟩)).mono ?_;rintro _ g8 ⟨rfl,F⟩;refine⟨_,rfl,?_⟩;replace S:=S.fra0 F;generalize a0:cf nv.nd [m.rs[a]]=r';refine aA S (fun bk _ _ S=> ?_);refine cI S 5 (ys:=az [r']) rfl rfl (by decide) (by omega) (bD.of_at (S.ap 12)) rfl dc fun aa Z Y h9 a7 S=> ?_;rw[ei]at S;refine da S 9 rfl rfl ?_;rw[al (by omega)];have S3:=S.joinR [0,1,2,4,5,6] 3 7 rfl rfl;dsimp only[Sh.pick,List.getElem?_cons_zero,List.getElem?_cons_succ,Yg,Yh]at S3;refine H h9 ⟨a',X,M,N,m.ns++[nv],ag,ad,ab,m.ws++[w'],aa,Z,Y,m.rs++[r']⟩ ⟨aj,by simp;omega,by simp;omega,by simp;omega,?_,?_⟩ (by show M=_;omega) ?_
 ·show lI w0 ((m.ns++[nv]).map Nv.nd) (m.ws++[w']) (m.rs++[r']);rw[V2];refine .snoc _ _ _ _ _ _ hb ⟨ins,P,v,a1,?_,a3.symm,?_⟩
  ·rw[ha,O];have:decide (m.rs[a]=0)=(m.rs[a]==0):=by rw[WF,decide_eq_true_iff,beq_iff_eq]
   rw[this];exact j
  ·rw[ha,O];exact a0.symm
 ·intro n J;rcases VW.1 J with J|J
  ·exact ay n J
  ·simp only[VK]at J;subst J;exact⟨I,n1,n2,n3⟩
 ·have e1:aD (m.ns++[nv])=aD m.ns++nv.cells:=by rw[fK];simp[aD]
  show aG h no h9 [sB r p l c a',aJ gb (⟨w0,lo,hi,X,M,N,out,[]⟩:Gv).cells,own 15 X M N (aD (m.ns++[nv])),aM (m.ns++[nv]),own 1 ag ad ab (az (m.ws++[w'])),own 1 aa Z Y (az (m.rs++[r'])),aJ t2 (aK bz (zT bz))] [row p (az L)];rw[e1,mA];exact S3.pw [0,1,2,6,3,4,5]
theorem DP{xs:List Int}{i:Nat}(h:i<xs.length):at_ xs (i:Int)=xs[i]:=by unfold at_;rw[hC];exact cA h
set_option maxHeartbeats 1000000 in
theorem PZ{g:ah}{m:J0}{dm a:Nat}{i:Bool}(ok:m.ok l w0)(ag:dB w0 1 3)(hk:m.k<6)(P:L.length=l)(X:l<2 ^ 62)
 {K:((Addr×Addr×Addr×Bool×Int×(Option Addr×Nat×Nat)×(Option Addr×Nat×Nat)×Int×Unit))→ah→Prop} {Q:Value→ah→Prop}
 (S:aG h no g (m.fs r gb t2 p l c w0 lo hi out) [row p (az L)]) (ha:a≤m.k)
 (H: ∀(g:ah)(m':J0),m'.ok l w0→m'.k=m.k+1→aG h no g (m'.fs r gb t2 p l c w0 lo hi out) [row p (az L)]→K (⟨t2,0,none⟩,⟨r,0,none⟩,⟨gb,0,none⟩,i,(dm:Int),(m'.wp,m'.wl,m'.wc),(m'.rp,m'.rl,m'.rc),((m.k+2:Nat):Int),()) g):
 tn Q K ⟨t2,0,none⟩ ⟨r,0,none⟩ ⟨gb,0,none⟩ i (dm:Int) m.wp m.wl m.wc m.rp m.rl m.rc ((m.k+1:Nat):Int) (a:Int) g:=by
 have a5:=J0.len ok;have ax:=ok;obtain⟨Y,Z,ai,ab,hb,aa⟩:=ax;have C:a<m.ws.length:=by omega
 have G:a<m.rs.length:=by omega
 refine aA S (fun w _ _ S=> ?_);have e:=(S.ow 4).row;obtain⟨aw,v⟩:=e.some_of (by rw[av];omega);rw[v]at e;refine aC v rfl (by omega) ?_;simp only[hC,VO];refine ae (e.cell (aF (bo C))) ?_;refine aA S (fun y _ _ S=> ?_);replace S:=S.toOwn 7 1 1 1 rfl (VX _);replace S:=S.toOwn 8 1 1 1 rfl (VX _);refine(cO S 0 0 rfl rfl P Y X (m.k+1) (by omega) (by omega)).mono ?_;rintro _ g2 ⟨b,a2,rfl,a9,U,S⟩;refine⟨_,rfl,?_⟩;have J:b<m.ws.length:=by omega
 have I:b<m.rs.length:=by omega
 refine⟨fun s g=> ∃(t:Nat)(F o:Option Addr)(E D n j:Nat)(ins:List Int),s=(⟨t2,0,none⟩,⟨r,0,none⟩,⟨gb,0,none⟩,i,(dm:Int),(m.wp,m.wl,m.wc),(m.rp,m.rl,m.rc),((m.k+1:Nat):Int),(a:Int),(F,E,D),(o,n,j),())∧t≤l∧
  (ins.length=1∨ins.length=2)∧(∀x∈ins,0≤x∧x<(m.ws.length:Int))∧(∀x∈ins,at_ m.rs x=at_ m.rs (ins.getD 0 0))∧ins.getD 0 0=(a:Int)∧
  aG h no g ([sB r p l c t,aJ gb (⟨w0,lo,hi,m.q,m.k,m.d,out,[]⟩:Gv).cells,own 15 m.q m.k m.d (aD m.ns),aM m.ns,own 1 m.wp m.wl m.wc (az m.ws),own 1 m.rp m.rl m.rc (az m.rs),aJ t2 (aK bz (zT bz)),own 1 F E D (az ins),own 1 o n j (az (ins.map (at_ m.ws)))]) [row p (az L)],?_,?_⟩
 ·rintro s g ⟨t,F,o,E,D,n,j,ins,rfl,A,O,M,ad,h0,S⟩;exact PY (m:={m with a:=t}) ⟨A,Z,ai,ab,hb,aa⟩ ag hk P X S O M ad h0 H
 ·have one: ∀g t,t≤l→aG h no g ([sB r p l c t,aJ gb (⟨w0,lo,hi,m.q,m.k,m.d,out,[]⟩:Gv).cells,own 15 m.q m.k m.d (aD m.ns),aM m.ns,own 1 m.wp m.wl m.wc (az m.ws),own 1 m.rp m.rl m.rc (az m.rs),aJ t2 (aK bz (zT bz)),own 1 (some ⟨w,0,none⟩) 1 1 (az [(a:Int)]),own 1 (some ⟨y,0,none⟩) 1 1 (az [m.ws[a]])]) [row p (az L)]→
   ∃(t:Nat)(F o:Option Addr)(E D n j:Nat)(ins:List Int),(((⟨t2,0,none⟩:Addr),(⟨r,0,none⟩:Addr),(⟨gb,0,none⟩:Addr),i,(dm:Int),(m.wp,m.wl,m.wc),(m.rp,m.rl,m.rc),((m.k+1:Nat):Int),(a:Int),(some (⟨w,0,none⟩:Addr),1,1),(some (⟨y,0,none⟩:Addr),1,1),()):Addr×Addr×Addr×Bool×Int×(Option Addr×Nat×Nat)×(Option Addr×Nat×Nat)×Int×Int×(Option Addr×Nat×Nat)×(Option Addr×Nat×Nat)×Unit)=(⟨t2,0,none⟩,⟨r,0,none⟩,⟨gb,0,none⟩,i,(dm:Int),(m.wp,m.wl,m.wc),(m.rp,m.rl,m.rc),((m.k+1:Nat):Int),(a:Int),(F,E,D),(o,n,j),())∧t≤l∧
   (ins.length=1∨ins.length=2)∧(∀x∈ins,0≤x∧x<(m.ws.length:Int))∧(∀x∈ins,at_ m.rs x=at_ m.rs (ins.getD 0 0))∧ins.getD 0 0=(a:Int)∧
   aG h no g ([sB r p l c t,aJ gb (⟨w0,lo,hi,m.q,m.k,m.d,out,[]⟩:Gv).cells,own 15 m.q m.k m.d (aD m.ns),aM m.ns,own 1 m.wp m.wl m.wc (az m.ws),own 1 m.rp m.rl m.rc (az m.rs),aJ t2 (aK bz (zT bz)),own 1 F E D (az ins),own 1 o n j (az (ins.map (at_ m.ws)))]) [row p (az L)]:=
   fun g t A S=>⟨t,some ⟨w,0,none⟩,some ⟨y,0,none⟩,1,1,1,1,[(a:Int)],rfl,A,.inl rfl,(by intro x u;simp at u;subst u;omega),(by intro x u;simp at u;subst u;rfl),rfl,by
    have:[(a:Int)].map (at_ m.ws)=[m.ws[a]]:=by rw[Wc,WZ,DP C]
    rw[this];exact S⟩
  refine(cO S 0 0 rfl rfl P U X 3 (by omega) (by omega)).mono ?_;rintro _ g3 ⟨x3,N,rfl,ba,B,S⟩;refine⟨_,rfl,?_⟩;refine aH (fun _=> ?_) (fun _=>one _ N B S);have f:=(S.ow 5).row;obtain⟨ar,z⟩:=f.some_of (by rw[av];omega);rw[z]at f;refine aC z rfl (by omega) (aC z rfl (by omega) ?_);refine ae (f.cell (aF (bo I))) (ae (f.cell (aF (bo G))) ?_);refine aH (fun V=> ?_) (fun _=>one _ N B S);refine aA S (fun a7 _ _ S=> ?_);refine cI S 7 (ys:=az [(b:Int)]) rfl rfl (by decide) (by decide) (bD.of_at (S.ap 9)) rfl dc fun ao an aj h7 a4 S=> ?_;have e:=(S.ow 4).row;rw[v]at e;refine aC v rfl (by omega) ?_;refine ae (e.cell (aF (bo J))) ?_;refine aA S (fun a8 _ _ S=> ?_);refine cI S 8 (ys:=az [m.ws[b]]) rfl rfl (by decide) (by decide) (bD.of_at (S.ap 10)) rfl dc fun a1 a0 ay h8 a6 S=> ?_;refine⟨N,ao,a1,an,aj,a0,ay,[(a:Int),(b:Int)],rfl,B,.inr rfl,?_,?_,rfl,?_⟩
  ·intro x u;simp at u;rcases u with rfl|rfl<;>omega
  ·intro x u;have e0:[(a:Int),(b:Int)].getD 0 0=(a:Int):=rfl;rw[e0];simp at u;rcases u with rfl|rfl
   ·rfl
   ·rw[DP I,DP G];exact V
  ·have:[(a:Int),(b:Int)].map (at_ m.ws)=[m.ws[a],m.ws[b]]:=by rw[Wc,Wc,WZ,DP C,DP J]
   rw[this];exact S.pw [0,1,2,3,4,5,6,7,8]
theorem I5{g:ah}{m:J0}{v:Bool}(ok:m.ok l w0)(K:dB w0 1 3)(I:dB lo (-199) 0)(H:dB hi 0 199)(aa:1≤m.k)(hk:m.k≤6)(ho:dB out 1 m.k)(S:aG h no g (m.fs r gb t2 p l c w0 lo hi out) [row p (az L)]):
 aI v (aT bz g ⟨gb,0,none⟩ fun A=>au P iE #[bA bz A] g fun z w=>zD bz fun u=>z=bA bz u∧aZ (aK bz u) w ⟨t2,0,none⟩ 0 fun o=>aT bz o ⟨t2,0,none⟩ fun B=>I4 h (bA bz B) o)
  (aT bz g ⟨gb,0,none⟩ fun C=>aZ (aK bz C) g ⟨t2,0,none⟩ 0 fun s=>aT bz s ⟨t2,0,none⟩ fun D=>I4 h (bA bz D) s):=by
 obtain⟨ab,y,ag,ad,X,j⟩:=ok;have G:((m.ns.map Nv.nd).length:Int)=m.k:=by rw[Ug];omega
 have J:(m.ns.map Nv.nd).length=m.k:=by rw[Ug];omega
 generalize a:(⟨w0,lo,hi,m.q,m.k,m.d,out,m.ns⟩:Gv)=gv;have f:gv.gr=⟨w0,lo,hi,m.ns.map Nv.nd,out⟩:=by rw[←a];rfl
 have V:gv.gr.width=w0:=by rw[f]
 have U:gv.gr.low=lo:=by rw[f]
 have Q:gv.gr.high=hi:=by rw[f]
 have mk: ∀e:Gr,e.width=w0→e.low=lo→e.high=hi→(e=gv.gr∨e=gv.gr.turned)→DO e:=fun e E N O h=>
  ⟨m.ns.map Nv.nd,m.ws,m.rs,out,by rw[E];exact K,by rw[N];exact I,by rw[O];exact H,by omega,by omega,by rw[E];exact X,by rw[J];exact ho,by rw[E,N,O,←f];exact h⟩
 refine oz (fun _=> ?_) (fun _=> ?_)
 ·refine aL S 1 rfl (x:=gv.t) (by rw[←a];rfl) ?_;have M:=S.into [2,3] [] [];dsimp only[Sh.pick,List.getElem?_cons_zero,List.getElem?_cons_succ,Yh]at M;have Y:aG g (PD [own 15 m.q m.k m.d (aD m.ns),aM m.ns]) g [own 15 gv.p gv.l gv.c (aD gv.ns),aM gv.ns] []:=by rw[←a];exact M
  refine(P8 Y (fun n b=>(j n (by rw[←a]at b;exact b)).1) (by rw[←a];show m.k≤100;omega) (by rw[←a];exact y) (fun n b=>(j n (by rw[←a]at b;exact b)).2) ?_ (by rw[←a];show 0≤out∧out≤2 ^ 20;omega)).mono ?_
  ·intro n b x hx;rw[←a]at b;have:=X.inn n.nd (VZ.2 ⟨n,b,rfl⟩) x hx;rw[G]at this;omega
  ·rintro _ g2 ⟨e,rfl,F,i,gs,Z⟩;refine fy e.t ⟨rfl,?_⟩;replace S:=S.back [2,3] Z;refine bP S 6 rfl rfl (aW rfl) fun h3 _ S=> ?_;refine aL S 6 rfl (x:=e.t) rfl ?_;exact⟨e,rfl,F,mk _ (by rw[i];exact V) (by rw[i];exact U) (by rw[i];exact Q) (.inr i),gs,S.pick [2,3] []⟩
 ·refine aL S 1 rfl (x:=gv.t) (by rw[←a];rfl) ?_;refine bP S 6 rfl rfl (aW rfl) fun h3 _ S=> ?_;refine aL S 6 rfl (x:=gv.t) rfl ?_;refine⟨gv,rfl,?_,mk _ V U Q (.inl rfl),?_,?_⟩
  ·rw[←a];exact⟨y,(S.ow 2).2.1,fun n b=>(j n b).1⟩
  ·rw[←a];exact fun n b=>(j n b).2
  ·rw[←a];exact S.pick [2,3] []
set_option maxHeartbeats 1000000 in
theorem NN{g:ah}(S:aG h no g [aJ t2 (aK bz (zT bz))] [row p (az L)])(b:L.length=l)(d:l<2 ^ 62):vP (I4 h) p l c ⟨t2,0,none⟩ g:=by
 refine aA S (fun f _ _ S=> ?_);have e:aG h no _ [sB f p l c 0,aJ t2 (aK bz (zT bz))] [row p (az L)]:=S.pw [1,0];refine(cO e 0 0 rfl rfl b (by omega) d 3 (by omega) (by omega)).mono ?_;rintro _ g1 ⟨y,a1,rfl,an,D,S⟩;refine⟨_,rfl,?_⟩;dsimp only[List.set]at S ⊢;rw[al (by omega)];refine aA S fun gb h1 _ S=> ?_;refine bP S 2 rfl rfl (aW (l:=bz) (x:=(⟨1+(y:Int),0,0,none,0,0,0,[]⟩:Gv).t) rfl) fun h2 _ S=> ?_;refine(cO S 0 0 rfl rfl b D d 200 (by omega) (by omega)).mono ?_;rintro _ g2 ⟨N,a2,rfl,ao,E,S⟩;refine⟨_,rfl,?_⟩;dsimp only[List.set,Yg,Yh]at S ⊢;rw[al (n:=0-(N:Int)) (by omega)];refine be S 2 rfl (k:=1) (OU rfl) fun h3 _ S=> ?_;refine(cO S 0 0 rfl rfl b E d 200 (by omega) (by omega)).mono ?_;rintro _ g3 ⟨o,a3,rfl,ap,F,S⟩;refine⟨_,rfl,?_⟩;refine be S 2 rfl (k:=2) (OU rfl) fun h4 _ S=> ?_;refine(cO S 0 0 rfl rfl b F d 2 (by omega) (by omega)).mono ?_;rintro _ g4 ⟨U,a4,rfl,ar,G,S⟩;refine⟨_,rfl,?_⟩;refine(cO (S.pw [0,1,2]) 0 0 rfl rfl b G d 6 (by omega) (by omega)).mono ?_;rintro _ g5 ⟨z,O,rfl,aw,H,S⟩;refine⟨_,rfl,?_⟩;have e:aG h no g5 [sB f p l c O,aJ t2 (aK bz (zT bz)),aJ gb (⟨1+(y:Int),0-(N:Int),(o:Int),none,0,0,0,[]⟩:Gv).cells] [row p (az L)]:=S;have S:=e;refine ae (n:=1+(y:Int)) (S.c 2) ?_;refine aA S (fun A _ _ S=> ?_);refine aA S (fun B _ _ S=> ?_);replace S:=S.toOwn 3 1 1 1 rfl (VX _);replace S:=S.toOwn 4 1 1 1 rfl (VX _);replace S:=(S.nil 15).reads0;generalize aj:1+(y:Int)=w0 at S;generalize ai:0-(N:Int)=lo at S;rw[al (n:=1+(z:Int)) (by omega)];have em:1+(z:Int)=((1+z:Nat):Int):=by omega
 rw[em];generalize J:1+z=dm;refine aO (fun Q s g=> ∃m:J0,s=(⟨t2,0,none⟩,⟨f,0,none⟩,⟨gb,0,none⟩,((U:Int)==1),(dm:Int),(m.wp,m.wl,m.wc),(m.rp,m.rl,m.rc),((m.k+1:Nat):Int),())∧m.ok l w0∧m.k≤dm∧Q=dm-m.k∧aG h no g (m.fs f gb t2 p l c w0 lo (o:Int) 0) [row p (az L)]) dm
  ⟨⟨O,none,0,0,[],some ⟨A,0,none⟩,1,1,[w0],some ⟨B,0,none⟩,1,1,[1]⟩,rfl,⟨H,rfl,rfl,rfl,.nil,by intro n hn;cases hn⟩,WV _,rfl,S.pw [0,2,5,6,3,4,1]⟩ ?_
 rintro Q s g ⟨m,rfl,ok,ad,rfl,S⟩;dsimp only;refine aq (fun ag=> ?_) (fun aa=> ?_)
 ·refine⟨fun s g=> ∃(a v:Nat),s=(⟨t2,0,none⟩,⟨f,0,none⟩,⟨gb,0,none⟩,((U:Int)==1),(dm:Int),(m.wp,m.wl,m.wc),(m.rp,m.rl,m.rc),((m.k+1:Nat):Int),(a:Int),())∧a≤m.k∧v≤l∧aG h no g (({m with a:=v}:J0).fs f gb t2 p l c w0 lo (o:Int) 0) [row p (az L)],?_,?_⟩
  ·rintro s g ⟨a,v,rfl,ha,C,S⟩;refine PZ (m:={m with a:=v}) ⟨C,ok.2⟩ (by omega) (by show m.k<6;omega) b d S ha fun g u M j Y=>⟨dm-u.k,?_,u,?_,M,?_,rfl,Y⟩
   ·have:u.k=m.k+1:=j;omega
   ·have:u.k=m.k+1:=j;rw[this]
   ·have:u.k=m.k+1:=j;omega
  ·refine(cO S 0 0 rfl rfl b ok.1 d 3 (by omega) (by omega)).mono ?_;rintro _ g6 ⟨x6,Z,rfl,ax,q,S⟩;refine⟨_,rfl,?_⟩;refine aH (fun _=> ?_) (fun _=> ?_)
   ·refine(cO S 0 0 rfl rfl b q d (m.k+1) (by omega) (by omega)).mono ?_;rintro _ g7 ⟨V,w,rfl,K,i,S⟩;refine⟨_,rfl,?_⟩;exact⟨V,w,rfl,by omega,i,S⟩
   ·refine⟨m.k,Z,?_,VX _,q,S⟩;rw[al (by omega)];have:((m.k+1:Nat):Int)-1=(m.k:Int):=by omega
    rw[this]
 ·have ab:m.k=dm:=by omega
  refine be S 1 rfl (k:=4) (OU rfl) fun h6 _ S=> ?_;have e:aG h no h6 (m.fs f gb t2 p l c w0 lo (o:Int) (dm:Int)) [row p (az L)]:=S;refine(cO e 0 0 rfl rfl b ok.1 d 5 (by omega) (by omega)).mono ?_;rintro _ g7 ⟨V,w,rfl,K,i,S⟩;refine⟨_,rfl,?_⟩;refine aH (fun _=> ?_) (fun _=> ?_)
  ·refine(cO S 0 0 rfl rfl b i d dm (by omega) (by omega)).mono ?_;rintro _ g8 ⟨X,P,rfl,ay,I,S⟩;refine⟨_,rfl,?_⟩;dsimp only[List.set]at S ⊢;rw[al (by omega)];refine be S 1 rfl (k:=4) (OU rfl) fun h9 _ S=> ?_;have e:aG h no h9 (({m with a:=P}:J0).fs f gb t2 p l c w0 lo (o:Int) (1+(X:Int))) [row p (az L)]:=S;exact I5 (m:={m with a:=P}) ⟨I,ok.2⟩ (by omega) (by omega) (by omega) (by show 1≤m.k;omega) (by show m.k≤6;omega) (by show dB (1+(X:Int)) 1 m.k;omega) e
  ·have e:aG h no _ (({m with a:=w}:J0).fs f gb t2 p l c w0 lo (o:Int) (dm:Int)) [row p (az L)]:=S;exact I5 (m:={m with a:=w}) ⟨i,ok.2⟩ (by omega) (by omega) (by omega) (by show 1≤m.k;omega) (by show m.k≤6;omega) (by show dB (dm:Int) 1 m.k;omega) e
theorem P2(v:bD h p (az L))(f:L.length=l)(t:l≤c)(q:l<2 ^ 62):au P qA #[.slice p l c] h (I4 h):=by
 refine Bb _ _ _ ?_;have S:=aG.start h no;refine aA S fun a e j S=> ?_;have b:aG h no e [aJ a (aK bz (zT bz))] [row p (az L)]:=by
  have A:=(aG.start h no).read (row p (az L)) v;exact A.add S fun _ _ h=>h
 refine⟨fun s g=> ∃(k d:Nat)(M:List Int),s=((p,k,d),⟨a,0,none⟩,())∧M.length=k∧k<2 ^ 62∧aG h no g [aJ a (aK bz (zT bz))] [row p (az M)],?_,?_⟩
 ·rintro s g ⟨k,d,M,rfl,i,o,S⟩;exact NN S i o
 ·refine aq (fun m=> ?_) (fun u=>⟨l,c,L,rfl,f,q,b⟩);refine iH (n:=240) rfl (by omega) ?_;rw[UM];refine⟨240,c-0,L.take 240,rfl,by rw[VV];omega,by decide,?_⟩;have:=b.head 0 240;rw[vd]at this;exact this
end
end
section
def Inn(ns:List Nd):Prop:= ∀n∈ns,∀j∈n.inn,0≤j∧j≤(ns.length:Int)
theorem nz.Inn{ns:List Nd}{pos:Int→Nat}(h:nz ns pos):Inn ns:=fun n d j b=>by
 obtain⟨i,a⟩:=Wx.1 d;have:=(h i n a).2 j b;exact⟨this.1,this.2.1⟩
def fo(n:Nat)(M:LM):List Bool:=(List.range (n+1)).map fun x:Nat=>(M (x:Int)).isSome
theorem pf(n:Nat)(M:LM):(fo n M).length=n+1:=by simp[fo]
theorem nk{n:Nat}{M:LM}{x:Nat}(h:x≤n):(fo n M)[x]? =some (M (x:Int)).isSome:=by
 unfold fo;rw[VP,Wa (by omega)];rfl
def xj(l:List Bool):List Value:=l.map .bool
theorem rB(l:List Bool):(xj l).length=l.length:=by simp[xj]
theorem yn{l:List Bool}{i:Nat}{b:Bool}(h:l[i]? =some b):(xj l)[i]? =some (.bool b):=by simp[xj,h]
theorem Mr(l:List Bool)(i:Nat)(b:Bool):(xj l).set i (.bool b)=xj (l.set i b):=by simp[xj,XH]
section
variable {h:ah}
theorem gm.range{ns:List Nd}{out:Int}{M:LM}{pos:Int→Nat}(I:gm ns out M pos){x:Int}(h:(M x).isSome):0≤x∧x≤(ns.length:Int):=by
 have:=(I.lv x).1 h
 induction this with
 |out=>exact⟨by have:=I.out1;omega,I.outn⟩
 | @inn i n j _ a b _=>exact I.ranked.Inn n (VL a) j b
end
end
section
def uH(o:Int):Nd:=⟨9,[o],0,0,0,0,0,0,[],[],0,0,-90,700,0⟩
def uI(o:Int):Nd:=⟨10,[o],0,0,0,0,0,0,[],[],21000,14,0,0,0⟩
def DQ(o:Int):Nd:=⟨11,[o],0,0,0,0,0,0,[],[],0,0,0,0,0⟩
def I7(g:Gr)(n:Nd):Gr:={g with nodes:=g.nodes++[n],out:=(g.nodes.length:Int)+1}
inductive Lk (b:Gr):Nat→Gr→Prop
 |base:Lk b 0 b
 |step {k:Nat} {g:Gr} {n:Nd}:Lk b k g→(n=uH g.out∨n=uI g.out)→Lk b (k+1) (I7 g n)
def Ue(g:Gr):Gr:={g with nodes:=g.nodes++[DQ g.out]}
def Hl(g:Gr):Prop:= ∃(b:Gr)(k:Nat)(a:Gr),DO b∧k≤3∧Lk b k a∧(g=a∨g=Ue a)
theorem DO.len{g:Gr}(m:DO g):1≤g.nodes.length∧g.nodes.length≤6:=by
 obtain⟨ns,ws,rs,out,_,_,_,a,b,_,_,h|h⟩:=m
 ·rw[h];exact⟨a,b⟩
 ·rw[h];have:(Gr.turned ⟨g.width,g.low,g.high,ns,out⟩).nodes.length=ns.length:=by simp[Gr.turned]
  rw[this];exact⟨a,b⟩
section
variable {h0 h:ah} {T:Nat→Prop} {W R:List bc}
theorem DR(S:aG h0 T h W R)(i:Nat){b:Nat}{o:Int}{n:Nv}(e:W[i]? =some (aJ b [.int .i64 o]))(j:n.inn=⟨some ⟨b,0,none⟩,1,1,[o]⟩)(k:n.weights=Sl.nil)(m:n.bias=Sl.nil):aG h0 T h (W.set i n.rows) R:=
 S.turn i e _ (fun a f g=>by
  simp only[V5,WO,or_false]at g;rcases g with rfl|rfl|rfl
  ·rw[j];exact bD.of_at a
  ·rw[k];exact bD.nil _ _
  ·rw[m];exact bD.nil _ _) fun s ⟨f,g,d⟩=>by
  simp only[V5,WO,or_false]at g;rcases g with rfl|rfl|rfl
  ·rw[j]at d;obtain⟨_,a,q,d⟩:=d;cases q;exact d.symm
  ·rw[k]at d;exact absurd rfl d.1
  ·rw[m]at d;exact absurd rfl d.1
def RG(h:ah)(v:Value)(b:ah):Prop:=
 ∃a:Gv,v=a.v∧a.ok∧Hl a.gr∧a.l≤10∧(∀n∈a.ns,n.inn.l≤2 ^ 20∧n.weights.l≤2 ^ 20∧n.bias.l≤2 ^ 20)∧aG h no b [own 15 a.p a.l a.c (aD a.ns),aM a.ns] []
variable {p:Option Addr} {l c:Nat} {L:List Int}
theorem P3(g:bD h p (az L))(e:L.length=l)(b:l≤c)(f:l<2 ^ 62):au P qB #[.slice p l c] h (I4 h):=by
 refine Bc _ _ _ ?_;have S:=(aG.start h no).read (row p (az L)) g;refine aA (cs:=aK bz (zT bz)) S fun j k _ S=> ?_;refine(P2 (S.ro 0) e b f).mono ?_;rintro _ m ⟨a,rfl,ok,i,sz,d⟩;replace S:=S.add d fun _ _ h=>h;refine fy a.t ⟨rfl,?_⟩;refine bP S 0 rfl rfl (aW rfl) fun n _ S=> ?_;refine aL S 0 rfl (x:=a.t) rfl ?_;exact⟨a,rfl,ok,i,sz,yy (S.pw [1,2])⟩
theorem P4(hx:bD h p (az L))(hL:L.length=l)(aj:l≤c)(hl:l<2 ^ 62)(more:Int):au P qC #[.slice p l c,.int .i64 more] h (RG h):=by
 refine Be _ _ _ _ ?_;have S:=(aG.start h no).read (row p (az L)) hx;refine aA (cs:=aK bz (zT bz)) S fun U h1 _ S=> ?_;refine(P3 (S.ro 0) hL aj hl).mono ?_;rintro _ h2 ⟨q,rfl,ok,mg,sz,S1⟩;replace S:=yy (S.add S1 fun _ _ h=>h);refine fy q.t ⟨rfl,?_⟩;refine aA (cs:=aK bz (zT bz)) S fun V h7 _ S=> ?_;dsimp only[Yg,Yh]at S;refine bP S 3 rfl rfl (aW rfl) fun h8 _ S=> ?_;dsimp only[List.set]at S;refine aA (cs:=[]) S fun b9 ar _ S=> ?_;dsimp only[Yg,Yh]at S;refine ak (p:=q.p) (l:=q.l) (c:=q.c) (S.c 3) ?_;replace S:=S.toOwn 4 15 0 0 rfl (VX _);have ag:q.gr.nodes.length=q.l:=by rw[←ok.1];simp[Gv.gr]
 have aa:=mg.len;rw[ag]at aa;have X:=(S.ow 1).row;refine cI S 4 (ys:=aD q.ns) rfl rfl (by decide) (by omega) X (by rw[bE,ok.1]) F4 fun Q l12 N aw J S=> ?_;rw[SN]at J;subst J;refine ck S 3 fun ad _ S=> ?_;obtain⟨B,eB,hB⟩: ∃B:Nat,cF .i64 (fV more 1) 3=(B:Int)∧B≤3:=by
  have:=yf (fV more 1) 3 2 (by decide) (by decide);have e:((3:Nat):Int)=3:=rfl;rw[e]at this;exact⟨(cF .i64 (fV more 1) 3).toNat,by omega,by omega⟩
 have S0:aG h no ad [aJ U (aK bz (zT bz)),aJ V ({q with p:=Q,c:=N}:Gv).cells,own 15 Q q.l N (aD q.ns),aM q.ns] []:=S.pw [0,3,4,2];have ai:=(S0.ow 2).2.1
 refine aO (fun mm s g=> ∃(i:Nat)(a:Gv),s=(more,⟨U,0,none⟩,⟨V,0,none⟩,(i:Int),())∧i≤B∧mm=B-i∧a.ok∧a.l=q.l+i∧Lk q.gr i a.gr∧(∀n∈a.ns,n.inn.l≤2 ^ 20∧n.weights.l≤2 ^ 20∧n.bias.l≤2 ^ 20)∧
  aG h no g [aJ U (aK bz (zT bz)),aJ V a.cells,own 15 a.p a.l a.c (aD a.ns),aM a.ns] []) B
  ⟨0,{q with p:=Q,c:=N},rfl,by omega,rfl,⟨ok.1,ai,ok.2.2⟩,rfl,.base,sz,S0⟩ ?_
 rintro mm s g ⟨i,a,rfl,hi,rfl,w,cl,cm,Y,S⟩;unfold vQ;rw[eB];simp only[aR,SN];have Z:a.gr.nodes.length=a.l:=by rw[←w.1];simp[Gv.gr]
 have O: ∀{b:Nat}{n:Nv},n.inn=⟨some ⟨b,0,none⟩,1,1,[a.out]⟩→n.weights=Sl.nil→n.bias=Sl.nil→n.ok∧(n.inn.l≤2 ^ 20∧n.weights.l≤2 ^ 20∧n.bias.l≤2 ^ 20):=fun{b n} h1 h2 h3=>by
  refine⟨⟨?_,?_,?_⟩,?_,?_,?_⟩
  ·rw[h1];exact⟨rfl,VX _⟩
  ·rw[h2];exact⟨rfl,VX _⟩
  ·rw[h3];exact⟨rfl,VX _⟩
  ·rw[h1];show 1≤2 ^ 20;decide
  ·rw[h2];decide
  ·rw[h3];decide
 have A: ∀{n:Nv},(n.ok∧(n.inn.l≤2 ^ 20∧n.weights.l≤2 ^ 20∧n.bias.l≤2 ^ 20))→(∀m∈a.ns++[n],m.ok)∧ ∀m∈a.ns++[n],m.inn.l≤2 ^ 20∧m.weights.l≤2 ^ 20∧m.bias.l≤2 ^ 20:=fun{n} hn=>by
  constructor
  ·intro m y;rcases VW.1 y with y|y
   ·exact w.2.2 m y
   ·simp only[VK]at y;subst y;exact hn.1
  ·intro m y;rcases VW.1 y with y|y
   ·exact Y m y
   ·simp only[VK]at y;subst y;exact hn.2
 have z: ∀n:Nv,aD a.ns++n.cells=aD (a.ns++[n]):=fun n=>by rw[fK,show aD [n]=n.cells by simp[aD]]
 refine aq (fun ay=> ?_) (fun ax=> ?_)
 ·have ei:IntKind.wrap .i64 ((i:Int)+1)=((i+1:Nat):Int):=by rw[al (by omega)];rfl
  rw[ei];refine ae (n:=a.out) (S.c 1) ?_;refine aA (cs:=[.int .i64 a.out]) S fun G g2 _ S=> ?_;refine aA (cs:=aK cJ (zT cJ)) S fun an g3 _ S=> ?_;dsimp only[Yg,Yh]at S;obtain⟨u,j⟩: ∃u:Nv,u=⟨9,⟨some ⟨G,0,none⟩,1,1,[a.out]⟩,0,0,0,0,0,0,Sl.nil,Sl.nil,0,0,-90,700,0⟩:=⟨_,rfl⟩;refine bP S 5 rfl rfl (aW (l:=cJ) (x:=(⟨9,⟨some ⟨G,0,none⟩,1,1,[a.out]⟩,0,0,0,0,0,0,Sl.nil,Sl.nil,0,0,-90,700,0⟩:Nv).t) rfl) fun g4 _ S=> ?_;dsimp only[List.set]at S;refine⟨by rw[fl];omega,?_⟩;refine cX (fun _=> ?_) (fun _=> ?_)
  ·refine ae (n:=a.out) (S.c 1) ?_;refine aA (cs:=[.int .i64 a.out]) S fun H g5 _ S=> ?_;dsimp only[Yg,Yh]at S;obtain⟨v,k⟩: ∃v:Nv,v=⟨10,⟨some ⟨H,0,none⟩,1,1,[a.out]⟩,0,0,0,0,0,0,Sl.nil,Sl.nil,21000,14,0,0,0⟩:=⟨_,rfl⟩;refine bP S 5 rfl rfl (aW (l:=cJ) (x:=(⟨10,⟨some ⟨H,0,none⟩,1,1,[a.out]⟩,0,0,0,0,0,0,Sl.nil,Sl.nil,21000,14,0,0,0⟩:Nv).t) rfl) fun g6 _ S=> ?_;dsimp only[List.set]at S;refine ak (p:=a.p) (l:=a.l) (c:=a.c) (S.c 1) ?_;have en:aK cJ (⟨10,⟨some ⟨H,0,none⟩,1,1,[a.out]⟩,0,0,0,0,0,0,Sl.nil,Sl.nil,21000,14,0,0,0⟩:Nv).t=v.cells:=by rw[k];rfl
   refine aL S 5 rfl (x:=v.t) en ?_;refine aA S fun ab g7 _ S=> ?_;dsimp only[Yg,Yh]at S;refine cI S 2 (ys:=v.cells) rfl rfl (by decide) (by omega) (bD.of_at (S.ap 7)) rfl (aW rfl) fun o l2 d g8 E S=> ?_;subst E;refine ck S 1 fun g9 _ S=> ?_;refine ak (p:=o) (l:=a.l+1) (c:=d) (S.c 1) ?_;refine ck S 1 fun C _ S=> ?_;have I:=DR S 6 (n:=v) rfl (by rw[k]) (by rw[k]) (by rw[k]);rw[z]at I;have S3:aG h no C [aJ U (aK bz (zT bz)),aJ V (⟨a.width,a.low,a.high,o,a.l+1,d,((a.l+1:Nat):Int),a.ns++[v]⟩:Gv).cells,own 15 o (a.l+1) d (aD (a.ns++[v])),cM (a.ns.map Nv.rows),v.rows] []:=I.pw [0,1,2,3,6];have F:=S3.joinR [0,1,2] 3 4 rfl rfl;rw[←mA]at F;have D:=(S3.ow 2).2.1;have K:=A (O (b:=H) (n:=v) (by rw[k]) (by rw[k]) (by rw[k]));refine⟨B-(i+1),by omega,i+1,⟨a.width,a.low,a.high,o,a.l+1,d,((a.l+1:Nat):Int),a.ns++[v]⟩,rfl,by omega,rfl,⟨by show(a.ns++[v]).length=_;rw[Tz,w.1];rfl,D,K.1⟩,by show a.l+1=_;omega,?_,K.2,F⟩;have e:(⟨a.width,a.low,a.high,o,a.l+1,d,((a.l+1:Nat):Int),a.ns++[v]⟩:Gv).gr=I7 a.gr (uI a.gr.out):=by
    unfold I7;rw[Z];show Gr.mk _ _ _ ((a.ns++[v]).map Nv.nd) _=Gr.mk _ _ _ (a.ns.map Nv.nd++[uI a.out]) _;rw[V2,k];rfl
   rw[e];exact .step cm (.inr rfl)
  ·refine ak (p:=a.p) (l:=a.l) (c:=a.c) (S.c 1) ?_;have en:aK cJ (⟨9,⟨some ⟨G,0,none⟩,1,1,[a.out]⟩,0,0,0,0,0,0,Sl.nil,Sl.nil,0,0,-90,700,0⟩:Nv).t=u.cells:=by rw[j];rfl
   refine aL S 5 rfl (x:=u.t) en ?_;refine aA S fun ab g7 _ S=> ?_;dsimp only[Yg,Yh]at S;refine cI S 2 (ys:=u.cells) rfl rfl (by decide) (by omega) (bD.of_at (S.ap 6)) rfl (aW rfl) fun o l2 d g8 E S=> ?_;subst E;refine ck S 1 fun g9 _ S=> ?_;refine ak (p:=o) (l:=a.l+1) (c:=d) (S.c 1) ?_;refine ck S 1 fun C _ S=> ?_;have I:=DR S 4 (n:=u) rfl (by rw[j]) (by rw[j]) (by rw[j]);rw[z]at I;have S3:aG h no C [aJ U (aK bz (zT bz)),aJ V (⟨a.width,a.low,a.high,o,a.l+1,d,((a.l+1:Nat):Int),a.ns++[u]⟩:Gv).cells,own 15 o (a.l+1) d (aD (a.ns++[u])),cM (a.ns.map Nv.rows),u.rows] []:=I.pw [0,1,2,3,4];have F:=S3.joinR [0,1,2] 3 4 rfl rfl;rw[←mA]at F;have D:=(S3.ow 2).2.1;have K:=A (O (b:=G) (n:=u) (by rw[j]) (by rw[j]) (by rw[j]));refine⟨B-(i+1),by omega,i+1,⟨a.width,a.low,a.high,o,a.l+1,d,((a.l+1:Nat):Int),a.ns++[u]⟩,rfl,by omega,rfl,⟨by show(a.ns++[u]).length=_;rw[Tz,w.1];rfl,D,K.1⟩,by show a.l+1=_;omega,?_,K.2,F⟩;have e:(⟨a.width,a.low,a.high,o,a.l+1,d,((a.l+1:Nat):Int),a.ns++[u]⟩:Gv).gr=I7 a.gr (uH a.gr.out):=by
    unfold I7;rw[Z];show Gr.mk _ _ _ ((a.ns++[u]).map Nv.nd) _=Gr.mk _ _ _ (a.ns.map Nv.nd++[uH a.out]) _;rw[V2,j];rfl
   rw[e];exact .step cm (.inl rfl)
 ·refine cX (fun _=> ?_) (fun _=> ?_)
  ·refine ak (p:=a.p) (l:=a.l) (c:=a.c) (S.c 1) ?_;refine ae (n:=a.out) (S.c 1) ?_;refine aA (cs:=[.int .i64 a.out]) S fun M g2 _ S=> ?_;obtain⟨nb,f⟩: ∃nb:Nv,nb=⟨11,⟨some ⟨M,0,none⟩,1,1,[a.out]⟩,0,0,0,0,0,0,Sl.nil,Sl.nil,0,0,0,0,0⟩:=⟨_,rfl⟩;refine aA (cs:=(⟨11,⟨some ⟨M,0,none⟩,1,1,[a.out]⟩,0,0,0,0,0,0,Sl.nil,Sl.nil,0,0,0,0,0⟩:Nv).cells) S fun ao g3 _ S=> ?_;rw[←f]at S;dsimp only[Yg,Yh]at S;refine cI S 2 (ys:=nb.cells) rfl rfl (by decide) (by omega) (bD.of_at (S.ap 5)) rfl (aW rfl) fun o l2 d g8 E S=> ?_;subst E;refine ck S 1 fun g9 _ S=> ?_;have I:=DR S 4 (n:=nb) rfl (by rw[f]) (by rw[f]) (by rw[f]);rw[z]at I;have S3:aG h no g9 [aJ U (aK bz (zT bz)),aJ V (⟨a.width,a.low,a.high,o,a.l+1,d,a.out,a.ns++[nb]⟩:Gv).cells,own 15 o (a.l+1) d (aD (a.ns++[nb])),cM (a.ns.map Nv.rows),nb.rows] []:=I.pw [0,1,2,3,4];have F:=S3.joinR [0,1,2] 3 4 rfl rfl;rw[←mA]at F;have D:=(S3.ow 2).2.1;have K:=A (O (b:=M) (n:=nb) (by rw[f]) (by rw[f]) (by rw[f]));refine aL F 1 rfl (x:=(⟨a.width,a.low,a.high,o,a.l+1,d,a.out,a.ns++[nb]⟩:Gv).t) rfl ?_;refine bP F 0 rfl rfl (aW rfl) fun C _ S=> ?_;simp only[Sh.pick,List.getElem?_cons_zero,List.getElem?_cons_succ,Yg,Yh,WW]at S;refine aL S 0 rfl (x:=(⟨a.width,a.low,a.high,o,a.l+1,d,a.out,a.ns++[nb]⟩:Gv).t) rfl ?_;refine⟨⟨a.width,a.low,a.high,o,a.l+1,d,a.out,a.ns++[nb]⟩,rfl,⟨by show(a.ns++[nb]).length=_;rw[Tz,w.1];rfl,D,K.1⟩,⟨q.gr,i,a.gr,mg,by omega,cm,.inr ?_⟩,by show a.l+1≤10;omega,K.2,S.pw [2,3]⟩;show Gr.mk _ _ _ ((a.ns++[nb]).map Nv.nd) _=Gr.mk _ _ _ (a.ns.map Nv.nd++[DQ a.out]) _;rw[V2,f];rfl
  ·refine aL S 1 rfl (x:=a.t) rfl ?_;refine bP S 0 rfl rfl (aW rfl) fun C _ S=> ?_;refine aL S 0 rfl (x:=a.t) rfl ?_;exact⟨a,rfl,w,⟨q.gr,i,a.gr,mg,by omega,cm,.inl rfl⟩,by omega,Y,S.pw [2,3]⟩
end
end
section
structure bW (g:Gr) (W R:Int→Int) (pos:Int→Nat):Prop where
 first:g.first=0
 rank: ∀(i:Nat)(n:Nd),g.nodes[i]? =some n→ ∀j∈n.inn,0<j→pos j<pos ((i:Int)+1)
 w0:W 0=g.width
 r0:R 0=1
 chk: ∀(i:Nat)(n:Nd),g.nodes[i]? =some n→n.chk (n.inn.map W)=0
 wid: ∀(i:Nat)(n:Nd),g.nodes[i]? =some n→W ((i:Int)+1)=n.wid (n.inn.map W)
 rat: ∀(i:Nat)(n:Nd),g.nodes[i]? =some n→0≤cf n (n.inn.map R)
 rid: ∀(i:Nat)(n:Nd),g.nodes[i]? =some n→R ((i:Int)+1)=cf n (n.inn.map R)
theorem DS{a:List Int}: ∀{ns:List Nd}{i:Nat},jr a ns i=none→ ∀(k:Nat)(n:Nd),ns[k]? =some n→((i+k:Nat):Int)+1∈a∨ ∃j∈n.inn,j∉a
 |[],i,_,k,n,h=>by simp at h
 |m::r,i,h,k,n,hk=>by
  unfold jr at h;split at h
  ·cases h
  ·rename_i e;cases k with
   |zero=>
    simp only[List.getElem?_cons_zero,Option.some.injEq]at hk;subst hk;by_cases b:((i:Int)+1)∈a
    ·exact .inl b
    ·right;exact Classical.byContradiction fun g=>e ⟨b,fun j f=>Classical.byContradiction fun d=>g ⟨j,f,d⟩⟩
   |succ k=>
    have:=DS h k n (by simpa using hk);rw[show i+1+k=i+(k+1) by omega]at this;exact this
theorem I8(ns:List Nd)(k:Nat):(0:Int)∈bM ns k:=by rw[dr];exact Wb
theorem FW{ns:List Nd}{pos:Int→Nat}(o: ∀(i:Nat) (n:Nd),ns[i]? =some n→ ∀j∈n.inn,0<j→pos j<pos ((i:Int)+1))(hi: ∀n∈ns,bv 0 ns.length n.inn): ∀k≤ns.length,(bM ns k).tail.length=k
 |0,_=>rfl
 |k+1,v=>by
  have z:=FW o hi k (by omega);show(j9 ns (bM ns k)).tail.length=k+1;cases hN:jr (bM ns k) ns 0 with
  |some x=>
   unfold j9;rw[hN];rw[dr];simp only[Yg,List.tail_cons,Tz,VS,V9];omega
  |none=>
   exfalso;have a:=DS hN;have all: ∀(p:Nat)(x:Int),pos x=p→1≤x→x≤(ns.length:Int)→x∈bM ns k:=by
    intro p
    induction p using Nat.strongRecOn with
    |ind p f=>
     intro x w t u;obtain⟨i,rfl⟩: ∃i:Nat,x=(i:Int)+1:=⟨(x-1).toNat,by omega⟩;obtain⟨n,b⟩: ∃n,ns[i]? =some n:=⟨_,bo (by omega)⟩;have:=a i n b;rw[SN]at this;rcases this with h|⟨j,m,g⟩
     ·exact h
     ·exfalso;have q:=hi n (VL b) j m;by_cases h0:j=0
      ·subst h0;exact g (I8 _ _)
      ·have:=o i n b j m (by omega);exact g (f (pos j) (by omega) j rfl (by omega) (by omega))
   have:=jL ((List.range ns.length).map fun i:Nat=>(i:Int)+1) (bM ns k).tail (by
    unfold List.Nodup;rw[XW];exact List.nodup_range.imp fun h e=>h (by omega)) fun y s=>by
    obtain⟨i,d,rfl⟩:=VZ.1 s;rw[Wq]at d;have:=all _ ((i:Int)+1) rfl (by omega) (by omega);rw[dr]at this;rcases V5.1 this with h|h
    ·omega
    ·exact h
   simp only[Ug,WT]at this;omega
def vals(n:Nat)(V:Int→Int)(S:List Int):List Int:=(List.range (n+1)).map fun x:Nat=>if(x:Int)∈S then V x else 0
theorem yp{n:Nat}{V:Int→Int}{S:List Int}{x:Nat}(h:x≤n):(vals n V S)[x]? =some (if(x:Int)∈S then V x else 0):=by
 unfold vals;rw[VP,Wa (by omega)];rfl
theorem cZ(n:Nat)(V:Int→Int)(S:List Int):(vals n V S).length=n+1:=by simp[vals]
theorem I9{n:Nat}{V b:Int→Int}{S a:List Int}(h: ∀x:Nat,x≤n→(if(x:Int)∈S then V x else 0)=if(x:Int)∈a then b x else 0):vals n V S=vals n b a:=by
 refine Wf fun x d=> ?_;rw[Wq]at d;exact h x (by omega)
theorem jK(n:Nat)(V:Int→Int):vals n V [0]=V 0::List.replicate n 0:=by
 apply Wk;intro x;by_cases a:x≤n
 ·rw[yp a];cases x with
  |zero=>simp
  |succ x=>
   rw[if_neg (by simp;omega),List.getElem?_cons_succ,X2,if_pos (by omega)]
 ·rw[V3 (by rw[cZ];omega),V3 (by simp;omega)]
theorem mB{n:Nat}{V:Int→Int}{S js:List Int}(h: ∀j∈js,j∈S∧0≤j∧j≤(n:Int)):bQ (vals n V S) js=js.map V:=by
 refine Wf fun j b=> ?_;obtain⟨a,d,e⟩:=h j b;rw[VT,yp (by omega),show((j.toNat:Nat):Int)=j by omega,if_pos a];rfl
theorem kZ{n:Nat}{V:Int→Int}{S:List Int}{i:Nat}(hi:i+1≤n){v:Int}(d:v=V ((i:Int)+1)):(vals n V S).set (i+1) v=vals n V (S++[(i:Int)+1]):=by
 apply Wk;intro x;by_cases b:x≤n
 ·rw[yp b];by_cases h:i+1=x
  ·subst h;rw[V4 (by rw[cZ];omega),if_pos (by simp),d];rfl
  ·rw[Wv h,yp b];congr 1;by_cases a:(x:Int)∈S
   ·rw[if_pos a,if_pos (by simp[a])]
   ·rw[if_neg a,if_neg (by simp[a];omega)]
 ·rw[V3 (by rw[VU,cZ];omega),V3 (by rw[cZ];omega)]
theorem xk{ns:List Nd}{x:Int}: ∀(a ws rs:List Int),(∀i∈a,1≤i∧i≤(ns.length:Int))→(dk ns a ws rs).1=0→dk ns (a++[x]) ws rs=dk ns [x] (dk ns a ws rs).2.1 (dk ns a ws rs).2.2
 |[],ws,rs,_,_=>rfl
 |i::r,ws,rs,hi,h=>by
  have j:=hi i Wb;obtain⟨n,f⟩: ∃n,ns[i.toNat-1]? =some n:=⟨_,bo (l:=ns) (i:=i.toNat-1) (by omega)⟩;have e: ∀t,dk ns (i::t) ws rs=if n.chk (bQ ws n.inn)≠0 then(n.chk (bQ ws n.inn),ws,rs) else if cf n (bQ rs n.inn)<0 then(15,ws,rs) else dk ns t (ws.set i.toNat (n.wid (bQ ws n.inn))) (rs.set i.toNat (cf n (bQ rs n.inn))):=fun t=>by
   conv=>lhs;unfold dk
   rw[f]
  rw[Yg,e,e];rw[e]at h;by_cases b:n.chk (bQ ws n.inn)≠0
  ·rw[if_pos b]at h;exact absurd h b
  ·rw[if_neg b]at h ⊢;rw[if_neg b];by_cases d:cf n (bQ rs n.inn)<0
   ·rw[if_pos d]at h;exact absurd (show(15:Int)=0 from h) (by decide)
   ·rw[if_neg d]at h ⊢;rw[if_neg d];exact xk r _ _ (fun y g=>hi y (V0 _ g)) h
theorem FX{ns:List Nd}{x:Int}: ∀(a ws rs:List Int),(∀i∈a,1≤i∧i≤(ns.length:Int))→(dk ns (a++[x]) ws rs).1=0→(dk ns a ws rs).1=0
 |[],ws,rs,_,_=>rfl
 |i::r,ws,rs,hi,h=>by
  have j:=hi i Wb;obtain⟨n,f⟩: ∃n,ns[i.toNat-1]? =some n:=⟨_,bo (l:=ns) (i:=i.toNat-1) (by omega)⟩;have e: ∀t,dk ns (i::t) ws rs=if n.chk (bQ ws n.inn)≠0 then(n.chk (bQ ws n.inn),ws,rs) else if cf n (bQ rs n.inn)<0 then(15,ws,rs) else dk ns t (ws.set i.toNat (n.wid (bQ ws n.inn))) (rs.set i.toNat (cf n (bQ rs n.inn))):=fun t=>by
   conv=>lhs;unfold dk
   rw[f]
  rw[Yg,e]at h;rw[e];by_cases b:n.chk (bQ ws n.inn)≠0
  ·rw[if_pos b]at h;exact absurd h b
  ·rw[if_neg b]at h ⊢;by_cases d:cf n (bQ rs n.inn)<0
   ·rw[if_pos d]at h;exact absurd (show(15:Int)=0 from h) (by decide)
   ·rw[if_neg d]at h ⊢;exact FX r _ _ (fun y g=>hi y (V0 _ g)) h
theorem uJ{ns:List Nd}{k:Nat}{x:Int}(h:bM ns (k+1)=bM ns k++[x]):(bM ns (k+1)).tail=(bM ns k).tail++[x]:=by
 rw[h,dr];rfl
theorem bW.lookK{g:Gr}{W R:Int→Int}{pos:Int→Nat}(r:bW g W R pos): ∀k,dk g.nodes (bM g.nodes k).tail (g.width::List.replicate g.nodes.length 0) (1::List.replicate g.nodes.length 0)=(0,vals g.nodes.length W (bM g.nodes k),vals g.nodes.length R (bM g.nodes k))
 |0=>by
  show(0,_,_)=(0,vals g.nodes.length W [0],vals g.nodes.length R [0]);rw[jK,jK,r.w0,r.r0]
 |k+1=>by
  have d:=r.lookK k;rcases lf g.nodes (bM g.nodes k) with e|⟨i,n,a,o,m,e⟩
  ·rw[show bM g.nodes (k+1)=bM g.nodes k from e];exact d
  ·have e:bM g.nodes (k+1)=bM g.nodes k++[(i:Int)+1]:=e;rw[uJ e,xk _ _ _ (ft g.nodes k) (by rw[d]),d,e];have hi:=(R8.1 a).1;have f:=(bX r.first).2.2.2.2.2 n (VL a);have b: ∀j∈n.inn,j∈bM g.nodes k∧0≤j∧j≤(g.nodes.length:Int):=fun j b=>⟨m j b,(f j b).1,(f j b).2⟩;unfold dk;rw[show((i:Int)+1).toNat-1=i by omega,a];dsimp only;rw[mB b,mB b,if_neg (by rw[r.chk i n a];simp),if_neg (by have:=r.rat i n a;omega),show((i:Int)+1).toNat=i+1 by omega];unfold dk;rw[kZ (by omega) (r.wid i n a).symm,kZ (by omega) (r.rid i n a).symm]
theorem bW.ordered{g:Gr}{W R:Int→Int}{pos:Int→Nat}(r:bW g W R pos):(bK g.nodes).length=g.nodes.length:=
 FW r.rank (bX r.first).2.2.2.2.2 _ (VX _)
theorem qb{ns:List Nd}(h:(bK ns).length=ns.length)(V:Int→Int):vals ns.length V (bM ns ns.length)=(List.range (ns.length+1)).map fun x:Nat=>V x:=by
 refine Wf fun x a=> ?_;rw[Wq]at a;rw[if_pos];by_cases h0:x=0
 ·subst h0;exact I8 _ _
 ·rw[dr];exact V0 _ (ny h (by omega) (by omega))
theorem bW.look{g:Gr}{W R:Int→Int}{pos:Int→Nat}(r:bW g W R pos):g.look=⟨0,bK g.nodes,(List.range (g.nodes.length+1)).map fun x:Nat=>W x,(List.range (g.nodes.length+1)).map fun x:Nat=>R x⟩:=by
 have a:=r.lookK g.nodes.length;have a:dk g.nodes (bK g.nodes) (g.width::List.replicate g.nodes.length 0) (1::List.replicate g.nodes.length 0)=_:=a;unfold Gr.look;rw[if_neg (by rw[r.first];simp),if_neg (by rw[r.ordered];simp),a,if_neg (by simp),qb r.ordered,qb r.ordered]
theorem Ll{g:Gr}(h:g.look.e=0): ∃W R,bW g W R (posG g.nodes):=by
 obtain⟨H,I,O⟩:=zX h;have P:=(bX H).2.2.2.2.2
 have key: ∀k,(dk g.nodes (bM g.nodes k).tail (g.width::List.replicate g.nodes.length 0) (1::List.replicate g.nodes.length 0)).1=0→ ∃W R:Int→Int,W 0=g.width∧R 0=1∧
  dk g.nodes (bM g.nodes k).tail (g.width::List.replicate g.nodes.length 0) (1::List.replicate g.nodes.length 0)=(0,vals g.nodes.length W (bM g.nodes k),vals g.nodes.length R (bM g.nodes k))∧
  ∀(i:Nat)(n:Nd),g.nodes[i]? =some n→((i:Int)+1)∈bM g.nodes k→n.chk (n.inn.map W)=0∧W ((i:Int)+1)=n.wid (n.inn.map W)∧0≤cf n (n.inn.map R)∧R ((i:Int)+1)=cf n (n.inn.map R):=by
  intro k
  induction k with
  |zero=>
   intro _;refine⟨fun _=>g.width,fun _=>1,rfl,rfl,?_,fun i n a hi=> ?_⟩
   ·show(0,_,_)=(0,vals g.nodes.length _ [0],vals g.nodes.length _ [0]);rw[jK,jK]
   ·simp[bM]at hi;omega
  |succ k K=>
   rcases lf g.nodes (bM g.nodes k) with e|⟨q,m,A,F,G,e⟩
   ·rw[show bM g.nodes (k+1)=bM g.nodes k from e];exact K
   ·have e:bM g.nodes (k+1)=bM g.nodes k++[(q:Int)+1]:=e;intro s;rw[uJ e]at s ⊢;have z:=FX _ _ _ (ft g.nodes k) s;obtain⟨W,R,w0,r0,E,b⟩:=K z;rw[xk _ _ _ (ft g.nodes k) z,E]at s ⊢;have Q:=(R8.1 A).1;have u:=P m (VL A);have o: ∀j∈m.inn,j∈bM g.nodes k∧0≤j∧j≤(g.nodes.length:Int):=fun j o=>⟨G j o,(u j o).1,(u j o).2⟩
    have N:dk g.nodes [(q:Int)+1] (vals g.nodes.length W (bM g.nodes k)) (vals g.nodes.length R (bM g.nodes k))=
     if m.chk (m.inn.map W)≠0 then(m.chk (m.inn.map W),vals g.nodes.length W (bM g.nodes k),vals g.nodes.length R (bM g.nodes k)) else if cf m (m.inn.map R)<0 then(15,vals g.nodes.length W (bM g.nodes k),vals g.nodes.length R (bM g.nodes k))
     else(0,(vals g.nodes.length W (bM g.nodes k)).set (q+1) (m.wid (m.inn.map W)),(vals g.nodes.length R (bM g.nodes k)).set (q+1) (cf m (m.inn.map R))):=by
     conv=>lhs;unfold dk
     rw[show((q:Int)+1).toNat-1=q by omega,A];dsimp only;rw[mB o,mB o,show((q:Int)+1).toNat=q+1 by omega];rfl
    rw[N]at s ⊢;by_cases B:m.chk (m.inn.map W)≠0
    ·rw[if_pos B]at s;exact absurd s B
    ·rw[if_neg B]at s ⊢;by_cases J:cf m (m.inn.map R)<0
     ·rw[if_pos J]at s;exact absurd (show(15:Int)=0 from s) (by decide)
     ·rw[if_neg J]at s ⊢;have f: ∀(V:Int→Int)(v:Int)(l:List Int),(∀j∈l,j∈bM g.nodes k)→l.map (fun x=>if x=(q:Int)+1 then v else V x)=l.map V:=fun V v l E=>Wf fun j o=>if_neg (fun(h:j=(q:Int)+1)=>F (h▸E j o));have t: ∀(i:Nat)(n:Nd),g.nodes[i]? =some n→((i:Int)+1)∈bM g.nodes k→ ∀j∈n.inn,j∈bM g.nodes k:=fun i n a hi j o=>(qd g.nodes k i n a hi j o).1;have M: ∀(V:Int→Int)(v:Int),(vals g.nodes.length V (bM g.nodes k)).set (q+1) v=vals g.nodes.length (fun x=>if x=(q:Int)+1 then v else V x) (bM g.nodes k++[(q:Int)+1]):=fun V v=>by
       rw[←kZ (n:=g.nodes.length) (V:=fun x=>if x=(q:Int)+1 then v else V x) (by omega) (if_pos rfl).symm];congr 1;refine I9 fun x _=> ?_;by_cases y:(x:Int)∈bM g.nodes k
       ·rw[if_pos y,if_pos y,if_neg (fun(h:(x:Int)=(q:Int)+1)=>F (h▸y))]
       ·rw[if_neg y,if_neg y]
      refine⟨fun x=>if x=(q:Int)+1 then m.wid (m.inn.map W) else W x,fun x=>if x=(q:Int)+1 then cf m (m.inn.map R) else R x,?_,?_,?_,fun i n a hi=> ?_⟩
      ·dsimp only;rw[if_neg (by omega)];exact w0
      ·dsimp only;rw[if_neg (by omega)];exact r0
      ·rw[M,M,e]
      ·dsimp only;rw[e]at hi;by_cases C:((i:Int)+1)∈bM g.nodes k
       ·have w: ¬((i:Int)+1=(q:Int)+1):=fun h=>F (h▸C);have d:=t i n a C;rw[f W _ _ d,f R _ _ d,if_neg w,if_neg w];exact b i n a C
       ·have D:i=q:=by
         rcases VW.1 hi with h|h
         ·exact absurd h C
         ·simp only[VK]at h;omega
        subst D;rw[A]at a;cases a;rw[f W _ _ G,f R _ _ G,if_pos rfl,if_pos rfl];exact⟨Decidable.byContradiction B,rfl,by omega,rfl⟩
 obtain⟨W,R,w0,r0,_,b⟩:=key g.nodes.length O;have d: ∀(i:Nat)(n:Nd),g.nodes[i]? =some n→((i:Int)+1)∈bM g.nodes g.nodes.length:=fun i n a=>by
  have:=(R8.1 a).1;rw[dr];exact V0 _ (ny I (by omega) (by omega))
 exact⟨W,R,H,fun i n a j o _=>qe I a o,w0,r0,fun i n a=>(b i n a (d i n a)).1,fun i n a=>(b i n a (d i n a)).2.1,fun i n a=>(b i n a (d i n a)).2.2.1,fun i n a=>(b i n a (d i n a)).2.2.2⟩
end
section
theorem Lm{n:Nd}{rs:List Int}(h: ∀x∈rs,x=rs.getD 0 0):cf n rs=cf n [rs.getD 0 0]:=by
 have e:[rs.getD 0 0].getD 0 0=rs.getD 0 0:=rfl;have b: ∀x∈[rs.getD 0 0],x=[rs.getD 0 0].getD 0 0:=fun x d=>by simp only[VK]at d;rw[e];exact d
 rw[e]at b;have f: ¬ ¬(∀x∈rs,x=rs.getD 0 0):=fun a=>a h;have g: ¬ ¬(∀x∈[rs.getD 0 0],x=rs.getD 0 0):=fun a=>a b;unfold cf;rw[e,if_neg f,if_neg g]
theorem Hm{n:Nd}{l:List Int}(h:l.length=n.inn.length)(ws:List Int):({n with inn:=l}:Nd).chk ws=n.chk ws:=by
 show(if ws.length≠l.length∨ ¬bv 1 16 ws then(1:Int) else _)=_;rw[h];rfl
theorem Ms{n:Nd}{l:List Int}(h:l.length=n.inn.length)(ws:List Int):({n with inn:=l}:Nd).wid ws=n.wid ws:=by
 unfold Nd.wid;rw[Hm h]
theorem uK{g:Gr}(b:1≤g.nodes.length∧g.nodes.length≤12)(d:1≤g.width∧g.width≤16)(e:g.low≤g.high∧ -32768≤g.low∧g.high≤32767)(f:1≤g.out∧g.out≤(g.nodes.length:Int))(a: ∀n∈g.nodes,bv 0 g.nodes.length n.inn):g.first=0:=by
 unfold Gr.first;rw[if_neg (by omega),if_neg (by omega),if_pos a]
theorem bW.map{g f:Gr}{W R:Int→Int}{pos:Int→Nat}(r:bW g W R pos)(φ:Int→Int)(h0:φ 0=0)(u:f.first=0)(A:f.width=g.width)(z: ∀x,0<x→x≤(f.nodes.length:Int)→0<φ x)
 (y: ∀(i:Nat)(a:Nd),f.nodes[i]? =some a→ ∃(k:Nat)(n:Nd),φ ((i:Int)+1)=(k:Int)+1∧g.nodes[k]? =some n∧a={n with inn:=a.inn}∧a.inn.map φ=n.inn):
 bW f (W ∘ φ) (R ∘ φ) (pos ∘ φ):=by
 have s:=(bX u).2.2.2.2.2;refine⟨u,fun i a b j v h=> ?_,?_,?_,fun i a b=> ?_,fun i a b=> ?_,fun i a b=> ?_,fun i a b=> ?_⟩
 ·obtain⟨k,n,m,d,e,o⟩:=y i a b;show pos (φ j)<pos (φ ((i:Int)+1));rw[m];have t:=s a (VL b) j v;exact r.rank k n d (φ j) (by rw[←o];exact V1 v) (z j h t.2)
 ·show W (φ 0)=_;rw[h0,r.w0,A]
 ·show R (φ 0)=_;rw[h0,r.r0]
 all_goals
  obtain⟨k,n,m,d,e,o⟩:=y i a b;have w:a.inn.length=n.inn.length:=by rw[←o,Ug]
  have q: ∀V:Int→Int,a.inn.map (V ∘ φ)=n.inn.map V:=fun V=>by rw[←o,Xa]
 ·rw[q,e,Hm w];exact r.chk k n d
 ·rw[q,e];show W (φ ((i:Int)+1))=_;rw[Ms w,m];exact r.wid k n d
 ·rw[q,e];exact r.rat k n d
 ·rw[q,e];show R (φ ((i:Int)+1))=_;rw[m];exact r.rid k n d
theorem DT{xs:List Int}{v x:Int}(h0:0≤x)(a:x<(xs.length:Int)):at_ (xs++[v]) x=at_ xs x:=by
 unfold at_;rw[VT,VT,WE (by omega)]
theorem Mu(xs:List Int)(v:Int){x:Int}(h:x=(xs.length:Int)):at_ (xs++[v]) x=v:=by
 subst h;unfold at_;rw[VT,hC,WS];rfl
theorem lI.each{w0:Int}(h0:dB w0 1 16){ns:List Nd}{ws rs:List Int}(b:lI w0 ns ws rs):at_ ws 0=w0∧at_ rs 0=1∧ ∀(i:Nat)(n:Nd),ns[i]? =some n→(∀j∈n.inn,0≤j∧j≤(i:Int))∧n.chk (n.inn.map (at_ ws))=0∧at_ ws ((i:Int)+1)=n.wid (n.inn.map (at_ ws))∧0≤cf n (n.inn.map (at_ rs))∧at_ rs ((i:Int)+1)=cf n (n.inn.map (at_ rs)):=by
 induction b with
 |nil=>exact⟨rfl,rfl,fun i n h=>by simp at h⟩
 |snoc ns ws rs n Y X b st F=>
  obtain⟨P,i1,F⟩:=F;have J:=b.len;have d:=b.range h0;have same: ∀(xs:List Int)(v:Int)(l:List Int),(∀j∈l,0≤j∧j<(xs.length:Int))→l.map (at_ (xs++[v]))=l.map (at_ xs):=fun xs v l I=>Wf fun j a=>DT (I j a).1 (I j a).2;refine⟨by rw[DT (by omega) (by omega)];exact P,by rw[DT (by omega) (by omega)];exact i1,fun i m s=> ?_⟩;by_cases hi:i<ns.length
  ·rw[WE hi]at s;obtain⟨G,Q,S,U,V⟩:=F i m s;have K:=same ws Y m.inn fun j a=>by have:=G j a;omega
   have M:=same rs X m.inn fun j a=>by have:=G j a;omega
   rw[K,M,DT (by omega) (by omega),DT (by omega) (by omega)];exact⟨G,Q,S,U,V⟩
  ·have B:i=ns.length:=by
    have:=(R8.1 s).1;simp at this;omega
   subst B;rw[WS]at s;cases s;obtain⟨ins,z,f,O,q,rfl,rfl⟩:=st;have C:=DN f d.1;have u:=DM q (by simp) z C;have g:ins.getD 0 0∈ins:=by rw[cA (by omega)];exact VN _
   have E:=d.2 _ (Lj (xs:=rs) (f _ g).1 (by have:=f _ g;omega));have A:=FV q E.1;have w:n.inn=ins.take n.inn.length:=by
    rcases ym q with h|h
    ·rw[h,Xr]
    ·rw[h,VV];congr 1;omega
   have o:(ins.map (at_ ws)).take n.inn.length=n.inn.map (at_ ws):=by
    conv=>rhs;rw[w]
    rw[List.map_take]
   have e: ∀j∈n.inn,0≤j∧j<(ws.length:Int):=fun j a=>f j (rA q a);rw[same ws _ n.inn e,same rs _ n.inn fun j a=>by have:=e j a;omega,Mu ws _ (by omega),Mu rs _ (by omega)];rw[o]at u ⊢;have N:1≤n.inn.length:=by
    rcases ym q with h|h
    ·rw[h];omega
    ·rw[h,VV];omega
   have k:0<(n.inn.map (at_ rs)).length:=by rw[Ug];omega
   have y: ∀x∈n.inn.map (at_ rs),x=at_ rs (ins.getD 0 0):=fun x D=>by
    obtain⟨j,a,rfl⟩:=VZ.1 D;exact O j (rA q a)
   have H:(n.inn.map (at_ rs)).getD 0 0=at_ rs (ins.getD 0 0):=by
    rw[cA k];exact y _ (VN _)
   have t:cf n (n.inn.map (at_ rs))=cf n [at_ rs (ins.getD 0 0)]:=by
    rw[←H];exact Lm fun x D=>by rw[y x D,H]
   rw[t];exact⟨fun j a=>by have:=e j a;omega,u.1,rfl,A.1,rfl⟩
theorem lI.right{w0 lo hi out:Int}(h0:dB w0 1 16){ns:List Nd}{ws rs:List Int}(b:lI w0 ns ws rs)(g:(⟨w0,lo,hi,ns,out⟩:Gr).first=0):bW ⟨w0,lo,hi,ns,out⟩ (at_ ws) (at_ rs) Int.toNat:=by
 obtain⟨e,f,d⟩:=b.each h0;exact⟨g,fun i n a j k h=>by have:=(d i n a).1 j k;omega,e,f,fun i n a=>(d i n a).2.1,fun i n a=>(d i n a).2.2.1,fun i n a=>(d i n a).2.2.2.1,fun i n a=>(d i n a).2.2.2.2⟩
theorem bW.turned{g:Gr}{W R:Int→Int}{pos:Int→Nat}(r:bW g W R pos):bW g.turned (W ∘ gK g.nodes.length) (R ∘ gK g.nodes.length) (pos ∘ gK g.nodes.length):=by
 obtain⟨q,s,t,u,z,m⟩:=bX r.first;have e:g.turned.nodes.length=g.nodes.length:=by simp[Gr.turned]
 have a: ∀(i:Nat)(b:Nd),g.turned.nodes[i]? =some b→i<g.nodes.length∧ ∃n,g.nodes[g.nodes.length-1-i]? =some n∧b=Mx g.nodes.length n:=fun i b h=>by
  have hi:i<g.nodes.length:=by have:=(R8.1 h).1;omega
  have h:(g.nodes.map (Mx g.nodes.length)).reverse[i]? =some b:=h;rw[List.getElem?_reverse (by rw[Ug];exact hi),Ug,VP,WM]at h;obtain⟨n,d,o⟩:=h;exact⟨hi,n,d,o.symm⟩
 refine r.map (gK g.nodes.length) (by simp[gK]) ?_ rfl (fun x A v=> ?_) (fun i b f=> ?_)
 ·refine uK ?_ t u ?_ fun b j=> ?_
  ·rw[e];exact⟨q,s⟩
  ·rw[e];show 1≤(g.nodes.length:Int)+1-g.out∧(g.nodes.length:Int)+1-g.out≤_;omega
  ·obtain⟨i,f⟩:=Wx.1 j;obtain⟨_,n,d,rfl⟩:=a i b f;rw[e];intro x w;obtain⟨y,k,rfl⟩:=VZ.1 w;have:=m n (VL d) y k;unfold gK;split<;>omega
 ·rw[e]at v;unfold gK;rw[if_pos (by omega)];omega
 ·obtain⟨hi,n,d,rfl⟩:=a i b f;refine⟨g.nodes.length-1-i,n,by unfold gK;rw[if_pos (by omega)];omega,d,rfl,?_⟩;show(n.inn.map (gK g.nodes.length)).map (gK g.nodes.length)=n.inn;rw[Xa]
  conv=>rhs;rw[←List.map_id n.inn]
  refine Wf fun y k=> ?_;have:=m n (VL d) y k;show gK _ (gK _ y)=y;by_cases h0:y>0
  ·unfold gK;rw[if_pos h0,if_pos (by omega)];omega
  ·unfold gK;rw[if_neg h0,if_neg h0]
theorem DO.right{g:Gr}(m:DO g): ∃W R pos,bW g W R pos:=by
 obtain⟨ns,ws,rs,out,f,d,a,i,s,b,o,j⟩:=m;have r:=b.right (lo:=g.low) (hi:=g.high) (out:=out) (show dB g.width 1 16 from⟨f.1,by have:=f.2;omega⟩)
  (uK (g:=⟨g.width,g.low,g.high,ns,out⟩) ⟨i,by show ns.length≤12;omega⟩ ⟨f.1,by show g.width≤16;have:=f.2;omega⟩ ⟨by show g.low≤g.high;have:=d.2;have:=a.1;omega,by show-32768≤g.low;have:=d.1;omega,by show g.high≤32767;have:=a.2;omega⟩ o fun n k x q=>b.inn n k x q)
 rcases j with e|e
 ·rw[e];exact⟨_,_,_,r⟩
 ·rw[e];exact⟨_,_,_,r.turned⟩
theorem Mv(f:Nat→Nat): ∀(l:List Nat)(x:Nat),x∈l→f x≤(l.map f).sum
 |[],x,h=>by simp at h
 |y::r,x,h=>by
  rw[Wc,WX];rcases V5.1 h with rfl|h
  ·omega
  ·have:=Mv f r x h;omega
theorem bW.snoc{g:Gr}{W R:Int→Int}{pos:Int→Nat}(r:bW g W R pos){n:Nd}{o:Int}(M:g.nodes.length<12)(e: ∀j∈n.inn,0≤j∧j≤(g.nodes.length:Int))(N:1≤o∧o≤(g.nodes.length:Int)+1)(F:n.chk (n.inn.map W)=0)(G:0≤cf n (n.inn.map R)):
 ∃z y s,bW {g with nodes:=g.nodes++[n],out:=o} z y s:=by
 obtain⟨H,I,C,D,J,u⟩:=bX r.first;obtain⟨B,A⟩: ∃B,((List.range (g.nodes.length+1)).map fun x:Nat=>pos (x:Int)).sum=B:=⟨_,rfl⟩;have E: ∀j:Int,0≤j→j≤(g.nodes.length:Int)→pos j≤B:=fun j h0 K=>by
  have:=Mv (fun x:Nat=>pos (x:Int)) (List.range (g.nodes.length+1)) j.toNat (Wq.2 (by omega));rw[A]at this;rw[show((j.toNat:Nat):Int)=j by omega]at this;exact this
 have d: ∀(V:Int→Int)(v:Int)(l:List Int),(∀j∈l,0≤j∧j≤(g.nodes.length:Int))→l.map (fun x=>if x=(g.nodes.length:Int)+1 then v else V x)=l.map V:=fun V v l h=>Wf fun j k=>if_neg (by have:=h j k;omega);have f: ∀(i:Nat)(m:Nd),(g.nodes++[n])[i]? =some m→(i<g.nodes.length∧g.nodes[i]? =some m)∨(i=g.nodes.length∧m=n):=fun i m h=>by
  by_cases hi:i<g.nodes.length
  ·rw[WE hi]at h;exact .inl ⟨hi,h⟩
  ·have t:i=g.nodes.length:=by
    have:=(R8.1 h).1;simp at this;omega
   subst t;rw[WS]at h;cases h;exact .inr ⟨rfl,rfl⟩
 have b: ∀(i:Nat)(m:Nd),g.nodes[i]? =some m→ ∀j∈m.inn,0≤j∧j≤(g.nodes.length:Int):=fun i m a j k=>u m (VL a) j k;refine⟨fun x=>if x=(g.nodes.length:Int)+1 then n.wid (n.inn.map W) else W x,fun x=>if x=(g.nodes.length:Int)+1 then cf n (n.inn.map R) else R x,fun x=>if x=(g.nodes.length:Int)+1 then B+1 else pos x,?_,?_,?_,?_,?_,?_,?_,?_⟩
 ·refine uK ?_ C D ?_ fun m q x w=> ?_
  ·simp only[Tz,VS,V9];omega
  ·simp only[Tz,VS,V9];omega
  ·simp only[Tz,VS,V9];rcases VW.1 q with q|q
   ·have:=u m q x w;omega
   ·simp only[VK]at q;subst q;have:=e x w;omega
 ·intro i m a j k h0
  try dsimp only
  rcases f i m a with ⟨hi,a⟩|⟨rfl,rfl⟩
  ·have:=b i m a j k;rw[if_neg (by omega),if_neg (by omega)];exact r.rank i m a j k h0
  ·have:=e j k;rw[if_neg (by omega),if_pos rfl];have:=E j (by omega) (by omega);omega
 ·try dsimp only
  rw[if_neg (by omega)];exact r.w0
 ·try dsimp only
  rw[if_neg (by omega)];exact r.r0
 all_goals
  intro i m a
  try dsimp only
  rcases f i m a with ⟨hi,a⟩|⟨rfl,rfl⟩
 ·rw[d W _ _ (b i m a)];exact r.chk i m a
 ·rw[d W _ _ e];exact F
 ·rw[d W _ _ (b i m a),if_neg (by omega)];exact r.wid i m a
 ·rw[d W _ _ e,if_pos rfl]
 ·rw[d R _ _ (b i m a)];exact r.rat i m a
 ·rw[d R _ _ e];exact G
 ·rw[d R _ _ (b i m a),if_neg (by omega)];exact r.rid i m a
 ·rw[d R _ _ e,if_pos rfl]
theorem NO{n:Nd}{ws:List Int}(h:n.chk ws=0):dB (n.wid ws) 1 16:=by
 obtain⟨b,j,u,v,y,z,A,B,C,d,i,e⟩:=fD h;unfold Nd.wid;rw[if_neg (fun o=>o h)];have m:ws.getD 0 0∈ws:=by rw[cA (by omega)];exact VN _
 split
 ·rename_i q;exact d.2.2.1 q
 ·split
  ·decide
  ·split
   ·exact b _ m
   ·rename_i E;refine⟨?_,e (by omega)⟩;cases ws with
    |nil=>simp at j
    |cons w r=>
     have D:=b w Wb;have pos: ∀l:List Int,bv 1 16 l→0≤gW l:=by
      intro l
      induction l with
      |nil=>intro _;exact Xx _
      |cons a t s=>
       intro g;have k:=g a Wb;have:=s fun x f=>g x (V0 _ f);show 0≤a+gW t;omega
     have k:=pos r fun x f=>b x (V0 _ f);show 1≤w+gW r;omega
theorem bW.wide{g:Gr}{W R:Int→Int}{pos:Int→Nat}(r:bW g W R pos){x:Int}(h0:0≤x)(d:x≤(g.nodes.length:Int)):dB (W x) 1 16:=by
 by_cases b:x=0
 ·subst b;rw[r.w0];exact(bX r.first).2.2.1
 ·obtain⟨i,rfl⟩: ∃i:Nat,x=(i:Int)+1:=⟨(x-1).toNat,by omega⟩;obtain⟨n,a⟩: ∃n,g.nodes[i]? =some n:=⟨_,bo (by omega)⟩;rw[r.wid i n a];exact NO (r.chk i n a)
theorem bW.rates{g:Gr}{W R:Int→Int}{pos:Int→Nat}(r:bW g W R pos){x:Int}(h0:0≤x)(d:x≤(g.nodes.length:Int)):0≤R x:=by
 by_cases b:x=0
 ·subst b;rw[r.r0];decide
 ·obtain⟨i,rfl⟩: ∃i:Nat,x=(i:Int)+1:=⟨(x-1).toNat,by omega⟩;obtain⟨n,a⟩: ∃n,g.nodes[i]? =some n:=⟨_,bo (by omega)⟩;rw[r.rid i n a];exact r.rat i n a
theorem DU{n:Nd}{w:Int}(i:n.kind=9∨n.kind=10∨n.kind=11)(hi:n.inn.length=1)(d:n.post=0)(b:n.else0)(e:n.sized w)(g:dB w 1 16):n.chk [w]=0:=by
 have f:bv 1 16 [w]:=fun x a=>by simp only[VK]at a;subst a;exact g
 exact gX hi.symm f ⟨by omega,by omega⟩ (fun h=>absurd h (by unfold dm;omega)) (fun _=>rfl) d b e (fun h=>by omega) (fun h=>by omega)
theorem RH{n:Nd}{o w:Int}(b:n=uH o∨n=uI o∨n=DQ o)(a:dB w 1 16):n.chk [w]=0:=by
 rcases b with rfl|rfl|rfl
 ·exact DU (.inl rfl) rfl rfl (by show(uH 0).else0;decide) (by
   show(uH 0).sized w;exact⟨fun h=>absurd h (by decide),fun h=>absurd h (by decide),fun h=>absurd h (by decide),fun h=>absurd h (by decide),by decide⟩) a
 ·exact DU (.inr (.inl rfl)) rfl rfl (by show(uI 0).else0;decide) (by
   show(uI 0).sized w;exact⟨fun h=>absurd h (by decide),fun h=>absurd h (by decide),fun h=>absurd h (by decide),fun h=>absurd h (by decide),by decide⟩) a
 ·exact DU (.inr (.inr rfl)) rfl rfl (by show(DQ 0).else0;decide) (by
   show(DQ 0).sized w;exact⟨fun h=>absurd h (by decide),fun h=>absurd h (by decide),fun h=>absurd h (by decide),fun h=>absurd h (by decide),by decide⟩) a
theorem P5{n:Nd}{o ρ:Int}(a:n=uH o∨n=uI o∨n=DQ o)(h:0≤ρ):0≤cf n [ρ]:=by
 have e:cf n [ρ]=ρ:=by
  rcases a with rfl|rfl|rfl
  ·unfold cf;rw[if_neg (by simp),if_neg (fun h=>absurd h.2 (by show ¬(iK 9∨(9:Int)=5);decide)),if_neg (by show ¬((9:Int)=5);decide)];show ρ*1=ρ;omega
  ·unfold cf;rw[if_neg (by simp),if_neg (fun h=>absurd h.2 (by show ¬(iK 10∨(10:Int)=5);decide)),if_neg (by show ¬((10:Int)=5);decide)];show ρ*1=ρ;omega
  ·unfold cf;rw[if_neg (by simp),if_neg (fun h=>absurd h.2 (by show ¬(iK 11∨(11:Int)=5);decide)),if_neg (by show ¬((11:Int)=5);decide)];show ρ*1=ρ;omega
 rw[e];exact h
theorem bW.one{g:Gr}{W R:Int→Int}{pos:Int→Nat}(r:bW g W R pos){n:Nd}(d:n=uH g.out∨n=uI g.out∨n=DQ g.out)(m:g.nodes.length<12){o:Int}(q:1≤o∧o≤(g.nodes.length:Int)+1):
 ∃k i a,bW {g with nodes:=g.nodes++[n],out:=o} k i a:=by
 have e:=(bX r.first).2.2.2.2.1;have b:n.inn=[g.out]:=by rcases d with rfl|rfl|rfl<;>rfl
 refine r.snoc m (fun j f=> ?_) q ?_ ?_
 ·rw[b]at f;simp only[VK]at f;omega
 ·rw[b];exact RH d (r.wide (by omega) e.2)
 ·rw[b];exact P5 d (r.rates (by omega) e.2)
theorem Lk.right{b:Gr}(d: ∃W R pos,bW b W R pos)(j:b.nodes.length≤6){k:Nat}{g:Gr}(m:Lk b k g):(∃W R pos,bW g W R pos)∧g.nodes.length=b.nodes.length+k∨6<k:=by
 induction m with
 |base=>exact .inl ⟨d,rfl⟩
 | @step k g n m f i=>
   rcases i with ⟨⟨W,R,pos,r⟩,a⟩|h
   ·by_cases e:6<k+1
    ·exact .inr e
    ·left;refine⟨r.one (f.imp id .inl) (by omega) (by omega),?_⟩;show(g.nodes++[n]).length=_;rw[Tz,a];rfl
   ·exact .inr (by omega)
theorem Hl.right{g:Gr}(m:Hl g): ∃W R pos,bW g W R pos:=by
 obtain⟨b,k,j,a,n,f,e⟩:=m;rcases f.right a.right a.len.2 with ⟨⟨W,R,pos,r⟩,d⟩|h
 ·rcases e with rfl|rfl
  ·exact⟨_,_,_,r⟩
  ·have i:=(bX r.first).2.2.2.2.1;have:=a.len.2;exact r.one (.inr (.inr rfl)) (by omega) (by omega)
 ·omega
