/- Plain: graphs of plain numbers are right. -/
import Derived.Test.YtdhpmegbmjoekaaGreatDoorCMade4
namespace Go.Proofs.YtdhpmegbmjoekaaGreatDoor.G
open Go Go.Sh
set_option linter.unusedVariables false
set_option linter.unusedSimpArgs false
def at_ (xs:List Int) (x:Int):Int:=xs.getD x.toNat 0
theorem gZ {n:Nd} {ws:List Int} (h1:ws.length=n.inn.length) (h2:bo 1 16 ws) (h3:dw n.kind 1 12) (h4:dv n.kind→2≤ws.length∧ws.length≤4) (h5: ¬dv n.kind→ws.length=1) (h6:n.post=0) (h8:n.else0) (h9:n.sized (ws.getD 0 0))
 (h10:n.kind=7→ ∀x∈ws,x=ws.getD 0 0) (h11:n.kind=8→gN ws≤16):n.chk ws=0:=by
 unfold Nd.chk
 rw[if_neg (by rintro(h|h);exact h h1;exact h h2),if_neg,if_neg (fun h=>h h9),if_neg (fun h=>h.2 (h10 h.1)),if_neg (fun h=>by have:=h11 h.1;omega)]
 rintro(h|h|h|h|h|h)
 ·exact h h3
 ·exact h.2 (h4 h.1)
 ·exact h.2 (h5 h.1)
 ·omega
 ·exact h.1 h6
 ·exact h h8
theorem mI {lo hi lo' hi':Int} {xs:List Int} (h:bo lo hi xs) (h1:lo'≤lo) (h2:hi≤hi'):bo lo' hi' xs:=fun x hx=>by have:=h x hx;omega
theorem Dx {ins ws:List Int} {st:Bool} {n:Nd} (g:GoodN ins ws st n) (hl:ws.length=ins.length) (h12:ins.length=1∨ins.length=2) (hf:bo 1 16 ws):
 n.chk (ws.take n.inn.length)=0∧dw (n.wid (ws.take n.inn.length)) 1 16:=by
 have hws: ∃w r,ws=w::r:=by
  cases ws with
  |nil=>simp at hl;omega
  |cons w r=>exact⟨w,r,rfl⟩
 obtain⟨w,r,rfl⟩:=hws
 have hw:1≤w∧w≤16:=hf w (by simp)
 have ht1: ∀k,(ins.take 1).length=k→(w::r).take k=[w]:=fun k hk=>by
  have:k=1:=by rw[←hk,List.length_take];simp at hl;omega
  rw[this];rfl
 have hl1:(ins.take 1).length=1:=by rw[List.length_take];omega
 have hfw:bo 1 16 [w]:=by rw[bV];exact⟨hw,cD _ _⟩
 have wid0: ∀{n:Nd} {u:List Int},n.chk u=0→n.wid u=if wide n.kind then n.width else if n.kind=11 then 1 else if n.kind≠8 then u.getD 0 0 else gN u:=fun{n u} h=>by unfold Nd.wid;rw[if_neg (by omega)]
 have g0:(w::r).getD 0 0=w:=rfl
 have g1:[w].getD 0 0=w:=rfl
 cases g with
 |add st h2 hall=>
  have ht:(w::r).take ins.length=w::r:=List.take_of_length_le (by omega)
  have hc:Nd.chk ⟨7,ins,0,0,0,0,0,0,[],[],0,0,0,0,0⟩ (w::r)=0:=by
   refine gZ hl hf (by show dw 7 1 12;omega) (fun _=>by omega) (fun h=>absurd (.inl rfl) h) rfl ⟨fun _=>⟨rfl,rfl,rfl,rfl⟩,fun _=>rfl,fun _=>rfl,fun _=>⟨rfl,rfl⟩,.inr ⟨rfl,rfl⟩,.inr ⟨rfl,rfl⟩⟩
    ⟨fun h=>absurd h (by first|(dsimp only;decide)|decide|dsimp only),fun h=>absurd h (by first|(dsimp only;decide)|decide|dsimp only),fun h=>absurd h (by first|(dsimp only;decide)|decide|dsimp only),fun h=>absurd h (by first|(dsimp only;decide)|decide|dsimp only),by first|(dsimp only;decide)|decide|dsimp only⟩ (fun _=>hall) (fun h=>absurd h (by first|(dsimp only;decide)|decide|dsimp only))
  rw[ht]
  refine⟨hc,?_⟩
  rw[wid0 hc,if_neg (by first|(dsimp only;decide)|decide|dsimp only),if_neg (by first|(dsimp only;decide)|decide|dsimp only),if_pos (by first|(dsimp only;decide)|decide|dsimp only)]
  exact hw
 |join st h2 hsum=>
  have ht:(w::r).take ins.length=w::r:=List.take_of_length_le (by omega)
  have hc:Nd.chk ⟨8,ins,0,0,0,0,0,0,[],[],0,0,0,0,0⟩ (w::r)=0:=by
   refine gZ hl hf (by show dw 8 1 12;omega) (fun _=>by omega) (fun h=>absurd (.inr rfl) h) rfl ⟨fun _=>⟨rfl,rfl,rfl,rfl⟩,fun _=>rfl,fun _=>rfl,fun _=>⟨rfl,rfl⟩,.inr ⟨rfl,rfl⟩,.inr ⟨rfl,rfl⟩⟩
    ⟨fun h=>absurd h (by first|(dsimp only;decide)|decide|dsimp only),fun h=>absurd h (by first|(dsimp only;decide)|decide|dsimp only),fun h=>absurd h (by first|(dsimp only;decide)|decide|dsimp only),fun h=>absurd h (by first|(dsimp only;decide)|decide|dsimp only),by first|(dsimp only;decide)|decide|dsimp only⟩ (fun h=>absurd h (by first|(dsimp only;decide)|decide|dsimp only)) (fun _=>hsum)
  rw[ht]
  refine⟨hc,?_⟩
  rw[wid0 hc,if_neg (by first|(dsimp only;decide)|decide|dsimp only),if_neg (by first|(dsimp only;decide)|decide|dsimp only),if_neg (by first|(dsimp only;decide)|decide|dsimp only)]
  rw[bV] at hf
  have:=jz hf.2
  simp only[gN] at hsum ⊢
  omega
 |conv width size step gap left right ww bb hwin hwd e1 e2 f1 f2=>
  obtain⟨a1,a2,a3,a4,a5⟩:=hwin
  rw[g0] at e1
  have hc:Nd.chk ⟨1,ins.take 1,width,size,step,gap,left,right,ww,bb,0,0,0,0,0⟩ [w]=0:=by
   refine gZ hl1.symm hfw (by show dw 1 1 12;omega) (fun h=>absurd h (by first|(dsimp only;decide)|decide|dsimp only)) (fun h=>rfl) rfl ⟨fun h=>absurd (.inl rfl) h,fun h=>absurd (.inl rfl) h.1,fun h=>absurd (.inl rfl) h,fun h=>absurd (.inl rfl) h,.inr ⟨rfl,rfl⟩,.inr ⟨rfl,rfl⟩⟩
    ⟨fun _=>by show dw size 1 8;omega,fun _=>⟨by show dw step 1 4;omega,by show dw gap 1 4;omega,?_,?_⟩,fun _=>by show dw width 1 16;omega,fun _=>⟨e1,e2,mI f1 (by first|(dsimp only;decide)|decide|dsimp only) (by first|(dsimp only;decide)|decide|dsimp only),mI f2 (by first|(dsimp only;decide)|decide|dsimp only) (by first|(dsimp only;decide)|decide|dsimp only)⟩,by first|(dsimp only;decide)|decide|dsimp only⟩ (fun h=>absurd h (by first|(dsimp only;decide)|decide|dsimp only)) (fun h=>absurd h (by first|(dsimp only;decide)|decide|dsimp only))
   ·show 0≤left∧left<(size-1)*gap+1;omega
   ·show 0≤right∧right<(size-1)*gap+1;omega
  rw[ht1 _ rfl]
  refine⟨hc,?_⟩
  rw[wid0 hc,if_pos (by first|(dsimp only;decide)|decide|dsimp only)]
  show dw width 1 16;omega
 |depth size step gap left right ww bb hwin e1 e2 f1 f2=>
  obtain⟨a1,a2,a3,a4,a5⟩:=hwin
  rw[g0] at e1 e2
  have hc:Nd.chk ⟨2,ins.take 1,0,size,step,gap,left,right,ww,bb,0,0,0,0,0⟩ [w]=0:=by
   refine gZ hl1.symm hfw (by show dw 2 1 12;omega) (fun h=>absurd h (by first|(dsimp only;decide)|decide|dsimp only)) (fun h=>rfl) rfl ⟨fun h=>absurd (.inr (.inl rfl)) h,fun h=>absurd (.inr (.inl rfl)) h.1,fun h=>rfl,fun h=>absurd (.inr (.inl rfl)) h,.inr ⟨rfl,rfl⟩,.inr ⟨rfl,rfl⟩⟩
    ⟨fun _=>by show dw size 1 8;omega,fun _=>⟨by show dw step 1 4;omega,by show dw gap 1 4;omega,?_,?_⟩,fun h=>absurd h (by first|(dsimp only;decide)|decide|dsimp only),fun _=>⟨?_,e2,mI f1 (by first|(dsimp only;decide)|decide|dsimp only) (by first|(dsimp only;decide)|decide|dsimp only),mI f2 (by first|(dsimp only;decide)|decide|dsimp only) (by first|(dsimp only;decide)|decide|dsimp only)⟩,by first|(dsimp only;decide)|decide|dsimp only⟩ (fun h=>absurd h (by first|(dsimp only;decide)|decide|dsimp only)) (fun h=>absurd h (by first|(dsimp only;decide)|decide|dsimp only))
   ·show 0≤left∧left<(size-1)*gap+1;omega
   ·show 0≤right∧right<(size-1)*gap+1;omega
   ·show(ww.length:Int)=w*size;rw[e1,Int.mul_comm]
  rw[ht1 _ rfl]
  refine⟨hc,?_⟩
  rw[wid0 hc,if_neg (by first|(dsimp only;decide)|decide|dsimp only),if_neg (by first|(dsimp only;decide)|decide|dsimp only),if_pos (by first|(dsimp only;decide)|decide|dsimp only)]
  exact hw
 |pool k size step gap left right hk hwin=>
  obtain⟨a1,a2,a3,a4,a5⟩:=hwin
  have hc:Nd.chk ⟨k,ins.take 1,0,size,step,gap,left,right,[],[],0,0,0,0,0⟩ [w]=0:=by
   refine gZ hl1.symm hfw (by show dw k 1 12;omega) (fun h=>absurd h (by show ¬dv k;omega)) (fun h=>rfl) rfl ⟨fun h=>absurd (by show dD k;omega) h,fun h=>absurd (by show dD k;omega) h.1,fun h=>rfl,fun h=>⟨rfl,rfl⟩,.inr ⟨rfl,rfl⟩,.inr ⟨rfl,rfl⟩⟩
    ⟨fun _=>by show dw size 1 8;omega,fun _=>⟨by show dw step 1 4;omega,by show dw gap 1 4;omega,?_,?_⟩,fun h=>absurd h (by show ¬wide k;omega),fun h=>absurd h (by show ¬jb k;omega),by first|(dsimp only;decide)|decide|dsimp only⟩ (fun h=>absurd h (by show ¬k=7;omega)) (fun h=>absurd h (by show ¬k=8;omega))
   ·have:Nd.span ⟨k,ins.take 1,0,size,step,gap,left,right,[],[],0,0,0,0,0⟩=(size-1)*gap+1:=by
     show zz k size gap=_;unfold zz;rw[if_neg (by omega),if_pos (by omega)]
    rw[this];show 0≤left∧left<(size-1)*gap+1;omega
   ·have:Nd.span ⟨k,ins.take 1,0,size,step,gap,left,right,[],[],0,0,0,0,0⟩=(size-1)*gap+1:=by
     show zz k size gap=_;unfold zz;rw[if_neg (by omega),if_pos (by omega)]
    rw[this];show 0≤right∧right<(size-1)*gap+1;omega
  rw[ht1 _ rfl]
  refine⟨hc,?_⟩
  rw[wid0 hc,if_neg (by show ¬wide k;omega),if_neg (by show ¬k=11;omega),if_pos (by show k≠8;omega)]
  exact hw
 |smooth size hs=>
  have hc:Nd.chk ⟨12,ins.take 1,0,size,0,0,0,0,[],[],0,0,0,0,0⟩ [w]=0:=by
   refine gZ hl1.symm hfw (by show dw 12 1 12;omega) (fun h=>absurd h (by first|(dsimp only;decide)|decide|dsimp only)) (fun h=>rfl) rfl ⟨fun h=>⟨rfl,rfl,rfl,rfl⟩,fun h=>absurd rfl h.2,fun h=>rfl,fun h=>⟨rfl,rfl⟩,.inr ⟨rfl,rfl⟩,.inr ⟨rfl,rfl⟩⟩
    ⟨fun _=>by show dw size 1 8;omega,fun h=>absurd h (by first|(dsimp only;decide)|decide|dsimp only),fun h=>absurd h (by first|(dsimp only;decide)|decide|dsimp only),fun h=>absurd h (by first|(dsimp only;decide)|decide|dsimp only),by first|(dsimp only;decide)|decide|dsimp only⟩ (fun h=>absurd h (by first|(dsimp only;decide)|decide|dsimp only)) (fun h=>absurd h (by first|(dsimp only;decide)|decide|dsimp only))
  rw[ht1 _ rfl]
  refine⟨hc,?_⟩
  rw[wid0 hc,if_neg (by first|(dsimp only;decide)|decide|dsimp only),if_neg (by first|(dsimp only;decide)|decide|dsimp only),if_pos (by first|(dsimp only;decide)|decide|dsimp only)]
  exact hw
 |whole=>
  have hc:Nd.chk ⟨5,ins.take 1,0,0,0,0,0,0,[],[],0,0,0,0,0⟩ [w]=0:=by
   refine gZ hl1.symm hfw (by show dw 5 1 12;omega) (fun h=>absurd h (by first|(dsimp only;decide)|decide|dsimp only)) (fun h=>rfl) rfl ⟨fun h=>⟨rfl,rfl,rfl,rfl⟩,fun h=>rfl,fun h=>rfl,fun h=>⟨rfl,rfl⟩,.inr ⟨rfl,rfl⟩,.inr ⟨rfl,rfl⟩⟩
    ⟨fun h=>absurd h (by first|(dsimp only;decide)|decide|dsimp only),fun h=>absurd h (by first|(dsimp only;decide)|decide|dsimp only),fun h=>absurd h (by first|(dsimp only;decide)|decide|dsimp only),fun h=>absurd h (by first|(dsimp only;decide)|decide|dsimp only),by first|(dsimp only;decide)|decide|dsimp only⟩ (fun h=>absurd h (by first|(dsimp only;decide)|decide|dsimp only)) (fun h=>absurd h (by first|(dsimp only;decide)|decide|dsimp only))
  rw[ht1 _ rfl]
  refine⟨hc,?_⟩
  rw[wid0 hc,if_neg (by first|(dsimp only;decide)|decide|dsimp only),if_neg (by first|(dsimp only;decide)|decide|dsimp only),if_pos (by first|(dsimp only;decide)|decide|dsimp only)]
  exact hw
 |dense st width ww bb hwd e1 e2 f1 f2=>
  rw[g0] at e1
  have hc:Nd.chk ⟨6,ins.take 1,width,0,0,0,0,0,ww,bb,0,0,0,0,0⟩ [w]=0:=by
   refine gZ hl1.symm hfw (by show dw 6 1 12;omega) (fun h=>absurd h (by first|(dsimp only;decide)|decide|dsimp only)) (fun h=>rfl) rfl ⟨fun h=>⟨rfl,rfl,rfl,rfl⟩,fun h=>rfl,fun h=>absurd (.inr rfl) h,fun h=>absurd (.inr (.inr rfl)) h,.inr ⟨rfl,rfl⟩,.inr ⟨rfl,rfl⟩⟩
    ⟨fun h=>absurd h (by first|(dsimp only;decide)|decide|dsimp only),fun h=>absurd h (by first|(dsimp only;decide)|decide|dsimp only),fun _=>by show dw width 1 16;omega,fun _=>⟨e1,e2,mI f1 (by first|(dsimp only;decide)|decide|dsimp only) (by first|(dsimp only;decide)|decide|dsimp only),mI f2 (by first|(dsimp only;decide)|decide|dsimp only) (by first|(dsimp only;decide)|decide|dsimp only)⟩,by first|(dsimp only;decide)|decide|dsimp only⟩ (fun h=>absurd h (by first|(dsimp only;decide)|decide|dsimp only)) (fun h=>absurd h (by first|(dsimp only;decide)|decide|dsimp only))
  rw[ht1 _ rfl]
  refine⟨hc,?_⟩
  rw[wid0 hc,if_pos (by first|(dsimp only;decide)|decide|dsimp only)]
  show dw width 1 16;omega
 |clamp st low high h1 h2=>
  have hc:Nd.chk ⟨9,ins.take 1,0,0,0,0,0,0,[],[],0,0,low,high,0⟩ [w]=0:=by
   refine gZ hl1.symm hfw (by show dw 9 1 12;omega) (fun h=>absurd h (by first|(dsimp only;decide)|decide|dsimp only)) (fun h=>rfl) rfl ⟨fun h=>⟨rfl,rfl,rfl,rfl⟩,fun h=>rfl,fun h=>rfl,fun h=>⟨rfl,rfl⟩,.inr ⟨rfl,rfl⟩,.inl (.inl rfl)⟩
    ⟨fun h=>absurd h (by first|(dsimp only;decide)|decide|dsimp only),fun h=>absurd h (by first|(dsimp only;decide)|decide|dsimp only),fun h=>absurd h (by first|(dsimp only;decide)|decide|dsimp only),fun h=>absurd h (by first|(dsimp only;decide)|decide|dsimp only),by first|(dsimp only;decide)|decide|dsimp only,by first|(dsimp only;decide)|decide|dsimp only,?_,?_,?_⟩ (fun h=>absurd h (by first|(dsimp only;decide)|decide|dsimp only)) (fun h=>absurd h (by first|(dsimp only;decide)|decide|dsimp only))
   ·show-2147483648≤low∧low≤2147483647;omega
   ·show-2147483648≤high∧high≤2147483647;omega
   ·show low≤high;omega
  rw[ht1 _ rfl]
  refine⟨hc,?_⟩
  rw[wid0 hc,if_neg (by first|(dsimp only;decide)|decide|dsimp only),if_neg (by first|(dsimp only;decide)|decide|dsimp only),if_pos (by first|(dsimp only;decide)|decide|dsimp only)]
  exact hw
 |scale st mult shift h1 h2=>
  have hc:Nd.chk ⟨10,ins.take 1,0,0,0,0,0,0,[],[],mult,shift,0,0,0⟩ [w]=0:=by
   refine gZ hl1.symm hfw (by show dw 10 1 12;omega) (fun h=>absurd h (by first|(dsimp only;decide)|decide|dsimp only)) (fun h=>rfl) rfl ⟨fun h=>⟨rfl,rfl,rfl,rfl⟩,fun h=>rfl,fun h=>rfl,fun h=>⟨rfl,rfl⟩,.inl (.inl rfl),.inr ⟨rfl,rfl⟩⟩
    ⟨fun h=>absurd h (by first|(dsimp only;decide)|decide|dsimp only),fun h=>absurd h (by first|(dsimp only;decide)|decide|dsimp only),fun h=>absurd h (by first|(dsimp only;decide)|decide|dsimp only),fun h=>absurd h (by first|(dsimp only;decide)|decide|dsimp only),?_,?_,by first|(dsimp only;decide)|decide|dsimp only,by first|(dsimp only;decide)|decide|dsimp only,by first|(dsimp only;decide)|decide|dsimp only⟩ (fun h=>absurd h (by first|(dsimp only;decide)|decide|dsimp only)) (fun h=>absurd h (by first|(dsimp only;decide)|decide|dsimp only))
   ·exact h1
   ·show 0≤shift∧shift≤30;omega
  rw[ht1 _ rfl]
  refine⟨hc,?_⟩
  rw[wid0 hc,if_neg (by first|(dsimp only;decide)|decide|dsimp only),if_neg (by first|(dsimp only;decide)|decide|dsimp only),if_pos (by first|(dsimp only;decide)|decide|dsimp only)]
  exact hw
 |best st=>
  have hc:Nd.chk ⟨11,ins.take 1,0,0,0,0,0,0,[],[],0,0,0,0,0⟩ [w]=0:=by
   refine gZ hl1.symm hfw (by show dw 11 1 12;omega) (fun h=>absurd h (by first|(dsimp only;decide)|decide|dsimp only)) (fun h=>rfl) rfl ⟨fun h=>⟨rfl,rfl,rfl,rfl⟩,fun h=>rfl,fun h=>rfl,fun h=>⟨rfl,rfl⟩,.inr ⟨rfl,rfl⟩,.inr ⟨rfl,rfl⟩⟩
    ⟨fun h=>absurd h (by first|(dsimp only;decide)|decide|dsimp only),fun h=>absurd h (by first|(dsimp only;decide)|decide|dsimp only),fun h=>absurd h (by first|(dsimp only;decide)|decide|dsimp only),fun h=>absurd h (by first|(dsimp only;decide)|decide|dsimp only),by first|(dsimp only;decide)|decide|dsimp only⟩ (fun h=>absurd h (by first|(dsimp only;decide)|decide|dsimp only)) (fun h=>absurd h (by first|(dsimp only;decide)|decide|dsimp only))
  rw[ht1 _ rfl]
  refine⟨hc,?_⟩
  rw[wid0 hc,if_neg (by first|(dsimp only;decide)|decide|dsimp only),if_pos (by first|(dsimp only;decide)|decide|dsimp only)]
  decide
theorem Fy {ins ws:List Int} {ρ:Int} {n:Nd} (g:GoodN ins ws (decide (ρ=0)) n) (h0:0≤ρ):0≤cd n [ρ]∧cd n [ρ]≤3*ρ:=by
 have e:cd n [ρ]=if ρ=0∧(iM n.kind∨n.kind=5) then-1 else if n.kind=5 then 0 else ρ*fg n.kind n.step:=by
  unfold cd
  have:[ρ].getD 0 0=ρ:=rfl
  rw[this,if_neg (by simp)]
 rw[e]
 have key:(dD n.kind→ρ≠0∧1≤n.step∧n.step≤3)→(n.kind=12∨n.kind=5→ρ≠0)→0≤(if ρ=0∧(iM n.kind∨n.kind=5) then-1 else if n.kind=5 then 0 else ρ*fg n.kind n.step)∧(if ρ=0∧(iM n.kind∨n.kind=5) then-1 else if n.kind=5 then 0 else ρ*fg n.kind n.step)≤3*ρ:=by
  intro k1 k2
  rw[if_neg (by rintro⟨a,(b|b)|b⟩;exact(k1 b).1 a;exact k2 (.inl b) a;exact k2 (.inr b) a)]
  split
  ·omega
  ·unfold fg
   split
   ·rename_i hf
    obtain⟨_,h1,h2⟩:=k1 hf
    refine⟨Int.mul_nonneg h0 (by omega),?_⟩
    have:=Int.mul_le_mul_of_nonneg_left h2 h0
    omega
   ·omega
 generalize hst:decide (ρ=0)=st at g
 have hs0:st=false→ρ≠0:=fun h=>by rw[h] at hst;simpa using hst
 cases g with
 |conv width size step gap left right ww bb hwin=>exact key (fun _=>⟨hs0 rfl,hwin.2.1⟩) (fun _=>hs0 rfl)
 |depth size step gap left right ww bb hwin=>exact key (fun _=>⟨hs0 rfl,hwin.2.1⟩) (fun _=>hs0 rfl)
 |pool k size step gap left right hk hwin=>exact key (fun _=>⟨hs0 rfl,hwin.2.1⟩) (fun _=>hs0 rfl)
 |smooth size hs=>exact key (fun h=>absurd h (by first|(dsimp only;decide)|decide|dsimp only)) (fun _=>hs0 rfl)
 |whole=>exact key (fun h=>absurd h (by first|(dsimp only;decide)|decide|dsimp only)) (fun _=>hs0 rfl)
 |add=>exact key (fun h=>absurd h (by first|(dsimp only;decide)|decide|dsimp only)) (fun h=>absurd h (by first|(dsimp only;decide)|decide|dsimp only))
 |join=>exact key (fun h=>absurd h (by first|(dsimp only;decide)|decide|dsimp only)) (fun h=>absurd h (by first|(dsimp only;decide)|decide|dsimp only))
 |dense=>exact key (fun h=>absurd h (by first|(dsimp only;decide)|decide|dsimp only)) (fun h=>absurd h (by first|(dsimp only;decide)|decide|dsimp only))
 |clamp=>exact key (fun h=>absurd h (by first|(dsimp only;decide)|decide|dsimp only)) (fun h=>absurd h (by first|(dsimp only;decide)|decide|dsimp only))
 |scale=>exact key (fun h=>absurd h (by first|(dsimp only;decide)|decide|dsimp only)) (fun h=>absurd h (by first|(dsimp only;decide)|decide|dsimp only))
 |best=>exact key (fun h=>absurd h (by first|(dsimp only;decide)|decide|dsimp only)) (fun h=>absurd h (by first|(dsimp only;decide)|decide|dsimp only))
def QV (ws rs:List Int) (n:Nd) (w' r':Int):Prop:=
 ∃ins:List Int,(ins.length=1∨ins.length=2)∧(∀x∈ins,0≤x∧x<ws.length)∧(∀x∈ins,at_ rs x=at_ rs (ins.getD 0 0))∧GoodN ins (ins.map (at_ ws)) (decide (at_ rs (ins.getD 0 0)=0)) n∧
  w'=n.wid ((ins.map (at_ ws)).take n.inn.length)∧r'=cd n [at_ rs (ins.getD 0 0)]
inductive lS (w0:Int):List Nd→List Int→List Int→Prop
 |nil:lS w0 [] [w0] [1]
 |snoc (ns:List Nd) (ws rs:List Int) (n:Nd) (w' r':Int):lS w0 ns ws rs→QV ws rs n w' r'→lS w0 (ns++[n]) (ws++[w']) (rs++[r'])
theorem Js {xs:List Int} {x:Int} (h0:0≤x) (h1:x<xs.length):at_ xs x∈xs:=by
 unfold at_;rw[dK (by omega)];exact List.getElem_mem _
theorem lS.len {w0:Int} {ns:List Nd} {ws rs:List Int} (b:lS w0 ns ws rs):ws.length=ns.length+1∧rs.length=ns.length+1:=by
 induction b with
 |nil=>exact⟨rfl,rfl⟩
 |snoc ns ws rs n w' r' b st ih=>simp;omega
theorem Dy {ws:List Int} {ins:List Int} (hi: ∀x∈ins,0≤x∧x<(ws.length:Int)) (hf:bo 1 16 ws):bo 1 16 (ins.map (at_ ws)):=fun y hy=>by
 obtain⟨x,hx,rfl⟩:=List.mem_map.1 hy
 exact hf _ (Js (hi x hx).1 (hi x hx).2)
theorem lS.range {w0:Int} (h0:dw w0 1 16) {ns:List Nd} {ws rs:List Int} (b:lS w0 ns ws rs):bo 1 16 ws∧bo 0 (3 ^ ns.length) rs:=by
 induction b with
 |nil=>exact⟨by rw[bV];exact⟨h0,cD _ _⟩,by rw[bV];exact⟨by decide,cD _ _⟩⟩
 |snoc ns ws rs n w' r' b st ih=>
  obtain⟨ih1,ih2⟩:=ih
  have hlen:=b.len
  obtain⟨ins,h12,hi,hr,hg,rfl,rfl⟩:=st
  have hgc:=Dx hg (by simp) h12 (Dy hi ih1)
  have hin0:ins.getD 0 0∈ins:=by rw[dK (by omega)];exact List.getElem_mem _
  have hi0:=hi _ hin0
  have hρ:=ih2 _ (Js (xs:=rs) hi0.1 (by omega))
  have hgr:=Fy hg hρ.1
  have hp:(3:Int) ^ (ns.length+1)=3 ^ ns.length*3:=Int.pow_succ 3 ns.length
  have hp1:(1:Int)≤3 ^ ns.length:=by
   have:=Int.pow_pos (n:=3) (m:=ns.length) (by decide);omega
  refine⟨fun x hx=> ?_,fun x hx=> ?_⟩
  ·rcases List.mem_append.1 hx with hx|hx
   ·exact ih1 x hx
   ·simp only[List.mem_singleton] at hx;subst hx;exact hgc.2
  ·rw[List.length_append,List.length_singleton,hp]
   rcases List.mem_append.1 hx with hx|hx
   ·have:=ih2 x hx;omega
   ·simp only[List.mem_singleton] at hx;subst hx;omega
def Dz (g:Gr):Prop:=
 ∃(ns:List Nd) (ws rs:List Int) (out:Int),dw g.width 1 3∧dw g.low (-199) 0∧dw g.high 0 199∧1≤ns.length∧ns.length≤6∧lS g.width ns ws rs∧dw out 1 ns.length∧
  (g=⟨g.width,g.low,g.high,ns,out⟩∨g=(⟨g.width,g.low,g.high,ns,out⟩:Gr).turned)
end Go.Proofs.YtdhpmegbmjoekaaGreatDoor.G
