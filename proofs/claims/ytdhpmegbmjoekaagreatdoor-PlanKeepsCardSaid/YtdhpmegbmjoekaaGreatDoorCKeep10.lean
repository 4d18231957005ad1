/- CKeep5 CKeep6 CKeep7 CKeep8 CKeep9 CKeep10, in one text. -/
import Derived.Test.YtdhpmegbmjoekaaGreatDoorCKeep4
import Derived.Test.YtdhpmegbmjoekaaGreatDoorCReachV
import Derived.Test.YtdhpmegbmjoekaaGreatDoorCRef16c
set_option linter.unusedVariables false
set_option linter.unusedSimpArgs false
namespace Go.Proofs.YtdhpmegbmjoekaaGreatDoor.G
open Go Go.Sh
section
def Nd.rightN (n:Nd):Int:=if dA n.kind then n.right else 0
theorem yA {n:Nd} {ws:List Int} (h:n.chk ws=0):0≤n.rightN∧n.rightN≤31:=by
 have d:=(eQ h).2.2.2.2.1;obtain⟨_,b,_⟩:=(dc h).2.2.2.2.2.2.2.2.2.1;unfold Nd.rightN;split
 ·rename_i a;have:=(b a).2.2.2;omega
 ·omega
def lS (n:Nd) (t:Int):Int:=if t≤n.span-1-n.leftN then 0 else Int.tdiv (t-1-(n.span-1-n.leftN)) (cE n.kind n.step)+1
def eJ (n:Nd) (cs:List Int):Int:=if dW n.kind∧cL cs>0 then lS n (cL cs+n.rightN) else if n.kind=5∧cL cs>0 then 1 else cL cs
def iB (n:Nd) (cs:List Int):Int:=if dW n.kind∧cL cs>0 then lS n (cL cs) else if n.kind=5 then 0 else cL cs
theorem C6 {a b:Int} (h:0≤a):Int.tdiv a b=a / b:=WN h
theorem so {n:Nd} {ws:List Int} (h:n.chk ws=0) {t:Int} (h0:0≤t):0≤lS n t∧lS n t≤t:=by
 obtain⟨_,_,_,f,_,g⟩:=eQ h;unfold lS;split
 ·omega
 ·rw[C6 (by omega)];have d:=W4 (a:=t-1-(n.span-1-n.leftN)) (b:=cE n.kind n.step) (by omega) (by omega);have e:=Int.ediv_le_self (a:=t-1-(n.span-1-n.leftN)) (cE n.kind n.step) (by omega);omega
theorem NQ {n:Nd} {ws:List Int} (h:n.chk ws=0) {t d:Int} (h0:0≤t) (j:t≤d):lS n t≤lS n d:=by
 by_cases f:t≤n.span-1-n.leftN
 ·have:=so h (t:=d) (by omega);have e:lS n t=0:=by unfold lS;rw[if_pos f]
  omega
 ·obtain⟨_,_,_,g,_,i⟩:=eQ h;unfold lS;rw[if_neg f,if_neg (by omega),C6 (by omega),C6 (by omega)];have:=Int.ediv_le_ediv (a:=t-1-(n.span-1-n.leftN)) (b:=d-1-(n.span-1-n.leftN)) (c:=cE n.kind n.step) (by omega) (by omega);omega
theorem lT {n:Nd} {ws:List Int} (h:n.chk ws=0) {cs:List Int} {B:Int} (g:0≤B) (b: ∀c∈cs,0≤c∧c≤B):(0≤cL cs∧cL cs≤B)∧0≤eJ n cs∧eJ n cs≤B+64∧0≤iB n cs∧iB n cs≤B:=by
 have d:0≤cL cs∧cL cs≤B:=by
  cases cs with
  |nil=>show 0≤(0:Int)∧(0:Int)≤B;omega
  |cons a r=>exact b _ (nS (by simp))
 have i:=yA h;refine⟨d,?_⟩;have e:=so h (t:=cL cs+n.rightN) (by omega);have f:=so h (t:=cL cs) (by omega);unfold eJ iB;refine⟨?_,?_,?_,?_⟩<;>split<;>try omega
 all_goals split<;>omega
theorem Kb: ∀(l:List Int) (a:Int),l.foldl (fun x y=>if y<x then y else x) a≤a∧ ∀y∈l,l.foldl (fun x y=>if y<x then y else x) a≤y
 |[],a=>⟨WR _,by simp⟩
 |y::r,a=>by
  rw[Wb];obtain⟨e,d⟩:=Kb r (if y<a then y else a);have f:(if y<a then y else a)≤a∧(if y<a then y else a)≤y:=by split<;>omega
  refine⟨by omega,fun z b=> ?_⟩;rcases U7.1 b with rfl|b
  ·omega
  ·exact d z b
theorem Hs {l:List Int} {y:Int} (h:y∈l):cL l≤y:=(Kb l _).2 y h
theorem Lx (x:Int):cL [x]=x:=by
 show(if x<x then x else x)=x;split<;>rfl
theorem Kc {n:Nd} {ws:List Int} (h:n.chk ws=0) {js:List Int} {C D:Int→Int} (q:1≤js.length) (b: ∀j∈js,0≤C j∧C j≤D j):iB n (js.map C)≤eJ n (js.map D):=by
 have y:=yA h;have m:cL (js.map C)≤cL (js.map D)∧0≤cL (js.map C):=by
  obtain⟨j,d,e⟩:=U5.1 (nS (l:=js.map D) (by rw[UT];exact q));obtain⟨k,o,u⟩:=U5.1 (nS (l:=js.map C) (by rw[UT];exact q));have m:=Hs (U2 (f:=C) d);have v:=b j d;have x:=b k o;omega
 unfold iB eJ;by_cases a:dW n.kind
 ·have s:n.kind≠5:=by rintro i;rcases a with (h|h|h|h)|h<;>omega
  by_cases r:cL (js.map C)>0
  ·rw[if_pos ⟨a,r⟩,if_pos ⟨a,by omega⟩];exact NQ h (by omega) (by omega)
  ·rw[if_neg (fun h=>r h.2),if_neg s];by_cases g:cL (js.map D)>0
   ·rw[if_pos ⟨a,g⟩];have:=so h (t:=cL (js.map D)+n.rightN) (by omega);omega
   ·rw[if_neg (fun h=>g h.2),if_neg (fun h=>s h.1)];exact m.1
 ·rw[if_neg (show ¬(dW n.kind∧cL (js.map C)>0) from fun h=>a h.1),if_neg (show ¬(dW n.kind∧cL (js.map D)>0) from fun h=>a h.1)];by_cases i:n.kind=5
  ·rw[if_pos i];split<;>omega
  ·rw[if_neg i,if_neg (fun h=>i h.1)];exact m.1
section
variable {h:af}
theorem FD {p:Option Addr} {l c:Nat} {xs:List Int} (f:bI h p (az xs)) (C:xs.length=l) (B:l<2 ^ 40) (h0: ∀x∈xs,0≤x):au P kW #[.slice p l c] h fun v r=>v= .int .i64 (cL xs)∧r=h:=by
 refine Av _ _ _ ?_;unfold Bw;refine aH (fun A=> ?_) (fun A=> ?_)
 ·have:xs=[]:=Vm.1 (by omega);subst this;exact⟨rfl,rfl⟩
 have j:=h0 _ (nS (l:=xs) (by omega));obtain⟨a,ea⟩:=f.some_of (by rw[av];omega);subst ea;refine aB rfl (k:=0) rfl (by omega) ?_;refine ae (n:=xs.getD 0 0) (f.cell (i:=0) (aI (by rw[aO (by omega),cH (by omega)]))) ?_;refine aP (fun q s g=>g=h∧ ∃t:Nat,s=((some a,l,c),(xs.take t).foldl (fun x y=>if y<x then y else x) (xs.getD 0 0),(t:Int),())∧t≤l∧q=l-t) l ⟨rfl,0,rfl,by omega,rfl⟩ ?_;rintro q s g ⟨rfl,t,rfl,D,rfl⟩;unfold un;dsimp only;refine am (fun z=> ?_) (fun u=> ?_)
 ·have b:t<xs.length:=by omega
  refine aB rfl rfl (by omega) ?_;simp only[oe,US];have m:=f.cell (aI (aO b));refine ae m ?_;have step: ∀v,v=(xs.take (t+1)).foldl (fun x y=>if y<x then y else x) (xs.getD 0 0)→ ∃o,o<l-t∧(True∧ ∃t2:Nat,(((some a,l,c),v,(IntKind.wrap .i64 ((t:Int)+1)),()):(Option Addr×Nat×Nat)×Int×Int×Unit)=((some a,l,c),(xs.take t2).foldl (fun x y=>if y<x then y else x) (xs.getD 0 0),(t2:Int),())∧t2≤l∧o=l-t2):=by
   rintro v rfl;rw[al (by omega)];exact⟨l-(t+1),by omega,by trivial,t+1,rfl,by omega,rfl⟩
  have e:(xs.take (t+1)).foldl (fun x y=>if y<x then y else x) (xs.getD 0 0)=if xs[t]<(xs.take t).foldl (fun x y=>if y<x then y else x) (xs.getD 0 0) then xs[t] else(xs.take t).foldl (fun x y=>if y<x then y else x) (xs.getD 0 0):=by
   rw[py b,Vk];rfl
  refine am (fun d=> ?_) (fun d=> ?_)
  ·refine aB rfl rfl (by omega) ?_;refine ae m (step _ ?_);rw[e,if_pos d]
  ·refine step _ ?_;rw[e,if_neg d]
 ·rw[N6 (by omega)];have e:xs.foldl (fun x y=>if y<x then y else x) (xs.getD 0 0)=cL xs:=rfl;rw[e];refine bQ (decide_eq_false (by omega)) ⟨rfl,rfl⟩
theorem Ly (nv:Nv):au P pq #[nv.v] h fun v b=>v= .int .i64 nv.nd.rightN∧cp no h b:=by
 refine Aw _ ?_;unfold Bx;have S:=aJ.start h no;refine aA (cs:=nv.cells) S fun b1 f _ S=> ?_;dsimp only[Xj] at S;have e:nv.nd.rightN=if dA nv.kind then nv.right else 0:=rfl
 rw[e];refine ae (n:=nv.kind) (S.cell 0 rfl rfl) ?_;refine(pK nv.kind).mono ?_;rintro _ d ⟨rfl,rfl⟩;refine⟨_,rfl,am (fun a=> ?_) (fun a=> ?_)⟩
 ·refine ae (n:=nv.right) (S.cell 0 rfl rfl) ?_;rw[if_pos a];exact⟨rfl,S.fra⟩
 ·rw[if_neg a];exact⟨rfl,S.fra⟩
theorem Ht (nv:Nv) (i: -2 ^ 20≤nv.size∧nv.size≤2 ^ 20):au P mB #[nv.v] h fun v d=>v= .int .i64 nv.nd.leftN∧cp no h d:=by
 refine Cn _ ?_;unfold DF;have S:=aJ.start h no;refine aA (cs:=nv.cells) S fun b1 g _ S=> ?_;dsimp only[Xj] at S;have e:nv.nd.leftN=if nv.kind=12 then nv.size-1 else if dA nv.kind then nv.left else 0:=rfl
 rw[e];refine ae (n:=nv.kind) (S.cell 0 rfl rfl) (aH (fun a=> ?_) (fun a=> ?_))
 ·refine ae (n:=nv.size) (S.cell 0 rfl rfl) ?_;rw[al (by omega),if_pos a];exact⟨rfl,S.fra⟩
 ·rw[if_neg a];refine ae (n:=nv.kind) (S.cell 0 rfl rfl) ?_;refine(pK nv.kind).mono ?_;rintro _ f ⟨rfl,rfl⟩;refine⟨_,rfl,am (fun b=> ?_) (fun b=> ?_)⟩
  ·refine ae (n:=nv.left) (S.cell 0 rfl rfl) ?_;rw[if_pos b];exact⟨rfl,S.fra⟩
  ·rw[if_neg b];exact⟨rfl,S.fra⟩
theorem Mz {nv:Nv} {ws:List Int} (b:nv.nd.chk ws=0):(-2 ^ 20≤nv.size∧nv.size≤2 ^ 20)∧(-2 ^ 20≤nv.gap∧nv.gap≤2 ^ 20):=by
 have a:=eQ b;have d:0≤nv.size∧nv.size≤8:=a.1;have e:0≤nv.gap∧nv.gap≤4:=a.2.1;omega
theorem Hu {nv:Nv} {ws:List Int} (g:nv.nd.chk ws=0) {t:Int} (A:0≤t∧t≤2 ^ 60):au P mD #[nv.v,.int .i64 t] h fun v j=>v= .int .i64 (lS nv.nd t)∧cp no h j:=by
 refine Co _ _ ?_;unfold DG;obtain⟨i,k⟩:=Mz g;obtain⟨_,_,s,u,y,f⟩:=eQ g;have S:=aJ.start h no;refine aA (cs:=nv.cells) S fun b1 d _ S=> ?_;dsimp only[Xj] at S;refine aN S 0 rfl (x:=nv.t) rfl (aN S 0 rfl (x:=nv.t) rfl ?_);refine(pL nv i k).mono ?_;rintro _ m ⟨rfl,F⟩;replace S:=S.fra0 F;refine⟨_,rfl,cR S 0 rfl rfl ?_⟩;refine(Ht nv i).mono ?_;rintro _ o ⟨rfl,F⟩;replace S:=S.fra0 F;refine⟨_,rfl,cR S 0 rfl rfl ?_⟩;rw[al (n:=nv.nd.span-1) (by omega),al (n:=nv.nd.span-1-nv.nd.leftN) (by omega)];have e:lS nv.nd t=if t≤nv.nd.span-1-nv.nd.leftN then 0 else Int.tdiv (t-1-(nv.nd.span-1-nv.nd.leftN)) (cE nv.kind nv.step)+1:=rfl
 have f:1≤cE nv.kind nv.step∧cE nv.kind nv.step≤4:=f;refine am (fun d=>⟨by rw[e,if_pos d],S.fra⟩) (fun d=> ?_);refine aN S 0 rfl (x:=nv.t) rfl ?_;refine(vA nv).mono ?_;rintro _ q ⟨rfl,F⟩;replace S:=S.fra0 F;refine⟨_,rfl,⟨by omega,?_⟩⟩;have z:0≤Int.tdiv (t-1-(nv.nd.span-1-nv.nd.leftN)) (cE nv.kind nv.step)∧Int.tdiv (t-1-(nv.nd.span-1-nv.nd.leftN)) (cE nv.kind nv.step)≤2 ^ 60:=by
  rw[C6 (by omega)];have d:=W4 (a:=t-1-(nv.nd.span-1-nv.nd.leftN)) (b:=cE nv.kind nv.step) (by omega) (by omega);have r:=Int.ediv_le_self (a:=t-1-(nv.nd.span-1-nv.nd.leftN)) (cE nv.kind nv.step) (by omega);omega
 rw[al (n:=t-1) (by omega),al (n:=t-1-(nv.nd.span-1-nv.nd.leftN)) (by omega),al (n:=Int.tdiv _ _) (by omega),al (by omega)];exact⟨by rw[e,if_neg d],S.fra⟩
theorem FE {nv:Nv} {ws:List Int} (d:nv.nd.chk ws=0) {p:Option Addr} {l c:Nat} {xs:List Int} (j:bI h p (az xs)) (o:xs.length=l) (m:l<2 ^ 40) (h0: ∀x∈xs,0≤x∧x≤2 ^ 50):
 au P kX #[nv.v,.slice p l c] h fun v k=>v= .int .i64 (eJ nv.nd xs)∧cp no h k:=by
 refine Ax _ _ _ _ ?_;unfold Bz;have A:=yA d;have z:=(lT d (B:=2 ^ 50) (by decide) h0).1;have S:=(aJ.start h no).read (row p (az xs)) j;refine aA (cs:=nv.cells) S fun b1 y _ S=> ?_;dsimp only[Xj] at S;refine(FD (S.row 0 rfl) o m fun x j=>(h0 x j).1).mono ?_;rintro _ q ⟨rfl,f⟩;subst f;refine⟨_,rfl,ae (n:=nv.kind) (S.cell 0 rfl rfl) ?_⟩;refine(gM nv.kind).mono ?_;rintro _ r ⟨rfl,g⟩;subst g;have e:eJ nv.nd xs=if dW nv.kind∧cL xs>0 then lS nv.nd (cL xs+nv.nd.rightN) else if nv.kind=5∧cL xs>0 then 1 else cL xs:=rfl
 refine⟨_,rfl,am (fun i=>am (fun a=> ?_) (fun a=> ?_)) (fun i=> ?_)⟩
 ·refine aN S 0 rfl (x:=nv.t) rfl (aN S 0 rfl (x:=nv.t) rfl ?_);refine(Ly nv).mono ?_;rintro _ s ⟨rfl,F⟩;replace S:=S.fra0 F;refine⟨_,rfl,cR S 0 rfl rfl ?_⟩;rw[al (by omega)];refine(Hu d (by omega)).mono ?_;rintro _ u ⟨rfl,F⟩;exact⟨_,rfl,by rw[e,if_pos ⟨i,a⟩],(S.fra0 F).fra⟩
 ·rw[if_neg (fun h=>a h.2),if_neg (fun h=>a h.2)] at e;exact ae (n:=nv.kind) (S.cell 0 rfl rfl) (aH (fun _=>am (fun h=>absurd h a) (fun _=>⟨by rw[e],S.fra⟩)) (fun _=>⟨by rw[e],S.fra⟩))
 ·rw[if_neg (fun h=>i h.1)] at e;refine ae (n:=nv.kind) (S.cell 0 rfl rfl) (aH (fun b=>am (fun a=> ?_) (fun a=> ?_)) (fun b=> ?_))
  ·exact⟨by rw[e,if_pos ⟨b,a⟩],S.fra⟩
  ·exact⟨by rw[e,if_neg (fun h=>a h.2)],S.fra⟩
  ·exact⟨by rw[e,if_neg (fun h=>b h.1)],S.fra⟩
theorem Lz {nv:Nv} {ws:List Int} (j:nv.nd.chk ws=0) {p:Option Addr} {l c:Nat} {xs:List Int} (i:bI h p (az xs)) (o:xs.length=l) (m:l<2 ^ 40) (h0: ∀x∈xs,0≤x∧x≤2 ^ 50):
 au P px #[nv.v,.slice p l c] h fun v k=>v= .int .i64 (iB nv.nd xs)∧cp no h k:=by
 refine AD _ _ _ _ ?_;unfold BF;have y:=(lT j (B:=2 ^ 50) (by decide) h0).1;have S:=(aJ.start h no).read (row p (az xs)) i;refine aA (cs:=nv.cells) S fun b1 u _ S=> ?_;dsimp only[Xj] at S;refine(FD (S.row 0 rfl) o m fun x i=>(h0 x i).1).mono ?_;rintro _ q ⟨rfl,b⟩;subst b;refine⟨_,rfl,ae (n:=nv.kind) (S.cell 0 rfl rfl) ?_⟩;refine(gM nv.kind).mono ?_;rintro _ r ⟨rfl,d⟩;subst d;have e:iB nv.nd xs=if dW nv.kind∧cL xs>0 then lS nv.nd (cL xs) else if nv.kind=5 then 0 else cL xs:=rfl
 refine⟨_,rfl,am (fun g=>am (fun f=> ?_) (fun f=> ?_)) (fun g=> ?_)⟩
 ·refine aN S 0 rfl (x:=nv.t) rfl ?_;refine(Hu j (by omega)).mono ?_;rintro _ s ⟨rfl,F⟩;exact⟨_,rfl,by rw[e,if_pos ⟨g,f⟩],(S.fra0 F).fra⟩
 ·rw[if_neg (fun h=>f h.2)] at e;exact ae (n:=nv.kind) (S.cell 0 rfl rfl) (aH (fun a=>⟨by rw[e,if_pos a],S.fra⟩) (fun a=>⟨by rw[e,if_neg a],S.fra⟩))
 ·rw[if_neg (fun h=>g h.1)] at e;exact ae (n:=nv.kind) (S.cell 0 rfl rfl) (aH (fun a=>⟨by rw[e,if_pos a],S.fra⟩) (fun a=>⟨by rw[e,if_neg a],S.fra⟩))
def nU (n:Nd) (i:Int):Int:=i*cE n.kind n.step-n.leftN
theorem LA {nv:Nv} {ws:List Int} (b:nv.nd.chk ws=0) {i:Int} (hi:0≤i∧i≤2 ^ 55):au P pt #[nv.v,.int .i64 i] h fun v d=>v= .int .i64 (nU nv.nd i)∧cp no h d:=by
 refine Ay _ _ ?_;unfold BA;obtain⟨e,q⟩:=Mz b;obtain⟨_,_,k,m,o,a⟩:=eQ b;have a:1≤cE nv.kind nv.step∧cE nv.kind nv.step≤4:=a;have S:=aJ.start h no;refine aA (cs:=nv.cells) S fun b1 j _ S=> ?_;dsimp only[Xj] at S;refine aN S 0 rfl (x:=nv.t) rfl (aN S 0 rfl (x:=nv.t) rfl ?_);refine(vA nv).mono ?_;rintro _ f ⟨rfl,F⟩;replace S:=S.fra0 F;refine⟨_,rfl,cR S 0 rfl rfl ?_⟩;refine(Ht nv e).mono ?_;rintro _ g ⟨rfl,F⟩;replace S:=S.fra0 F;refine⟨_,rfl,cR S 0 rfl rfl ?_⟩;have r:0≤i*cE nv.kind nv.step∧i*cE nv.kind nv.step≤2 ^ 55*4:=⟨Vw hi.1 (by omega),Vv hi.2 a.2 (by omega) (by omega)⟩;rw[al (n:=i*_) (by omega),al (by omega)];exact⟨rfl,S.fra⟩
def Ad (n:Nd):Int:=if n.kind=12 then 1 else n.gap
theorem PL (nv:Nv):au P uI #[nv.v] h fun v b=>v= .int .i64 (Ad nv.nd)∧cp no h b:=by
 refine DH _ ?_;unfold Gp;have S:=aJ.start h no;refine aA (cs:=nv.cells) S fun b1 d _ S=> ?_;dsimp only[Xj] at S;have e:Ad nv.nd=if nv.kind=12 then 1 else nv.gap:=rfl
 refine ae (n:=nv.kind) (S.cell 0 rfl rfl) (aH (fun a=>⟨by rw[e,if_pos a],S.fra⟩) (fun a=> ?_));exact ae (n:=nv.gap) (S.cell 0 rfl rfl) ⟨by rw[e,if_neg a],S.fra⟩
end
end
section
structure Fm where
 p:Option Addr
 l:Nat
 c:Nat
 ss:List Sl
abbrev Fm.v (f:Fm):Value:= .slice f.p f.l f.c
def Fm.fr (f:Fm):List (List Int):=bV f.ss
def Fm.fact (f:Fm):aY:=bP [row f.p (ks f.ss),gm f.ss]
def Fm.ok (f:Fm):Prop:=f.ss.length=f.l∧f.l≤f.c∧ ∀s∈f.ss,s.ok∧s.l<2 ^ 40
theorem Fm.frs {h:af} {f:Fm} (ok:f.ok) (a:f.fact.P h):PV h f.p f.l f.ss:=⟨a (row f.p (ks f.ss)) (by simp),a (gm f.ss) (by simp),ok.1,ok.2.2⟩
theorem Fm.len {f:Fm} (ok:f.ok):f.fr.length=f.l:=by unfold Fm.fr;rw[fq];exact ok.1
def C7 (a:List Fm):List Value:=a.map Fm.v
theorem LB (a:List Fm):(C7 a).length=a.length:=by simp[C7]
theorem MA {a:List Fm} {i:Nat} {f:Fm} (h:a[i]? =some f):(C7 a)[i]? =some f.v:=by simp[C7,h]
def Tj (X:List (List Int)) (h:af) (v:Value) (a:af):Prop:= ∃f:Fm,v=f.v∧f.ok∧f.fr=X∧aJ h no a [f.fact] []
def C8 (A:List aY) (f:aY):Prop:=(∀h,(bP A).P h→f.P h)∧ ∀b,f.foot b→(bP A).foot b
theorem C8.mem {A:List aY} {f:aY} (h:f∈A):C8 A f:=⟨fun _ H=>H f h,fun b a=>⟨f,h,a⟩⟩
theorem C8.left {A B:List aY} {f:aY} (h:C8 A f):C8 (A++B) f:=⟨fun g H=>h.1 g fun x d=>H x (Vu _ d),fun b a=>by obtain⟨x,d,a⟩:=h.2 b a;exact⟨x,Vu _ d,a⟩⟩
theorem C8.nest {A B:List aY} {f:aY} (h:C8 A f):C8 (B++[bP A]) f:=⟨fun g H=>h.1 g (H (bP A) (by simp)),fun b a=>⟨bP A,by simp,h.2 b a⟩⟩
theorem C8.last {B:List aY} {f:aY}:C8 (B++[f]) f:=C8.mem (by simp)
theorem Tj.of {h g:af} {q:Option Addr} {m d:Nat} {ss:List Sl} {Z:List aY} (S:aJ h no g [own 1 q m d (ks ss),bP Z] []) (ok: ∀s∈ss,(s.ok∧s.l<2 ^ 40)∧C8 Z s.row):Tj (bV ss) h (.slice q m d) g:=by
 have o:=S.own 0 rfl;have u:ss.length=m:=by have:=o.1;rw[dL] at this;omega
 refine⟨⟨q,m,d,ss⟩,rfl,⟨u,o.2.1,fun s j=>(ok s j).1⟩,rfl,?_⟩;have k:=S.join [] [0,1];dsimp only[Sh.pick,Xj,List.getElem?_cons_zero,List.getElem?_cons_succ] at k;refine k.turn 0 rfl _ (fun H f e=> ?_) fun b i=> ?_
 ·have n:(own 1 q m d (ks ss)).P g:=H _ (by simp);have r:(bP Z).P g:=H _ (by simp);simp only[U7,VU,or_false] at e;rcases e with rfl|rfl
  ·exact qB.row n
  ·intro f e;obtain⟨s,j,rfl⟩:=U5.1 e;exact(ok s j).2.1 g r
 ·obtain⟨f,e,i⟩:=i;simp only[U7,VU,or_false] at e;rcases e with rfl|rfl
  ·obtain⟨_,a,t,i⟩:=i;exact⟨own 1 q m d (ks ss),by simp,a,t,i⟩
  ·obtain⟨f,e,i⟩:=i;obtain⟨s,j,rfl⟩:=U5.1 e;exact⟨bP Z,by simp,(ok s j).2.2 b i⟩
theorem Rv {α:Type} {W:List α} {i:Nat} {f x:α} (h:W[i]? =some f) (y:α):(W++[x]).set i y=W.set i y++[x]:=List.set_append_left _ _ (Pt.1 h).1
theorem yB {h0 h:af} {T:Nat→Prop} {W R:List aY} (S:aJ h0 T h W R) (i:Nat) {e:TypeId} {a:Nat} {q:Option Addr} {m d:Nat} {xs:List Value} {x:Option Addr} {y z:Nat} {K:Option Addr→Nat→Nat→af→Prop}
 (w:W[i]? =some (own 1 q m d xs)) (j:a≠0) (r:(2*(m+1)+1024)*a≤2 ^ 48)
 (H: ∀b g d' f,aJ h0 T f (W.set i (own 1 g (m+1) d' (xs++[.slice x y z]))++[blk b [.slice x y z]]) R→K g (m+1) d' f):
 aR h (.cells #[.slice x y z] e (0,0)) fun b k=>dx e 1 a (.slice none 0 0) q m d (some ⟨b,0,none⟩) 1 k K:=by
 refine aA (cs:=[.slice x y z]) S fun b k _ S=> ?_;have hi:=(Pt.1 w).1;have t:(W++[blk b [.slice x y z]])[i]? =some (own 1 q m d xs):=by rw[VC hi];exact w
 have u:(W++[blk b [.slice x y z]])[W.length]? =some (blk b [.slice x y z]):=by rw[VE]
 refine cK S i (ys:=[.slice x y z]) t rfl j r (bI.of_at (S.at W.length u)) rfl (fun y n=>by simp only[SH] at n;subst n;rfl) fun g v o f s S=> ?_;subst s;rw[Rv w] at S;exact H b g o f S
def RK (a:List (List Int)) (t:Int) (w:Nat):List Int:=if t<0∨t≥(a.length:Int) then List.replicate w 0 else a.getD t.toNat []
section
variable {h:af}
theorem PM {h0 h:af} {T:Nat→Prop} {W R:List aY} {b w:Nat} (S:aJ h0 T h (W++[blk b (List.replicate w [Value.int .i64 0]).flatten]) R):aJ h0 T h (W++[(⟨some ⟨b,0,none⟩,w,w,List.replicate w 0⟩:Sl).row]) R:=by
 have g:(List.replicate w [Value.int .i64 0]).flatten=az (List.replicate w 0):=by rw[ib];simp[az]
 have e:(W++[blk b (List.replicate w [Value.int .i64 0]).flatten])[W.length]? =some (blk b (List.replicate w [Value.int .i64 0]).flatten):=by rw[VE]
 have f:=S.turn W.length e ((⟨some ⟨b,0,none⟩,w,w,List.replicate w 0⟩:Sl).row) (fun d=>by
  have:=bI.of_at d;rw[g] at this;exact this) (fun j k=>by obtain⟨_,a,i,rfl⟩:=k;cases i;rfl)
 rw[VB _ _ (U3 _),VJ] at f;exact f
theorem Rw {p:Option Addr} {l c:Nat} {ss:List Sl} (F:PV h p l ss) (r:l<2 ^ 40) (t:Int) {w:Nat} (u:w<2 ^ 20):
 au P xT #[.slice p l c,.int .i64 t,.int .i64 (w:Int)] h fun v o=> ∃s:Sl,v=s.v∧s.ok∧s.l<2 ^ 40∧s.xs=RK (bV ss) t w∧ ∃A:List aY,aJ h no o [bP A] []∧(s∈ss∨C8 A s.row):=by
 refine FP _ _ _ _ _ ?_;unfold IP;have e:(bV ss).length=l:=by rw[fq];exact F.len
 have S:=aJ.start h no;have zero: ∀{b:Nat} {g:af},(t<0∨t≥(l:Int))→aJ h no g [blk b (List.replicate w [Value.int .i64 0]).flatten] []→ ∃s:Sl,Value.slice (some ⟨b,0,none⟩) (w:Int).toNat (w:Int).toNat=s.v∧s.ok∧s.l<2 ^ 40∧s.xs=RK (bV ss) t w∧ ∃A:List aY,aJ h no g [bP A] []∧(s∈ss∨C8 A s.row):=by
  intro b g q S;have j:=(PM (W:=[]) S).join [] [0];dsimp only[Sh.pick,Xj,List.getElem?_cons_zero] at j;refine⟨⟨some ⟨b,0,none⟩,w,w,List.replicate w 0⟩,by simp only[oe],⟨by simp,U3 _⟩,by show w<2 ^ 40;omega,?_,_,j,.inr (C8.mem (by simp))⟩;unfold RK;rw[if_pos (by rw[e];exact q)]
 refine am (fun m=> ?_) (fun m=> ?_)
 ·refine dQ S w rfl rfl rfl (by decide) (by omega) (by omega) fun b g _ S=> ?_;exact zero (.inl m) S
 refine am (fun n=> ?_) (fun n=> ?_)
 ·refine dQ S w rfl rfl rfl (by decide) (by omega) (by omega) fun b g _ S=> ?_;exact zero (.inr n) S
 ·obtain⟨k,rfl⟩: ∃k:Nat,t=(k:Int):=⟨t.toNat,by omega⟩;have f:k<l:=by omega
  obtain⟨s,es⟩: ∃s,ss[k]? =some s:=⟨_,aO (by have:=F.len;omega)⟩;have d:=UR es;have i:=F.row;obtain⟨a,ea⟩:=i.some_of (by rw[dL,F.len];omega);rw[ea] at i;refine aB ea rfl f ?_;simp only[oe,US];refine ak (p:=s.p) (l:=s.l) (c:=s.c) (i.cell (jJ es)) ?_;refine⟨s,rfl,(F.ok s d).1,(F.ok s d).2,?_,[],S.reads0,.inl d⟩;unfold RK;rw[if_neg (by omega),oe,UV,gn es];rfl
end
end
section
def iI (a:List (List (List Int))):List Int:=a.map fun f=>(f.length:Int)
def jY (n:Nd) (a:List (List (List Int))) (w i:Nat):List (List Int):=
 if dW n.kind then(List.range n.size.toNat).map fun j:Nat=>RK (a.getD 0 []) (nU n i+(j:Int)*Ad n) w else if n.kind=5 then a.getD 0 [] else a.map fun f=>f.getD i []
def jZ (n:Nd) (a:List (List (List Int))) (w:Nat):List (List Int):=(List.range (eJ n (iI a)).toNat).map fun i=>dv n (jY n a w i)
theorem Ae (n:Nd) (a:List (List (List Int))) (w:Nat):(jZ n a w).length=(eJ n (iI a)).toNat:=by simp[jZ]
section
variable {h:af} {nv:Nv} {ins:List Fm} {p:Option Addr} {l c w b1:Nat} {cq:Option Addr} {cd N:Nat}
def wh (h:af) (nv:Nv) (ins:List Fm) (p:Option Addr) (l c w b1:Nat) (cq:Option Addr) (cd N:Nat) (b:Nat) (s:(Option Addr×Nat×Nat)×Int×Addr×(Option Addr×Nat×Nat)×Bool×(Option Addr×Nat×Nat)×Int×Unit) (g:af):Prop:=
 ∃(t:Nat) (q:Option Addr) (d:Nat) (a:List Sl) (Z:List aY),s=((p,l,c),(w:Int),⟨b1,0,none⟩,(cq,l,cd),decide (dW nv.kind),(q,t,d),(t:Int),())∧t≤N∧b=N-t∧
  bV a=(List.range t).map (fun i=>dv nv.nd (jY nv.nd (ins.map Fm.fr) w i))∧(∀s∈a,(s.ok∧s.l<2 ^ 40)∧C8 Z s.row)∧
  aJ h no g [blk b1 nv.cells,own 1 cq l cd (az (iI (ins.map Fm.fr))),own 1 q t d (ks a),bP Z] [row p (C7 ins),bP (ins.map Fm.fact),nv.rows]
theorem wh.next {t:Nat} {a:List Sl} {Z:List aY} (r:t<N) (o:N≤2 ^ 31) (m:bV a=(List.range t).map (fun i=>dv nv.nd (jY nv.nd (ins.map Fm.fr) w i))) (f: ∀s∈a,(s.ok∧s.l<2 ^ 40)∧C8 Z s.row)
 {g:af} {q:Option Addr} {d:Nat} {s:Sl} (j:s.ok) (sl:s.l<2 ^ 40) (n:s.xs=dv nv.nd (jY nv.nd (ins.map Fm.fr) w t))
 (S:aJ h no g [blk b1 nv.cells,own 1 cq l cd (az (iI (ins.map Fm.fr))),own 1 q (t+1) d (ks a++[s.v]),bP (Z++[s.row])] [row p (C7 ins),bP (ins.map Fm.fact),nv.rows]):
 ∃k,k<N-t∧wh h nv ins p l c w b1 cq cd N k ((p,l,c),(w:Int),⟨b1,0,none⟩,(cq,l,cd),decide (dW nv.kind),(q,t+1,d),IntKind.wrap .i64 ((t:Int)+1),()) g:=by
 rw[al (by omega)];refine⟨N-(t+1),by omega,t+1,q,d,a++[s],Z++[s.row],rfl,by omega,rfl,?_,fun x b=> ?_,?_⟩
 ·rw[Wy,U4,←m,Vg,Vz,←n];simp[bV]
 ·rcases UX.1 b with b|b
  ·exact⟨(f x b).1,(f x b).2.left⟩
  ·simp only[SH] at b;subst b;exact⟨⟨j,sl⟩,C8.last⟩
 ·have e:ks (a++[s])=ks a++[s.v]:=by simp[ks]
  rw[e];exact S
theorem NR (ap:nv.ok) (hr:nv.rows.P h) (bb:nv.inn.l<2 ^ 40) (ao:nv.weights.l<2 ^ 40) (aj:nv.bias.l<2 ^ 40) {ws:List Int} (hc:nv.nd.chk ws=0) (hp:bI h p (C7 ins)) (hf: ∀f∈ins,f.fact.P h∧f.ok∧f.l≤2 ^ 30) (hl:ins.length=l) (ba:1≤l) (aw:l<2 ^ 20) (hw:w<2 ^ 20):
 au P rE #[nv.v,.slice p l c,.int .i64 (w:Int)] h (Tj (jZ nv.nd (ins.map Fm.fr) w) h):=by
 refine Cx _ _ _ _ _ ?_;unfold DY;have J: ∀f∈ins,f.ok∧f.l≤2 ^ 30:=fun f h=>(hf f h).2;have S:=(((aJ.start h no).read (row p (C7 ins)) hp).read (bP (ins.map Fm.fact)) (fun x o=>by obtain⟨f,C,rfl⟩:=U5.1 o;exact(hf f C).1)).read nv.rows hr;have hk:nv.nd.kind=nv.kind:=rfl;have a4:nv.nd.size=nv.size:=rfl;have cz:=eQ hc;have z: ∀{g:af} {W:List aY},aJ h no g W [row p (C7 ins),bP (ins.map Fm.fact),nv.rows]→ ∀f∈ins,PV g f.p f.l f.ss:=fun S f C=>Fm.frs (J f C).1 (S.r 1 _ rfl f.fact (U2 C));have T: ∀{g:af} {W:List aY},aJ h no g W [row p (C7 ins),bP (ins.map Fm.fact),nv.rows]→nv.rows.P g:=fun S=>S.r 2 _ rfl;have base: ∃a,p=some a:=hp.some_of (by rw[LB];omega);obtain⟨a,ea⟩:=base;have aa: ∀{g:af} {W:List aY},aJ h no g W [row p (C7 ins),bP (ins.map Fm.fact),nv.rows]→ ∀{j:Nat} {f:Fm},ins[j]? =some f→aD g (a.add j)=some f.v:=fun S j f e=>by
  have:=S.row 0 rfl;rw[ea] at this;exact this.cell (MA e)
 have I:ins.map (fun f=>(f.l:Int))=iI (ins.map Fm.fr):=by
  unfold iI;rw[VP];exact U8 fun f C=>by show(f.l:Int)=(f.fr.length:Int);rw[Fm.len (J f C).1]
 have O: ∀x∈iI (ins.map Fm.fr),0≤x∧x≤2 ^ 30:=fun x o=>by
  rw[←I] at o;obtain⟨f,C,rfl⟩:=U5.1 o;have:=(J f C).2;omega
 have a2:(iI (ins.map Fm.fr)).length=l:=by rw[←I,UT];exact hl
 refine aA (cs:=nv.cells) S fun b1 h1 _ S=> ?_;dsimp only[Xj,Xi] at S;replace S:=S.nil 1;dsimp only[Xj,Xi] at S
 refine aP (fun mm s g=> ∃(t:Nat) (q:Option Addr) (d:Nat),s=((p,l,c),(w:Int),⟨b1,0,none⟩,(q,t,d),(t:Int),())∧t≤l∧mm=l-t∧
  aJ h no g [blk b1 nv.cells,own 1 q t d (az ((ins.take t).map fun f=>(f.l:Int)))] [row p (C7 ins),bP (ins.map Fm.fact),nv.rows]) l ⟨0,none,0,rfl,by omega,rfl,S⟩ ?_
 clear S;rintro mm s g ⟨t,q,d,rfl,ht,rfl,S⟩;unfold wW;dsimp only;refine am (fun an=> ?_) (fun ad=> ?_)
 ·obtain⟨f,ef⟩: ∃f,ins[t]? =some f:=⟨_,aO (by omega)⟩;refine aB ea rfl (by omega) ?_;simp only[oe,US];refine ak (p:=f.p) (l:=f.l) (c:=f.c) (aa S ef) ?_;refine aA (cs:=[.int .i64 ((f.l:Nat):Int)]) S fun b6 g2 _ S=> ?_;dsimp only[Xi,Xj] at S;refine cK S 1 (ys:=az [(f.l:Int)]) rfl rfl (by decide) (by omega) (bI.of_at (S.at 2 rfl)) rfl cX fun p2 l2 c2 g3 aw S=> ?_;subst aw;dsimp only[List.set] at S;have e:az ((ins.take t).map fun f=>(f.l:Int))++az [(f.l:Int)]=az ((ins.take (t+1)).map fun f=>(f.l:Int)):=by
   have h1:ins[t]=f:=by rw[aO (by omega)] at ef;exact Option.some.inj ef
   rw[py (by omega),h1];simp only[az,U4,Vg,Vz]
  rw[e] at S;rw[al (by omega)];exact⟨l-(t+1),by omega,t+1,p2,c2,rfl,by omega,rfl,S.pw [0,1]⟩
 have a5:t=l:=by omega
 subst a5;rw[N6 (by omega),I] at S;refine ae (n:=nv.kind) (S.cell 0 rfl rfl) ?_;refine(gM nv.kind).mono ?_;rintro _ g2 ⟨rfl,a0⟩;subst a0;refine⟨_,rfl,?_⟩;have a8:=(lT hc (B:=2 ^ 30) (by decide) O).2;obtain⟨N,eN⟩: ∃N:Nat,eJ nv.nd (iI (ins.map Fm.fr))=(N:Int):=⟨(eJ nv.nd (iI (ins.map Fm.fr))).toNat,by omega⟩;have hN:N≤2 ^ 31:=by omega
 have eF:jZ nv.nd (ins.map Fm.fr) w=(List.range N).map fun i=>dv nv.nd (jY nv.nd (ins.map Fm.fr) w i):=by unfold jZ;rw[eN,oe]
 have S3:=(S.nil 1).reads0;dsimp only[Xj,Xi] at S3;refine aP (wh h nv ins p t c w b1 q d N) N ⟨0,none,0,[],[],rfl,by omega,rfl,rfl,by simp,S3⟩ ?_;clear S S3;rename_i l';rintro mm s g ⟨i,oq,od,ab,Z,rfl,hi,rfl,ho,K,S⟩;unfold wV;dsimp only;refine aN S 0 rfl (x:=nv.t) rfl ?_;refine(FE hc (S.own 1 rfl).row a2 (by omega) fun x o=>by have:=O x o;omega).mono ?_;rintro _ g3 ⟨rfl,F⟩;replace S:=S.fra0 F;rw[eN];refine⟨_,rfl,am (fun an=> ?_) (fun ad=> ?_)⟩
 case refine_2=>
  have:i=N:=by omega
  subst this;rw[eF,←ho];exact Tj.of (yu (S.pw [2,3])) K
 have ai:i<N:=by omega
 obtain⟨f0,U⟩: ∃f,ins[0]? =some f:=⟨_,aO (by omega)⟩;have m0:=UR U;have ar:(ins.map Fm.fr).getD 0 []=f0.fr:=by rw[UV,UW,U];rfl
 have a6:=(J f0 m0).2;refine am (fun E=> ?_) (fun E=> ?_)
 ·have ax:=(dc hc).2.2.2.2.2.2.2.2.2.1.1 E;obtain⟨Z0,eZ⟩: ∃Z:Nat,nv.size=(Z:Int):=⟨nv.size.toNat,by have:1≤nv.size:=ax.1;omega⟩;have a7:Z0≤8:=by have:nv.size≤8:=ax.2;omega
  have eP:jY nv.nd (ins.map Fm.fr) w i=(List.range Z0).map fun j:Nat=>RK f0.fr (nU nv.nd i+(j:Int)*Ad nv.nd) w:=by
   unfold jY;rw[hk,if_pos E,ar,a4,eZ,oe]
  replace S:=(S.nil 1).reads0;dsimp only[Xj,Xi] at S
  refine aP (fun mm s g=> ∃(u:Nat) (pl:Option Addr) (dl:Nat) (D:List Sl) (Y:List aY),s=((p,t,c),(w:Int),⟨b1,0,none⟩,(q,t,d),decide (dW nv.kind),(oq,i,od),(i:Int),(pl,u,dl),(u:Int),())∧u≤Z0∧mm=Z0-u∧
   bV D=(List.range u).map (fun j:Nat=>RK f0.fr (nU nv.nd i+(j:Int)*Ad nv.nd) w)∧(∀s∈D,(s.ok∧s.l<2 ^ 40)∧(s∈f0.ss∨C8 Y s.row))∧
   aJ h no g [blk b1 nv.cells,own 1 q t d (az (iI (ins.map Fm.fr))),own 1 oq i od (ks ab),bP Z,own 1 pl u dl (ks D),bP Y] [row p (C7 ins),bP (ins.map Fm.fact),nv.rows]) Z0 ⟨0,none,0,[],[],rfl,by omega,rfl,rfl,by simp,S⟩ ?_
  clear S;rintro mm s g ⟨u,pl,dl,D,Y,rfl,hu,rfl,L,m,S⟩;unfold ut;simp only[aQ,SI];refine ae (n:=nv.size) (S.cell 0 rfl rfl) ?_;rw[eZ];have X: ∀{g:af} {W:List aY},aJ h no g W [row p (C7 ins),bP (ins.map Fm.fact),nv.rows]→aD g (a.add 0)=some f0.v:=fun S=>aa S U;refine am (fun an=> ?_) (fun ad=> ?_)
  ·refine aB ea (k:=0) rfl (by omega) (ak (p:=f0.p) (l:=f0.l) (c:=f0.c) (X S) (aN S 0 rfl (x:=nv.t) rfl (aN S 0 rfl (x:=nv.t) rfl ?_)));refine(LA hc (by omega)).mono ?_;rintro _ g4 ⟨rfl,F⟩;replace S:=S.fra0 F;refine⟨_,rfl,cR S 0 rfl rfl ⟨X S,?_⟩⟩;refine(PL nv).mono ?_;rintro _ g5 ⟨rfl,F⟩;replace S:=S.fra0 F;refine⟨_,rfl,cR S 0 rfl rfl ⟨X S,?_⟩⟩;have ag:0≤Ad nv.nd∧Ad nv.nd≤4:=by
    have:=cz.2.1;unfold Ad;split<;>omega
   have C:0≤(u:Int)*Ad nv.nd∧(u:Int)*Ad nv.nd≤8*4:=⟨Vw (by omega) ag.1,Vv (by omega) ag.2 ag.1 (by omega)⟩;have a3:=cz.2.2.2.2.2;have bd:0≤(i:Int)*cE nv.nd.kind nv.nd.step∧(i:Int)*cE nv.nd.kind nv.nd.step≤2 ^ 31*4:=⟨Vw (by omega) (by omega),Vv (by omega) a3.2 (by omega) (by omega)⟩;have a9: -31≤nU nv.nd i∧nU nv.nd i≤2 ^ 33:=by
    have:=cz.2.2.1;unfold nU;omega
   rw[al (n:=(u:Int)*Ad nv.nd) (by omega),al (n:=nU nv.nd i+_) (by omega)];refine(Rw (z S f0 m0) (by omega) _ hw).mono ?_;rintro _ g6 ⟨s,rfl,G,sl,H,A,S1,hs⟩;replace S:=S.add S1 fun _ _ h=>h;dsimp only[Xi,Xj] at S;refine⟨_,_,_,rfl,cR S 0 rfl rfl (cR S 0 rfl rfl ?_)⟩;refine yB S 4 rfl (by decide) (by omega) fun b q' d' g7 S=> ?_;dsimp only[List.set,Xi,Xj] at S;refine cR S 0 rfl rfl (cR S 0 rfl rfl ⟨X S,?_⟩);have M:=S.joinR [0,1,2,3,4] 5 6 rfl rfl;dsimp only[Sh.pick,Xi,Xj,List.getElem?_cons_zero,List.getElem?_cons_succ] at M;rw[al (n:=(u:Int)+1) (by omega)];refine⟨Z0-(u+1),by omega,u+1,q',d',D++[s],Y++[bP A],rfl,by omega,rfl,?_,fun x o=> ?_,?_⟩
   ·rw[Wy,U4,←L,Vg,Vz];show bV (D++[s])=bV D++[RK (bV f0.ss) _ w];rw[←H];simp[bV]
   ·rcases UX.1 o with o|o
    ·refine⟨(m x o).1,?_⟩;rcases(m x o).2 with h|h
     ·exact .inl h
     ·exact .inr h.left
    ·simp only[SH] at o;subst o;refine⟨⟨G,sl⟩,?_⟩;rcases hs with h|h
     ·exact .inl h
     ·exact .inr h.nest
   ·have e:ks (D++[s])=ks D++[s.v]:=by simp[ks]
    rw[e];exact M
  ·have:u=Z0:=by omega
   subst this;have Q:D.length=u:=by have:=(S.own 4 rfl).1;rw[dL] at this;omega
   have fr:PV g pl u D:=⟨(S.own 4 rfl).row,fun x o=>by
    obtain⟨s,C,rfl⟩:=U5.1 o;rcases(m s C).2 with h|h
    ·exact(z S f0 m0).rows _ (U2 h)
    ·exact h.1 g (S.w 5 _ rfl),Q,fun s C=>(m s C).1⟩
   refine aN S 0 rfl (x:=nv.t) rfl ?_;refine(yC ap (T S) (by omega) ao aj fr (by omega)).mono ?_;rintro _ g4 ⟨s,rfl,G,sl,H,S1⟩;replace S:=S.add S1 fun _ _ h=>h;dsimp only[Xi,Xj] at S;refine⟨_,_,_,rfl,?_⟩;refine yB S 2 rfl (by decide) (by omega) fun b q' d' g7 S=> ?_;dsimp only[List.set,Xi,Xj] at S;have M:=S.joinR [0,1,2] 3 6 rfl rfl;dsimp only[Sh.pick,Xi,Xj,List.getElem?_cons_zero,List.getElem?_cons_succ] at M;exact wh.next ai hN ho K G sl (by rw[eP,←L];exact H) M
 ·refine ae (n:=nv.kind) (S.cell 0 rfl rfl) (aH (fun h5=> ?_) (fun h5=> ?_))
  ·have eP:jY nv.nd (ins.map Fm.fr) w i=f0.fr:=by
    unfold jY;rw[hk,if_neg E,if_pos h5,ar]
   refine aB ea (k:=0) rfl (by omega) (ak (p:=f0.p) (l:=f0.l) (c:=f0.c) (aa S U) (aN S 0 rfl (x:=nv.t) rfl ?_));refine(yC ap (T S) (by omega) ao aj (z S f0 m0) (by omega)).mono ?_;rintro _ g4 ⟨s,rfl,G,sl,H,S1⟩;replace S:=S.add S1 fun _ _ h=>h;dsimp only[Xi,Xj] at S;refine⟨_,_,_,rfl,?_⟩;refine yB S 2 rfl (by decide) (by omega) fun b q' d' g7 S=> ?_;dsimp only[List.set,Xi,Xj] at S;have M:=S.joinR [0,1,2] 3 4 rfl rfl;dsimp only[Sh.pick,Xi,Xj,List.getElem?_cons_zero,List.getElem?_cons_succ] at M;exact wh.next ai hN ho K G sl (by rw[eP];exact H) M
  ·have eP:jY nv.nd (ins.map Fm.fr) w i=(ins.map Fm.fr).map fun f=>f.getD i []:=by
    unfold jY;rw[hk,if_neg E,if_neg h5]
   have a1: ∀f∈ins,i<f.l:=fun f C=>by
    have e:eJ nv.nd (iI (ins.map Fm.fr))=cL (iI (ins.map Fm.fr)):=by
     unfold eJ;rw[hk,if_neg (fun h=>E h.1),if_neg (fun h=>h5 h.1)]
    have:=Hs (l:=iI (ins.map Fm.fr)) (y:=(f.l:Int)) (by rw[←I];exact U5.2 ⟨f,C,rfl⟩);omega
   replace S:=S.nil 1;dsimp only[Xj,Xi] at S
   refine aP (fun mm s g=> ∃(u:Nat) (pl:Option Addr) (dl:Nat) (D:List Sl),s=((p,t,c),(w:Int),⟨b1,0,none⟩,(q,t,d),decide (dW nv.kind),(oq,i,od),(i:Int),(pl,u,dl),(u:Int),())∧u≤t∧mm=t-u∧
    bV D=((ins.take u).map Fm.fr).map (fun f=>f.getD i [])∧(∀s∈D,(s.ok∧s.l<2 ^ 40)∧ ∃f∈ins,s∈f.ss)∧
    aJ h no g [blk b1 nv.cells,own 1 q t d (az (iI (ins.map Fm.fr))),own 1 oq i od (ks ab),bP Z,own 1 pl u dl (ks D)] [row p (C7 ins),bP (ins.map Fm.fact),nv.rows]) t ⟨0,none,0,[],rfl,by omega,rfl,rfl,by simp,S⟩ ?_
   clear S;rintro mm s g ⟨u,pl,dl,D,rfl,hu,rfl,L,m,S⟩;unfold uu;dsimp only;refine am (fun an=> ?_) (fun ad=> ?_)
   ·obtain⟨f,ef⟩: ∃f,ins[u]? =some f:=⟨_,aO (by omega)⟩;have C:=UR ef;have fi:=a1 f C;have fr:=z S f C;obtain⟨s,es⟩: ∃s,f.ss[i]? =some s:=⟨_,aO (by have:=fr.len;omega)⟩;have ay:=UR es;have pr:=fr.row;obtain⟨b,eb⟩:=pr.some_of (by rw[dL,fr.len];omega);rw[eb] at pr;refine aB ea rfl (by omega) ?_;simp only[oe,US];refine ak (p:=f.p) (l:=f.l) (c:=f.c) (aa S ef) ?_;refine aB eb rfl fi ?_;refine ak (p:=s.p) (l:=s.l) (c:=s.c) (pr.cell (jJ es)) ?_;refine yB S 4 rfl (by decide) (by omega) fun b2 q' d' g7 S=> ?_;dsimp only[List.set,Xi,Xj] at S;rw[al (n:=(u:Int)+1) (by omega)];refine⟨t-(u+1),by omega,u+1,q',d',D++[s],rfl,by omega,rfl,?_,fun x o=> ?_,?_⟩
    ·have h1:ins[u]=f:=by rw[aO (by omega)] at ef;exact Option.some.inj ef
     have h2:f.fr.getD i []=s.xs:=by
      show(bV f.ss).getD i []=s.xs;rw[UV,gn es];rfl
     rw[py (by omega),h1,U4,U4,←L,Vg,Vz,Vg,Vz,h2];simp[bV]
    ·rcases UX.1 o with o|o
     ·exact m x o
     ·simp only[SH] at o;subst o;exact⟨fr.ok x ay,f,C,ay⟩
    ·have e:ks (D++[s])=ks D++[s.v]:=by simp[ks]
     rw[e];exact S.pw [0,1,2,3,4]
   ·have:u=t:=by omega
    subst this;rw[N6 (by omega)] at L;have Q:D.length=u:=by have:=(S.own 4 rfl).1;rw[dL] at this;omega
    have fr:PV g pl u D:=⟨(S.own 4 rfl).row,fun x o=>by
     obtain⟨s,C,rfl⟩:=U5.1 o;obtain⟨f,hf,hs⟩:=(m s C).2;exact(z S f hf).rows _ (U2 hs),Q,fun s C=>(m s C).1⟩
    refine aN S 0 rfl (x:=nv.t) rfl ?_;refine(yC ap (T S) (by omega) ao aj fr (by omega)).mono ?_;rintro _ g4 ⟨s,rfl,G,sl,H,S1⟩;replace S:=S.add S1 fun _ _ h=>h;dsimp only[Xi,Xj] at S;refine⟨_,_,_,rfl,?_⟩;refine yB S 2 rfl (by decide) (by omega) fun b q' d' g7 S=> ?_;dsimp only[List.set,Xi,Xj] at S;have M:=S.joinR [0,1,2] 3 5 rfl rfl;dsimp only[Sh.pick,Xi,Xj,List.getElem?_cons_zero,List.getElem?_cons_succ] at M;exact wh.next ai hN ho K G sl (by rw[eP,←L];exact H) M
end
end
section
abbrev ahead (gv:Gv) (k:Nat):List Int:=0::(cC gv.gr.nodes).take k
structure UP (gv:Gv) (W:Int→Int) (k i:Nat) (nv:Nv):Prop where
 lt:i<gv.l
 ord:(cC gv.gr.nodes)[k]? =some ((i:Int)+1)
 en:gv.ns[i]? =some nv
 nd:gv.gr.nodes[i]? =some nv.nd
 ok:nv.ok
 chk:nv.nd.chk (nv.nd.inn.map W)=0
 inn: ∀j∈nv.inn.xs,0≤j∧j≤(gv.l:Int)
 ahead: ∀j∈nv.inn.xs,j∈ahead gv k
 len:nv.inn.xs.length=nv.inn.l
 one:1≤nv.inn.l∧nv.inn.l≤4
 take:G.ahead gv (k+1)=G.ahead gv k++[(i:Int)+1]
theorem PN {gv:Gv} {W R:Int→Int} {pos:Int→Nat} (o:gv.ok) (rt:bM gv.gr W R pos) {k:Nat} (A:k<gv.l): ∃i nv,UP gv W k i nv:=by
 have u:gv.gr.nodes.length=gv.l:=by rw[←o.1];simp[Gv.gr]
 have f:=bR rt.first;have e:=rt.ordered;have d:k<(cC gv.gr.nodes).length:=by rw[e,u];exact A
 have q:=fJ gv.gr.nodes gv.gr.nodes.length _ (UU d);obtain⟨i,s⟩: ∃i:Nat,(cC gv.gr.nodes)[k]=(i:Int)+1:=⟨((cC gv.gr.nodes)[k]-1).toNat,by have:1≤(cC gv.gr.nodes)[k]:=q.1;omega⟩;have v:i<gv.l:=by
  have z:(cC gv.gr.nodes)[k]≤(gv.gr.nodes.length:Int):=q.2;rw[s] at z;omega
 obtain⟨nv,en⟩: ∃n,gv.ns[i]? =some n:=⟨_,aO (by have:=o.1;omega)⟩;have r:=o.2.2 nv (UR en);have a:gv.gr.nodes[i]? =some nv.nd:=by show(gv.ns.map Nv.nd)[i]? =_;rw[UW,en];rfl
 have b:=rt.chk i nv.nd a;have ilen:nv.inn.xs.length=nv.inn.l:=r.1.1;have g:=(dc b).2.1;have m:(nv.nd.inn.map W).length≤4:=by
  by_cases y:cJ nv.nd.kind
  ·exact((dc b).2.2.2.2.2.1 y).2
  ·have:=(dc b).2.2.2.2.2.2.1 y;omega
 rw[UT] at g m;have t:nv.nd.inn=nv.inn.xs:=rfl;rw[t,ilen] at g m
 exact⟨i,nv,v,by rw[aO d,s],en,a,r,b,fun j x=>by have:=f.2.2.2.2.2 nv.nd (UR a) j x;omega,
  fun j x=>Bd e d s a x,ilen,⟨g,m⟩,by show 0::_=_;rw[py d,s];rfl⟩
theorem Hv {gv:Gv} {W R:Int→Int} {pos:Int→Nat} (a:gv.ok) (rt:bM gv.gr W R pos):ahead gv gv.l=bK gv.gr.nodes gv.gr.nodes.length:=by
 have b:gv.gr.nodes.length=gv.l:=by rw[←a.1];simp[Gv.gr]
 rw[dM];show 0::(cC gv.gr.nodes).take gv.l=0::cC gv.gr.nodes;rw[N6 (by rw[rt.ordered];omega)]
theorem NS {gv:Gv} {W R:Int→Int} {pos:Int→Nat} (a:gv.ok) (rt:bM gv.gr W R pos) {x:Int} (h0:0≤x) (e:x≤(gv.l:Int)):x∈ahead gv gv.l:=by
 have b:gv.gr.nodes.length=gv.l:=by rw[←a.1];simp[Gv.gr]
 rw[Hv a rt];by_cases d:x=0
 ·subst d;exact EZ _ _
 ·rw[dM];exact Vd _ (nO rt.ordered (by omega) (by omega))
section
variable {h:af} {gv:Gv} {W R:Int→Int} {pos:Int→Nat} {V:Int→Int}
theorem Iv (d:gv.ok) (hn:bI h gv.p (aF gv.ns)) (hr:(aU gv.ns).P h) (hs: ∀n∈gv.ns,n.inn.l<2 ^ 20∧n.weights.l<2 ^ 40∧n.bias.l<2 ^ 40) (rt:bM gv.gr W R pos)
 (hV: ∀(i:Nat) (n:Nd),gv.gr.nodes[i]? =some n→V ((i:Int)+1)=iB n (n.inn.map V)) (hb: ∀x,0≤x→x≤(gv.l:Int)→0≤V x∧V x≤2 ^ 50):
 au P mc #[gv.v,.int .i64 (V 0)] h fun v h'=> ∃b:Nat,v= .slice (some ⟨b,0,none⟩) (gv.l+1) (gv.l+1)∧aJ h no h' [blk b (az ((List.range (gv.l+1)).map fun x:Nat=>V x))] []:=by
 refine xP _ _ ?_;unfold w5;have S:=((aJ.start h no).read (row gv.p (aF gv.ns)) hn).read (aU gv.ns) hr;refine aA (cs:=gv.cells) S fun b0 _ _ S=> ?_;dsimp only[Xj,Xi] at S;refine aN S 0 rfl (x:=gv.t) rfl ?_
 suffices H: ∀g,aJ h no g [] [row gv.p (aF gv.ns),aU gv.ns]→au P nk #[gv.v,.int .i64 (V 0),.bool true] g fun v h'=> ∃b:Nat,v= .slice (some ⟨b,0,none⟩) (gv.l+1) (gv.l+1)∧aJ h no h' [blk b (az ((List.range (gv.l+1)).map fun x:Nat=>V x))] [] by
  refine(H _ (S.pw [])).mono ?_;rintro _ g2 ⟨b,rfl,Y⟩;exact⟨_,_,_,rfl,b,rfl,Y⟩
 clear S;intro g S;refine zc _ _ _ ?_;unfold zb;have D:gv.gr.nodes.length=gv.l:=by rw[←d.1];simp[Gv.gr]
 have f:=bR rt.first;have an:gv.l≤12:=by have:=f.2.1;omega
 refine aA (cs:=gv.cells) S fun b1 _ _ S=> ?_;dsimp only[Xj,Xi] at S;refine aN S 0 rfl (x:=gv.t) rfl ?_;refine(Hy d (S.row 0 rfl) (S.r 1 _ rfl) (by omega) (fun n hn=>by have:=hs n hn;omega)).mono ?_;rintro _ g2 ⟨o,w,r,rfl,X,hw,O,aj,a0,ay,Y⟩;have Z:=rt.look;rw[Z] at X hw O ⊢;dsimp only at X hw O ⊢;replace S:=S.add Y fun _ _ h=>h;dsimp only[Xi,Xj] at S;refine⟨_,_,_,_,_,_,_,_,_,_,rfl,?_⟩;refine aA (cs:=[.slice none 0 0,.slice none 0 0,.slice none 0 0,.int .i64 0]) S fun a _ _ S=> ?_;dsimp only[Xi,Xj] at S;refine aE S 4 rfl (jb rfl) fun _ _ S=> ?_;dsimp only[List.set] at S;refine aE S 4 rfl (jb rfl) fun _ _ S=> ?_;dsimp only[List.set] at S;refine aE S 4 rfl (jb rfl) fun _ _ S=> ?_;dsimp only[List.set] at S;refine aE S 4 rfl (jb rfl) fun g3 _ S=> ?_;dsimp only[List.set] at S;have ar:=hb 0 (by omega) (by omega);have lO:o.xs.length=o.l:=aj.1;have ao:o.l=gv.l:=by rw[←lO,X,rt.ordered,D]
 refine⟨fun s g=>s=(V 0,true,⟨b1,0,none⟩,⟨a,0,none⟩,())∧aJ h no g [blk b1 gv.cells,row o.p (az o.xs),row w.p (az w.xs),row r.p (az r.xs),blk a [o.v,w.v,r.v,.int .i64 0]] [row gv.p (aF gv.ns),aU gv.ns],?_,
  ae (n:=0) (S.cell 4 rfl rfl) (bQ rfl (bQ (decide_eq_false (by omega)) (bQ (decide_eq_false (by omega)) ⟨rfl,S⟩)))⟩
 clear S;rintro s g ⟨rfl,S⟩;unfold sV;simp only[aQ,SI];refine ak (p:=gv.p) (l:=gv.l) (c:=gv.c) (S.cell 0 rfl rfl) ?_;have ew:IntKind.wrap .i64 ((gv.l:Int)+1)=((gv.l+1:Nat):Int):=by rw[al (by omega)];omega
 rw[ew];simp only[oe];have C:(List.replicate (gv.l+1) [Value.int .i64 0]).flatten=az (List.replicate (gv.l+1) 0):=by rw[ib];simp[az]
 refine dQ S (gv.l+1) rfl rfl rfl (by decide) (by omega) (by omega) fun E g4 _ S=> ?_;rw[C] at S;dsimp only[Xi,Xj] at S;refine aB rfl (k:=0) rfl (by omega) ?_;simp only[Vi,Nat.zero_mul,aQ,Va];refine aE S 5 rfl (by rw[av,UZ];omega) fun _ _ S=> ?_;rw[bA,show(List.replicate (gv.l+1) (0:Int)).set 0 (V 0)=vals gv.l V (ahead gv 0) by show _=vals gv.l V [0];rw[mO,VO];rfl] at S;dsimp only[List.set] at S
 refine aP (fun T s g=> ∃k:Nat,s=(true,⟨b1,0,none⟩,⟨a,0,none⟩,(some ⟨E,0,none⟩,gv.l+1,gv.l+1),(k:Int),())∧k≤gv.l∧T=gv.l-k∧
  aJ h no g [blk b1 gv.cells,row o.p (az o.xs),row w.p (az w.xs),row r.p (az r.xs),blk a [o.v,w.v,r.v,.int .i64 0],blk E (az (vals gv.l V (ahead gv k)))] [row gv.p (aF gv.ns),aU gv.ns]) gv.l ⟨0,rfl,by omega,rfl,S⟩ ?_
 clear S;rintro T s g ⟨k,rfl,hk,rfl,S⟩;unfold sU;simp only[aQ,SI];refine ak (p:=o.p) (l:=o.l) (c:=o.c) (S.cell 4 rfl rfl) ?_;refine am (fun ai=> ?_) (fun ab=> ?_)
 case refine_2=>
  have:k=gv.l:=by omega
  subst this;rw[Hv d rt,←D,zU rt.ordered] at S;rw[D] at S;exact⟨E,rfl,yu (S.pw [5])⟩
 have ad:k<gv.l:=by omega
 obtain⟨i,nv,A⟩:=PN d rt ad;have aw:=A.lt;have ax:=hb ((i:Int)+1) (by omega) (by omega);refine ak (p:=gv.p) (l:=gv.l) (c:=gv.c) (S.cell 0 rfl rfl) ?_;refine ak (p:=o.p) (l:=o.l) (c:=o.c) (S.cell 4 rfl rfl) ?_;have U:bI g o.p (az o.xs):=S.w 1 _ rfl;obtain⟨oa,z⟩:=U.some_of (by rw[av];omega);have u: ∀{g:af} {W2:List aY},aJ h no g (blk b1 gv.cells::row o.p (az o.xs)::W2) [row gv.p (aF gv.ns),aU gv.ns]→aD g (oa.add k)=some (.int .i64 ((i:Int)+1)):=fun S=>by
  have:=S.w 1 (row o.p (az o.xs)) rfl;have this:bI _ o.p (az o.xs):=this;rw[z] at this;exact this.cell (aI (by rw[X];exact A.ord))
 refine aB z rfl (by omega) ?_;simp only[oe,US];refine ae (n:=(i:Int)+1) (u S) ?_;have ei:IntKind.wrap .i64 ((i:Int)+1-1)=(i:Int):=by rw[al (by omega)];omega
 rw[ei];obtain⟨q,ea⟩:=(S.row 0 rfl).some_of (by rw[bW,d.1];omega);have M:bI g (some q) (aF gv.ns):=by rw[←ea];exact S.row 0 rfl
 refine aB ea rfl (by omega) ?_;simp only[oe];refine jd M A.en ?_;refine aA S fun bx g5 _ S=> ?_;dsimp only[Xi,Xj] at S;refine cA S 6 rfl rfl (bu rfl) fun g6 _ S=> ?_;dsimp only[List.set] at S;replace S:=S.nil 1;dsimp only[Xi,Xj] at S
 refine aP (fun T s g=> ∃(t:Nat) (lp:Option Addr) (ld:Nat),s=(true,⟨b1,0,none⟩,⟨a,0,none⟩,(some ⟨E,0,none⟩,gv.l+1,gv.l+1),(k:Int),⟨bx,0,none⟩,(lp,t,ld),(t:Int),())∧t≤nv.inn.l∧T=nv.inn.l-t∧
  aJ h no g [blk b1 gv.cells,row o.p (az o.xs),row w.p (az w.xs),row r.p (az r.xs),blk a [o.v,w.v,r.v,.int .i64 0],blk E (az (vals gv.l V (ahead gv k))),blk bx nv.cells,own 1 lp t ld (az ((nv.inn.xs.take t).map V))] [row gv.p (aF gv.ns),aU gv.ns]) nv.inn.l ⟨0,none,0,rfl,by omega,rfl,S⟩ ?_
 clear S;rintro T s g ⟨t,lp,ld,rfl,ht,rfl,S⟩;unfold pX;simp only[aQ,SI];have L:=UR A.en;have m:bI g nv.inn.p (az nv.inn.xs):=S.r 1 _ rfl nv.rows (U2 L) nv.inn.row (by simp);have h1:=A.one;have J:=A.len;refine ak (p:=nv.inn.p) (l:=nv.inn.l) (c:=nv.inn.c) (S.cell 6 rfl rfl) ?_;refine am (fun ai=> ?_) (fun ab=> ?_)
 ·refine ak (p:=nv.inn.p) (l:=nv.inn.l) (c:=nv.inn.c) (S.cell 6 rfl rfl) ?_;have B:t<nv.inn.xs.length:=by omega
  obtain⟨ia,G⟩:=m.some_of (by rw[av];omega);rw[G] at m;refine aB G rfl (by omega) ?_;simp only[oe,US];refine ae (m.cell (aI (aO B))) ?_;have hj:=A.inn _ (UU B);have K:=A.ahead _ (UU B);obtain⟨x,ex⟩: ∃x:Nat,nv.inn.xs[t]=(x:Int):=⟨nv.inn.xs[t].toNat,by omega⟩;rw[ex] at hj K ⊢;refine aB rfl (k:=x) rfl (by omega) ?_;simp only[oe,aQ,SI];refine ae (n:=V x) (S.cell 5 rfl (aI (by rw[vk (by omega),if_pos K]))) ?_;refine aA (cs:=[.int .i64 (V x)]) S fun b6 g2 _ S=> ?_;dsimp only[Xi,Xj] at S;refine cK S 7 (ys:=az [V x]) rfl rfl (by decide) (by omega) (bI.of_at (S.at 8 rfl)) rfl cX fun p2 l2 c2 g3 ag S=> ?_;subst ag;dsimp only[List.set] at S;have e:az ((nv.inn.xs.take t).map V)++az [V x]=az ((nv.inn.xs.take (t+1)).map V):=by
   rw[py B,ex];simp only[az,U4,Vg,Vz]
  rw[e] at S;rw[al (by omega)];exact⟨nv.inn.l-(t+1),by omega,t+1,p2,c2,rfl,by omega,rfl,S.pw [0,1,2,3,4,5,6,7]⟩
 ·have:t=nv.inn.l:=by omega
  subst this;rw[N6 (by omega)] at S;have I: ∀y∈nv.inn.xs.map V,0≤y∧y≤2 ^ 50:=fun y hy=>by
   obtain⟨j,hj,rfl⟩:=U5.1 hy;have:=A.inn j hj;exact hb j this.1 this.2
  have Q:(nv.inn.xs.map V).length=nv.inn.l:=by rw[UT];exact J
  have aa:V ((i:Int)+1)=iB nv.nd (nv.inn.xs.map V):=hV i nv.nd A.nd;refine aN S 6 rfl (x:=nv.t) rfl (ak (p:=o.p) (l:=o.l) (c:=o.c) (S.cell 4 rfl rfl) (aB z rfl (by omega) ?_));simp only[oe,US];refine ae (n:=(i:Int)+1) (u S) ?_;refine(FE A.chk (S.own 7 rfl).row Q (by omega) I).mono ?_;rintro _ g7 ⟨rfl,F⟩;replace S:=S.fra0 F;refine⟨_,rfl,u S,S.cell 4 rfl rfl,aB rfl (k:=i+1) (by omega) (by omega) ?_⟩;rw[show((i:Int)+1).toNat=i+1 by omega];simp only[aQ,SI,US];refine aE S 5 rfl (by rw[av,fm];omega) fun g8 _ S=> ?_;rw[bA] at S;dsimp only[List.set] at S;refine cI rfl ?_;refine aN S 6 rfl (x:=nv.t) rfl (ak (p:=o.p) (l:=o.l) (c:=o.c) (S.cell 4 rfl rfl) (aB z rfl (by omega) ?_));refine ae (n:=(i:Int)+1) (u S) ?_;refine(Lz A.chk (S.own 7 rfl).row Q (by omega) I).mono ?_;rintro _ g9 ⟨rfl,F⟩;replace S:=S.fra0 F;refine⟨_,rfl,u S,S.cell 4 rfl rfl,aB rfl (k:=i+1) (by omega) (by omega) ?_⟩;rw[show((i:Int)+1).toNat=i+1 by omega];simp only[aQ,SI,US];refine aE S 5 rfl (by rw[av,U1,fm];omega) fun ap _ S=> ?_;rw[bA,V7,qE (by omega) aa.symm,←A.take] at S;dsimp only[List.set] at S;rw[al (by omega)];exact⟨gv.l-(k+1),by omega,k+1,rfl,by omega,rfl,S.pw [0,1,2,3,4,5]⟩
end
end
section
def N7 (g:Gr) (a:List (List Int)):Prop:= ∀f∈a,(f.length:Int)=g.width∧ ∀x∈f,g.low≤x∧x≤g.high
def PO (ns:List Nd) (W:Int→Int) (V:Int→List (List Int)):Prop:= ∀(i:Nat) (n:Nd),ns[i]? =some n→V ((i:Int)+1)=jZ n (n.inn.map V) (W (n.inn.getD 0 0)).toNat
def kP (n:Nat) (F:Int→Fm) (D:List Int):List Value:=(List.range (n+1)).map fun x:Nat=>if(x:Int)∈D then(F x).v else .slice none 0 0
theorem lg (n:Nat) (F:Int→Fm) (D:List Int):(kP n F D).length=n+1:=by simp[kP]
theorem FF {n:Nat} {F:Int→Fm} {D:List Int} {x:Nat} (h:x≤n) (a:(x:Int)∈D):(kP n F D)[x]? =some (F x).v:=by
 unfold kP;rw[UW,Vj (by omega),Option.map_some,if_pos a]
theorem LC {n:Nat} {F F':Int→Fm} {D:List Int} {i:Nat} (hi:i+1≤n) (d: ∀x,x≠(i:Int)+1→F' x=F x):(kP n F D).set (i+1) (F' ((i:Int)+1)).v=kP n F' (D++[(i:Int)+1]):=by
 apply Vo;intro x;by_cases e:x≤n
 ·rw[Wi];by_cases b:i+1=x
  ·subst b;rw[if_pos rfl,if_pos (by rw[lg];omega),FF e (by simp)];rfl
  ·rw[if_neg b];unfold kP;rw[UW,UW,Vj (by omega),Option.map_some,Option.map_some,d (x:Int) (by omega)];congr 1;by_cases a:(x:Int)∈D
   ·rw[if_pos a,if_pos (by simp[a])]
   ·rw[if_neg a,if_neg (by
     rw[UX,SH];rintro(h|h)
     ·exact a h
     ·omega)]
 ·rw[Vc (by rw[U1,lg];omega),Vc (by rw[lg];omega)]
theorem LD {n:Nat} {F:Int→Fm} {D:List Int} (h: ∀x:Nat,x≤n→(x:Int)∈D):kP n F D=C7 ((List.range (n+1)).map fun x:Nat=>F x):=by
 unfold kP C7;rw[VP];refine U8 fun x a=> ?_;rw[VD] at a;rw[if_pos (h x (by omega))];rfl
def SJ (X:List (List Int)) (h:af) (v:Value) (a:af):Prop:= ∃f:Fm,v=f.v∧f.ok∧f.fr=X∧cp no h a∧f.fact.P a
theorem SJ.nil {h a:af} (k:cp no h a):SJ [] h (.slice none 0 0) a:=⟨⟨none,0,0,[]⟩,rfl,⟨rfl,U3 _,by simp⟩,rfl,k,fun x b=>by
 simp only[U7,VU,or_false] at b;rcases b with rfl|rfl
 ·exact bI.nil _ _
 ·intro f d;simp at d⟩
section
variable {h:af} {gv:Gv} {W R:Int→Int} {pos:Int→Nat} {V:Int→List (List Int)} {f0:Fm}
def Tk (gv:Gv) (f0:Fm) (V:Int→List (List Int)) (h:af) (v:Value) (b:af):Prop:=
 cp no h b∧((N7 gv.gr f0.fr∧ ∃(d:Nat) (a:List Fm),v= .agg #[.slice (some ⟨d,0,none⟩) (gv.l+1) (gv.l+1),.int .i64 0]∧bI b (some ⟨d,0,none⟩) (C7 a)∧a.length=gv.l+1∧ ∀(x:Nat) (f:Fm),a[x]? =some f→f.ok∧f.fr=V x∧f.fact.P b)∨
  (¬N7 gv.gr f0.fr∧ ∃e:Int,e≠0∧v= .agg #[.slice none 0 0,.int .i64 e]))
abbrev FS (gv:Gv) (b1 b a d:Nat) (o w r:Sl) (cs:List Value) (Z:List aY):List aY:=
 [blk b1 gv.cells,blk b [.slice none 0 0,.int .i64 0],row o.p (az o.xs),row w.p (az w.xs),row r.p (az r.xs),blk a [o.v,w.v,r.v,.int .i64 0],blk d cs,bP Z]
theorem FG (C:gv.ok) (hs: ∀n∈gv.ns,n.inn.l<2 ^ 20∧n.weights.l<2 ^ 40∧n.bias.l<2 ^ 40) (rt:bM gv.gr W R pos) (aw:f0.ok) (ax:V 0=f0.fr) (hV:PO gv.gr.nodes W V) (hb: ∀x,0≤x→x≤(gv.l:Int)→(V x).length≤2 ^ 30)
 {b1 u d B:Nat} {o w r:Sl} (ho:o.xs=cC gv.gr.nodes) (hw:w.xs=(List.range (gv.gr.nodes.length+1)).map fun x:Nat=>W x) (a3:o.ok) (a4:w.ok) {Q:Value→af→Prop} {K1}
 (H: ∀(g:af) (F:Int→Fm) (Z:List aY),(∀x:Nat,x≤gv.l→(F x).ok∧(F x).fr=V x∧(F x=f0∨C8 Z (F x).fact))→aJ h no g (FS gv b1 u d B o w r (C7 ((List.range (gv.l+1)).map fun x:Nat=>F x)) Z) [row gv.p (aF gv.ns),aU gv.ns,f0.fact]→
  (aW g ⟨u,0,none⟩ (.slice (some ⟨B,0,none⟩) (gv.l+1) (gv.l+1)) fun h93=>aW h93 ⟨u,1,none⟩ (.int .i64 0) fun h94=>aq h94 ⟨u,0,none⟩ fun p95 l95 c95=>ah .i64 h94 ⟨u,1,none⟩ fun n96=>Q (.agg #[(.slice p95 l95 c95),(.int .i64 n96)]) h94))
 {g:af} {c0:List Value} (ay:c0=kP gv.l (fun _=>f0) [0]) (S:aJ h no g (FS gv b1 u d B o w r c0 []) [row gv.p (aF gv.ns),aU gv.ns,f0.fact]):
 aZ (S:=(Addr×Addr×Addr×(Option Addr×Nat×Nat)×Int×Unit)) (fun K2 s g=>j5 Q K1 K2 s.1 s.2.1 s.2.2.1 s.2.2.2.1.1 s.2.2.2.1.2.1 s.2.2.2.1.2.2 s.2.2.2.2.1 g) (⟨b1,0,none⟩,⟨u,0,none⟩,⟨d,0,none⟩,(some ⟨B,0,none⟩,gv.l+1,gv.l+1),0,()) g:=by
 have ab:gv.gr.nodes.length=gv.l:=by rw[←C.1];simp[Gv.gr]
 have f:=bR rt.first;have a5:gv.l≤12:=by have:=f.2.1;omega
 have lO:o.xs.length=o.l:=a3.1;have a6:o.l=gv.l:=by rw[←lO,ho,rt.ordered,ab]
 have lW:w.xs.length=w.l:=a4.1;have a7:w.l=gv.l+1:=by rw[←lW,hw];simp[ab]
 refine aP (fun mm s g=> ∃(k:Nat) (F:Int→Fm) (Z:List aY),s=(⟨b1,0,none⟩,⟨u,0,none⟩,⟨d,0,none⟩,(some ⟨B,0,none⟩,gv.l+1,gv.l+1),(k:Int),())∧k≤gv.l∧mm=gv.l-k∧
  (∀x∈ahead gv k,(F x).ok∧(F x).fr=V x∧(F x=f0∨C8 Z (F x).fact))∧aJ h no g (FS gv b1 u d B o w r (kP gv.l F (ahead gv k)) Z) [row gv.p (aF gv.ns),aU gv.ns,f0.fact]) gv.l
  ⟨0,fun _=>f0,[],rfl,by omega,rfl,fun x a=>by
    have a:x∈([0]:List Int):=a;simp only[SH] at a;subst a;exact⟨aw,ax.symm,.inl rfl⟩,by rw[ay] at S;exact S⟩ ?_
 clear S;rintro mm s g ⟨k,F,Z,rfl,hk,rfl,hF,S⟩;have fact: ∀{g:af} {cs:List Value} {W2:List aY},aJ h no g (FS gv b1 u d B o w r cs Z++W2) [row gv.p (aF gv.ns),aU gv.ns,f0.fact]→ ∀x∈ahead gv k,(F x).fact.P g:=fun{g cs W2} S x a=>by
  rcases(hF x a).2.2 with h|h
  ·rw[h];exact S.r 2 _ rfl
  ·exact h.1 g (S.w 7 _ rfl)
 unfold j5;simp only[aQ,SI];refine ak (p:=o.p) (l:=o.l) (c:=o.c) (S.cell 5 rfl rfl) ?_;refine am (fun a2=> ?_) (fun a0=> ?_)
 case refine_2=>
  have:k=gv.l:=by omega
  subst this;have I: ∀x:Nat,x≤gv.l→(x:Int)∈ahead gv gv.l:=fun x a=>NS C rt (by omega) (by omega);rw[LD I] at S;exact H g F Z (fun x a=>hF x (I x a)) S
 have a1:k<gv.l:=by omega
 obtain⟨i,nv,A⟩:=PN C rt a1;have a8:=A.lt;have an:=hs nv (UR A.en);refine ak (p:=gv.p) (l:=gv.l) (c:=gv.c) (S.cell 0 rfl rfl) ?_;refine ak (p:=o.p) (l:=o.l) (c:=o.c) (S.cell 5 rfl rfl) ?_;have ap:bI g o.p (az o.xs):=S.w 2 _ rfl;obtain⟨oa,L⟩:=ap.some_of (by rw[av];omega);have O: ∀{g:af} {cs:List Value} {W2:List aY},aJ h no g (FS gv b1 u d B o w r cs Z++W2) [row gv.p (aF gv.ns),aU gv.ns,f0.fact]→aD g (oa.add k)=some (.int .i64 ((i:Int)+1)):=fun S=>by
  have this:bI _ o.p (az o.xs):=S.w 2 (row o.p (az o.xs)) rfl;rw[L] at this;exact this.cell (aI (by rw[ho];exact A.ord))
 refine aB L rfl (by omega) ?_;simp only[oe,US];refine ae (n:=(i:Int)+1) (O (W2:=[]) S) ?_;have ei:IntKind.wrap .i64 ((i:Int)+1-1)=(i:Int):=by rw[al (by omega)];omega
 rw[ei];obtain⟨q,ea⟩:=(S.row 0 rfl).some_of (by rw[bW,C.1];omega);have aj:bI g (some q) (aF gv.ns):=by rw[←ea];exact S.row 0 rfl
 refine aB ea rfl (by omega) ?_;simp only[oe];refine jd aj A.en ?_;refine aA S fun bx g5 _ S=> ?_;dsimp only[Xi,Xj] at S;refine cA S 8 rfl rfl (bu rfl) fun g6 _ S=> ?_;dsimp only[List.set] at S;replace S:=S.nil 1;dsimp only[Xi,Xj] at S
 refine aP (fun mm s g=> ∃(t:Nat) (lp:Option Addr) (ld:Nat),s=(⟨b1,0,none⟩,⟨u,0,none⟩,⟨d,0,none⟩,(some ⟨B,0,none⟩,gv.l+1,gv.l+1),(k:Int),⟨bx,0,none⟩,(lp,t,ld),(t:Int),())∧t≤nv.inn.l∧mm=nv.inn.l-t∧
  aJ h no g (FS gv b1 u d B o w r (kP gv.l F (ahead gv k)) Z++[blk bx nv.cells,own 1 lp t ld (C7 ((nv.inn.xs.take t).map F))]) [row gv.p (aF gv.ns),aU gv.ns,f0.fact]) nv.inn.l ⟨0,none,0,rfl,by omega,rfl,S⟩ ?_
 clear S;rintro mm s g ⟨t,lp,ld,rfl,ht,rfl,S⟩;dsimp only[Xi,Xj] at S;unfold oD;simp only[aQ,SI];have J:=UR A.en;have m:bI g nv.inn.p (az nv.inn.xs):=S.r 1 _ rfl nv.rows (U2 J) nv.inn.row (by simp);have h1:=A.one;have ad:=A.len;obtain⟨ia,K⟩:=m.some_of (by rw[av];omega);rw[K] at m;refine ak (p:=nv.inn.p) (l:=nv.inn.l) (c:=nv.inn.c) (S.cell 8 rfl rfl) ?_;refine am (fun a2=> ?_) (fun a0=> ?_)
 ·refine ak (p:=nv.inn.p) (l:=nv.inn.l) (c:=nv.inn.c) (S.cell 8 rfl rfl) ?_;have E:t<nv.inn.xs.length:=by omega
  refine aB K rfl (by omega) ?_;simp only[oe,US];refine ae (m.cell (aI (aO E))) ?_;have M:=A.inn _ (UU E);have ai:=A.ahead _ (UU E);obtain⟨x,ex⟩: ∃x:Nat,nv.inn.xs[t]=(x:Int):=⟨nv.inn.xs[t].toNat,by omega⟩;rw[ex] at M ai ⊢;refine aB rfl (k:=x) rfl (by omega) ?_;simp only[oe,aQ,SI];refine ak (p:=(F x).p) (l:=(F x).l) (c:=(F x).c) (S.cell 6 rfl (FF (by omega) ai)) ?_;refine yB S 9 rfl (by decide) (by omega) fun b q' d' g7 S=> ?_;dsimp only[List.set,Xi,Xj] at S;have e:C7 ((nv.inn.xs.take t).map F)++[.slice (F x).p (F x).l (F x).c]=C7 ((nv.inn.xs.take (t+1)).map F):=by
   rw[py E,ex];simp only[C7,U4,Vg,Vz]
  rw[e] at S;rw[al (by omega)];exact⟨nv.inn.l-(t+1),by omega,t+1,q',d',rfl,by omega,rfl,S.pw [0,1,2,3,4,5,6,7,8,9]⟩
 ·have:t=nv.inn.l:=by omega
  subst this;rw[N6 (by omega)] at S;obtain⟨z,X,ao⟩: ∃z:Nat,nv.inn.xs[0]'(by omega)=(z:Int)∧(z:Int)∈nv.inn.xs:=by
   have hm:=UU (l:=nv.inn.xs) (n:=0) (by omega);have:=A.inn _ hm;exact⟨(nv.inn.xs[0]'(by omega)).toNat,by omega,by rw[show(((nv.inn.xs[0]'(by omega)).toNat:Nat):Int)=nv.inn.xs[0]'(by omega) by omega];exact hm⟩
  have ba:=A.inn _ ao;have v:=rt.wide (x:=(z:Int)) (by omega) (by omega);obtain⟨w0,T⟩: ∃w0:Nat,W (z:Int)=(w0:Int):=⟨(W (z:Int)).toNat,by have:1≤W (z:Int):=v.1;omega⟩;have a9:w0≤16:=by have:W (z:Int)≤16:=v.2;omega
  refine aN S 8 rfl (x:=nv.t) rfl (ak (p:=o.p) (l:=o.l) (c:=o.c) (S.cell 5 rfl rfl) (aB L rfl (by omega) ?_));simp only[oe,US];refine ae (n:=(i:Int)+1) (O S) ?_;refine ak (p:=w.p) (l:=w.l) (c:=w.c) (S.cell 5 rfl rfl) (ak (p:=nv.inn.p) (l:=nv.inn.l) (c:=nv.inn.c) (S.cell 8 rfl rfl) (aB K (k:=0) rfl (by omega) ?_));refine ae (n:=(z:Int)) (m.cell (i:=0) (aI (by rw[aO (show 0<nv.inn.xs.length by omega),X]))) ?_;have y:bI g w.p (az w.xs):=S.w 3 _ rfl;obtain⟨wa,U⟩:=y.some_of (by rw[av];omega);rw[U] at y;refine aB U (k:=z) rfl (by omega) ?_;simp only[oe];refine ae (n:=(w0:Int)) (y.cell (aI (by rw[hw,UW,Vj (by omega),Option.map_some,T]))) ?_;have ag: ∀x∈nv.inn.xs.map F,x.fact.P g∧x.ok∧x.l≤2 ^ 30:=fun x a=>by
   obtain⟨j,M,rfl⟩:=U5.1 a;have h1:=hF j (A.ahead j M);have h2:=A.inn j M;have h3:=hb j h2.1 h2.2;rw[←h1.2.1,Fm.len h1.1] at h3;exact⟨fact S j (A.ahead j M),h1.1,h3⟩
  refine(NR A.ok (S.r 1 _ rfl nv.rows (U2 J)) (by omega) an.2.1 an.2.2 A.chk (S.own 9 rfl).row ag (by rw[UT];exact ad) h1.1 (by omega) (by omega)).mono ?_;rintro _ g7 ⟨fn,rfl,aa,Y,S1⟩;replace S:=S.add S1 fun _ _ h=>h;dsimp only[Xi,Xj] at S;have ar:(nv.inn.xs.map F).map Fm.fr=nv.nd.inn.map V:=by
   rw[VP];exact U8 fun j M=>(hF j (A.ahead j M)).2.1
  have eW:(W (nv.nd.inn.getD 0 0)).toNat=w0:=by
   have:nv.nd.inn.getD 0 0=(z:Int):=by
    show nv.inn.xs.getD 0 0=_;rw[cH (by omega),X]
   rw[this,T,oe]
  have eV:fn.fr=V ((i:Int)+1):=by rw[hV i nv.nd A.nd,eW,←ar];exact Y
  refine⟨_,_,_,rfl,S.cell 5 rfl rfl,O (W2:=[_,_,_]) S,S.cell 5 rfl rfl,aB rfl (k:=i+1) (by omega) (by omega) ?_⟩;rw[show((i:Int)+1).toNat=i+1 by omega];simp only[aQ,SI,US];refine aE S 6 rfl (by rw[lg];omega) fun g8 _ S=> ?_;dsimp only[List.set] at S;have S2:=S.joinR [0,1,2,3,4,5,6] 7 10 rfl rfl;dsimp only[Sh.pick,Xi,Xj,List.getElem?_cons_zero,List.getElem?_cons_succ] at S2;rw[al (by omega)];refine⟨gv.l-(k+1),by omega,k+1,fun x=>if x=(i:Int)+1 then fn else F x,Z++[fn.fact],rfl,by omega,rfl,fun x a=> ?_,?_⟩
  ·dsimp only;rw[A.take] at a;by_cases G:x=(i:Int)+1
   ·rw[if_pos G,G];exact⟨aa,eV,.inr C8.last⟩
   ·rw[if_neg G];rcases UX.1 a with a|a
    ·obtain⟨q1,q2,q3⟩:=hF x a;refine⟨q1,q2,?_⟩;rcases q3 with h|h
     ·exact .inl h
     ·exact .inr h.left
    ·simp only[SH] at a;exact absurd a G
  ·have e:=LC (n:=gv.l) (F:=F) (F':=fun x=>if x=(i:Int)+1 then fn else F x) (D:=ahead gv k) (i:=i) (by omega) (fun x a=>if_neg a);rw[if_pos rfl] at e;rw[A.take,←e];exact S2
end
end
section
instance (g:Gr) (fs:List (List Int)):Decidable (N7 g fs):=by unfold N7;infer_instance
section
variable {h:af} {gv:Gv} {W R:Int→Int} {pos:Int→Nat} {V:Int→List (List Int)} {f0:Fm}
theorem Iw (H:gv.ok) (hn:bI h gv.p (aF gv.ns)) (hr:(aU gv.ns).P h) (hs: ∀n∈gv.ns,n.inn.l<2 ^ 20∧n.weights.l<2 ^ 40∧n.bias.l<2 ^ 40) (rt:bM gv.gr W R pos) (y:f0.ok) (ff:f0.fact.P h) (fl:f0.l≤2 ^ 30)
 (ab:V 0=f0.fr) (hV:PO gv.gr.nodes W V) (hb: ∀x,0≤x→x≤(gv.l:Int)→(V x).length≤2 ^ 30):au P lZ #[gv.v,.slice f0.p f0.l f0.c] h (Tk gv f0 V h):=by
 refine xO _ _ _ _ ?_;unfold wX;have S:=(((aJ.start h no).read (row gv.p (aF gv.ns)) hn).read (aU gv.ns) hr).read f0.fact ff;have a4:gv.gr.nodes.length=gv.l:=by rw[←H.1];simp[Gv.gr]
 have f:=bR rt.first;have ay:gv.l≤12:=by have:=f.2.1;omega
 have a5:1≤gv.width∧gv.width≤16:=f.2.2.1;refine aA (cs:=gv.cells) S fun b1 _ _ S=> ?_;dsimp only[Xj,Xi] at S;refine aA (cs:=[.slice none 0 0,.int .i64 0]) S fun u _ _ S=> ?_;dsimp only[Xj,Xi] at S;refine aN S 0 rfl (x:=gv.t) rfl ?_;refine(Hy H (S.row 0 rfl) (S.r 1 _ rfl) (by omega) (fun n hn=>by have:=hs n hn;omega)).mono ?_;rintro _ g2 ⟨o,w,r,rfl,ho,hw,L,an,ar,a7,S1⟩;have Y:=rt.look;rw[Y] at ho hw L ⊢;dsimp only at ho hw L ⊢;replace S:=S.add S1 fun _ _ h=>h;dsimp only[Xi,Xj] at S;refine⟨_,_,_,_,_,_,_,_,_,_,rfl,?_⟩;refine aA (cs:=[.slice none 0 0,.slice none 0 0,.slice none 0 0,.int .i64 0]) S fun q _ _ S=> ?_;dsimp only[Xi,Xj] at S;refine aE S 5 rfl (jb rfl) fun _ _ S=> ?_;dsimp only[List.set] at S;refine aE S 5 rfl (jb rfl) fun _ _ S=> ?_;dsimp only[List.set] at S;refine aE S 5 rfl (jb rfl) fun _ _ S=> ?_;dsimp only[List.set] at S;refine aE S 5 rfl (jb rfl) fun g3 _ S=> ?_;dsimp only[List.set] at S;refine ae (n:=0) (S.cell 5 rfl rfl) (bQ rfl ?_);have C: ∀{g:af} {A:List aY},aJ h no g A [row gv.p (aF gv.ns),aU gv.ns,f0.fact]→PV g f0.p f0.l f0.ss:=fun S=>Fm.frs y (S.r 2 _ rfl);have aw:f0.ss.length=f0.l:=y.1
 have err: ∀{e:Int} {g:af} {A:List aY},e≠0→ ¬N7 gv.gr f0.fr→aJ h no g (blk b1 gv.cells::blk u [.slice none 0 0,.int .i64 0]::A) [row gv.p (aF gv.ns),aU gv.ns,f0.fact]→
  aW g ⟨u,0,none⟩ (.slice none 0 0) fun aa=>aW aa ⟨u,1,none⟩ (.int .i64 e) fun D=>aq D ⟨u,0,none⟩ fun ao ai U=>ah .i64 D ⟨u,1,none⟩ fun aj=>Tk gv f0 V h (.agg #[(.slice ao ai U),(.int .i64 aj)]) D:=by
  intro e g A he K S;refine aE S 1 rfl (jb rfl) fun _ _ S=> ?_;dsimp only[List.set] at S;refine aE S 1 rfl (jb rfl) fun _ _ S=> ?_;dsimp only[List.set] at S;exact ak (p:=none) (l:=0) (c:=0) (S.cell 1 rfl rfl) (ae (n:=e) (S.cell 1 rfl rfl) ⟨S.fra,.inr ⟨K,e,he,rfl⟩⟩)
 refine aP (fun Q s g=> ∃t:Nat,s=((f0.p,f0.l,f0.c),⟨b1,0,none⟩,⟨u,0,none⟩,⟨q,0,none⟩,(t:Int),())∧t≤f0.l∧Q=f0.l-t∧N7 gv.gr (f0.fr.take t)∧
  aJ h no g [blk b1 gv.cells,blk u [.slice none 0 0,.int .i64 0],row o.p (az o.xs),row w.p (az w.xs),row r.p (az r.xs),blk q [o.v,w.v,r.v,.int .i64 0]] [row gv.p (aF gv.ns),aU gv.ns,f0.fact]) f0.l ⟨0,rfl,by omega,rfl,by intro f i;simp at i,S⟩ ?_
 clear S;rintro Q s g ⟨t,rfl,ht,rfl,j,S⟩;unfold pW;simp only[aQ,SI];refine am (fun a6=> ?_) (fun a3=> ?_)
 ·obtain⟨s,es⟩: ∃s,f0.ss[t]? =some s:=⟨_,aO (by omega)⟩;have B:=UR es;have ap:=y.2.2 s B;have T:s.xs.length=s.l:=ap.1.1;have E:s.xs∈f0.fr:=UR (gn es);obtain⟨a,ea⟩:=(C S).row.some_of (by rw[dL];omega);have J: ∀{g:af} {A:List aY},aJ h no g A [row gv.p (aF gv.ns),aU gv.ns,f0.fact]→aD g (a.add t)=some s.v:=fun S=>by
   have:=(C S).row;rw[ea] at this;exact this.cell (jJ es)
  refine aB ea rfl (by omega) ?_;simp only[oe,US];refine ak (p:=s.p) (l:=s.l) (c:=s.c) (J S) (ae (n:=gv.width) (S.cell 0 rfl rfl) (bh (fun ag=> ?_) (fun he=> ?_)))
  ·exact err (by decide) (fun i=>ag (by have:=(i s.xs E).1;rw[T] at this;exact this)) S
  refine aP (fun Q z g=> ∃k:Nat,z=((f0.p,f0.l,f0.c),⟨b1,0,none⟩,⟨u,0,none⟩,⟨q,0,none⟩,(t:Int),(k:Int),())∧k≤s.l∧Q=s.l-k∧(∀x∈s.xs.take k,gv.low≤x∧x≤gv.high)∧
   aJ h no g [blk b1 gv.cells,blk u [.slice none 0 0,.int .i64 0],row o.p (az o.xs),row w.p (az w.xs),row r.p (az r.xs),blk q [o.v,w.v,r.v,.int .i64 0]] [row gv.p (aF gv.ns),aU gv.ns,f0.fact]) s.l ⟨0,rfl,by omega,rfl,by intro x d;simp at d,S⟩ ?_
  clear S;rintro Q z g ⟨k,rfl,hk,rfl,I,S⟩;unfold oC;simp only[aQ,SI];refine ae (n:=gv.width) (S.cell 0 rfl rfl) (am (fun a0=> ?_) (fun ax=> ?_))
  ·have G:k<s.xs.length:=by omega
   have sr: ∀{g:af} {A:List aY},aJ h no g A [row gv.p (aF gv.ns),aU gv.ns,f0.fact]→bI g s.p (az s.xs):=fun S=>(C S).rows _ (U2 B);obtain⟨b,X⟩:=(sr S).some_of (by rw[av];omega);have O:aD g (b.add k)=some (.int .i64 s.xs[k]):=by
    have:=sr S;rw[X] at this;exact this.cell (aI (aO G))
   have d:s.xs[k]∈s.xs:=UU G;refine aB ea rfl (by omega) (ak (p:=s.p) (l:=s.l) (c:=s.c) (by simp only[oe,US];exact J S) (aB X rfl (by omega) ?_));simp only[oe,US];refine ae O (ae (n:=gv.low) (S.cell 0 rfl rfl) (am (fun h1=> ?_) (fun h1=> ?_)))
   ·exact err (by decide) (fun i=>by have:gv.low≤_:=((i s.xs E).2 _ d).1;omega) S
   refine aB ea rfl (by omega) (ak (p:=s.p) (l:=s.l) (c:=s.c) (J S) (aB X rfl (by omega) ?_));refine ae (n:=s.xs[k]) O (ae (n:=gv.high) (S.cell 0 rfl rfl) (am (fun h2=> ?_) (fun h2=> ?_)))
   ·exact err (by decide) (fun i=>by have:_≤gv.high:=((i s.xs E).2 _ d).2;omega) S
   rw[al (by omega)];refine⟨s.l-(k+1),by omega,k+1,rfl,by omega,rfl,fun x d=> ?_,S⟩;rw[py G] at d;rcases UX.1 d with d|d
   ·exact I x d
   ·simp only[SH] at d;subst d;omega
  ·have:k=s.l:=by omega
   subst this;rw[N6 (by omega)] at I;rw[al (by omega)];refine⟨f0.l-(t+1),by omega,t+1,rfl,by omega,rfl,fun f i=> ?_,S⟩;have M:t<f0.fr.length:=by unfold Fm.fr;rw[fq];omega
   have ad:f0.fr[t]=s.xs:=by
    have:=gn es;have this:f0.fr[t]? =_:=this;rw[aO M] at this;exact Option.some.inj this
   rw[py M,ad] at i;rcases UX.1 i with i|i
   ·exact j f i
   ·simp only[SH] at i;subst i;exact⟨by show(s.xs.length:Int)=gv.width;omega,I⟩
 ·have:t=f0.l:=by omega
  subst this;rw[N6 (by unfold Fm.fr;rw[fq];omega)] at j;refine ak (p:=gv.p) (l:=gv.l) (c:=gv.c) (S.cell 0 rfl rfl) ?_;have ew:IntKind.wrap .i64 ((gv.l:Int)+1)=((gv.l+1:Nat):Int):=by rw[al (by omega)];omega
  rw[ew];simp only[oe];refine dQ S (gv.l+1) rfl rfl rfl (by decide) (by omega) (by omega) fun bS g4 _ S=> ?_;rw[ib] at S;dsimp only[Xi,Xj] at S;refine aB rfl (k:=0) rfl (by omega) ?_;simp only[Vi,Nat.zero_mul,aQ,Va];refine aE S 6 rfl (by rw[UZ];omega) fun g5 _ S=> ?_;dsimp only[List.set] at S;replace S:=S.reads0;dsimp only[Xi,Xj] at S;refine FG (f0:=f0) (V:=V) H hs rt y ab hV hb ho hw an ar (fun g F Z hF S=> ?_) ?_ S
  ·refine aE S 1 rfl (jb rfl) fun g6 a1 S2=> ?_;dsimp only[List.set] at S2;refine aE S2 1 rfl (jb rfl) fun g7 a2 S3=> ?_;dsimp only[List.set] at S3;refine ak (p:=some ⟨bS,0,none⟩) (l:=gv.l+1) (c:=gv.l+1) (S3.cell 1 rfl rfl) (ae (n:=0) (S3.cell 1 rfl rfl) ⟨S3.fra,.inl ⟨j,bS,_,rfl,bI.of_at (S3.at 6 rfl),by simp,fun x f d=> ?_⟩⟩);by_cases m:x<gv.l+1
   ·rw[UW,Vj m] at d;cases d;obtain⟨q1,q2,q3⟩:=hF x (by omega);refine⟨q1,q2,?_⟩;rcases q3 with h|h
    ·show(F (x:Int)).fact.P _;rw[h];exact S3.r 2 _ rfl
    ·exact h.1 _ (S3.w 7 _ rfl)
   ·rw[UW,Vc (by simp;omega)] at d;cases d
  ·apply Vo;intro x;unfold kP;by_cases m:x<gv.l+1
   ·rw[UW,Vj m,Option.map_some,Wi,UZ];by_cases h0:0=x
    ·subst h0;rw[if_pos rfl,if_pos m,if_pos (by simp)]
    ·rw[if_neg h0,List.getElem?_replicate,if_pos m,if_neg (by rw[SH];omega)]
   ·rw[Vc (by simp;omega),Vc (by simp;omega)]
def nV (g:Gr) (a:List (List Int)) (V:Int→List (List Int)):List (List Int):=if N7 g a then V g.out else[]
theorem Bj (m:gv.ok) (M:bI h gv.p (aF gv.ns)) (Q:(aU gv.ns).P h) (T: ∀n∈gv.ns,n.inn.l<2 ^ 20∧n.weights.l<2 ^ 40∧n.bias.l<2 ^ 40) (rt:bM gv.gr W R pos) (s:f0.ok) (D:f0.fact.P h) (E:f0.l≤2 ^ 30)
 (u:V 0=f0.fr) (I:PO gv.gr.nodes W V) (J: ∀x,0≤x→x≤(gv.l:Int)→(V x).length≤2 ^ 30):au P kf #[gv.v,.slice f0.p f0.l f0.c] h (SJ (nV gv.gr f0.fr V) h):=by
 refine Cy _ _ _ _ ?_;unfold DZ;have S:=(((aJ.start h no).read (row gv.p (aF gv.ns)) M).read (aU gv.ns) Q).read f0.fact D;have L:gv.gr.nodes.length=gv.l:=by rw[←m.1];simp[Gv.gr]
 have f:=bR rt.first;have Z:1≤gv.out∧gv.out≤(gv.gr.nodes.length:Int):=f.2.2.2.2.1;refine aA (cs:=gv.cells) S fun b1 _ _ S=> ?_;dsimp only[Xj,Xi] at S;refine aN S 0 rfl (x:=gv.t) rfl ?_;refine(Iw m (S.row 0 rfl) (S.r 1 _ rfl) T rt s (S.r 2 _ rfl) E u I J).mono ?_;rintro _ G ⟨F,O⟩;replace S:=S.fra0 F;rcases O with ⟨y,z,A,rfl,o,B,j⟩|⟨y,e,K,rfl⟩
 ·obtain⟨b,i⟩: ∃b:Nat,gv.out=(b:Int):=⟨gv.out.toNat,by omega⟩;obtain⟨d,g⟩: ∃f,A[b]? =some f:=⟨_,aO (by omega)⟩;obtain⟨U,X,Y⟩:=j b d g;have a:=((aJ.start G no).read (row (some ⟨z,0,none⟩) (C7 A)) o).read d.fact Y;have Fr:=S.fra;refine⟨_,_,_,_,rfl,?_⟩;refine aA (cs:=[.slice none 0 0,.int .i64 0]) a fun C _ _ a=> ?_;dsimp only[Xj,Xi] at a;refine aE a 0 rfl (jb rfl) fun _ _ a=> ?_;dsimp only[List.set] at a;refine aE a 0 rfl (jb rfl) fun H _ a=> ?_;dsimp only[List.set] at a;replace S:=S.fra0 a.fra;refine ae (n:=0) (a.cell 0 rfl rfl) (bQ rfl ?_);refine ak (p:=some ⟨z,0,none⟩) (l:=gv.l+1) (c:=gv.l+1) (a.cell 0 rfl rfl) (ae (n:=(b:Int)) (by rw[←i];exact S.cell 0 rfl rfl) (aB rfl (k:=b) rfl (by omega) ?_));simp only[oe,US];refine ak (p:=d.p) (l:=d.l) (c:=d.c) ((a.row 0 rfl).cell (MA g)) ?_;have q:nV gv.gr f0.fr V=V (b:Int):=by
   unfold nV;rw[if_pos y];show V gv.out=_;rw[i]
  rw[q];exact⟨d,rfl,U,X,S.fra,a.r 1 _ rfl⟩
 ·have q:nV gv.gr f0.fr V=[]:=by unfold nV;rw[if_neg y]
  rw[q];refine⟨_,_,_,_,rfl,?_⟩;refine aA (cs:=[.slice none 0 0,.int .i64 0]) S fun C _ _ S=> ?_;dsimp only[Xj,Xi] at S;refine aE S 1 rfl (jb rfl) fun _ _ S=> ?_;dsimp only[List.set] at S;refine aE S 1 rfl (jb rfl) fun H _ S=> ?_;dsimp only[List.set] at S;refine ae (n:=e) (S.cell 1 rfl rfl) (cI (by simpa using K) ?_);exact SJ.nil S.fra
theorem FH {C:Int→Int} (o:gv.ok) (hn:bI h gv.p (aF gv.ns)) (hr:(aU gv.ns).P h) (q: ∀n∈gv.ns,n.inn.l<2 ^ 20∧n.weights.l<2 ^ 40∧n.bias.l<2 ^ 40) (rt:bM gv.gr W R pos) (I:f0.ok) (ff:f0.fact.P h) (fl:f0.l≤2 ^ 30)
 (L:V 0=f0.fr) (hV:PO gv.gr.nodes W V) (Y: ∀x,0≤x→x≤(gv.l:Int)→(V x).length≤2 ^ 30)
 (J:C 0=(f0.l:Int)) (hC: ∀(i:Nat) (n:Nd),gv.gr.nodes[i]? =some n→C ((i:Int)+1)=iB n (n.inn.map C)) (B: ∀x,0≤x→x≤(gv.l:Int)→0≤C x∧C x≤((V x).length:Int)):
 au P kZ #[gv.v,.slice f0.p f0.l f0.c] h (SJ ((nV gv.gr f0.fr V).take (C gv.out).toNat) h):=by
 refine AE _ _ _ _ ?_;unfold BG;have S:=(((aJ.start h no).read (row gv.p (aF gv.ns)) hn).read (aU gv.ns) hr).read f0.fact ff;have aa:gv.gr.nodes.length=gv.l:=by rw[←o.1];simp[Gv.gr]
 have f:=bR rt.first;have fo:1≤gv.out∧gv.out≤(gv.gr.nodes.length:Int):=f.2.2.2.2.1;refine aA (cs:=gv.cells) S fun b1 _ _ S=> ?_;dsimp only[Xj,Xi] at S;refine aN S 0 rfl (x:=gv.t) rfl ?_;refine(Bj o (S.row 0 rfl) (S.r 1 _ rfl) q rt I (S.r 2 _ rfl) fl L hV Y).mono ?_;rintro _ U ⟨d,rfl,u,z,F,q3⟩;replace S:=S.fra0 F;have g:=Fm.len u;refine⟨_,_,_,rfl,aH (fun hz=> ?_) (fun hz=> ?_)⟩
 ·have:nV gv.gr f0.fr V=[]:=by rw[←z];exact Vm.1 (by omega)
  rw[this,List.take_nil];exact SJ.nil S.fra
 have M:N7 gv.gr f0.fr:=by
  apply Decidable.byContradiction;intro M;have:nV gv.gr f0.fr V=[]:=by unfold nV;rw[if_neg M]
  rw[←z] at this;rw[this] at g;simp at g;omega
 have T:nV gv.gr f0.fr V=V gv.out:=by unfold nV;rw[if_pos M];rfl
 obtain⟨G,e⟩: ∃G:Nat,gv.out=(G:Int):=⟨gv.out.toNat,by omega⟩;have K:=B gv.out (by omega) (by omega);obtain⟨m,H⟩: ∃m:Nat,C gv.out=(m:Int):=⟨(C gv.out).toNat,by omega⟩;rw[T] at z;rw[←z,g] at K;have D:m≤d.c:=by have:=u.2.1;omega
 have E:m≤d.l:=by omega
 refine aN S 0 rfl (x:=gv.t) rfl (ae (n:=gv.out) (S.cell 0 rfl rfl) ?_);have j:=Iv (V:=C) (h:=U) o (S.row 0 rfl) (S.r 1 _ rfl) q rt hC fun x h0 X=>by
  have h2:=B x h0 X;have h3:=Y x h0 X;omega
 rw[J] at j;refine j.mono ?_;rintro _ g3 ⟨b,rfl,O⟩;have Q:=((aJ.start U no).read d.fact q3).add O fun _ _ h=>h;dsimp only[Xi,Xj] at Q;replace S:=S.add O fun _ _ h=>h;dsimp only[Xi,Xj] at S;refine⟨_,_,_,rfl,S.cell 0 rfl rfl,aB rfl (k:=G) e (by omega) ?_⟩;rw[e];simp only[oe,aQ,SI,US];refine ae (n:=C (G:Int)) (S.cell 1 rfl (aI (by rw[UW,Vj (by omega)];rfl))) ?_;rw[e] at H;have ab:=u.2.1;refine ko H D ?_;have e0:(if d.c=0 then d.p else Option.map (fun a=>Addr.add a 0) d.p)=d.p:=TE d.c 0 d.p;rw[e0,T,e,H,oe,Nat.sub_zero,Nat.sub_zero];rw[e] at z;refine⟨⟨d.p,m,d.c,d.ss.take m⟩,rfl,⟨by show(d.ss.take m).length=m;rw[U0,u.1,VY E],D,fun s q=>u.2.2 s (VX q)⟩,?_,S.fra,fun x Z=> ?_⟩
 ·rw[←z];show bV (d.ss.take m)=(bV d.ss).take m;unfold bV;rw[Xg]
 ·have A:=Fm.frs u (Q.r 0 _ rfl);simp only[U7,VU,or_false] at Z;rcases Z with rfl|rfl
  ·have:=bI.take A.row m;show bI _ _ (ks (d.ss.take m));unfold ks;rw[Xg];exact this
  ·intro y hy;obtain⟨s,q,rfl⟩:=U5.1 hy;exact A.rows _ (U2 (VX q))
end
end
end Go.Proofs.YtdhpmegbmjoekaaGreatDoor.G

