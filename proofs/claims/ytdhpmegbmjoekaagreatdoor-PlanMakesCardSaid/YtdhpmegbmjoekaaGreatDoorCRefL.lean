/- CRefP CRefL, in one text. -/
import Derived.Test.YtdhpmegbmjoekaaGreatDoorCMadeR
import Derived.Test.YtdhpmegbmjoekaaGreatDoorCRef16c
set_option linter.unusedVariables false
set_option linter.unusedSimpArgs false
namespace Go.Proofs.YtdhpmegbmjoekaaGreatDoor.G
open Go Go.Sh
open Go.IntKind renaming wrap→kn
section
def lK(l:List Bool)(js:List Int):List Bool:=js.foldl (fun l j=>l.set j.toNat true) l
theorem mo: ∀(a:List Int)(l:List Bool),(lK l a).length=l.length
 |[],_=>rfl
 |j::r,l=>by
  have:=mo r (l.set j.toNat true);rw[VU]at this;exact this
theorem mF: ∀(b:List Int)(l:List Bool)(x:Nat),x<l.length→(∀j∈b,0≤j)→((lK l b)[x]? =some true↔l[x]? =some true∨(x:Int)∈b)
 |[],l,x,_,_=>by simp[lK]
 |j::r,l,x,hx,hj=>by
  have d:=mF r (l.set j.toNat true) x (by rw[VU];exact hx) fun y c=>hj y (V0 _ c);have h0:=hj j Wb;have e:lK l (j::r)=lK (l.set j.toNat true) r:=rfl;rw[e,d,V5];by_cases a:j.toNat=x
  ·rw[a,V4 hx];constructor
   ·intro _;exact .inr (.inl (by omega))
   ·intro _;exact .inl rfl
  ·rw[Wv a];constructor
   ·rintro(h|h)
    ·exact .inl h
    ·exact .inr (.inr h)
   ·rintro(h|h|h)
    ·exact .inl h
    ·omega
    ·exact .inr h
theorem LN(l:List Bool){js:List Int}{t:Nat}(a:t<js.length):lK l (js.take (t+1))=(lK l (js.take t)).set js[t].toNat true:=by
 rw[gD a];unfold lK;rw[V7];rfl
def dF(ns:List Nd)(l:List Bool):Nat→List Bool
 |0=>l
 |i+1=>match ns[i]? with
  |some n=>if(dF ns l i)[i+1]? =some true then lK (dF ns l i) n.inn else dF ns l i
  |none=>dF ns l i
def eC(ns:List Nd)(out:Int):Nat→List Bool
 |0=>(List.replicate (ns.length+1) false).set out.toNat true
 |k+1=>dF ns (eC ns out k) ns.length
section
variable {ns:List Nd}
theorem ke(l:List Bool): ∀i,(dF ns l i).length=l.length
 |0=>rfl
 |i+1=>by
  have a:=ke l i;unfold dF;split
  ·split
   ·rw[mo];exact a
   ·exact a
  ·exact a
theorem gh(out:Int): ∀k,(eC ns out k).length=ns.length+1
 |0=>by simp[eC]
 |k+1=>by
  show(dF ns (eC ns out k) ns.length).length=_;rw[ke];exact gh out k
theorem rG(hi:Inn ns){l:List Bool}(c:l.length=ns.length+1): ∀(i:Nat)(x:Nat),l[x]? =some true→(dF ns l i)[x]? =some true
 |0,_,h=>h
 |i+1,x,h=>by
  have a:=rG hi c i x h;unfold dF;cases e:ns[i]? with
  |none=>exact a
  |some n=>
   dsimp only;split
   ·have d:x<(dF ns l i).length:=(R8.1 a).1;exact(mF _ _ _ d fun j b=>(hi n (VL e) j b).1).2 (.inl a)
   ·exact a
theorem AU(hi:Inn ns){l:List Bool}(c:l.length=ns.length+1){i x:Nat}(h:(dF ns l i)[x]? =some true): ∀d,(dF ns l (i+d))[x]? =some true
 |0=>h
 |d+1=>by
  have a:=AU hi c h d;show(dF ns l ((i+d)+1))[x]? =some true;unfold dF;cases e:ns[i+d]? with
  |none=>exact a
  |some n=>
   dsimp only;split
   ·have f:x<(dF ns l (i+d)).length:=(R8.1 a).1;exact(mF _ _ _ f fun j b=>(hi n (VL e) j b).1).2 (.inl a)
   ·exact a
theorem JD(hi:Inn ns){out:Int}{l:List Bool}(f:l.length=ns.length+1)(h: ∀x:Nat,l[x]? =some true→Lv ns out x): ∀(i:Nat)(x:Nat),(dF ns l i)[x]? =some true→Lv ns out x
 |0,x,a=>h x a
 |i+1,x,a=>by
  have c:=JD hi f h i;unfold dF at a;cases e:ns[i]? with
  |none=>rw[e]at a;exact c x a
  |some n=>
   rw[e]at a;dsimp only at a;split at a
   ·rename_i g;have b:x<(lK (dF ns l i) n.inn).length:=(R8.1 a).1;rw[mo]at b;rcases(mF _ _ _ b fun j d=>(hi n (VL e) j d).1).1 a with h|h
    ·exact c x h
    ·have:Lv ns out ((i:Int)+1):=by
      have:=c (i+1) g;exact this
     exact this.inn e h
   ·exact c x a
theorem Ot(hi:Inn ns){l:List Bool}(b:l.length=ns.length+1){i:Nat}{n:Nd}(a:ns[i]? =some n)(k:l[i+1]? =some true){j:Int}(c:j∈n.inn):(dF ns l ns.length)[j.toNat]? =some true:=by
 have f:=(R8.1 a).1;have d:=rG hi b i (i+1) k;have g:=hi n (VL a) j c;have e:(dF ns l (i+1))[j.toNat]? =some true:=by
  unfold dF;rw[a];dsimp only;rw[if_pos d];refine(mF _ _ _ (by rw[ke,b];omega) fun y m=>(hi n (VL a) y m).1).2 (.inr ?_);rw[show((j.toNat:Nat):Int)=j by omega];exact c
 have:=AU hi b e (ns.length-(i+1));rw[show i+1+(ns.length-(i+1))=ns.length by omega]at this;exact this
def Ag(ns:List Nd)(l:List Bool):Prop:= ∀(i:Nat)(n:Nd),ns[i]? =some n→l[i+1]? =some true→ ∀j∈n.inn,l[j.toNat]? =some true
theorem Ou{l:List Bool}{j:Nat}(h:l[j]? =some true):l.set j true=l:=by
 obtain⟨a,e⟩:=R8.1 h;rw[←e];exact WJ a
theorem El{l:List Bool}: ∀a:List Int,(∀j∈a,l[j.toNat]? =some true)→lK l a=l
 |[],_=>rfl
 |j::r,h=>by
  show lK (l.set j.toNat true) r=l;rw[Ou (h j Wb)];exact El r fun y b=>h y (V0 _ b)
theorem rH{l:List Bool}(h:Ag ns l): ∀i,dF ns l i=l
 |0=>rfl
 |i+1=>by
  unfold dF;rw[rH h i];cases e:ns[i]? with
  |none=>rfl
  |some n=>
   dsimp only;split
   ·rename_i a;exact El _ (h i n e a)
   ·rfl
theorem JE: ∀(l m:List Bool),l.length=m.length→(∀x:Nat,l[x]? =some true→m[x]? =some true)→l.count true≤m.count true∧ ∀x:Nat,m[x]? =some true→l[x]? ≠some true→l.count true<m.count true
 |[],[],_,_=>⟨VX _,fun x h=>by simp at h⟩
 |[],_::_,h,_=>by simp at h
 |_::_,[],h,_=>by simp at h
 |a::l,b::m,hlen,hm=>by
  have e:=JE l m (by simpa using hlen) fun x d=>by have:=hm (x+1) (by simpa using d);simpa using this
  have h0:=hm 0;simp only[List.getElem?_cons_zero,Option.some.injEq]at h0;have g:(a::l).count true=l.count true+if a=true then 1 else 0:=by rw[List.count_cons];simp
  have i:(b::m).count true=m.count true+if b=true then 1 else 0:=by rw[List.count_cons];simp
  rw[g,i];refine⟨?_,fun x d f=> ?_⟩
  ·have:=e.1;by_cases c:a=true
   ·rw[if_pos c,if_pos (h0 c)];omega
   ·rw[if_neg c];split<;>omega
  ·cases x with
   |zero=>
    simp only[List.getElem?_cons_zero,Option.some.injEq]at d;have:a≠true:=fun c=>f (by simp[c]);rw[if_neg this,if_pos d];have:=e.1;omega
   |succ x=>
    have:=e.2 x (by simpa using d) (by simpa using f);by_cases c:a=true
    ·rw[if_pos c,if_pos (h0 c)];omega
    ·rw[if_neg c];split<;>omega
theorem Em(hi:Inn ns){out:Int}(l:0≤out∧out≤(ns.length:Int)): ∀k,Ag ns (eC ns out k)∨k+1≤(eC ns out k).count true
 |0=> .inr (by
  have:(eC ns out 0)[out.toNat]? =some true:=by
   show((List.replicate (ns.length+1) false).set out.toNat true)[out.toNat]? =_;rw[V4 (by rw[VQ];omega)]
  exact List.count_pos_iff.2 (VL this))
 |k+1=>by
  rcases Em hi l k with h|h
  ·left;show Ag ns (dF ns (eC ns out k) ns.length);rw[rH h];exact h
  ·by_cases c:Ag ns (eC ns out k)
   ·left;show Ag ns (dF ns (eC ns out k) ns.length);rw[rH c];exact c
   ·right;have f:=gh (ns:=ns) out k;have key: ∃(i:Nat)(n:Nd)(j:Int),ns[i]? =some n∧(eC ns out k)[i+1]? =some true∧j∈n.inn∧(eC ns out k)[j.toNat]? ≠some true:=Classical.byContradiction fun g=>c fun i n a e j d=>Classical.byContradiction fun b=>g ⟨i,n,j,a,e,d,b⟩;obtain⟨i,n,j,a,e,d,b⟩:=key;have:=(JE (eC ns out k) (dF ns (eC ns out k) ns.length) (by rw[ke]) (rG hi f ns.length)).2 j.toNat (Ot hi f a e d) b;show k+1+1≤(dF ns (eC ns out k) ns.length).count true;omega
theorem En(hi:Inn ns)(out:Int): ∀(k x:Nat),(eC ns out 0)[x]? =some true→(eC ns out k)[x]? =some true
 |0,_,h=>h
 |k+1,x,h=>rG hi (gh out k) ns.length x (En hi out k x h)
theorem JF(hi:Inn ns){out:Int}(a:0≤out∧out≤(ns.length:Int)): ∀(k x:Nat),(eC ns out k)[x]? =some true→Lv ns out x
 |0,x,h=>by
  have h:((List.replicate (ns.length+1) false).set out.toNat true)[x]? =some true:=h;by_cases e:out.toNat=x
  ·rw[show(x:Int)=out by omega];exact .out
  ·rw[Wv e,X2]at h;split at h<;>simp at h
 |k+1,x,h=>JD hi (gh out k) (fun y b=>JF hi a k y b) ns.length x h
theorem Ov(hi:Inn ns){out:Int}(e:0≤out∧out≤(ns.length:Int))(x:Nat):(eC ns out ns.length)[x]? =some true↔Lv ns out x:=by
 constructor
 ·exact JF hi e ns.length x
 ·have p:=gh (ns:=ns) out ns.length;have f:Ag ns (eC ns out ns.length):=by
   rcases Em hi e ns.length with h|h
   ·exact h
   ·have k:=List.count_le_length (a:=true) (l:=eC ns out ns.length);have g:(eC ns out ns.length).count true=(eC ns out ns.length).length:=by omega
    have b:=List.count_eq_length.1 g;intro i n c q j d;have:=hi n (VL c) j d;rw[bo (by omega)];exact congrArg some (b _ (VN _)).symm
  have key: ∀y:Int,Lv ns out y→0≤y∧(eC ns out ns.length)[y.toNat]? =some true:=fun y m=>by
   induction m with
   |out=>
    refine⟨e.1,En hi out ns.length _ ?_⟩;show((List.replicate (ns.length+1) false).set out.toNat true)[out.toNat]? =_;rw[V4 (by rw[VQ];omega)]
   | @inn i n j _ c d o=>
     have:=hi n (VL c) j d;refine⟨this.1,f i n c ?_ j d⟩;have:=o.2;rw[show((i:Int)+1).toNat=i+1 by omega]at this;exact this
  intro h;have:=(key _ h).2;rw[hC]at this;exact this
end
theorem JG{ns:List Nd}{out:Int}{M:LM}{pos:Int→Nat}(I:gm ns out M pos):eC ns out ns.length=fo ns.length M:=by
 apply Wk;intro x;by_cases b:x≤ns.length
 ·rw[nk b];have h:=Ov I.ranked.Inn (out:=out) ⟨by have:=I.out1;omega,I.outn⟩ x;rw[←I.lv]at h;have a:x<(eC ns out ns.length).length:=by rw[gh];omega
  rw[bo a]at h ⊢;congr 1;cases e:(eC ns out ns.length)[x] with
  |true=>rw[e]at h;exact(h.1 rfl).symm
  |false=>
   rw[e]at h;cases e2:(M (x:Int)).isSome with
   |false=>rfl
   |true=>have:=h.2 e2;cases this
 ·rw[V3 (by rw[gh];omega),V3 (by rw[pf];omega)]
def gF(ns:List Nd)(M:LM)(a:Int):Nat→Nat
 |0=>0
 |j+1=>match ns[j]? with
  |some n=>if(M ((j:Int)+1)).isSome∧a∈n.inn then gF ns M a j+1 else gF ns M a j
  |none=>gF ns M a j
theorem Gj(ns:List Nd)(M:LM)(a:Int): ∀j≤ns.length,gF ns M a j=((List.range j).filter fun w:Nat=>decide ((M ((w:Int)+1)).isSome∧a∈innOf ns ((w:Int)+1))).length
 |0,_=>rfl
 |j+1,d=>by
  have c:=Gj ns M a j (by omega);obtain⟨n,b⟩: ∃n,ns[j]? =some n:=⟨_,bo (by omega)⟩;unfold gF;rw[b];dsimp only;rw[XE,List.filter_append,Tz,←c,List.filter_cons,List.filter_nil,fp b];split
  ·rename_i h;rw[if_pos (decide_eq_true h)];rfl
  ·rename_i h;rw[if_neg (by rw[decide_eq_true_iff];exact h)];rfl
theorem LO(ns:List Nd)(M:LM)(a:Int):gF ns M a ns.length=(je ns M a).length:=Gj ns M a _ (VX _)
theorem Gk(ns:List Nd)(M:LM)(a:Int): ∀j,gF ns M a j≤j
 |0=>VX _
 |j+1=>by
  have b:=Gk ns M a j;unfold gF;split
  ·split<;>omega
  ·omega
def i5(ns:List Nd)(M:LM)(a:Int):Int:=if gF ns M a ns.length=1 then eO ns M a else 0
def ph(ns:List Nd)(out:Int)(M:LM)(a:Int):Int:=
 match ns[(a-1).toNat]? with
 |none=>0
 |some n=>if gq n.kind∧(M a).isSome∧a≠out∧i5 ns M a≠0 then
  match ns[(i5 ns M a-1).toNat]? with
  |none=>0
  |some x=>if(nF n x).isSome then i5 ns M a else 0
  else 0
theorem HG{ns:List Nd}{M:LM}{a:Int}:0≤eO ns M a∧eO ns M a≤(ns.length:Int):=zY ns M a ns.length
theorem LP{ns:List Nd}{out:Int}{M:LM}{pos:Int→Nat}(I:gm ns out M pos){i:Nat}(hi:i<ns.length):
 (ph ns out M ((i:Int)+1)=0∧eP ns out M i=none)∨
 ∃(w:Nat)(d m f:Nd)(st:Cd),ph ns out M ((i:Int)+1)=(w:Int)+1∧qc ns out M i w d m f st∧eP ns out M i=some st:=by
 obtain⟨n,g⟩: ∃n,ns[i]? =some n:=⟨_,bo hi⟩;have o:M ((i:Int)+1)=some 1↔(M ((i:Int)+1)).isSome∧gF ns M ((i:Int)+1) ns.length=1:=by
  rw[LO];constructor
  ·intro h;have:=I.ct _ _ (by omega) h;exact⟨by rw[h];rfl,by omega⟩
  ·rintro⟨k,l⟩;obtain⟨c,a⟩:=W8.1 k;have:=I.ct _ _ (by omega) a;rw[a,this,l];rfl
 have p:ph ns out M ((i:Int)+1)=if gq n.kind∧(M ((i:Int)+1)).isSome∧((i:Int)+1)≠out∧i5 ns M ((i:Int)+1)≠0 then
  match ns[(i5 ns M ((i:Int)+1)-1).toNat]? with
  |none=>0
  |some x=>if(nF n x).isSome then i5 ns M ((i:Int)+1) else 0
  else 0:=by
  unfold ph;rw[show((i:Int)+1-1).toNat=i by omega,g]
 cases hs:eP ns out M i with
 |some st=>
  obtain⟨w,d,m,f,s⟩:=DZ I hs;right;refine⟨w,d,m,f,st,?_,s,rfl⟩;have j:n=d:=by have:=s.ea;rw[g]at this;cases this;rfl
  subst j;have b:=o.1 s.m1;have eu:i5 ns M ((i:Int)+1)=(w:Int)+1:=by unfold i5;rw[if_pos b.2];exact s.us
  rw[p,eu,if_pos ⟨s.we,b.1,s.no,by omega⟩,show((w:Int)+1-1).toNat=w by omega,s.eu];dsimp only;rw[s.tk];rfl
 |none=>
  left;refine⟨?_,rfl⟩;rw[p];by_cases a:gq n.kind∧(M ((i:Int)+1)).isSome∧((i:Int)+1)≠out∧i5 ns M ((i:Int)+1)≠0
  ·rw[if_pos a];obtain⟨k,l,q,r⟩:=a;have b:gF ns M ((i:Int)+1) ns.length=1:=Classical.byContradiction fun h=>r (by unfold i5;rw[if_neg h]);have eu:i5 ns M ((i:Int)+1)=eO ns M ((i:Int)+1):=by unfold i5;rw[if_pos b]
   have m1:=o.2 ⟨l,b⟩;unfold eP at hs;rw[g]at hs;dsimp only at hs;rw[if_pos ⟨m1,q,k⟩]at hs;rw[eu];cases e:ns[(eO ns M ((i:Int)+1)-1).toNat]? with
   |none=>rfl
   |some x=>
    rw[e]at hs;dsimp only at hs ⊢;rw[Option.map_eq_none_iff]at hs;rw[hs];rfl
  ·rw[if_neg a]
end
section
section
variable {h:ah}
theorem Gl{gv:Gv}(O:gv.ok)(hn:bD h gv.p (aD gv.ns))(hr:(aM gv.ns).P h)(hl:gv.l<2 ^ 20)(hs: ∀n∈gv.ns,n.inn.l<2 ^ 40)(N:Inn gv.gr.nodes)(ho:0≤gv.out∧gv.out≤(gv.l:Int)):
 au P lU #[gv.v] h fun v h'=> ∃b,v= .slice (some ⟨b,0,none⟩) (gv.l+1) (gv.l+1)∧aG h no h' [aJ b (xj (eC gv.gr.nodes gv.out gv.l))] []:=by
 refine Bt _ ?_;have Y:=O.1;have G:gv.gr.nodes.length=gv.l:=by rw[←Y];simp[Gv.gr]
 obtain⟨d,z⟩: ∃d,gv.gr.nodes=d:=⟨_,rfl⟩;have D:gv.ns.map Nv.nd=d:=z;rw[z]at G N ⊢;have S:=((aG.start h no).read (row gv.p (aD gv.ns)) hn).read (aM gv.ns) hr;refine aA (cs:=gv.cells) S fun w h1 _ S=> ?_;refine ak (p:=gv.p) (l:=gv.l) (c:=gv.c) (S.c 0) ?_;have ew:kn .i64 ((gv.l:Int)+1)=((gv.l+1:Nat):Int):=by rw[al (by omega)];omega
 rw[ew];refine dM S (gv.l+1) rfl rfl rfl (by decide) (by omega) (by omega) fun o h5 _ S=> ?_;have E:(List.replicate (gv.l+1) [Value.bool false]).flatten=xj (List.replicate (gv.l+1) false):=by rw[iG];simp[xj]
 rw[E]at S;refine ae (n:=gv.out) (S.c 0) (aC rfl (k:=gv.out.toNat) (by omega) (by omega) ?_);simp only[aR,SN,VO];refine be S 1 rfl (by rw[rB,VQ];omega) fun h8 _ S=> ?_;rw[Mr]at S;have e0:(List.replicate (gv.l+1) false).set gv.out.toNat true=eC d gv.out 0:=by rw[←G];rfl
 rw[e0]at S
 refine aO (fun C s g=> ∃k:Nat,s=(⟨w,0,none⟩,(some ⟨o,0,none⟩,gv.l+1,gv.l+1),(k:Int),())∧k≤gv.l∧C=gv.l-k∧
  aG h no g [aJ w gv.cells,aJ o (xj (eC d gv.out k))] [row gv.p (aD gv.ns),aM gv.ns]) gv.l ⟨0,rfl,by omega,rfl,S⟩ ?_
 rintro C s g ⟨k,rfl,hk,rfl,S⟩;simp only[aR,SN];refine ak (p:=gv.p) (l:=gv.l) (c:=gv.c) (S.c 0) ?_;have ek:kn .i64 ((k:Int)+1)=((k+1:Nat):Int):=by rw[al (by omega)];rfl
 have V:=gh (ns:=d) gv.out k;refine aq (fun ar=> ?_) (fun ap=> ?_)
 ·obtain⟨L,eL⟩: ∃L,eC d gv.out k=L:=⟨_,rfl⟩;rw[eL]at S V;have hp:=ke (ns:=d) L
  refine aO (fun C s g=> ∃t:Nat,s=(⟨w,0,none⟩,(some ⟨o,0,none⟩,gv.l+1,gv.l+1),(k:Int),(t:Int)+1,())∧t≤gv.l∧C=gv.l-t∧
   aG h no g [aJ w gv.cells,aJ o (xj (dF d L t))] [row gv.p (aD gv.ns),aM gv.ns]) gv.l ⟨0,rfl,by omega,rfl,S⟩ ?_
  rintro C s g ⟨t,rfl,ht,rfl,S⟩;simp only[aR,SN];refine ak (p:=gv.p) (l:=gv.l) (c:=gv.c) (S.c 0) ?_;refine aq (fun an=> ?_) (fun ai=> ?_)
  ·have ab:t<gv.ns.length:=by omega
   obtain⟨f,T⟩: ∃n,gv.ns[t]? =some n:=⟨_,bo ab⟩;have q:=VL T;have ag:=O.2.2 f q;have ilen:f.inn.xs.length=f.inn.l:=ag.1.1;have ax:=hs f q;have A:d[t]? =some f.nd:=by rw[←D,VP,T];rfl
   have B: ∀j∈f.inn.xs,0≤j∧j≤(gv.l:Int):=fun j hj=>by have:=N f.nd (VL A) j hj;omega
   refine ak (p:=gv.p) (l:=gv.l) (c:=gv.c) (S.c 0) ?_;have et:kn .i64 ((t:Int)+1-1)=(t:Int):=by rw[al (by omega)];omega
   have U:kn .i64 ((t:Int)+1+1)=((t+1:Nat):Int)+1:=by rw[al (by omega)];rfl
   rw[et];obtain⟨a,ea⟩:=(S.row 0 rfl).some_of (by rw[bE];omega);have Q:bD g (some a) (aD gv.ns):=by rw[←ea];exact S.row 0 rfl
   have F:aB g ((a.add (t*15)).add 1)=some f.inn.v:=by
    have:=Q.cell (i:=t*15+1) (v:=f.inn.v) (by rw[iu T (by decide)];rfl);rw[mh _ _ (by decide)];exact this
   refine aC ea rfl (by omega) ?_;refine ak (p:=f.inn.p) (l:=f.inn.l) (c:=f.inn.c) F ?_;have Z:=hp t;have m:dF d L (t+1)=if(dF d L t)[t+1]? =some true then lK (dF d L t) f.nd.inn else dF d L t:=by
    conv=>lhs;unfold dF
    rw[A]
   have K:f.nd.inn=f.inn.xs:=rfl;rw[K]at m;obtain⟨y,eQ⟩: ∃y,dF d L t=y:=⟨_,rfl⟩;rw[eQ]at S Z m
   refine aO (fun C s g=> ∃j:Nat,s=(⟨w,0,none⟩,(some ⟨o,0,none⟩,gv.l+1,gv.l+1),(k:Int),(t:Int)+1,(f.inn.p,f.inn.l,f.inn.c),(j:Int),())∧j≤f.inn.l∧C=f.inn.l-j∧(0<j→y[t+1]? =some true)∧
    aG h no g [aJ w gv.cells,aJ o (xj (lK y (f.inn.xs.take j)))] [row gv.p (aD gv.ns),aM gv.ns]) f.inn.l ⟨0,rfl,by omega,rfl,by omega,S⟩ ?_
   rintro C s g ⟨j,rfl,hj,rfl,hq,S⟩;dsimp only;have aw:(lK y (f.inn.xs.take j)).length=gv.l+1:=by rw[mo];omega
   have M: ∀{g:ah}{X:List Bool},X=dF d L (t+1)→aG h no g [aJ w gv.cells,aJ o (xj X)] [row gv.p (aD gv.ns),aM gv.ns]→
    ∃m',m'<gv.l-t∧ ∃R:Nat,((⟨w,0,none⟩,(some ⟨o,0,none⟩,gv.l+1,gv.l+1),(k:Int),kn .i64 ((t:Int)+1+1),()):Addr×(Option Addr×Nat×Nat)×Int×Int×Unit)=(⟨w,0,none⟩,(some ⟨o,0,none⟩,gv.l+1,gv.l+1),(k:Int),(R:Int)+1,())∧R≤gv.l∧m'=gv.l-R∧
     aG h no g [aJ w gv.cells,aJ o (xj (dF d L R))] [row gv.p (aD gv.ns),aM gv.ns]:=fun{g X} e S=>⟨gv.l-(t+1),by omega,t+1,by rw[U],by omega,rfl,by rw[←e];exact S⟩
   refine aq (fun ao=> ?_) (fun aj=> ?_)
   ·have H:j<f.inn.xs.length:=by omega
    refine aC rfl (k:=t+1) (by omega) (by omega) ?_;rw[show((t:Int)+1).toNat=t+1 by omega];simp only[aR,SN,VO];obtain⟨b,I⟩: ∃b,(lK y (f.inn.xs.take j))[t+1]? =some b:=⟨_,bo (by omega)⟩;refine fY (n:=b) (S.cell 1 rfl (yn I)) ?_;have ad: ∀x∈f.inn.xs.take j,0≤x:=fun x hx=>(B x (W9 hx)).1;refine cX (fun W=> ?_) (fun W=> ?_)
    ·subst W;have hQ:y[t+1]? =some true:=by
      by_cases h0:0<j
      ·exact hq h0
      ·have:j=0:=by omega
       subst this;exact I
     have u:bD g f.inn.p (az f.inn.xs):=S.r 1 _ rfl _ (V1 q) f.inn.row (by simp);obtain⟨aa,J⟩:=u.some_of (by rw[av];omega);rw[J]at u;refine aC J rfl (by omega) ?_;refine ae (u.cell (aF (bo H))) ?_;have hx:=B _ (VN H);obtain⟨x,ex⟩: ∃x:Int,f.inn.xs[j]=x:=⟨_,rfl⟩;rw[ex]at hx ⊢;refine aC rfl (k:=x.toNat) (by omega) (by omega) ?_;simp only[aR,SN,VO];refine be S 1 rfl (by rw[rB];omega) fun g2 _ S=> ?_;rw[Mr,←ex,←LN _ H]at S;have ej:kn .i64 ((j:Int)+1)=((j+1:Nat):Int):=by rw[al (by omega)];rfl
     rw[ej];exact⟨f.inn.l-(j+1),by omega,j+1,rfl,by omega,rfl,fun _=>hQ,S⟩
    ·subst W;have h0:j=0:=by
      by_cases h0:j=0
      ·exact h0
      ·have:=(mF _ y (t+1) (by omega) ad).2 (.inl (hq (by omega)));rw[I]at this;cases this
     subst h0;refine M ?_ S;have I:y[t+1]? =some false:=I;rw[m,I,if_neg (by simp)];rfl
   ·refine M ?_ S;rw[py (by omega),m];by_cases h0:0<j
    ·rw[if_pos (hq h0)]
    ·have:f.inn.xs=[]:=Wn.1 (by omega);rw[this];split<;>rfl
  ·have:t=gv.l:=by omega
   subst this;rw[ek];refine⟨gv.l-(k+1),by omega,k+1,rfl,by omega,rfl,?_⟩;have e:eC d gv.out (k+1)=dF d L gv.l:=by rw[←eL,←G];rfl
   rw[e];exact S
 ·have:k=gv.l:=by omega
  subst this;exact⟨o,rfl,yy (S.pw [1])⟩
