/- Plain: numbers' ranges, node by node; they fit along the fusing. -/
import Derived.Test.YtdhpmegbmjoekaaGreatDoorCRng2
import Derived.Test.YtdhpmegbmjoekaaGreatDoorCReachV
import Derived.Test.YtdhpmegbmjoekaaGreatDoorCKeep12
import Derived.Test.YtdhpmegbmjoekaaGreatDoorCFld2
namespace Go.Proofs.YtdhpmegbmjoekaaGreatDoor.G
open Go Go.Sh
set_option linter.unusedVariables false
set_option linter.unusedSimpArgs false
def Rg.in_ (r:Rg):Prop:= ¬(r.alo< -68719476736∨r.ahi>68719476736)
instance (r:Rg):Decidable r.in_:=by unfold Rg.in_;infer_instance
structure UC (g:Gr) (W:Int→Int) (V:Int→Rg):Prop where
 z:V 0=fV g.low g.high
 n: ∀(i:Nat) (n:Nd),g.nodes[i]? =some n→V ((i:Int)+1)=fN n (W (n.inn.getD 0 0)) (n.inn.map V)
theorem Fv {g:Gr} {W R:Int→Int} {pos:Int→Nat} (rt:bM g W R pos) {V:Int→Rg} (r:UC g W V): ∀(m k:Nat) (os:List Rg),m+k=(cC g.nodes).length→os.length=g.nodes.length+1→(∀x∈(0::(cC g.nodes).take k:List Int),os.getD x.toNat Rg.zero=V x)→
 ((jE g.nodes W ((cC g.nodes).drop k) os).isSome=true↔ ∀x∈(cC g.nodes).drop k,(V x).in_)
 |0,k,os,u,s,o=>by
  rw[Vq (by omega)];exact⟨fun _ x a=>(by cases a),fun _=>rfl⟩
 |m+1,k,os,u,s,o=>by
  have f:k<(cC g.nodes).length:=by omega
  have c:=fJ g.nodes g.nodes.length _ (UU f);obtain⟨i,d⟩: ∃i:Nat,(cC g.nodes)[k]=(i:Int)+1:=⟨((cC g.nodes)[k]-1).toNat,by have:1≤(cC g.nodes)[k]:=c.1;omega⟩;have q:(cC g.nodes)[k]≤(g.nodes.length:Int):=c.2;rw[d] at q;obtain⟨n,en⟩: ∃n,g.nodes[i]? =some n:=⟨_,aO (by omega)⟩;have l:n.inn.map (fun j=>os.getD j.toNat Rg.zero)=n.inn.map V:=U8 fun j t=>o j (Bd rt.ordered f d en t);rw[Vb f,d,yG (n:=n) (by rw[show((i:Int)+1).toNat-1=i by omega];exact en),l,←r.n i n en,show((i:Int)+1).toNat=i+1 by omega];have p:(0::(cC g.nodes).take (k+1):List Int)=(0::(cC g.nodes).take k)++[(i:Int)+1]:=by rw[py f,d];rfl
  by_cases e:(V ((i:Int)+1)).alo< -68719476736∨(V ((i:Int)+1)).ahi>68719476736
  ·rw[if_pos e];exact⟨fun h=>(by cases h),fun h=>absurd e (h _ VG)⟩
  ·rw[if_neg e,Fv rt r m (k+1) _ (by omega) (by rw[U1];exact s) (fun x a=> ?_)]
   ·exact⟨fun h x a=>by rcases U7.1 a with rfl|a;exact e;exact h x a,fun h x a=>h x (Vd _ a)⟩
   ·rw[p] at a;have v:0≤x:=by
     rcases UX.1 a with h|h
     ·rcases U7.1 h with rfl|h
      ·exact WR _
      ·have:=(fJ g.nodes g.nodes.length x (VX h)).1;omega
     ·simp only[SH] at h;omega
    by_cases b:x=(i:Int)+1
    ·subst b;rw[show((i:Int)+1).toNat=i+1 by omega,UV,Ve (by omega)];rfl
    ·rw[UV,VS (by omega),←UV];rcases UX.1 a with h|h
     ·exact o x h
     ·simp only[SH] at h;exact absurd h b
theorem Fw {g:Gr} {W R:Int→Int} {pos:Int→Nat} (rt:bM g W R pos) {V:Int→Rg} (b:UC g W V):(g.ranges W).isSome=true↔ ∀(i:Nat),i<g.nodes.length→(V ((i:Int)+1)).in_:=by
 have K:=Fv rt b (cC g.nodes).length 0 (fV g.low g.high::List.replicate g.nodes.length .zero) (by omega) (by simp) (fun x a=>by
  have:x=0:=by simpa using a
  subst this;rw[b.z];rfl)
 rw[Wg] at K;unfold Gr.ranges;rw[K];refine⟨fun h i hi=>h _ (nO rt.ordered (by omega) (by omega)),fun h x a=> ?_⟩;have c:=fJ g.nodes g.nodes.length x a;have:=h (x-1).toNat (by omega);rw[show(((x-1).toNat:Nat):Int)+1=x by omega] at this;exact this
abbrev LH:=Int×Int×Bool
def Bi (v:LH):Rg:=⟨v.1,v.2.1,0,0⟩
theorem Fx {n:Nd} {w:Int} {rs a:List Rg} (h:rs.map Rg.lo=a.map Rg.lo) (i:rs.map Rg.hi=a.map Rg.hi):fN n w rs=fN n w a:=by
 have f: ∀(l:List Rg),(l.getD 0 Rg.zero).lo=(l.map Rg.lo).getD 0 0:=fun l=>by cases l<;>rfl
 have e: ∀(l:List Rg),(l.getD 0 Rg.zero).hi=(l.map Rg.hi).getD 0 0:=fun l=>by cases l<;>rfl
 have d: ∀(b:Int) (l:List Rg),yF b l=(l.map Rg.lo).foldl (fun x y=>if y<x then y else x) b:=fun b l=>by unfold yF;rw[Xb]
 have c: ∀(b:Int) (l:List Rg),oh b l=(l.map Rg.hi).foldl (fun x y=>if y>x then y else x) b:=fun b l=>by unfold oh;rw[Xb]
 have sl: ∀(l:List Rg),lk Rg.lo l=(l.map Rg.lo).foldl (fun s x=>dV (s+x)) 0:=fun l=>by unfold lk;rw[Xb]
 have g: ∀(l:List Rg),lk Rg.hi l=(l.map Rg.hi).foldl (fun s x=>dV (s+x)) 0:=fun l=>by unfold lk;rw[Xb]
 unfold fN;rw[f rs,f a,e rs,e a,d,d,c,c,sl,sl,g,g,h,i]
def NP (n:Nd) (vs:List LH) (w:Int):LH:=((fN n w (vs.map Bi)).lo,(fN n w (vs.map Bi)).hi,decide (fN n w (vs.map Bi)).in_&&vs.all fun v=>v.2.2)
theorem It (x m s:Int): -2147483648≤gL x m s∧gL x m s≤2147483647:=by
 unfold gL;split
 ·split
  ·exact tN _
  ·split<;>decide
 ·decide
theorem Lw {a u x:Nd} {ws:List Int} (f:pG a u=some x) (e:a.chk ws=0) (y:Int):mW x y=if u.kind=10 then gL (mW a y) u.mult u.shift else fz (mW a y) u.low u.high:=by
 rcases sk f with ⟨d,b,rfl⟩|⟨d,b,rfl⟩
 ·rw[if_pos d];have c:mW a y=dZ y:=by
   unfold mW;dsimp only;rw[if_neg (fun h=>h (FC b).2),if_neg (fun h=>h (FC b).1)]
  rw[c];unfold mW;dsimp only;rw[if_neg (by decide+kernel),if_pos (by decide+kernel)]
 ·rw[if_neg (by omega)];have c:mW a y=if cn .i64 a.post 1≠0 then gL (dZ y) a.mult a.shift else dZ y:=by
   unfold mW;dsimp only;rw[if_neg (fun h=>h b)]
  rw[c];unfold mW;dsimp only;rcases PK e b with h|h
  ·rw[h,if_pos (by decide+kernel),if_neg (by decide+kernel),if_neg (by decide+kernel)]
  ·rw[h,if_pos (by decide+kernel),if_pos (by decide+kernel),if_pos (by decide+kernel)]
theorem F9 {a x:Nd} (d:x.weights=a.weights) (b:x.bias=a.bias) (l u:Int) (k:Nat):mV x l u k=mV a l u k:=by
 have e:x.each=a.each:=by unfold Nd.each;rw[d,b]
 have f: ∀c,x.ends l u c=a.ends l u c:=fun c=>by unfold Nd.ends;rw[e,d,b]
 unfold mV;rw[funext f]
theorem Ti:SD NP where
 inn n l vs w h:=rfl
 take a u x ws vs w ht hw ha hu:=by
  obtain⟨t1,t2,t3,U,Y,Z,V,W,X,d⟩:=mT ht;have i:u.kind=10∨u.kind=9:=(fH ht).2.2.2.2;have G:hD x=hD a:=by unfold hD;rw[t1,U,V,W]
  obtain⟨l,b,r⟩: ∃l b,∀n:Nd,gY n.kind→hD n=hD a→fN n w (vs.map Bi)=cW n l b:=
   ⟨if dV ((hD a).1+(hD a).2)>0 then(if 0<yF ((vs.map Bi).getD 0 .zero).lo (vs.map Bi) then 0 else yF ((vs.map Bi).getD 0 .zero).lo (vs.map Bi)) else yF ((vs.map Bi).getD 0 .zero).lo (vs.map Bi),
    if dV ((hD a).1+(hD a).2)>0 then(if 0>oh ((vs.map Bi).getD 0 .zero).hi (vs.map Bi) then 0 else oh ((vs.map Bi).getD 0 .zero).hi (vs.map Bi)) else oh ((vs.map Bi).getD 0 .zero).hi (vs.map Bi),fun n F H=>by
    unfold fN;rw[if_pos F,H]⟩
  have C:=r a hw rfl;have E:=r x (by rw[t1];exact hw) G;have e:=F9 X d l b;have c:x.bias.length=a.bias.length:=by rw[d]
  obtain⟨z,g⟩: ∃z:Int→Int,z=fun y=>if u.kind=10 then gL y u.mult u.shift else fz y u.low u.high:=⟨_,rfl⟩
  have s: ∀y,mW x y=z (mW a y):=fun y=>by rw[g];exact Lw ht ha y
  have k: ¬gY u.kind:=by rintro(h|h|h)<;>omega
  have j:dV ((hD u).1+(hD u).2)=0:=by
   unfold hD;rw[if_neg (by rintro(h|h|h|h)<;>omega),if_neg (by omega)];rfl
  have t: ∀y,-68719476736≤z y∧z y≤68719476736:=fun y=>by
   rw[g];dsimp only;have Q:=(dc hu).2.2.2.2.2.2.2.2.2.1.2.2.2.2;obtain⟨_,_,⟨o,S⟩,⟨R,m⟩,T⟩:=Q;split
   ·have:=It y u.mult u.shift;omega
   ·have O: -2147483648≤u.low:=o;have P:u.high≤2147483647:=m;unfold fz;split
    ·omega
    ·split<;>omega
  have D: ∀(p q:Int),fN u (a.wid ws) [Bi (p,q,true)]=fV (z p) (z q):=fun p q=>by
   have A:yF ([Bi (p,q,true)].getD 0 Rg.zero).lo [Bi (p,q,true)]=p:=by show(if p<p then p else p)=p;split<;>rfl
   have B:oh ([Bi (p,q,true)].getD 0 Rg.zero).hi [Bi (p,q,true)]=q:=by show(if q>q then q else q)=q;split<;>rfl
   unfold fN;rw[if_neg k,if_neg (by rintro(h|h)<;>omega),if_neg (by omega),j,A,B,g];have I: ¬(0:Int)>0:=by decide
   simp only[if_neg I];rcases i with h|h
   ·rw[if_neg (by omega),if_pos h,if_pos h,if_pos h]
   ·rw[if_pos h,if_neg (by omega),if_neg (by omega)]
  have f: ∀(v:LH),fN u (a.wid ws) ([v].map Bi)=fV (z v.1) (z v.2.1):=fun v=>D v.1 v.2.1;unfold NP;rw[f,E,C];have J:(cW x l b).lo=z (cW a l b).lo:=by unfold cW;rw[c,e];exact s _
  have K:(cW x l b).hi=z (cW a l b).hi:=by unfold cW;rw[c,e];exact s _
  have L:(cW x l b).in_↔(cW a l b).in_:=by unfold cW Rg.in_;rw[c,e]
  have M:(fV (z (cW a l b).lo) (z (cW a l b).hi)).in_:=by
   have O:=t (cW a l b).lo;have P:=t (cW a l b).hi;unfold fV Rg.in_;dsimp only;omega
  rw[J,K,decide_eq_true M];have N:decide (cW x l b).in_=decide (cW a l b).in_:=by rw[decide_eq_decide];exact L
  rw[N];simp[fV]
theorem Iu {g:Gr} {W R:Int→Int} {pos:Int→Nat} (D:bM g W R pos) (h:(g.ranges W).isSome=true): ∃(E J:Int→Int) (b:Int→Nat),bM (cF g) E J b∧((cF g).ranges E).isSome=true:=by
 have rt:=D.posG;obtain⟨φ,b,c,K⟩:=FB rt;obtain⟨X,T,rc⟩:=JO rt.ordered R;obtain⟨S,H,O,N,_,_,_,_,_,_,A,_⟩:=Hj rt rc;refine⟨W ∘ φ,R ∘ φ,b,c,?_⟩;obtain⟨V,I,F⟩:=Bc rt.ordered (fV g.low g.high) (fun i n l=>fN n (W (n.inn.getD 0 0)) l);have y:=(Fw rt ⟨I,F⟩).1 h;have C: ∀{V:Int→Rg} {U:Int→LH} {l:List Int},(∀j∈l,(U j).1=(V j).lo∧(U j).2.1=(V j).hi)→((l.map U).map Bi).map Rg.lo=(l.map V).map Rg.lo∧((l.map U).map Bi).map Rg.hi=(l.map V).map Rg.hi:=fun{V U l} G=>by
  simp only[VP];exact⟨U8 fun j d=>(G j d).1,U8 fun j d=>(G j d).2⟩
 obtain⟨U,s⟩: ∃U:Int→LH,U=fun x=>((V x).lo,(V x).hi,true):=⟨_,rfl⟩;obtain⟨k,P,Q,z⟩:=K Ti U fun i n en=>by
  have hi:=(Pt.1 en).1;have e:=C (V:=V) (U:=U) (l:=n.inn) fun j _=>by rw[s];exact⟨rfl,rfl⟩
  have r:fN n (W (n.inn.getD 0 0)) ((n.inn.map U).map Bi)=V ((i:Int)+1):=by rw[F i n en];exact Fx e.1 e.2
  unfold NP;rw[r,decide_eq_true (y i hi)];have M:(n.inn.map U).all (fun v=>v.2.2)=true:=by rw[List.all_map,s];simp
  rw[M,s];rfl
 have u:(cF g).low=g.low∧(cF g).high=g.high:=by unfold cF;rw[if_pos (by rw[rt.look])];exact⟨rfl,rfl⟩
 obtain⟨o,w,m⟩:=Bc c.ordered (fV (cF g).low (cF g).high) (fun i n l=>fN n ((W ∘ φ) (n.inn.getD 0 0)) l);refine(Fw c ⟨w,m⟩).2 ?_;have inr: ∀{i:Nat} {n:Nd},(cF g).nodes[i]? =some n→ ∀j∈n.inn,0≤j∧j≤((cF g).nodes.length:Int):=fun en=>(c.node en).2.2.2.2;have same: ∀(p:Nat) (x:Int),posG (cF g).nodes x=p→0≤x→x≤((cF g).nodes.length:Int)→(k x).1=(o x).lo∧(k x).2.1=(o x).hi:=by
  intro p
  induction p using Nat.strongRecOn with
  |ind p q=>
   intro x Y h0 L;by_cases B:x=0
   ·subst B;rw[P,w,s,u.1,u.2];dsimp only;rw[I];exact⟨rfl,rfl⟩
   ·obtain⟨i,rfl⟩: ∃i:Nat,x=(i:Int)+1:=⟨(x-1).toNat,by omega⟩;obtain⟨n,en⟩: ∃n,(cF g).nodes[i]? =some n:=⟨_,aO (by omega)⟩;have e:=C (V:=o) (U:=k) (l:=n.inn) fun j d=>by
     have a:=inr en j d;have:=kN c.ordered en d;exact q (posG (cF g).nodes j) (by omega) j rfl a.1 a.2
    have r:fN n ((W ∘ φ) (n.inn.getD 0 0)) ((n.inn.map k).map Bi)=o ((i:Int)+1):=by rw[m i n en];exact Fx e.1 e.2
    rw[z i n en];unfold NP;rw[r];exact⟨rfl,rfl⟩
 have t: ∀x,Lv (cF g).nodes (cF g).out x→(k x).2.2=true:=by
  intro x B
  induction B with
  |out=>rw[Q,s]
  |inn L en d q=>
   rw[z _ _ en] at q;unfold NP at q;rw[U9,List.all_map,Wu] at q;exact q.2 _ d
 intro i hi;obtain⟨n,en⟩: ∃n,(cF g).nodes[i]? =some n:=⟨_,aO hi⟩;have f:=t _ (A i hi);rw[z i n en] at f;unfold NP at f;rw[U9,decide_eq_true_iff] at f;have e:=C (V:=o) (U:=k) (l:=n.inn) fun j d=>by
  have a:=inr en j d;exact same _ j rfl a.1 a.2
 have r:fN n ((W ∘ φ) (n.inn.getD 0 0)) ((n.inn.map k).map Bi)=o ((i:Int)+1):=by rw[m i n en];exact Fx e.1 e.2
 rw[←r];exact f.1
end Go.Proofs.YtdhpmegbmjoekaaGreatDoor.G

