/- CR20 CKeep CR20b CR20c CR20d, in one text. -/
import Derived.Test.YtdhpmegbmjoekaaGreatDoorCRngV
import Derived.Test.YtdhpmegbmjoekaaGreatDoorCLook19b
set_option linter.unusedVariables false
set_option linter.unusedSimpArgs false
namespace Go.Proofs.YtdhpmegbmjoekaaGreatDoor.G
open Go Go.Sh
open Go.IntKind renaming wrap→kn
section
theorem PF{y n:Int}(f:1≤n):(if Int.tmod y n<0 then Int.tdiv y n-1 else Int.tdiv y n)=y / n∧(if Int.tmod y n<0 then Int.tmod y n+n else Int.tmod y n)=y % n:=by
 have c:=Int.mul_tdiv_add_tmod y n;have d:=Int.tmod_lt_of_pos y (show(0:Int)<n by omega);have e:=Int.lt_tmod_of_pos y (show(0:Int)<n by omega);generalize Int.tdiv y n=q at c;generalize Int.tmod y n=r at c d e;split
 ·have:=(XL (a:=y) (b:=n) (r:=r+n) (q:=q-1) (by omega)).2 ⟨by rw[Int.mul_sub];omega,by omega,by omega⟩;exact⟨this.1.symm,this.2.symm⟩
 ·have:=(XL (a:=y) (b:=n) (r:=r) (q:=q) (by omega)).2 ⟨by omega,by omega,by omega⟩;exact⟨this.1.symm,this.2.symm⟩
def K9(y n:Int):Int:=(2*y+n) / (2*n)
theorem Th{y n:Int}(d:1≤n):K9 y n=if y % n≥n-y % n then y / n+1 else y / n:=by
 have a:=Int.mul_ediv_add_emod y n;have b:=XC y (show n≠0 by omega);have c:=XS y (show 0<n by omega);generalize y / n=q at a;generalize y % n=r at a b c;split
 ·refine((XL (r:=2*r-n) (by omega)).2 ⟨?_,by omega,by omega⟩).1;have:2*n*(q+1)=2*(n*q)+2*n:=by rw[Int.mul_add,XY];omega
  omega
 ·refine((XL (r:=2*r+n) (by omega)).2 ⟨?_,by omega,by omega⟩).1;have:2*n*q=2*(n*q):=XY _ _ _;omega
theorem PG{x y n:Int}(a:1≤n)(h:x≤y):K9 x n≤K9 y n:=Int.ediv_le_ediv (by omega) (by omega)
theorem PH{y n:Int}(a:1≤n)(b: -2 ^ 60≤y∧y≤2 ^ 60): -2 ^ 60≤y / n∧y / n≤2 ^ 60:=by
 refine⟨?_,?_⟩
 ·refine(Int.le_ediv_iff_mul_le (by omega)).2 ?_;have:(-2 ^ 60:Int)*n≤ -2 ^ 60*1:=XM (by omega) a;omega
 ·refine Int.ediv_le_of_le_mul (by omega) ?_;have:(2 ^ 60:Int)*1≤2 ^ 60*n:=Xs a (by omega);omega
theorem Ru{y n:Int}(c:1≤n∧n≤2 ^ 40)(g: -2 ^ 60≤y∧y≤2 ^ 60):PQ y n=K9 y n∧PT y n=K9 y n:=by
 obtain⟨a,e⟩:=PF (y:=y) c.1;have k:=Int.mul_ediv_add_emod y n;have m:=PH c.1 g;have w: ∀{z:Int},-9223372036854775808≤z∧z≤9223372036854775807→cP z=z:=fun h=>al (by omega);have l:=Int.tmod_lt_of_pos y (show(0:Int)<n by omega);have f:=Int.lt_tmod_of_pos y (show(0:Int)<n by omega);have p: -2 ^ 61≤Int.tdiv y n∧Int.tdiv y n≤2 ^ 61:=by
  split at a<;>omega
 have d:DF y n=y / n:=by
  unfold DF;rw[←a];split
  ·rw[w (z:=Int.tdiv y n) (by omega),w (by omega)]
  ·rw[w (by omega)]
 have j:FS y n=y % n:=by
  unfold FS;rw[d];have:y / n*n=y-y % n:=by rw[XQ];omega
  rw[this,w (z:=y-y % n) (by omega),w (by omega)];omega
 have i:ni y n=(y / n,y % n):=by
  unfold ni;rw[←a,←e];split
  ·rw[w (z:=Int.tdiv y n) (by omega),w (z:=Int.tdiv y n-1) (by omega),w (z:=Int.tmod y n+n) (by omega)]
  ·rw[w (z:=Int.tdiv y n) (by omega)]
 rw[Th c.1];have b: ¬n<1:=by omega
 unfold PQ PT;simp only[i,d,j,if_neg b];rw[w (z:=n-y % n) (by omega),w (z:=y / n+1) (by omega)];exact⟨rfl,rfl⟩
theorem SF: ∀n:Nat,n≤30→zC .i64 1 (min n 64)=2 ^ n∧NL n=2 ^ n∧(1:Int)≤2 ^ n∧(2:Int) ^ n≤2 ^ 40:=by
 have: ∀n∈List.range 31,zC .i64 1 (min n 64)=2 ^ n∧NL n=2 ^ n∧(1:Int)≤2 ^ n∧(2:Int) ^ n≤2 ^ 40:=by decide+kernel
 exact fun n a=>this n (Wq.2 (by omega))
theorem Ti{a b:Int}(h: -2 ^ 62≤a*b∧a*b≤2 ^ 62)(g: -2 ^ 40≤a∧a≤2 ^ 40)(i: -2 ^ 40≤b∧b≤2 ^ 40):pW a b=(a*b,true):=by
 unfold pW;by_cases c:a=0
 ·rw[if_pos c,c,Int.zero_mul]
 by_cases d:b=0
 ·rw[if_neg c,if_pos d,d,Int.mul_zero]
 rw[if_neg c,if_neg d,if_neg (by omega)];have e:cP (a*b)=a*b:=al (by omega);have f:Int.tdiv (a*b) b=a:=Int.mul_tdiv_cancel _ d;rw[e,f,show cP a=a from al (by omega),if_neg (by simp)]
abbrev mt(x:Int):Prop:= -2147483648≤x∧x≤2147483647
theorem pU{x m s:Int}(f:mt x)(c:0≤m∧m≤32767)(d:0≤s∧s≤30):dK x m s=dO (K9 (x*m) (2 ^ s.toNat))∧jc x m s=dO (K9 (x*m) (2 ^ s.toNat)):=by
 obtain⟨j,k,l,p⟩:=SF s.toNat (by omega);have A: -2 ^ 47≤x*m∧x*m≤2 ^ 47:=by
  have v:x*m≤2147483647*m:=Xq f.2 c.1;have z: -2147483648*m≤x*m:=Xq f.1 c.1;omega
 have e:=Ti (a:=x) (b:=m) (by omega) (by omega) (by omega);obtain⟨g,i⟩:=Ru (y:=x*m) ⟨l,p⟩ (by omega);have q: ¬(m<0∨m>32767∨s<0∨s>30):=by omega
 have t: ¬s<0:=by omega
 have u: ¬s>62:=by omega
 unfold dK jc IY IZ;simp only[e,if_pos (show 0≤m∧m≤32767∧0≤s∧s≤30 from⟨c.1,c.2,d.1,d.2⟩),if_neg q,if_neg t,if_neg u,if_true,j,k,g,i];exact⟨trivial,trivial⟩
theorem oC{x y lo hi:Int}(h:lo≤hi)(a:x≤y):dT x lo hi≤dT y lo hi:=by
 unfold dT;split<;>split<;>(try split)<;>(try split)<;>omega
theorem rr{x y:Int}(h:x≤y):dO x≤dO y:=oC (by decide) h
theorem AL{x y m s:Int}(c:mt x)(d:mt y)(a:0≤m∧m≤32767)(b:0≤s∧s≤30)(h:x≤y):dK x m s≤dK y m s:=by
 rw[(pU c a b).1,(pU d a b).1];exact rr (PG (SF s.toNat (by omega)).2.2.1 (Xq h a.1))
theorem T7: ∀p:Int,0≤p→p≤3→(cF .i64 p 1≠0↔cF .i64 p 1=1)∧(cF .i64 p 2≠0↔cF .i64 p 2=2):=by
 intro p h0 a;have:p=0∨p=1∨p=2∨p=3:=by omega
 rcases this with rfl|rfl|rfl|rfl<;>decide+kernel
section
variable {n:Nd} {ws:List Int}
theorem uA(h:n.chk ws=0):(0≤n.mult∧n.mult≤32767)∧(0≤n.shift∧n.shift≤30)∧mt n.low∧mt n.high∧n.low≤n.high:=by
 obtain⟨a,b,c,d,e⟩:=(fD h).2.2.2.2.2.2.2.2.2.1.2.2.2.2;exact⟨a,b,c,d,e⟩
theorem FM(h:n.chk ws=0)(x:Int):uD n x=AM n x:=by
 obtain⟨c,d,_⟩:=uA h;obtain⟨f,g⟩:=(fD h).2.2.2.2.1;obtain⟨a,b⟩:=T7 n.post f g;have e:=pU (iJ x) c d;unfold uD AM;simp only[a,b,e.1,e.2]
theorem NE(h:n.chk ws=0){x y:Int}(b:x≤y):uD n x≤uD n y:=by
 obtain⟨d,f,_,_,a⟩:=uA h;have e:=AL (iJ x) (iJ y) d f (rr b);have c:=rr b;unfold uD;split<;>split<;>first|exact oC a e|exact oC a c|exact e|exact c
theorem xg{x lo hi:Int}(c:mt x)(b:mt lo)(a:mt hi):mt (dT x lo hi):=by
 unfold dT;split
 ·exact b
 ·split
  ·exact a
  ·exact c
theorem IK(h:n.chk ws=0)(x:Int):mt (uD n x):=by
 obtain⟨d,f,b,a,c⟩:=uA h;have e:mt (if cF .i64 n.post 1≠0 then dK (dO x) n.mult n.shift else dO x):=by
  split
  ·exact rv _ _ _
  ·exact iJ _
 unfold uD;dsimp only;split
 ·exact xg e b a
 ·exact e
end
theorem zQ: ∀(xs:List Int)(a:Int),(∀x∈xs,mt x)→mt a→xs.foldl (fun n x=>dO (jJ n x)) a=xs.foldl (fun n x=>dO (n+x)) a
 |[],_,_,_=>rfl
 |x::r,a,hx,ha=>by
  have c:=hx x Wb;have e:jJ a x=a+x:=by
   unfold jJ;rw[if_neg (by rintro⟨h,k⟩;rw[show cP (9223372036854775807-x)=9223372036854775807-x from al (by omega)]at k;omega),if_neg (by rintro⟨h,k⟩;rw[show cP (-9223372036854775808-x)= -9223372036854775808-x from al (by omega)]at k;omega)];exact al (by omega)
  rw[Wg,Wg,e];exact zQ r _ (fun y b=>hx y (V0 _ b)) (iJ _)
theorem FN: ∀(l:List Rg)(a b:Int),(∀r∈l,r.lo≤r.hi)→a≤b→(l.map Rg.lo).foldl (fun n x=>dO (n+x)) a≤(l.map Rg.hi).foldl (fun n x=>dO (n+x)) b
 |[],_,_,_,h=>h
 |r::l,a,b,hl,h=>by
  have:=hl r Wb;exact FN l _ _ (fun y c=>hl y (V0 _ c)) (rr (by omega))
theorem Dw: ∀(xs:List Int)(a:Int),mt a→mt (xs.foldl (fun n x=>dO (jJ n x)) a)
 |[],_,h=>h
 |x::r,a,_=>by rw[Wg];exact Dw r _ (iJ _)
def Bd(r:Rg):Prop:=mt r.lo∧mt r.hi∧r.lo≤r.hi
theorem yh{l u:Int}(a:mt l)(b:mt u)(h:l≤u):Bd (dN l u):=⟨a,b,h⟩
theorem kw{w x:Int}(b: -1024≤w∧w≤1024)(a:mt x): -2 ^ 42≤w*x∧w*x≤2 ^ 42:=by
 have h:=X9 (show w.natAbs≤1024 by omega) (show x.natAbs≤2 ^ 31 by have:=a.1;have:=a.2;omega);rw[←Int.natAbs_mul]at h;omega
theorem PI{w l u:Int}(a: -1024≤w∧w≤1024)(b:mt l)(c:mt u)(h:l≤u):
 (if cP (w*u)<cP (w*l) then cP (w*u) else cP (w*l))=(if w<0 then cP (w*u) else cP (w*l))∧(if cP (w*u)>cP (w*l) then cP (w*u) else cP (w*l))=(if w<0 then cP (w*l) else cP (w*u)):=by
 have b1:=kw a b;have d:=kw a c;rw[show cP (w*u)=w*u from al (by omega),show cP (w*l)=w*l from al (by omega)];by_cases h0:w<0
 ·have:=XM (show w≤0 by omega) h;rw[if_pos h0,if_pos h0];constructor<;>split<;>omega
 ·have:=Xs h (show 0≤w by omega);rw[if_neg h0,if_neg h0];constructor<;>split<;>omega
abbrev T8(l u:Int)(s:Int×Int)(w:Int):Int×Int:=if w<0 then(cP (s.1+cP (w*u)),cP (s.2+cP (w*l))) else(cP (s.1+cP (w*l)),cP (s.2+cP (w*u)))
theorem Tj{l u:Int}(b:mt l)(c:mt u){w:Int}(a: -1024≤w∧w≤1024){s:Int×Int}(e: -2 ^ 60≤s.1∧s.1≤2 ^ 60)(f: -2 ^ 60≤s.2∧s.2≤2 ^ 60):T8 l u s w=if w<0 then(s.1+w*u,s.2+w*l) else(s.1+w*l,s.2+w*u):=by
 have b1:=kw a b;have d:=kw a c;unfold T8
 rw[show cP (w*u)=w*u from al (by omega),show cP (w*l)=w*l from al (by omega),show cP (s.1+w*u)=s.1+w*u from al (by omega),show cP (s.1+w*l)=s.1+w*l from al (by omega),
  show cP (s.2+w*u)=s.2+w*u from al (by omega),show cP (s.2+w*l)=s.2+w*l from al (by omega)]
theorem La{l u:Int}(c:mt l)(d:mt u)(h:l≤u)(ws:List Int): ∀(s:Int×Int)(k:Nat),(∀w∈ws,-1024≤w∧w≤1024)→s.1≤s.2→ -((k:Int)*2 ^ 42)≤s.1→s.2≤(k:Int)*2 ^ 42→k+ws.length≤2 ^ 16→(ws.foldl (T8 l u) s).1≤(ws.foldl (T8 l u) s).2:=by
 induction ws with
 |nil=>intro s k _ b _ _ _;exact b
 |cons w r j=>
  intro s k e b p q g;have a:=e w Wb;have b1:=kw a c;have m:=kw a d;rw[VS]at g;rw[Wg,Tj c d a (by omega) (by omega)];have f:=fun s=>j s (k+1) (fun y i=>e y (V0 _ i));by_cases h0:w<0
  ·have:=XM (show w≤0 by omega) h;rw[if_pos h0];exact f _ (by dsimp only;omega) (by dsimp only;omega) (by dsimp only;omega) (by omega)
  ·have:=Xs h (show 0≤w by omega);rw[if_neg h0];exact f _ (by dsimp only;omega) (by dsimp only;omega) (by dsimp only;omega) (by omega)
section
variable {n:Nd} {ws:List Int}
theorem Hd(h:n.chk ws=0)(f:gq n.kind):(∀w∈n.weights,-1024≤w∧w≤1024)∧n.weights.length≤2048∧(∀b∈n.bias,-2 ^ 24≤b∧b≤2 ^ 24)∧1≤n.bias.length:=by
 obtain⟨s,E,F,_,_,_,G,_,_,i,_⟩:=fD h;obtain⟨x,I,y,z,_⟩:=i;obtain⟨e,l,t,u⟩:=z f;have q:1≤ws.getD 0 0∧ws.getD 0 0≤16:=s _ (by rw[cA (by omega)];exact VN _);have p:n.kind≠6→1≤n.size∧n.size≤8:=fun v=>x (by rcases f with h|h|h;exact .inl (.inl h);exact .inl (.inr (.inl h));exact absurd h v);have j:n.kind≠2→1≤n.width∧n.width≤16:=fun c=>y (by rcases f with h|h|h;exact .inl h;exact absurd h c;exact .inr h);have g: ∀{a b:Int}{A B:Nat},0≤a∧a≤A→0≤b∧b≤B→0≤a*b∧a*b≤(A*B:Nat):=fun{a b A B} m d=>⟨WA m.1 d.1,by push_cast;exact Wo m.2 d.2 d.1 (by omega)⟩;refine⟨fun w q=>by have:=t w q;omega,?_,fun b d=>by have:=u b d;omega,?_⟩
 ·unfold Nd.wcount at e;rcases f with h|h|h
  ·have C:=j (by omega);have D:=p (by omega);rw[if_pos h]at e;have k:=g (a:=n.width) (b:=n.size) (A:=16) (B:=8) (by omega) (by omega);have H:=g (a:=n.width*n.size) (b:=ws.getD 0 0) (A:=16*8) (B:=16) k (by omega);omega
  ·have D:=p (by omega);rw[if_neg (by omega),if_pos h]at e;have k:=g (a:=ws.getD 0 0) (b:=n.size) (A:=16) (B:=8) (by omega) (by omega);omega
  ·have C:=j (by omega);rw[if_neg (by omega),if_neg (by omega)]at e;have k:=g (a:=n.width) (b:=ws.getD 0 0) (A:=16) (B:=16) (by omega) (by omega);omega
 ·by_cases c:n.kind=2
  ·rw[if_pos c]at l;omega
  ·have:=j c;rw[if_neg c]at l;omega
theorem NF(h:n.chk ws=0)(f:gq n.kind){l u:Int}(g:mt l)(i:mt u)(a:l≤u){c:Nat}(e:c<n.bias.length):(n.ends l u c).1≤(n.ends l u c).2:=by
 obtain⟨b,k,d,_⟩:=Hd h f;have m:=d (n.bias.getD c 0) (by rw[cA e];exact VN _);refine La g i a _ (n.bias.getD c 0,n.bias.getD c 0) 1 (fun w j=>b w (List.mem_of_mem_drop (W9 j))) (Xx _) (by dsimp only;omega) (by dsimp only;omega) ?_;rw[VV,Wh];omega
theorem Dx(h:n.chk ws=0)(b:gq n.kind){l u:Int}(c:mt l)(d:mt u)(a:l≤u): ∀k,k≤n.bias.length→(ez n l u k).1≤(ez n l u k).2
 |0,_=>NF h b c d a (Hd h b).2.2.2
 |k+1,f=>by
  have e:=Dx h b c d a k (by omega);unfold ez at e ⊢;rw[XE,V7];simp only[Wg,List.foldl_nil];generalize List.foldl _ _ (List.range k)=s at e ⊢;split<;>split<;>omega
theorem Lb(h:n.chk ws=0)(b:gq n.kind){l u:Int}(c:mt l)(d:mt u)(a:l≤u):Bd (dS n l u):=
 ⟨IK h _,IK h _,NE h (Dx h b c d a _ (VX _))⟩
end
theorem Mg: ∀(rs:List Rg)(b:Int),(∀r∈rs,mt r.lo)→mt b→mt (j6 b rs)∧j6 b rs≤b
 |[],b,_,h=>⟨h,Xx _⟩
 |r::l,b,hr,h=>by
  have c:=hr r Wb;have a:=Mg l (if r.lo<b then r.lo else b) (fun y d=>hr y (V0 _ d)) (by split;exact c;exact h);unfold j6 at a ⊢;rw[Wg];refine⟨a.1,X5 a.2 ?_⟩;split<;>omega
theorem IL: ∀(rs:List Rg)(b:Int),(∀r∈rs,mt r.hi)→mt b→mt (gd b rs)∧b≤gd b rs
 |[],b,_,h=>⟨h,Xx _⟩
 |r::l,b,hr,h=>by
  have c:=hr r Wb;have a:=IL l (if r.hi>b then r.hi else b) (fun y d=>hr y (V0 _ d)) (by split;exact c;exact h);unfold gd at a ⊢;rw[Wg];refine⟨a.1,X5 ?_ a.2⟩;split<;>omega
theorem Mi{rs:List Rg}(j:1≤rs.length)(e: ∀r∈rs,Bd r)(z:Prop) [Decidable z]:
 mt (if z then(if 0<j6 (rs.getD 0 .zero).lo rs then 0 else j6 (rs.getD 0 .zero).lo rs) else j6 (rs.getD 0 .zero).lo rs)∧mt (if z then(if 0>gd (rs.getD 0 .zero).hi rs then 0 else gd (rs.getD 0 .zero).hi rs) else gd (rs.getD 0 .zero).hi rs)∧
 (if z then(if 0<j6 (rs.getD 0 .zero).lo rs then 0 else j6 (rs.getD 0 .zero).lo rs) else j6 (rs.getD 0 .zero).lo rs)≤(if z then(if 0>gd (rs.getD 0 .zero).hi rs then 0 else gd (rs.getD 0 .zero).hi rs) else gd (rs.getD 0 .zero).hi rs):=by
 have h0:Bd (rs.getD 0 .zero):=by
  rw[VT,bo (show 0<rs.length by omega)];exact e _ (VN _)
 have a:=Mg rs _ (fun r f=>(e r f).1) h0.1;have b:=IL rs _ (fun r f=>(e r f).2.1) h0.2.1;have c:=h0.2.2;generalize j6 (rs.getD 0 .zero).lo rs=x at a;generalize gd (rs.getD 0 .zero).hi rs=y at b;have g:=a.1;have i:=b.1;have d:mt 0:=by decide
 split
 ·split<;>split<;>first|exact⟨d,d,by omega⟩|exact⟨d,i,by omega⟩|exact⟨g,d,by omega⟩|exact⟨g,i,by omega⟩
 ·exact⟨g,i,by omega⟩
theorem Rv{n:Nd}{ws:List Int}{w:Int}{rs:List Rg}(h:n.chk ws=0)(m:1≤rs.length)(e: ∀r∈rs,Bd r)(s:1≤w∧w≤16):Bd (i3 n w rs):=by
 obtain⟨p,q,j,i,g⟩:=uA h;obtain⟨b,c,a⟩:=Mi m e (cP ((gc n).1+(gc n).2)>0);unfold i3;dsimp only;generalize (if cP ((gc n).1+(gc n).2)>0 then(if 0<j6 (rs.getD 0 .zero).lo rs then 0 else j6 (rs.getD 0 .zero).lo rs) else j6 (rs.getD 0 .zero).lo rs)=l at b a ⊢;generalize (if cP ((gc n).1+(gc n).2)>0 then(if 0>gd (rs.getD 0 .zero).hi rs then 0 else gd (rs.getD 0 .zero).hi rs) else gd (rs.getD 0 .zero).hi rs)=u at c a ⊢;split
 ·rename_i k;exact Lb h k b c a
 split
 ·exact⟨b,c,a⟩
 split
 ·refine⟨Dw _ _ (by decide),Dw _ _ (by decide),?_⟩;show nj _≤nj _;unfold nj;rw[zQ _ _ (fun x f=>by obtain⟨r,d,rfl⟩:=VZ.1 f;exact(e r d).1) (by decide),zQ _ _ (fun x f=>by obtain⟨r,d,rfl⟩:=VZ.1 f;exact(e r d).2.1) (by decide)];exact FN rs 0 0 (fun r d=>(e r d).2.2) (Xx _)
 split
 ·exact yh (xg b j i) (xg c j i) (oC g a)
 split
 ·exact yh (rv _ _ _) (rv _ _ _) (AL b c p q a)
 split
 ·rw[show cP (w-1)=w-1 from al (by omega)];exact yh (by decide) ⟨by omega,by omega⟩ (by omega)
 ·exact yh b c a
theorem Mj: ∀(xs:List Int)(a b:Int),(∀x∈xs,mt x)→ -2 ^ 50≤a-xs.length∧a+xs.length≤2 ^ 50→0≤b∧b+xs.length*2 ^ 32≤2 ^ 60→
 xs.foldl (fun s x=>(cP (s.1+fV x 32),cP (s.2+cF .i64 x 4294967295))) (a,b)=(a+(xs.map (· / 2 ^ 32)).sum,b+(xs.map (· % 2 ^ 32)).sum)
 |[],a,b,_,_,_=>by simp
 |x::r,a,b,hx,ha,hb=>by
  have e:=hx x Wb;have c:fV x 32=x / 2 ^ 32:=vc x 32;have d:cF .i64 x 4294967295=x % 2 ^ 32:=yf x 4294967295 32 (by decide) (by decide);simp only[VS]at ha hb;rw[Wg,Wc,Wc,WX,WX];rw[c,d,show cP (a+x / 2 ^ 32)=a+x / 2 ^ 32 from al (by omega),show cP (b+x % 2 ^ 32)=b+x % 2 ^ 32 from al (by omega)];rw[Mj r _ _ (fun y f=>hx y (V0 _ f)) (by omega) (by omega)];simp only[Prod.mk.injEq];omega
theorem FO: ∀xs:List Int,2 ^ 32*(xs.map (· / 2 ^ 32)).sum+(xs.map (· % 2 ^ 32)).sum=xs.sum∧0≤(xs.map (· % 2 ^ 32)).sum
 |[]=>⟨rfl,Xx _⟩
 |x::r=>by
  have a:=FO r;simp only[Wc,WX];omega
theorem FP: ∀xs:List Int,(∀x∈xs,mt x)→ -(2 ^ 31*(xs.length:Int))≤xs.sum∧xs.sum≤2 ^ 31*xs.length
 |[],_=>by simp
 |x::r,h=>by
  have b:=FP r fun y a=>h y (V0 _ a);have h0:=h x Wb;simp only[WX,VS];have:=h0.1;have:=h0.2;omega
theorem IM(f:Rg→Int): ∀(rs:List Rg)(a:Int),(∀r∈rs,mt (f r))→ -2 ^ 60≤a-2 ^ 31*rs.length∧a+2 ^ 31*rs.length≤2 ^ 60→rs.foldl (fun s r=>cP (s+f r)) a=a+(rs.map f).sum
 |[],a,_,_=>by simp
 |r::l,a,h,ha=>by
  have h0:=h r Wb;simp only[VS]at ha;have:=h0.1;have:=h0.2;rw[Wg,show cP (a+f r)=a+f r from al (by omega),IM f l _ (fun y b=>h y (V0 _ b)) (by omega),Wc,WX];omega
theorem Dy(f:Rg→Int){rs:List Rg}(p:rs.length≤2 ^ 16)(h: ∀r∈rs,mt (f r)):(DG (rs.map f)).1=kg f rs:=by
 have c: ∀x∈rs.map f,mt x:=fun x c=>by obtain⟨r,l,rfl⟩:=VZ.1 c;exact h r l
 have i:=Mj (rs.map f) 0 0 c (by rw[Ug];omega) (by rw[Ug];omega);have d:=FO (rs.map f);have e:=FP _ c;rw[Ug]at e;have g:=IM f rs 0 h (by omega);rw[Int.zero_add]at g;unfold kg;rw[g];unfold DG yk;rw[i];simp only[Int.zero_add];generalize ((rs.map f).map (· / 2 ^ 32)).sum=a at d;generalize ((rs.map f).map (· % 2 ^ 32)).sum=b at d;generalize (rs.map f).sum=s at d e;have k:fV b 32=b / 2 ^ 32:=vc b 32;have j:cF .i64 b 4294967295=b % 2 ^ 32:=yf b 4294967295 32 (by decide) (by decide);rw[k,j,show cP (a+b / 2 ^ 32)=a+b / 2 ^ 32 from al (by omega),if_neg (by omega),if_neg (by omega)];show cP (zC .i64 (a+b / 2 ^ 32) 32+b % 2 ^ 32)=s;have m:zC .i64 (a+b / 2 ^ 32) 32=(a+b / 2 ^ 32)*2 ^ 32:=al (by omega);rw[m,show cP ((a+b / 2 ^ 32)*2 ^ 32+b % 2 ^ 32)=(a+b / 2 ^ 32)*2 ^ 32+b % 2 ^ 32 from al (by omega)];omega
end
section
section
variable {h:ah}
theorem PJ(x:Int):au P tU #[.int .i64 x] h fun v a=>v= .bool (decide (1≤x∧x≤64))∧a=h:=by
 refine Cw _ ?_;refine aq (fun b=>⟨?_,rfl⟩) (fun b=>⟨?_,rfl⟩)
 ·congr 1;rw[decide_eq_decide];exact⟨fun h=>⟨by omega,h⟩,fun h=>h.2⟩
 ·congr 1;rw[decide_eq_false (by omega)]
theorem ng(x lo hi:Int):au P gk #[.int .i64 x,.int .i64 lo,.int .i64 hi] h fun v c=>v= .int .i64 (dT x lo hi)∧c=h:=by
 refine yZ _ _ _ ?_;unfold Av dT;refine aq (fun a=>⟨by rw[if_pos a],rfl⟩) (fun a=>aq (fun b=>⟨by rw[if_neg a,if_pos b],rfl⟩) (fun b=>⟨by rw[if_neg a,if_neg b],rfl⟩))
theorem PK:au P tV #[.int .i64 32] h fun v b=>v= .int .i64 (-2147483648)∧b=h:=by
 refine Cx _ ?_;refine aO (fun a s g=>g=h∧ ∃i:Nat,s=((32:Int),-(2:Int) ^ i,(i:Int)+1,())∧i≤31∧a=31-i) 31 ⟨rfl,0,rfl,by omega,rfl⟩ ?_;rintro a s g ⟨rfl,i,rfl,hi,rfl⟩;dsimp only;have j:(1:Int)≤2 ^ i∧(2:Int) ^ i≤2 ^ 31:=by
  have c:=WG (show 0<2 by decide) hi;have d:=WG (show 0<2 by decide) (WV i);constructor
  ·exact_mod_cast d
  ·exact_mod_cast c
 refine aq (fun f=> ?_) (fun e=> ?_)
 ·rw[al (n:= -(2:Int) ^ i*2) (by omega),al (by omega)];refine⟨31-(i+1),by omega,by trivial,i+1,?_,by omega,rfl⟩;have: -(2:Int) ^ i*2= -(2:Int) ^ (i+1):=by rw[Xt];omega
  rw[this];rfl
 ·have:i=31:=by omega
  subst this;exact⟨rfl,rfl⟩
theorem Dz(x:Int):au P jH #[.int .i64 x,.int .i64 32] h fun v a=>v= .int .i64 (dO x)∧a=h:=by
 refine Cy _ _ ?_;unfold Fu;refine(PJ 32).mono ?_;rintro _ _ ⟨rfl,rfl⟩;refine⟨_,rfl,bG (by decide) ?_⟩;refine PK.mono ?_;rintro _ _ ⟨rfl,rfl⟩;refine⟨_,rfl,?_⟩;have e:kn .i64 ((-1:Int)-(-2147483648))=2147483647:=by rw[al (by omega)];rfl
 dsimp only;rw[e];refine(ng _ _ _).mono ?_;rintro _ _ ⟨rfl,rfl⟩;exact⟨_,rfl,rfl,rfl⟩
theorem Mk(x:Int){n:Int}(b:n≠0):au P lQ #[.int .i64 x,.int .i64 n] h fun v c=>v= .int .i64 (DF x n)∧c=h:=by
 refine Bn _ _ ?_;unfold CB DF;refine⟨b,b,aq (fun a=>⟨by rw[if_pos a],rfl⟩) (fun a=>⟨by rw[if_neg a],rfl⟩)⟩
theorem Rw(x:Int){n:Int}(b:n≠0):au P qH #[.int .i64 x,.int .i64 n] h fun v a=>v= .int .i64 (FS x n)∧a=h:=by
 refine Bo _ _ ?_;unfold CC FS;refine(Mk x b).mono ?_;rintro _ _ ⟨rfl,rfl⟩;exact⟨_,rfl,rfl,rfl⟩
theorem PL(x n:Int):au P tX #[.int .i64 x,.int .i64 n] h fun v c=>v= .int .i64 (PT x n)∧c=h:=by
 refine CD _ _ ?_;unfold Fv PT;refine aq (fun a=>⟨by rw[if_pos a],rfl⟩) (fun a=> ?_);rw[if_neg a];refine(Mk x (by omega)).mono ?_;rintro _ _ ⟨rfl,rfl⟩;refine⟨_,rfl,?_⟩;refine(Rw x (by omega)).mono ?_;rintro _ _ ⟨rfl,rfl⟩;refine⟨_,rfl,aq (fun b=>⟨by rw[if_pos b],rfl⟩) (fun b=>⟨by rw[if_neg b],rfl⟩)⟩
theorem PM{n:Nat}(e:n≤62):au P oU #[.int .i64 (n:Int)] h fun v b=>v= .int .i64 (NL n)∧b=h:=by
 refine za _ ?_;refine aO (fun a s g=>g=h∧ ∃i:Nat,s=((n:Int),NL i,(i:Int),())∧i≤n∧a=n-i) n ⟨rfl,0,rfl,by omega,rfl⟩ ?_;rintro a s g ⟨rfl,i,rfl,hi,rfl⟩;dsimp only;refine aq (fun d=> ?_) (fun c=> ?_)
 ·rw[al (n:=(i:Int)+1) (by omega)];exact⟨n-(i+1),by omega,by trivial,i+1,rfl,by omega,rfl⟩
 ·have:i=n:=by omega
  subst this;exact⟨rfl,rfl⟩
theorem NG(x s:Int):au P lS #[.int .i64 x,.int .i64 s] h fun v c=>v= .int .i64 (IZ x s)∧c=h:=by
 refine Bp _ _ ?_;unfold CE IZ;refine aq (fun a=>⟨by rw[if_pos a],rfl⟩) (fun a=>aq (fun b=>⟨by rw[if_neg a,if_pos b],rfl⟩) (fun b=> ?_));rw[if_neg a,if_neg b];obtain⟨n,rfl⟩: ∃n:Nat,s=(n:Int):=⟨s.toNat,by omega⟩;refine(PM (by omega)).mono ?_;rintro _ _ ⟨rfl,rfl⟩;refine⟨_,rfl,?_⟩;refine(PL _ _).mono ?_;rintro _ _ ⟨rfl,rfl⟩;exact⟨_,rfl,rfl,rfl⟩
theorem PN(a b:Int):au P tW #[.int .i64 a,.int .i64 b] h fun v u=>v= .agg #[.int .i64 (pW a b).1,.bool (pW a b).2]∧cd no h u:=by
 refine Cz _ _ ?_;have S:=aG.start h no;refine aA (cs:=[.int .i64 0,.bool false]) S fun b1 f _ S=> ?_;have put: ∀{g:ah}{cs:List Value}{m:Int}{ok:Bool}{k:Int×Bool},cs.length=2→k=(m,ok)→aG h no g [aJ b1 cs] []→aQ g ⟨b1,0,none⟩ (.int .i64 m) fun i=>aQ i ⟨b1,1,none⟩ (.bool ok) fun d=>af .i64 d ⟨b1,0,none⟩ fun B=>dH d ⟨b1,1,none⟩ fun t=>
  Value.agg #[.int .i64 B,.bool t]= .agg #[.int .i64 k.1,.bool k.2]∧cd no h d:=by
  intro g cs m ok k A z S;obtain⟨x,y,rfl⟩: ∃x y,cs=[x,y]:=by
   match cs,A with
   |[x,y],_=>exact⟨x,y,rfl⟩
  refine ck S 0 fun _ _ S=> ?_;refine ck S 0 fun _ _ S=> ?_;refine ae (n:=m) (S.c 0) (fY (n:=ok) (S.c 0) ⟨by rw[z],S.fra⟩)
 refine aH (fun j=>put rfl (by unfold pW;rw[if_pos j]) S) (fun j=> ?_);refine aH (fun l=>put rfl (by unfold pW;rw[if_neg j,if_pos l]) S) (fun l=> ?_);have e:pW a b=if(a= -1∧b= -9223372036854775808)∨(b= -1∧a= -9223372036854775808) then(0,false) else if cP (Int.tdiv (cP (a*b)) b)≠a then(0,false) else(cP (a*b),true):=by
  unfold pW;rw[if_neg j,if_neg l]
 refine⟨fun s g=>s=(a,b,⟨b1,0,none⟩,())∧ ¬((a= -1∧b= -9223372036854775808)∨(b= -1∧a= -9223372036854775808))∧aG h no g [aJ b1 [.int .i64 0,.bool false]] [],?_,?_⟩
 ·clear S;rintro s g ⟨rfl,q,S⟩;refine⟨l,bh (fun f=>put rfl (by rw[e,if_neg q,if_pos f]) S) (fun f=>put rfl (by rw[e,if_neg q,if_neg (fun h=>h f)]) S)⟩
 ·refine aH (fun f=>aH (fun p=>put rfl (by rw[e,if_pos (.inl ⟨f,p⟩)]) S) (fun p=>aH (fun i=>aH (fun d=>put rfl (by rw[e,if_pos (.inr ⟨i,d⟩)]) S) (fun d=>⟨rfl,by omega,S⟩)) (fun i=>⟨rfl,by omega,S⟩)))
   (fun f=>aH (fun i=>aH (fun d=>put rfl (by rw[e,if_pos (.inr ⟨i,d⟩)]) S) (fun d=>⟨rfl,by omega,S⟩)) (fun i=>⟨rfl,by omega,S⟩))
theorem xh(x m s:Int):au P ji #[.int .i64 x,.int .i64 m,.int .i64 s] h fun v l=>v= .int .i64 (jc x m s)∧cd no h l:=by
 refine zb _ _ _ ?_;have zero:(m<0∨m>32767∨s<0∨s>30)→Value.int .i64 0= .int .i64 (jc x m s)∧cd no h h:=fun d=>⟨by unfold jc;rw[if_pos d],cd.refl _ _⟩;refine⟨fun t g=>t=(x,m,s,())∧ ¬(m<0∨m>32767∨s<0∨s>30)∧g=h,?_,?_⟩
 ·rintro t g ⟨rfl,d,rfl⟩;have S:=aG.start g no;refine(PN x m).mono ?_;rintro _ q ⟨rfl,F⟩;replace S:=S.fra0 F;refine⟨_,_,rfl,?_⟩;obtain⟨k,e⟩: ∃k,pW x m=k:=⟨_,rfl⟩;have es:jc x m s=if k.2=true then dO (IZ k.1 s) else if x<0 then-2147483648 else 2147483647:=by unfold jc;rw[if_neg d,e]
  rw[e,es];refine aA (cs:=[.int .i64 0,.bool false]) S fun p _ _ S=> ?_;refine ck S 0 fun _ _ S=> ?_;refine ck S 0 fun u _ S=> ?_;refine fY (n:=k.2) (S.c 0) (bJ (cX (fun b=> ?_) (fun b=> ?_)))
  ·refine fY (n:=k.2) (S.c 0) (bJ (cC b ?_));refine ae (n:=k.1) (S.c 0) ?_;refine(NG _ _).mono ?_;rintro _ _ ⟨rfl,rfl⟩;refine⟨_,rfl,?_⟩;refine(Dz _).mono ?_;rintro _ _ ⟨rfl,rfl⟩;exact⟨_,rfl,by rw[if_pos b],S.fra⟩
  ·refine aq (fun a=>⟨by rw[if_neg (by rw[b];simp),if_pos a],S.fra⟩) (fun a=> ?_);refine fY (n:=k.2) (S.c 0) (bJ (bG b ?_));exact⟨by rw[if_neg (by rw[b];simp),if_neg a],S.fra⟩
 ·refine aq (fun a=>zero (.inl a)) (fun a=>aq (fun f=>zero (.inr (.inl f))) (fun f=>aq (fun i=>zero (.inr (.inr (.inl i)))) (fun i=>aq (fun j=>zero (.inr (.inr (.inr j)))) (fun j=>⟨rfl,by omega,rfl⟩))))
theorem NH(a b:Int):au P qI #[.int .i64 a,.int .i64 b] h fun v g=>v= .int .i64 (jJ a b)∧g=h:=by
 refine Br _ _ ?_;unfold CG jJ;refine aq (fun d=>aq (fun e=>⟨by rw[if_pos ⟨d,e⟩],rfl⟩) (fun e=> ?_)) (fun d=> ?_)
 ·rw[if_neg (fun h=>e h.2),if_neg (fun h=>by have:=h.1;omega)];exact aq (fun c=>by omega) (fun _=>⟨rfl,rfl⟩)
 ·rw[if_neg (fun h=>d h.1)];refine aq (fun c=>aq (fun f=>⟨by rw[if_pos ⟨c,f⟩],rfl⟩) (fun f=>⟨by rw[if_neg (fun h=>f h.2)],rfl⟩)) (fun c=>⟨by rw[if_neg (fun h=>c h.1)],rfl⟩)
theorem IP{p:Option Addr}{l c:Nat}{xs:List Int}(d:bD h p (az xs))(m:xs.length=l)(k:l<2 ^ 40):au P nX #[.int .i64 32,.slice p l c] h fun v f=>v= .int .i64 (nj xs)∧f=h:=by
 refine CH _ _ _ _ ?_;refine aO (fun e s g=>g=h∧ ∃t:Nat,s=((32:Int),(p,l,c),nj (xs.take t),(t:Int),())∧t≤l∧e=l-t) l ⟨rfl,0,rfl,by omega,rfl⟩ ?_;rintro e s g ⟨rfl,t,rfl,q,rfl⟩;dsimp only;refine aq (fun j=> ?_) (fun i=> ?_)
 ·have b:t<xs.length:=by omega
  obtain⟨a,ea⟩:=d.some_of (by rw[av];omega);subst ea;refine aC rfl rfl (by omega) ?_;simp only[hC,VO];refine ae (d.cell (aF (bo b))) ?_;refine(NH _ _).mono ?_;rintro _ _ ⟨rfl,rfl⟩;refine⟨_,rfl,?_⟩;refine(Dz _).mono ?_;rintro _ _ ⟨rfl,rfl⟩;refine⟨_,rfl,?_⟩;rw[al (n:=(t:Int)+1) (by omega)];refine⟨l-(t+1),by omega,by trivial,t+1,?_,by omega,rfl⟩;rw[gD b];unfold nj;rw[V7];rfl
 ·rw[py (by omega)];exact⟨rfl,rfl⟩
theorem IQ{p:Option Addr}{l c:Nat}{xs:List Int}(C:bD h p (az xs))(F:xs.length=l)(E:l<2 ^ 40):au P nY #[.slice p l c] h fun v x=>v= .agg #[.int .i64 (DG xs).1,.bool (DG xs).2]∧cd no h x:=by
 refine CI _ _ _ ?_;have S:=(aG.start h no).read (row p (az xs)) C;refine aA (cs:=[.int .i64 0,.bool false]) S fun b1 d _ S=> ?_;refine aO (fun q s g=> ∃t:Nat,s=((p,l,c),⟨b1,0,none⟩,(yk (xs.take t)).1,(yk (xs.take t)).2,(t:Int),())∧t≤l∧q=l-t∧aG h no g [aJ b1 [.int .i64 0,.bool false]] [row p (az xs)]) l ⟨0,rfl,by omega,rfl,S⟩ ?_;rintro q s g ⟨t,rfl,G,rfl,S⟩;simp only[aR,SN];refine aq (fun B=> ?_) (fun z=> ?_)
 ·have b:t<xs.length:=by omega
  have f:=S.ro 0;obtain⟨a,ea⟩:=f.some_of (by rw[av];omega);rw[ea]at f;refine aC ea rfl (by omega) ?_;simp only[hC,VO];refine ae (f.cell (aF (bo b))) (aC ea rfl (by omega) (ae (f.cell (aF (bo b))) ?_));rw[al (n:=(t:Int)+1) (by omega)];have e:yk (xs.take (t+1))=(cP ((yk (xs.take t)).1+fV xs[t] 32),cP ((yk (xs.take t)).2+cF .i64 xs[t] 4294967295)):=by
   rw[gD b];unfold yk;rw[V7];rfl
  exact⟨l-(t+1),by omega,t+1,by rw[e];rfl,by omega,rfl,S⟩
 ·rw[py (by omega)];have put: ∀{g:ah}{m:Int}{ok:Bool}{k:Int×Bool},k=(m,ok)→aG h no g [aJ b1 [.int .i64 0,.bool false]] [row p (az xs)]→aQ g ⟨b1,0,none⟩ (.int .i64 m) fun y=>aQ y ⟨b1,1,none⟩ (.bool ok) fun j=>af .i64 j ⟨b1,0,none⟩ fun D=>dH j ⟨b1,1,none⟩ fun u=>
   Value.agg #[.int .i64 D,.bool u]= .agg #[.int .i64 k.1,.bool k.2]∧cd no h j:=by
   intro g m ok k A S;refine ck S 0 fun _ _ S=> ?_;refine ck S 0 fun _ _ S=> ?_;refine ae (n:=m) (S.c 0) (fY (n:=ok) (S.c 0) ⟨by rw[A],S.fra⟩)
  refine aq (fun d=>put (by unfold DG;rw[if_pos d]) S) (fun d=>aq (fun i=>put (by unfold DG;rw[if_neg d,if_pos i]) S) (fun i=>put (by unfold DG;rw[if_neg d,if_neg i]) S))
end
end
section
section
variable {h:ah}
theorem uB(l u:Int):au P iF #[.int .i64 l,.int .i64 u] h fun v a=>v=(dN l u).v∧cd no h a:=by
 refine Cu _ _ ?_;have S:=aG.start h no;refine aA S (fun b1 _ _ S=> ?_);exact iI S (dN l u) (K:=fun v g=>v=(dN l u).v∧cd no h g) fun a S=>⟨rfl,S.fra⟩
theorem FQ(nv:Nv)(x:Int):au P lT #[nv.v,.int .i64 x] h fun v d=>v= .int .i64 (AM nv.nd x)∧cd no h d:=by
 refine Bq _ _ ?_;have S:=aG.start h no;refine aA (cs:=nv.cells) S fun b1 b _ S=> ?_;refine(Dz x).mono ?_;rintro _ _ ⟨rfl,rfl⟩;refine⟨_,rfl,?_⟩;have e:AM nv.nd x=if cF .i64 nv.post 2=2 then dT (if cF .i64 nv.post 1=1 then jc (dO x) nv.mult nv.shift else dO x) nv.low nv.high else(if cF .i64 nv.post 1=1 then jc (dO x) nv.mult nv.shift else dO x):=rfl
 refine ae (n:=nv.post) (S.c 0) (aH (fun b=> ?_) (fun b=> ?_))
 ·rw[if_pos b]at e;refine ae (n:=nv.mult) (S.c 0) (ae (n:=nv.shift) (S.c 0) ?_);refine(xh _ _ _).mono ?_;rintro _ f ⟨rfl,F⟩;replace S:=S.fra0 F;refine⟨_,rfl,?_⟩;refine ae (n:=nv.post) (S.c 0) (aH (fun a=> ?_) (fun a=>⟨by rw[e,if_neg a],S.fra⟩));refine ae (n:=nv.low) (S.c 0) (ae (n:=nv.high) (S.c 0) ?_);refine(ng _ _ _).mono ?_;rintro _ _ ⟨rfl,rfl⟩;exact⟨_,rfl,by rw[e,if_pos a],S.fra⟩
 ·rw[if_neg b]at e;refine ae (n:=nv.post) (S.c 0) (aH (fun a=> ?_) (fun a=>⟨by rw[e,if_neg a],S.fra⟩));refine ae (n:=nv.low) (S.c 0) (ae (n:=nv.high) (S.c 0) ?_);refine(ng _ _ _).mono ?_;rintro _ _ ⟨rfl,rfl⟩;exact⟨_,rfl,by rw[e,if_pos a],S.fra⟩
def ru(n:Nd)(l u:Int)(c:Nat):Int×Int:=if c=0 then(0,0) else ez n l u c
theorem NI(n:Nd)(l u:Int)(c:Nat):ru n l u (c+1)=(if c=0∨(n.ends l u c).1<(ru n l u c).1 then(n.ends l u c).1 else(ru n l u c).1,if c=0∨(n.ends l u c).2>(ru n l u c).2 then(n.ends l u c).2 else(ru n l u c).2):=by
 unfold ru;rw[if_neg (by omega)];have e:ez n l u (c+1)=(if(n.ends l u c).1<(ez n l u c).1 then(n.ends l u c).1 else(ez n l u c).1,if(n.ends l u c).2>(ez n l u c).2 then(n.ends l u c).2 else(ez n l u c).2):=by
  unfold ez;rw[XE,V7];rfl
 rw[e];by_cases a:c=0
 ·subst a;have b:ez n l u 0=n.ends l u 0:=rfl;simp only[b,true_or,if_true,Int.lt_irrefl,gt_iff_lt,if_false]
 ·simp only[a,false_or,if_false]
theorem PO{n:Nd}{l u:Int}{c:Nat}(h:1≤c):ru n l u c=ez n l u c:=by unfold ru;rw[if_neg (by omega)]
theorem He{nv:Nv}{ws:List Int}(J:nv.ok)(hr:nv.rows.P h)(hw:nv.weights.l<2 ^ 40)(hb:nv.bias.l<2 ^ 40)(Q:nv.nd.chk ws=0)(hk:gq nv.kind){l u:Int}(hl:mt l)(hu:mt u)(U:l≤u):
 au P fI #[nv.v,.int .i64 l,.int .i64 u] h fun v Z=>v=(dS nv.nd l u).v∧cd no h Z:=by
 refine wF _ _ _ ?_;obtain⟨q1,q2,q3,q4⟩:=Hd Q hk;have lb:nv.bias.xs.length=nv.bias.l:=J.2.2.1;have lw:nv.weights.xs.length=nv.weights.l:=J.2.1.1;have X:1≤nv.bias.l:=by have:1≤nv.bias.xs.length:=q4;omega
 have hE:nv.nd.each=nv.weights.l / nv.bias.l:=by rw[←lb,←lw];rfl
 have S:=(aG.start h no).read nv.rows hr;refine aA (cs:=nv.cells) S fun b1 _ _ S=> ?_;refine aA (cs:=[.int .i64 0,.int .i64 0,.int .i64 0,.int .i64 0]) S fun b3 _ _ S=> ?_;refine ak (p:=nv.weights.p) (l:=nv.weights.l) (c:=nv.weights.c) (S.c 0) (ak (p:=nv.bias.p) (l:=nv.bias.l) (c:=nv.bias.c) (S.c 0) ⟨by omega,?_⟩);have ee:kn .i64 (Int.tdiv (nv.weights.l:Int) (nv.bias.l:Int))=(nv.nd.each:Int):=by
  have y:Int.tdiv (nv.weights.l:Int) (nv.bias.l:Int)=((nv.weights.l / nv.bias.l:Nat):Int):=by rw[Xi (by omega)];rfl
  have k:=Nat.div_le_self nv.weights.l nv.bias.l;rw[y,←hE,al (by omega)]
 rw[ee];refine aA (cs:=[.int .i64 0,.int .i64 0,.int .i64 0,.int .i64 0]) S fun j _ _ S=> ?_;refine ck S 2 fun _ _ S=> ?_;refine ck S 2 fun _ _ S=> ?_;refine ck S 2 fun _ _ S=> ?_;refine ck S 2 fun g1 _ S=> ?_
 refine aO (fun M s g=> ∃c:Nat,s=(l,u,⟨b1,0,none⟩,⟨b3,0,none⟩,(nv.nd.each:Int),⟨j,0,none⟩,(c:Int),())∧c≤nv.bias.l∧M=nv.bias.l-c∧
  aG h no g [aJ b1 nv.cells,aJ b3 [.int .i64 0,.int .i64 0,.int .i64 0,.int .i64 0],aJ j [.int .i64 0,.int .i64 0,.int .i64 (ru nv.nd l u c).1,.int .i64 (ru nv.nd l u c).2]] [nv.rows]) nv.bias.l ⟨0,rfl,by omega,rfl,S⟩ ?_
 rintro M s g ⟨c,rfl,ag,rfl,S⟩;simp only[aR,SN];refine ak (p:=nv.bias.p) (l:=nv.bias.l) (c:=nv.bias.c) (S.c 0) (aq (fun aj=> ?_) (fun ai=> ?_))
 ·have A:c<nv.bias.xs.length:=by omega
  have ad:(c+1)*nv.nd.each≤nv.weights.l:=by have:=Hg (n:=nv.nd) (c:=c) A;rw[←lw];exact this
  have O:(c+1)*nv.nd.each=c*nv.nd.each+nv.nd.each:=by rw[Wr,XK]
  have C:nv.nd.bias.getD c 0=nv.bias.xs[c]:=cA A;have z:bD g nv.bias.p (az nv.bias.xs):=S.r 0 _ rfl nv.bias.row (by simp);obtain⟨ba,q⟩:=z.some_of (by rw[av];omega);rw[q]at z;have Y:=z.cell (aF (bo A));refine ak (p:=nv.bias.p) (l:=nv.bias.l) (c:=nv.bias.c) (S.c 0) (aC q rfl (by omega) ?_);simp only[hC,VO];refine ae Y (ak (p:=nv.bias.p) (l:=nv.bias.l) (c:=nv.bias.c) (S.c 0) (aC q rfl (by omega) ?_));refine ae Y ?_;have E:kn .i64 ((c:Int)*(nv.nd.each:Int))=((c*nv.nd.each:Nat):Int):=by rw[←XD,al (by omega)]
  have N:kn .i64 (kn .i64 ((c:Int)+1)*(nv.nd.each:Int))=((c*nv.nd.each+nv.nd.each:Nat):Int):=by
   rw[al (n:=(c:Int)+1) (by omega),show((c:Int)+1)=((c+1:Nat):Int) from rfl,←XD,O,al (by omega)]
  rw[E]
  refine aO (fun M s g=> ∃i:Nat,s=(l,u,⟨b1,0,none⟩,⟨b3,0,none⟩,(nv.nd.each:Int),⟨j,0,none⟩,(c:Int),(sA ((nv.nd.weights.drop (c*nv.nd.each)).take i) (nv.nd.bias.getD c 0) l u).1,(sA ((nv.nd.weights.drop (c*nv.nd.each)).take i) (nv.nd.bias.getD c 0) l u).2,((c*nv.nd.each+i:Nat):Int),())∧i≤nv.nd.each∧M=nv.nd.each-i∧
   aG h no g [aJ b1 nv.cells,aJ b3 [.int .i64 0,.int .i64 0,.int .i64 0,.int .i64 0],aJ j [.int .i64 0,.int .i64 0,.int .i64 (ru nv.nd l u c).1,.int .i64 (ru nv.nd l u c).2]] [nv.rows]) nv.nd.each ⟨0,by rw[WK,C];rfl,by omega,rfl,S⟩ ?_
  rintro M s g ⟨i,rfl,hi,rfl,S⟩;unfold px;simp only[aR,SN];rw[N];refine aq (fun ab=> ?_) (fun aa=> ?_)
  ·have H:i<nv.nd.each:=by omega
   have L:c*nv.nd.each+i<nv.weights.xs.length:=by omega
   have B:bD g nv.weights.p (az nv.weights.xs):=S.r 0 _ rfl nv.weights.row (by simp);obtain⟨wa,G⟩:=B.some_of (by rw[av];omega);rw[G]at B;refine ak (p:=nv.weights.p) (l:=nv.weights.l) (c:=nv.weights.c) (S.c 0) (aC G rfl (by omega) ?_);simp only[hC,VO];refine ae (B.cell (aF (bo L))) ?_;have V:=q1 _ (VN L);obtain⟨m1,m2⟩:=PI V hl hu U;have I:i<(nv.nd.weights.drop (c*nv.nd.each)).length:=by rw[Wh];show i<nv.weights.xs.length-_;omega
   have step:sA ((nv.nd.weights.drop (c*nv.nd.each)).take (i+1)) (nv.nd.bias.getD c 0) l u=T8 l u (sA ((nv.nd.weights.drop (c*nv.nd.each)).take i) (nv.nd.bias.getD c 0) l u) nv.weights.xs[c*nv.nd.each+i]:=by
    unfold sA;rw[gD I,V7,List.getElem_drop];rfl
   have ek:kn .i64 (((c*nv.nd.each+i:Nat):Int)+1)=((c*nv.nd.each+(i+1):Nat):Int):=by rw[al (by omega)];omega
   refine⟨nv.nd.each-(i+1),by omega,i+1,?_,by omega,rfl,S⟩;rw[step,ek];rw[m1,m2];split<;>rfl
  ·have H:i=nv.nd.each:=by omega
   subst H;have eE:sA ((nv.nd.weights.drop (c*nv.nd.each)).take nv.nd.each) (nv.nd.bias.getD c 0) l u=nv.nd.ends l u c:=rfl;rw[eE];have ec:kn .i64 ((c:Int)+1)=((c+1:Nat):Int):=by rw[al (by omega)];rfl
   rw[ec];have e:=NI nv.nd l u c
   have f: ∀{g:ah}{a b:Int},(ru nv.nd l u (c+1)).1=a→(ru nv.nd l u (c+1)).2=b→aG h no g [aJ b1 nv.cells,aJ b3 [.int .i64 0,.int .i64 0,.int .i64 0,.int .i64 0],aJ j [.int .i64 0,.int .i64 0,.int .i64 a,.int .i64 b]] [nv.rows]→
    ∃m,m<nv.bias.l-c∧ ∃D:Nat,(l,u,(⟨b1,0,none⟩:Addr),(⟨b3,0,none⟩:Addr),(nv.nd.each:Int),(⟨j,0,none⟩:Addr),((c+1:Nat):Int),())=(l,u,⟨b1,0,none⟩,⟨b3,0,none⟩,(nv.nd.each:Int),⟨j,0,none⟩,(D:Int),())∧D≤nv.bias.l∧m=nv.bias.l-D∧
     aG h no g [aJ b1 nv.cells,aJ b3 [.int .i64 0,.int .i64 0,.int .i64 0,.int .i64 0],aJ j [.int .i64 0,.int .i64 0,.int .i64 (ru nv.nd l u D).1,.int .i64 (ru nv.nd l u D).2]] [nv.rows]:=fun E N S=>by
    subst E N;exact⟨nv.bias.l-(c+1),by omega,c+1,rfl,by omega,rfl,S⟩
   refine aH (fun d=> ?_) (fun d=> ?_)
   ·have d:c=0:=by omega
    refine ck S 2 fun _ _ S=> ?_;refine aH (fun _=> ?_) (fun h=>absurd (by omega) h);refine ck S 2 fun _ _ S=> ?_;exact f (by rw[e];dsimp only;rw[if_pos (.inl d)]) (by rw[e];dsimp only;rw[if_pos (.inl d)]) S
   ·have d: ¬c=0:=by omega
    simp only[d,false_or]at e;refine ae (n:=(ru nv.nd l u c).1) (S.c 2) (aq (fun y=> ?_) (fun y=> ?_))
    ·refine ck S 2 fun _ _ S=> ?_;refine aH (fun h=>absurd (by omega) d) (fun _=>ae (n:=(ru nv.nd l u c).2) (S.c 2) (aq (fun k=> ?_) (fun k=> ?_)))
     ·refine ck S 2 fun _ _ S=> ?_;exact f (by rw[e];dsimp only;rw[if_pos y]) (by rw[e];dsimp only;rw[if_pos k]) S
     ·exact f (by rw[e];dsimp only;rw[if_pos y]) (by rw[e];dsimp only;rw[if_neg k]) S
    ·refine aH (fun h=>absurd (by omega) d) (fun _=>ae (n:=(ru nv.nd l u c).2) (S.c 2) (aq (fun k=> ?_) (fun k=> ?_)))
     ·refine ck S 2 fun _ _ S=> ?_;exact f (by rw[e];dsimp only;rw[if_neg y]) (by rw[e];dsimp only;rw[if_pos k]) S
     ·exact f (by rw[e];dsimp only;rw[if_neg y]) (by rw[e];dsimp only;rw[if_neg k]) S
 ·have T:c=nv.bias.l:=by omega
  subst T;rw[PO X]at S;refine aL S 0 rfl (x:=nv.t) rfl (ae (n:=(ez nv.nd l u nv.bias.l).1) (S.c 2) ?_);refine(FQ nv _).mono ?_;rintro _ _ ⟨rfl,F⟩;replace S:=S.fra0 F;refine⟨_,rfl,?_⟩;refine ck S 2 fun _ _ S=> ?_;refine aL S 0 rfl (x:=nv.t) rfl (ae (n:=(ez nv.nd l u nv.bias.l).2) (S.c 2) ?_);refine(FQ nv _).mono ?_;rintro _ _ ⟨rfl,F⟩;replace S:=S.fra0 F;refine⟨_,rfl,?_⟩;refine ck S 2 fun _ _ S=> ?_;refine ae (S.c 2) (ae (S.c 2) (ae (S.c 2) (ae (S.c 2) ?_)));have eR:dS nv.nd l u=⟨AM nv.nd (ez nv.nd l u nv.bias.l).1,AM nv.nd (ez nv.nd l u nv.bias.l).2,(ez nv.nd l u nv.bias.l).1,(ez nv.nd l u nv.bias.l).2⟩:=by
   have E:nv.nd.bias.length=nv.bias.l:=lb;unfold dS;rw[E,FM Q,FM Q]
  rw[eR];exact iI (S.pw [1]:aG h no _ [aJ b3 [.int .i64 0,.int .i64 0,.int .i64 0,.int .i64 0]] _) ⟨AM nv.nd (ez nv.nd l u nv.bias.l).1,AM nv.nd (ez nv.nd l u nv.bias.l).2,(ez nv.nd l u nv.bias.l).1,(ez nv.nd l u nv.bias.l).2⟩ (K:=fun v g=>v=_∧cd no h g) fun Z S=>⟨rfl,S.fra⟩
end
end
section
section
variable {h:ah}
theorem Lc(nv:Nv):au P oT #[nv.v] h fun v b=>v= .int .i64 (if dp nv.kind then nv.right else 0)∧cd no h b:=by
 refine yY _ ?_;have S:=aG.start h no;refine aA (cs:=nv.cells) S fun b1 e _ S=> ?_;refine ae (n:=nv.kind) (S.c 0) ?_;refine(pZ nv.kind).mono ?_;rintro _ d ⟨rfl,rfl⟩;refine⟨_,rfl,aq (fun a=> ?_) (fun a=> ?_)⟩
 ·refine ae (n:=nv.right) (S.c 0) ?_;rw[if_pos a];exact⟨rfl,S.fra⟩
 ·rw[if_neg a];exact⟨rfl,S.fra⟩
theorem Ld(n:Nd):(gc n).2=if dp n.kind then n.right else 0:=by
 unfold gc;split
 ·rfl
 ·split<;>rfl
theorem IR{h0:ah}{T:Nat→Prop}{W R:List bc}{b:Nat}{r0 p q s:Value}(r:Rg)(S:aG h0 T h (aJ b [r0,p,q,s]::W) R){K:Value→ah→Prop}(H: ∀h',aG h0 T h' (aJ b r.cells::W) R→K r.v h'):
 ∃c m1 d e:Int,r.v= .agg #[.int .i64 c,.int .i64 m1,.int .i64 d,.int .i64 e]∧aQ h ⟨b,0,none⟩ (.int .i64 c) fun f=>aQ f ⟨b,1,none⟩ (.int .i64 m1) fun g=>aQ g ⟨b,2,none⟩ (.int .i64 d) fun i=>aQ i ⟨b,3,none⟩ (.int .i64 e) fun a=>
  af .i64 a ⟨b,0,none⟩ fun j=>af .i64 a ⟨b,1,none⟩ fun k=>af .i64 a ⟨b,2,none⟩ fun l=>af .i64 a ⟨b,3,none⟩ fun m=>K (.agg #[.int .i64 j,.int .i64 k,.int .i64 l,.int .i64 m]) a:=
 ⟨r.lo,r.hi,r.alo,r.ahi,rfl,iI S r H⟩
abbrev SG:List Value:=[.int .i64 0,.int .i64 0,.int .i64 0,.int .i64 0]
theorem NJ{nv:Nv}{ws:List Int}(aa:nv.ok)(M:nv.rows.P h)(hw:nv.weights.l<2 ^ 40)(hb:nv.bias.l<2 ^ 40)(Z:nv.nd.chk ws=0){p:Option Addr}{l c:Nat}{rs:List Rg}(hx:bD h p (dE rs))(hl:rs.length=l)(aj:1≤l)(an:l≤2 ^ 16)(hB: ∀r∈rs,Bd r)(w:Int):
 au P jY #[nv.v,.slice p l c,.int .i64 w] h fun v d=>v=(i3 nv.nd w rs).v∧cd no h d:=by
 refine Bs _ _ _ _ _ ?_;have S:=((aG.start h no).read (row p (dE rs)) hx).read nv.rows M;refine aA (cs:=nv.cells) S fun b1 _ _ S=> ?_;refine aA (cs:=SG) S fun b3 h4 _ S=> ?_;replace S:=(S.nil 1).nil 1;obtain⟨a,ea⟩:=(S.ro 0).some_of (by rw[fZ];omega);have rget: ∀{i:Nat},i<l→rs[i]? =some (rs.getD i .zero):=fun{i} hi=>by rw[VT,bo (by omega)];rfl
 have rc: ∀{g:ah}{W:List bc}{i:Nat},i<l→aG h no g W [row p (dE rs),nv.rows]→aB g (a.add (i*4))=some (.int .i64 (rs.getD i .zero).lo)∧aB g ((a.add (i*4)).add 1)=some (.int .i64 (rs.getD i .zero).hi):=fun{g W i} hi S=>by
  have r:=S.ro 0;rw[ea]at r;have:=vf r (rget hi);exact⟨this.1,this.2.1⟩
 refine aC ea (k:=0) rfl (by omega) (ae (rc (i:=0) (by omega) S).1 (aC ea (k:=0) rfl (by omega) (ae (rc (i:=0) (by omega) S).2 ?_)))
 refine aO (fun mm s g=> ∃(j:Nat)(lp z:Option Addr)(D b:Nat),s=((p,l,c),w,⟨b1,0,none⟩,⟨b3,0,none⟩,j6 (rs.getD 0 .zero).lo (rs.take j),gd (rs.getD 0 .zero).hi (rs.take j),(lp,j,D),(z,j,b),(j:Int),())∧j≤l∧mm=l-j∧
  aG h no g [aJ b1 nv.cells,aJ b3 SG,own 1 lp j D (az ((rs.take j).map Rg.lo)),own 1 z j b (az ((rs.take j).map Rg.hi))] [row p (dE rs),nv.rows]) l ⟨0,none,none,0,0,rfl,by omega,rfl,S⟩ ?_
 rintro mm s g ⟨j,lp,z,D,b,rfl,hj,rfl,S⟩;dsimp only;refine aq (fun ao=> ?_) (fun ai=> ?_)
 ·have y:j<l:=by omega
  have e:j<rs.length:=by omega
  have eg:rs.getD j .zero=rs[j]:=by rw[VT,bo e];rfl
  have rj: ∀{g:ah}{W:List bc},aG h no g W [row p (dE rs),nv.rows]→aB g (a.add (j*4))=some (.int .i64 rs[j].lo)∧aB g ((a.add (j*4)).add 1)=some (.int .i64 rs[j].hi):=fun S=>by have:=rc y S;rw[eg]at this;exact this
  refine aC ea rfl (by omega) (ae (rj S).1 (aC ea rfl (by omega) (ae (rj S).2 (aC ea rfl (by omega) (ae (rj S).1 ?_)))));refine aA (cs:=[.int .i64 rs[j].lo]) S fun ad _ _ S=> ?_;refine cI S 2 (ys:=az [rs[j].lo]) rfl rfl (by decide) (by omega) (bD.of_at (S.ap 4)) rfl dc fun p2 l2 c2 _ G S=> ?_;subst G;rw[kJ e Rg.lo]at S;refine aC ea rfl (by omega) (ae (rj S).2 ?_);refine aA (cs:=[.int .i64 rs[j].hi]) S fun ag _ _ S=> ?_;refine cI S 3 (ys:=az [rs[j].hi]) rfl rfl (by decide) (by omega) (bD.of_at (S.ap 5)) rfl dc fun p3 l3 c3 _ e3 S=> ?_;subst e3;rw[kJ e Rg.hi]at S;have Q:j6 (rs.getD 0 .zero).lo (rs.take (j+1))=if rs[j].lo<j6 (rs.getD 0 .zero).lo (rs.take j) then rs[j].lo else j6 (rs.getD 0 .zero).lo (rs.take j):=by
   unfold j6;rw[gD e,V7];rfl
  have G:gd (rs.getD 0 .zero).hi (rs.take (j+1))=if rs[j].hi>gd (rs.getD 0 .zero).hi (rs.take j) then rs[j].hi else gd (rs.getD 0 .zero).hi (rs.take j):=by
   unfold gd;rw[gD e,V7];rfl
  rw[←Q,←G,al (by omega)];exact⟨l-(j+1),by omega,j+1,p2,p3,c2,c3,rfl,by omega,rfl,S.pw [0,1,2,3]⟩
 have y:j=l:=by omega
 subst y;rw[py (by omega)]at S ⊢;have ab:=gZ Z;have A: -2 ^ 20≤nv.size∧nv.size≤2 ^ 20:=by have h1:0≤nv.size∧nv.size≤8:=ab.1;omega
 have u:(gc nv.nd).1=nv.nd.leftN:=Gg Z;have m:(gc nv.nd).2=if dp nv.kind then nv.right else 0:=Ld nv.nd
 obtain⟨q1,q2,q3⟩:=Mi (by omega) hB (cP ((gc nv.nd).1+(gc nv.nd).2)>0);obtain⟨L,T⟩: ∃L,(if cP ((gc nv.nd).1+(gc nv.nd).2)>0 then(if 0<j6 (rs.getD 0 .zero).lo rs then 0 else j6 (rs.getD 0 .zero).lo rs) else j6 (rs.getD 0 .zero).lo rs)=L:=⟨_,rfl⟩;obtain⟨U,X⟩: ∃U,(if cP ((gc nv.nd).1+(gc nv.nd).2)>0 then(if 0>gd (rs.getD 0 .zero).hi rs then 0 else gd (rs.getD 0 .zero).hi rs) else gd (rs.getD 0 .zero).hi rs)=U:=⟨_,rfl⟩
 have V:i3 nv.nd w rs=if gq nv.kind then dS nv.nd L U else if nv.kind=4∨nv.kind=12 then⟨L,U,cP (nv.size*L),cP (nv.size*U)⟩ else if nv.kind=7 then⟨nj (rs.map Rg.lo),nj (rs.map Rg.hi),kg Rg.lo rs,kg Rg.hi rs⟩
  else if nv.kind=9 then dN (dT L nv.low nv.high) (dT U nv.low nv.high) else if nv.kind=10 then dN (dK L nv.mult nv.shift) (dK U nv.mult nv.shift) else if nv.kind=11 then dN 0 (cP (w-1)) else dN L U:=by subst T X;rfl
 rw[T]at q1 q3;rw[X]at q2 q3;obtain⟨hm,hs,_⟩:=uA Z;refine⟨fun s g=>s=(w,⟨b1,0,none⟩,⟨b3,0,none⟩,L,U,(lp,j,D),(z,j,b),())∧aG h no g [aJ b1 nv.cells,aJ b3 SG,own 1 lp j D (az (rs.map Rg.lo)),own 1 z j b (az (rs.map Rg.hi))] [row p (dE rs),nv.rows],?_,?_⟩
 ·clear S;rintro s g ⟨rfl,S⟩;have f: ∀{g:ah},aG h no g [aJ b1 nv.cells,aJ b3 SG,own 1 lp j D (az (rs.map Rg.lo)),own 1 z j b (az (rs.map Rg.hi))] [row p (dE rs),nv.rows]→aG h no g [aJ b3 SG] [row p (dE rs),nv.rows]:=fun S=>S.pw [1];have E: ∀{g:ah},gq nv.kind→aG h no g [aJ b1 nv.cells,aJ b3 SG,own 1 lp j D (az (rs.map Rg.lo)),own 1 z j b (az (rs.map Rg.hi))] [row p (dE rs),nv.rows]→au P fI #[nv.v,.int .i64 L,.int .i64 U] g fun v g'=>v=(dS nv.nd L U).v∧cd no g g':=fun hk S=>
   He aa (S.rd 1) hw hb Z hk q1 q2 q3
  refine ae (n:=nv.kind) (S.c 0) (aH (fun k1=> ?_) (fun k1=>aH (fun k6=> ?_) (fun k6=>aH (fun k2=> ?_) (fun k2=> ?_))))
  ·rw[V,if_pos (.inl k1)];refine aL S 0 rfl (x:=nv.t) rfl ((E (.inl k1) S).mono ?_);rintro _ Y ⟨rfl,F⟩;exact IR (dS nv.nd L U) (f (S.fra0 F)) (K:=fun v g=>v=_∧cd no h g) fun d S=>⟨rfl,S.fra⟩
  ·rw[V,if_pos (.inr (.inr k6))];refine aL S 0 rfl (x:=nv.t) rfl ((E (.inr (.inr k6)) S).mono ?_);rintro _ Y ⟨rfl,F⟩;exact IR (dS nv.nd L U) (f (S.fra0 F)) (K:=fun v g=>v=_∧cd no h g) fun d S=>⟨rfl,S.fra⟩
  ·rw[V,if_pos (.inr (.inl k2))];refine aL S 0 rfl (x:=nv.t) rfl ((E (.inr (.inl k2)) S).mono ?_);rintro _ Y ⟨rfl,F⟩;exact IR (dS nv.nd L U) (f (S.fra0 F)) (K:=fun v g=>v=_∧cd no h g) fun d S=>⟨rfl,S.fra⟩
  rw[V,if_neg (show ¬gq nv.kind by rintro(h|h|h);exact k1 h;exact k2 h;exact k6 h)];refine aH (fun k4=> ?_) (fun k4=>aH (fun C=> ?_) (fun C=> ?_))
  ·rw[if_pos (.inl k4)];refine ae (n:=nv.size) (S.c 0) (ae (n:=nv.size) (S.c 0) ?_);exact iI (f S) ⟨L,U,cP (nv.size*L),cP (nv.size*U)⟩ (K:=fun v g=>v=_∧cd no h g) fun d S=>⟨rfl,S.fra⟩
  ·rw[if_pos (.inr C)];refine ae (n:=nv.size) (S.c 0) (ae (n:=nv.size) (S.c 0) ?_);exact iI (f S) ⟨L,U,cP (nv.size*L),cP (nv.size*U)⟩ (K:=fun v g=>v=_∧cd no h g) fun d S=>⟨rfl,S.fra⟩
  rw[if_neg (show ¬(nv.kind=4∨nv.kind=12) by rintro(h|h);exact k4 h;exact C h)];refine aH (fun H=> ?_) (fun H=>aH (fun O=> ?_) (fun O=>aH (fun q=> ?_) (fun q=>aH (fun B=> ?_) (fun B=> ?_))))
  ·rw[if_pos H];have J:(rs.map Rg.lo).length=j:=by rw[Ug];exact hl
   have I:(rs.map Rg.hi).length=j:=by rw[Ug];exact hl
   refine(IP (S.ow 2).row J (by omega)).mono ?_;rintro _ _ ⟨rfl,rfl⟩;refine⟨_,rfl,?_⟩;refine(IP (S.ow 3).row I (by omega)).mono ?_;rintro _ _ ⟨rfl,rfl⟩;refine⟨_,rfl,?_⟩;refine(IQ (S.ow 2).row J (by omega)).mono ?_;rintro _ _ ⟨rfl,F⟩;replace S:=S.fra0 F;refine⟨_,_,rfl,?_⟩;refine(IQ (S.ow 3).row I (by omega)).mono ?_;rintro _ _ ⟨rfl,F⟩;replace S:=S.fra0 F;refine⟨_,_,rfl,?_⟩;rw[Dy Rg.lo (by omega) (fun r M=>(hB r M).1),Dy Rg.hi (by omega) (fun r M=>(hB r M).2.1)];exact iI (f S) ⟨nj (rs.map Rg.lo),nj (rs.map Rg.hi),kg Rg.lo rs,kg Rg.hi rs⟩ (K:=fun v g=>v=_∧cd no h g) fun d S=>⟨rfl,S.fra⟩
  ·rw[if_neg H,if_pos O];refine ae (n:=nv.low) (S.c 0) (ae (n:=nv.high) (S.c 0) (ae (n:=nv.low) (S.c 0) (ae (n:=nv.high) (S.c 0) ?_)));refine(ng _ _ _).mono ?_;rintro _ _ ⟨rfl,rfl⟩;refine⟨_,rfl,S.c 0,S.c 0,?_⟩;refine(ng _ _ _).mono ?_;rintro _ _ ⟨rfl,rfl⟩;refine⟨_,rfl,S.c 0,S.c 0,?_⟩;refine(uB _ _).mono ?_;rintro _ _ ⟨rfl,F⟩;replace S:=S.fra0 F;refine⟨_,_,_,_,rfl,S.c 0,S.c 0,S.c 0,S.c 0,?_⟩;exact iI (f S) (dN (dT L nv.low nv.high) (dT U nv.low nv.high)) (K:=fun v g=>v=_∧cd no h g) fun d S=>⟨rfl,S.fra⟩
  ·rw[if_neg H,if_neg O,if_pos q];refine ae (n:=nv.mult) (S.c 0) (ae (n:=nv.shift) (S.c 0) (ae (n:=nv.mult) (S.c 0) (ae (n:=nv.shift) (S.c 0) ?_)));refine(xh _ _ _).mono ?_;rintro _ _ ⟨rfl,F⟩;replace S:=S.fra0 F;refine⟨_,rfl,S.c 0,S.c 0,?_⟩;refine(xh _ _ _).mono ?_;rintro _ _ ⟨rfl,F⟩;replace S:=S.fra0 F;refine⟨_,rfl,S.c 0,S.c 0,?_⟩;refine(uB _ _).mono ?_;rintro _ _ ⟨rfl,F⟩;replace S:=S.fra0 F;refine⟨_,_,_,_,rfl,S.c 0,S.c 0,S.c 0,S.c 0,?_⟩;have Q:=pU q1 hm hs;have G:=pU q2 hm hs;have eS:dN (dK L nv.mult nv.shift) (dK U nv.mult nv.shift)=dN (jc L nv.mult nv.shift) (jc U nv.mult nv.shift):=by
    rw[show dK L nv.mult nv.shift=jc L nv.mult nv.shift from Q.1.trans Q.2.symm,show dK U nv.mult nv.shift=jc U nv.mult nv.shift from G.1.trans G.2.symm]
   rw[eS];exact iI (f S) (dN (jc L nv.mult nv.shift) (jc U nv.mult nv.shift)) (K:=fun v g=>v=_∧cd no h g) fun d S=>⟨rfl,S.fra⟩
  ·rw[if_neg H,if_neg O,if_neg q,if_pos B];refine(uB _ _).mono ?_;rintro _ Y ⟨rfl,F⟩;exact IR (dN 0 (cP (w-1))) (f (S.fra0 F)) (K:=fun v g=>v=_∧cd no h g) fun d S=>⟨rfl,S.fra⟩
  ·rw[if_neg H,if_neg O,if_neg q,if_neg B];refine(uB _ _).mono ?_;rintro _ Y ⟨rfl,F⟩;exact IR (dN L U) (f (S.fra0 F)) (K:=fun v g=>v=_∧cd no h g) fun d S=>⟨rfl,S.fra⟩
 ·refine aL S 0 rfl (x:=nv.t) rfl (aL S 0 rfl (x:=nv.t) rfl ?_);refine(Ad nv A).mono ?_;rintro _ _ ⟨rfl,F⟩;replace S:=S.fra0 F;refine⟨_,rfl,da S 0 rfl rfl ?_⟩;refine(Lc nv).mono ?_;rintro _ _ ⟨rfl,F⟩;replace S:=S.fra0 F;refine⟨_,rfl,da S 0 rfl rfl ?_⟩;rw[←u,←m];refine aq (fun N=>⟨?_,S⟩) (fun N=>⟨?_,S⟩)
  ·rw[←T,←X,if_pos N,if_pos N]
  ·rw[←T,←X,if_neg N,if_neg N]
end
end
section
theorem Tk(r:Rg): ∀y∈r.cells,ib y=true:=by
 intro y a;simp only[Rg.cells,V5,WO,or_false]at a;rcases a with rfl|rfl|rfl|rfl<;>rfl
theorem Le(l:List Rg)(r:Rg):dE l++r.cells=dE (l++[r]):=by unfold dE;rw[V2,Yb];simp
section
variable {h:ah} {gv:Gv} {W R:Int→Int} {pos:Int→Nat} {b1 b3 b12 b25:Nat} {o w r:Sl}
abbrev T9(gv:Gv)(b1 b3 b12 b25:Nat)(o w r:Sl)(os:List Rg):List bc:=
 [aJ b1 gv.cells,aJ b3 [.slice none 0 0,.int .i64 0],row o.p (az o.xs),row w.p (az w.xs),row r.p (az r.xs),aJ b12 [o.v,w.v,r.v,.int .i64 0],aJ b25 (dE os)]
def Ua(g:Gr)(W:Int→Int)(h:ah)(v:Value)(a:ah):Prop:=(∃(q:Option Addr)(m d:Nat),v= .agg #[.slice q m d,.int .i64 (if(g.ranges W).isSome then 0 else 16)])∧cd no h a
theorem DA(ay:gv.ok)(hs:gv.sizes)(rt:bW gv.gr W R pos)(eo:o.xs=bK gv.gr.nodes)(a6:o.ok)(ew:w.xs=(List.range (gv.gr.nodes.length+1)).map fun x:Nat=>W x)(a7:w.ok)
 {k:Nat} (hk:k<gv.l) {os:List Rg} (a0:os.length=gv.l+1) (hB: ∀x∈(0::(bK gv.gr.nodes).take k:List Int),Bd (os.getD x.toNat .zero)) (er:gv.gr.ranges W=gx gv.gr.nodes W ((bK gv.gr.nodes).drop k) os) {g:ah}
 {K1:(Addr×Addr×Addr×PP×Int×Unit)→ah→Prop} (S:aG h no g (T9 gv b1 b3 b12 b25 o w r os) [row gv.p (aD gv.ns),aM gv.ns])
 (H: ∀g' os',os'.length=gv.l+1→(∀x∈(0::(bK gv.gr.nodes).take (k+1):List Int),Bd (os'.getD x.toNat .zero))→gv.gr.ranges W=gx gv.gr.nodes W ((bK gv.gr.nodes).drop (k+1)) os'→
  aG h no g' (T9 gv b1 b3 b12 b25 o w r os') [row gv.p (aD gv.ns),aM gv.ns]→K1 (⟨b1,0,none⟩,⟨b3,0,none⟩,⟨b12,0,none⟩,(some ⟨b25,0,none⟩,gv.l+1,gv.l+1),((k+1:Nat):Int),()) g'):
 ln (Ua gv.gr W h) K1 ⟨b1,0,none⟩ ⟨b3,0,none⟩ ⟨b12,0,none⟩ (some ⟨b25,0,none⟩) (gv.l+1) (gv.l+1) (k:Int) g:=by
 have bb:=ay.1;have D:gv.gr.nodes.length=gv.l:=by rw[←bb];simp[Gv.gr]
 have f:=bX rt.first;have L:=rt.ordered;have G:k<(bK gv.gr.nodes).length:=by rw[L,D];exact hk
 have bH:o.l=gv.l:=by rw[←a6.1,eo,L,D]
 have bL:w.l=gv.l+1:=by rw[←a7.1,ew,Ug,WT,D]
 have a3:=ft gv.gr.nodes gv.gr.nodes.length _ (VN G);obtain⟨i,ex⟩: ∃i:Nat,(bK gv.gr.nodes)[k]=(i:Int)+1:=⟨((bK gv.gr.nodes)[k]-1).toNat,by have:1≤(bK gv.gr.nodes)[k]:=a3.1;omega⟩;have bd:i<gv.l:=by
  have h2:(bK gv.gr.nodes)[k]≤(gv.gr.nodes.length:Int):=a3.2;rw[ex]at h2;omega
 obtain⟨b,en⟩: ∃n,gv.ns[i]? =some n:=⟨_,bo (by omega)⟩;have K:=VL en;have a5:=ay.2.2 b K;have a1:=hs.2 b K;have ilen:b.inn.xs.length=b.inn.l:=a5.1.1;have z:gv.gr.nodes[i]? =some b.nd:=by show(gv.ns.map Nv.nd)[i]? =_;rw[VP,en];rfl
 have C:=rt.chk i b.nd z;obtain⟨n1,n4,b0,bS,T⟩:=rt.node z;have a4:1≤b.inn.l:=by rw[←ilen];exact n1
 have bR:b.inn.l≤4:=by rw[←ilen];exact n4
 have M: ∀{g:ah}{W2:List bc},aG h no g W2 [row gv.p (aD gv.ns),aM gv.ns]→b.rows.P g:=fun S=>S.r 1 _ rfl b.rows (V1 K);have A: ∀{g:ah}{W2:List bc},aG h no g W2 [row gv.p (aD gv.ns),aM gv.ns]→bD g b.inn.p (az b.inn.xs):=fun S=>M S b.inn.row (by simp)
 have u:gx gv.gr.nodes W ((bK gv.gr.nodes).drop k) os=if(i3 b.nd (W (b.inn.xs.getD 0 0)) (b.inn.xs.map fun k=>os.getD k.toNat Rg.zero)).alo< -68719476736∨(i3 b.nd (W (b.inn.xs.getD 0 0)) (b.inn.xs.map fun k=>os.getD k.toNat Rg.zero)).ahi>68719476736 then none
  else gx gv.gr.nodes W ((bK gv.gr.nodes).drop (k+1)) (os.set (i+1) (i3 b.nd (W (b.inn.xs.getD 0 0)) (b.inn.xs.map fun k=>os.getD k.toNat Rg.zero))):=by
  rw[V6 G,ex,yj (n:=b.nd) (by rw[show((i:Int)+1).toNat-1=i by omega];exact z),show((i:Int)+1).toNat=i+1 by omega];rfl
 have bk:(0::(bK gv.gr.nodes).take (k+1):List Int)=(0::(bK gv.gr.nodes).take k)++[(i:Int)+1]:=by rw[gD G,ex];rfl
 have ap: ∀r∈b.inn.xs.map (fun k=>os.getD k.toNat Rg.zero),Bd r:=fun r hr=>by
  obtain⟨j,hj,rfl⟩:=VZ.1 hr;exact hB j (Ac L G ex z hj)
 have U: ∀{g:ah}{X:List bc},aG h no g X [row gv.p (aD gv.ns),aM gv.ns]→X[2]? =some (row o.p (az o.xs))→ ∃a,o.p=some a∧aB g (a.add k)=some (.int .i64 ((i:Int)+1)):=fun S e=>by
  have r:bD _ o.p (az o.xs):=S.w 2 _ e;obtain⟨a,ea⟩:=r.some_of (by rw[av,a6.1];omega);rw[ea]at r;exact⟨a,ea,r.cell (aF (by rw[eo,bo G,ex]))⟩
 refine ak (p:=o.p) (l:=o.l) (c:=o.c) (S.c 5) (cC (decide_eq_true (by omega)) ?_);refine ak (p:=gv.p) (l:=gv.l) (c:=gv.c) (S.c 0) (ak (p:=o.p) (l:=o.l) (c:=o.c) (S.c 5) ?_);obtain⟨ao,a9,co⟩:=U S rfl;obtain⟨an,ab⟩:=(S.row 0 rfl).some_of (by rw[bE];omega);refine aC a9 (k:=k) rfl (by omega) ?_;simp only[hC,VO];refine ae co ?_;rw[al (n:=(i:Int)+1-1) (by omega),show(i:Int)+1-1=(i:Int) by omega];refine aC ab (k:=i) rfl bd ?_;refine gi (by have:=S.row 0 rfl;rw[ab]at this;exact this) en ?_;refine aA (cs:=aK cJ (zT cJ)) S fun Z g2 _ S=> ?_;refine bP S 7 rfl rfl (aW rfl) fun g3 _ S=> ?_;replace S:=S.nil 4
 refine aO (fun mm s g=> ∃(j:Nat)(q:Option Addr)(d:Nat),s=(⟨b1,0,none⟩,⟨b3,0,none⟩,⟨b12,0,none⟩,(some ⟨b25,0,none⟩,gv.l+1,gv.l+1),(k:Int),⟨Z,0,none⟩,(q,j,d),(j:Int),())∧j≤b.inn.l∧mm=b.inn.l-j∧
  aG h no g (T9 gv b1 b3 b12 b25 o w r os++[aJ Z b.cells,own 4 q j d (dE ((b.inn.xs.take j).map fun k=>os.getD k.toNat Rg.zero))]) [row gv.p (aD gv.ns),aM gv.ns]) b.inn.l ⟨0,none,0,rfl,by omega,rfl,S⟩ ?_
 rintro mm s g ⟨j,q,d,rfl,hj,rfl,S⟩;simp only[aR,SN];refine ak (p:=b.inn.p) (l:=b.inn.l) (c:=b.inn.c) (S.c 7) (aq (fun ax=> ?_) (fun bw=> ?_))
 ·have ax:j<b.inn.l:=by omega
  have J:j<b.inn.xs.length:=by omega
  obtain⟨ai,B⟩:=(A S).some_of (by rw[av];omega);have Y:aB g (ai.add j)=some (.int .i64 b.inn.xs[j]):=by
   have:=A S;rw[B]at this;exact this.cell (aF (bo J))
  have ar:=T b.inn.xs[j] (VN J);rw[D]at ar;obtain⟨x,aj⟩: ∃x:Nat,b.inn.xs[j]=x:=⟨b.inn.xs[j].toNat,by omega⟩;rw[aj]at Y ar;refine ak (p:=b.inn.p) (l:=b.inn.l) (c:=b.inn.c) (S.c 7) (aC B (k:=j) rfl ax ?_);simp only[hC,VO];refine ae Y ?_;have O:os[x]? =some (os.getD x Rg.zero):=by rw[VT,bo (by omega)];rfl
  have rc:=vf (a:=⟨b25,0,none⟩) (bD.of_at (S.at 6 rfl)) O;obtain⟨r0,r1,r2,r3⟩:=rc;refine aC rfl (k:=x) rfl (by omega) ?_;refine ae r0 (ae r1 (ae r2 (ae r3 ?_)));refine aA (cs:=(os.getD x Rg.zero).cells) S fun br g4 _ S=> ?_;refine cI S 8 (ys:=(os.getD x Rg.zero).cells) rfl rfl (by decide) (by omega) (bD.of_at (S.at 9 rfl)) rfl (Tk _) fun p2 l2 c2 g5 e2 S=> ?_;subst e2;have e2:=pd (fun k:Int=>os.getD k.toNat Rg.zero) J;rw[aj,hC]at e2;rw[Le,←e2]at S;rw[al (n:=(j:Int)+1) (by omega)];exact⟨b.inn.l-(j+1),by omega,j+1,p2,c2,rfl,by omega,rfl,S.pw [0,1,2,3,4,5,6,7,8]⟩
 have ej:j=b.inn.l:=by omega
 subst ej;rw[py (by omega)]at S;obtain⟨ai,B⟩:=(A S).some_of (by rw[av];omega);obtain⟨m,N⟩: ∃m,b.inn.xs[0]? =some m:=⟨_,bo (by omega)⟩;have bm:b.inn.xs.getD 0 0=m:=by rw[VT,N];rfl
 have bn:=T m (VL N);rw[D]at bn;have Y: ∀{g:ah}{X:List bc},aG h no g X [row gv.p (aD gv.ns),aM gv.ns]→aB g (ai.add 0)=some (.int .i64 m):=fun S=>by
  have:=A S;rw[B]at this;exact this.cell (aF N)
 have wr:bD g w.p (az w.xs):=S.w 3 _ rfl;obtain⟨aw,ag⟩:=wr.some_of (by rw[av,a7.1];omega);have cw:aB g (aw.add m.toNat)=some (.int .i64 (W m)):=by
  rw[ag]at wr;refine wr.cell (aF ?_);rw[ew,VP,Wa (by omega)];show some (W (m.toNat:Int))=_;rw[show(m.toNat:Int)=m by omega]
 refine aL S 7 rfl (x:=b.t) rfl ?_;refine ak (p:=w.p) (l:=w.l) (c:=w.c) (S.c 5) (ak (p:=b.inn.p) (l:=b.inn.l) (c:=b.inn.c) (S.c 7) (aC B (k:=0) rfl (by omega) ?_));simp only[WC,WH,VO];refine ae (Y S) (aC ag (k:=m.toNat) (by omega) (by omega) (ae cw ?_));obtain⟨y,ey⟩: ∃y,i3 b.nd (W m) (b.inn.xs.map fun k=>os.getD k.toNat Rg.zero)=y:=⟨_,rfl⟩;have a2:1≤W m∧W m≤16:=(fD C).1 _ (V1 (VL N));have bp:Bd y:=by rw[←ey];exact Rv C (by rw[Ug,ilen];exact a4) ap a2
 rw[bm,ey]at u;have Q: ∀{g:ah},bD g q (dE (b.inn.xs.map fun k=>os.getD k.toNat Rg.zero))→b.rows.P g→au P jY #[b.v,.slice q b.inn.l d,.int .i64 (W m)] g fun v g'=>v=y.v∧cd no g g':=fun hq bg=>by
  rw[←ey];exact NJ a5 bg a1.2.1 a1.2.2 C hq (by rw[Ug];exact ilen) a4 (by omega) ap (W m)
 have bs:(dE os).length=(gv.l+1)*4:=by rw[fZ,a0]
 have ba: ∀{g:ah},aG h no g (T9 gv b1 b3 b12 b25 o w r (os.set (i+1) y)) [row gv.p (aD gv.ns),aM gv.ns]→ ¬y.alo< -68719476736→ ¬y.ahi>68719476736→K1 (⟨b1,0,none⟩,⟨b3,0,none⟩,⟨b12,0,none⟩,(some ⟨b25,0,none⟩,gv.l+1,gv.l+1),((k+1:Nat):Int),()) g:=fun S I E=>by
  refine H _ (os.set (i+1) y) (by rw[VU];exact a0) (fun x O=> ?_) ?_ S
  ·rw[VT,Xh];by_cases V:i+1=x.toNat
   ·rw[if_pos V,if_pos (by omega)];exact bp
   ·rw[if_neg V,←VT];rw[bk]at O;rcases VW.1 O with O|O
    ·exact hB x O
    ·rw[VK]at O;subst O;exact absurd (by omega) V
  ·rw[er,u,if_neg (by rintro(h|h);exact I h;exact E h)]
 have aa:y.alo< -68719476736∨y.ahi>68719476736→gv.gr.ranges W=none:=fun hy=>by rw[er,u,if_pos hy]
 have ek:kn .i64 ((k:Int)+1)=((k+1:Nat):Int):=by rw[al (by omega)];rfl
 have e0:((i:Int)+1).toNat=i+1:=by omega
 refine And.intro ?ordA ?ordB
 case' ordA=>
  refine(Q (S.own 8 rfl).row (M S)).mono ?_;rintro _ g4 ⟨rfl,F⟩;replace S:=S.fra0 F;refine⟨_,_,_,_,rfl,Y S,S.c 7,S.c 5,?_⟩;refine aA (cs:=SG) S fun bT g5 _ S=> ?_
 case' ordB=>
  refine aA (cs:=SG) S fun bT g5 _ S=> ?_;refine(Q (S.own 8 rfl).row (M S)).mono ?_;rintro _ g4 ⟨rfl,F⟩;replace S:=S.fra0 F;refine⟨_,_,_,_,rfl,Y S,S.c 7,S.c 5,?_⟩
 all_goals
  refine ck S 9 fun _ _ S=> ?_;refine ck S 9 fun _ _ S=> ?_;refine ck S 9 fun _ _ S=> ?_;refine ck S 9 fun _ _ S=> ?_;refine ae (n:=y.alo) (S.c 9) (aq (fun I=> ?_) (fun I=>ae (n:=y.ahi) (S.c 9) (aq (fun E=> ?_) (fun E=> ?_))))
  ·refine ck S 1 fun _ _ S=> ?_;refine ck S 1 fun _ _ S=> ?_;refine ak (p:=none) (l:=0) (c:=0) (S.c 1) (ae (n:=16) (S.c 1) ⟨⟨none,0,0,?_⟩,S.fra⟩);rw[aa (.inl I)];rfl
  ·refine ck S 1 fun _ _ S=> ?_;refine ck S 1 fun _ _ S=> ?_;refine ak (p:=none) (l:=0) (c:=0) (S.c 1) (ae (n:=16) (S.c 1) ⟨⟨none,0,0,?_⟩,S.fra⟩);rw[aa (.inr E)];rfl
  ·refine ak (p:=o.p) (l:=o.l) (c:=o.c) (S.c 5) ?_;obtain⟨bq,ad,a8⟩:=U S rfl;refine aC ad (k:=k) rfl (by omega) (ae a8 ?_);refine ae (n:=y.lo) (S.c 9) (ae (n:=y.hi) (S.c 9) (ae (n:=y.alo) (S.c 9) (ae (n:=y.ahi) (S.c 9) ?_)));refine aC rfl (k:=i+1) rfl (by omega) ?_;rw[e0];simp only[aR,SN];refine be S 6 rfl (by omega) fun _ _ S=> ?_;refine be S 6 rfl (by rw[VU];omega) fun _ _ S=> ?_;refine be S 6 rfl (by rw[VU,VU];omega) fun _ _ S=> ?_;refine be S 6 rfl (by rw[VU,VU,VU];omega) fun _ _ S=> ?_;rw[pV (by omega) y]at S;rw[ek];exact ba (S.pw [0,1,2,3,4,5,6]) I E
theorem IU(d:gv.ok)(z:bD h gv.p (aD gv.ns))(C:(aM gv.ns).P h)(K:gv.sizes)(rt:bW gv.gr W R pos):au P jZ #[gv.v] h (Ua gv.gr W h):=by
 refine nU _ ?_;have u:=d.1;have b:gv.gr.nodes.length=gv.l:=by rw[←u];simp[Gv.gr]
 have f:=bX rt.first;have S:=((aG.start h no).read (row gv.p (aD gv.ns)) z).read (aM gv.ns) C;refine aA (cs:=gv.cells) S fun b1 H _ S=> ?_;refine aA (cs:=[.slice none 0 0,.int .i64 0]) S fun b3 I _ S=> ?_;refine aL S 0 rfl (x:=gv.t) rfl ?_;refine(qi d (S.ro 0) (S.rd 1) (by omega) (fun n z=>by have:=K.2 n z;omega)).mono ?_;rintro _ J ⟨o,w,r,rfl,A,L,C,j,G,aa,Q⟩;rw[rt.look]at A L C;have m:gv.gr.look.e=0:=by rw[rt.look]
 rw[m];replace S:=S.add Q fun _ _ h=>h;refine⟨_,_,_,_,_,_,_,_,_,_,rfl,?_⟩;refine aA (cs:=[.slice none 0 0,.slice none 0 0,.slice none 0 0,.int .i64 0]) S fun b12 _ _ S=> ?_;refine ck S 5 fun _ _ S=> ?_;refine ck S 5 fun _ _ S=> ?_;refine ck S 5 fun _ _ S=> ?_;refine ck S 5 fun T _ S=> ?_;refine ae (n:=0) (S.c 5) (bG (by decide) ?_);refine ak (p:=gv.p) (l:=gv.l) (c:=gv.c) (S.c 0) ?_;rw[show kn .i64 ((gv.l:Int)+1)=((gv.l+1:Nat):Int) by rw[al (by omega)];rfl];refine dM S (gv.l+1) rfl (zs:=Rg.zero.cells) rfl rfl (by decide) (by omega) (by omega) fun b25 g4 _ S=> ?_;rw[zR]at S;refine ae (n:=gv.low) (S.c 0) (ae (n:=gv.high) (S.c 0) ?_);refine(uB _ _).mono ?_;rintro _ g5 ⟨rfl,F⟩;replace S:=S.fra0 F;refine⟨_,_,_,_,rfl,?_⟩;refine aC rfl (k:=0) rfl (by omega) ?_;simp only[aR,SN,WC,WH];have V:(dE (List.replicate (gv.l+1) .zero)).length=(gv.l+1)*4:=by rw[fZ,VQ]
 refine be S 6 rfl (by omega) fun _ _ S=> ?_;refine be S 6 rfl (by rw[VU];omega) fun _ _ S=> ?_;refine be S 6 rfl (by rw[VU,VU];omega) fun _ _ S=> ?_;refine be S 6 rfl (by rw[VU,VU,VU];omega) fun _ _ S=> ?_;have m:=pV (rs:=List.replicate (gv.l+1) .zero) (i:=0) (by rw[VQ];omega) (dN gv.low gv.high);rw[m]at S;have X:o.l=gv.l:=by rw[←j.1,A,rt.ordered,b]
 have a:=f.2.2.2.1;have D:gv.low≤gv.high:=a.1;have Y: -32768≤gv.low:=a.2.1;have Z:gv.high≤32767:=a.2.2
 refine aO (fun N s g=> ∃(k:Nat)(os:List Rg),s=(⟨b1,0,none⟩,⟨b3,0,none⟩,⟨b12,0,none⟩,(some ⟨b25,0,none⟩,gv.l+1,gv.l+1),(k:Int),())∧k≤gv.l∧N=gv.l-k∧os.length=gv.l+1∧(∀x∈(0::(bK gv.gr.nodes).take k:List Int),Bd (os.getD x.toNat .zero))∧
  gv.gr.ranges W=gx gv.gr.nodes W ((bK gv.gr.nodes).drop k) os∧aG h no g (T9 gv b1 b3 b12 b25 o w r os) [row gv.p (aD gv.ns),aM gv.ns]) gv.l
  ⟨0,_,rfl,by omega,rfl,by rw[VU,VQ],fun x M=> ?_,?_,S⟩ ?_
 ·rw[WK,VK]at M;subst M;rw[Wp,WW];exact yh ⟨by omega,by omega⟩ ⟨by omega,by omega⟩ D
 ·rw[Xb,Wp,WW];unfold Gr.ranges;rw[b];rfl
 rintro N s g ⟨k,os,rfl,hk,rfl,B,U,q,S⟩;by_cases y:k<gv.l
 ·exact DA d K rt A j L G y B U q S fun g' E H I J O=>⟨gv.l-(k+1),by omega,k+1,E,rfl,by omega,rfl,H,I,J,O⟩
 ·unfold ln;simp only[aR,SN];refine ak (p:=o.p) (l:=o.l) (c:=o.c) (S.c 5) (bG (decide_eq_false (by omega)) ?_);rw[Wj (by rw[rt.ordered,b];omega)]at q;refine ck S 1 fun _ _ S=> ?_;refine ck S 1 fun _ _ S=> ?_;refine ak (p:=some ⟨b25,0,none⟩) (l:=gv.l+1) (c:=gv.l+1) (S.c 1) (ae (n:=0) (S.c 1) ⟨⟨some ⟨b25,0,none⟩,gv.l+1,gv.l+1,?_⟩,S.fra⟩);rw[q];rfl
theorem Hf(b:gv.ok)(a:bD h gv.p (aD gv.ns))(d:(aM gv.ns).P h)(f:gv.sizes)(k:gv.gr.look.e≠0):au P jZ #[gv.v] h fun v i=>v= .agg #[.slice none 0 0,.int .i64 gv.gr.look.e]∧cd no h i:=by
 refine nU _ ?_;have S:=((aG.start h no).read (row gv.p (aD gv.ns)) a).read (aM gv.ns) d;refine aA (cs:=gv.cells) S fun b1 u _ S=> ?_;refine aA (cs:=[.slice none 0 0,.int .i64 0]) S fun b3 y _ S=> ?_;refine aL S 0 rfl (x:=gv.t) rfl ?_;have A:=f.1;refine(qi b (S.ro 0) (S.rd 1) (by omega) (fun n a=>by have:=f.2 n a;omega)).mono ?_;rintro _ z ⟨o,w,r,rfl,B,C,d,m,s,q,g⟩;replace S:=S.fra0 g.fra;refine⟨_,_,_,_,_,_,_,_,_,_,rfl,?_⟩;refine aA (cs:=[.slice none 0 0,.slice none 0 0,.slice none 0 0,.int .i64 0]) S fun b12 _ _ S=> ?_;refine ck S 2 fun _ _ S=> ?_;refine ck S 2 fun _ _ S=> ?_;refine ck S 2 fun _ _ S=> ?_;refine ck S 2 fun j _ S=> ?_;refine ae (n:=gv.gr.look.e) (S.c 2) (bh (fun _=> ?_) (fun h=>absurd h k));refine ae (n:=gv.gr.look.e) (S.c 2) ?_;refine ck S 1 fun _ _ S=> ?_;refine ck S 1 fun _ _ S=> ?_;exact ak (p:=none) (l:=0) (c:=0) (S.c 1) (ae (n:=gv.gr.look.e) (S.c 1) ⟨rfl,S.fra⟩)
