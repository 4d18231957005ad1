/- Sh, part 10: how formulas over heaps are proved: blocks, rows, frames; rules for each word of part 9. -/
import Derived.Test.YtdhpmegbmjoekaaGreatDoorShW
set_option linter.unusedSimpArgs false
set_option linter.unusedVariables false
namespace Go.Sh
theorem al{n:Int}(h: -9223372036854775808≤n∧n<9223372036854775808):IntKind.wrap .i64 n=n:=by
 simp only[IntKind.wrap,IntKind.bits,IntKind.signed];simp;omega
def At(h:ah)(b:Nat)(cs:List Value):Prop:= ∃(e:TypeId)(lo hi:Nat),h[b]? =some (.cells cs.toArray e (lo,hi))∧(lo≥cs.length∨hi≤lo)
structure cd (S:Nat→Prop) (h h':ah):Prop where
 size:h.size≤h'.size
 same: ∀b,b<h.size→ ¬S b→h'[b]? =h[b]?
def no:Nat→Prop:=fun _=>False
theorem At.lt{h:ah}{b:Nat}{cs:List Value}(a:At h b cs):b<h.size:=by
 obtain⟨e,lo,hi,c,_⟩:=a;exact(Wi.1 c).1
theorem cd.refl(S:Nat→Prop)(h:ah):cd S h h:=⟨VX _,fun _ _ _=>rfl⟩
theorem cd.trans{S:Nat→Prop}{a b c:ah}(h:cd S a b)(k:cd S b c):cd S a c:=
 ⟨W3 h.size k.size,fun i hi d=>(k.same i (Xf hi h.size) d).trans (h.same i hi d)⟩
theorem cd.mono{S T:Nat→Prop}{a b:ah}(h:cd S a b)(st: ∀i,i<a.size→S i→T i):cd T a b:=
 ⟨h.size,fun i hi d=>h.same i hi fun c=>d (st i hi c)⟩
theorem cd.at{S:Nat→Prop}{h c:ah}(f:cd S h c){b:Nat}{cs:List Value}(a:At h b cs)(i: ¬S b):At c b cs:=by
 have g:=a.lt;obtain⟨e,lo,hi,d,j⟩:=a;exact⟨e,lo,hi,by rw[f.same b g i];exact d,j⟩
theorem cd.at0{h c:ah}(f:cd no h c){b:Nat}{cs:List Value}(a:At h b cs):At c b cs:=f.at a fun h=>h
theorem cd.own{c a b:ah}{base:Nat}(h:cd no c a)(k:cd (fun i=>base≤i) a b)(e:c.size≤base):cd no c b:=
 ⟨W3 h.size k.size,fun i hi d=>(k.same i (Xf hi h.size) (by omega)).trans (h.same i hi d)⟩
theorem cd.one{c a b:ah}{j:Nat}(h:cd no c a)(k:cd (fun i=>i=j) a b)(e:c.size≤j):cd no c b:=
 ⟨W3 h.size k.size,fun i hi d=>(k.same i (Xf hi h.size) (by omega)).trans (h.same i hi d)⟩
theorem cd.two{b base:Nat}{a c d:ah}(h:cd (fun i=>i=b) a c)(k:cd (fun i=>base≤i) c d)(f:a.size≤base):cd (fun i=>i=b) a d:=
 ⟨W3 h.size k.size,fun i hi e=>(k.same i (Xf hi h.size) (by omega)).trans (h.same i hi e)⟩
theorem At.cell{h:ah}{b k:Nat}{cs:List Value}{v:Value}(a:At h b cs)(d:cs[k]? =some v):aB h ⟨b,k,none⟩=some v:=by
 obtain⟨e,lo,hi,c,_⟩:=a;simp only[aB,c];simpa using d
theorem At.frozen{h:ah}{b k:Nat}{cs:List Value}(a:At h b cs)(f:k<cs.length):u9 h ⟨b,k,none⟩=false:=by
 obtain⟨e,lo,hi,c,d⟩:=a;simp only[u9,c];rcases d with h|h<;>simp<;>omega
theorem At.new(h:ah)(cs:List Value)(e:TypeId):At (h.push (.cells cs.toArray e (0,0))) h.size cs:=
 ⟨e,0,0,by simp,.inr (VX _)⟩
theorem cd.push(S:Nat→Prop)(h:ah)(o:Obj):cd S h (h.push o):=⟨by simp,fun b a _=>by rw[Array.getElem?_push,if_neg (by omega)]⟩
theorem At.set{h:ah}{b k:Nat}{cs:List Value}(a:At h b cs)(v:Value):At (Fa h ⟨b,k,none⟩ v) b (cs.set k v):=by
 obtain⟨e,lo,hi,c,d⟩:=a;refine⟨e,lo,hi,?_,by simpa using d⟩;simp only[Fa,Array.getElem?_modify,if_true,c,Option.map_some];simp
theorem cd.set(h:ah)(b k:Nat)(v:Value):cd (fun i=>i=b) h (Fa h ⟨b,k,none⟩ v):=
 ⟨by simp[Fa],fun i hi a=>by simp only[Fa,Array.getElem?_modify];rw[if_neg (by omega)]⟩
theorem ND(h:ah)(a:Addr)(v:Value):(Fa h a v).size=h.size:=by simp[Fa]
theorem oz{b:Bool}{A B:Prop}(a:b=true→A)(c:b=false→B):aI b A B:=⟨a,c⟩
theorem cC{b:Bool}{A B:Prop}(h:b=true)(a:A):aI b A B:=⟨fun _=>a,fun e=>by rw[h]at e;cases e⟩
theorem bG{b:Bool}{A B:Prop}(h:b=false)(a:B):aI b A B:=⟨fun e=>(by rw[h]at e;cases e),fun _=>a⟩
theorem aq{p:Prop} [Decidable p] {A B:Prop} (a:p→A) (b: ¬p→B):aI (decide p) A B:=⟨fun e=>a (of_decide_eq_true e),fun e=>b (of_decide_eq_false e)⟩
theorem bx{a:Addr}{K:Addr→Prop}(h:K a):cB (some a) K:=⟨a,rfl,h⟩
theorem ae{k:IntKind}{h:ah}{a:Addr}{n:Int}{K:Int→Prop}(b:aB h a=some (.int k n))(c:K n):af k h a K:=⟨n,b,c⟩
theorem fY{h:ah}{a:Addr}{n:Bool}{K:Bool→Prop}(b:aB h a=some (.bool n))(c:K n):dH h a K:=⟨n,b,c⟩
theorem oB{h:ah}{a:Addr}{n:ByteArray}{K:ByteArray→Prop}(b:aB h a=some (.string n))(c:K n):sr h a K:=⟨n,b,c⟩
theorem dZ{h:ah}{a:Addr}{n:Option Addr}{K:Option Addr→Prop}(b:aB h a=some (.pointer n))(c:K n):iZ h a K:=⟨n,b,c⟩
theorem ak{h:ah}{a:Addr}{p:Option Addr}{l c:Nat}{K:Option Addr→Nat→Nat→Prop}(b:aB h a=some (.slice p l c))(d:K p l c):am h a K:=⟨p,l,c,b,d⟩
theorem Dv{h:ah}{cs:List Value}{e:TypeId}{K:Nat→ah→Prop}(H: ∀b h',b=h.size→h'.size=h.size+1→At h' b cs→cd no h h'→K b h'):aP h (.cells cs.toArray e (0,0)) K:=
 H _ _ rfl (by simp) (At.new h cs e) (cd.push _ h _)
theorem kY{h:ah}{b k:Nat}{cs:List Value}{v:Value}{K:ah→Prop}(a:At h b cs)(c:k<cs.length)(H: ∀h',h'.size=h.size→At h' b (cs.set k v)→cd (fun i=>i=b) h h'→K h'):aQ h ⟨b,k,none⟩ v K:=
 ⟨⟨cs[k],a.cell (bo c)⟩,a.frozen c,H _ (ND _ _ _) (a.set v) (cd.set _ _ _ _)⟩
theorem iH{i:Int}{y n:Nat}{K:Nat→Prop}(h0:i=n)(b:n≤y)(a:K n):pP i y K:=⟨by omega,by omega,by subst h0;simpa using a⟩
theorem aO{S:Type}{B:(S→ah→Prop)→S→ah→Prop}{s:S}{h:ah}(a:Nat→S→ah→Prop)(n:Nat)(h0:a n s h)
 (step: ∀n s h,a n s h→B (fun s' h'=> ∃m,m<n∧a m s' h') s h):bf B s h:=⟨a,⟨n,h0⟩,step⟩
theorem aR(b k n:Nat):Addr.add ⟨b,k,none⟩ n=⟨b,k+n,none⟩:=by
 unfold Addr.add;split
 ·rename_i h;subst h;rfl
 ·rfl
theorem mh(a:Addr)(m:Nat){n:Nat}(c:n≠0):Addr.add (Addr.add a m) n=Addr.add a (m+n):=by
 have b: ¬m+n=0:=by omega
 unfold Addr.add;rw[if_neg c,if_neg b];split
 ·rename_i h;subst h;simp
 ·simp[Yf]
theorem PE(p:Option Addr)(s:Nat):Option.map (fun a=>Addr.add a (0*s)) p=p:=by
 cases p with
 |none=>rfl
 |some a=>simp[Addr.add]
def Rt(h:ah)(b:Nat)(cs:List Value):Prop:= ∃(e:TypeId)(f:Nat×Nat),h[b]? =some (.cells cs.toArray e f)
theorem At.r{h:ah}{b:Nat}{cs:List Value}(a:At h b cs):Rt h b cs:=by obtain⟨e,lo,hi,c,_⟩:=a;exact⟨e,_,c⟩
theorem Rt.lt{h:ah}{b:Nat}{cs:List Value}(a:Rt h b cs):b<h.size:=by
 obtain⟨e,f,c⟩:=a;exact(Wi.1 c).1
theorem Rt.cell{h:ah}{b k:Nat}{cs:List Value}{v:Value}(a:Rt h b cs)(d:cs[k]? =some v):aB h ⟨b,k,none⟩=some v:=by
 obtain⟨e,f,c⟩:=a;simp only[aB,c];simpa using d
theorem cd.rat{S:Nat→Prop}{h c:ah}(f:cd S h c){b:Nat}{cs:List Value}(a:Rt h b cs)(j: ¬S b):Rt c b cs:=by
 have i:=a.lt;obtain⟨e,g,d⟩:=a;exact⟨e,g,by rw[f.same b i j];exact d⟩
def bD(h:ah)(p:Option Addr)(xs:List Value):Prop:=
 xs=[]∨ ∃a,p=some a∧a.spot=none∧ ∃b,Rt h a.block b∧a.off+xs.length≤b.length∧ ∀i,i<xs.length→b[a.off+i]? =xs[i]?
theorem bD.nil(h:ah)(p:Option Addr):bD h p []:= .inl rfl
theorem bD.cell{h:ah}{a:Addr}{xs:List Value}(r:bD h (some a) xs){i:Nat}{v:Value}(d:xs[i]? =some v):aB h (Addr.add a i)=some v:=by
 rcases r with rfl|⟨j,e,f,k,c,l,g⟩
 ·simp at d
 ·cases e;have hi:i<xs.length:=(R8.1 d).1;obtain⟨b,o,m⟩:=a;simp only at f;subst f;rw[aR];exact c.cell (by rw[g i hi];exact d)
theorem bD.frame{S:Nat→Prop}{h c:ah}{p:Option Addr}{xs:List Value}(r:bD h p xs)(f:cd S h c)(j: ∀a,p=some a→a.block<h.size→ ¬S a.block):bD c p xs:=by
 rcases r with rfl|⟨a,rfl,e,d,b,i,g⟩
 ·exact .inl rfl
 ·exact .inr ⟨a,rfl,e,d,f.rat b (j a rfl b.lt),i,g⟩
theorem bD.frame0{h a:ah}{p:Option Addr}{xs:List Value}(r:bD h p xs)(f:cd no h a):bD a p xs:=r.frame f fun _ _ _ h=>h
theorem bD.take{h:ah}{p:Option Addr}{xs:List Value}(r:bD h p xs)(n:Nat):bD h p (xs.take n):=by
 rcases r with rfl|⟨a,rfl,d,c,b,f,e⟩
 ·exact .inl (by simp)
 ·refine .inr ⟨a,rfl,d,c,b,by simp;omega,fun i hi=> ?_⟩;simp at hi;rw[e i (by omega),Xk,if_pos (by omega)]
theorem bD.of_rat{h:ah}{b:Nat}{cs:List Value}(a:Rt h b cs):bD h (some ⟨b,0,none⟩) cs:= .inr ⟨_,rfl,rfl,cs,a,by simp,fun i _=>by simp⟩
theorem bD.of_at{h:ah}{b:Nat}{cs:List Value}(a:At h b cs):bD h (some ⟨b,0,none⟩) cs:= .of_rat a.r
theorem bD.drop{h:ah}{a:Addr}{xs:List Value}(r:bD h (some a) xs)(n:Nat)(l:n≤xs.length):bD h (some (Addr.add a n)) (xs.drop n):=by
 rcases r with rfl|⟨j,e,d,f,c,k,g⟩
 ·exact .inl (by simp)
 ·cases e;obtain⟨b,o,m⟩:=a;simp only at d;subst d;rw[aR];refine .inr ⟨_,rfl,rfl,f,c,by simp only[Wh]at *;omega,fun i hi=> ?_⟩;simp only[Wh]at hi;have:=g (n+i) (by omega);simp only at this ⊢;rw[Yf,this,Wz]
def az(xs:List Int):List Value:=xs.map (Value.int .i64)
theorem av(xs:List Int):(az xs).length=xs.length:=by simp[az]
theorem aF{xs:List Int}{i:Nat}{n:Int}(h:xs[i]? =some n):(az xs)[i]? =some (.int .i64 n):=by simp[az,h]
theorem aC{p:Option Addr}{i:Int}{b k:Nat}{a:Addr}{K:Addr→Prop}(c:p=some a)(hi:i=k)(d:k<b)(H:K a):aS p i b K:=⟨a,c,by omega,by omega,H⟩
theorem bD.some_of{h:ah}{p:Option Addr}{xs:List Value}(r:bD h p xs)(b:0<xs.length): ∃a,p=some a:=by
 rcases r with rfl|⟨a,rfl,_⟩
 ·simp at b
 ·exact⟨a,rfl⟩
theorem II{h:ah}{a:Addr}: ∀(xs:List Value)(i:Nat),(∀j v,xs[j]? =some v→aB h (Addr.add a (i+j))=some v)→Iy h a i xs.length xs
 |[],i,_=>rfl
 |x::r,i,hx=>⟨x,r,by have:=hx 0 x rfl;rwa [We]at this,II r (i+1) (fun j v b=>by have:=hx (j+1) v (by simpa using b);rwa [show i+(j+1)=i+1+j by omega]at this),rfl⟩
theorem bD.readO{h:ah}{p:Option Addr}{xs:List Value}(r:bD h p xs){n:Nat}(b:xs.length=n):readO h p n xs:=by
 subst b;cases p with
 |none=>
  rcases r with rfl|⟨a,e,_⟩
  ·rfl
  ·cases e
 |some a=>exact II xs 0 fun j v c=>by rw[SN];exact r.cell c
def m8(h:ah)(base sz:Nat)(p:Option Addr)(l c:Nat)(xs:List Value):Prop:=
 xs.length=l*sz∧l≤c∧((p=none∧l=0∧c=0)∨ ∃b a,p=some ⟨b,0,none⟩∧base≤b∧At h b a∧a.length=c*sz∧a.take xs.length=xs)
theorem m8.nil(h:ah)(base sz:Nat):m8 h base sz none 0 0 []:=⟨by simp,VX _,.inl ⟨rfl,rfl,rfl⟩⟩
theorem m8.row{h:ah}{base sz:Nat}{p:Option Addr}{l c:Nat}{xs:List Value}(o:m8 h base sz p l c xs):bD h p xs:=by
 obtain⟨j,_,⟨rfl,rfl,rfl⟩|⟨b,e,rfl,k,a,f,g⟩⟩:=o
 ·have:xs=[]:=Wn.1 (by simpa using j);exact .inl this
 ·have d:xs.length≤e.length:=by rw[←g];simp;omega
  refine .inr ⟨_,rfl,rfl,e,a.r,by simpa using d,fun i hi=> ?_⟩;rw[SN]
  conv=>rhs;rw[←g,Xk,if_pos hi]
theorem m8.frame{S:Nat→Prop}{h e:ah}{base sz:Nat}{p:Option Addr}{l c:Nat}{xs:List Value}(o:m8 h base sz p l c xs)(f:cd S h e)(m: ∀b,base≤b→b<h.size→ ¬S b):m8 e base sz p l c xs:=by
 obtain⟨j,i,⟨rfl,rfl,rfl⟩|⟨b,k,rfl,g,a,d,n⟩⟩:=o
 ·exact⟨j,i,.inl ⟨rfl,rfl,rfl⟩⟩
 ·exact⟨j,i,.inr ⟨b,k,rfl,g,f.at a (m b g a.lt),d,n⟩⟩
theorem m8.frame0{h a:ah}{base sz:Nat}{p:Option Addr}{l c:Nat}{xs:List Value}(o:m8 h base sz p l c xs)(f:cd no h a):m8 a base sz p l c xs:=o.frame f fun _ _ _ h=>h
theorem m8.mono{h:ah}{base a sz:Nat}{p:Option Addr}{l c:Nat}{xs:List Value}(o:m8 h base sz p l c xs)(k:a≤base):m8 h a sz p l c xs:=by
 obtain⟨i,g,h|⟨b,j,m,f,e,d,n⟩⟩:=o
 ·exact⟨i,g,.inl h⟩
 ·exact⟨i,g,.inr ⟨b,j,m,W3 k f,e,d,n⟩⟩
theorem sy(a b:Nat)(h:b<a):Builtin.nextslicecap a b≤2*a+1024:=by
 unfold Builtin.nextslicecap;split
 ·omega
 ·split
  ·omega
  ·have: ∀r c,Builtin.growBy a r c≤max c (a+(a+768) / 4):=by
    intro r
    induction r with
    |zero=>intro c;simp[Builtin.growBy];omega
    |succ r d=>
     intro c;simp only[Builtin.growBy];split
     ·omega
     ·have:=d (c+(c+768) / 4);omega
   have:=this 4 b;omega
theorem m9{b:Nat}{K:ah→Prop}: ∀(a:List Value)(h:ah)(c:List Value)(k i:Nat),At h b c→k+i+a.length≤c.length→(∀y∈a,ib y=true)→
 (∀g,g.size=h.size→At g b (c.take (k+i)++a++c.drop (k+i+a.length))→cd (fun j=>j=b) h g→K g)→aZ a h ⟨b,k,none⟩ i K
 |[],h,c,k,i,hat,hl,_,H=>H h rfl (by simpa using hat) (cd.refl _ _)
 |y::a,h,c,k,i,hat,hl,h1,H=>by
  simp only[aZ,h1 y (by simp)];rw[aR];simp only[VS]at hl;refine kY hat (by omega) fun l r f m=> ?_;refine m9 a l _ k (i+1) f (by simp;omega) (fun z t=>h1 z (by simp[t])) fun q s d n=> ?_;refine H q (by omega) ?_ (m.trans n);have e:(c.set (k+i) y).take (k+(i+1))++a++(c.set (k+i) y).drop (k+(i+1)+a.length)=c.take (k+i)++(y::a)++c.drop (k+i+(a.length+1)):=by
   have o:(c.set (k+i) y).take (k+(i+1))=c.take (k+i)++[y]:=by
    rw[show k+(i+1)=k+i+1 by omega,gD (by simp;omega)];simp only[List.take_set,Xl];rw[List.set_eq_of_length_le (by simp;omega)]
   have p:(c.set (k+i) y).drop (k+(i+1)+a.length)=c.drop (k+i+(a.length+1)):=by
    rw[List.drop_set];rw[if_pos (by omega),show k+(i+1)+a.length=k+i+(a.length+1) by omega]
   rw[o,p];simp
  rw[e]at d;simpa using d
theorem IJ{e sz d:Nat}{z:Value}{p:Option Addr}{l c n base:Nat}{q:Option Addr}{h:ah}{xs ys:List Value}{K:Option Addr→Nat→Nat→ah→Prop}
 (o:m8 h base sz p l c xs) (f:base≤h.size) (A:z.cells.size=sz) (u:d≠0) (k:(2*(l+n)+1024)*d≤2 ^ 48) (N:bD h q ys) (a:ys.length=n*sz) (F: ∀y∈ys,ib y=true)
 (H: ∀p' l' c' g,l'=l+n→m8 g base sz p' l' c' (xs++ys)→cd (fun b=>base≤b) h g→h.size≤g.size→K p' l' c' g):eI e sz d z p l c q n h K:=by
 unfold eI Pk;refine⟨ys,N.readO a,fun m=> ?_,fun x=>⟨u,?_,xs,o.row.readO o.1,fun D v=> ?_⟩⟩
 ·obtain⟨w,P,⟨rfl,rfl,rfl⟩|⟨b,s,rfl,G,t,r,L⟩⟩:=o
  ·have J:n=0:=by omega
   subst J;have C:ys=[]:=Wn.1 (by simpa using a);have B:xs=[]:=Wn.1 (by simpa using w);subst C;subst B;exact⟨_,_,_,rfl,H none 0 0 h rfl (m8.nil _ _ _) (cd.refl _ _) (VX _)⟩
  ·simp only;rw[aR,SN];have E:l*sz+n*sz≤s.length:=by rw[r,←Wr];exact Wu _ m
   refine m9 ys h s (l*sz) 0 t (by omega) F fun g Q j I=> ?_;refine⟨_,_,_,rfl,H _ _ _ g rfl ?_ (I.mono fun i _ hi=>by omega) (by omega)⟩;refine⟨by rw[Tz,w,a,Wr],m,.inr ⟨b,_,rfl,G,j,?_,?_⟩⟩
   ·simp only[We,Tz,VV,Wh];omega
   ·have M:s.take (l*sz)=xs:=by rw[←w];exact L
    simp only[We,M];rw[VY,←VY xs ys];rw[W6 (by simp)];rw[py (by simp)]
 ·exact W3 (Wu _ (sy _ _ x)) k
 ·refine⟨_,_,_,rfl,H _ _ _ _ rfl ?_ (cd.push _ _ _) (by simp)⟩;refine⟨by rw[Tz,o.1,a,Wr],v,.inr ⟨h.size,_,rfl,f,At.new h _ e,?_,?_⟩⟩
  ·have O:(Builtin.zeroCells z.cells (D-(l+n))).toList.length=(D-(l+n))*sz:=by simp[Builtin.zeroCells,A]
   simp only[Tz,O,o.1,a];rw[←Wr,←Wr];congr 1;omega
  ·rw[W6 (by simp),py (by simp)]
