/- Sh, part 10: how formulas over heaps are proved: blocks, rows, frames; rules for each word of part 9. -/
import Derived.Test.YtdhpmegbmjoekaaGreatDoorShW
set_option linter.unusedSimpArgs false
set_option linter.unusedVariables false
namespace Go.Sh
theorem al {n:Int} (h: -9223372036854775808≤n∧n<9223372036854775808):IntKind.wrap .i64 n=n:=by
 simp only[IntKind.wrap,IntKind.bits,IntKind.signed];simp;omega
def At (h:af) (b:Nat) (cs:List Value):Prop:= ∃(e:TypeId) (lo hi:Nat),h[b]? =some (.cells cs.toArray e (lo,hi))∧(lo≥cs.length∨hi≤lo)
structure cp (S:Nat→Prop) (h h':af):Prop where
 size:h.size≤h'.size
 same: ∀b,b<h.size→ ¬S b→h'[b]? =h[b]?
def no:Nat→Prop:=fun _=>False
theorem At.lt {h:af} {b:Nat} {cs:List Value} (a:At h b cs):b<h.size:=by
 obtain⟨e,lo,hi,c,_⟩:=a;exact(Vl.1 c).1
theorem cp.refl (S:Nat→Prop) (h:af):cp S h h:=⟨U3 _,fun _ _ _=>rfl⟩
theorem cp.trans {S:Nat→Prop} {a b c:af} (h:cp S a b) (k:cp S b c):cp S a c:=
 ⟨VZ h.size k.size,fun i hi d=>(k.same i (Wd hi h.size) d).trans (h.same i hi d)⟩
theorem cp.mono {S T:Nat→Prop} {a b:af} (h:cp S a b) (st: ∀i,i<a.size→S i→T i):cp T a b:=
 ⟨h.size,fun i hi d=>h.same i hi fun c=>d (st i hi c)⟩
theorem cp.at {S:Nat→Prop} {h c:af} (f:cp S h c) {b:Nat} {cs:List Value} (a:At h b cs) (i: ¬S b):At c b cs:=by
 have g:=a.lt;obtain⟨e,lo,hi,d,j⟩:=a;exact⟨e,lo,hi,by rw[f.same b g i];exact d,j⟩
theorem cp.at0 {h c:af} (f:cp no h c) {b:Nat} {cs:List Value} (a:At h b cs):At c b cs:=f.at a fun h=>h
theorem cp.own {c a b:af} {base:Nat} (h:cp no c a) (k:cp (fun i=>base≤i) a b) (e:c.size≤base):cp no c b:=
 ⟨VZ h.size k.size,fun i hi d=>(k.same i (Wd hi h.size) (by omega)).trans (h.same i hi d)⟩
theorem cp.one {c a b:af} {j:Nat} (h:cp no c a) (k:cp (fun i=>i=j) a b) (e:c.size≤j):cp no c b:=
 ⟨VZ h.size k.size,fun i hi d=>(k.same i (Wd hi h.size) (by omega)).trans (h.same i hi d)⟩
theorem cp.two {b base:Nat} {a c d:af} (h:cp (fun i=>i=b) a c) (k:cp (fun i=>base≤i) c d) (f:a.size≤base):cp (fun i=>i=b) a d:=
 ⟨VZ h.size k.size,fun i hi e=>(k.same i (Wd hi h.size) (by omega)).trans (h.same i hi e)⟩
theorem At.cell {h:af} {b k:Nat} {cs:List Value} {v:Value} (a:At h b cs) (d:cs[k]? =some v):aD h ⟨b,k,none⟩=some v:=by
 obtain⟨e,lo,hi,c,_⟩:=a;simp only[aD,c];simpa using d
theorem At.frozen {h:af} {b k:Nat} {cs:List Value} (a:At h b cs) (f:k<cs.length):vH h ⟨b,k,none⟩=false:=by
 obtain⟨e,lo,hi,c,d⟩:=a;simp only[vH,c];rcases d with h|h<;>simp<;>omega
theorem At.new (h:af) (cs:List Value) (e:TypeId):At (h.push (.cells cs.toArray e (0,0))) h.size cs:=
 ⟨e,0,0,by simp,.inr (U3 _)⟩
theorem cp.push (S:Nat→Prop) (h:af) (o:Obj):cp S h (h.push o):=⟨by simp,fun b a _=>by rw[Array.getElem?_push,if_neg (by omega)]⟩
theorem At.set {h:af} {b k:Nat} {cs:List Value} (a:At h b cs) (v:Value):At (FX h ⟨b,k,none⟩ v) b (cs.set k v):=by
 obtain⟨e,lo,hi,c,d⟩:=a;refine⟨e,lo,hi,?_,by simpa using d⟩;simp only[FX,Array.getElem?_modify,if_true,c,Option.map_some];simp
theorem cp.set (h:af) (b k:Nat) (v:Value):cp (fun i=>i=b) h (FX h ⟨b,k,none⟩ v):=
 ⟨by simp[FX],fun i hi a=>by simp only[FX,Array.getElem?_modify];rw[if_neg (by omega)]⟩
theorem M8 (h:af) (a:Addr) (v:Value):(FX h a v).size=h.size:=by simp[FX]
theorem oT {b:Bool} {A B:Prop} (a:b=true→A) (c:b=false→B):aG b A B:=⟨a,c⟩
theorem cI {b:Bool} {A B:Prop} (h:b=true) (a:A):aG b A B:=⟨fun _=>a,fun e=>by rw[h] at e;cases e⟩
theorem bQ {b:Bool} {A B:Prop} (h:b=false) (a:B):aG b A B:=⟨fun e=>(by rw[h] at e;cases e),fun _=>a⟩
theorem am {p:Prop} [Decidable p] {A B:Prop} (a:p→A) (b: ¬p→B):aG (decide p) A B:=⟨fun e=>a (of_decide_eq_true e),fun e=>b (of_decide_eq_false e)⟩
theorem bz {a:Addr} {K:Addr→Prop} (h:K a):cu (some a) K:=⟨a,rfl,h⟩
theorem ae {k:IntKind} {h:af} {a:Addr} {n:Int} {K:Int→Prop} (b:aD h a=some (.int k n)) (c:K n):ah k h a K:=⟨n,b,c⟩
theorem jz {h:af} {a:Addr} {n:Bool} {K:Bool→Prop} (b:aD h a=some (.bool n)) (c:K n):eT h a K:=⟨n,b,c⟩
theorem oU {h:af} {a:Addr} {n:ByteArray} {K:ByteArray→Prop} (b:aD h a=some (.string n)) (c:K n):tl h a K:=⟨n,b,c⟩
theorem eG {h:af} {a:Addr} {n:Option Addr} {K:Option Addr→Prop} (b:aD h a=some (.pointer n)) (c:K n):i9 h a K:=⟨n,b,c⟩
theorem ak {h:af} {a:Addr} {p:Option Addr} {l c:Nat} {K:Option Addr→Nat→Nat→Prop} (b:aD h a=some (.slice p l c)) (d:K p l c):aq h a K:=⟨p,l,c,b,d⟩
theorem OX {h:af} {cs:List Value} {e:TypeId} {K:Nat→af→Prop} (H: ∀b h',b=h.size→h'.size=h.size+1→At h' b cs→cp no h h'→K b h'):aR h (.cells cs.toArray e (0,0)) K:=
 H _ _ rfl (by simp) (At.new h cs e) (cp.push _ h _)
theorem OY {h:af} {b k:Nat} {cs:List Value} {v:Value} {K:af→Prop} (a:At h b cs) (c:k<cs.length) (H: ∀h',h'.size=h.size→At h' b (cs.set k v)→cp (fun i=>i=b) h h'→K h'):aW h ⟨b,k,none⟩ v K:=
 ⟨⟨cs[k],a.cell (aO c)⟩,a.frozen c,H _ (M8 _ _ _) (a.set v) (cp.set _ _ _ _)⟩
theorem ko {i:Int} {y n:Nat} {K:Nat→Prop} (h0:i=n) (b:n≤y) (a:K n):u9 i y K:=⟨by omega,by omega,by subst h0;simpa using a⟩
theorem aP {S:Type} {B:(S→af→Prop)→S→af→Prop} {s:S} {h:af} (a:Nat→S→af→Prop) (n:Nat) (h0:a n s h)
 (step: ∀n s h,a n s h→B (fun s' h'=> ∃m,m<n∧a m s' h') s h):aZ B s h:=⟨a,⟨n,h0⟩,step⟩
theorem aQ (b k n:Nat):Addr.add ⟨b,k,none⟩ n=⟨b,k+n,none⟩:=by
 unfold Addr.add;split
 ·rename_i h;subst h;rfl
 ·rfl
theorem rW (a:Addr) (m:Nat) {n:Nat} (c:n≠0):Addr.add (Addr.add a m) n=Addr.add a (m+n):=by
 have b: ¬m+n=0:=by omega
 unfold Addr.add;rw[if_neg c,if_neg b];split
 ·rename_i h;subst h;simp
 ·simp[Nat.add_assoc]
theorem OZ (p:Option Addr) (s:Nat):Option.map (fun a=>Addr.add a (0*s)) p=p:=by
 cases p with
 |none=>rfl
 |some a=>simp[Addr.add]
def QD (h:af) (b:Nat) (cs:List Value):Prop:= ∃(e:TypeId) (f:Nat×Nat),h[b]? =some (.cells cs.toArray e f)
theorem At.r {h:af} {b:Nat} {cs:List Value} (a:At h b cs):QD h b cs:=by obtain⟨e,lo,hi,c,_⟩:=a;exact⟨e,_,c⟩
theorem QD.lt {h:af} {b:Nat} {cs:List Value} (a:QD h b cs):b<h.size:=by
 obtain⟨e,f,c⟩:=a;exact(Vl.1 c).1
theorem QD.cell {h:af} {b k:Nat} {cs:List Value} {v:Value} (a:QD h b cs) (d:cs[k]? =some v):aD h ⟨b,k,none⟩=some v:=by
 obtain⟨e,f,c⟩:=a;simp only[aD,c];simpa using d
theorem cp.rat {S:Nat→Prop} {h c:af} (f:cp S h c) {b:Nat} {cs:List Value} (a:QD h b cs) (j: ¬S b):QD c b cs:=by
 have i:=a.lt;obtain⟨e,g,d⟩:=a;exact⟨e,g,by rw[f.same b i j];exact d⟩
def bI (h:af) (p:Option Addr) (xs:List Value):Prop:=
 xs=[]∨ ∃a,p=some a∧a.spot=none∧ ∃b,QD h a.block b∧a.off+xs.length≤b.length∧ ∀i,i<xs.length→b[a.off+i]? =xs[i]?
theorem bI.nil (h:af) (p:Option Addr):bI h p []:= .inl rfl
theorem bI.cell {h:af} {a:Addr} {xs:List Value} (r:bI h (some a) xs) {i:Nat} {v:Value} (d:xs[i]? =some v):aD h (Addr.add a i)=some v:=by
 rcases r with rfl|⟨j,e,f,k,c,l,g⟩
 ·simp at d
 ·cases e;have hi:i<xs.length:=(Pt.1 d).1;obtain⟨b,o,m⟩:=a;simp only at f;subst f;rw[aQ];exact c.cell (by rw[g i hi];exact d)
theorem bI.frame {S:Nat→Prop} {h c:af} {p:Option Addr} {xs:List Value} (r:bI h p xs) (f:cp S h c) (j: ∀a,p=some a→a.block<h.size→ ¬S a.block):bI c p xs:=by
 rcases r with rfl|⟨a,rfl,e,d,b,i,g⟩
 ·exact .inl rfl
 ·exact .inr ⟨a,rfl,e,d,f.rat b (j a rfl b.lt),i,g⟩
theorem bI.frame0 {h a:af} {p:Option Addr} {xs:List Value} (r:bI h p xs) (f:cp no h a):bI a p xs:=r.frame f fun _ _ _ h=>h
theorem bI.take {h:af} {p:Option Addr} {xs:List Value} (r:bI h p xs) (n:Nat):bI h p (xs.take n):=by
 rcases r with rfl|⟨a,rfl,d,c,b,f,e⟩
 ·exact .inl (by simp)
 ·refine .inr ⟨a,rfl,d,c,b,by simp;omega,fun i hi=> ?_⟩;simp at hi;rw[e i (by omega),Wl,if_pos (by omega)]
theorem bI.of_rat {h:af} {b:Nat} {cs:List Value} (a:QD h b cs):bI h (some ⟨b,0,none⟩) cs:= .inr ⟨_,rfl,rfl,cs,a,by simp,fun i _=>by simp⟩
theorem bI.of_at {h:af} {b:Nat} {cs:List Value} (a:At h b cs):bI h (some ⟨b,0,none⟩) cs:= .of_rat a.r
theorem bI.drop {h:af} {a:Addr} {xs:List Value} (r:bI h (some a) xs) (n:Nat) (l:n≤xs.length):bI h (some (Addr.add a n)) (xs.drop n):=by
 rcases r with rfl|⟨j,e,d,f,c,k,g⟩
 ·exact .inl (by simp)
 ·cases e;obtain⟨b,o,m⟩:=a;simp only at d;subst d;rw[aQ];refine .inr ⟨_,rfl,rfl,f,c,by simp only[VF] at *;omega,fun i hi=> ?_⟩;simp only[VF] at hi;have:=g (n+i) (by omega);simp only at this ⊢;rw[Nat.add_assoc,this,VI]
def az (xs:List Int):List Value:=xs.map (Value.int .i64)
theorem av (xs:List Int):(az xs).length=xs.length:=by simp[az]
theorem aI {xs:List Int} {i:Nat} {n:Int} (h:xs[i]? =some n):(az xs)[i]? =some (.int .i64 n):=by simp[az,h]
theorem aB {p:Option Addr} {i:Int} {len k:Nat} {a:Addr} {K:Addr→Prop} (b:p=some a) (hi:i=k) (c:k<len) (H:K a):aS p i len K:=⟨a,b,by omega,by omega,H⟩
theorem bI.some_of {h:af} {p:Option Addr} {xs:List Value} (r:bI h p xs) (b:0<xs.length): ∃a,p=some a:=by
 rcases r with rfl|⟨a,rfl,_⟩
 ·simp at b
 ·exact⟨a,rfl⟩
theorem Jp {h:af} {a:Addr}: ∀(xs:List Value) (i:Nat),(∀j v,xs[j]? =some v→aD h (Addr.add a (i+j))=some v)→Jb h a i xs.length xs
 |[],i,_=>rfl
 |x::r,i,hx=>⟨x,r,by have:=hx 0 x rfl;rwa [Va] at this,Jp r (i+1) (fun j v b=>by have:=hx (j+1) v (by simpa using b);rwa [show i+(j+1)=i+1+j by omega] at this),rfl⟩
theorem bI.readO {h:af} {p:Option Addr} {xs:List Value} (r:bI h p xs) {n:Nat} (b:xs.length=n):readO h p n xs:=by
 subst b;cases p with
 |none=>
  rcases r with rfl|⟨a,e,_⟩
  ·rfl
  ·cases e
 |some a=>exact Jp xs 0 fun j v c=>by rw[SI];exact r.cell c
def qB (h:af) (base sz:Nat) (p:Option Addr) (l c:Nat) (xs:List Value):Prop:=
 xs.length=l*sz∧l≤c∧((p=none∧l=0∧c=0)∨ ∃b a,p=some ⟨b,0,none⟩∧base≤b∧At h b a∧a.length=c*sz∧a.take xs.length=xs)
theorem qB.nil (h:af) (base sz:Nat):qB h base sz none 0 0 []:=⟨by simp,U3 _,.inl ⟨rfl,rfl,rfl⟩⟩
theorem qB.row {h:af} {base sz:Nat} {p:Option Addr} {l c:Nat} {xs:List Value} (o:qB h base sz p l c xs):bI h p xs:=by
 obtain⟨j,_,⟨rfl,rfl,rfl⟩|⟨b,e,rfl,k,a,f,g⟩⟩:=o
 ·have:xs=[]:=Vm.1 (by simpa using j);exact .inl this
 ·have d:xs.length≤e.length:=by rw[←g];simp;omega
  refine .inr ⟨_,rfl,rfl,e,a.r,by simpa using d,fun i hi=> ?_⟩;rw[SI]
  conv=>rhs;rw[←g,Wl,if_pos hi]
theorem qB.frame {S:Nat→Prop} {h e:af} {base sz:Nat} {p:Option Addr} {l c:Nat} {xs:List Value} (o:qB h base sz p l c xs) (f:cp S h e) (m: ∀b,base≤b→b<h.size→ ¬S b):qB e base sz p l c xs:=by
 obtain⟨j,i,⟨rfl,rfl,rfl⟩|⟨b,k,rfl,g,a,d,n⟩⟩:=o
 ·exact⟨j,i,.inl ⟨rfl,rfl,rfl⟩⟩
 ·exact⟨j,i,.inr ⟨b,k,rfl,g,f.at a (m b g a.lt),d,n⟩⟩
theorem qB.frame0 {h a:af} {base sz:Nat} {p:Option Addr} {l c:Nat} {xs:List Value} (o:qB h base sz p l c xs) (f:cp no h a):qB a base sz p l c xs:=o.frame f fun _ _ _ h=>h
theorem qB.mono {h:af} {base a sz:Nat} {p:Option Addr} {l c:Nat} {xs:List Value} (o:qB h base sz p l c xs) (k:a≤base):qB h a sz p l c xs:=by
 obtain⟨i,g,h|⟨b,j,m,f,e,d,n⟩⟩:=o
 ·exact⟨i,g,.inl h⟩
 ·exact⟨i,g,.inr ⟨b,j,m,VZ k f,e,d,n⟩⟩
theorem tp (a b:Nat) (h:b<a):Builtin.nextslicecap a b≤2*a+1024:=by
 unfold Builtin.nextslicecap;split
 ·omega
 ·split
  ·omega
  ·have: ∀r c,Builtin.growBy a r c≤max c (a+(a+768) / 4):=by
    intro r
    induction r with
    |zero=>intro c;simp[Builtin.growBy];omega
    |succ r d=>
     intro c;simp only[Builtin.growBy];split
     ·omega
     ·have:=d (c+(c+768) / 4);omega
   have:=this 4 b;omega
theorem nM {b:Nat} {K:af→Prop}: ∀(a:List Value) (h:af) (c:List Value) (k i:Nat),At h b c→k+i+a.length≤c.length→(∀y∈a,lK y=true)→
 (∀g,g.size=h.size→At g b (c.take (k+i)++a++c.drop (k+i+a.length))→cp (fun j=>j=b) h g→K g)→bj a h ⟨b,k,none⟩ i K
 |[],h,c,k,i,hat,hl,_,H=>H h rfl (by simpa using hat) (cp.refl _ _)
 |y::a,h,c,k,i,hat,hl,h1,H=>by
  simp only[bj,h1 y (by simp)];rw[aQ];simp only[UY] at hl;refine OY hat (by omega) fun l r f m=> ?_;refine nM a l _ k (i+1) f (by simp;omega) (fun z t=>h1 z (by simp[t])) fun q s d n=> ?_;refine H q (by omega) ?_ (m.trans n);have e:(c.set (k+i) y).take (k+(i+1))++a++(c.set (k+i) y).drop (k+(i+1)+a.length)=c.take (k+i)++(y::a)++c.drop (k+i+(a.length+1)):=by
   have o:(c.set (k+i) y).take (k+(i+1))=c.take (k+i)++[y]:=by
    rw[show k+(i+1)=k+i+1 by omega,py (by simp;omega)];simp only[List.take_set,Wq];rw[List.set_eq_of_length_le (by simp;omega)]
   have p:(c.set (k+i) y).drop (k+(i+1)+a.length)=c.drop (k+i+(a.length+1)):=by
    rw[List.drop_set];rw[if_pos (by omega),show k+(i+1)+a.length=k+i+(a.length+1) by omega]
   rw[o,p];simp
  rw[e] at d;simpa using d
theorem O0 {e sz d:Nat} {z:Value} {p:Option Addr} {l c n base:Nat} {q:Option Addr} {h:af} {xs ys:List Value} {K:Option Addr→Nat→Nat→af→Prop}
 (o:qB h base sz p l c xs) (f:base≤h.size) (A:z.cells.size=sz) (u:d≠0) (k:(2*(l+n)+1024)*d≤2 ^ 48) (N:bI h q ys) (a:ys.length=n*sz) (F: ∀y∈ys,lK y=true)
 (H: ∀p' l' c' g,l'=l+n→qB g base sz p' l' c' (xs++ys)→cp (fun b=>base≤b) h g→h.size≤g.size→K p' l' c' g):dx e sz d z p l c q n h K:=by
 unfold dx OC;refine⟨ys,N.readO a,fun m=> ?_,fun x=>⟨u,?_,xs,o.row.readO o.1,fun D v=> ?_⟩⟩
 ·obtain⟨w,P,⟨rfl,rfl,rfl⟩|⟨b,s,rfl,G,t,r,L⟩⟩:=o
  ·have J:n=0:=by omega
   subst J;have C:ys=[]:=Vm.1 (by simpa using a);have B:xs=[]:=Vm.1 (by simpa using w);subst C;subst B;exact⟨_,_,_,rfl,H none 0 0 h rfl (qB.nil _ _ _) (cp.refl _ _) (U3 _)⟩
  ·simp only;rw[aQ,SI];have E:l*sz+n*sz≤s.length:=by rw[r,←Vt];exact Vn _ m
   refine nM ys h s (l*sz) 0 t (by omega) F fun g Q j I=> ?_;refine⟨_,_,_,rfl,H _ _ _ g rfl ?_ (I.mono fun i _ hi=>by omega) (by omega)⟩;refine⟨by rw[Rb,w,a,Vt],m,.inr ⟨b,_,rfl,G,j,?_,?_⟩⟩
   ·simp only[Va,Rb,U0,VF];omega
   ·have M:s.take (l*sz)=xs:=by rw[←w];exact L
    simp only[Va,M];rw[U6,←U6 xs ys];rw[V3 (by simp)];rw[N6 (by simp)]
 ·exact VZ (Vn _ (tp _ _ x)) k
 ·refine⟨_,_,_,rfl,H _ _ _ _ rfl ?_ (cp.push _ _ _) (by simp)⟩;refine⟨by rw[Rb,o.1,a,Vt],v,.inr ⟨h.size,_,rfl,f,At.new h _ e,?_,?_⟩⟩
  ·have O:(Builtin.zeroCells z.cells (D-(l+n))).toList.length=(D-(l+n))*sz:=by simp[Builtin.zeroCells,A]
   simp only[Rb,O,o.1,a];rw[←Vt,←Vt];congr 1;omega
  ·rw[V3 (by simp),N6 (by simp)]
end Go.Sh

