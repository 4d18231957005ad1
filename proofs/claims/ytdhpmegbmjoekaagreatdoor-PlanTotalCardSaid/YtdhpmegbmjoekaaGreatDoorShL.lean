/- Sh, part 10: how formulas over heaps are proved: blocks, rows, frames; rules for each word of part 9. -/
import Derived.Test.YtdhpmegbmjoekaaGreatDoorShW
set_option linter.unusedVariables false
namespace Go.Sh
theorem al {n:Int} (h: -9223372036854775808≤n∧n<9223372036854775808):IntKind.wrap .i64 n=n:=by
 simp only[IntKind.wrap,IntKind.bits,IntKind.signed];simp;omega
def At (h:ae) (b:Nat) (cs:List Value):Prop:= ∃(e:TypeId) (lo hi:Nat),h[b]? =some (.cells cs.toArray e (lo,hi))∧(lo≥cs.length∨hi≤lo)
structure cu (S:Nat→Prop) (h h':ae):Prop where
 size:h.size≤h'.size
 same: ∀b,b<h.size→ ¬S b→h'[b]? =h[b]?
def no:Nat→Prop:=fun _=>False
theorem At.lt {h:ae} {b:Nat} {cs:List Value} (a:At h b cs):b<h.size:=by
 obtain⟨e,lo,hi,hb,_⟩:=a
 exact(Array.getElem?_eq_some_iff.1 hb).1
theorem cu.refl (S:Nat→Prop) (h:ae):cu S h h:=⟨Nat.le_refl _,fun _ _ _=>rfl⟩
theorem cu.trans {S:Nat→Prop} {a b c:ae} (h:cu S a b) (k:cu S b c):cu S a c:=
 ⟨Nat.le_trans h.size k.size,fun i hi hs=>(k.same i (Nat.lt_of_lt_of_le hi h.size) hs).trans (h.same i hi hs)⟩
theorem cu.mono {S T:Nat→Prop} {a b:ae} (h:cu S a b) (st: ∀i,i<a.size→S i→T i):cu T a b:=
 ⟨h.size,fun i hi ht=>h.same i hi fun hs=>ht (st i hi hs)⟩
theorem cu.at {S:Nat→Prop} {h h':ae} (f:cu S h h') {b:Nat} {cs:List Value} (a:At h b cs) (hs: ¬S b):At h' b cs:=by
 have hl:=a.lt
 obtain⟨e,lo,hi,hb,hz⟩:=a
 exact⟨e,lo,hi,by rw[f.same b hl hs];exact hb,hz⟩
theorem cu.own {a0 a b:ae} {base:Nat} (h:cu no a0 a) (k:cu (fun i=>base≤i) a b) (hb:a0.size≤base):cu no a0 b:=
 ⟨Nat.le_trans h.size k.size,fun i hi hs=>(k.same i (Nat.lt_of_lt_of_le hi h.size) (by omega)).trans (h.same i hi hs)⟩
theorem cu.one {a0 a b:ae} {j:Nat} (h:cu no a0 a) (k:cu (fun i=>i=j) a b) (hb:a0.size≤j):cu no a0 b:=
 ⟨Nat.le_trans h.size k.size,fun i hi hs=>(k.same i (Nat.lt_of_lt_of_le hi h.size) (by omega)).trans (h.same i hi hs)⟩
theorem cu.two {b base:Nat} {a0 a1 a2:ae} (h:cu (fun i=>i=b) a0 a1) (k:cu (fun i=>base≤i) a1 a2) (hb:a0.size≤base):cu (fun i=>i=b) a0 a2:=
 ⟨Nat.le_trans h.size k.size,fun i hi hs=>(k.same i (Nat.lt_of_lt_of_le hi h.size) (by omega)).trans (h.same i hi hs)⟩
theorem At.cell {h:ae} {b k:Nat} {cs:List Value} {v:Value} (a:At h b cs) (hk:cs[k]? =some v):aD h ⟨b,k,none⟩=some v:=by
 obtain⟨e,lo,hi,hb,_⟩:=a
 simp only[aD,hb]
 simpa using hk
theorem At.frozen {h:ae} {b k:Nat} {cs:List Value} (a:At h b cs) (hk:k<cs.length):ub h ⟨b,k,none⟩=false:=by
 obtain⟨e,lo,hi,hb,hz⟩:=a
 simp only[ub,hb]
 rcases hz with h|h<;>simp<;>omega
theorem At.new (h:ae) (cs:List Value) (e:TypeId):At (h.push (.cells cs.toArray e (0,0))) h.size cs:=
 ⟨e,0,0,by simp,.inr (Nat.le_refl _)⟩
theorem cu.push (S:Nat→Prop) (h:ae) (o:Obj):cu S h (h.push o):=⟨by simp,fun b hb _=>by rw[Array.getElem?_push,if_neg (by omega)]⟩
theorem At.set {h:ae} {b k:Nat} {cs:List Value} (a:At h b cs) (v:Value):At (Et h ⟨b,k,none⟩ v) b (cs.set k v):=by
 obtain⟨e,lo,hi,hb,hz⟩:=a
 refine⟨e,lo,hi,?_,by simpa using hz⟩
 simp only[Et,Array.getElem?_modify,if_true,hb,Option.map_some]
 simp
theorem cu.set (h:ae) (b k:Nat) (v:Value):cu (fun i=>i=b) h (Et h ⟨b,k,none⟩ v):=
 ⟨by simp[Et],fun i hi hs=>by simp only[Et,Array.getElem?_modify];rw[if_neg (by omega)]⟩
theorem Lj (h:ae) (a:Addr) (v:Value):(Et h a v).size=h.size:=by simp[Et]
theorem tz {b:Bool} {A B:Prop} (ha:b=true→A) (hb:b=false→B):aL b A B:=⟨ha,hb⟩
theorem cq {b:Bool} {A B:Prop} (h:b=true) (ha:A):aL b A B:=⟨fun _=>ha,fun e=>by rw[h] at e;cases e⟩
theorem bQ {b:Bool} {A B:Prop} (h:b=false) (hb:B):aL b A B:=⟨fun e=>(by rw[h] at e;cases e),fun _=>hb⟩
theorem au {p:Prop} [Decidable p] {A B:Prop} (ha:p→A) (hb: ¬p→B):aL (decide p) A B:=⟨fun e=>ha (of_decide_eq_true e),fun e=>hb (of_decide_eq_false e)⟩
theorem bK {a:Addr} {K:Addr→Prop} (h:K a):cH (some a) K:=⟨a,rfl,h⟩
theorem af {k:IntKind} {h:ae} {a:Addr} {n:Int} {K:Int→Prop} (hc:aD h a=some (.int k n)) (hk:K n):ah k h a K:=⟨n,hc,hk⟩
theorem tA {h:ae} {a:Addr} {n:Bool} {K:Bool→Prop} (hc:aD h a=some (.bool n)) (hk:K n):qx h a K:=⟨n,hc,hk⟩
theorem uf {h:ae} {a:Addr} {n:ByteArray} {K:ByteArray→Prop} (hc:aD h a=some (.string n)) (hk:K n):vw h a K:=⟨n,hc,hk⟩
theorem dZ {h:ae} {a:Addr} {n:Option Addr} {K:Option Addr→Prop} (hc:aD h a=some (.pointer n)) (hk:K n):i8 h a K:=⟨n,hc,hk⟩
theorem am {h:ae} {a:Addr} {p:Option Addr} {l c:Nat} {K:Option Addr→Nat→Nat→Prop} (hc:aD h a=some (.slice p l c)) (hk:K p l c):av h a K:=⟨p,l,c,hc,hk⟩
theorem MY {h:ae} {cs:List Value} {e:TypeId} {K:Nat→ae→Prop} (H: ∀b h',b=h.size→h'.size=h.size+1→At h' b cs→cu no h h'→K b h'):aW h (.cells cs.toArray e (0,0)) K:=
 H _ _ rfl (by simp) (At.new h cs e) (cu.push _ h _)
theorem MZ {h:ae} {b k:Nat} {cs:List Value} {v:Value} {K:ae→Prop} (a:At h b cs) (hk:k<cs.length) (H: ∀h',h'.size=h.size→At h' b (cs.set k v)→cu (fun i=>i=b) h h'→K h'):bu h ⟨b,k,none⟩ v K:=
 ⟨⟨cs[k],a.cell (List.getElem?_eq_getElem hk)⟩,a.frozen hk,H _ (Lj _ _ _) (a.set v) (cu.set _ _ _ _)⟩
theorem ja {i:Int} {y n:Nat} {K:Nat→Prop} (h0:i=n) (h1:n≤y) (hk:K n):qy i y K:=⟨by omega,by omega,by subst h0;simpa using hk⟩
theorem aT {S:Type} {B:(S→ae→Prop)→S→ae→Prop} {s:S} {h:ae} (inv:Nat→S→ae→Prop) (n:Nat) (h0:inv n s h)
 (step: ∀n s h,inv n s h→B (fun s' h'=> ∃m,m<n∧inv m s' h') s h):bB B s h:=⟨inv,⟨n,h0⟩,step⟩
theorem aY (b k n:Nat):Addr.add ⟨b,k,none⟩ n=⟨b,k+n,none⟩:=by
 unfold Addr.add
 split
 ·rename_i h;subst h;rfl
 ·rfl
theorem ug (a:Addr) (m:Nat) {n:Nat} (hn:n≠0):Addr.add (Addr.add a m) n=Addr.add a (m+n):=by
 have h2: ¬m+n=0:=by omega
 unfold Addr.add
 rw[if_neg hn,if_neg h2]
 split
 ·rename_i h;subst h;simp
 ·simp[Nat.add_assoc]
theorem M0 (p:Option Addr) (s:Nat):Option.map (fun a=>Addr.add a (0*s)) p=p:=by
 cases p with
 |none=>rfl
 |some a=>simp[Addr.add]
def OD (h:ae) (b:Nat) (cs:List Value):Prop:= ∃(e:TypeId) (f:Nat×Nat),h[b]? =some (.cells cs.toArray e f)
theorem At.r {h:ae} {b:Nat} {cs:List Value} (a:At h b cs):OD h b cs:=by obtain⟨e,lo,hi,hb,_⟩:=a;exact⟨e,_,hb⟩
theorem OD.lt {h:ae} {b:Nat} {cs:List Value} (a:OD h b cs):b<h.size:=by
 obtain⟨e,f,hb⟩:=a
 exact(Array.getElem?_eq_some_iff.1 hb).1
theorem OD.cell {h:ae} {b k:Nat} {cs:List Value} {v:Value} (a:OD h b cs) (hk:cs[k]? =some v):aD h ⟨b,k,none⟩=some v:=by
 obtain⟨e,f,hb⟩:=a
 simp only[aD,hb]
 simpa using hk
theorem cu.rat {S:Nat→Prop} {h h':ae} (f:cu S h h') {b:Nat} {cs:List Value} (a:OD h b cs) (hs: ¬S b):OD h' b cs:=by
 have hl:=a.lt
 obtain⟨e,g,hb⟩:=a
 exact⟨e,g,by rw[f.same b hl hs];exact hb⟩
def bT (h:ae) (p:Option Addr) (xs:List Value):Prop:=
 xs=[]∨ ∃a,p=some a∧a.spot=none∧ ∃cs,OD h a.block cs∧a.off+xs.length≤cs.length∧ ∀i,i<xs.length→cs[a.off+i]? =xs[i]?
theorem bT.nil (h:ae) (p:Option Addr):bT h p []:= .inl rfl
theorem bT.cell {h:ae} {a:Addr} {xs:List Value} (r:bT h (some a) xs) {i:Nat} {v:Value} (hv:xs[i]? =some v):aD h (Addr.add a i)=some v:=by
 rcases r with rfl|⟨a',e,hs,cs,hat,hl,hc⟩
 ·simp at hv
 ·cases e
  have hi:i<xs.length:=(List.getElem?_eq_some_iff.1 hv).1
  obtain⟨b,o,sp⟩:=a
  simp only at hs;subst hs
  rw[aY]
  exact hat.cell (by rw[hc i hi];exact hv)
theorem bT.frame {S:Nat→Prop} {h h':ae} {p:Option Addr} {xs:List Value} (r:bT h p xs) (f:cu S h h') (hs: ∀a,p=some a→a.block<h.size→ ¬S a.block):bT h' p xs:=by
 rcases r with rfl|⟨a,rfl,h1,cs,hat,hl,hc⟩
 ·exact .inl rfl
 ·exact .inr ⟨a,rfl,h1,cs,f.rat hat (hs a rfl hat.lt),hl,hc⟩
theorem bT.frame0 {h h':ae} {p:Option Addr} {xs:List Value} (r:bT h p xs) (f:cu no h h'):bT h' p xs:=r.frame f fun _ _ _ h=>h
theorem bT.take {h:ae} {p:Option Addr} {xs:List Value} (r:bT h p xs) (n:Nat):bT h p (xs.take n):=by
 rcases r with rfl|⟨a,rfl,h1,cs,hat,hl,hc⟩
 ·exact .inl (by simp)
 ·refine .inr ⟨a,rfl,h1,cs,hat,by simp;omega,fun i hi=> ?_⟩
  simp at hi
  rw[hc i (by omega),List.getElem?_take,if_pos (by omega)]
theorem bT.of_rat {h:ae} {b:Nat} {cs:List Value} (a:OD h b cs):bT h (some ⟨b,0,none⟩) cs:= .inr ⟨_,rfl,rfl,cs,a,by simp,fun i _=>by simp⟩
theorem bT.of_at {h:ae} {b:Nat} {cs:List Value} (a:At h b cs):bT h (some ⟨b,0,none⟩) cs:= .of_rat a.r
theorem bT.drop {h:ae} {a:Addr} {xs:List Value} (r:bT h (some a) xs) (n:Nat) (hn:n≤xs.length):bT h (some (Addr.add a n)) (xs.drop n):=by
 rcases r with rfl|⟨a',e,h1,cs,hat,hl,hc⟩
 ·exact .inl (by simp)
 ·cases e
  obtain⟨b,o,sp⟩:=a
  simp only at h1;subst h1
  rw[aY]
  refine .inr ⟨_,rfl,rfl,cs,hat,by simp only[List.length_drop] at *;omega,fun i hi=> ?_⟩
  simp only[List.length_drop] at hi
  have:=hc (n+i) (by omega)
  simp only at this ⊢
  rw[Nat.add_assoc,this,List.getElem?_drop]
def az (xs:List Int):List Value:=xs.map (Value.int .i64)
theorem aB (xs:List Int):(az xs).length=xs.length:=by simp[az]
theorem aN {xs:List Int} {i:Nat} {n:Int} (h:xs[i]? =some n):(az xs)[i]? =some (.int .i64 n):=by simp[az,h]
theorem aG {p:Option Addr} {i:Int} {len k:Nat} {a:Addr} {K:Addr→Prop} (hp:p=some a) (hi:i=k) (hk:k<len) (H:K a):bl p i len K:=⟨a,hp,by omega,by omega,H⟩
theorem bT.some_of {h:ae} {p:Option Addr} {xs:List Value} (r:bT h p xs) (hx:0<xs.length): ∃a,p=some a:=by
 rcases r with rfl|⟨a,rfl,_⟩
 ·simp at hx
 ·exact⟨a,rfl⟩
theorem HH {h:ae} {a:Addr}: ∀(xs:List Value) (i:Nat),(∀j v,xs[j]? =some v→aD h (Addr.add a (i+j))=some v)→Hs h a i xs.length xs
 |[],i,_=>rfl
 |x::r,i,hx=>⟨x,r,by have:=hx 0 x rfl;rwa [Nat.add_zero] at this,HH r (i+1) (fun j v hv=>by have:=hx (j+1) v (by simpa using hv);rwa [show i+(j+1)=i+1+j by omega] at this),rfl⟩
theorem bT.readO {h:ae} {p:Option Addr} {xs:List Value} (r:bT h p xs) {n:Nat} (hn:xs.length=n):readO h p n xs:=by
 subst hn
 cases p with
 |none=>
  rcases r with rfl|⟨a,e,_⟩
  ·rfl
  ·cases e
 |some a=>exact HH xs 0 fun j v hv=>by rw[Nat.zero_add];exact r.cell hv
def qF (h:ae) (base sz:Nat) (p:Option Addr) (l c:Nat) (xs:List Value):Prop:=
 xs.length=l*sz∧l≤c∧((p=none∧l=0∧c=0)∨ ∃b cs,p=some ⟨b,0,none⟩∧base≤b∧At h b cs∧cs.length=c*sz∧cs.take xs.length=xs)
theorem qF.nil (h:ae) (base sz:Nat):qF h base sz none 0 0 []:=⟨by simp,Nat.le_refl _,.inl ⟨rfl,rfl,rfl⟩⟩
theorem qF.row {h:ae} {base sz:Nat} {p:Option Addr} {l c:Nat} {xs:List Value} (o:qF h base sz p l c xs):bT h p xs:=by
 obtain⟨hl,_,⟨rfl,rfl,rfl⟩|⟨b,cs,rfl,hb,hat,hlen,ht⟩⟩:=o
 ·have:xs=[]:=List.length_eq_zero_iff.1 (by simpa using hl)
  exact .inl this
 ·have hle:xs.length≤cs.length:=by rw[←ht];simp;omega
  refine .inr ⟨_,rfl,rfl,cs,hat.r,by simpa using hle,fun i hi=> ?_⟩
  rw[Nat.zero_add]
  conv=>rhs;rw[←ht,List.getElem?_take,if_pos hi]
theorem qF.frame {S:Nat→Prop} {h h':ae} {base sz:Nat} {p:Option Addr} {l c:Nat} {xs:List Value} (o:qF h base sz p l c xs) (f:cu S h h') (hs: ∀b,base≤b→b<h.size→ ¬S b):qF h' base sz p l c xs:=by
 obtain⟨hl,hc,⟨rfl,rfl,rfl⟩|⟨b,cs,rfl,hb,hat,hlen,ht⟩⟩:=o
 ·exact⟨hl,hc,.inl ⟨rfl,rfl,rfl⟩⟩
 ·exact⟨hl,hc,.inr ⟨b,cs,rfl,hb,f.at hat (hs b hb hat.lt),hlen,ht⟩⟩
theorem qF.frame0 {h h':ae} {base sz:Nat} {p:Option Addr} {l c:Nat} {xs:List Value} (o:qF h base sz p l c xs) (f:cu no h h'):qF h' base sz p l c xs:=o.frame f fun _ _ _ h=>h
theorem qF.mono {h:ae} {base base' sz:Nat} {p:Option Addr} {l c:Nat} {xs:List Value} (o:qF h base sz p l c xs) (hb:base'≤base):qF h base' sz p l c xs:=by
 obtain⟨hl,hc,h|⟨b,cs,hp,hb',hat,hlen,ht⟩⟩:=o
 ·exact⟨hl,hc,.inl h⟩
 ·exact⟨hl,hc,.inr ⟨b,cs,hp,Nat.le_trans hb hb',hat,hlen,ht⟩⟩
theorem rO (need cap:Nat) (h:cap<need):Builtin.nextslicecap need cap≤2*need+1024:=by
 unfold Builtin.nextslicecap
 split
 ·omega
 ·split
  ·omega
  ·have: ∀r c,Builtin.growBy need r c≤max c (need+(need+768) / 4):=by
    intro r
    induction r with
    |zero=>intro c;simp[Builtin.growBy];omega
    |succ r ih=>
     intro c
     simp only[Builtin.growBy]
     split
     ·omega
     ·have:=ih (c+(c+768) / 4);omega
   have:=this 4 cap
   omega
theorem np {b:Nat} {K:ae→Prop}: ∀(ys:List Value) (h:ae) (cs:List Value) (k i:Nat),At h b cs→k+i+ys.length≤cs.length→(∀y∈ys,mC y=true)→
 (∀h',h'.size=h.size→At h' b (cs.take (k+i)++ys++cs.drop (k+i+ys.length))→cu (fun j=>j=b) h h'→K h')→bt ys h ⟨b,k,none⟩ i K
 |[],h,cs,k,i,hat,hl,_,H=>H h rfl (by simpa using hat) (cu.refl _ _)
 |y::ys,h,cs,k,i,hat,hl,h1,H=>by
  simp only[bt,h1 y (by simp)]
  rw[aY]
  simp only[List.length_cons] at hl
  refine MZ hat (by omega) fun h1' hs1 hat1 hf1=> ?_
  refine np ys h1' _ k (i+1) hat1 (by simp;omega) (fun z hz=>h1 z (by simp[hz])) fun h2 hs2 hat2 hf2=> ?_
  refine H h2 (by omega) ?_ (hf1.trans hf2)
  have e:(cs.set (k+i) y).take (k+(i+1))++ys++(cs.set (k+i) y).drop (k+(i+1)+ys.length)=cs.take (k+i)++(y::ys)++cs.drop (k+i+(ys.length+1)):=by
   have e1:(cs.set (k+i) y).take (k+(i+1))=cs.take (k+i)++[y]:=by
    rw[show k+(i+1)=k+i+1 by omega,List.take_succ_eq_append_getElem (by simp;omega)]
    simp only[List.take_set,List.getElem_set_self]
    rw[List.set_eq_of_length_le (by simp;omega)]
   have e2:(cs.set (k+i) y).drop (k+(i+1)+ys.length)=cs.drop (k+i+(ys.length+1)):=by
    rw[List.drop_set]
    rw[if_pos (by omega),show k+(i+1)+ys.length=k+i+(ys.length+1) by omega]
   rw[e1,e2];simp
  rw[e] at hat2
  simpa using hat2
theorem M1 {e sz by_:Nat} {z:Value} {p:Option Addr} {l c n base:Nat} {q:Option Addr} {h:ae} {xs ys:List Value} {K:Option Addr→Nat→Nat→ae→Prop}
 (o:qF h base sz p l c xs) (hbase:base≤h.size) (hsz:z.cells.size=sz) (hby:by_≠0) (hbig:(2*(l+n)+1024)*by_≤2 ^ 48) (hy:bT h q ys) (hyl:ys.length=n*sz) (h1: ∀y∈ys,mC y=true)
 (H: ∀p' l' c' h',l'=l+n→qF h' base sz p' l' c' (xs++ys)→cu (fun b=>base≤b) h h'→h.size≤h'.size→K p' l' c' h'):jm e sz by_ z p l c q n h K:=by
 unfold jm MD
 refine⟨ys,hy.readO hyl,fun hle=> ?_,fun hlt=>⟨hby,?_,xs,o.row.readO o.1,fun c2 hc2=> ?_⟩⟩
 ·obtain⟨hl,hc,⟨rfl,rfl,rfl⟩|⟨b,cs,rfl,hb,hat,hlen,ht⟩⟩:=o
  ·have hn:n=0:=by omega
   subst hn
   have hye:ys=[]:=List.length_eq_zero_iff.1 (by simpa using hyl)
   have hxe:xs=[]:=List.length_eq_zero_iff.1 (by simpa using hl)
   subst hye;subst hxe
   exact⟨_,_,_,rfl,H none 0 0 h rfl (qF.nil _ _ _) (cu.refl _ _) (Nat.le_refl _)⟩
  ·simp only
   rw[aY,Nat.zero_add]
   have hfit:l*sz+n*sz≤cs.length:=by rw[hlen,←Nat.add_mul];exact Nat.mul_le_mul_right _ hle
   refine np ys h cs (l*sz) 0 hat (by omega) h1 fun h' hs hat' hf=> ?_
   refine⟨_,_,_,rfl,H _ _ _ h' rfl ?_ (hf.mono fun i _ hi=>by omega) (by omega)⟩
   refine⟨by rw[List.length_append,hl,hyl,Nat.add_mul],hle,.inr ⟨b,_,rfl,hb,hat',?_,?_⟩⟩
   ·simp only[Nat.add_zero,List.length_append,List.length_take,List.length_drop];omega
   ·have hx:cs.take (l*sz)=xs:=by rw[←hl];exact ht
    simp only[Nat.add_zero,hx]
    rw[List.append_assoc,←List.append_assoc xs ys]
    rw[List.take_append_of_le_length (by simp)]
    rw[List.take_of_length_le (by simp)]
 ·exact Nat.le_trans (Nat.mul_le_mul_right _ (rO _ _ hlt)) hbig
 ·refine⟨_,_,_,rfl,H _ _ _ _ rfl ?_ (cu.push _ _ _) (by simp)⟩
  refine⟨by rw[List.length_append,o.1,hyl,Nat.add_mul],hc2,.inr ⟨h.size,_,rfl,hbase,At.new h _ e,?_,?_⟩⟩
  ·have hz:(Builtin.zeroCells z.cells (c2-(l+n))).toList.length=(c2-(l+n))*sz:=by simp[Builtin.zeroCells,hsz]
   simp only[List.length_append,hz,o.1,hyl]
   rw[←Nat.add_mul,←Nat.add_mul];congr 1;omega
  ·rw[List.take_append_of_le_length (by simp),List.take_of_length_le (by simp)]
end Go.Sh
