/- Sh, part 10: how formulas over heaps are proved: blocks, rows, frames; rules for each word of part 9. -/
import Derived.Test.YtdhpmegbmjoekaaGreatDoorShW
set_option linter.unusedVariables false
namespace Go.Sh
theorem wrap64_in {n:Int} (h: -9223372036854775808≤n∧n<9223372036854775808):IntKind.wrap .i64 n=n:=by
 simp only[IntKind.wrap,IntKind.bits,IntKind.signed];simp;omega
def At (h:Heap) (b:Nat) (cs:List Value):Prop:= ∃(e:TypeId) (lo hi:Nat),h[b]? =some (.cells cs.toArray e (lo,hi))∧(lo≥cs.length∨hi≤lo)
structure Fra (S:Nat→Prop) (h h':Heap):Prop where
 size:h.size≤h'.size
 same: ∀b,b<h.size→ ¬S b→h'[b]? =h[b]?
def no:Nat→Prop:=fun _=>False
theorem At.lt {h:Heap} {b:Nat} {cs:List Value} (a:At h b cs):b<h.size:=by
 obtain⟨e,lo,hi,hb,_⟩:=a
 exact(Array.getElem?_eq_some_iff.1 hb).1
theorem Fra.refl (S:Nat→Prop) (h:Heap):Fra S h h:=⟨Nat.le_refl _,fun _ _ _=>rfl⟩
theorem Fra.trans {S:Nat→Prop} {a b c:Heap} (h:Fra S a b) (k:Fra S b c):Fra S a c:=
 ⟨Nat.le_trans h.size k.size,fun i hi hs=>(k.same i (Nat.lt_of_lt_of_le hi h.size) hs).trans (h.same i hi hs)⟩
theorem Fra.mono {S T:Nat→Prop} {a b:Heap} (h:Fra S a b) (st: ∀i,i<a.size→S i→T i):Fra T a b:=
 ⟨h.size,fun i hi ht=>h.same i hi fun hs=>ht (st i hi hs)⟩
theorem Fra.at {S:Nat→Prop} {h h':Heap} (f:Fra S h h') {b:Nat} {cs:List Value} (a:At h b cs) (hs: ¬S b):At h' b cs:=by
 have hl:=a.lt
 obtain⟨e,lo,hi,hb,hz⟩:=a
 exact⟨e,lo,hi,by rw[f.same b hl hs];exact hb,hz⟩
theorem Fra.own {a0 a b:Heap} {base:Nat} (h:Fra no a0 a) (k:Fra (fun i=>base≤i) a b) (hb:a0.size≤base):Fra no a0 b:=
 ⟨Nat.le_trans h.size k.size,fun i hi hs=>(k.same i (Nat.lt_of_lt_of_le hi h.size) (by omega)).trans (h.same i hi hs)⟩
theorem Fra.one {a0 a b:Heap} {j:Nat} (h:Fra no a0 a) (k:Fra (fun i=>i=j) a b) (hb:a0.size≤j):Fra no a0 b:=
 ⟨Nat.le_trans h.size k.size,fun i hi hs=>(k.same i (Nat.lt_of_lt_of_le hi h.size) (by omega)).trans (h.same i hi hs)⟩
theorem Fra.two {b base:Nat} {a0 a1 a2:Heap} (h:Fra (fun i=>i=b) a0 a1) (k:Fra (fun i=>base≤i) a1 a2) (hb:a0.size≤base):Fra (fun i=>i=b) a0 a2:=
 ⟨Nat.le_trans h.size k.size,fun i hi hs=>(k.same i (Nat.lt_of_lt_of_le hi h.size) (by omega)).trans (h.same i hi hs)⟩
theorem At.cell {h:Heap} {b k:Nat} {cs:List Value} {v:Value} (a:At h b cs) (hk:cs[k]? =some v):cellH h ⟨b,k,none⟩=some v:=by
 obtain⟨e,lo,hi,hb,_⟩:=a
 simp only[cellH,hb]
 simpa using hk
theorem At.frozen {h:Heap} {b k:Nat} {cs:List Value} (a:At h b cs) (hk:k<cs.length):frozenH h ⟨b,k,none⟩=false:=by
 obtain⟨e,lo,hi,hb,hz⟩:=a
 simp only[frozenH,hb]
 rcases hz with h|h<;>simp<;>omega
theorem At.new (h:Heap) (cs:List Value) (e:TypeId):At (h.push (.cells cs.toArray e (0,0))) h.size cs:=
 ⟨e,0,0,by simp,.inr (Nat.le_refl _)⟩
theorem Fra.push (S:Nat→Prop) (h:Heap) (o:Obj):Fra S h (h.push o):=⟨by simp,fun b hb _=>by rw[Array.getElem?_push,if_neg (by omega)]⟩
theorem At.set {h:Heap} {b k:Nat} {cs:List Value} (a:At h b cs) (v:Value):At (setH h ⟨b,k,none⟩ v) b (cs.set k v):=by
 obtain⟨e,lo,hi,hb,hz⟩:=a
 refine⟨e,lo,hi,?_,by simpa using hz⟩
 simp only[setH,Array.getElem?_modify,if_true,hb,Option.map_some]
 simp
theorem Fra.set (h:Heap) (b k:Nat) (v:Value):Fra (fun i=>i=b) h (setH h ⟨b,k,none⟩ v):=
 ⟨by simp[setH],fun i hi hs=>by simp only[setH,Array.getElem?_modify];rw[if_neg (by omega)]⟩
theorem setH_size (h:Heap) (a:Addr) (v:Value):(setH h a v).size=h.size:=by simp[setH]
theorem ifB_i {b:Bool} {A B:Prop} (ha:b=true→A) (hb:b=false→B):ifB b A B:=⟨ha,hb⟩
theorem ifB_true {b:Bool} {A B:Prop} (h:b=true) (ha:A):ifB b A B:=⟨fun _=>ha,fun e=>by rw[h] at e;cases e⟩
theorem ifB_false {b:Bool} {A B:Prop} (h:b=false) (hb:B):ifB b A B:=⟨fun e=>(by rw[h] at e;cases e),fun _=>hb⟩
theorem ifB_dec {p:Prop} [Decidable p] {A B:Prop} (ha:p→A) (hb: ¬p→B):ifB (decide p) A B:=⟨fun e=>ha (of_decide_eq_true e),fun e=>hb (of_decide_eq_false e)⟩
theorem nilI_some {a:Addr} {K:Addr→Prop} (h:K a):nilI (some a) K:=⟨a,rfl,h⟩
theorem ldInt_i {k:IntKind} {h:Heap} {a:Addr} {n:Int} {K:Int→Prop} (hc:cellH h a=some (.int k n)) (hk:K n):ldInt k h a K:=⟨n,hc,hk⟩
theorem ldBool_i {h:Heap} {a:Addr} {n:Bool} {K:Bool→Prop} (hc:cellH h a=some (.bool n)) (hk:K n):ldBool h a K:=⟨n,hc,hk⟩
theorem ldStr_i {h:Heap} {a:Addr} {n:ByteArray} {K:ByteArray→Prop} (hc:cellH h a=some (.string n)) (hk:K n):ldStr h a K:=⟨n,hc,hk⟩
theorem ldPtr_i {h:Heap} {a:Addr} {n:Option Addr} {K:Option Addr→Prop} (hc:cellH h a=some (.pointer n)) (hk:K n):ldPtr h a K:=⟨n,hc,hk⟩
theorem ldSlice_i {h:Heap} {a:Addr} {p:Option Addr} {l c:Nat} {K:Option Addr→Nat→Nat→Prop} (hc:cellH h a=some (.slice p l c)) (hk:K p l c):ldSlice h a K:=⟨p,l,c,hc,hk⟩
theorem newI_i {h:Heap} {cs:List Value} {e:TypeId} {K:Nat→Heap→Prop} (H: ∀b h',b=h.size→h'.size=h.size+1→At h' b cs→Fra no h h'→K b h'):newI h (.cells cs.toArray e (0,0)) K:=
 H _ _ rfl (by simp) (At.new h cs e) (Fra.push _ h _)
theorem stI_i {h:Heap} {b k:Nat} {cs:List Value} {v:Value} {K:Heap→Prop} (a:At h b cs) (hk:k<cs.length) (H: ∀h',h'.size=h.size→At h' b (cs.set k v)→Fra (fun i=>i=b) h h'→K h'):stI h ⟨b,k,none⟩ v K:=
 ⟨⟨cs[k],a.cell (List.getElem?_eq_getElem hk)⟩,a.frozen hk,H _ (setH_size _ _ _) (a.set v) (Fra.set _ _ _ _)⟩
theorem bndI_i {i:Int} {y n:Nat} {K:Nat→Prop} (h0:i=n) (h1:n≤y) (hk:K n):bndI i y K:=⟨by omega,by omega,by subst h0;simpa using hk⟩
theorem LoopS_i {S:Type} {B:(S→Heap→Prop)→S→Heap→Prop} {s:S} {h:Heap} (inv:Nat→S→Heap→Prop) (n:Nat) (h0:inv n s h)
 (step: ∀n s h,inv n s h→B (fun s' h'=> ∃m,m<n∧inv m s' h') s h):LoopS B s h:=⟨inv,⟨n,h0⟩,step⟩
theorem add_mk (b k n:Nat):Addr.add ⟨b,k,none⟩ n=⟨b,k+n,none⟩:=by
 unfold Addr.add
 split
 ·rename_i h;subst h;rfl
 ·rfl
theorem add_add (a:Addr) (m:Nat) {n:Nat} (hn:n≠0):Addr.add (Addr.add a m) n=Addr.add a (m+n):=by
 have h2: ¬m+n=0:=by omega
 unfold Addr.add
 rw[if_neg hn,if_neg h2]
 split
 ·rename_i h;subst h;simp
 ·simp[Nat.add_assoc]
theorem map_add0 (p:Option Addr) (s:Nat):Option.map (fun a=>Addr.add a (0*s)) p=p:=by
 cases p with
 |none=>rfl
 |some a=>simp[Addr.add]
def RAt (h:Heap) (b:Nat) (cs:List Value):Prop:= ∃(e:TypeId) (f:Nat×Nat),h[b]? =some (.cells cs.toArray e f)
theorem At.r {h:Heap} {b:Nat} {cs:List Value} (a:At h b cs):RAt h b cs:=by obtain⟨e,lo,hi,hb,_⟩:=a;exact⟨e,_,hb⟩
theorem RAt.lt {h:Heap} {b:Nat} {cs:List Value} (a:RAt h b cs):b<h.size:=by
 obtain⟨e,f,hb⟩:=a
 exact(Array.getElem?_eq_some_iff.1 hb).1
theorem RAt.cell {h:Heap} {b k:Nat} {cs:List Value} {v:Value} (a:RAt h b cs) (hk:cs[k]? =some v):cellH h ⟨b,k,none⟩=some v:=by
 obtain⟨e,f,hb⟩:=a
 simp only[cellH,hb]
 simpa using hk
theorem Fra.rat {S:Nat→Prop} {h h':Heap} (f:Fra S h h') {b:Nat} {cs:List Value} (a:RAt h b cs) (hs: ¬S b):RAt h' b cs:=by
 have hl:=a.lt
 obtain⟨e,g,hb⟩:=a
 exact⟨e,g,by rw[f.same b hl hs];exact hb⟩
def Row (h:Heap) (p:Option Addr) (xs:List Value):Prop:=
 xs=[]∨ ∃a,p=some a∧a.spot=none∧ ∃cs,RAt h a.block cs∧a.off+xs.length≤cs.length∧ ∀i,i<xs.length→cs[a.off+i]? =xs[i]?
theorem Row.nil (h:Heap) (p:Option Addr):Row h p []:= .inl rfl
theorem Row.cell {h:Heap} {a:Addr} {xs:List Value} (r:Row h (some a) xs) {i:Nat} {v:Value} (hv:xs[i]? =some v):cellH h (Addr.add a i)=some v:=by
 rcases r with rfl|⟨a',e,hs,cs,hat,hl,hc⟩
 ·simp at hv
 ·cases e
  have hi:i<xs.length:=(List.getElem?_eq_some_iff.1 hv).1
  obtain⟨b,o,sp⟩:=a
  simp only at hs;subst hs
  rw[add_mk]
  exact hat.cell (by rw[hc i hi];exact hv)
theorem Row.frame {S:Nat→Prop} {h h':Heap} {p:Option Addr} {xs:List Value} (r:Row h p xs) (f:Fra S h h') (hs: ∀a,p=some a→a.block<h.size→ ¬S a.block):Row h' p xs:=by
 rcases r with rfl|⟨a,rfl,h1,cs,hat,hl,hc⟩
 ·exact .inl rfl
 ·exact .inr ⟨a,rfl,h1,cs,f.rat hat (hs a rfl hat.lt),hl,hc⟩
theorem Row.frame0 {h h':Heap} {p:Option Addr} {xs:List Value} (r:Row h p xs) (f:Fra no h h'):Row h' p xs:=r.frame f fun _ _ _ h=>h
theorem Row.take {h:Heap} {p:Option Addr} {xs:List Value} (r:Row h p xs) (n:Nat):Row h p (xs.take n):=by
 rcases r with rfl|⟨a,rfl,h1,cs,hat,hl,hc⟩
 ·exact .inl (by simp)
 ·refine .inr ⟨a,rfl,h1,cs,hat,by simp;omega,fun i hi=> ?_⟩
  simp at hi
  rw[hc i (by omega),List.getElem?_take,if_pos (by omega)]
theorem Row.of_rat {h:Heap} {b:Nat} {cs:List Value} (a:RAt h b cs):Row h (some ⟨b,0,none⟩) cs:= .inr ⟨_,rfl,rfl,cs,a,by simp,fun i _=>by simp⟩
theorem Row.of_at {h:Heap} {b:Nat} {cs:List Value} (a:At h b cs):Row h (some ⟨b,0,none⟩) cs:= .of_rat a.r
theorem Row.drop {h:Heap} {a:Addr} {xs:List Value} (r:Row h (some a) xs) (n:Nat) (hn:n≤xs.length):Row h (some (Addr.add a n)) (xs.drop n):=by
 rcases r with rfl|⟨a',e,h1,cs,hat,hl,hc⟩
 ·exact .inl (by simp)
 ·cases e
  obtain⟨b,o,sp⟩:=a
  simp only at h1;subst h1
  rw[add_mk]
  refine .inr ⟨_,rfl,rfl,cs,hat,by simp only[List.length_drop] at *;omega,fun i hi=> ?_⟩
  simp only[List.length_drop] at hi
  have:=hc (n+i) (by omega)
  simp only at this ⊢
  rw[Nat.add_assoc,this,List.getElem?_drop]
def ints (xs:List Int):List Value:=xs.map (Value.int .i64)
theorem ints_length (xs:List Int):(ints xs).length=xs.length:=by simp[ints]
theorem ints_get {xs:List Int} {i:Nat} {n:Int} (h:xs[i]? =some n):(ints xs)[i]? =some (.int .i64 n):=by simp[ints,h]
theorem idxI_i {p:Option Addr} {i:Int} {len k:Nat} {a:Addr} {K:Addr→Prop} (hp:p=some a) (hi:i=k) (hk:k<len) (H:K a):idxI p i len K:=⟨a,hp,by omega,by omega,H⟩
theorem Row.some_of {h:Heap} {p:Option Addr} {xs:List Value} (r:Row h p xs) (hx:0<xs.length): ∃a,p=some a:=by
 rcases r with rfl|⟨a,rfl,_⟩
 ·simp at hx
 ·exact⟨a,rfl⟩
theorem readL_of {h:Heap} {a:Addr}: ∀(xs:List Value) (i:Nat),(∀j v,xs[j]? =some v→cellH h (Addr.add a (i+j))=some v)→readL h a i xs.length xs
 |[],i,_=>rfl
 |x::r,i,hx=>⟨x,r,by have:=hx 0 x rfl;rwa [Nat.add_zero] at this,readL_of r (i+1) (fun j v hv=>by have:=hx (j+1) v (by simpa using hv);rwa [show i+(j+1)=i+1+j by omega] at this),rfl⟩
theorem Row.readO {h:Heap} {p:Option Addr} {xs:List Value} (r:Row h p xs) {n:Nat} (hn:xs.length=n):readO h p n xs:=by
 subst hn
 cases p with
 |none=>
  rcases r with rfl|⟨a,e,_⟩
  ·rfl
  ·cases e
 |some a=>exact readL_of xs 0 fun j v hv=>by rw[Nat.zero_add];exact r.cell hv
def Own (h:Heap) (base sz:Nat) (p:Option Addr) (l c:Nat) (xs:List Value):Prop:=
 xs.length=l*sz∧l≤c∧((p=none∧l=0∧c=0)∨ ∃b cs,p=some ⟨b,0,none⟩∧base≤b∧At h b cs∧cs.length=c*sz∧cs.take xs.length=xs)
theorem Own.nil (h:Heap) (base sz:Nat):Own h base sz none 0 0 []:=⟨by simp,Nat.le_refl _,.inl ⟨rfl,rfl,rfl⟩⟩
theorem Own.row {h:Heap} {base sz:Nat} {p:Option Addr} {l c:Nat} {xs:List Value} (o:Own h base sz p l c xs):Row h p xs:=by
 obtain⟨hl,_,⟨rfl,rfl,rfl⟩|⟨b,cs,rfl,hb,hat,hlen,ht⟩⟩:=o
 ·have:xs=[]:=List.length_eq_zero_iff.1 (by simpa using hl)
  exact .inl this
 ·have hle:xs.length≤cs.length:=by rw[←ht];simp;omega
  refine .inr ⟨_,rfl,rfl,cs,hat.r,by simpa using hle,fun i hi=> ?_⟩
  rw[Nat.zero_add]
  conv=>rhs;rw[←ht,List.getElem?_take,if_pos hi]
theorem Own.frame {S:Nat→Prop} {h h':Heap} {base sz:Nat} {p:Option Addr} {l c:Nat} {xs:List Value} (o:Own h base sz p l c xs) (f:Fra S h h') (hs: ∀b,base≤b→b<h.size→ ¬S b):Own h' base sz p l c xs:=by
 obtain⟨hl,hc,⟨rfl,rfl,rfl⟩|⟨b,cs,rfl,hb,hat,hlen,ht⟩⟩:=o
 ·exact⟨hl,hc,.inl ⟨rfl,rfl,rfl⟩⟩
 ·exact⟨hl,hc,.inr ⟨b,cs,rfl,hb,f.at hat (hs b hb hat.lt),hlen,ht⟩⟩
theorem Own.frame0 {h h':Heap} {base sz:Nat} {p:Option Addr} {l c:Nat} {xs:List Value} (o:Own h base sz p l c xs) (f:Fra no h h'):Own h' base sz p l c xs:=o.frame f fun _ _ _ h=>h
theorem Own.mono {h:Heap} {base base' sz:Nat} {p:Option Addr} {l c:Nat} {xs:List Value} (o:Own h base sz p l c xs) (hb:base'≤base):Own h base' sz p l c xs:=by
 obtain⟨hl,hc,h|⟨b,cs,hp,hb',hat,hlen,ht⟩⟩:=o
 ·exact⟨hl,hc,.inl h⟩
 ·exact⟨hl,hc,.inr ⟨b,cs,hp,Nat.le_trans hb hb',hat,hlen,ht⟩⟩
theorem nextslicecap_le (need cap:Nat) (h:cap<need):Builtin.nextslicecap need cap≤2*need+1024:=by
 unfold Builtin.nextslicecap
 split
 ·omega
 ·split
  ·omega
  ·have: ∀r c,Builtin.growBy need r c≤max c (need+(need+768) / 4):=by
    intro r
    induction r with
    |zero=>intro c;simp[Builtin.growBy];omega
    |succ r ih=>
     intro c
     simp only[Builtin.growBy]
     split
     ·omega
     ·have:=ih (c+(c+768) / 4);omega
   have:=this 4 cap
   omega
theorem storeL_own {b:Nat} {K:Heap→Prop}: ∀(ys:List Value) (h:Heap) (cs:List Value) (k i:Nat),At h b cs→k+i+ys.length≤cs.length→(∀y∈ys,one1 y=true)→
 (∀h',h'.size=h.size→At h' b (cs.take (k+i)++ys++cs.drop (k+i+ys.length))→Fra (fun j=>j=b) h h'→K h')→storeL ys h ⟨b,k,none⟩ i K
 |[],h,cs,k,i,hat,hl,_,H=>H h rfl (by simpa using hat) (Fra.refl _ _)
 |y::ys,h,cs,k,i,hat,hl,h1,H=>by
  simp only[storeL,h1 y (by simp)]
  rw[add_mk]
  simp only[List.length_cons] at hl
  refine stI_i hat (by omega) fun h1' hs1 hat1 hf1=> ?_
  refine storeL_own ys h1' _ k (i+1) hat1 (by simp;omega) (fun z hz=>h1 z (by simp[hz])) fun h2 hs2 hat2 hf2=> ?_
  refine H h2 (by omega) ?_ (hf1.trans hf2)
  have e:(cs.set (k+i) y).take (k+(i+1))++ys++(cs.set (k+i) y).drop (k+(i+1)+ys.length)=cs.take (k+i)++(y::ys)++cs.drop (k+i+(ys.length+1)):=by
   have e1:(cs.set (k+i) y).take (k+(i+1))=cs.take (k+i)++[y]:=by
    rw[show k+(i+1)=k+i+1 by omega,List.take_succ_eq_append_getElem (by simp;omega)]
    simp only[List.take_set,List.getElem_set_self]
    rw[List.set_eq_of_length_le (by simp;omega)]
   have e2:(cs.set (k+i) y).drop (k+(i+1)+ys.length)=cs.drop (k+i+(ys.length+1)):=by
    rw[List.drop_set]
    rw[if_pos (by omega),show k+(i+1)+ys.length=k+i+(ys.length+1) by omega]
   rw[e1,e2];simp
  rw[e] at hat2
  simpa using hat2
theorem appI_own {e sz by_:Nat} {z:Value} {p:Option Addr} {l c n base:Nat} {q:Option Addr} {h:Heap} {xs ys:List Value} {K:Option Addr→Nat→Nat→Heap→Prop}
 (o:Own h base sz p l c xs) (hbase:base≤h.size) (hsz:z.cells.size=sz) (hby:by_≠0) (hbig:(2*(l+n)+1024)*by_≤2 ^ 48) (hy:Row h q ys) (hyl:ys.length=n*sz) (h1: ∀y∈ys,one1 y=true)
 (H: ∀p' l' c' h',l'=l+n→Own h' base sz p' l' c' (xs++ys)→Fra (fun b=>base≤b) h h'→h.size≤h'.size→K p' l' c' h'):appI e sz by_ z p l c q n h K:=by
 unfold appI appB
 refine⟨ys,hy.readO hyl,fun hle=> ?_,fun hlt=>⟨hby,?_,xs,o.row.readO o.1,fun c2 hc2=> ?_⟩⟩
 ·obtain⟨hl,hc,⟨rfl,rfl,rfl⟩|⟨b,cs,rfl,hb,hat,hlen,ht⟩⟩:=o
  ·have hn:n=0:=by omega
   subst hn
   have hye:ys=[]:=List.length_eq_zero_iff.1 (by simpa using hyl)
   have hxe:xs=[]:=List.length_eq_zero_iff.1 (by simpa using hl)
   subst hye;subst hxe
   exact⟨_,_,_,rfl,H none 0 0 h rfl (Own.nil _ _ _) (Fra.refl _ _) (Nat.le_refl _)⟩
  ·simp only
   rw[add_mk,Nat.zero_add]
   have hfit:l*sz+n*sz≤cs.length:=by rw[hlen,←Nat.add_mul];exact Nat.mul_le_mul_right _ hle
   refine storeL_own ys h cs (l*sz) 0 hat (by omega) h1 fun h' hs hat' hf=> ?_
   refine⟨_,_,_,rfl,H _ _ _ h' rfl ?_ (hf.mono fun i _ hi=>by omega) (by omega)⟩
   refine⟨by rw[List.length_append,hl,hyl,Nat.add_mul],hle,.inr ⟨b,_,rfl,hb,hat',?_,?_⟩⟩
   ·simp only[Nat.add_zero,List.length_append,List.length_take,List.length_drop];omega
   ·have hx:cs.take (l*sz)=xs:=by rw[←hl];exact ht
    simp only[Nat.add_zero,hx]
    rw[List.append_assoc,←List.append_assoc xs ys]
    rw[List.take_append_of_le_length (by simp)]
    rw[List.take_of_length_le (by simp)]
 ·exact Nat.le_trans (Nat.mul_le_mul_right _ (nextslicecap_le _ _ hlt)) hbig
 ·refine⟨_,_,_,rfl,H _ _ _ _ rfl ?_ (Fra.push _ _ _) (by simp)⟩
  refine⟨by rw[List.length_append,o.1,hyl,Nat.add_mul],hc2,.inr ⟨h.size,_,rfl,hbase,At.new h _ e,?_,?_⟩⟩
  ·have hz:(Builtin.zeroCells z.cells (c2-(l+n))).toList.length=(c2-(l+n))*sz:=by simp[Builtin.zeroCells,hsz]
   simp only[List.length_append,hz,o.1,hyl]
   rw[←Nat.add_mul,←Nat.add_mul];congr 1;omega
  ·rw[List.take_append_of_le_length (by simp),List.take_of_length_le (by simp)]
end Go.Sh
