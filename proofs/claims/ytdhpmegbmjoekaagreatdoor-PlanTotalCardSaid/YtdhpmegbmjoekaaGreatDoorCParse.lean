/- The plain law of the model's bytes: what is written is read, what is read is written. -/
import Derived.Test.YtdhpmegbmjoekaaGreatDoorCDec3
import Derived.Test.YtdhpmegbmjoekaaGreatDoorCSameG
namespace Go.Proofs.YtdhpmegbmjoekaaGreatDoor.G
open Go Go.Sh
set_option linter.unusedVariables false
set_option linter.unusedSimpArgs false
theorem GE: ∀bs:List UInt8,low (uQ bs) bs.length=bs
 |[]=>rfl
 |b::r=>by
  have ih:=GE r
  have hb:=b.toNat_lt
  have e1:(uQ (b::r)) / 256=uQ r:=by simp only[uQ];omega
  have e2:kX (uQ (b::r))=b:=by
   unfold kX
   have:uQ (b::r) % 256=b.toNat:=by simp only[uQ];omega
   rw[this,Int.toNat_natCast,UInt8.ofNat_toNat]
  show kX (uQ (b::r))::low (uQ (b::r) / 256) r.length=b::r
  rw[e1,e2,ih]
theorem KH (x:Int) (n:Nat):low (x % 256 ^ n) n=low x n:=by
 have h:=GE (low x n)
 rw[Gj,bS] at h
 exact h
theorem LX {x y:Int} {n:Nat} (h:x % 256 ^ n=y % 256 ^ n):low x n=low y n:=by rw[←KH x,h,KH]
section
variable {s r:List UInt8} {k:Nat} {t:St}
theorem FG {x:Int} {n:Nat} (h:s.drop k=low x n++r):bx s ⟨k,0⟩ n=(x % 256 ^ n,⟨k+n,0⟩)∨n=0:=by
 by_cases hn:n=0
 ·exact .inr hn
 refine .inl ?_
 have hl:=congrArg List.length h
 rw[List.length_drop,List.length_append,bS] at hl
 unfold bx
 rw[if_neg (by simp),if_neg (by simp only;omega)]
 simp only
 rw[h,List.take_append_of_le_length (by rw[bS];omega),List.take_of_length_le (by rw[bS];omega),Gj]
theorem FH {a:List UInt8} (h:s.drop k=a++r):s.drop (k+a.length)=r:=by
 rw[←List.drop_drop,h,List.drop_append_of_le_length (Nat.le_refl _),List.drop_of_length_le (Nat.le_refl _),List.nil_append]
theorem GF {x:Int} {n:Nat} (hn:0<n) (h8:n≤8) (hx:0≤x∧x<256 ^ n) (h:s.drop k=low (IntKind.wrap .u64 x) n++r):bx s ⟨k,0⟩ n=(x,⟨k+n,0⟩)∧s.drop (k+n)=r:=by
 have h1:=FH h
 rw[bS] at h1
 refine⟨?_,h1⟩
 rcases FG h with e|e
 ·rw[e]
  have hp:(256:Int) ^ n≤2 ^ 64:=by
   have:(256:Nat) ^ n≤256 ^ 8:=Nat.pow_le_pow_right (by decide) h8
   have h2:=Int.ofNat_le.2 this
   rw[Int.natCast_pow,Int.natCast_pow] at h2
   exact Int.le_trans h2 (by decide)
  have e2:IntKind.wrap .u64 x=x:=by rw[gU];exact Int.emod_eq_of_lt hx.1 (by omega)
  rw[e2,Int.emod_eq_of_lt hx.1 hx.2]
 ·omega
theorem Bm {n:Nat} (ht:t.ok s) (h8:n≤8) (e:(bx s t n).2.err=0):
 t.err=0∧s.drop t.at_=low (IntKind.wrap .u64 (bx s t n).1) n++s.drop (bx s t n).2.at_:=by
 have hr:=eM s t n
 have hp:(256:Int) ^ n≤2 ^ 64:=by
  have:(256:Nat) ^ n≤256 ^ 8:=Nat.pow_le_pow_right (by decide) h8
  have h2:=Int.ofNat_le.2 this
  rw[Int.natCast_pow,Int.natCast_pow] at h2
  exact Int.le_trans h2 (by decide)
 have e2:IntKind.wrap .u64 (bx s t n).1=(bx s t n).1:=by rw[gU];exact Int.emod_eq_of_lt hr.1 (by omega)
 rw[e2]
 clear e2 hr
 unfold bx at e ⊢
 split at e
 ·contradiction
 ·split at e
  ·simp at e
  ·rename_i h1 h2
   rw[if_neg h1,if_neg h2]
   refine⟨by simpa using h1,?_⟩
   have:=ht.1
   have hlen:((s.drop t.at_).take n).length=n:=by rw[List.length_take,List.length_drop];omega
   have e3:=GE ((s.drop t.at_).take n)
   rw[hlen] at e3
   show s.drop t.at_=low (uQ ((s.drop t.at_).take n)) n++s.drop (t.at_+n)
   rw[e3,←List.drop_drop,List.take_append_drop]
theorem ye {x:Int} (hx:fz≤x∧x≤fD) (h:s.drop k=low (IntKind.wrap .u64 x) 4++r): ∃v,bx s ⟨k,0⟩ 4=(v,⟨k+4,0⟩)∧nF v=x∧s.drop (k+4)=r:=by
 have h1:=FH h
 rw[bS] at h1
 rcases FG h with e|e
 ·refine⟨_,e,?_,h1⟩
  unfold nF
  rw[gU,C5]
  unfold fz fD at hx
  omega
 ·omega
theorem Pj (v:Int):low (IntKind.wrap .u64 (nF v)) 4=low (IntKind.wrap .u64 v) 4:=by
 apply LX
 unfold nF
 rw[gU,gU,C5]
 omega
theorem yf (ht:t.ok s) (e:(bx s t 4).2.err=0):t.err=0∧s.drop t.at_=low (IntKind.wrap .u64 (nF (bx s t 4).1)) 4++s.drop (bx s t 4).2.at_:=by
 rw[Pj];exact Bm ht (by decide) e
theorem yg (v:Int):fz≤nF v∧nF v≤fD:=by have:=FJ v;unfold fz fD;omega
theorem ux {x:Int} (hx:0≤x∧x≤255) (h:s.drop k=Mq x++r):bx s ⟨k,0⟩ 1=(x,⟨k+1,0⟩)∧s.drop (k+1)=r:=
 GF (by decide) (by decide) (by omega) h
theorem uy (ht:t.ok s) (e:(bx s t 1).2.err=0):t.err=0∧s.drop t.at_=Mq (bx s t 1).1++s.drop (bx s t 1).2.at_∧(0≤(bx s t 1).1∧(bx s t 1).1≤255):=by
 have hr:=eM s t 1
 have:=Bm ht (by decide) e
 exact⟨this.1,this.2,by omega⟩
theorem JF {xs:List Int} (hf:bo 0 255 xs) (h:s.drop k=dg xs++r):iK s xs.length ⟨k,0⟩=(xs,⟨k+xs.length,0⟩)∧s.drop (k+xs.length)=r:=by
 have key: ∀n,n≤xs.length→iK s n ⟨k,0⟩=(xs.take n,⟨k+n,0⟩)∧s.drop (k+n)=dg (xs.drop n)++r:=by
  intro n
  induction n with
  |zero=>intro _;exact⟨rfl,h⟩
  |succ n ih=>
   intro hn
   obtain⟨e,hd⟩:=ih (by omega)
   rw[List.drop_eq_getElem_cons (show n<xs.length by omega)] at hd
   have hd':s.drop (k+n)=Mq xs[n]++(dg (xs.drop (n+1))++r):=by rw[hd];unfold dg;rw[List.flatMap_cons,List.append_assoc]
   have hg:=ux (hf _ (List.getElem_mem (show n<xs.length by omega))) hd'
   refine⟨?_,hg.2⟩
   simp only[iK,e,hg.1]
   rw[List.take_succ_eq_append_getElem (by omega)]
   rfl
 have:=key xs.length (Nat.le_refl _)
 rw[List.take_length,List.drop_length] at this
 exact⟨this.1,this.2⟩
theorem GG (ht:t.ok s): ∀n,(iK s n t).2.err=0→t.err=0∧s.drop t.at_=dg (iK s n t).1++s.drop (iK s n t).2.at_∧bo 0 255 (iK s n t).1
 |0,e=>⟨e,rfl,cD _ _⟩
 |n+1,e=>by
  obtain⟨e1,d1,f1⟩:=uy (kM ht n) e
  obtain⟨e2,d2,f2⟩:=GG ht n e1
  refine⟨e2,?_,?_⟩
  ·rw[d2,d1]
   simp[iK,dg]
  ·intro x hx
   simp only[iK,List.mem_append,List.mem_singleton] at hx
   rcases hx with hx|rfl
   ·exact f2 x hx
   ·exact f1
theorem PC: ∀(xs:List Int) (k:Nat),bo fz fD xs→s.drop k=words xs++r→rw s xs.length ⟨k,0⟩=(some xs,⟨k+4*xs.length,0⟩)∧s.drop (k+4*xs.length)=r
 |[],k,_,h=>⟨rfl,h⟩
 |x::u,k,hf,h=>by
  rw[bV] at hf
  have h':s.drop k=low (IntKind.wrap .u64 x) 4++(words u++r):=by rw[h];simp[words]
  obtain⟨v,e,hv,hd⟩:=ye hf.1 h'
  obtain⟨e2,hd2⟩:=PC u (k+4) hf.2 hd
  have ek:k+4+4*u.length=k+4*(u.length+1):=by omega
  rw[ek] at e2 hd2
  refine⟨?_,hd2⟩
  simp only[List.length_cons,rw,e]
  rw[if_neg (by simp),e2,hv]
  rfl
theorem PD: ∀(n:Nat) (t:St),t.ok s→(rw s n t).2.err=0→t.err=0∧ ∃xs,(rw s n t).1=some xs∧xs.length=n∧bo fz fD xs∧s.drop t.at_=words xs++s.drop (rw s n t).2.at_
 |0,t,_,e=>⟨e,[],rfl,rfl,cD _ _,rfl⟩
 |n+1,t,ht,e=>by
  simp only[rw] at e ⊢
  by_cases he:(bx s t 4).2.err≠0
  ·rw[if_pos he] at e;exact absurd e he
  ·rw[if_neg he] at e ⊢
   obtain⟨e1,xs,h1,h2,h3,h4⟩:=PD n (bx s t 4).2 (cJ ht 4) e
   obtain⟨e0,d0⟩:=yf ht e1
   refine⟨e0,nF (bx s t 4).1::xs,by show Option.map _ (rw s n (bx s t 4).2).1=_;rw[h1];rfl,by simp[h2],by rw[bV];exact⟨yg _,h3⟩,?_⟩
   rw[d0,h4]
   simp[words]
theorem KI {xs:List Int} (hl:xs.length≤65535) (hf:bo fz fD xs) (h:s.drop k=rowB xs++r): ∃k',rrow s ⟨k,0⟩=(xs,⟨k',0⟩)∧s.drop k'=r:=by
 have hr:rowB xs=low (IntKind.wrap .u64 xs.length) 2++words xs:=by unfold rowB;rw[if_neg (by omega)]
 rw[hr,List.append_assoc] at h
 obtain⟨e,hd⟩:=GF (by decide) (by decide) (by omega) h
 obtain⟨e2,hd2⟩:=PC xs (k+2) hf hd
 refine⟨_,?_,hd2⟩
 unfold rrow
 rw[e]
 simp only[Int.toNat_natCast]
 rw[e2]
 rfl
theorem KJ (ht:t.ok s) (e:(rrow s t).2.err=0):t.err=0∧s.drop t.at_=rowB (rrow s t).1++s.drop (rrow s t).2.at_∧(rrow s t).1.length≤65535∧bo fz fD (rrow s t).1:=by
 unfold rrow at e ⊢
 have hr:=eM s t 2
 obtain⟨e1,xs,h1,h2,h3,h4⟩:=PD (bx s t 2).1.toNat (bx s t 2).2 (cJ ht 2) e
 obtain⟨e0,d0⟩:=Bm ht (by decide) e1
 rw[h1]
 have hl:xs.length≤65535:=by omega
 refine⟨e0,?_,hl,h3⟩
 have hw:rowB xs=low (IntKind.wrap .u64 (bx s t 2).1) 2++words xs:=by
  unfold rowB
  rw[if_neg (by omega),h2,Int.toNat_of_nonneg hr.1]
 show s.drop t.at_=rowB xs++_
 rw[hw,d0,h4,List.append_assoc]
theorem NM (s:List UInt8): ∀(n:Nat) (t:St),((rw s n t).1.getD []).length≤n
 |0,t=>Nat.le_refl _
 |n+1,t=>by
  simp only[rw]
  split
  ·simp
  ·have:=NM s n (bx s t 4).2
   cases h:(rw s n (bx s t 4).2).1 with
   |none=>simp
   |some xs=>rw[h] at this;simp at this ⊢;exact this
theorem Ij (s:List UInt8) (t:St):(rrow s t).1.length≤65535:=by
 have h1:=NM s (bx s t 2).1.toNat (bx s t 2).2
 have hr:=eM s t 2
 unfold rrow
 show((rw s (bx s t 2).1.toNat (bx s t 2).2).1.getD []).length≤_
 omega
theorem Ik (s:List UInt8) (t:St):(jT s t).1.inn.length≤255∧(jT s t).1.weights.length≤65535∧(jT s t).1.bias.length≤65535:=by
 unfold jT
 refine⟨?_,Ij _ _,Ij _ _⟩
 have e:(iK s 2 t).1.getD 1 0=(bx s (bx s t 1).2 1).1:=rfl
 show(iK s ((iK s 2 t).1.getD 1 0).toNat (iK s 2 t).2).1.length≤255
 rw[qR,e]
 have:=eM s (bx s t 1).2 1
 omega
theorem tP (x:Int):dg [x]=Mq x:=by simp[dg]
theorem uz (x y:Int):words [x,y]=low (IntKind.wrap .u64 x) 4++low (IntKind.wrap .u64 y) 4:=by simp[words]
theorem NN {n:Nd} (hf:n.fit) (h:s.drop k=n.enc++r): ∃k',jT s ⟨k,0⟩=(n,⟨k',0⟩)∧s.drop k'=r:=by
 obtain⟨f1,f2,f3,f4,f5,f6,f7,f8,f9⟩:=hf
 unfold Nd.enc at h
 simp only[List.append_assoc] at h
 obtain⟨e1,d1⟩:=JF f1 h
 obtain⟨e2,d2⟩:=JF f2 d1
 obtain⟨e3,d3⟩:=JF f3 d2
 obtain⟨k4,e4,d4⟩:=KI f4.1 f4.2 d3
 obtain⟨k5,e5,d5⟩:=KI f5.1 f5.2 d4
 have f6':=f6 n.mult (by simp)
 obtain⟨e6,d6⟩:=GF (by decide) (by decide) (by omega) d5
 rw[tP] at d6
 obtain⟨e7,d7⟩:=ux (f7 n.shift (by simp)) d6
 rw[uz,List.append_assoc] at d7
 obtain⟨v8,e8,s8,d8⟩:=ye (f8 n.low (by simp)) d7
 obtain⟨v9,e9,s9,d9⟩:=ye (f8 n.high (by simp)) d8
 rw[tP] at d9
 obtain⟨e10,d10⟩:=ux (f9 n.post (by simp)) d9
 refine⟨_,?_,d10⟩
 have l1:[n.kind,(n.inn.length:Int)].length=2:=rfl
 have l3:[n.width,n.size,n.step,n.gap,n.left,n.right].length=6:=rfl
 rw[l1] at e1 e2 e3
 rw[l3] at e3
 unfold jT
 simp only[e1,List.getD_cons_zero,List.getD_cons_succ,Int.toNat_natCast,e2,e3]
 rw[l1,l3] at e4
 simp only[e4,e5,e6,e7,e8,e9,e10,s8,s9]
theorem NO (ht:t.ok s) (e:(jT s t).2.err=0):t.err=0∧s.drop t.at_=(jT s t).1.enc++s.drop (jT s t).2.at_∧(jT s t).1.fit:=by
 unfold jT at e ⊢
 dsimp only at e ⊢
 have ok1:=kM ht 2
 have l1: ∃x y,(iK s 2 t).1=[x,y]:=⟨_,_,rfl⟩
 have o1:=GG ht 2
 generalize iK s 2 t=a at *
 have ok2:=kM ok1 (a.1.getD 1 0).toNat
 have l2:=qR s a.2 (a.1.getD 1 0).toNat
 have o2:=GG ok1 (a.1.getD 1 0).toNat
 generalize iK s (a.1.getD 1 0).toNat a.2=b at *
 have ok3:=kM ok2 6
 have l3: ∃x0 x1 x2 x3 x4 x5,(iK s 6 b.2).1=[x0,x1,x2,x3,x4,x5]:=⟨_,_,_,_,_,_,rfl⟩
 have o3:=GG ok2 6
 generalize iK s 6 b.2=c at *
 have ok4:=uA ok3
 have o4:=KJ ok3
 generalize rrow s c.2=d at *
 have ok5:=uA ok4
 have o5:=KJ ok4
 generalize rrow s d.2=e5 at *
 have ok6:=cJ ok5 2
 have r6:=eM s e5.2 2
 have o6:=Bm (n:=2) ok5 (by decide)
 generalize bx s e5.2 2=f at *
 have ok7:=cJ ok6 1
 have o7:=uy ok6
 generalize bx s f.2 1=g at *
 have ok8:=cJ ok7 4
 have o8:=yf ok7
 generalize bx s g.2 4=i at *
 have ok9:=cJ ok8 4
 have o9:=yf ok8
 generalize bx s i.2 4=j at *
 have o10:=uy ok9
 generalize bx s j.2 1=kk at *
 obtain⟨z9,d10,f10⟩:=o10 e
 obtain⟨z8,d9⟩:=o9 z9
 obtain⟨z7,d8⟩:=o8 z8
 obtain⟨z6,d7,f7⟩:=o7 z7
 obtain⟨z5,d6⟩:=o6 z6
 obtain⟨z4,d5,g5,f5⟩:=o5 z5
 obtain⟨z3,d4,g4,f4⟩:=o4 z4
 obtain⟨z2,d3,f3⟩:=o3 z3
 obtain⟨z1,d2,f2⟩:=o2 z2
 obtain⟨z0,d1,f1⟩:=o1 z1
 obtain⟨x,y,ea⟩:=l1
 obtain⟨x0,x1,x2,x3,x4,x5,ec⟩:=l3
 rw[ea] at d1 f1 l2 ⊢
 rw[ec] at d3 f3 ⊢
 simp only[List.getD_cons_zero,List.getD_cons_succ] at l2 ⊢
 have hy:=f1 y (by simp)
 have ey:y=(b.1.length:Int):=by omega
 refine⟨z0,?_,?_⟩
 ·unfold Nd.enc
  simp only[List.append_assoc,tP,uz]
  rw[d1,d2,d3,d4,d5,d6,d7,d8,d9,d10,ey]
 ·exact⟨by rw[←ey];exact f1,f2,f3,⟨g4,f4⟩,⟨g5,f5⟩,by rw[bV];exact⟨by dsimp only;omega,cD _ _⟩,by rw[bV];exact⟨f7,cD _ _⟩,by rw[bV,bV];exact⟨yg _,yg _,cD _ _⟩,by rw[bV];exact⟨f10,cD _ _⟩⟩
theorem LY {ns:List Nd} (hf: ∀n∈ns,n.fit) (h:s.drop k=ns.flatMap Nd.enc++r): ∃k',eJ s ⟨k,0⟩ ns.length=(ns,⟨k',0⟩)∧s.drop k'=r:=by
 have key: ∀i,i≤ns.length→ ∃k',eJ s ⟨k,0⟩ i=(ns.take i,⟨k',0⟩)∧s.drop k'=(ns.drop i).flatMap Nd.enc++r:=by
  intro i
  induction i with
  |zero=>intro _;exact⟨k,rfl,h⟩
  |succ i ih=>
   intro hi
   obtain⟨k',e,hd⟩:=ih (by omega)
   rw[List.drop_eq_getElem_cons (show i<ns.length by omega),List.flatMap_cons,List.append_assoc] at hd
   obtain⟨k2,e2,hd2⟩:=NN (hf _ (List.getElem_mem (show i<ns.length by omega))) hd
   refine⟨k2,?_,hd2⟩
   simp only[eJ,e,e2]
   rw[List.take_succ_eq_append_getElem (by omega)]
 obtain⟨k',e,hd⟩:=key ns.length (Nat.le_refl _)
 rw[List.take_length] at e
 rw[List.drop_length] at hd
 exact⟨k',e,hd⟩
theorem FI (ht:t.ok s): ∀n,(eJ s t n).2.err=0→t.err=0∧s.drop t.at_=(eJ s t n).1.flatMap Nd.enc++s.drop (eJ s t n).2.at_∧ ∀x∈(eJ s t n).1,x.fit
 |0,e=>⟨e,rfl,fun x hx=>by cases hx⟩
 |n+1,e=>by
  obtain⟨e1,d1,f1⟩:=NO (pX ht n) e
  obtain⟨e2,d2,f2⟩:=FI ht n e1
  refine⟨e2,?_,?_⟩
  ·rw[d2,d1]
   simp[eJ]
  ·intro x hx
   simp only[eJ,List.mem_append,List.mem_singleton] at hx
   rcases hx with hx|rfl
   ·exact f2 x hx
   ·exact f1
end
def Ix (s:List UInt8):Gr×St:=
 let a:=bx s ⟨0,0⟩ 1
 let b:=bx s a.2 4
 let c:=bx s b.2 4
 let d:=bx s c.2 1
 let e:=eJ s d.2 d.1.toNat
 let f:=bx s e.2 1
 (⟨a.1,nF b.1,nF c.1,e.1,f.1⟩,f.2)
theorem KK (s:List UInt8):dG s=if(Ix s).2.err≠0 then(Gr.zero,11) else if(s.length:Int)-(Ix s).2.at_>0 then(Gr.zero,10) else((Ix s).1,0):=rfl
theorem Qm {g:Gr} {s r:List UInt8} (hf:g.fit) (h:s=g.enc++r): ∃k',Ix s=(g,⟨k',0⟩)∧s.drop k'=r:=by
 obtain⟨f1,f2,f3,f4,f5⟩:=hf
 have h0:s.drop 0=g.enc++r:=by rw[List.drop_zero];exact h
 unfold Gr.enc at h0
 simp only[List.append_assoc,tP,uz] at h0
 obtain⟨e1,d1⟩:=ux (f1 g.width (by simp)) h0
 obtain⟨v2,e2,s2,d2⟩:=ye (f2 g.low (by simp)) d1
 obtain⟨v3,e3,s3,d3⟩:=ye (f2 g.high (by simp)) d2
 obtain⟨e4,d4⟩:=ux (f3 (g.nodes.length:Int) (by simp)) d3
 obtain⟨k5,e5,d5⟩:=LY f4 d4
 obtain⟨e6,d6⟩:=ux (f5 g.out (by simp)) d5
 refine⟨_,?_,d6⟩
 unfold Ix
 simp only[e1,e2,e3,e4,Int.toNat_natCast,e5,e6,s2,s3]
theorem okz (s:List UInt8):St.ok s ⟨0,0⟩:=⟨Nat.zero_le _,.inl rfl⟩
theorem Qn {s:List UInt8} (e:(Ix s).2.err=0):s=(Ix s).1.enc++s.drop (Ix s).2.at_∧(Ix s).1.fit:=by
 unfold Ix at e ⊢
 dsimp only at e ⊢
 have ok1:=cJ (okz s) 1
 have o1:=uy (okz s)
 generalize bx s ⟨0,0⟩ 1=a at *
 have ok2:=cJ ok1 4
 have o2:=yf ok1
 generalize bx s a.2 4=b at *
 have ok3:=cJ ok2 4
 have o3:=yf ok2
 generalize bx s b.2 4=c at *
 have ok4:=cJ ok3 1
 have o4:=uy ok3
 generalize bx s c.2 1=d at *
 have ok5:=pX ok4 d.1.toNat
 have l5:=oX s d.2 d.1.toNat
 have o5:=FI ok4 d.1.toNat
 generalize eJ s d.2 d.1.toNat=n at *
 have o6:=uy ok5
 generalize bx s n.2 1=f at *
 obtain⟨z5,d6,f6⟩:=o6 e
 obtain⟨z4,d5,f5⟩:=o5 z5
 obtain⟨z3,d4,f4⟩:=o4 z4
 obtain⟨z2,d3⟩:=o3 z3
 obtain⟨z1,d2⟩:=o2 z2
 obtain⟨z0,d1,f1⟩:=o1 z1
 have ed:d.1=(n.1.length:Int):=by omega
 refine⟨?_,?_⟩
 ·have d1':s=Mq a.1++s.drop a.2.at_:=by rw[List.drop_zero] at d1;exact d1
  unfold Gr.enc
  simp only[List.append_assoc,tP,uz]
  conv=>lhs;rw[d1',d2,d3,d4,d5,d6,ed]
 ·exact⟨by rw[bV];exact⟨f1,cD _ _⟩,by rw[bV,bV];exact⟨yg _,yg _,cD _ _⟩,by rw[bV];exact⟨by dsimp only;omega,cD _ _⟩,f5,by rw[bV];exact⟨f6,cD _ _⟩⟩
theorem LZ (s:List UInt8):(Ix s).1.nodes.length≤255∧ ∀n∈(Ix s).1.nodes,n.inn.length≤255∧n.weights.length≤65535∧n.bias.length≤65535:=by
 unfold Ix
 dsimp only
 have hr:=eM s (bx s (bx s (bx s ⟨0,0⟩ 1).2 4).2 4).2 1
 generalize bx s (bx s (bx s (bx s ⟨0,0⟩ 1).2 4).2 4).2 1=d at *
 refine⟨by rw[oX];omega,?_⟩
 generalize d.1.toNat=k
 induction k with
 |zero=>intro n hn;cases hn
 |succ k ih=>
  intro n hn
  simp only[eJ,List.mem_append,List.mem_singleton] at hn
  rcases hn with hn|rfl
  ·exact ih n hn
  ·exact Ik _ _
theorem NP {g:Gr} (hf:g.fit):tQ (fi++g.enc)=(g,0):=by
 unfold tQ
 rw[if_pos (List.prefix_append _ _)]
 have e4:(fi++g.enc).drop 4=g.enc:=rfl
 rw[e4]
 obtain⟨k',e,hd⟩:=Qm (s:=g.enc) (r:=[]) hf (List.append_nil _).symm
 have hl:=congrArg List.length hd
 rw[List.length_drop,List.length_nil] at hl
 rw[KK,e,if_neg (by simp),if_neg (by simp only;omega)]
theorem NQ {s:List UInt8} (h:(tQ s).2=0):(tQ s).1.fit∧s=fi++(tQ s).1.enc:=by
 unfold tQ at h ⊢
 by_cases hp:fi<+:s
 ·rw[if_pos hp] at h ⊢
  obtain⟨u,rfl⟩:=hp
  have e4:(fi++u).drop 4=u:=rfl
  rw[e4] at h ⊢
  rw[KK] at h ⊢
  by_cases he:(Ix u).2.err≠0
  ·rw[if_pos he] at h;simp at h
  ·rw[if_neg he] at h ⊢
   by_cases hl:(u.length:Int)-(Ix u).2.at_>0
   ·rw[if_pos hl] at h;simp at h
   ·rw[if_neg hl] at h ⊢
    have ho:=Qn (s:=u) (by simpa using he)
    refine⟨ho.2,?_⟩
    have e:=ho.1
    rw[List.drop_of_length_le (by omega),List.append_nil] at e
    show fi++u=fi++(Ix u).1.enc
    rw[←e]
 ·rw[if_neg hp] at h;simp at h
theorem NR {s:List UInt8} (h:(tQ s).2≠0):(tQ s).1=Gr.zero:=by
 unfold tQ at h ⊢
 split
 ·rename_i hp
  rw[if_pos hp] at h
  rw[KK] at h ⊢
  split
  ·rfl
  ·split
   ·rfl
   ·rename_i h1 h2
    rw[if_neg h1,if_neg h2] at h
    exact absurd rfl h
 ·rfl
theorem L0 (s:List UInt8):(tQ s).1.nodes.length≤255∧ ∀n∈(tQ s).1.nodes,n.inn.length≤255∧n.weights.length≤65535∧n.bias.length≤65535:=by
 by_cases h:(tQ s).2=0
 ·have hp:fi<+:s:=⟨_,(NQ h).2.symm⟩
  unfold tQ at h ⊢
  rw[if_pos hp] at h ⊢
  rw[KK] at h ⊢
  split
  ·exact⟨by decide,fun n hn=>by cases hn⟩
  ·split
   ·exact⟨by decide,fun n hn=>by cases hn⟩
   ·exact LZ _
 ·rw[NR h]
  exact⟨by decide,fun n hn=>by cases hn⟩
end Go.Proofs.YtdhpmegbmjoekaaGreatDoor.G
