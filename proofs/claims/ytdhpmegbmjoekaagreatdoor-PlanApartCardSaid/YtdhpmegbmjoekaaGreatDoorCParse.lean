/- The plain law of the model's bytes: what is written is read, what is read is written. -/
import Derived.Test.YtdhpmegbmjoekaaGreatDoorCDec3
import Derived.Test.YtdhpmegbmjoekaaGreatDoorCSameG
namespace Go.Proofs.YtdhpmegbmjoekaaGreatDoor.G
open Go Go.Sh
set_option linter.unusedVariables false
set_option linter.unusedSimpArgs false
section
variable {s r:List UInt8} {k:Nat} {t:St}
theorem rget_lowT {x:Int} {n:Nat} (h:s.drop k=low x n++r):rget s ⟨k,0⟩ n=(x % 256 ^ n,⟨k+n,0⟩)∨n=0:=by
 by_cases hn:n=0
 ·exact .inr hn
 refine .inl ?_
 have hl:=congrArg List.length h
 rw[List.length_drop,List.length_append,low_length] at hl
 unfold rget
 rw[if_neg (by simp),if_neg (by simp only;omega)]
 simp only
 rw[h,List.take_append_of_le_length (by rw[low_length];omega),List.take_of_length_le (by rw[low_length];omega),num_low]
theorem drop_more {a:List UInt8} (h:s.drop k=a++r):s.drop (k+a.length)=r:=by
 rw[←List.drop_drop,h,List.drop_append_of_le_length (Nat.le_refl _),List.drop_of_length_le (Nat.le_refl _),List.nil_append]
theorem rget_to {x:Int} {n:Nat} (hn:0<n) (h8:n≤8) (hx:0≤x∧x<256 ^ n) (h:s.drop k=low (IntKind.wrap .u64 x) n++r):rget s ⟨k,0⟩ n=(x,⟨k+n,0⟩)∧s.drop (k+n)=r:=by
 have h1:=drop_more h
 rw[low_length] at h1
 refine⟨?_,h1⟩
 rcases rget_lowT h with e|e
 ·rw[e]
  have hp:(256:Int) ^ n≤2 ^ 64:=by
   have:(256:Nat) ^ n≤256 ^ 8:=Nat.pow_le_pow_right (by decide) h8
   have h2:=Int.ofNat_le.2 this
   rw[Int.natCast_pow,Int.natCast_pow] at h2
   exact Int.le_trans h2 (by decide)
  have e2:IntKind.wrap .u64 x=x:=by rw[wrap_u64];exact Int.emod_eq_of_lt hx.1 (by omega)
  rw[e2,Int.emod_eq_of_lt hx.1 hx.2]
 ·omega
theorem word_to {x:Int} (hx:lo32≤x∧x≤hi32) (h:s.drop k=low (IntKind.wrap .u64 x) 4++r): ∃v,rget s ⟨k,0⟩ 4=(v,⟨k+4,0⟩)∧sgn v=x∧s.drop (k+4)=r:=by
 have h1:=drop_more h
 rw[low_length] at h1
 rcases rget_lowT h with e|e
 ·refine⟨_,e,?_,h1⟩
  unfold sgn
  rw[wrap_u64,wrap_i32]
  unfold lo32 hi32 at hx
  omega
 ·omega
theorem byte_to {x:Int} (hx:0≤x∧x≤255) (h:s.drop k=byt x++r):rget s ⟨k,0⟩ 1=(x,⟨k+1,0⟩)∧s.drop (k+1)=r:=
 rget_to (by decide) (by decide) (by omega) h
theorem rbs_to {xs:List Int} (hf:fitR 0 255 xs) (h:s.drop k=bytS xs++r):rbs s xs.length ⟨k,0⟩=(xs,⟨k+xs.length,0⟩)∧s.drop (k+xs.length)=r:=by
 have key: ∀n,n≤xs.length→rbs s n ⟨k,0⟩=(xs.take n,⟨k+n,0⟩)∧s.drop (k+n)=bytS (xs.drop n)++r:=by
  intro n
  induction n with
  |zero=>intro _;exact⟨rfl,h⟩
  |succ n ih=>
   intro hn
   obtain⟨e,hd⟩:=ih (by omega)
   rw[List.drop_eq_getElem_cons (show n<xs.length by omega)] at hd
   have hd':s.drop (k+n)=byt xs[n]++(bytS (xs.drop (n+1))++r):=by rw[hd];unfold bytS;rw[List.flatMap_cons,List.append_assoc]
   have hg:=byte_to (hf _ (List.getElem_mem (show n<xs.length by omega))) hd'
   refine⟨?_,hg.2⟩
   simp only[rbs,e,hg.1]
   rw[List.take_succ_eq_append_getElem (by omega)]
   rfl
 have:=key xs.length (Nat.le_refl _)
 rw[List.take_length,List.drop_length] at this
 exact⟨this.1,this.2⟩
theorem rw_to: ∀(xs:List Int) (k:Nat),fitR lo32 hi32 xs→s.drop k=words xs++r→rw s xs.length ⟨k,0⟩=(some xs,⟨k+4*xs.length,0⟩)∧s.drop (k+4*xs.length)=r
 |[],k,_,h=>⟨rfl,h⟩
 |x::u,k,hf,h=>by
  rw[fitR_cons] at hf
  have h':s.drop k=low (IntKind.wrap .u64 x) 4++(words u++r):=by rw[h];simp[words]
  obtain⟨v,e,hv,hd⟩:=word_to hf.1 h'
  obtain⟨e2,hd2⟩:=rw_to u (k+4) hf.2 hd
  have ek:k+4+4*u.length=k+4*(u.length+1):=by omega
  rw[ek] at e2 hd2
  refine⟨?_,hd2⟩
  simp only[List.length_cons,rw,e]
  rw[if_neg (by simp),e2,hv]
  rfl
theorem rrow_to {xs:List Int} (hl:xs.length≤65535) (hf:fitR lo32 hi32 xs) (h:s.drop k=rowB xs++r): ∃k',rrow s ⟨k,0⟩=(xs,⟨k',0⟩)∧s.drop k'=r:=by
 have hr:rowB xs=low (IntKind.wrap .u64 xs.length) 2++words xs:=by unfold rowB;rw[if_neg (by omega)]
 rw[hr,List.append_assoc] at h
 obtain⟨e,hd⟩:=rget_to (by decide) (by decide) (by omega) h
 obtain⟨e2,hd2⟩:=rw_to xs (k+2) hf hd
 refine⟨_,?_,hd2⟩
 unfold rrow
 rw[e]
 simp only[Int.toNat_natCast]
 rw[e2]
 rfl
theorem bytS_one (x:Int):bytS [x]=byt x:=by simp[bytS]
theorem words_two (x y:Int):words [x,y]=low (IntKind.wrap .u64 x) 4++low (IntKind.wrap .u64 y) 4:=by simp[words]
theorem dNode_to {n:Nd} (hf:n.fit) (h:s.drop k=n.enc++r): ∃k',dNode s ⟨k,0⟩=(n,⟨k',0⟩)∧s.drop k'=r:=by
 obtain⟨f1,f2,f3,f4,f5,f6,f7,f8,f9⟩:=hf
 unfold Nd.enc at h
 simp only[List.append_assoc] at h
 obtain⟨e1,d1⟩:=rbs_to f1 h
 obtain⟨e2,d2⟩:=rbs_to f2 d1
 obtain⟨e3,d3⟩:=rbs_to f3 d2
 obtain⟨k4,e4,d4⟩:=rrow_to f4.1 f4.2 d3
 obtain⟨k5,e5,d5⟩:=rrow_to f5.1 f5.2 d4
 have f6':=f6 n.mult (by simp)
 obtain⟨e6,d6⟩:=rget_to (by decide) (by decide) (by omega) d5
 rw[bytS_one] at d6
 obtain⟨e7,d7⟩:=byte_to (f7 n.shift (by simp)) d6
 rw[words_two,List.append_assoc] at d7
 obtain⟨v8,e8,s8,d8⟩:=word_to (f8 n.low (by simp)) d7
 obtain⟨v9,e9,s9,d9⟩:=word_to (f8 n.high (by simp)) d8
 rw[bytS_one] at d9
 obtain⟨e10,d10⟩:=byte_to (f9 n.post (by simp)) d9
 refine⟨_,?_,d10⟩
 have l1:[n.kind,(n.inn.length:Int)].length=2:=rfl
 have l3:[n.width,n.size,n.step,n.gap,n.left,n.right].length=6:=rfl
 rw[l1] at e1 e2 e3
 rw[l3] at e3
 unfold dNode
 simp only[e1,List.getD_cons_zero,List.getD_cons_succ,Int.toNat_natCast,e2,e3]
 rw[l1,l3] at e4
 simp only[e4,e5,e6,e7,e8,e9,e10,s8,s9]
theorem rnodes_to {ns:List Nd} (hf: ∀n∈ns,n.fit) (h:s.drop k=ns.flatMap Nd.enc++r): ∃k',rnodes s ⟨k,0⟩ ns.length=(ns,⟨k',0⟩)∧s.drop k'=r:=by
 have key: ∀i,i≤ns.length→ ∃k',rnodes s ⟨k,0⟩ i=(ns.take i,⟨k',0⟩)∧s.drop k'=(ns.drop i).flatMap Nd.enc++r:=by
  intro i
  induction i with
  |zero=>intro _;exact⟨k,rfl,h⟩
  |succ i ih=>
   intro hi
   obtain⟨k',e,hd⟩:=ih (by omega)
   rw[List.drop_eq_getElem_cons (show i<ns.length by omega),List.flatMap_cons,List.append_assoc] at hd
   obtain⟨k2,e2,hd2⟩:=dNode_to (hf _ (List.getElem_mem (show i<ns.length by omega))) hd
   refine⟨k2,?_,hd2⟩
   simp only[rnodes,e,e2]
   rw[List.take_succ_eq_append_getElem (by omega)]
 obtain⟨k',e,hd⟩:=key ns.length (Nat.le_refl _)
 rw[List.take_length] at e
 rw[List.drop_length] at hd
 exact⟨k',e,hd⟩
end
def dG0 (s:List UInt8):Gr×St:=
 let a:=rget s ⟨0,0⟩ 1
 let b:=rget s a.2 4
 let c:=rget s b.2 4
 let d:=rget s c.2 1
 let e:=rnodes s d.2 d.1.toNat
 let f:=rget s e.2 1
 (⟨a.1,sgn b.1,sgn c.1,e.1,f.1⟩,f.2)
theorem dG_eq (s:List UInt8):dG s=if(dG0 s).2.err≠0 then(Gr.zero,11) else if(s.length:Int)-(dG0 s).2.at_>0 then(Gr.zero,10) else((dG0 s).1,0):=rfl
theorem dG0_to {g:Gr} {s r:List UInt8} (hf:g.fit) (h:s=g.enc++r): ∃k',dG0 s=(g,⟨k',0⟩)∧s.drop k'=r:=by
 obtain⟨f1,f2,f3,f4,f5⟩:=hf
 have h0:s.drop 0=g.enc++r:=by rw[List.drop_zero];exact h
 unfold Gr.enc at h0
 simp only[List.append_assoc,bytS_one,words_two] at h0
 obtain⟨e1,d1⟩:=byte_to (f1 g.width (by simp)) h0
 obtain⟨v2,e2,s2,d2⟩:=word_to (f2 g.low (by simp)) d1
 obtain⟨v3,e3,s3,d3⟩:=word_to (f2 g.high (by simp)) d2
 obtain⟨e4,d4⟩:=byte_to (f3 (g.nodes.length:Int) (by simp)) d3
 obtain⟨k5,e5,d5⟩:=rnodes_to f4 d4
 obtain⟨e6,d6⟩:=byte_to (f5 g.out (by simp)) d5
 refine⟨_,?_,d6⟩
 unfold dG0
 simp only[e1,e2,e3,e4,Int.toNat_natCast,e5,e6,s2,s3]
theorem okz (s:List UInt8):St.ok s ⟨0,0⟩:=⟨Nat.zero_le _,.inl rfl⟩
theorem dGr_back {g:Gr} (hf:g.fit):dGr (magic++g.enc)=(g,0):=by
 unfold dGr
 rw[if_pos (List.prefix_append _ _)]
 have e4:(magic++g.enc).drop 4=g.enc:=rfl
 rw[e4]
 obtain⟨k',e,hd⟩:=dG0_to (s:=g.enc) (r:=[]) hf (List.append_nil _).symm
 have hl:=congrArg List.length hd
 rw[List.length_drop,List.length_nil] at hl
 rw[dG_eq,e,if_neg (by simp),if_neg (by simp only;omega)]
end Go.Proofs.YtdhpmegbmjoekaaGreatDoor.G
