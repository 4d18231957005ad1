/- Frames by numbers, and whether frames are the same (earshotref18: Made, Same). -/
import Derived.Test.YtbgplllcjhgdhaaGreatDoorCKeep6
namespace Go.Proofs.YtbgplllcjhgdhaaGreatDoor.G
open Go Go.Sh
set_option linter.unusedVariables false
set_option linter.unusedSimpArgs false
section
variable {h:Heap}
theorem Same18_ok {a b:Fm} (aok:a.ok) (bok:b.ok) (ha:a.fact.P h) (hb:b.fact.P h) (hl:a.l<2 ^ 40) (e:a.fr=b.fr):callP P n_ref18_Same #[.slice a.p a.l a.c,.slice b.p b.l b.c] h fun v h'=>v= .bool true∧h'=h:=by
 refine call_ref18_Same _ _ _ _ _ _ ?_
 unfold ref18_Same
 have fa:=Fm.frs aok ha
 have fb:=Fm.frs bok hb
 have hab:a.l=b.l:=by have h1:=Fm.len aok;have h2:=Fm.len bok;rw[e] at h1;omega
 refine ifB_bne (fun hne=>absurd (by omega) hne) (fun _=> ?_)
 refine LoopS_i (fun mm s g=>g=h∧ ∃t:Nat,s=((a.p,a.l,a.c),(b.p,b.l,b.c),(t:Int),())∧t≤a.l∧mm=a.l-t) a.l ⟨rfl,0,rfl,by omega,rfl⟩ ?_
 rintro mm s g ⟨rfl,t,rfl,ht,rfl⟩
 unfold ref18_Same_l4
 dsimp only
 refine ifB_dec (fun hlt=> ?_) (fun hge=>⟨rfl,rfl⟩)
 have htl:t<a.l:=by omega
 obtain⟨x,ex⟩: ∃s,a.ss[t]? =some s:=⟨_,List.getElem?_eq_getElem (by have:=fa.len;omega)⟩
 obtain⟨y,ey⟩: ∃s,b.ss[t]? =some s:=⟨_,List.getElem?_eq_getElem (by have:=fb.len;omega)⟩
 have exy:x.xs=y.xs:=by
  have h1:a.fr[t]? =some x.xs:=fsOf_get ex
  have h2:b.fr[t]? =some y.xs:=fsOf_get ey
  rw[e,h2] at h1
  exact(Option.some.inj h1).symm
 have xm:=List.mem_of_getElem? ex
 have ym:=List.mem_of_getElem? ey
 have xl:x.xs.length=x.l:=(fa.ok x xm).1.1
 have yl:y.xs.length=y.l:=(fb.ok y ym).1.1
 have x40:=(fa.ok x xm).2
 have hxy:x.l=y.l:=by rw[←xl,←yl,exy]
 obtain⟨pa,epa⟩:=fa.row.some_of (by rw[slv_length,fa.len];omega)
 obtain⟨pb,epb⟩:=fb.row.some_of (by rw[slv_length,fb.len];omega)
 have lda:cellH g (pa.add t)=some x.v:=by have:=fa.row;rw[epa] at this;exact this.cell (slv_get ex)
 have ldb:cellH g (pb.add t)=some y.v:=by have:=fb.row;rw[epb] at this;exact this.cell (slv_get ey)
 refine idxI_i epa rfl htl (idxI_i epb rfl (by omega) ?_)
 simp only[Int.toNat_natCast,Nat.mul_one]
 refine ldSlice_i (p:=x.p) (l:=x.l) (c:=x.c) lda (ldSlice_i (p:=y.p) (l:=y.l) (c:=y.c) ldb ?_)
 refine ifB_bne (fun hne=>absurd (by omega) hne) (fun _=> ?_)
 refine LoopS_i (fun mm s g2=>g2=g∧ ∃k:Nat,s=((a.p,a.l,a.c),(b.p,b.l,b.c),(t:Int),(k:Int),())∧k≤x.l∧mm=x.l-k) x.l ⟨rfl,0,rfl,by omega,rfl⟩ ?_
 rintro mm s g2 ⟨rfl,k,rfl,hk,rfl⟩
 unfold ref18_Same_l9
 dsimp only
 refine idxI_i epa rfl htl ?_
 simp only[Int.toNat_natCast,Nat.mul_one]
 refine ldSlice_i (p:=x.p) (l:=x.l) (c:=x.c) lda (ifB_dec (fun hlt2=> ?_) (fun hge2=> ?_))
 ·have hkx:k<x.xs.length:=by omega
  have hky:k<y.xs.length:=by omega
  have rx:Row g2 x.p (ints x.xs):=fa.rows _ (List.mem_map_of_mem xm)
  have ry:Row g2 y.p (ints y.xs):=fb.rows _ (List.mem_map_of_mem ym)
  obtain⟨qx,eqx⟩:=rx.some_of (by rw[ints_length];omega)
  obtain⟨qy,eqy⟩:=ry.some_of (by rw[ints_length];omega)
  rw[eqx] at rx
  rw[eqy] at ry
  refine idxI_i epa rfl htl (idxI_i epb rfl (by omega) ?_)
  refine ldSlice_i (p:=x.p) (l:=x.l) (c:=x.c) lda (idxI_i eqx rfl (by omega) ?_)
  refine ldInt_i (n:=x.xs[k]) (rx.cell (ints_get (List.getElem?_eq_getElem hkx))) ?_
  refine ldSlice_i (p:=y.p) (l:=y.l) (c:=y.c) ldb (idxI_i eqy rfl (by omega) ?_)
  refine ldInt_i (n:=y.xs[k]) (ry.cell (ints_get (List.getElem?_eq_getElem hky))) ?_
  refine ifB_bne (fun hne=>absurd (by simp only[exy]) hne) (fun _=> ?_)
  rw[wrap64_in (by omega)]
  exact⟨x.l-(k+1),by omega,by trivial,k+1,rfl,by omega,rfl⟩
 ·rw[wrap64_in (by omega)]
  exact⟨a.l-(t+1),by omega,by trivial,t+1,rfl,by omega,rfl⟩
theorem Made18_ok {gv:Gv} (hw:1≤gv.width∧gv.width≤16) (hlh:gv.low≤gv.high∧ -32768≤gv.low∧gv.high≤32767) {m:Nat} (hm:m<2 ^ 20) {p:Option Addr} {l c:Nat} {xs:List Int} (hx:Row h p (ints xs)) (hl:xs.length=l) (hl2:l<2 ^ 62):
 callP P n_ref18_Made #[gv.v,.int .i64 (m:Int),.slice p l c] h fun v h'=> ∃f:Fm,v=f.v∧f.ok∧f.l=m∧Sep h no h' [f.fact] []:=by
 refine call_ref18_Made _ _ _ _ _ ?_
 unfold ref18_Made
 have S:=(Sep.start h no).read (row p (ints xs)) hx
 refine newI_S (cs:=gv.cells) S fun b1 _ _ S=> ?_
 dsimp only[List.nil_append,List.cons_append] at S
 replace S:=(S.nil 1).reads0
 dsimp only[List.nil_append,List.cons_append] at S
 obtain⟨w,ew⟩: ∃w:Nat,gv.width=(w:Int):=⟨gv.width.toNat,by omega⟩
 have ldw: ∀{g:Heap} {W2 R2:List Fact},Sep h no g (blk b1 gv.cells::W2) R2→cellH g ⟨b1,0,none⟩=some (.int .i64 (w:Int)):=fun S=>by rw[←ew];exact S.cell 0 rfl rfl
 refine LoopS_i (fun mm s g=> ∃(t:Nat) (q:Option Addr) (d:Nat) (outs:List Sl) (Z:List Fact),s=((m:Int),(p,l,c),⟨b1,0,none⟩,(q,t,d),(t:Int),())∧t≤m∧mm=m-t∧(∀s∈outs,(s.ok∧s.l<2 ^ 40)∧Cov Z s.row)∧
  Sep h no g [blk b1 gv.cells,own 1 q t d (slv outs),reads Z] [row p (ints xs)]) m ⟨0,none,0,[],[],rfl,by omega,rfl,by simp,S⟩ ?_
 clear S
 rintro mm s g ⟨t,q,d,outs,Z,rfl,ht,rfl,hok,S⟩
 unfold ref18_Made_l3
 simp only[add_mk,Nat.zero_add]
 refine ifB_dec (fun hlt=> ?_) (fun hge=> ?_)
 case refine_2=>
  have:t=m:=by omega
  subst this
  obtain⟨f,q1,q2,_,q4⟩:=FmQ.of (noR (S.pw [1,2])) hok
  refine⟨f,q1,q2,?_,q4⟩
  have q1:Value.slice q t d= .slice f.p f.l f.c:=q1
  injection q1 with _ h2 _
  exact h2.symm
 refine ldInt_i (ldw S) ?_
 refine mkI_S S w rfl rfl rfl (by decide) (by omega) (by omega) fun b5 g2 _ S=> ?_
 have ezero:(List.replicate w [Value.int .i64 0]).flatten=ints (List.replicate w 0):=by rw[repl_one];simp[ints]
 rw[ezero] at S
 dsimp only[List.nil_append,List.cons_append] at S
 simp only[Int.toNat_natCast]
 refine LoopS_i (fun mm s g=> ∃(k:Nat) (ys:List Int),s=((m:Int),(p,l,c),⟨b1,0,none⟩,(q,t,d),(t:Int),(some ⟨b5,0,none⟩,w,w),(k:Int),())∧k≤w∧mm=w-k∧ys.length=w∧
  Sep h no g [blk b1 gv.cells,own 1 q t d (slv outs),reads Z,blk b5 (ints ys)] [row p (ints xs)]) w ⟨0,List.replicate w 0,rfl,by omega,rfl,by simp,S⟩ ?_
 clear S
 rintro mm s g ⟨k,ys,rfl,hk,rfl,hys,S⟩
 unfold ref18_Made_l7
 simp only[add_mk,Nat.zero_add]
 refine ldInt_i (ldw S) (ifB_dec (fun hlt2=> ?_) (fun hge2=> ?_))
 ·refine ldInt_i (n:=gv.low) (S.cell 0 rfl rfl) (idxI_i rfl rfl (by omega) ?_)
  simp only[Int.toNat_natCast,Nat.mul_one,add_mk,Nat.zero_add]
  refine stI_S S 3 rfl (by rw[ints_length];omega) fun g3 _ S=> ?_
  rw[ints_set'] at S
  dsimp only[List.set] at S
  refine ifB_dec (fun hpos=> ?_) (fun hpos=> ?_)
  ·refine ldInt_i (n:=gv.high) (S.cell 0 rfl rfl) (ldInt_i (n:=gv.low) (S.cell 0 rfl rfl) (ldInt_i (n:=gv.low) (S.cell 0 rfl rfl) (ldInt_i (ldw S) ⟨by omega,?_⟩)))
   have hm1:0≤(t:Int)*(w:Int)∧(t:Int)*(w:Int)≤2 ^ 20*16:=⟨Int.mul_nonneg (by omega) (by omega),Int.mul_le_mul (by omega) (by omega) (by omega) (by omega)⟩
   rw[wrap64_in (n:=(t:Int)*(w:Int)) (by omega),wrap64_in (n:=(t:Int)*(w:Int)+(k:Int)) (by omega)]
   have hmod:0≤Int.tmod ((t:Int)*(w:Int)+(k:Int)) (l:Int)∧Int.tmod ((t:Int)*(w:Int)+(k:Int)) (l:Int)<(l:Int):=by
    rw[Int.tmod_eq_emod_of_nonneg (by omega)]
    exact⟨Int.emod_nonneg _ (by omega),Int.emod_lt_of_pos _ (by omega)⟩
   obtain⟨j,ej⟩: ∃j:Nat,Int.tmod ((t:Int)*(w:Int)+(k:Int)) (l:Int)=(j:Int):=⟨(Int.tmod ((t:Int)*(w:Int)+(k:Int)) (l:Int)).toNat,by omega⟩
   rw[ej] at hmod ⊢
   have xr:=S.row 0 rfl
   obtain⟨xa,exa⟩:=xr.some_of (by rw[ints_length];omega)
   rw[exa] at xr
   have hjx:j<xs.length:=by omega
   refine idxI_i exa (k:=j) rfl (by omega) ?_
   refine ldInt_i (n:=xs[j]) (by simp only[Int.toNat_natCast,Nat.mul_one];exact xr.cell (ints_get (List.getElem?_eq_getElem hjx))) ?_
   have ne:IntKind.wrap .i64 (IntKind.wrap .i64 (gv.high-gv.low)+1)≠0:=by rw[wrap64_in (n:=gv.high-gv.low) (by omega),wrap64_in (by omega)];omega
   refine⟨ne,ne,idxI_i rfl (k:=k) rfl (by omega) ?_⟩
   simp only[Int.toNat_natCast,Nat.mul_one,add_mk,Nat.zero_add]
   refine stI_S S 3 rfl (by rw[ints_length,List.length_set];omega) fun g4 _ S=> ?_
   rw[ints_set'] at S
   dsimp only[List.set] at S
   rw[wrap64_in (n:=(k:Int)+1) (by omega)]
   exact⟨w-(k+1),by omega,k+1,_,rfl,by omega,rfl,by rw[List.length_set,List.length_set];exact hys,S⟩
  ·rw[wrap64_in (n:=(k:Int)+1) (by omega)]
   exact⟨w-(k+1),by omega,k+1,_,rfl,by omega,rfl,by rw[List.length_set];exact hys,S⟩
 ·refine push_S S 1 rfl (by decide) (by omega) fun b q' d' g5 S=> ?_
  dsimp only[List.set,List.cons_append,List.nil_append] at S
  have S2:=S.turn 3 rfl ((⟨some ⟨b5,0,none⟩,w,w,ys⟩:Sl).row) (fun hat=>Row.of_at hat) (fun j hj=>by obtain⟨_,a,ha,rfl⟩:=hj;cases ha;rfl)
  dsimp only[List.set] at S2
  have S3:=S2.joinR [0,1] 2 3 rfl rfl
  dsimp only[Sh.pick,List.cons_append,List.nil_append,List.getElem?_cons_zero,List.getElem?_cons_succ] at S3
  rw[wrap64_in (n:=(t:Int)+1) (by omega)]
  refine⟨m-(t+1),by omega,t+1,q',d',outs++[⟨some ⟨b5,0,none⟩,w,w,ys⟩],_,rfl,by omega,rfl,fun s hs=> ?_,by
   have e:slv (outs++[⟨some ⟨b5,0,none⟩,w,w,ys⟩])=slv outs++[.slice (some ⟨b5,0,none⟩) w w]:=by simp[slv]
   rw[e];exact S3⟩
  rcases List.mem_append.1 hs with hs|hs
  ·exact⟨(hok s hs).1,(hok s hs).2.left⟩
  ·simp only[List.mem_singleton] at hs;subst hs
   exact⟨⟨⟨hys,Nat.le_refl _⟩,by show w<2 ^ 40;omega⟩,Cov.last⟩
end
end Go.Proofs.YtbgplllcjhgdhaaGreatDoor.G
