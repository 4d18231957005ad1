/- ShMp ShRg, in one text. -/
import Derived.Test.YtdhpmegbmjoekaaGreatDoorShN
section
namespace Go.Sh
set_option linter.unusedVariables false
structure jp (kk:IntKind) (es:List MapEntry) (c:Nat) (L:Int→Option Value):Prop where
 all: ∀e∈es,∃a:Int,e.key= .int kk a
 get: ∀n,(es.find? (eZ n)).map (·.val)=L n
 born: ∀e∈es,e.born<c
 nodup:(es.map (·.born)).Nodup
 keys:es.Pairwise fun x y=> ∀n,eZ n x=true→eZ n y=false
theorem un {n:Int}: ∀{es:List MapEntry} {k i:Nat} {v:Value},kJ n es k=some (i,v)→ ∃l1 e l2,es=l1++e::l2∧l1.length+k=i∧eZ n e=true∧e.val=v∧ ∀x∈l1,eZ n x=false
 |[],k,i,v,h=>by simp[kJ] at h
 |e::es,k,i,v,h=>by
  simp only[kJ] at h
  split at h
  ·rename_i hk
   simp only[Option.some.injEq,Prod.mk.injEq] at h
   obtain⟨rfl,rfl⟩:=h
   exact⟨[],e,es,rfl,by simp,hk,rfl,by simp⟩
  ·rename_i hk
   obtain⟨l1,e',l2,rfl,hl,h1,h2,h3⟩:=un h
   exact⟨e::l1,e',l2,rfl,by simp only[List.length_cons];omega,h1,h2,fun x hx=>by
    rcases List.mem_cons.1 hx with rfl|hx
    ·exact hk
    ·exact h3 x hx⟩
theorem uq {n:Int}: ∀{es:List MapEntry} {k:Nat},kJ n es k=none→ ∀x∈es,eZ n x=false
 |[],k,h,x,hx=>by simp at hx
 |e::es,k,h,x,hx=>by
  simp only[kJ] at h
  split at h
  ·cases h
  ·rename_i hk
   rcases List.mem_cons.1 hx with rfl|hx
   ·exact hk
   ·exact uq h x hx
theorem ur {n:Int} {es:List MapEntry} (h: ∀x∈es,eZ n x=false):es.find? (eZ n)=none:=List.find?_eq_none.2 fun x hx=>by rw[h x hx];simp
theorem Dn {n:Int} {l1 l2:List MapEntry} {e:MapEntry} (h: ∀x∈l1,eZ n x=false) (he:eZ n e=true):(l1++e::l2).find? (eZ n)=some e:=by
 rw[List.find?_append,ur h,Option.none_or,List.find?_cons_of_pos he]
theorem ut {n:Int} {l1 l2:List MapEntry} {e:MapEntry} (he:eZ n e=false):(l1++e::l2).find? (eZ n)=(l1++l2).find? (eZ n):=by
 rw[List.find?_append,List.find?_append,List.find?_cons_of_neg (by rw[he];simp)]
theorem iV {n a:Int} {kk:IntKind} {e:MapEntry} (h:e.key= .int kk a):eZ n e=(n==a):=by simp[eZ,h]
def OZ (L:Int→Option Value) (n:Int) (v:Value):Int→Option Value:=fun m=>if m=n then some v else L m
def Gt (L:Int→Option Value) (n:Int):Int→Option Value:=fun m=>if m=n then none else L m
section
variable {kk:IntKind} {es:List MapEntry} {c:Nat} {L:Int→Option Value}
theorem jp.nil:jp kk [] c fun _=>none:=⟨by simp,fun n=>rfl,by simp,by simp,List.Pairwise.nil⟩
theorem jp.idx_some (m:jp kk es c L) {n:Int} {i:Nat} {v:Value} (h:kJ n es 0=some (i,v)):L n=some v:=by
 obtain⟨l1,e,l2,rfl,_,h1,h2,h3⟩:=un h
 rw[←m.get,Dn h3 h1,←h2];rfl
theorem jp.idx_none (m:jp kk es c L) {n:Int} (h:kJ n es 0=none):L n=none:=by
 rw[←m.get,ur (uq h)];rfl
theorem jp.push (m:jp kk es c L) {n:Int} (h: ∀x∈es,eZ n x=false) (v:Value):jp kk (es++[{key:= .int kk n,val:=v,born:=c}]) (c+1) (OZ L n v):=by
 refine⟨fun e he=> ?_,fun k=> ?_,fun e he=> ?_,?_,?_⟩
 ·rcases List.mem_append.1 he with he|he
  ·exact m.all e he
  ·simp only[List.mem_singleton] at he;subst he;exact⟨n,rfl⟩
 ·by_cases hk:k=n
  ·subst hk
   rw[Dn h (by rw[iV (kk:=kk) (a:=k) rfl];simp)]
   simp[OZ]
  ·rw[ut (by rw[iV (kk:=kk) (a:=n) rfl];simp[hk]),List.append_nil,m.get]
   simp[OZ,hk]
 ·rcases List.mem_append.1 he with he|he
  ·have:=m.born e he;omega
  ·simp only[List.mem_singleton] at he;subst he;exact Nat.lt_succ_self _
 ·rw[List.map_append,List.nodup_append]
  refine⟨m.nodup,by simp,fun x hx y hy=> ?_⟩
  simp only[List.map_cons,List.map_nil,List.mem_singleton] at hy
  obtain⟨e,he,rfl⟩:=List.mem_map.1 hx
  have:=m.born e he
  omega
 ·rw[List.pairwise_append]
  refine⟨m.keys,List.pairwise_singleton _ _,fun x hx y hy k hk=> ?_⟩
  simp only[List.mem_singleton] at hy
  subst hy
  rw[iV (kk:=kk) (a:=n) rfl]
  by_cases e:k=n
  ·subst e;rw[h x hx] at hk;cases hk
  ·simp[e]
theorem jp.mod {l1 l2:List MapEntry} {e:MapEntry} (m:jp kk (l1++e::l2) c L) {n:Int} (h1: ∀x∈l1,eZ n x=false) (he:eZ n e=true) (v:Value):
 jp kk (l1++{key:= .int kk n,val:=v,born:=e.born}::l2) c (OZ L n v):=by
 obtain⟨a,ea⟩:=m.all e (by simp)
 have han:n=a:=by rw[iV ea] at he;simpa using he
 subst han
 have hkey: ∀k,eZ k {key:= .int kk n,val:=v,born:=e.born}=eZ k e:=fun k=>by rw[iV (kk:=kk) (a:=n) rfl,iV ea]
 refine⟨fun x hx=> ?_,fun k=> ?_,fun x hx=> ?_,?_,?_⟩
 ·rcases List.mem_append.1 hx with hx|hx
  ·exact m.all x (List.mem_append_left _ hx)
  ·rcases List.mem_cons.1 hx with rfl|hx
   ·exact⟨n,rfl⟩
   ·exact m.all x (List.mem_append_right _ (List.mem_cons_of_mem _ hx))
 ·by_cases hk:k=n
  ·subst hk
   rw[Dn h1 (by rw[hkey];exact he)]
   simp[OZ]
  ·have he2:eZ k e=false:=by rw[iV ea];simp[hk]
   rw[ut (by rw[hkey];exact he2),←ut (e:=e) he2,m.get]
   simp[OZ,hk]
 ·rcases List.mem_append.1 hx with hx|hx
  ·exact m.born x (List.mem_append_left _ hx)
  ·rcases List.mem_cons.1 hx with rfl|hx
   ·exact m.born e (by simp)
   ·exact m.born x (List.mem_append_right _ (List.mem_cons_of_mem _ hx))
 ·have:=m.nodup
  simpa using this
 ·have hp:=m.keys
  rw[List.pairwise_append,List.pairwise_cons] at hp ⊢
  refine⟨hp.1,⟨fun y hy k hk=>hp.2.1.1 y hy k (by rw[←hkey];exact hk),hp.2.1.2⟩,fun x hx y hy k hk=> ?_⟩
  rcases List.mem_cons.1 hy with rfl|hy
  ·rw[hkey];exact hp.2.2 x hx e (by simp) k hk
  ·exact hp.2.2 x hx y (List.mem_cons_of_mem _ hy) k hk
theorem jp.del {l1 l2:List MapEntry} {e:MapEntry} (m:jp kk (l1++e::l2) c L) {n:Int} (h1: ∀x∈l1,eZ n x=false) (he:eZ n e=true):jp kk (l1++l2) c (Gt L n):=by
 obtain⟨a,ea⟩:=m.all e (by simp)
 have han:n=a:=by rw[iV ea] at he;simpa using he
 subst han
 have hp:=m.keys
 rw[List.pairwise_append,List.pairwise_cons] at hp
 have sub: ∀x,x∈l1++l2→x∈l1++e::l2:=fun x hx=>by
  rcases List.mem_append.1 hx with hx|hx
  ·exact List.mem_append_left _ hx
  ·exact List.mem_append_right _ (List.mem_cons_of_mem _ hx)
 refine⟨fun x hx=>m.all x (sub x hx),fun k=> ?_,fun x hx=>m.born x (sub x hx),?_,?_⟩
 ·by_cases hk:k=n
  ·subst hk
   rw[ur fun x hx=> ?_]
   ·simp[Gt]
   ·rcases List.mem_append.1 hx with hx|hx
    ·exact h1 x hx
    ·exact hp.2.1.1 x hx k he
  ·have he2:eZ k e=false:=by rw[iV ea];simp[hk]
   rw[←ut (e:=e) he2,m.get]
   simp[Gt,hk]
 ·have:=m.nodup
  rw[List.map_append,List.map_cons] at this
  rw[List.map_append]
  have h2:=List.nodup_append.1 this
  rw[List.nodup_append]
  exact⟨h2.1,(List.nodup_cons.1 h2.2.1).2,fun x hx y hy=>h2.2.2 x hx y (List.mem_cons_of_mem _ hy)⟩
 ·rw[List.pairwise_append]
  exact⟨hp.1,hp.2.1.2,fun x hx y hy=>hp.2.2 x hx y (List.mem_cons_of_mem _ hy)⟩
theorem jp.del_none (m:jp kk es c L) {n:Int} (h: ∀x∈es,eZ n x=false):jp kk es c (Gt L n):=by
 refine⟨m.all,fun k=> ?_,m.born,m.nodup,m.keys⟩
 by_cases hk:k=n
 ·subst hk;rw[ur h];simp[Gt]
 ·rw[m.get];simp[Gt,hk]
end
theorem ya {h:ae} {r:Nat} {o u:Obj} (hr:h[r]? =some u):(h.setIfInBounds r o)[r]? =some o:=by
 have:=(Array.getElem?_eq_some_iff.1 hr).1
 simp[this]
theorem Gu {h:ae} {r:Nat} {o:Obj}:cu (fun j=>j=r) h (h.setIfInBounds r o):=by
 refine⟨by simp,fun j hj hne=> ?_⟩
 rw[Array.getElem?_setIfInBounds_ne (Ne.symm hne)]
def GR (r:Nat) (o:Obj):bi:=
 {P:=fun h=>h[r]? =some o,foot:=fun i=>i=r,lt:=fun a e=>by subst e;exact(Array.getElem?_eq_some_iff.1 a).1,
  loc:=fun a _ hs=>by rw[hs _ rfl];exact a}
def mp (kk:IntKind) (r:Nat) (L:Int→Option Value):bi:=
 {P:=fun h=> ∃es c,h[r]? =some (.map es c)∧jp kk es.toList c L,foot:=fun i=>i=r,
  lt:=fun a e=>by obtain⟨es,c,a,_⟩:=a;subst e;exact(Array.getElem?_eq_some_iff.1 a).1,
  loc:=fun a _ hs=>by obtain⟨es,c,a,m⟩:=a;exact⟨es,c,by rw[hs _ rfl];exact a,m⟩}
def Sy (kk:IntKind) (r:Nat) (n:Int) (b:Nat) (L:Int→Option Value):bi:=
 {P:=fun h=> ∃es c l1 e l2,h[r]? =some (.map es c)∧es.toList=l1++e::l2∧jp kk es.toList c L∧eZ n e=true∧(∀x∈l1,eZ n x=false)∧e.born=b,foot:=fun i=>i=r,
  lt:=fun a e=>by obtain⟨es,c,_,_,_,a,_⟩:=a;subst e;exact(Array.getElem?_eq_some_iff.1 a).1,
  loc:=fun a _ hs=>by obtain⟨es,c,l1,e,l2,a,m⟩:=a;exact⟨es,c,l1,e,l2,by rw[hs _ rfl];exact a,m⟩}
section
variable {h0 h:ae} {T:Nat→Prop} {W R:List bi} {kk:IntKind} {r:Nat} {L:Int→Option Value} {n:Int} {z v:Value}
theorem Gw (kk:IntKind) (S:aK h0 T h W R) {K:Nat→ae→Prop} (H: ∀r h',r=h.size→aK h0 T h' (W++[mp kk r fun _=>none]) R→K r h'):aW h (.map #[] 0) K:=by
 refine H h.size _ rfl (S.add (W1:=[mp kk h.size fun _=>none]) (R1:=[]) (U:=no) (aK.one (cu.push _ _ _) ⟨#[],0,by simp,jp.nil⟩ fun b hb hlt=> ?_) fun b hb hu=>hu)
 exact absurd hb (by intro e;have:b=h.size:=e;omega)
theorem Nk {K:Value→Bool→Prop} (hm:(mp kk r L).P h) (H:match L n with|some v=>K v true|none=>K z false):lG kk z (some r) n h K:=by
 obtain⟨es,c,hr,m⟩:=hm
 refine⟨es,c,hr,m.all,?_⟩
 cases hi:kJ n es.toList 0 with
 |some x=>rw[m.idx_some (i:=x.1) (v:=x.2) hi] at H;exact H
 |none=>rw[m.idx_none hi] at H;exact H
theorem Do (f:MapEntry→MapEntry) (e:MapEntry) (l2:List MapEntry): ∀l1:List MapEntry,(l1++e::l2).modify l1.length f=l1++f e::l2
 |[]=>rfl
 |x::r=>by
  have:=Do f e l2 r
  simp only[List.cons_append,List.length_cons,List.modify_succ_cons,this]
theorem Fs (e:MapEntry) (l2:List MapEntry): ∀l1:List MapEntry,(l1++e::l2).eraseIdx l1.length=l1++l2
 |[]=>rfl
 |x::r=>by
  have:=Fs e l2 r
  simp only[List.cons_append,List.length_cons,List.eraseIdx_cons_succ,this]
theorem O0 {l1 l2:List MapEntry} {e:MapEntry} {es:Array MapEntry} (h:es.toList=l1++e::l2) (f:MapEntry→MapEntry):(es.modify l1.length f).toList=l1++f e::l2:=by
 rw[Array.toList_modify,h]
 exact Do f e l2 l1
theorem oU (S:aK h0 T h W R) (i:Nat) {K:ae→Prop} (e:W[i]? =some (mp kk r L)) (H: ∀h',aK h0 T h' (W.set i (mp kk r (OZ L n v))) R→K h'):updB kk (some r) n v h K:=by
 obtain⟨es,c,hr,m⟩:=S.w i _ e
 refine⟨es,c,hr,m.all,H _ (S.upd i e _ Gu ?_ fun b hb=> .inl hb)⟩
 unfold PV
 cases hi:kJ n es.toList 0 with
 |some x=>
  obtain⟨l1,e',l2,he,hl,h1,h2,h3⟩:=un (i:=x.1) (v:=x.2) hi
  rw[he] at m
  refine⟨_,_,ya hr,?_⟩
  rw[←hl,Nat.add_zero,O0 he]
  exact m.mod h3 h1 v
 |none=>
  refine⟨_,_,ya hr,?_⟩
  rw[Array.toList_push]
  exact m.push (uq hi) v
theorem Nl (S:aK h0 T h W R) (i:Nat) {K:ae→Prop} (e:W[i]? =some (mp kk r L)) (H: ∀h',aK h0 T h' (W.set i (mp kk r (Gt L n))) R→K h'):MG kk (some r) n h K:=by
 obtain⟨es,c,hr,m⟩:=S.w i _ e
 refine⟨es,c,hr,m.all,H _ (S.upd i e _ Gu ?_ fun b hb=> .inl hb)⟩
 unfold PW
 cases hi:kJ n es.toList 0 with
 |some x=>
  obtain⟨l1,e',l2,he,hl,h1,h2,h3⟩:=un (i:=x.1) (v:=x.2) hi
  refine⟨_,_,ya hr,?_⟩
  have:(es.eraseIdxIfInBounds x.1).toList=l1++l2:=by
   rw[Array.toList_eraseIdxIfInBounds,he,←hl,Nat.add_zero]
   exact Fs e' l2 l1
  rw[this]
  rw[he] at m
  exact m.del h3 h1
 |none=>
  refine⟨_,_,ya hr,m.del_none (uq hi)⟩
end
end Go.Sh
end
section
set_option linter.unusedVariables false
namespace Go.Sh
set_option linter.unusedSimpArgs false
theorem qL {P:Program} {v:Value} {args:List Value} {h:ae} {K K':Value→ae→Prop} (H:fw P v args h K) (hk: ∀v h',K v h'→K' v h'):fw P v args h K':=by
 unfold fw at H ⊢
 split at H
 ·exact aq.mono H hk
 ·exact wd.mono H hk
 ·exact H.elim
theorem Dp {h h':ae} {a:Addr} {v:Value} (k:cu no h h') (hc:aD h a=some v):aD h' a=some v:=by
 have hb:a.block<h.size:=by
  unfold aD at hc
  apply Decidable.byContradiction
  intro hn
  rw[Array.getElem?_eq_none (by omega)] at hc
  cases hc
 unfold aD at hc ⊢
 rw[k.same a.block hb (fun h=>h)]
 exact hc
section
variable {h0 h:ae} {T:Nat→Prop} {W R:List bi}
theorem Ft (S:aK h0 T h W R) (o:Obj):aK h0 T (h.push o) (W++[GR h.size o]) R:=by
 refine S.add (W1:=[GR h.size o]) (R1:=[]) (U:=no) (aK.one (cu.push _ _ _) (by show(h.push o)[h.size]? =some o;simp) fun b hb hlt=> ?_) fun b hb hu=>hu
 exact absurd hb (by intro e;have:b=h.size:=e;omega)
theorem gX (S:aK h0 T h W R) (i:Nat) {r:Nat} {o:Obj} (o':Obj) (e:W[i]? =some (GR r o)):aK h0 T (h.setIfInBounds r o') (W.set i (GR r o')) R:=
 S.upd i e _ Gu (ya (S.w i _ e)) fun b hb=> .inl hb
theorem HW {P:Program} (S:aK h0 T h W R) {gf:FuncId} {lb:Array Value} {L:List Ls} {round:Obj→Obj→Nat→Oc L→(ae→Prop)→ae→Prop} {K:Nat→ae→Prop}
 (H: ∀(D l:Nat) (rdy busy exh:Obj) (h2:ae),aK h0 T h2 (W++[GR D (.deferred (some []))]++[GR l rdy]) R→
  (∀(y:Oc L) (h1:ae) (K1:Value→ae→Prop),h1[l]? =some rdy→round rdy busy l y (fun h3=>h3[l]? =some busy∧K1 (.bool true) (h3.setIfInBounds l rdy)) h1→fw P (.func (.yield l) #[] #[]) (Bb L y) h1 K1)→
  aq P gf (#[.func (.yield l) #[] #[]]++lb) h2 fun _ h3=>h3[l]? =some rdy∧K D (h3.setIfInBounds l exh)):
 vY P (.func (.func gf) #[] lb) L round h K:=by
 refine⟨gf,lb,rfl,fun rdy busy exh _ _ _ hy=> ?_⟩
 have S2:=Ft (Ft S (.deferred (some []))) rdy
 have e:(h.push (.deferred (some []))).size=h.size+1:=by simp
 rw[e] at S2
 refine H h.size (h.size+1) rdy busy exh _ S2 fun y h1 K1 hl hr=> ?_
 have:=hy y h1 K1 hl hr
 unfold fw
 simpa using this
end
end Go.Sh
end
