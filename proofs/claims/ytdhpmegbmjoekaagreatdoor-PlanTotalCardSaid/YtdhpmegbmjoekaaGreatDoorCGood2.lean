/- What is left of a fused graph: right, all of it live, fused for good. -/
import Derived.Test.YtdhpmegbmjoekaaGreatDoorCGood
namespace Go.Proofs.YtdhpmegbmjoekaaGreatDoor.G
open Go Go.Sh
set_option linter.unusedVariables false
set_option linter.unusedSimpArgs false
def cl (M:LM):Nat→Nat
 |0=>0
 |t+1=>if(M ((t:Int)+1)).isSome=true then cl M t+1 else cl M t
theorem uv (M:LM) (t:Nat):cl M (t+1)=if(M ((t:Int)+1)).isSome=true then cl M t+1 else cl M t:=rfl
theorem O9 (M:LM) (t:Nat):cl M t≤cl M (t+1):=by
 rw[uv]
 split<;>omega
theorem Pa (M:LM) {s t:Nat} (h:s≤t):cl M s≤cl M t:=by
 induction h with
 |refl=>exact Nat.le_refl _
 |step _ ih=>exact Nat.le_trans ih (O9 M _)
theorem KA {M:LM} {i t:Nat} (h:i<t) (hl:(M ((i:Int)+1)).isSome=true):cl M i<cl M t:=by
 have h1:cl M (i+1)=cl M i+1:=by rw[uv,if_pos hl]
 have:=Pa M (show i+1≤t from h)
 omega
theorem NF (M:LM): ∀t,cl M t≤t
 |0=>Nat.le_refl _
 |t+1=>by
  have:=NF M t
  rw[uv]
  split<;>omega
theorem Jw {M:LM} {i q:Nat} (hi:(M ((i:Int)+1)).isSome=true) (hq:(M ((q:Int)+1)).isSome=true) (h:cl M i=cl M q):i=q:=by
 rcases Nat.lt_trichotomy i q with h1|h1|h1
 ·have:=KA h1 hi;omega
 ·exact h1
 ·have:=KA h1 hq;omega
theorem uw {M:LM}: ∀t k,k<cl M t→ ∃i,i<t∧(M ((i:Int)+1)).isSome=true∧cl M i=k
 |0,k,h=>absurd h (Nat.not_lt_zero _)
 |t+1,k,h=>by
  rw[uv] at h
  by_cases hl:(M ((t:Int)+1)).isSome=true
  ·rw[if_pos hl] at h
   by_cases hk:k=cl M t
   ·exact⟨t,by omega,hl,hk.symm⟩
   ·obtain⟨i,h1,h2,h3⟩:=uw t k (show k<cl M t by omega)
    exact⟨i,by omega,h2,h3⟩
  ·rw[if_neg hl] at h
   obtain⟨i,h1,h2,h3⟩:=uw t k h
   exact⟨i,by omega,h2,h3⟩
theorem mK (ns:List Nd) (M:LM): ∀t≤ns.length,(cZ ns M t).1.length=cl M t∧(cZ ns M t).2 0=some 0∧ ∀i<t,(M ((i:Int)+1)).isSome=true→(cZ ns M t).2 ((i:Int)+1)=some ((cl M i:Nat)+1:Int)∧(cZ ns M t).1[cl M i]? =ns[i]?
 |0,_=>⟨rfl,rfl,fun i h=>absurd h (Nat.not_lt_zero _)⟩
 |t+1,ht=>by
  obtain⟨h1,h2,h3⟩:=mK ns M t (by omega)
  obtain⟨n,en⟩: ∃n,ns[t]? =some n:=⟨_,List.getElem?_eq_getElem (by omega)⟩
  have e:cZ ns M (t+1)=if(M ((t:Int)+1)).isSome then((cZ ns M t).1++[n],tH (cZ ns M t).2 ((t:Int)+1) (((cZ ns M t).1.length+1:Nat):Int)) else cZ ns M t:=by
   conv=>lhs;unfold cZ
   rw[en]
  rw[e,uv]
  by_cases hl:(M ((t:Int)+1)).isSome=true
  ·rw[if_pos hl,if_pos hl]
   refine⟨by rw[List.length_append,h1];rfl,?_,fun i hi hli=> ?_⟩
   ·dsimp only
    unfold tH
    rw[if_neg (by omega)];exact h2
   ·by_cases hit:i=t
    ·subst hit
     refine⟨?_,?_⟩
     ·dsimp only
      unfold tH
      rw[if_pos rfl,h1];rfl
     ·dsimp only
      rw[←h1,List.getElem?_concat_length,en]
    ·have:=h3 i (by omega) hli
     have hlt:=KA (show i<t by omega) hli
     refine⟨?_,?_⟩
     ·dsimp only
      unfold tH
      rw[if_neg (by omega)];exact this.1
     ·dsimp only
      rw[List.getElem?_append_left (by omega)];exact this.2
  ·rw[if_neg hl,if_neg hl]
   refine⟨h1,h2,fun i hi hli=> ?_⟩
   by_cases hit:i=t
   ·subst hit;exact absurd hli hl
   ·exact h3 i (by omega) hli
theorem H8 (ns:List Nd) (M:LM): ∀i,(cZ ns M i).1.Sublist (ns.take i)
 |0=>List.nil_sublist _
 |i+1=>by
  have ih:=H8 ns M i
  unfold cZ
  cases e:ns[i]? with
  |none=>
   dsimp only
   have:ns.take (i+1)=ns.take i:=by
    have:=List.getElem?_eq_none_iff.1 e
    rw[List.take_of_length_le (by omega),List.take_of_length_le (by omega)]
   rw[this];exact ih
  |some n=>
   have hi:=(List.getElem?_eq_some_iff.1 e).1
   have en:ns[i]=n:=by rw[List.getElem?_eq_getElem hi] at e;exact Option.some.inj e
   dsimp only
   rw[List.take_succ_eq_append_getElem hi,en]
   split
   ·exact ih.append (List.Sublist.refl _)
   ·exact ih.trans (List.sublist_append_left _ _)
theorem Pb {l m:List Nat} (h:l.Sublist m):l.sum≤m.sum:=by
 induction h with
 |slnil=>exact Nat.le_refl _
 |cons a _ ih=>rw[List.sum_cons];omega
 |cons_cons a _ ih=>rw[List.sum_cons,List.sum_cons];omega
noncomputable def wt (M:LM) (n:Nat) (x:Int):Int:=by
 classical exact if h: ∃i:Nat,i<n∧(M ((i:Int)+1)).isSome=true∧((cl M i:Nat):Int)+1=x then((Classical.choose h:Nat):Int)+1 else 0
theorem nB (M:LM) (n:Nat):wt M n 0=0:=by
 unfold wt
 rw[dif_neg]
 rintro⟨i,_,_,h⟩;omega
theorem wu {M:LM} {n i:Nat} (hi:i<n) (hl:(M ((i:Int)+1)).isSome=true):wt M n (((cl M i:Nat):Int)+1)=(i:Int)+1:=by
 have h: ∃q:Nat,q<n∧(M ((q:Int)+1)).isSome=true∧((cl M q:Nat):Int)+1=((cl M i:Nat):Int)+1:=⟨i,hi,hl,rfl⟩
 unfold wt
 rw[dif_pos h]
 obtain⟨_,h2,h3⟩:=Classical.choose_spec h
 rw[Jw h2 hl (by omega)]
section
variable {g:Gr} {W R Lo Hi:Int→Int} {pos pos':Int→Nat} {ns:List Nd} {out:Int} {M:LM}
theorem tM (I:fZ ns out M pos') {i:Nat} (hl:(M ((i:Int)+1)).isSome=true):ko (cZ ns M ns.length).2 ((i:Int)+1)=((cl M i:Nat):Int)+1:=by
 have hr:=I.range hl
 unfold ko
 rw[((mK ns M ns.length (Nat.le_refl _)).2.2 i (by omega) hl).1];rfl
theorem yd:ko (cZ ns M ns.length).2 0=0:=by
 unfold ko
 rw[(mK ns M ns.length (Nat.le_refl _)).2.1];rfl
theorem lK:(fb g (ns,out,M)).nodes.length=cl M ns.length:=by
 show(List.map _ _).length=_
 rw[List.length_map]
 exact(mK ns M ns.length (Nat.le_refl _)).1
theorem GB {i:Nat} {n:Nd} (hl:(M ((i:Int)+1)).isSome=true) (en:ns[i]? =some n):(fb g (ns,out,M)).nodes[cl M i]? =some (n.ren (cZ ns M ns.length).2):=by
 have hi:=(List.getElem?_eq_some_iff.1 en).1
 show(List.map _ _)[_]? =_
 rw[List.getElem?_map]
 show Option.map _ ((cZ ns M ns.length).1[cl M i]?)=_
 rw[((mK ns M ns.length (Nat.le_refl _)).2.2 i hi hl).2,en];rfl
theorem tN {k:Nat} {n':Nd} (h:(fb g (ns,out,M)).nodes[k]? =some n'): ∃(i:Nat) (n:Nd),(M ((i:Int)+1)).isSome=true∧cl M i=k∧ns[i]? =some n∧n'=n.ren (cZ ns M ns.length).2:=by
 have hk:=(List.getElem?_eq_some_iff.1 h).1
 rw[lK] at hk
 obtain⟨i,h1,h2,h3⟩:=uw _ _ hk
 obtain⟨n,en⟩: ∃n,ns[i]? =some n:=⟨_,List.getElem?_eq_getElem h1⟩
 have:=GB (g:=g) (out:=out) h2 en
 rw[h3,h] at this
 exact⟨i,n,h2,h3,en,Option.some.inj this⟩
theorem DG (I:fZ ns out M pos') {i:Nat} {n:Nd} (hl:(M ((i:Int)+1)).isSome=true) (en:ns[i]? =some n) {j:Int} (hj:j∈n.inn):(M j).isSome=true:=(I.lv j).2 (((I.lv _).1 hl).inn en hj)
theorem pV (I:fZ ns out M pos') {i:Nat} {n:Nd} (hl:(M ((i:Int)+1)).isSome=true) (en:ns[i]? =some n) (V:Int→Int):(n.ren (cZ ns M ns.length).2).inn.map (V ∘ wt M ns.length)=n.inn.map V:=by
 show(List.map (ko _) n.inn).map _=_
 rw[List.map_map]
 refine List.map_congr_left fun j hj=> ?_
 have hm:=DG I hl en hj
 have hr:=I.range hm
 show V (wt _ _ (ko _ j))=V j
 by_cases h0:j=0
 ·subst h0;rw[yd,nB]
 ·obtain⟨q,rfl⟩: ∃q:Nat,j=(q:Int)+1:=⟨(j-1).toNat,by omega⟩
  rw[tM I hm,wu (by omega) hm]
theorem pK (I:fZ ns out M pos') {j:Int} (hm:(M j).isSome=true):0≤ko (cZ ns M ns.length).2 j∧ko (cZ ns M ns.length).2 j≤(cl M ns.length:Int)∧(0<j→1≤ko (cZ ns M ns.length).2 j):=by
 have hr:=I.range hm
 by_cases h0:j=0
 ·subst h0;rw[yd];omega
 ·obtain⟨q,rfl⟩: ∃q:Nat,j=(q:Int)+1:=⟨(j-1).toNat,by omega⟩
  have:=KA (t:=ns.length) (by omega) hm
  rw[tM I hm];omega
theorem wy (r:bJ {g with nodes:=ns,out:=out} W R pos) (I:fZ ns out M pos'):bJ (fb g (ns,out,M)) (W ∘ wt M ns.length) (R ∘ wt M ns.length) (pos ∘ wt M ns.length):=by
 obtain⟨f1,f2,f3,f4,f5,f6⟩:=bW r.first
 have hom:(M out).isSome=true:=(I.lv _).2 .out
 have ho:=pK I hom
 have ho1:=I.out1
 have hlen:=lK (g:=g) (ns:=ns) (out:=out) (M:=M)
 have hle:=NF M ns.length
 have f2:ns.length≤12:=f2
 refine r.map (wt M ns.length) (nB _ _) (tJ ?_ f3 f4 ?_ fun n' hn' x hx=> ?_) rfl (fun x h1 h2=> ?_) (fun k n' en=> ?_)
 ·rw[hlen];have:=ho.2.2 (by omega);omega
 ·rw[hlen];exact⟨ho.2.2 (by omega),ho.2.1⟩
 ·obtain⟨k,en⟩:=List.mem_iff_getElem?.1 hn'
  obtain⟨i,n,h1,h2,h3,rfl⟩:=tN en
  obtain⟨j,hj,rfl⟩:=List.mem_map.1 hx
  have:=pK I (DG I h1 h3 hj)
  rw[hlen];omega
 ·rw[hlen] at h2
  obtain⟨i,q1,q2,q3⟩:=uw (M:=M) ns.length (x-1).toNat (by omega)
  have:=wu q1 q2
  rw[show((cl M i:Nat):Int)+1=x by omega] at this
  rw[this];omega
 ·obtain⟨i,n,h1,h2,h3,rfl⟩:=tN en
  have hi:=(List.getElem?_eq_some_iff.1 h3).1
  refine⟨i,n,by rw[←h2];exact wu hi h1,h3,rfl,?_⟩
  have:=pV I h1 h3 id
  rw[List.map_id] at this
  exact this
theorem Jx (c:Reach ns R Lo Hi) (I:fZ ns out M pos'):Reach (fb g (ns,out,M)).nodes (R ∘ wt M ns.length) (Lo ∘ wt M ns.length) (Hi ∘ wt M ns.length):=by
 refine⟨by show Lo (wt _ _ 0)=0;rw[nB];exact c.l0,by show Hi (wt _ _ 0)=0;rw[nB];exact c.h0,fun k n' en=> ?_,fun k n' en=> ?_⟩
 all_goals
  obtain⟨i,n,h1,h2,h3,rfl⟩:=tN en
  have hi:=(List.getElem?_eq_some_iff.1 h3).1
  have hu:wt M ns.length ((k:Int)+1)=(i:Int)+1:=by rw[←h2];exact wu hi h1
 ·rw[pV I h1 h3 Lo,pV I h1 h3 R]
  show Lo (wt _ _ _)=if 0<R (wt _ _ _) then _ else _
  rw[hu];exact c.lo i n h3
 ·rw[pV I h1 h3 Hi,pV I h1 h3 R]
  show Hi (wt _ _ _)=if 0<R (wt _ _ _) then _ else _
  rw[hu];exact c.hi i n h3
theorem H9 (I:fZ ns out M pos'):wt M ns.length (fb g (ns,out,M)).out=out:=by
 have hom:(M out).isSome=true:=(I.lv _).2 .out
 have ho1:=I.out1
 have ho2:=I.outn
 obtain⟨q,rfl⟩: ∃q:Nat,out=(q:Int)+1:=⟨(out-1).toNat,by omega⟩
 show wt _ _ (ko _ _)=_
 rw[tM I hom,wu (by omega) hom]
theorem LN:((fb g (ns,out,M)).nodes.map Nd.cost).sum≤(ns.map Nd.cost).sum:=by
 have h:=(H8 ns M ns.length).map Nd.cost
 rw[List.take_length] at h
 have e:(fb g (ns,out,M)).nodes.map Nd.cost=(cZ ns M ns.length).1.map Nd.cost:=by
  show(List.map _ _).map _=_
  rw[List.map_map];rfl
 rw[e];exact Pb h
theorem Pc (I:fZ ns out M pos'): ∀y,Lv ns out y→Lv (fb g (ns,out,M)).nodes (fb g (ns,out,M)).out (ko (cZ ns M ns.length).2 y):=fun y hy=>by
 induction hy with
 |out=>exact .out
 | @inn i n j h en hj ih=>
   have hl:=(I.lv _).2 h
   rw[tM I hl] at ih
   exact ih.inn (GB hl en) (List.mem_map_of_mem hj)
theorem Ia (I:fZ ns out M pos') {k:Nat} (hk:k<(fb g (ns,out,M)).nodes.length):Lv (fb g (ns,out,M)).nodes (fb g (ns,out,M)).out ((k:Int)+1):=by
 rw[lK] at hk
 obtain⟨i,h1,h2,h3⟩:=uw _ _ hk
 have:=Pc (g:=g) I _ ((I.lv _).1 h2)
 rw[tM I h2,h3] at this
 exact this
theorem FB: ∀(k i:Nat),pR ns out M k i=none→ ∀q,i≤q→q<i+k→gJ ns out M q=none
 |0,i,_,q,h1,h2=>by omega
 |k+1,i,h,q,h1,h2=>by
  unfold pR at h
  cases e:gJ ns out M i with
  |some x=>rw[e] at h;cases h
  |none=>
   rw[e] at h
   by_cases hq:q=i
   ·rw[hq];exact e
   ·exact FB k (i+1) h q (by omega) (by omega)
theorem LO (r:bJ {g with nodes:=ns,out:=out} W R pos) (I:fZ ns out M pos') (hN:gW ns out M=none):cR (fb g (ns,out,M))=fb g (ns,out,M):=by
 have r2:=wy r I
 have e0:(fb g (ns,out,M)).look.e=0:=by rw[r2.look]
 have Ih:=uj e0
 have hall: ∀k,k<(fb g (ns,out,M)).nodes.length→Lv (fb g (ns,out,M)).nodes (fb g (ns,out,M)).out ((k:Int)+1):=fun k hk=>Ia I hk
 have hgot: ∀k n',(fb g (ns,out,M)).nodes[k]? =some n'→ ∃(i:Nat) (n:Nd),(M ((i:Int)+1)).isSome=true∧cl M i=k∧ns[i]? =some n∧n'=n.ren (cZ ns M ns.length).2:=fun k n' h=>tN h
 have hat: ∀(i:Nat) (n:Nd),(M ((i:Int)+1)).isSome=true→ns[i]? =some n→(fb g (ns,out,M)).nodes[cl M i]? =some (n.ren (cZ ns M ns.length).2):=fun i n h1 h2=>GB h1 h2
 have hout:(fb g (ns,out,M)).out=ko (cZ ns M ns.length).2 out:=rfl
 generalize fb g (ns,out,M)=h at e0 Ih hall hgot hat hout
 obtain⟨Mh,eMh⟩: ∃Mh,kj h.nodes h.out=Mh:=⟨_,rfl⟩
 rw[eMh] at Ih
 have hlive: ∀k,k<h.nodes.length→(Mh ((k:Int)+1)).isSome=true:=fun k hk=>(Ih.lv _).2 (hall k hk)
 have none':gW h.nodes h.out Mh=none:=by
  cases e:gW h.nodes h.out Mh with
  |none=>rfl
  |some st=>
   exfalso
   obtain⟨i',w',na',nu',a'',s,_⟩:=mG Ih e
   obtain⟨i,na,li,ei,ena,rfl⟩:=hgot i' na' s.ea
   obtain⟨w,nu,lw,ew,enu,rfl⟩:=hgot w' nu' s.eu
   have hi:=(List.getElem?_eq_some_iff.1 ena).1
   have hinn:(nu.inn.map (ko (cZ ns M ns.length).2))=[(i':Int)+1]:=s.inn Ih
   have numi:=tM I li
   have back: ∀j,(M j).isSome=true→ko (cZ ns M ns.length).2 j=(i':Int)+1→j=(i:Int)+1:=fun j hj hn=>by
    have hr:=I.range hj
    by_cases h0:j=0
    ·subst h0;rw[yd] at hn;omega
    ·obtain⟨q,rfl⟩: ∃q:Nat,j=(q:Int)+1:=⟨(j-1).toNat,by omega⟩
     rw[tM I hj] at hn
     rw[Jw hj li (by omega)]
   have hmem:((i:Int)+1)∈nu.inn:=by
    have hl1:nu.inn.length=1:=by have:=congrArg List.length hinn;simpa using this
    obtain⟨j,hj⟩:=List.length_eq_one_iff.1 hl1
    rw[hj] at hinn ⊢
    have hjm:(M j).isSome=true:=DG I lw enu (by rw[hj];simp)
    have:=back j hjm (by simpa using hinn)
    rw[this];simp
   have uniq: ∀v:Nat,v<ns.length→(M ((v:Int)+1)).isSome=true→((i:Int)+1)∈innOf ns ((v:Int)+1)→v=w:=fun v hv hvl hvi=>by
    obtain⟨nv,env⟩: ∃n,ns[v]? =some n:=⟨_,List.getElem?_eq_getElem hv⟩
    rw[fS env] at hvi
    have hv':=hat v nv hvl env
    have hvlen:=(List.getElem?_eq_some_iff.1 hv').1
    have:=(s.live Ih).2 (cl M v) hvlen (hlive _ hvlen) (by
     rw[fS hv',←ei,←numi]
     exact List.mem_map_of_mem hvi)
    exact Jw hvl lw (by omega)
   have hw:=(List.getElem?_eq_some_iff.1 enu).1
   have m1:M ((i:Int)+1)=some 1:=by
    obtain⟨c,hc⟩:=Option.isSome_iff_exists.1 li
    have hcc:=I.ct _ c (by omega) hc
    have hwu:w∈jI ns M ((i:Int)+1):=jJ.2 ⟨hw,lw,by rw[fS enu];exact hmem⟩
    have hnd:(jI ns M ((i:Int)+1)).Nodup:=List.Pairwise.filter _ List.nodup_range
    have hle:=jR _ [w] hnd fun v hv=>by
     obtain⟨v1,v2,v3⟩:=jJ.1 hv
     rw[uniq v v1 v2 v3];simp
    have hpos:=List.length_pos_of_mem hwu
    simp only[List.length_cons,List.length_nil] at hle
    rw[hc,hcc,show(jI ns M ((i:Int)+1)).length=1 by omega];rfl
   have hno:(i:Int)+1≠out:=fun ho=>s.no (by rw[hout,←ho,numi,ei])
   obtain⟨w0,u1,u2,u3,u4,_⟩:=I.user (a:=(i:Int)+1) (by omega) m1
   have hw0:=uniq w0 u2 u3 u4
   subst hw0
   have tk:(qK na nu).isSome=true:=by
    have:(qK (na.ren (cZ ns M ns.length).2) (nu.ren (cZ ns M ns.length).2)).isSome=true:=by rw[s.tk];rfl
    unfold qK at this ⊢
    have k1:(nu.ren (cZ ns M ns.length).2).kind=nu.kind:=rfl
    have k2:(na.ren (cZ ns M ns.length).2).post=na.post:=rfl
    rw[k1,k2] at this
    by_cases c1:nu.kind=10∧na.post=0
    ·rw[if_pos c1];rfl
    ·rw[if_neg c1] at this ⊢
     by_cases c2:nu.kind=9∧cS .i64 na.post 2=0
     ·rw[if_pos c2];rfl
     ·rw[if_neg c2] at this;cases this
   have hwe:jb na.kind:=s.we
   have hst:gJ ns out M i=none:=FB ns.length 0 hN i (Nat.zero_le _) (by omega)
   unfold gJ at hst
   rw[ena] at hst
   dsimp only at hst
   rw[if_pos ⟨m1,hno,hwe⟩,u1,show((w0:Int)+1-1).toNat=w0 by omega,enu] at hst
   dsimp only at hst
   rw[Option.map_eq_none_iff] at hst
   rw[hst] at tk;cases tk
 have hcl: ∀t,t≤h.nodes.length→cl Mh t=t:=fun t=>by
  induction t with
  |zero=>intro _;rfl
  |succ t ih=>
   intro ht
   rw[uv,if_pos (hlive t (by omega)),ih (by omega)]
 have hsp:=mK h.nodes Mh h.nodes.length (Nat.le_refl _)
 have hid: ∀j:Int,0≤j→j≤(h.nodes.length:Int)→ko (cZ h.nodes Mh h.nodes.length).2 j=j:=fun j h0 h1=>by
  by_cases hz:j=0
  ·subst hz;exact yd
  ·obtain⟨q,rfl⟩: ∃q:Nat,j=(q:Int)+1:=⟨(j-1).toNat,by omega⟩
   rw[tM Ih (hlive q (by omega)),hcl q (by omega)]
 have hfst:(cZ h.nodes Mh h.nodes.length).1=h.nodes:=by
  apply List.ext_getElem?
  intro k
  by_cases hk:k<h.nodes.length
  ·have:=(hsp.2.2 k hk (hlive k hk)).2
   rw[hcl k (by omega)] at this
   exact this
  ·rw[List.getElem?_eq_none (by rw[hsp.1,hcl _ (Nat.le_refl _)];omega),List.getElem?_eq_none (by omega)]
 have hf:cY (h.nodes.length+1) (h.nodes,h.out,Mh)=(h.nodes,h.out,Mh):=by
  unfold cY
  rw[none']
 have hr:=bW (zn e0).1
 have hl:fb h (h.nodes,h.out,Mh)=h:=by
  unfold fb
  have e1:(cZ h.nodes Mh h.nodes.length).1.map (Nd.ren (cZ h.nodes Mh h.nodes.length).2)=h.nodes:=by
   rw[hfst]
   conv=>rhs;rw[←List.map_id h.nodes]
   refine List.map_congr_left fun n hn=> ?_
   have e2:n.inn.map (ko (cZ h.nodes Mh h.nodes.length).2)=n.inn:=by
    conv=>rhs;rw[←List.map_id n.inn]
    refine List.map_congr_left fun j hj=> ?_
    have:=hr.2.2.2.2.2 n hn j hj
    exact hid j this.1 this.2
   unfold Nd.ren
   rw[e2];rfl
  have e3:ko (cZ h.nodes Mh h.nodes.length).2 h.out=h.out:=hid _ (by have:=hr.2.2.2.2.1;omega) hr.2.2.2.2.1.2
  show Gr.mk _ _ _ ((cZ h.nodes Mh h.nodes.length).1.map (Nd.ren (cZ h.nodes Mh h.nodes.length).2)) (ko (cZ h.nodes Mh h.nodes.length).2 h.out)=h
  rw[e1,e3]
 unfold cR
 rw[if_pos e0,eMh,hf,hl]
end
theorem Dg.none {s f:Bc} (h:Dg s f):gW f.1 f.2.1 f.2.2=Option.none:=by
 induction h with
 |done h=>exact h
 |more _ _ ih=>exact ih
theorem FC {g:Gr} {W R Lo Hi:Int→Int} (r:bJ g W R (posG g.nodes)) (c:Reach g.nodes R Lo Hi): ∃(φ:Int→Int) (pos:Int→Nat),bJ (cR g) (W ∘ φ) (R ∘ φ) pos∧Reach (cR g).nodes (R ∘ φ) (Lo ∘ φ) (Hi ∘ φ)∧W (φ (cR g).out)=W g.out∧R (φ (cR g).out)=R g.out∧Lo (φ (cR g).out)=Lo g.out∧Hi (φ (cR g).out)=Hi g.out∧
 (∀x,0≤x→x≤((cR g).nodes.length:Int)→0≤φ x∧φ x≤(g.nodes.length:Int))∧((cR g).nodes.map Nd.cost).sum≤(g.nodes.map Nd.cost).sum∧(∀k,k<(cR g).nodes.length→Lv (cR g).nodes (cR g).out ((k:Int)+1))∧cR (cR g)=cR g∧(cR g).nodes.length≤g.nodes.length:=by
 have e0:g.look.e=0:=by rw[r.look]
 have I:=uj e0
 have Fz:=(Dh (g.nodes.length+1) (g.nodes,g.out,kj g.nodes g.out) I (Nat.lt_succ_of_le (Ko _ _))).none
 have K:=Dr (g:=g) (g.nodes.length+1) (g.nodes,g.out,kj g.nodes g.out) I r c
 have eF:cR g=fb g (cY (g.nodes.length+1) (g.nodes,g.out,kj g.nodes g.out)):=by unfold cR;rw[if_pos e0]
 rw[eF]
 generalize cY (g.nodes.length+1) (g.nodes,g.out,kj g.nodes g.out)=F at Fz K
 obtain⟨ns,out,M⟩:=F
 obtain⟨I2,r2,c2,k1,k2,k3,k4,k5⟩:=K
 dsimp only at I2 r2 c2 k1 k2 k3 k4 k5 Fz
 have hlen:ns.length=g.nodes.length:=by have:=congrArg List.length k1;simpa using this
 have ho:=H9 (g:=g) I2
 refine⟨wt M ns.length,_,wy r2 I2,Jx c2 I2,by rw[ho];exact k2,by rw[ho];exact k3,by rw[ho];exact k4,by rw[ho];exact k5,fun x h0 h1=> ?_,?_,fun k hk=>Ia I2 hk,LO r2 I2 Fz,?_⟩
 ·by_cases hz:x=0
  ·subst hz;rw[nB];omega
  ·rw[lK] at h1
   obtain⟨i,q1,q2,q3⟩:=uw (M:=M) ns.length (x-1).toNat (by omega)
   have:=wu q1 q2
   rw[show((cl M i:Nat):Int)+1=x by omega] at this
   rw[this];omega
 ·rw[←k1];exact LN
 ·rw[lK,←hlen];exact NF _ _
end Go.Proofs.YtdhpmegbmjoekaaGreatDoor.G
