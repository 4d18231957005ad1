/- What is left of a fused graph: right, all of it live, fused for good. -/
import Derived.Test.YtdhpmegbmjoekaaGreatDoorCGood
namespace Go.Proofs.YtdhpmegbmjoekaaGreatDoor.G
open Go Go.Sh
set_option linter.unusedVariables false
set_option linter.unusedSimpArgs false
def cl (M:LM):Nat→Nat
 |0=>0
 |t+1=>if(M ((t:Int)+1)).isSome=true then cl M t+1 else cl M t
theorem cl_succ (M:LM) (t:Nat):cl M (t+1)=if(M ((t:Int)+1)).isSome=true then cl M t+1 else cl M t:=rfl
theorem cl_step (M:LM) (t:Nat):cl M t≤cl M (t+1):=by
 rw[cl_succ]
 split<;>omega
theorem cl_mono (M:LM) {s t:Nat} (h:s≤t):cl M s≤cl M t:=by
 induction h with
 |refl=>exact Nat.le_refl _
 |step _ ih=>exact Nat.le_trans ih (cl_step M _)
theorem cl_lt {M:LM} {i t:Nat} (h:i<t) (hl:(M ((i:Int)+1)).isSome=true):cl M i<cl M t:=by
 have h1:cl M (i+1)=cl M i+1:=by rw[cl_succ,if_pos hl]
 have:=cl_mono M (show i+1≤t from h)
 omega
theorem cl_le (M:LM): ∀t,cl M t≤t
 |0=>Nat.le_refl _
 |t+1=>by
  have:=cl_le M t
  rw[cl_succ]
  split<;>omega
theorem cl_inj {M:LM} {i q:Nat} (hi:(M ((i:Int)+1)).isSome=true) (hq:(M ((q:Int)+1)).isSome=true) (h:cl M i=cl M q):i=q:=by
 rcases Nat.lt_trichotomy i q with h1|h1|h1
 ·have:=cl_lt h1 hi;omega
 ·exact h1
 ·have:=cl_lt h1 hq;omega
theorem cl_surj {M:LM}: ∀t k,k<cl M t→ ∃i,i<t∧(M ((i:Int)+1)).isSome=true∧cl M i=k
 |0,k,h=>absurd h (Nat.not_lt_zero _)
 |t+1,k,h=>by
  rw[cl_succ] at h
  by_cases hl:(M ((t:Int)+1)).isSome=true
  ·rw[if_pos hl] at h
   by_cases hk:k=cl M t
   ·exact⟨t,by omega,hl,hk.symm⟩
   ·obtain⟨i,h1,h2,h3⟩:=cl_surj t k (show k<cl M t by omega)
    exact⟨i,by omega,h2,h3⟩
  ·rw[if_neg hl] at h
   obtain⟨i,h1,h2,h3⟩:=cl_surj t k h
   exact⟨i,by omega,h2,h3⟩
theorem numT_spec (ns:List Nd) (M:LM): ∀t≤ns.length,(numT ns M t).1.length=cl M t∧(numT ns M t).2 0=some 0∧ ∀i<t,(M ((i:Int)+1)).isSome=true→(numT ns M t).2 ((i:Int)+1)=some ((cl M i:Nat)+1:Int)∧(numT ns M t).1[cl M i]? =ns[i]?
 |0,_=>⟨rfl,rfl,fun i h=>absurd h (Nat.not_lt_zero _)⟩
 |t+1,ht=>by
  obtain⟨h1,h2,h3⟩:=numT_spec ns M t (by omega)
  obtain⟨n,en⟩: ∃n,ns[t]? =some n:=⟨_,List.getElem?_eq_getElem (by omega)⟩
  have e:numT ns M (t+1)=if(M ((t:Int)+1)).isSome then((numT ns M t).1++[n],upM (numT ns M t).2 ((t:Int)+1) (((numT ns M t).1.length+1:Nat):Int)) else numT ns M t:=by
   conv=>lhs;unfold numT
   rw[en]
  rw[e,cl_succ]
  by_cases hl:(M ((t:Int)+1)).isSome=true
  ·rw[if_pos hl,if_pos hl]
   refine⟨by rw[List.length_append,h1];rfl,?_,fun i hi hli=> ?_⟩
   ·dsimp only
    unfold upM
    rw[if_neg (by omega)];exact h2
   ·by_cases hit:i=t
    ·subst hit
     refine⟨?_,?_⟩
     ·dsimp only
      unfold upM
      rw[if_pos rfl,h1];rfl
     ·dsimp only
      rw[←h1,List.getElem?_concat_length,en]
    ·have:=h3 i (by omega) hli
     have hlt:=cl_lt (show i<t by omega) hli
     refine⟨?_,?_⟩
     ·dsimp only
      unfold upM
      rw[if_neg (by omega)];exact this.1
     ·dsimp only
      rw[List.getElem?_append_left (by omega)];exact this.2
  ·rw[if_neg hl,if_neg hl]
   refine⟨h1,h2,fun i hi hli=> ?_⟩
   by_cases hit:i=t
   ·subst hit;exact absurd hli hl
   ·exact h3 i (by omega) hli
theorem numT_sub (ns:List Nd) (M:LM): ∀i,(numT ns M i).1.Sublist (ns.take i)
 |0=>List.nil_sublist _
 |i+1=>by
  have ih:=numT_sub ns M i
  unfold numT
  cases e:ns[i]? with
  |none=>
   dsimp only
   have:ns.take (i+1)=ns.take i:=by
    have:=List.getElem?_eq_none_iff.1 e
    rw[List.take_of_length_le (by omega),List.take_of_length_le (by omega)]
   rw[this];exact ih
  |some n=>
   have hi:=(List.getElem?_eq_some_iff.1 e).1
   have en:ns[i]=n:=by rw[List.getElem?_eq_getElem hi] at e;exact Option.some.inj e
   dsimp only
   rw[List.take_succ_eq_append_getElem hi,en]
   split
   ·exact ih.append (List.Sublist.refl _)
   ·exact ih.trans (List.sublist_append_left _ _)
theorem sum_sub {l m:List Nat} (h:l.Sublist m):l.sum≤m.sum:=by
 induction h with
 |slnil=>exact Nat.le_refl _
 |cons a _ ih=>rw[List.sum_cons];omega
 |cons_cons a _ ih=>rw[List.sum_cons,List.sum_cons];omega
noncomputable def unN (M:LM) (n:Nat) (x:Int):Int:=by
 classical exact if h: ∃i:Nat,i<n∧(M ((i:Int)+1)).isSome=true∧((cl M i:Nat):Int)+1=x then((Classical.choose h:Nat):Int)+1 else 0
theorem unN_zero (M:LM) (n:Nat):unN M n 0=0:=by
 unfold unN
 rw[dif_neg]
 rintro⟨i,_,_,h⟩;omega
theorem unN_at {M:LM} {n i:Nat} (hi:i<n) (hl:(M ((i:Int)+1)).isSome=true):unN M n (((cl M i:Nat):Int)+1)=(i:Int)+1:=by
 have h: ∃q:Nat,q<n∧(M ((q:Int)+1)).isSome=true∧((cl M q:Nat):Int)+1=((cl M i:Nat):Int)+1:=⟨i,hi,hl,rfl⟩
 unfold unN
 rw[dif_pos h]
 obtain⟨_,h2,h3⟩:=Classical.choose_spec h
 rw[cl_inj h2 hl (by omega)]
section
variable {g:Gr} {W R Lo Hi:Int→Int} {pos pos':Int→Nat} {ns:List Nd} {out:Int} {M:LM}
theorem num_at (I:FInv ns out M pos') {i:Nat} (hl:(M ((i:Int)+1)).isSome=true):numF (numT ns M ns.length).2 ((i:Int)+1)=((cl M i:Nat):Int)+1:=by
 have hr:=I.range hl
 unfold numF
 rw[((numT_spec ns M ns.length (Nat.le_refl _)).2.2 i (by omega) hl).1];rfl
theorem num_zero:numF (numT ns M ns.length).2 0=0:=by
 unfold numF
 rw[(numT_spec ns M ns.length (Nat.le_refl _)).2.1];rfl
theorem left_length:(leftG g (ns,out,M)).nodes.length=cl M ns.length:=by
 show(List.map _ _).length=_
 rw[List.length_map]
 exact(numT_spec ns M ns.length (Nat.le_refl _)).1
theorem left_at {i:Nat} {n:Nd} (hl:(M ((i:Int)+1)).isSome=true) (en:ns[i]? =some n):(leftG g (ns,out,M)).nodes[cl M i]? =some (n.ren (numT ns M ns.length).2):=by
 have hi:=(List.getElem?_eq_some_iff.1 en).1
 show(List.map _ _)[_]? =_
 rw[List.getElem?_map]
 show Option.map _ ((numT ns M ns.length).1[cl M i]?)=_
 rw[((numT_spec ns M ns.length (Nat.le_refl _)).2.2 i hi hl).2,en];rfl
theorem left_get {k:Nat} {n':Nd} (h:(leftG g (ns,out,M)).nodes[k]? =some n'): ∃(i:Nat) (n:Nd),(M ((i:Int)+1)).isSome=true∧cl M i=k∧ns[i]? =some n∧n'=n.ren (numT ns M ns.length).2:=by
 have hk:=(List.getElem?_eq_some_iff.1 h).1
 rw[left_length] at hk
 obtain⟨i,h1,h2,h3⟩:=cl_surj _ _ hk
 obtain⟨n,en⟩: ∃n,ns[i]? =some n:=⟨_,List.getElem?_eq_getElem h1⟩
 have:=left_at (g:=g) (out:=out) h2 en
 rw[h3,h] at this
 exact⟨i,n,h2,h3,en,Option.some.inj this⟩
theorem live_inn (I:FInv ns out M pos') {i:Nat} {n:Nd} (hl:(M ((i:Int)+1)).isSome=true) (en:ns[i]? =some n) {j:Int} (hj:j∈n.inn):(M j).isSome=true:=(I.lv j).2 (((I.lv _).1 hl).inn en hj)
theorem inn_back (I:FInv ns out M pos') {i:Nat} {n:Nd} (hl:(M ((i:Int)+1)).isSome=true) (en:ns[i]? =some n) (V:Int→Int):(n.ren (numT ns M ns.length).2).inn.map (V ∘ unN M ns.length)=n.inn.map V:=by
 show(List.map (numF _) n.inn).map _=_
 rw[List.map_map]
 refine List.map_congr_left fun j hj=> ?_
 have hm:=live_inn I hl en hj
 have hr:=I.range hm
 show V (unN _ _ (numF _ j))=V j
 by_cases h0:j=0
 ·subst h0;rw[num_zero,unN_zero]
 ·obtain⟨q,rfl⟩: ∃q:Nat,j=(q:Int)+1:=⟨(j-1).toNat,by omega⟩
  rw[num_at I hm,unN_at (by omega) hm]
theorem num_range (I:FInv ns out M pos') {j:Int} (hm:(M j).isSome=true):0≤numF (numT ns M ns.length).2 j∧numF (numT ns M ns.length).2 j≤(cl M ns.length:Int)∧(0<j→1≤numF (numT ns M ns.length).2 j):=by
 have hr:=I.range hm
 by_cases h0:j=0
 ·subst h0;rw[num_zero];omega
 ·obtain⟨q,rfl⟩: ∃q:Nat,j=(q:Int)+1:=⟨(j-1).toNat,by omega⟩
  have:=cl_lt (t:=ns.length) (by omega) hm
  rw[num_at I hm];omega
theorem left_right (r:Right {g with nodes:=ns,out:=out} W R pos) (I:FInv ns out M pos'):Right (leftG g (ns,out,M)) (W ∘ unN M ns.length) (R ∘ unN M ns.length) (pos ∘ unN M ns.length):=by
 obtain⟨f1,f2,f3,f4,f5,f6⟩:=first_ok r.first
 have hom:(M out).isSome=true:=(I.lv _).2 .out
 have ho:=num_range I hom
 have ho1:=I.out1
 have hlen:=left_length (g:=g) (ns:=ns) (out:=out) (M:=M)
 have hle:=cl_le M ns.length
 have f2:ns.length≤12:=f2
 refine r.map (unN M ns.length) (unN_zero _ _) (first_mk ?_ f3 f4 ?_ fun n' hn' x hx=> ?_) rfl (fun x h1 h2=> ?_) (fun k n' en=> ?_)
 ·rw[hlen];have:=ho.2.2 (by omega);omega
 ·rw[hlen];exact⟨ho.2.2 (by omega),ho.2.1⟩
 ·obtain⟨k,en⟩:=List.mem_iff_getElem?.1 hn'
  obtain⟨i,n,h1,h2,h3,rfl⟩:=left_get en
  obtain⟨j,hj,rfl⟩:=List.mem_map.1 hx
  have:=num_range I (live_inn I h1 h3 hj)
  rw[hlen];omega
 ·rw[hlen] at h2
  obtain⟨i,q1,q2,q3⟩:=cl_surj (M:=M) ns.length (x-1).toNat (by omega)
  have:=unN_at q1 q2
  rw[show((cl M i:Nat):Int)+1=x by omega] at this
  rw[this];omega
 ·obtain⟨i,n,h1,h2,h3,rfl⟩:=left_get en
  have hi:=(List.getElem?_eq_some_iff.1 h3).1
  refine⟨i,n,by rw[←h2];exact unN_at hi h1,h3,rfl,?_⟩
  have:=inn_back I h1 h3 id
  rw[List.map_id] at this
  exact this
theorem left_reach (c:Reach ns R Lo Hi) (I:FInv ns out M pos'):Reach (leftG g (ns,out,M)).nodes (R ∘ unN M ns.length) (Lo ∘ unN M ns.length) (Hi ∘ unN M ns.length):=by
 refine⟨by show Lo (unN _ _ 0)=0;rw[unN_zero];exact c.l0,by show Hi (unN _ _ 0)=0;rw[unN_zero];exact c.h0,fun k n' en=> ?_,fun k n' en=> ?_⟩
 all_goals
  obtain⟨i,n,h1,h2,h3,rfl⟩:=left_get en
  have hi:=(List.getElem?_eq_some_iff.1 h3).1
  have hu:unN M ns.length ((k:Int)+1)=(i:Int)+1:=by rw[←h2];exact unN_at hi h1
 ·rw[inn_back I h1 h3 Lo,inn_back I h1 h3 R]
  show Lo (unN _ _ _)=if 0<R (unN _ _ _) then _ else _
  rw[hu];exact c.lo i n h3
 ·rw[inn_back I h1 h3 Hi,inn_back I h1 h3 R]
  show Hi (unN _ _ _)=if 0<R (unN _ _ _) then _ else _
  rw[hu];exact c.hi i n h3
theorem left_out (I:FInv ns out M pos'):unN M ns.length (leftG g (ns,out,M)).out=out:=by
 have hom:(M out).isSome=true:=(I.lv _).2 .out
 have ho1:=I.out1
 have ho2:=I.outn
 obtain⟨q,rfl⟩: ∃q:Nat,out=(q:Int)+1:=⟨(out-1).toNat,by omega⟩
 show unN _ _ (numF _ _)=_
 rw[num_at I hom,unN_at (by omega) hom]
theorem left_cost:((leftG g (ns,out,M)).nodes.map Nd.cost).sum≤(ns.map Nd.cost).sum:=by
 have h:=(numT_sub ns M ns.length).map Nd.cost
 rw[List.take_length] at h
 have e:(leftG g (ns,out,M)).nodes.map Nd.cost=(numT ns M ns.length).1.map Nd.cost:=by
  show(List.map _ _).map _=_
  rw[List.map_map];rfl
 rw[e];exact sum_sub h
theorem left_lv (I:FInv ns out M pos'): ∀y,Lv ns out y→Lv (leftG g (ns,out,M)).nodes (leftG g (ns,out,M)).out (numF (numT ns M ns.length).2 y):=fun y hy=>by
 induction hy with
 |out=>exact .out
 | @inn i n j h en hj ih=>
   have hl:=(I.lv _).2 h
   rw[num_at I hl] at ih
   exact ih.inn (left_at hl en) (List.mem_map_of_mem hj)
theorem left_all (I:FInv ns out M pos') {k:Nat} (hk:k<(leftG g (ns,out,M)).nodes.length):Lv (leftG g (ns,out,M)).nodes (leftG g (ns,out,M)).out ((k:Int)+1):=by
 rw[left_length] at hk
 obtain⟨i,h1,h2,h3⟩:=cl_surj _ _ hk
 have:=left_lv (g:=g) I _ ((I.lv _).1 h2)
 rw[num_at I h2,h3] at this
 exact this
theorem stepF_all: ∀(k i:Nat),stepF ns out M k i=none→ ∀q,i≤q→q<i+k→stepAt ns out M q=none
 |0,i,_,q,h1,h2=>by omega
 |k+1,i,h,q,h1,h2=>by
  unfold stepF at h
  cases e:stepAt ns out M i with
  |some x=>rw[e] at h;cases h
  |none=>
   rw[e] at h
   by_cases hq:q=i
   ·rw[hq];exact e
   ·exact stepF_all k (i+1) h q (by omega) (by omega)
theorem left_done (r:Right {g with nodes:=ns,out:=out} W R pos) (I:FInv ns out M pos') (hN:stepP ns out M=none):fuseG (leftG g (ns,out,M))=leftG g (ns,out,M):=by
 have r2:=left_right r I
 have e0:(leftG g (ns,out,M)).look.e=0:=by rw[r2.look]
 have Ih:=look_finv e0
 have hall: ∀k,k<(leftG g (ns,out,M)).nodes.length→Lv (leftG g (ns,out,M)).nodes (leftG g (ns,out,M)).out ((k:Int)+1):=fun k hk=>left_all I hk
 have hgot: ∀k n',(leftG g (ns,out,M)).nodes[k]? =some n'→ ∃(i:Nat) (n:Nd),(M ((i:Int)+1)).isSome=true∧cl M i=k∧ns[i]? =some n∧n'=n.ren (numT ns M ns.length).2:=fun k n' h=>left_get h
 have hat: ∀(i:Nat) (n:Nd),(M ((i:Int)+1)).isSome=true→ns[i]? =some n→(leftG g (ns,out,M)).nodes[cl M i]? =some (n.ren (numT ns M ns.length).2):=fun i n h1 h2=>left_at h1 h2
 have hout:(leftG g (ns,out,M)).out=numF (numT ns M ns.length).2 out:=rfl
 generalize leftG g (ns,out,M)=h at e0 Ih hall hgot hat hout
 obtain⟨Mh,eMh⟩: ∃Mh,liveM h.nodes h.out=Mh:=⟨_,rfl⟩
 rw[eMh] at Ih
 have hlive: ∀k,k<h.nodes.length→(Mh ((k:Int)+1)).isSome=true:=fun k hk=>(Ih.lv _).2 (hall k hk)
 have none':stepP h.nodes h.out Mh=none:=by
  cases e:stepP h.nodes h.out Mh with
  |none=>rfl
  |some st=>
   exfalso
   obtain⟨i',w',na',nu',a'',s,_⟩:=stepP_stp Ih e
   obtain⟨i,na,li,ei,ena,rfl⟩:=hgot i' na' s.ea
   obtain⟨w,nu,lw,ew,enu,rfl⟩:=hgot w' nu' s.eu
   have hi:=(List.getElem?_eq_some_iff.1 ena).1
   have hinn:(nu.inn.map (numF (numT ns M ns.length).2))=[(i':Int)+1]:=s.inn Ih
   have numi:=num_at I li
   have back: ∀j,(M j).isSome=true→numF (numT ns M ns.length).2 j=(i':Int)+1→j=(i:Int)+1:=fun j hj hn=>by
    have hr:=I.range hj
    by_cases h0:j=0
    ·subst h0;rw[num_zero] at hn;omega
    ·obtain⟨q,rfl⟩: ∃q:Nat,j=(q:Int)+1:=⟨(j-1).toNat,by omega⟩
     rw[num_at I hj] at hn
     rw[cl_inj hj li (by omega)]
   have hmem:((i:Int)+1)∈nu.inn:=by
    have hl1:nu.inn.length=1:=by have:=congrArg List.length hinn;simpa using this
    obtain⟨j,hj⟩:=List.length_eq_one_iff.1 hl1
    rw[hj] at hinn ⊢
    have hjm:(M j).isSome=true:=live_inn I lw enu (by rw[hj];simp)
    have:=back j hjm (by simpa using hinn)
    rw[this];simp
   have uniq: ∀v:Nat,v<ns.length→(M ((v:Int)+1)).isSome=true→((i:Int)+1)∈innOf ns ((v:Int)+1)→v=w:=fun v hv hvl hvi=>by
    obtain⟨nv,env⟩: ∃n,ns[v]? =some n:=⟨_,List.getElem?_eq_getElem hv⟩
    rw[innOf_at env] at hvi
    have hv':=hat v nv hvl env
    have hvlen:=(List.getElem?_eq_some_iff.1 hv').1
    have:=(s.live Ih).2 (cl M v) hvlen (hlive _ hvlen) (by
     rw[innOf_at hv',←ei,←numi]
     exact List.mem_map_of_mem hvi)
    exact cl_inj hvl lw (by omega)
   have hw:=(List.getElem?_eq_some_iff.1 enu).1
   have m1:M ((i:Int)+1)=some 1:=by
    obtain⟨c,hc⟩:=Option.isSome_iff_exists.1 li
    have hcc:=I.ct _ c (by omega) hc
    have hwu:w∈usersL ns M ((i:Int)+1):=usersL_mem.2 ⟨hw,lw,by rw[innOf_at enu];exact hmem⟩
    have hnd:(usersL ns M ((i:Int)+1)).Nodup:=List.Pairwise.filter _ List.nodup_range
    have hle:=nodup_len _ [w] hnd fun v hv=>by
     obtain⟨v1,v2,v3⟩:=usersL_mem.1 hv
     rw[uniq v v1 v2 v3];simp
    have hpos:=List.length_pos_of_mem hwu
    simp only[List.length_cons,List.length_nil] at hle
    rw[hc,hcc,show(usersL ns M ((i:Int)+1)).length=1 by omega];rfl
   have hno:(i:Int)+1≠out:=fun ho=>s.no (by rw[hout,←ho,numi,ei])
   obtain⟨w0,u1,u2,u3,u4,_⟩:=I.user (a:=(i:Int)+1) (by omega) m1
   have hw0:=uniq w0 u2 u3 u4
   subst hw0
   have tk:(tkN na nu).isSome=true:=by
    have:(tkN (na.ren (numT ns M ns.length).2) (nu.ren (numT ns M ns.length).2)).isSome=true:=by rw[s.tk];rfl
    unfold tkN at this ⊢
    have k1:(nu.ren (numT ns M ns.length).2).kind=nu.kind:=rfl
    have k2:(na.ren (numT ns M ns.length).2).post=na.post:=rfl
    rw[k1,k2] at this
    by_cases c1:nu.kind=10∧na.post=0
    ·rw[if_pos c1];rfl
    ·rw[if_neg c1] at this ⊢
     by_cases c2:nu.kind=9∧andI .i64 na.post 2=0
     ·rw[if_pos c2];rfl
     ·rw[if_neg c2] at this;cases this
   have hwe:wei na.kind:=s.we
   have hst:stepAt ns out M i=none:=stepF_all ns.length 0 hN i (Nat.zero_le _) (by omega)
   unfold stepAt at hst
   rw[ena] at hst
   dsimp only at hst
   rw[if_pos ⟨m1,hno,hwe⟩,u1,show((w0:Int)+1-1).toNat=w0 by omega,enu] at hst
   dsimp only at hst
   rw[Option.map_eq_none_iff] at hst
   rw[hst] at tk;cases tk
 have hcl: ∀t,t≤h.nodes.length→cl Mh t=t:=fun t=>by
  induction t with
  |zero=>intro _;rfl
  |succ t ih=>
   intro ht
   rw[cl_succ,if_pos (hlive t (by omega)),ih (by omega)]
 have hsp:=numT_spec h.nodes Mh h.nodes.length (Nat.le_refl _)
 have hid: ∀j:Int,0≤j→j≤(h.nodes.length:Int)→numF (numT h.nodes Mh h.nodes.length).2 j=j:=fun j h0 h1=>by
  by_cases hz:j=0
  ·subst hz;exact num_zero
  ·obtain⟨q,rfl⟩: ∃q:Nat,j=(q:Int)+1:=⟨(j-1).toNat,by omega⟩
   rw[num_at Ih (hlive q (by omega)),hcl q (by omega)]
 have hfst:(numT h.nodes Mh h.nodes.length).1=h.nodes:=by
  apply List.ext_getElem?
  intro k
  by_cases hk:k<h.nodes.length
  ·have:=(hsp.2.2 k hk (hlive k hk)).2
   rw[hcl k (by omega)] at this
   exact this
  ·rw[List.getElem?_eq_none (by rw[hsp.1,hcl _ (Nat.le_refl _)];omega),List.getElem?_eq_none (by omega)]
 have hf:fuseIt (h.nodes.length+1) (h.nodes,h.out,Mh)=(h.nodes,h.out,Mh):=by
  unfold fuseIt
  rw[none']
 have hr:=first_ok (look_zero e0).1
 have hl:leftG h (h.nodes,h.out,Mh)=h:=by
  unfold leftG
  have e1:(numT h.nodes Mh h.nodes.length).1.map (Nd.ren (numT h.nodes Mh h.nodes.length).2)=h.nodes:=by
   rw[hfst]
   conv=>rhs;rw[←List.map_id h.nodes]
   refine List.map_congr_left fun n hn=> ?_
   have e2:n.inn.map (numF (numT h.nodes Mh h.nodes.length).2)=n.inn:=by
    conv=>rhs;rw[←List.map_id n.inn]
    refine List.map_congr_left fun j hj=> ?_
    have:=hr.2.2.2.2.2 n hn j hj
    exact hid j this.1 this.2
   unfold Nd.ren
   rw[e2];rfl
  have e3:numF (numT h.nodes Mh h.nodes.length).2 h.out=h.out:=hid _ (by have:=hr.2.2.2.2.1;omega) hr.2.2.2.2.1.2
  show Gr.mk _ _ _ ((numT h.nodes Mh h.nodes.length).1.map (Nd.ren (numT h.nodes Mh h.nodes.length).2)) (numF (numT h.nodes Mh h.nodes.length).2 h.out)=h
  rw[e1,e3]
 unfold fuseG
 rw[if_pos e0,eMh,hf,hl]
end
theorem Fused.none {s f:FSt} (h:Fused s f):stepP f.1 f.2.1 f.2.2=Option.none:=by
 induction h with
 |done h=>exact h
 |more _ _ ih=>exact ih
theorem fuse_good {g:Gr} {W R Lo Hi:Int→Int} (r:Right g W R (posG g.nodes)) (c:Reach g.nodes R Lo Hi): ∃(φ:Int→Int) (pos:Int→Nat),Right (fuseG g) (W ∘ φ) (R ∘ φ) pos∧Reach (fuseG g).nodes (R ∘ φ) (Lo ∘ φ) (Hi ∘ φ)∧W (φ (fuseG g).out)=W g.out∧R (φ (fuseG g).out)=R g.out∧Lo (φ (fuseG g).out)=Lo g.out∧Hi (φ (fuseG g).out)=Hi g.out∧
 (∀x,0≤x→x≤((fuseG g).nodes.length:Int)→0≤φ x∧φ x≤(g.nodes.length:Int))∧((fuseG g).nodes.map Nd.cost).sum≤(g.nodes.map Nd.cost).sum∧(∀k,k<(fuseG g).nodes.length→Lv (fuseG g).nodes (fuseG g).out ((k:Int)+1))∧fuseG (fuseG g)=fuseG g∧(fuseG g).nodes.length≤g.nodes.length:=by
 have e0:g.look.e=0:=by rw[r.look]
 have I:=look_finv e0
 have Fz:=(fused_it (g.nodes.length+1) (g.nodes,g.out,liveM g.nodes g.out) I (Nat.lt_succ_of_le (keys_le _ _))).none
 have K:=fuse_keeps (g:=g) (g.nodes.length+1) (g.nodes,g.out,liveM g.nodes g.out) I r c
 have eF:fuseG g=leftG g (fuseIt (g.nodes.length+1) (g.nodes,g.out,liveM g.nodes g.out)):=by unfold fuseG;rw[if_pos e0]
 rw[eF]
 generalize fuseIt (g.nodes.length+1) (g.nodes,g.out,liveM g.nodes g.out)=F at Fz K
 obtain⟨ns,out,M⟩:=F
 obtain⟨I2,r2,c2,k1,k2,k3,k4,k5⟩:=K
 dsimp only at I2 r2 c2 k1 k2 k3 k4 k5 Fz
 have hlen:ns.length=g.nodes.length:=by have:=congrArg List.length k1;simpa using this
 have ho:=left_out (g:=g) I2
 refine⟨unN M ns.length,_,left_right r2 I2,left_reach c2 I2,by rw[ho];exact k2,by rw[ho];exact k3,by rw[ho];exact k4,by rw[ho];exact k5,fun x h0 h1=> ?_,?_,fun k hk=>left_all I2 hk,left_done r2 I2 Fz,?_⟩
 ·by_cases hz:x=0
  ·subst hz;rw[unN_zero];omega
  ·rw[left_length] at h1
   obtain⟨i,q1,q2,q3⟩:=cl_surj (M:=M) ns.length (x-1).toNat (by omega)
   have:=unN_at q1 q2
   rw[show((cl M i:Nat):Int)+1=x by omega] at this
   rw[this];omega
 ·rw[←k1];exact left_cost
 ·rw[left_length,←hlen];exact cl_le _ _
end Go.Proofs.YtdhpmegbmjoekaaGreatDoor.G
