/- Sh, part 11: facts of a heap that stand apart from one another, kept in lists; rules over them. -/
import Derived.Test.YtdhpmegbmjoekaaGreatDoorShL
set_option linter.unusedVariables false
namespace Go.Sh
structure bi where
 P:ae→Prop
 foot:Nat→Prop
 lt: ∀{h:ae} {b:Nat},P h→foot b→b<h.size
 loc: ∀{h h':ae},P h→h.size≤h'.size→(∀b,foot b→h'[b]? =h[b]?)→P h'
def blk (b:Nat) (cs:List Value):bi:=
 {P:=fun h=>At h b cs,foot:=fun i=>i=b,lt:=fun a e=>by subst e;exact a.lt,
  loc:=fun a _ hs=>by obtain⟨e,lo,hi,hb,hz⟩:=a;exact⟨e,lo,hi,by rw[hs _ rfl];exact hb,hz⟩}
def row (p:Option Addr) (xs:List Value):bi:=
 {P:=fun h=>bT h p xs,foot:=fun i=>xs≠[]∧ ∃a,p=some a∧a.block=i,
  lt:=fun{h} {b} r=>by
   rintro⟨hx,a,rfl,rfl⟩
   rcases r with rfl|⟨a',e,_,cs,hat,_⟩
   ·exact absurd rfl hx
   ·cases e;exact hat.lt
  loc:=fun{h} {h'} r _ hs=>by
   rcases r with rfl|⟨a,rfl,h1,cs,⟨e,f,hb⟩,hl,hc⟩
   ·exact .inl rfl
   ·by_cases hx:xs=[]
    ·exact .inl hx
    ·exact .inr ⟨a,rfl,h1,cs,⟨e,f,by rw[hs _ ⟨hx,a,rfl,rfl⟩];exact hb⟩,hl,hc⟩}
def own (sz:Nat) (p:Option Addr) (l c:Nat) (xs:List Value):bi:=
 {P:=fun h=>qF h 0 sz p l c xs,foot:=fun i=> ∃a,p=some a∧a.block=i,
  lt:=fun{h} {b} o=>by
   rintro⟨a,rfl,rfl⟩
   obtain⟨_,_,⟨e,_⟩|⟨b,cs,e,_,hat,_⟩⟩:=o
   ·cases e
   ·cases e;exact hat.lt
  loc:=fun{h} {h'} o hsz hs=>by
   obtain⟨h1,h2,h3|⟨b,cs,rfl,hb,⟨e,lo,hi,hbb,hz⟩,h4⟩⟩:=o
   ·exact⟨h1,h2,.inl h3⟩
   ·exact⟨h1,h2,.inr ⟨b,cs,rfl,hb,⟨e,lo,hi,by rw[hs _ ⟨_,rfl,rfl⟩];exact hbb,hz⟩,h4⟩⟩}
structure aK (h0:ae) (T:Nat→Prop) (h:ae) (W R:List bi):Prop where
 fra:cu T h0 h
 w: ∀(i:Nat) (f:bi),W[i]? =some f→f.P h
 r: ∀(i:Nat) (f:bi),R[i]? =some f→f.P h
 ok: ∀(i:Nat) (f:bi),W[i]? =some f→ ∀b,f.foot b→b<h0.size→T b
 ww: ∀(i j:Nat) (f g:bi),W[i]? =some f→W[j]? =some g→i≠j→ ∀b,f.foot b→g.foot b→False
 wr: ∀(i j:Nat) (f g:bi),W[i]? =some f→R[j]? =some g→ ∀b,f.foot b→g.foot b→False
theorem aK.start (h:ae) (T:Nat→Prop):aK h T h [] []:=
 ⟨cu.refl _ _,by simp,by simp,by simp,by simp,by simp⟩
theorem aK.read {h0 h:ae} {T:Nat→Prop} {R:List bi} (S:aK h0 T h [] R) (f:bi) (hf:f.P h):aK h0 T h [] (R++[f]):=
 ⟨S.fra,by simp,(fun i g hg=>by
  rw[List.getElem?_append] at hg
  split at hg
  ·exact S.r i g hg
  ·rw[List.getElem?_singleton] at hg
   split at hg
   ·cases hg;exact hf
   ·cases hg),by simp,by simp,by simp⟩
theorem aK.one {h0 h:ae} {T:Nat→Prop} {f:bi} (k:cu T h0 h) (hf:f.P h) (hs: ∀b,f.foot b→b<h0.size→T b):aK h0 T h [f] []:=by
 have h0': ∀(i:Nat) (g:bi),[f][i]? =some g→i=0∧g=f:=fun i g hg=>by
  rw[List.getElem?_singleton] at hg
  split at hg
  ·cases hg;exact⟨by assumption,rfl⟩
  ·cases hg
 refine⟨k,fun i g hg=> ?_,by simp,fun i g hg=> ?_,fun i j g g' hg hg' hij=> ?_,by simp⟩
 ·obtain⟨_,rfl⟩:=h0' i g hg;exact hf
 ·obtain⟨_,rfl⟩:=h0' i g hg;exact hs
 ·have:=(h0' i g hg).1
  have:=(h0' j g' hg').1
  omega
theorem aK.upd {h0 h h':ae} {T:Nat→Prop} {W R:List bi} (S:aK h0 T h W R) (i:Nat) {f:bi} (e:W[i]? =some f) (f':bi) (k:cu f.foot h h') (hf:f'.P h')
 (hs: ∀b,f'.foot b→f.foot b∨h.size≤b):aK h0 T h' (W.set i f') R:=by
 have hi:i<W.length:=(List.getElem?_eq_some_iff.1 e).1
 have other: ∀(j:Nat) (g:bi),W[j]? =some g→i≠j→g.P h':=fun j g hg hj=>g.loc (S.w j g hg) k.size fun b hb=>k.same b (g.lt (S.w j g hg) hb) fun hfb=>S.ww i j f g e hg hj b hfb hb
 refine⟨⟨Nat.le_trans S.fra.size k.size,fun b hb hT=> ?_⟩,fun j g hg=> ?_,fun j g hg=> ?_,fun j g hg b hb hlt=> ?_,fun j l g g' hg hg' hjl b hb hb'=> ?_,fun j l g g' hg hg' b hb hb'=> ?_⟩
 ·rw[k.same b (Nat.lt_of_lt_of_le hb S.fra.size) fun hfb=>hT (S.ok i f e b hfb hb)]
  exact S.fra.same b hb hT
 ·rw[List.getElem?_set] at hg
  split at hg
  ·cases hg;exact hf
  ·exact other j g hg (by assumption)
 ·exact g.loc (S.r j g hg) k.size fun b hb=>k.same b (g.lt (S.r j g hg) hb) fun hfb=>S.wr i j f g e hg b hfb hb
 ·rw[List.getElem?_set] at hg
  split at hg
  ·cases hg
   rcases hs b hb with hb|hb
   ·exact S.ok i f e b hb hlt
   ·have:=S.fra.size;omega
  ·exact S.ok j g hg b hb hlt
 ·have key: ∀(j:Nat) (g:bi),W[j]? =some g→i≠j→ ∀b,f'.foot b→g.foot b→False:=fun j g hg hj b hb hgb=>by
   rcases hs b hb with hb|hb
   ·exact S.ww i j f g e hg hj b hb hgb
   ·have:=g.lt (S.w j g hg) hgb;omega
  rw[List.getElem?_set] at hg hg'
  split at hg
  ·cases hg
   split at hg'
   ·omega
   ·exact key l g' hg' (by assumption) b hb hb'
  ·split at hg'
   ·cases hg';exact key j g hg (by assumption) b hb' hb
   ·exact S.ww j l g g' hg hg' hjl b hb hb'
 ·rw[List.getElem?_set] at hg
  split at hg
  ·cases hg
   rcases hs b hb with hb|hb
   ·exact S.wr i l f g' e hg' b hb hb'
   ·have:=g'.lt (S.r l g' hg') hb';omega
  ·exact S.wr j l g g' hg hg' b hb hb'
theorem aK.add {h0 h h':ae} {T U:Nat→Prop} {W R W1 R1:List bi} (S:aK h0 T h W R) (S1:aK h U h' W1 R1) (hU: ∀b,b<h.size→ ¬U b):aK h0 T h' (W++W1) R:=by
 have k:cu no h h':=S1.fra.mono fun b hb hu=>hU b hb hu
 have other: ∀(j:Nat) (g:bi),W[j]? =some g→g.P h':=fun j (g:bi) hg=>g.loc (S.w j g hg) k.size fun b hb=>k.same b (g.lt (S.w j g hg) hb) fun h=>h
 have new: ∀(j:Nat) (g:bi),W1[j]? =some g→ ∀b,g.foot b→h.size≤b:=fun j g hg b hb=>by
  apply Decidable.byContradiction
  intro hlt
  exact hU b (by omega) (S1.ok j g hg b hb (by omega))
 refine⟨⟨Nat.le_trans S.fra.size k.size,fun b hb hT=> ?_⟩,fun j g hg=> ?_,fun j g hg=> ?_,fun j g hg b hb hlt=> ?_,fun j l g g' hg hg' hjl b hb hb'=> ?_,fun j l g g' hg hg' b hb hb'=> ?_⟩
 ·rw[k.same b (Nat.lt_of_lt_of_le hb S.fra.size) fun h=>h]
  exact S.fra.same b hb hT
 ·rw[List.getElem?_append] at hg
  split at hg
  ·exact other j g hg
  ·exact S1.w _ g hg
 ·exact g.loc (S.r j g hg) k.size fun b hb=>k.same b (g.lt (S.r j g hg) hb) fun h=>h
 ·rw[List.getElem?_append] at hg
  split at hg
  ·exact S.ok j g hg b hb hlt
  ·have:=new _ g hg b hb
   have:=S.fra.size
   omega
 ·rw[List.getElem?_append] at hg hg'
  split at hg
  ·split at hg'
   ·exact S.ww j l g g' hg hg' hjl b hb hb'
   ·have:=new _ g' hg' b hb'
    have:=g.lt (S.w _ g hg) hb
    omega
  ·split at hg'
   ·have:=new _ g hg b hb
    have:=g'.lt (S.w _ g' hg') hb'
    omega
   ·exact S1.ww _ _ g g' hg hg' (by omega) b hb hb'
 ·rw[List.getElem?_append] at hg
  split at hg
  ·exact S.wr j l g g' hg hg' b hb hb'
  ·have:=new _ g hg b hb
   have:=g'.lt (S.r _ g' hg') hb'
   omega
def pick (W:List bi):List Nat→List bi
 |[]=>[]
 |i::l=>match W[i]? with
  |some f=>f::pick W l
  |none=>pick W l
theorem dn {W:List bi}: ∀{l:List Nat} {k:Nat} {f:bi},(pick W l)[k]? =some f→ ∃i,i∈l∧W[i]? =some f
 |[],k,f,h=>by simp[pick] at h
 |i::l,k,f,h=>by
  simp only[pick] at h
  split at h
  ·rename_i g hg
   cases k with
   |zero=>simp at h;subst h;exact⟨i,by simp,hg⟩
   |succ k=>obtain⟨j,hj,hw⟩:=dn (l:=l) (k:=k) (f:=f) (by simpa using h);exact⟨j,by simp[hj],hw⟩
  ·obtain⟨j,hj,hw⟩:=dn h;exact⟨j,by simp[hj],hw⟩
theorem nl {W:List bi} (hW: ∀(i j:Nat) (f g:bi),W[i]? =some f→W[j]? =some g→i≠j→ ∀b,f.foot b→g.foot b→False):
 ∀{l:List Nat},l.Nodup→ ∀(i j:Nat) (f g:bi),(pick W l)[i]? =some f→(pick W l)[j]? =some g→i≠j→ ∀b,f.foot b→g.foot b→False
 |[],_,i,j,f,g,hf,_,_=>by simp[pick] at hf
 |n::l,hn,i,j,f,g,hf,hg,hij=>by
  obtain⟨h1,h2⟩:=List.nodup_cons.1 hn
  simp only[pick] at hf hg
  split at hf
  ·rename_i w hw
   cases i with
   |zero=>
    simp at hf;subst hf
    cases j with
    |zero=>omega
    |succ j=>
     obtain⟨m,hm,hwm⟩:=dn (l:=l) (k:=j) (f:=g) (by simpa[hw] using hg)
     exact hW n m w g hw hwm (by rintro rfl;exact h1 hm)
   |succ i=>
    have hf:(pick W l)[i]? =some f:=by simpa using hf
    cases j with
    |zero=>
     obtain⟨m,hm,hwm⟩:=dn hf
     simp[hw] at hg;subst hg
     exact hW m n f w hwm hw (by rintro rfl;exact h1 hm)
    |succ j=>exact nl hW h2 i j f g hf (by simpa[hw] using hg) (by omega)
  ·rename_i hw
   rw[hw] at hg
   exact nl hW h2 i j f g hf hg hij
theorem aK.pick {h0 h:ae} {T:Nat→Prop} {W R:List bi} (S:aK h0 T h W R) (l r:List Nat) (hl:l.Nodup:=by decide):aK h0 T h (Sh.pick W l) (Sh.pick R r):=
 ⟨S.fra,fun k f hf=>by obtain⟨i,_,hi⟩:=dn hf;exact S.w i f hi,fun k f hf=>by obtain⟨i,_,hi⟩:=dn hf;exact S.r i f hi,
  fun k f hf=>by obtain⟨i,_,hi⟩:=dn hf;exact S.ok i f hi,nl S.ww hl,
  fun i j f g hf hg=>by obtain⟨i',_,hi⟩:=dn hf;obtain⟨j',_,hj⟩:=dn hg;exact S.wr i' j' f g hi hj⟩
def MX (W:List bi):Nat→Prop:=fun b=> ∃(i:Nat) (f:bi),W[i]? =some f∧f.foot b
theorem aK.into {h0 h:ae} {T:Nat→Prop} {W R:List bi} (S:aK h0 T h W R) (l m r:List Nat) (hl:(l++m).Nodup:=by decide):aK h (MX (Sh.pick W l)) h (Sh.pick W l) (Sh.pick W m++Sh.pick R r):=by
 have hl':=List.nodup_append.1 hl
 refine⟨cu.refl _ _,(S.pick l r hl'.1).w,fun k f hf=> ?_,fun k f hf b hb _=>⟨k,f,hf,hb⟩,nl S.ww hl'.1,fun i j f g hf hg=> ?_⟩
 ·rw[List.getElem?_append] at hf
  split at hf
  ·obtain⟨i,_,hi⟩:=dn hf;exact S.w i f hi
  ·obtain⟨i,_,hi⟩:=dn hf;exact S.r i f hi
 ·obtain⟨i',hi',hi⟩:=dn hf
  rw[List.getElem?_append] at hg
  split at hg
  ·obtain⟨j',hj',hj⟩:=dn hg;exact S.ww i' j' f g hi hj (hl'.2.2 _ hi' _ hj')
  ·obtain⟨j',_,hj⟩:=dn hg;exact S.wr i' j' f g hi hj
theorem aK.fra0 {h0 h h':ae} {T:Nat→Prop} {W R:List bi} (S:aK h0 T h W R) (k:cu no h h'):aK h0 T h' W R:=by
 have:aK h0 T h' (W++[]) R:=S.add (W1:=[]) (R1:=[]) (U:=no) ⟨k,by simp,by simp,by simp,by simp,by simp⟩ fun b _ h=>h
 rwa [List.append_nil] at this
def bO:List bi→List Nat→List bi→List bi
 |W,[],W1=>W++W1
 |W,i::l,f::W1=>bO (W.set i f) l W1
 |W,_::_,[]=>W
theorem mE {f:bi} {k:Nat}: ∀{l:List Nat} {W W1:List bi},l.Nodup→(∀i∈l,i<W.length)→l.length≤W1.length→(bO W l W1)[k]? =some f→
 (∃m,W1[m]? =some f∧(l[m]? =some k∨(l.length≤m∧k=W.length+(m-l.length))))∨(k∉l∧W[k]? =some f)
 |[],W,W1,_,_,_,h=>by
  simp only[bO] at h
  rw[List.getElem?_append] at h
  split at h
  ·exact .inr ⟨by simp,h⟩
  ·exact .inl ⟨_,h,.inr ⟨by simp,by simp;omega⟩⟩
 |i::l,W,f0::W1,hn,hi,hl,h=>by
  obtain⟨h1,h2⟩:=List.nodup_cons.1 hn
  simp only[bO] at h
  rcases mE h2 (fun j hj=>by rw[List.length_set];exact hi j (by simp[hj])) (by simpa using hl) h with ⟨m,hm,ho⟩|⟨hk,hw⟩
  ·refine .inl ⟨m+1,by simpa using hm,?_⟩
   rcases ho with ho|⟨ho,hk⟩
   ·exact .inl (by simpa using ho)
   ·rw[List.length_set] at hk
    exact .inr ⟨by simp;omega,by simp;omega⟩
  ·rw[List.getElem?_set] at hw
   split at hw
   ·rename_i hik
    subst hik
    rw[if_pos (hi i (by simp))] at hw
    cases hw
    exact .inl ⟨0,rfl,.inl rfl⟩
   ·exact .inr ⟨by simp;exact⟨by omega,hk⟩,hw⟩
 |i::l,W,[],_,_,hl,_=>by simp at hl
theorem aK.back {h0 h h':ae} {T:Nat→Prop} {W R W1 R1:List bi} (S:aK h0 T h W R) (l:List Nat) (S1:aK h (MX (Sh.pick W l)) h' W1 R1) (hn:l.Nodup:=by decide) (hlt:l.all (· <W.length)=true:=by rfl) (hlen:Nat.ble l.length W1.length=true:=by rfl):
 aK h0 T h' (bO W l W1) R:=by
 have hlt: ∀i∈l,i<W.length:=fun i hi=>by simpa using List.all_eq_true.1 hlt i hi
 have hlen:l.length≤W1.length:=Nat.le_of_ble_eq_true hlen
 have old: ∀(b:Nat),b<h.size→MX (Sh.pick W l) b→ ∃i f,i∈l∧W[i]? =some f∧f.foot b:=fun b _ ⟨j,f,hj,hb⟩=>by
  obtain⟨i,hi,hw⟩:=dn hj
  exact⟨i,f,hi,hw,hb⟩
 have other: ∀(j:Nat) (g:bi),W[j]? =some g→j∉l→ ∀b,g.foot b→ ¬MX (Sh.pick W l) b:=fun j g hg hj b hb hf=>by
  obtain⟨i,f,hi,hw,hfb⟩:=old b (g.lt (S.w j g hg) hb) hf
  exact S.ww i j f g hw hg (by rintro rfl;exact hj hi) b hfb hb
 have new: ∀(j:Nat) (g:bi),W1[j]? =some g→ ∀b,g.foot b→(∃i f,i∈l∧W[i]? =some f∧f.foot b)∨h.size≤b:=fun j g hg b hb=>by
  by_cases hlt:b<h.size
  ·exact .inl (old b hlt (S1.ok j g hg b hb hlt))
  ·exact .inr (by omega)
 refine⟨⟨Nat.le_trans S.fra.size S1.fra.size,fun b hb hT=> ?_⟩,fun j g hg=> ?_,fun j g hg=> ?_,fun j g hg b hb hlt'=> ?_,fun j k g g' hg hg' hjk b hb hb'=> ?_,fun j k g g' hg hg' b hb hb'=> ?_⟩
 ·rw[S1.fra.same b (Nat.lt_of_lt_of_le hb S.fra.size) fun hf=>by
   obtain⟨i,f,hi,hw,hfb⟩:=old b (Nat.lt_of_lt_of_le hb S.fra.size) hf
   exact hT (S.ok i f hw b hfb hb)]
  exact S.fra.same b hb hT
 ·rcases mE hn hlt hlen hg with ⟨m,hm,_⟩|⟨hk,hw⟩
  ·exact S1.w m g hm
  ·exact g.loc (S.w j g hw) S1.fra.size fun b hb=>S1.fra.same b (g.lt (S.w j g hw) hb) (other j g hw hk b hb)
 ·exact g.loc (S.r j g hg) S1.fra.size fun b hb=>S1.fra.same b (g.lt (S.r j g hg) hb) fun hf=>by
   obtain⟨i,f,hi,hw,hfb⟩:=old b (g.lt (S.r j g hg) hb) hf
   exact S.wr i j f g hw hg b hfb hb
 ·rcases mE hn hlt hlen hg with ⟨m,hm,_⟩|⟨hk,hw⟩
  ·rcases new m g hm b hb with ⟨i,f,hi,hwi,hfb⟩|h
   ·exact S.ok i f hwi b hfb hlt'
   ·have:=S.fra.size;omega
  ·exact S.ok j g hw b hb hlt'
 ·have key: ∀(m:Nat) (g:bi),W1[m]? =some g→ ∀(k:Nat) (g':bi),k∉l→W[k]? =some g'→ ∀b,g.foot b→g'.foot b→False:=fun m g hm k g' hk hw b hb hb'=>by
   rcases new m g hm b hb with ⟨i,f,hi,hwi,hfb⟩|h
   ·exact S.ww i k f g' hwi hw (by rintro rfl;exact hk hi) b hfb hb'
   ·have:=g'.lt (S.w k g' hw) hb';omega
  rcases mE hn hlt hlen hg with ⟨m,hm,ho⟩|⟨hk,hw⟩<;>rcases mE hn hlt hlen hg' with ⟨m',hm',ho'⟩|⟨hk',hw'⟩
  ·refine S1.ww m m' g g' hm hm' ?_ b hb hb'
   rintro rfl
   rcases ho with ho|⟨ho,he⟩<;>rcases ho' with ho'|⟨ho',he'⟩
   ·rw[ho] at ho';cases ho';exact hjk rfl
   ·have:=(List.getElem?_eq_some_iff.1 ho).1;omega
   ·have:=(List.getElem?_eq_some_iff.1 ho').1;omega
   ·omega
  ·exact key m g hm k g' hk' hw' b hb hb'
  ·exact key m' g' hm' j g hk hw b hb' hb
  ·exact S.ww j k g g' hw hw' hjk b hb hb'
 ·rcases mE hn hlt hlen hg with ⟨m,hm,_⟩|⟨hk',hw⟩
  ·rcases new m g hm b hb with ⟨i,f,hi,hwi,hfb⟩|h
   ·exact S.wr i k f g' hwi hg' b hfb hb'
   ·have:=g'.lt (S.r k g' hg') hb';omega
  ·exact S.wr j k g g' hw hg' b hb hb'
theorem aK.size {h0 h:ae} {T:Nat→Prop} {W R:List bi} (S:aK h0 T h W R):h0.size≤h.size:=S.fra.size
theorem aK.at {h0 h:ae} {T:Nat→Prop} {W R:List bi} (S:aK h0 T h W R) (i:Nat) {b:Nat} {cs:List Value} (e:W[i]? =some (blk b cs)):At h b cs:=S.w i _ e
theorem aK.own {h0 h:ae} {T:Nat→Prop} {W R:List bi} (S:aK h0 T h W R) (i:Nat) {sz:Nat} {p:Option Addr} {l c:Nat} {xs:List Value} (e:W[i]? =some (own sz p l c xs)):qF h 0 sz p l c xs:=S.w i _ e
theorem aK.row {h0 h:ae} {T:Nat→Prop} {W R:List bi} (S:aK h0 T h W R) (i:Nat) {p:Option Addr} {xs:List Value} (e:R[i]? =some (row p xs)):bT h p xs:=S.r i _ e
theorem aK.cell {h0 h:ae} {T:Nat→Prop} {W R:List bi} (S:aK h0 T h W R) (i:Nat) {b k:Nat} {cs:List Value} {v:Value} (e:W[i]? =some (blk b cs)) (c:cs[k]? =some v):aD h ⟨b,k,none⟩=some v:=(S.at i e).cell c
theorem aK.cellR {h0 h:ae} {T:Nat→Prop} {W R:List bi} (S:aK h0 T h W R) (i:Nat) {b k:Nat} {cs:List Value} {v:Value} (e:R[i]? =some (blk b cs)) (c:cs[k]? =some v):aD h ⟨b,k,none⟩=some v:=At.cell (S.r i _ e) c
theorem aC {h0 h:ae} {T:Nat→Prop} {W R:List bi} (S:aK h0 T h W R) {cs:List Value} {e:TypeId} {K:Nat→ae→Prop} (H: ∀b h',b=h.size→aK h0 T h' (W++[blk b cs]) R→K b h'):aW h (.cells cs.toArray e (0,0)) K:=by
 refine MY fun b h' hb hs hat hf=>H b h' hb ?_
 exact S.add (aK.one hf hat fun c hc hlt=>by have:c=b:=hc;omega) fun b _ h=>h
theorem aJ {h0 h:ae} {T:Nat→Prop} {W R:List bi} (S:aK h0 T h W R) (i:Nat) {b k:Nat} {cs:List Value} {v:Value} {K:ae→Prop} (e:W[i]? =some (blk b cs)) (hk:k<cs.length)
 (H: ∀h',h'.size=h.size→aK h0 T h' (W.set i (blk b (cs.set k v))) R→K h'):bu h ⟨b,k,none⟩ v K:=
 MZ (S.at i e) hk fun h' hs hat hf=>H h' hs (S.upd i e (blk b (cs.set k v)) hf hat fun _ h=> .inl h)
theorem aK.nil {h0 h:ae} {T:Nat→Prop} {W R:List bi} (S:aK h0 T h W R) (sz:Nat):aK h0 T h (W++[Sh.own sz none 0 0 []]) R:=by
 exact S.add (aK.one (cu.refl no _) (qF.nil _ _ _) fun c hc=>by obtain⟨a,ha,_⟩:=hc;cases ha) fun b _ h=>h
theorem dI {h0 h:ae} {T:Nat→Prop} {W R:List bi} (S:aK h0 T h W R) (i:Nat) {e sz by_:Nat} {z:Value} {p:Option Addr} {l c n:Nat} {q:Option Addr} {xs ys:List Value} {K:Option Addr→Nat→Nat→ae→Prop}
 (w:W[i]? =some (own sz p l c xs)) (hsz:z.cells.size=sz) (hby:by_≠0) (hbig:(2*(l+n)+1024)*by_≤2 ^ 48) (hy:bT h q ys) (hyl:ys.length=n*sz) (h1: ∀y∈ys,mC y=true)
 (H: ∀p' l' c' h',l'=l+n→aK h0 T h' (W.set i (own sz p' l' c' (xs++ys))) R→K p' l' c' h'):jm e sz by_ z p l c q n h K:=by
 have o:qF h 0 sz p l c xs:=S.w i _ w
 unfold jm MD
 refine⟨ys,hy.readO hyl,fun hle=> ?_,fun hlt=>⟨hby,?_,xs,o.row.readO o.1,fun c2 hc2=> ?_⟩⟩
 ·obtain⟨hl,hc,⟨rfl,rfl,rfl⟩|⟨b,cs,rfl,hb,hat,hlen,ht⟩⟩:=o
  ·have hn:n=0:=by omega
   subst hn
   have hye:ys=[]:=List.length_eq_zero_iff.1 (by simpa using hyl)
   have hxe:xs=[]:=List.length_eq_zero_iff.1 (by simpa using hl)
   subst hye;subst hxe
   exact⟨_,_,_,rfl,H none 0 0 h rfl (S.upd i w (Sh.own sz none 0 0 []) (cu.refl _ _) (qF.nil _ _ _) fun b hb=> .inl hb)⟩
  ·simp only
   rw[aY,Nat.zero_add]
   have hfit:l*sz+n*sz≤cs.length:=by rw[hlen,←Nat.add_mul];exact Nat.mul_le_mul_right _ hle
   refine np ys h cs (l*sz) 0 hat (by omega) h1 fun h' hs hat' hf=> ?_
   refine⟨_,_,_,rfl,H _ _ _ h' rfl (S.upd i w (Sh.own sz _ _ _ (xs++ys)) (hf.mono fun j _ hj=>⟨_,rfl,hj.symm⟩) ?_ fun b hb=> .inl hb)⟩
   refine⟨by rw[List.length_append,hl,hyl,Nat.add_mul],hle,.inr ⟨b,_,rfl,hb,hat',?_,?_⟩⟩
   ·simp only[Nat.add_zero,List.length_append,List.length_take,List.length_drop];omega
   ·have hx:cs.take (l*sz)=xs:=by rw[←hl];exact ht
    simp only[Nat.add_zero,hx]
    rw[List.append_assoc,←List.append_assoc xs ys]
    rw[List.take_append_of_le_length (by simp)]
    rw[List.take_of_length_le (by simp)]
 ·exact Nat.le_trans (Nat.mul_le_mul_right _ (rO _ _ hlt)) hbig
 ·refine⟨_,_,_,rfl,H _ _ _ _ rfl (S.upd i w (Sh.own sz _ _ _ (xs++ys)) (cu.push _ _ _) ?_ fun b hb=> .inr ?_)⟩
  ·refine⟨by rw[List.length_append,o.1,hyl,Nat.add_mul],hc2,.inr ⟨h.size,_,rfl,Nat.zero_le _,At.new h _ e,?_,?_⟩⟩
   ·have hz:(Builtin.zeroCells z.cells (c2-(l+n))).toList.length=(c2-(l+n))*sz:=by simp[Builtin.zeroCells,hsz]
    simp only[List.length_append,hz,o.1,hyl]
    rw[←Nat.add_mul,←Nat.add_mul];congr 1;omega
   ·rw[List.take_append_of_le_length (by simp),List.take_of_length_le (by simp)]
  ·obtain⟨a,ha,rfl⟩:=hb;cases ha;exact Nat.le_refl _
theorem ig {i:Int} {n:Nat} {K:Unit→Prop} (h0:0≤i) (h1:i<(n:Int)) (H:K ()):si i n K:=⟨h0,h1,H⟩
theorem aK.two {h0 h:ae} {T:Nat→Prop} {f g:bi} (k:cu T h0 h) (hf:f.P h) (hg:g.P h) (hs: ∀b,f.foot b→b<h0.size→T b) (hs': ∀b,g.foot b→b<h0.size→T b) (ha: ∀b,f.foot b→g.foot b→False):aK h0 T h [f,g] []:=by
 have key: ∀(i:Nat) (u:bi),[f,g][i]? =some u→(i=0∧u=f)∨(i=1∧u=g):=fun i u hu=>by
  match i,hu with
  |0,hu=>simp at hu;exact .inl ⟨rfl,hu.symm⟩
  |1,hu=>simp at hu;exact .inr ⟨rfl,hu.symm⟩
  |n+2,hu=>simp at hu
 refine⟨k,fun i u hu=> ?_,by simp,fun i u hu=> ?_,fun i j u v hu hv hij b hb hb'=> ?_,by simp⟩
 ·rcases key i u hu with ⟨_,rfl⟩|⟨_,rfl⟩
  ·exact hf
  ·exact hg
 ·rcases key i u hu with ⟨_,rfl⟩|⟨_,rfl⟩
  ·exact hs
  ·exact hs'
 ·rcases key i u hu with ⟨hi,rfl⟩|⟨hi,rfl⟩<;>rcases key j v hv with ⟨hj,rfl⟩|⟨hj,rfl⟩
  ·omega
  ·exact ha b hb hb'
  ·exact ha b hb' hb
  ·omega
theorem aK.view {h0 h:ae} {T:Nat→Prop} {W R:List bi} (S:aK h0 T h W R) (j:Nat) {g:bi} (e:R[j]? =some g) (g':bi) (hp:g.P h→g'.P h) (hs: ∀b,g'.foot b→g.foot b):aK h0 T h W (R.set j g'):=by
 have hj:j<R.length:=(List.getElem?_eq_some_iff.1 e).1
 have key: ∀(i:Nat) (u:bi),(R.set j g')[i]? =some u→u=g'∨R[i]? =some u:=fun i u hu=>by
  rw[List.getElem?_set] at hu
  by_cases hij:j=i
  ·subst hij
   simp only[hj,if_true] at hu
   cases hu;exact .inl rfl
  ·simp only[hij,if_false] at hu
   exact .inr hu
 refine⟨S.fra,S.w,fun i u hu=> ?_,S.ok,S.ww,fun i k f u hf hu b hb hb'=> ?_⟩
 ·rcases key i u hu with rfl|hu
  ·exact hp (S.r j g e)
  ·exact S.r i u hu
 ·rcases key k u hu with rfl|hu
  ·exact S.wr i j f g hf e b hb (hs b hb')
  ·exact S.wr i k f u hf hu b hb hb'
theorem aK.rowB {h0 h:ae} {T:Nat→Prop} {W R:List bi} (S:aK h0 T h W R) (j:Nat) {b:Nat} {cs:List Value} (e:R[j]? =some (blk b cs):=by rfl):aK h0 T h W (R.set j (Sh.row (some ⟨b,0,none⟩) cs)):=
 S.view j e _ (fun h=>bT.of_at h) fun i hi=>by obtain⟨_,a,ha,rfl⟩:=hi;cases ha;rfl
theorem aK.rowO {h0 h:ae} {T:Nat→Prop} {W R:List bi} (S:aK h0 T h W R) (j:Nat) {sz:Nat} {p:Option Addr} {l c:Nat} {xs:List Value} (e:R[j]? =some (Sh.own sz p l c xs):=by rfl):aK h0 T h W (R.set j (Sh.row p xs)):=
 S.view j e _ (fun h=>qF.row h) fun _ hi=>hi.2
theorem aK.updB {h0 h h':ae} {T:Nat→Prop} {W R:List bi} (S:aK h0 T h W R) (i:Nat) {b:Nat} {cs cs':List Value} (k:cu (fun j=>j=b) h h') (hat:At h' b cs') (e:W[i]? =some (blk b cs):=by rfl):aK h0 T h' (W.set i (blk b cs')) R:=
 S.upd i e (blk b cs') k hat fun _ h=> .inl h
theorem bT.drop' {h:ae} {p:Option Addr} {xs:List Value} (r:bT h p xs) (n:Nat) (hn:n≤xs.length):bT h (p.map fun a=>Addr.add a n) (xs.drop n):=by
 cases p with
 |none=>
  rcases r with rfl|⟨a,e,_⟩
  ·exact .inl (by simp)
  ·cases e
 |some a=>exact r.drop n hn
theorem aK.part {h0 h:ae} {T:Nat→Prop} {W R:List bi} (S:aK h0 T h W R) (j:Nat) {p:Option Addr} {xs:List Value} (lo n:Nat) (hn:lo≤xs.length) (e:R[j]? =some (Sh.row p xs):=by rfl):aK h0 T h W (R.set j (Sh.row (p.map fun a=>Addr.add a lo) ((xs.drop lo).take n))):=
 S.view j e _ (fun h=>(bT.drop' h lo hn).take n) fun i hi=>by
  obtain⟨hx,a,ha,rfl⟩:=hi
  cases p with
  |none=>cases ha
  |some a'=>
   cases ha
   refine⟨?_,a',rfl,?_⟩
   ·rintro rfl;simp at hx
   ·unfold Addr.add;split<;>rfl
theorem Rx (c:Nat) (s:Nat) (p:Option Addr):(if c=0 then p else Option.map (fun a=>Addr.add a (0*s)) p)=p:=by
 split
 ·rfl
 ·exact M0 p s
theorem aK.head {h0 h:ae} {T:Nat→Prop} {W R:List bi} (S:aK h0 T h W R) (j:Nat) {p:Option Addr} {xs:List Value} (n:Nat) (e:R[j]? =some (Sh.row p xs):=by rfl):aK h0 T h W (R.set j (Sh.row p (xs.take n))):=
 S.view j e _ (fun h=>bT.take h n) fun i hi=>⟨fun hx=>hi.1 (by rw[hx];simp),hi.2⟩
theorem aK.tail {h0 h:ae} {T:Nat→Prop} {W R:List bi} (S:aK h0 T h W R) (j:Nat) {p:Option Addr} {xs:List Value} (c k s:Nat) (hc:xs.length≤c*s) (hk:k*s≤xs.length) (e:R[j]? =some (Sh.row p xs):=by rfl):
 aK h0 T h W (R.set j (Sh.row (if c=k then p else Option.map (fun a=>Addr.add a (k*s)) p) (xs.drop (k*s)))):=by
 refine S.view j e _ (fun h=> ?_) fun i hi=> ?_
 ·show bT _ (if c=k then p else Option.map (fun a=>Addr.add a (k*s)) p) (xs.drop (k*s))
  split
  ·rename_i hck;subst hck
   exact .inl (by rw[List.drop_eq_nil_iff];exact hc)
  ·exact bT.drop' h (k*s) hk
 ·obtain⟨hx,a,ha,rfl⟩:=hi
  refine⟨fun h=>hx (by rw[h];simp),?_⟩
  split at ha
  ·exact⟨a,ha,rfl⟩
  ·cases p with
   |none=>cases ha
   |some a'=>
    cases ha
    refine⟨a',rfl,?_⟩
    unfold Addr.add;split<;>rfl
theorem ud (xs:List Int) (n:Nat):(az xs).take n=az (xs.take n):=by simp[az,List.map_take]
theorem tw {h:ae} {a:Addr} {v:Value} {K:ae→Prop} (H:bu h a v K):bu h a v K:=H
theorem aU {k:IntKind} {h:ae} {a:Addr} {K:Int→Prop} (H:ah k h a K):ah k h a K:=H
theorem zl {h:ae} {a:Addr} {K:Bool→Prop} (H:qx h a K):qx h a K:=H
theorem xS {h:ae} {a:Addr} {K:ByteArray→Prop} (H:vw h a K):vw h a K:=H
theorem bZ {h:ae} {a:Addr} {K:Option Addr→Nat→Nat→Prop} (H:av h a K):av h a K:=H
theorem tx {h:ae} {a:Addr} {v:Option Value} {K:Prop} (H:aD h a=v∧K):aD h a=v∧K:=H
theorem bf {h:ae} {a:Addr} {v:Option Value} {K:Prop} (H:aD h a=v) (k:K):aD h a=v∧K:=⟨H,k⟩
def cA (l:List bi):bi:=
 {P:=fun h=> ∀f∈l,f.P h,foot:=fun b=> ∃f∈l,f.foot b,
  lt:=fun a ⟨f,hf,hb⟩=>f.lt (a f hf) hb,
  loc:=fun a hs hb f hf=>f.loc (a f hf) hs fun b h=>hb b ⟨f,hf,h⟩}
theorem aK.oneOf {h0 h:ae} {T:Nat→Prop} {W R:List bi} (S:aK h0 T h W R) (j:Nat) {l:List bi} {f:bi} (hf:f∈l) (e:R[j]? =some (cA l):=by rfl):aK h0 T h W (R.set j f):=
 S.view j e f (fun h=>h f hf) fun _ hb=>⟨f,hf,hb⟩
theorem aK.readF {h0 h:ae} {T:Nat→Prop} {W R:List bi} (S:aK h0 T h W R) (j:Nat) {l:List bi} {f:bi} (hf:f∈l) (e:R[j]? =some (cA l):=by rfl):f.P h:=S.r j _ e f hf
theorem ue {α:Type} (f:α→List Value) (c:Nat) (hc: ∀x,(f x).length=c): ∀(l:List α) (i j:Nat) (x:α),l[i]? =some x→j<c→(l.map f).flatten[i*c+j]? =(f x)[j]?
 |[],i,j,x,h,_=>by simp at h
 |y::r,0,j,x,h,hj=>by
  simp at h;subst h
  rw[List.map_cons,List.flatten_cons,List.getElem?_append_left (by rw[hc];omega)]
  simp
 |y::r,i+1,j,x,h,hj=>by
  rw[List.map_cons,List.flatten_cons,List.getElem?_append_right (by rw[hc,Nat.add_mul];omega),hc]
  have:=ue f c hc r i j x (by simpa using h) hj
  rw[←this]
  congr 1
  rw[Nat.add_mul];omega
theorem pL {α:Type} (f:α→List Value) (c:Nat) (hc: ∀x,(f x).length=c): ∀(l:List α),(l.map f).flatten.length=l.length*c
 |[]=>by simp
 |y::r=>by rw[List.map_cons,List.flatten_cons,List.length_append,hc,pL f c hc r,List.length_cons,Nat.add_mul];omega
end Go.Sh
