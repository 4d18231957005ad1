/- CTapeX3 CTapeX4, in one text. -/
import Derived.Test.YtdhpmegbmjoekaaGreatDoorCNode
section
namespace Go.Proofs.YtdhpmegbmjoekaaGreatDoor.G
open Go Go.Sh
set_option linter.unusedVariables false
abbrev rd (b:Nat) (a:Nat) (s:List UInt8) (e:Int):bi:=blk b [.int .i64 a,.string (str s),.int .i64 e]
abbrev rf (b:Nat) (a:Nat) (s:List UInt8) (e:Int):bi:=blk b [.string (str s),.int .i64 a,.int .i64 e]
structure St where
 at_:Nat
 err:Int
def bx (s:List UInt8) (t:St) (n:Nat):Int×St:=
 if t.err≠0 then(0,t) else if(s.length:Int)-t.at_<n then(0,⟨t.at_,11⟩) else(uQ ((s.drop t.at_).take n),⟨t.at_+n,0⟩)
def St.ok (s:List UInt8) (t:St):Prop:=t.at_≤s.length∧(t.err=0∨t.err=11)
theorem cJ {s:List UInt8} {t:St} (h:t.ok s) (n:Nat):(bx s t n).2.ok s:=by
 unfold bx
 split
 ·exact h
 ·split
  ·exact⟨h.1,.inr rfl⟩
  ·exact⟨by simp only;omega,.inl rfl⟩
theorem eM (s:List UInt8) (t:St) (n:Nat):0≤(bx s t n).1∧(bx s t n).1<256 ^ n:=by
 have hp:(0:Int)<256 ^ n:=Int.pow_pos (by decide)
 unfold bx
 split
 ·exact⟨by simp,hp⟩
 ·split
  ·exact⟨by simp,hp⟩
  ·exact C8 _ n (by simp;omega)
section
variable {h:ae} {T:Nat→Prop} {b:Nat} {s:List UInt8} {t:St}
theorem Il (hc:At h b [.int .i64 t.at_,.string (str s),.int .i64 t.err]) (ht:t.ok s) (hs:s.length<2 ^ 62):
 aq P fj #[.pointer (some ⟨b,0,none⟩)] h fun v h'=>v= .int .i64 ((s.length:Int)-t.at_)∧h'=h:=by
 have:=ht.1
 refine r7 _ ?_
 unfold pq
 refine bQ rfl (bK (bK (uf (hc.cell rfl) ?_)))
 refine(JZ (hc.cell rfl)).mono ?_
 rintro _ _ ⟨rfl,rfl⟩
 refine⟨_,rfl,hc.cell rfl,?_,rfl⟩
 rw[cE,al (by omega)]
theorem NV (S:aK h T h [rd b t.at_ s t.err] []) (ht:t.ok s) (hs:s.length<2 ^ 62) {n:Nat} (hn:n≤8):
 aq P dW #[.pointer (some ⟨b,0,none⟩),.int .i64 n] h fun v h'=>v= .int .u64 (bx s t n).1∧aK h T h' [rd b (bx s t n).2.at_ s (bx s t n).2.err] []:=by
 refine sZ _ _ ?_
 unfold rF
 refine⟨fun s' g=>s'=(some ⟨b,0,none⟩,(n:Int),())∧g=h∧t.err=0,?_,?_⟩
 ·rintro s' g ⟨rfl,rfl,he⟩
  unfold m6
  dsimp only
  refine(Il (S.at 0 rfl) ht hs).mono ?_
  rintro _ g ⟨rfl,rfl⟩
  refine⟨_,rfl,?_⟩
  have h1:=ht.1
  refine au (fun hlt=> ?_) (fun hge=> ?_)
  ·have e:bx s t n=(0,⟨t.at_,11⟩):=by unfold bx;rw[if_neg (by simpa using he),if_pos hlt]
   rw[e]
   (repeat (first|with_reducible refine bK ?_|((with_reducible refine tw ?_);refine aJ S 0 rfl (Nat.le_of_ble_eq_true rfl) (fun _ _ S=> ?_);try dsimp only[List.set,List.cons_append,List.nil_append] at S)))
   exact⟨rfl,S⟩
  ·have e:bx s t n=(uQ ((s.drop t.at_).take n),⟨t.at_+n,0⟩):=by unfold bx;rw[if_neg (by simpa using he),if_neg hge]
   rw[e]
   generalize hd:s.drop t.at_=d
   have hdl:d.length=s.length-t.at_:=by rw[←hd,List.length_drop]
   refine aT (fun m s' g'=>g'=g∧ ∃i:Nat,s'=(some ⟨b,0,none⟩,(n:Int),uQ (d.take i),(n:Int),(i:Int),())∧i≤n∧m=n-i) n ⟨rfl,0,by simp[uQ],by omega,rfl⟩ ?_
   rintro m s' g' ⟨rfl,i,rfl,hi,rfl⟩
   unfold m5
   dsimp only
   refine au (fun hlt=> ?_) (fun hge=> ?_)
   ·(repeat (first|with_reducible refine bK ?_|((with_reducible refine xS ?_);refine uf (S.cell 0 rfl rfl) ?_)))
    refine(JZ (S.cell 0 rfl rfl)).mono ?_
    rintro _ _ ⟨rfl,rfl⟩
    refine⟨_,rfl,?_⟩
    (repeat (first|((with_reducible refine tx ?_);refine bf (S.cell 0 rfl rfl) ?_)))
    rw[al (by omega),al (by omega)]
    have hdi:i<d.length:=by omega
    have hb:s[t.at_+i]? =some d[i]:=by rw[←List.getElem?_drop,hd,List.getElem?_eq_getElem hdi]
    refine MW (k:=t.at_+i) rfl (by omega) hb ?_
    refine⟨by omega,n-(i+1),by omega,by trivial,i+1,?_,by omega,rfl⟩
    have hbr:d[i].toNat<256:=UInt8.toNat_lt _
    have hnum:=C8 (d.take i) i (by simp;omega)
    have e1:min (8*(i:Int)).toNat 64=8*i:=by omega
    have hp:(2:Int) ^ (8*i)=256 ^ i:=by rw[Int.pow_mul];rfl
    have hpb:(256:Int) ^ (i+1)≤256 ^ 8:=by
     exact Ff (by omega)
    have hmul:(d[i].toNat:Int)*256 ^ i+uQ (d.take i)<256 ^ (i+1):=by
     rw[Int.pow_succ]
     have hle:(d[i].toNat:Int)*256 ^ i≤255*256 ^ i:=Int.mul_le_mul_of_nonneg_right (by omega) (Int.le_of_lt (Int.pow_pos (by decide)))
     omega
    have hmul0:0≤(d[i].toNat:Int)*256 ^ i:=Int.mul_nonneg (by omega) (Int.le_of_lt (Int.pow_pos (by decide)))
    have e2:Hd .u64 (IntKind.wrap .u64 (d[i].toNat:Int)) (8*i)=(d[i].toNat:Int)*2 ^ (8*i):=by
     unfold Hd
     rw[gU (d[i].toNat:Int),Int.emod_eq_of_lt (by omega) (by omega),hp,gU,Int.emod_eq_of_lt hmul0 (by omega)]
    rw[e1,e2,OC (by rw[hp];exact hnum) (by omega) (by rw[hp];omega),hp,←Ez (List.getElem?_eq_getElem hdi),al (by omega)]
    rfl
   ·have hin:i=n:=by omega
    subst hin
    (repeat (first|with_reducible refine bK ?_))
    refine(JY (x:=(t.at_:Int)) (i:Int) S rfl).mono ?_
    rintro _ _ ⟨rfl,S1⟩
    refine⟨rfl,rfl,?_⟩
    rw[al (by omega)] at S1
    rw[he] at S1
    exact S1
 ·refine bQ rfl ?_
  (repeat (first|with_reducible refine bK ?_|((with_reducible refine aU ?_);refine af (S.cell 0 rfl rfl) ?_)))
  refine tz (fun hne=> ?_) (fun he=>⟨rfl,rfl,by simpa using he⟩)
  have hne:t.err≠0:=by simpa using hne
  have e:bx s t n=(0,t):=by unfold bx;rw[if_pos hne]
  rw[e]
  exact⟨rfl,S⟩
end
end Go.Proofs.YtdhpmegbmjoekaaGreatDoor.G
end
section
namespace Go.Proofs.YtdhpmegbmjoekaaGreatDoor.G
open Go Go.Sh
set_option linter.unusedVariables false
def nF (x:Int):Int:=IntKind.wrap .i32 x
theorem FJ (x:Int): -2147483648≤nF x∧nF x<2147483648:=by unfold nF;rw[C5];omega
def rw(s:List UInt8):Nat→St→Option (List Int)×St
 |0,t=>(some [],t)
 |n+1,t=>if(bx s t 4).2.err≠0 then(none,(bx s t 4).2) else((rw s n (bx s t 4).2).1.map (nF (bx s t 4).1:: ·),(rw s n (bx s t 4).2).2)
def rrow (s:List UInt8) (t:St):List Int×St:=((rw s (bx s t 2).1.toNat (bx s t 2).2).1.getD [],(rw s (bx s t 2).1.toNat (bx s t 2).2).2)
theorem PE {s:List UInt8}: ∀(n:Nat) {t:St},t.ok s→(rw s n t).2.ok s
 |0,_,h=>h
 |n+1,t,h=>by
  simp only[rw]
  split
  ·exact cJ h 4
  ·exact PE n (cJ h 4)
theorem uA {s:List UInt8} {t:St} (h:t.ok s):(rrow s t).2.ok s:=PE _ (cJ h 2)
section
variable {h:ae} {T:Nat→Prop} {b:Nat} {s:List UInt8} {t:St}
theorem Qo (s:List UInt8):aq P nV #[.string (str s)] h fun v h'=> ∃b,v= .pointer (some ⟨b,0,none⟩)∧aK h no h' [rd b 0 s 0] []:=by
 refine Cn _ ?_
 unfold ET
 have S:=aK.start h no
 refine aC S (fun b1 _ _ S=> ?_)
 exact⟨b1,rfl,S⟩
theorem KL {x:Int} (hc:aD h ⟨b,2,none⟩=some (.int .i64 x)):aq P fG #[.pointer (some ⟨b,0,none⟩)] h fun v h'=>v= .int .i64 x∧h'=h:=by
 refine tc _ ?_
 unfold rG
 refine bQ rfl (bK ?_)
 exact af hc ⟨rfl,rfl⟩
theorem GK (S:aK h T h [rd b t.at_ s t.err] []) (ht:t.ok s) (hs:s.length<2 ^ 62):
 aq P dF #[.pointer (some ⟨b,0,none⟩)] h fun v h'=>v= .int .i64 (bx s t 1).1∧aK h T h' [rd b (bx s t 1).2.at_ s (bx s t 1).2.err] []:=by
 refine r9 _ ?_
 unfold pt
 refine(NV (n:=1) S ht hs (by decide)).mono ?_
 rintro _ _ ⟨rfl,S⟩
 have:=eM s t 1
 exact⟨_,rfl,by rw[al (by omega)],S⟩
theorem Im (S:aK h T h [rd b t.at_ s t.err] []) (ht:t.ok s) (hs:s.length<2 ^ 62):
 aq P eO #[.pointer (some ⟨b,0,none⟩)] h fun v h'=>v= .int .i64 (bx s t 2).1∧aK h T h' [rd b (bx s t 2).2.at_ s (bx s t 2).2.err] []:=by
 refine qs _ ?_
 unfold om
 refine(NV (n:=2) S ht hs (by decide)).mono ?_
 rintro _ _ ⟨rfl,S⟩
 have:=eM s t 2
 exact⟨_,rfl,by rw[al (by omega)],S⟩
theorem yh (S:aK h T h [rd b t.at_ s t.err] []) (ht:t.ok s) (hs:s.length<2 ^ 62):
 aq P cT #[.pointer (some ⟨b,0,none⟩)] h fun v h'=>v= .int .i64 (nF (bx s t 4).1)∧aK h T h' [rd b (bx s t 4).2.at_ s (bx s t 4).2.err] []:=by
 refine sb _ ?_
 unfold px
 refine(NV (n:=4) S ht hs (by decide)).mono ?_
 rintro _ _ ⟨rfl,S⟩
 have:=FJ (bx s t 4).1
 exact⟨_,rfl,by rw[al (by unfold nF at this;omega)];rfl,S⟩
theorem NW (S:aK h T h [rd b t.at_ s t.err] []) (ht:t.ok s) (hs:s.length<2 ^ 62):
 aq P fH #[.pointer (some ⟨b,0,none⟩)] h fun v h'=> ∃p l c,v= .slice p l c∧l=(rrow s t).1.length∧aK h T h' [rd b (rrow s t).2.at_ s (rrow s t).2.err,own 1 p l c (az (rrow s t).1)] []:=by
 refine td _ ?_
 unfold rH
 refine(Im S ht hs).mono ?_
 rintro _ g ⟨rfl,S⟩
 refine⟨_,rfl,?_⟩
 have hr:=eM s t 2
 have ht1:=cJ ht 2
 have hdef:rrow s t=((rw s (bx s t 2).1.toNat (bx s t 2).2).1.getD [],(rw s (bx s t 2).1.toNat (bx s t 2).2).2):=rfl
 generalize (bx s t 2).2=t1 at *
 generalize hn:(bx s t 2).1.toNat=n at *
 rw[show(bx s t 2).1=(n:Int) by omega]
 replace S:=S.nil 1
 refine aT (fun m s' g'=> ∃(i:Nat) (p:Option Addr) (c:Nat) (acc:List Int) (ti:St),s'=(some ⟨b,0,none⟩,(p,i,c),(n:Int),(i:Int),())∧i≤n∧m=n-i∧acc.length=i∧ti.ok s∧
  rw s n t1=((rw s (n-i) ti).1.map (acc++ ·),(rw s (n-i) ti).2)∧aK h T g' [rd b ti.at_ s ti.err,own 1 p i c (az acc)] []) n
  ⟨0,none,0,[],t1,rfl,by omega,rfl,rfl,ht1,by simp,S⟩ ?_
 rintro m s' g' ⟨i,p,c,acc,ti,rfl,hi,rfl,ha,hti,hrw,S⟩
 unfold m8
 dsimp only
 refine au (fun hlt=> ?_) (fun hge=> ?_)
 ·refine(yh (t:=ti) (S.into [0] [] []) hti hs).mono ?_
  rintro _ g2 ⟨rfl,S1⟩
  refine⟨_,rfl,?_⟩
  replace S:=S.back [0] S1
  refine(KL (S.cell 0 rfl rfl)).mono ?_
  rintro _ _ ⟨rfl,rfl⟩
  refine⟨_,rfl,?_⟩
  obtain⟨k,hk⟩: ∃k,n-i=k+1:=⟨n-i-1,by omega⟩
  rw[hk] at hrw
  simp only[rw] at hrw
  refine tz (fun hne=> ?_) (fun he=> ?_)
  ·have hne:(bx s ti 4).2.err≠0:=by simpa using hne
   rw[if_pos hne] at hrw
   rw[hdef,hrw]
   refine⟨none,0,0,rfl,rfl,?_⟩
   exact(S.nil 1).pick [0,2] []
  ·have he: ¬(bx s ti 4).2.err≠0:=by simpa using he
   rw[if_neg he] at hrw
   refine aC S (fun b8 _ _ S=> ?_)
   refine dI S 1 (ys:=az [nF (bx s ti 4).1]) rfl rfl (by decide) (by omega) (bT.of_at (S.at 2 rfl)) rfl (by simp[az,mC]) fun p' l' c' h' hl' S=> ?_
   rw[al (by omega)]
   subst hl'
   refine⟨n-(i+1),by omega,i+1,p',c',acc++[nF (bx s ti 4).1],(bx s ti 4).2,rfl,by omega,rfl,by simp[ha],cJ hti 4,?_,?_⟩
   ·rw[show n-(i+1)=k by omega,hrw]
    simp[Function.comp_def]
   ·have e:az acc++az [nF (bx s ti 4).1]=az (acc++[nF (bx s ti 4).1]):=by simp[az]
    rw[e] at S
    exact S.pick [0,1] []
 ·have hin:i=n:=by omega
  subst hin
  rw[Nat.sub_self] at hrw
  simp only[rw] at hrw
  rw[hdef,hrw]
  refine⟨p,i,c,rfl,?_,?_⟩
  ·simp[ha]
  ·simp only[Option.map_some,Option.getD_some,List.append_nil];exact S
end
theorem NX {p q:Option Addr} {l c l' c':Nat} {h:ae} {xs ys:List Int} (hx:bT h p (az xs)) (hxl:xs.length=l) (hy:bT h q (az ys)) (hyl:ys.length=l') (hb:l<2 ^ 62):
 aq P mr #[.slice p l c,.slice q l' c'] h fun v h'=>v= .bool (decide (xs=ys))∧h'=h:=by
 refine AK _ _ _ _ _ _ ?_
 unfold Cj
 refine tz (fun e=> ?_) (fun e=> ?_)
 ·have hne:l≠l':=by simp at e;omega
  exact⟨by rw[decide_eq_false];intro hh;subst hh;omega,rfl⟩
 ·have hle:l=l':=by simp at e;omega
  refine aT (fun m s h'=>h'=h∧ ∃i:Nat,s=((p,l,c),(q,l',c'),(i:Int),())∧i≤l∧m=l-i∧xs.take i=ys.take i) l ⟨rfl,0,rfl,by omega,by omega,rfl⟩ ?_
  rintro m s h' ⟨rfl,i,rfl,hi,rfl,ht⟩
  unfold vh
  dsimp only
  refine au (fun hlt=> ?_) (fun hge=> ?_)
  ·have hlt:i<l:=by omega
   obtain⟨a,rfl⟩:=hx.some_of (by rw[aB];omega)
   obtain⟨b,rfl⟩:=hy.some_of (by rw[aB];omega)
   refine aG rfl rfl hlt (aG rfl rfl (by omega) ?_)
   simp only[Int.toNat_natCast,Nat.mul_one]
   have hix:i<xs.length:=by omega
   have hiy:i<ys.length:=by omega
   refine af (hx.cell (aN (List.getElem?_eq_getElem hix))) (af (hy.cell (aN (List.getElem?_eq_getElem hiy))) ?_)
   refine tz (fun e=> ?_) (fun e=> ?_)
   ·refine⟨?_,by trivial⟩
    rw[decide_eq_false]
    intro hh
    subst hh
    simp at e
   ·rw[al (by omega)]
    refine⟨l-(i+1),by omega,by trivial,i+1,rfl,by omega,rfl,?_⟩
    rw[List.take_succ_eq_append_getElem hix,List.take_succ_eq_append_getElem hiy,ht]
    congr 2
    simpa using e
  ·refine⟨?_,by trivial⟩
   rw[decide_eq_true]
   rw[List.take_of_length_le (by omega),List.take_of_length_le (by omega)] at ht
   exact ht
end Go.Proofs.YtdhpmegbmjoekaaGreatDoor.G
end
