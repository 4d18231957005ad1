/- CTapeX3 CTapeX4, in one text. -/
import Derived.Test.YtdhpmegbmjoekaaGreatDoorCNode
section
namespace Go.Proofs.YtdhpmegbmjoekaaGreatDoor.G
open Go Go.Sh
set_option linter.unusedVariables false
abbrev rd (b:Nat) (a:Nat) (s:List UInt8) (e:Int):Fact:=blk b [.int .i64 a,.string (str s),.int .i64 e]
abbrev rf (b:Nat) (a:Nat) (s:List UInt8) (e:Int):Fact:=blk b [.string (str s),.int .i64 a,.int .i64 e]
structure St where
 at_:Nat
 err:Int
def rget (s:List UInt8) (t:St) (n:Nat):Int×St:=
 if t.err≠0 then(0,t) else if(s.length:Int)-t.at_<n then(0,⟨t.at_,11⟩) else(num ((s.drop t.at_).take n),⟨t.at_+n,0⟩)
def St.ok (s:List UInt8) (t:St):Prop:=t.at_≤s.length∧(t.err=0∨t.err=11)
theorem rget_ok {s:List UInt8} {t:St} (h:t.ok s) (n:Nat):(rget s t n).2.ok s:=by
 unfold rget
 split
 ·exact h
 ·split
  ·exact⟨h.1,.inr rfl⟩
  ·exact⟨by simp only;omega,.inl rfl⟩
theorem rget_range (s:List UInt8) (t:St) (n:Nat):0≤(rget s t n).1∧(rget s t n).1<256 ^ n:=by
 have hp:(0:Int)<256 ^ n:=Int.pow_pos (by decide)
 unfold rget
 split
 ·exact⟨by simp,hp⟩
 ·split
  ·exact⟨by simp,hp⟩
  ·exact num_range' _ n (by simp;omega)
section
variable {h:Heap} {T:Nat→Prop} {b:Nat} {s:List UInt8} {t:St}
theorem rLeft_ok (hc:At h b [.int .i64 t.at_,.string (str s),.int .i64 t.err]) (ht:t.ok s) (hs:s.length<2 ^ 62):
 callP P n_tape_Reader_Left #[.pointer (some ⟨b,0,none⟩)] h fun v h'=>v= .int .i64 ((s.length:Int)-t.at_)∧h'=h:=by
 have:=ht.1
 refine call_tape_Reader_Left _ ?_
 unfold tape_Reader_Left
 refine ifB_false rfl (nilI_some (nilI_some (ldStr_i (hc.cell rfl) ?_)))
 refine(told_ok (hc.cell rfl)).mono ?_
 rintro _ _ ⟨rfl,rfl⟩
 refine⟨_,rfl,hc.cell rfl,?_,rfl⟩
 rw[str_size,wrap64_in (by omega)]
theorem get_S (S:Sep h T h [rd b t.at_ s t.err] []) (ht:t.ok s) (hs:s.length<2 ^ 62) {n:Nat} (hn:n≤8):
 callP P n_tape_Reader_get #[.pointer (some ⟨b,0,none⟩),.int .i64 n] h fun v h'=>v= .int .u64 (rget s t n).1∧Sep h T h' [rd b (rget s t n).2.at_ s (rget s t n).2.err] []:=by
 refine call_tape_Reader_get _ _ ?_
 unfold tape_Reader_get
 refine⟨fun s' g=>s'=(some ⟨b,0,none⟩,(n:Int),())∧g=h∧t.err=0,?_,?_⟩
 ·rintro s' g ⟨rfl,rfl,he⟩
  unfold tape_Reader_get_j3
  dsimp only
  refine(rLeft_ok (S.at 0 rfl) ht hs).mono ?_
  rintro _ g ⟨rfl,rfl⟩
  refine⟨_,rfl,?_⟩
  have h1:=ht.1
  refine ifB_dec (fun hlt=> ?_) (fun hge=> ?_)
  ·have e:rget s t n=(0,⟨t.at_,11⟩):=by unfold rget;rw[if_neg (by simpa using he),if_pos hlt]
   rw[e]
   (repeat (first|with_reducible refine nilI_some ?_|((with_reducible refine stI_id ?_);refine stI_S S 0 rfl (Nat.le_of_ble_eq_true rfl) (fun _ _ S=> ?_);try dsimp only[List.set,List.cons_append,List.nil_append] at S)))
   exact⟨rfl,S⟩
  ·have e:rget s t n=(num ((s.drop t.at_).take n),⟨t.at_+n,0⟩):=by unfold rget;rw[if_neg (by simpa using he),if_neg hge]
   rw[e]
   generalize hd:s.drop t.at_=d
   have hdl:d.length=s.length-t.at_:=by rw[←hd,List.length_drop]
   refine LoopS_i (fun m s' g'=>g'=g∧ ∃i:Nat,s'=(some ⟨b,0,none⟩,(n:Int),num (d.take i),(n:Int),(i:Int),())∧i≤n∧m=n-i) n ⟨rfl,0,by simp[num],by omega,rfl⟩ ?_
   rintro m s' g' ⟨rfl,i,rfl,hi,rfl⟩
   unfold tape_Reader_get_l8
   dsimp only
   refine ifB_dec (fun hlt=> ?_) (fun hge=> ?_)
   ·(repeat (first|with_reducible refine nilI_some ?_|((with_reducible refine ldStr_id ?_);refine ldStr_i (S.cell 0 rfl rfl) ?_)))
    refine(told_ok (S.cell 0 rfl rfl)).mono ?_
    rintro _ _ ⟨rfl,rfl⟩
    refine⟨_,rfl,?_⟩
    (repeat (first|((with_reducible refine and_id ?_);refine and_i (S.cell 0 rfl rfl) ?_)))
    rw[wrap64_in (by omega),wrap64_in (by omega)]
    have hdi:i<d.length:=by omega
    have hb:s[t.at_+i]? =some d[i]:=by rw[←List.getElem?_drop,hd,List.getElem?_eq_getElem hdi]
    refine strI_i (k:=t.at_+i) rfl (by omega) hb ?_
    refine⟨by omega,n-(i+1),by omega,by trivial,i+1,?_,by omega,rfl⟩
    have hbr:d[i].toNat<256:=UInt8.toNat_lt _
    have hnum:=num_range' (d.take i) i (by simp;omega)
    have e1:min (8*(i:Int)).toNat 64=8*i:=by omega
    have hp:(2:Int) ^ (8*i)=256 ^ i:=by rw[Int.pow_mul];rfl
    have hpb:(256:Int) ^ (i+1)≤256 ^ 8:=by
     exact pow256_le (by omega)
    have hmul:(d[i].toNat:Int)*256 ^ i+num (d.take i)<256 ^ (i+1):=by
     rw[Int.pow_succ]
     have hle:(d[i].toNat:Int)*256 ^ i≤255*256 ^ i:=Int.mul_le_mul_of_nonneg_right (by omega) (Int.le_of_lt (Int.pow_pos (by decide)))
     omega
    have hmul0:0≤(d[i].toNat:Int)*256 ^ i:=Int.mul_nonneg (by omega) (Int.le_of_lt (Int.pow_pos (by decide)))
    have e2:shlI .u64 (IntKind.wrap .u64 (d[i].toNat:Int)) (8*i)=(d[i].toNat:Int)*2 ^ (8*i):=by
     unfold shlI
     rw[wrap_u64 (d[i].toNat:Int),Int.emod_eq_of_lt (by omega) (by omega),hp,wrap_u64,Int.emod_eq_of_lt hmul0 (by omega)]
    rw[e1,e2,orI_add (by rw[hp];exact hnum) (by omega) (by rw[hp];omega),hp,←num_take_succ (List.getElem?_eq_getElem hdi),wrap64_in (by omega)]
    rfl
   ·have hin:i=n:=by omega
    subst hin
    (repeat (first|with_reducible refine nilI_some ?_))
    refine(moved_S (x:=(t.at_:Int)) (i:Int) S rfl).mono ?_
    rintro _ _ ⟨rfl,S1⟩
    refine⟨rfl,rfl,?_⟩
    rw[wrap64_in (by omega)] at S1
    rw[he] at S1
    exact S1
 ·refine ifB_false rfl ?_
  (repeat (first|with_reducible refine nilI_some ?_|((with_reducible refine ldInt_id ?_);refine ldInt_i (S.cell 0 rfl rfl) ?_)))
  refine ifB_i (fun hne=> ?_) (fun he=>⟨rfl,rfl,by simpa using he⟩)
  have hne:t.err≠0:=by simpa using hne
  have e:rget s t n=(0,t):=by unfold rget;rw[if_pos hne]
  rw[e]
  exact⟨rfl,S⟩
end
end Go.Proofs.YtdhpmegbmjoekaaGreatDoor.G
end
section
namespace Go.Proofs.YtdhpmegbmjoekaaGreatDoor.G
open Go Go.Sh
set_option linter.unusedVariables false
def sgn (x:Int):Int:=IntKind.wrap .i32 x
theorem sgn_range (x:Int): -2147483648≤sgn x∧sgn x<2147483648:=by unfold sgn;rw[wrap_i32];omega
def rw(s:List UInt8):Nat→St→Option (List Int)×St
 |0,t=>(some [],t)
 |n+1,t=>if(rget s t 4).2.err≠0 then(none,(rget s t 4).2) else((rw s n (rget s t 4).2).1.map (sgn (rget s t 4).1:: ·),(rw s n (rget s t 4).2).2)
def rrow (s:List UInt8) (t:St):List Int×St:=((rw s (rget s t 2).1.toNat (rget s t 2).2).1.getD [],(rw s (rget s t 2).1.toNat (rget s t 2).2).2)
theorem rw_ok {s:List UInt8}: ∀(n:Nat) {t:St},t.ok s→(rw s n t).2.ok s
 |0,_,h=>h
 |n+1,t,h=>by
  simp only[rw]
  split
  ·exact rget_ok h 4
  ·exact rw_ok n (rget_ok h 4)
theorem rrow_ok {s:List UInt8} {t:St} (h:t.ok s):(rrow s t).2.ok s:=rw_ok _ (rget_ok h 2)
section
variable {h:Heap} {T:Nat→Prop} {b:Nat} {s:List UInt8} {t:St}
theorem Read_S (s:List UInt8):callP P n_tape_Read #[.string (str s)] h fun v h'=> ∃b,v= .pointer (some ⟨b,0,none⟩)∧Sep h no h' [rd b 0 s 0] []:=by
 refine call_tape_Read _ ?_
 unfold tape_Read
 have S:=Sep.start h no
 refine newI_S S (fun b1 _ _ S=> ?_)
 exact⟨b1,rfl,S⟩
theorem rErr_ok {x:Int} (hc:cellH h ⟨b,2,none⟩=some (.int .i64 x)):callP P n_tape_Reader_Err #[.pointer (some ⟨b,0,none⟩)] h fun v h'=>v= .int .i64 x∧h'=h:=by
 refine call_tape_Reader_Err _ ?_
 unfold tape_Reader_Err
 refine ifB_false rfl (nilI_some ?_)
 exact ldInt_i hc ⟨rfl,rfl⟩
theorem rByte_S (S:Sep h T h [rd b t.at_ s t.err] []) (ht:t.ok s) (hs:s.length<2 ^ 62):
 callP P n_tape_Reader_Byte #[.pointer (some ⟨b,0,none⟩)] h fun v h'=>v= .int .i64 (rget s t 1).1∧Sep h T h' [rd b (rget s t 1).2.at_ s (rget s t 1).2.err] []:=by
 refine call_tape_Reader_Byte _ ?_
 unfold tape_Reader_Byte
 refine(get_S (n:=1) S ht hs (by decide)).mono ?_
 rintro _ _ ⟨rfl,S⟩
 have:=rget_range s t 1
 exact⟨_,rfl,by rw[wrap64_in (by omega)],S⟩
theorem rShort_S (S:Sep h T h [rd b t.at_ s t.err] []) (ht:t.ok s) (hs:s.length<2 ^ 62):
 callP P n_tape_Reader_Short #[.pointer (some ⟨b,0,none⟩)] h fun v h'=>v= .int .i64 (rget s t 2).1∧Sep h T h' [rd b (rget s t 2).2.at_ s (rget s t 2).2.err] []:=by
 refine call_tape_Reader_Short _ ?_
 unfold tape_Reader_Short
 refine(get_S (n:=2) S ht hs (by decide)).mono ?_
 rintro _ _ ⟨rfl,S⟩
 have:=rget_range s t 2
 exact⟨_,rfl,by rw[wrap64_in (by omega)],S⟩
theorem rWord_S (S:Sep h T h [rd b t.at_ s t.err] []) (ht:t.ok s) (hs:s.length<2 ^ 62):
 callP P n_tape_Reader_Word #[.pointer (some ⟨b,0,none⟩)] h fun v h'=>v= .int .i64 (sgn (rget s t 4).1)∧Sep h T h' [rd b (rget s t 4).2.at_ s (rget s t 4).2.err] []:=by
 refine call_tape_Reader_Word _ ?_
 unfold tape_Reader_Word
 refine(get_S (n:=4) S ht hs (by decide)).mono ?_
 rintro _ _ ⟨rfl,S⟩
 have:=sgn_range (rget s t 4).1
 exact⟨_,rfl,by rw[wrap64_in (by unfold sgn at this;omega)];rfl,S⟩
theorem rRow_S (S:Sep h T h [rd b t.at_ s t.err] []) (ht:t.ok s) (hs:s.length<2 ^ 62):
 callP P n_tape_Reader_Row #[.pointer (some ⟨b,0,none⟩)] h fun v h'=> ∃p l c,v= .slice p l c∧l=(rrow s t).1.length∧Sep h T h' [rd b (rrow s t).2.at_ s (rrow s t).2.err,own 1 p l c (ints (rrow s t).1)] []:=by
 refine call_tape_Reader_Row _ ?_
 unfold tape_Reader_Row
 refine(rShort_S S ht hs).mono ?_
 rintro _ g ⟨rfl,S⟩
 refine⟨_,rfl,?_⟩
 have hr:=rget_range s t 2
 have ht1:=rget_ok ht 2
 have hdef:rrow s t=((rw s (rget s t 2).1.toNat (rget s t 2).2).1.getD [],(rw s (rget s t 2).1.toNat (rget s t 2).2).2):=rfl
 generalize (rget s t 2).2=t1 at *
 generalize hn:(rget s t 2).1.toNat=n at *
 rw[show(rget s t 2).1=(n:Int) by omega]
 replace S:=S.nil 1
 refine LoopS_i (fun m s' g'=> ∃(i:Nat) (p:Option Addr) (c:Nat) (acc:List Int) (ti:St),s'=(some ⟨b,0,none⟩,(p,i,c),(n:Int),(i:Int),())∧i≤n∧m=n-i∧acc.length=i∧ti.ok s∧
  rw s n t1=((rw s (n-i) ti).1.map (acc++ ·),(rw s (n-i) ti).2)∧Sep h T g' [rd b ti.at_ s ti.err,own 1 p i c (ints acc)] []) n
  ⟨0,none,0,[],t1,rfl,by omega,rfl,rfl,ht1,by simp,S⟩ ?_
 rintro m s' g' ⟨i,p,c,acc,ti,rfl,hi,rfl,ha,hti,hrw,S⟩
 unfold tape_Reader_Row_l3
 dsimp only
 refine ifB_dec (fun hlt=> ?_) (fun hge=> ?_)
 ·refine(rWord_S (t:=ti) (S.into [0] [] []) hti hs).mono ?_
  rintro _ g2 ⟨rfl,S1⟩
  refine⟨_,rfl,?_⟩
  replace S:=S.back [0] S1
  refine(rErr_ok (S.cell 0 rfl rfl)).mono ?_
  rintro _ _ ⟨rfl,rfl⟩
  refine⟨_,rfl,?_⟩
  obtain⟨k,hk⟩: ∃k,n-i=k+1:=⟨n-i-1,by omega⟩
  rw[hk] at hrw
  simp only[rw] at hrw
  refine ifB_i (fun hne=> ?_) (fun he=> ?_)
  ·have hne:(rget s ti 4).2.err≠0:=by simpa using hne
   rw[if_pos hne] at hrw
   rw[hdef,hrw]
   refine⟨none,0,0,rfl,rfl,?_⟩
   exact(S.nil 1).pick [0,2] []
  ·have he: ¬(rget s ti 4).2.err≠0:=by simpa using he
   rw[if_neg he] at hrw
   refine newI_S S (fun b8 _ _ S=> ?_)
   refine appI_S S 1 (ys:=ints [sgn (rget s ti 4).1]) rfl rfl (by decide) (by omega) (Row.of_at (S.at 2 rfl)) rfl (by simp[ints,one1]) fun p' l' c' h' hl' S=> ?_
   rw[wrap64_in (by omega)]
   subst hl'
   refine⟨n-(i+1),by omega,i+1,p',c',acc++[sgn (rget s ti 4).1],(rget s ti 4).2,rfl,by omega,rfl,by simp[ha],rget_ok hti 4,?_,?_⟩
   ·rw[show n-(i+1)=k by omega,hrw]
    simp[Function.comp_def]
   ·have e:ints acc++ints [sgn (rget s ti 4).1]=ints (acc++[sgn (rget s ti 4).1]):=by simp[ints]
    rw[e] at S
    exact S.pick [0,1] []
 ·have hin:i=n:=by omega
  subst hin
  rw[Nat.sub_self] at hrw
  simp only[rw] at hrw
  rw[hdef,hrw]
  refine⟨p,i,c,rfl,?_,?_⟩
  ·simp[ha]
  ·simp only[Option.map_some,Option.getD_some,List.append_nil];exact S
end
end Go.Proofs.YtdhpmegbmjoekaaGreatDoor.G
end
