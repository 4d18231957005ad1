/- Contracts: crc.Sum, plan.hash. -/
import Derived.Test.YtdhpmegbmjoekaaGreatDoorCModelE
namespace Go.Proofs.YtdhpmegbmjoekaaGreatDoor.G
open Go Go.Sh
set_option linter.unusedVariables false
set_option linter.unusedSimpArgs false
def crcBit (r:Int):Int:=xorI .u32 (shrI r 1) (IntKind.wrap .u32 (3988292384*andI .u32 r 1))
def crcBits:Nat→Int→Int
 |0,r=>r
 |n+1,r=>crcBit (crcBits n r)
def crcByte (r:Int) (b:UInt8):Int:=crcBits 8 (xorI .u32 r (IntKind.wrap .u32 (b.toNat:Int)))
def crcS (s:List UInt8):Int:=xorI .u32 (IntKind.max .u32) (s.foldl crcByte 4294967295)
section
variable {h:Heap}
theorem crcNext_S {T:Nat→Prop} {R:List Fact} {b:Nat} {n:Int} (S:Sep h T h [blk b [.int .u32 n]] R) (x:UInt8):
 callP P n_crc_Sum_1 #[.int .u8 (x.toNat:Int),.pointer (some ⟨b,0,none⟩)] h fun v h'=>v= .tuple #[]∧Sep h T h' [blk b [.int .u32 (crcByte n x)]] R:=by
 refine call_crc_Sum_1 _ _ ?_
 unfold crc_Sum_1
 refine ldInt_i (S.cell 0 rfl rfl) ?_
 refine stI_S S 0 rfl (Nat.le_of_ble_eq_true rfl) fun _ _ S=> ?_
 dsimp only[List.set] at S
 refine LoopS_i (fun m s g=> ∃i:Nat,s=(⟨b,0,none⟩,(i:Int),())∧i≤8∧m=8-i∧Sep h T g [blk b [.int .u32 (crcBits i (xorI .u32 n (IntKind.wrap .u32 (x.toNat:Int))))]] R) 8 ⟨0,rfl,by omega,rfl,S⟩ ?_
 clear S
 rintro m s g ⟨i,rfl,hi,rfl,S⟩
 unfold crc_Sum_1_l2
 dsimp only
 refine ifB_dec (fun hlt=> ?_) (fun hge=> ?_)
 ·refine ldInt_i (S.cell 0 rfl rfl) (ldInt_i (S.cell 0 rfl rfl) ?_)
  refine stI_S S 0 rfl (Nat.le_of_ble_eq_true rfl) fun _ _ S=> ?_
  dsimp only[List.set] at S
  rw[wrap64_in (n:=(i:Int)+1) (by omega)]
  exact⟨8-(i+1),by omega,i+1,rfl,by omega,rfl,S⟩
 ·have:i=8:=by omega
  subst this
  exact⟨rfl,S⟩
theorem Sum_ok {b8:Nat} {s:List UInt8} (hb:At h b8 [.string (str s)]) (hs:s.length<2 ^ 60):callP P n_crc_Sum #[.slice (some ⟨b8,0,none⟩) 1 1] h fun v h'=>v= .int .u32 (crcS s)∧Fra no h h':=by
 refine call_crc_Sum _ _ _ ?_
 unfold crc_Sum
 have S:=(Sep.start h no).read (blk b8 [.string (str s)]) hb
 refine newI_S S (fun b1 _ _ S=> ?_)
 dsimp only[List.nil_append,List.cons_append] at S
 refine stI_S S 0 rfl (Nat.le_of_ble_eq_true rfl) fun g1 _ S=> ?_
 dsimp only[List.set] at S
 refine LoopS_i (fun m s' g=>(m=1∧s'=(⟨b1,0,none⟩,((),(⟨b1,0,none⟩,())),(some ⟨b8,0,none⟩,1,1),((1:Nat):Int),(0:Int),())∧Sep h no g [blk b1 [.int .u32 4294967295]] [blk b8 [.string (str s)]])∨
  (m=0∧s'=(⟨b1,0,none⟩,((),(⟨b1,0,none⟩,())),(some ⟨b8,0,none⟩,1,1),((1:Nat):Int),(1:Int),())∧Sep h no g [blk b1 [.int .u32 (s.foldl crcByte 4294967295)]] [blk b8 [.string (str s)]])) 1 (.inl ⟨rfl,rfl,S⟩) ?_
 clear S
 rintro m s' g (⟨rfl,rfl,S⟩|⟨rfl,rfl,S⟩)
 ·unfold crc_Sum_l4
  dsimp only
  refine ifB_true (decide_eq_true (by show(0:Int)<((1:Nat):Int);decide)) (idxI_i rfl (k:=0) rfl (Nat.le_refl _) ?_)
  refine ldStr_i (n:=str s) (S.cellR 0 rfl rfl) ?_
  rw[str_size]
  refine LoopS_i (fun m s' g=> ∃i:Nat,s'=(⟨b1,0,none⟩,((),(⟨b1,0,none⟩,())),str s,(some ⟨b8,0,none⟩,1,1),((1:Nat):Int),(0:Int),(s.length:Int),(i:Int),())∧i≤s.length∧m=s.length-i∧Sep h no g [blk b1 [.int .u32 ((s.take i).foldl crcByte 4294967295)]] [blk b8 [.string (str s)]]) s.length ⟨0,rfl,by omega,rfl,S⟩ ?_
  clear S
  rintro m s' g ⟨i,rfl,hi,rfl,S⟩
  unfold crc_Sum_l7
  dsimp only
  refine ifB_dec (fun hlt=> ?_) (fun hge=> ?_)
  ·have hlt:i<s.length:=by omega
   refine strI_i rfl (k:=i) rfl (List.getElem?_eq_getElem hlt) ?_
   refine(crcNext_S (S.into [0] [] [0]) s[i]).mono ?_
   rintro _ g2 ⟨rfl,S1⟩
   refine⟨rfl,?_⟩
   replace S:=S.back [0] S1
   dsimp only[merge,List.set,List.cons_append,List.nil_append] at S
   rw[wrap64_in (n:=(i:Int)+1) (by omega)]
   refine⟨s.length-(i+1),by omega,i+1,rfl,by omega,rfl,?_⟩
   rw[List.take_succ_eq_append_getElem hlt,List.foldl_append]
   exact S
  ·rw[List.take_of_length_le (by omega)] at S
   exact⟨0,by omega,.inr ⟨rfl,rfl,S⟩⟩
 ·unfold crc_Sum_l4
  dsimp only
  exact ifB_false (decide_eq_false (by show ¬(1:Int)<((1:Nat):Int);decide)) (ldInt_i (S.cell 0 rfl rfl) ⟨rfl,S.fra⟩)
def Gr.hash (g:Gr):Int:=crcS g.out2.1
theorem out2_length {g:Gr} (hs:g.short):g.out2.1.length<2 ^ 60:=by
 unfold Gr.out2
 split
 ·have h1:=encs_length g.nodes hs.2
  have h2:=hs.1
  have h3:g.nodes.length*2 ^ 24≤1000*2 ^ 24:=Nat.mul_le_mul_right _ h2
  simp only[magic,Gr.enc,List.length_append,bytS_length,words_length,List.length_cons,List.length_nil]
  omega
 ·decide
theorem hash_ok {g:Gv} (hp:Row h g.p (nflat g.ns)) (hr:(nrows g.ns).P h) (hok:g.ok) (hs:g.gr.short):callP P n_plan_hash #[g.v] h fun v h'=>v= .int .u32 g.gr.hash∧Fra no h h':=by
 refine call_plan_hash _ ?_
 unfold plan_hash
 have S:=((Sep.start h no).read (row g.p (nflat g.ns)) hp).read (nrows g.ns) hr
 refine newI_S (cs:=g.cells) S (fun b1 _ _ S=> ?_)
 dsimp only[List.nil_append,List.cons_append] at S
 refine ldAg_S S 0 rfl (x:=g.t) rfl ?_
 refine(Encode_S (S.row 0 rfl) (S.r 1 _ rfl) hok hs).mono ?_
 rintro _ g1 ⟨rfl,F⟩
 replace S:=S.fra0 F
 refine⟨_,_,rfl,?_⟩
 refine newI_S S (fun b8 _ _ S=> ?_)
 dsimp only[List.nil_append,List.cons_append] at S
 refine(Sum_ok (S.at 1 rfl) (out2_length hs)).mono ?_
 rintro _ g2 ⟨rfl,F⟩
 exact⟨_,rfl,rfl,(S.fra0 F).fra⟩
end
end Go.Proofs.YtdhpmegbmjoekaaGreatDoor.G
