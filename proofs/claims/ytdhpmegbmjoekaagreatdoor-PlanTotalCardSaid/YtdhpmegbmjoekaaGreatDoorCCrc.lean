/- Contracts: crc.Sum, plan.hash. -/
import Derived.Test.YtdhpmegbmjoekaaGreatDoorCModelE
namespace Go.Proofs.YtdhpmegbmjoekaaGreatDoor.G
open Go Go.Sh
set_option linter.unusedVariables false
set_option linter.unusedSimpArgs false
def Qh (r:Int):Int:=F6 .u32 (gz r 1) (IntKind.wrap .u32 (3988292384*cS .u32 r 1))
def GD:Nat→Int→Int
 |0,r=>r
 |n+1,r=>Qh (GD n r)
def Bk (r:Int) (b:UInt8):Int:=GD 8 (F6 .u32 r (IntKind.wrap .u32 (b.toNat:Int)))
def QX (s:List UInt8):Int:=F6 .u32 (IntKind.max .u32) (s.foldl Bk 4294967295)
section
variable {h:ae}
theorem LW {T:Nat→Prop} {R:List bi} {b:Nat} {n:Int} (S:aK h T h [blk b [.int .u32 n]] R) (x:UInt8):
 aq P oe #[.int .u8 (x.toNat:Int),.pointer (some ⟨b,0,none⟩)] h fun v h'=>v= .tuple #[]∧aK h T h' [blk b [.int .u32 (Bk n x)]] R:=by
 refine BK _ _ ?_
 unfold EP
 refine af (S.cell 0 rfl rfl) ?_
 refine aJ S 0 rfl (Nat.le_of_ble_eq_true rfl) fun _ _ S=> ?_
 dsimp only[List.set] at S
 refine aT (fun m s g=> ∃i:Nat,s=(⟨b,0,none⟩,(i:Int),())∧i≤8∧m=8-i∧aK h T g [blk b [.int .u32 (GD i (F6 .u32 n (IntKind.wrap .u32 (x.toNat:Int))))]] R) 8 ⟨0,rfl,by omega,rfl,S⟩ ?_
 clear S
 rintro m s g ⟨i,rfl,hi,rfl,S⟩
 unfold wO
 dsimp only
 refine au (fun hlt=> ?_) (fun hge=> ?_)
 ·refine af (S.cell 0 rfl rfl) (af (S.cell 0 rfl rfl) ?_)
  refine aJ S 0 rfl (Nat.le_of_ble_eq_true rfl) fun _ _ S=> ?_
  dsimp only[List.set] at S
  rw[al (n:=(i:Int)+1) (by omega)]
  exact⟨8-(i+1),by omega,i+1,rfl,by omega,rfl,S⟩
 ·have:i=8:=by omega
  subst this
  exact⟨rfl,S⟩
theorem Qi {b8:Nat} {s:List UInt8} (hb:At h b8 [.string (str s)]) (hs:s.length<2 ^ 60):aq P tV #[.slice (some ⟨b8,0,none⟩) 1 1] h fun v h'=>v= .int .u32 (QX s)∧cu no h h':=by
 refine FU _ _ _ ?_
 unfold J2
 have S:=(aK.start h no).read (blk b8 [.string (str s)]) hb
 refine aC S (fun b1 _ _ S=> ?_)
 dsimp only[List.nil_append,List.cons_append] at S
 refine aJ S 0 rfl (Nat.le_of_ble_eq_true rfl) fun g1 _ S=> ?_
 dsimp only[List.set] at S
 refine aT (fun m s' g=>(m=1∧s'=(⟨b1,0,none⟩,((),(⟨b1,0,none⟩,())),(some ⟨b8,0,none⟩,1,1),((1:Nat):Int),(0:Int),())∧aK h no g [blk b1 [.int .u32 4294967295]] [blk b8 [.string (str s)]])∨
  (m=0∧s'=(⟨b1,0,none⟩,((),(⟨b1,0,none⟩,())),(some ⟨b8,0,none⟩,1,1),((1:Nat):Int),(1:Int),())∧aK h no g [blk b1 [.int .u32 (s.foldl Bk 4294967295)]] [blk b8 [.string (str s)]])) 1 (.inl ⟨rfl,rfl,S⟩) ?_
 clear S
 rintro m s' g (⟨rfl,rfl,S⟩|⟨rfl,rfl,S⟩)
 ·unfold vC
  dsimp only
  refine cq (decide_eq_true (by show(0:Int)<((1:Nat):Int);decide)) (aG rfl (k:=0) rfl (Nat.le_refl _) ?_)
  refine uf (n:=str s) (S.cellR 0 rfl rfl) ?_
  rw[cE]
  refine aT (fun m s' g=> ∃i:Nat,s'=(⟨b1,0,none⟩,((),(⟨b1,0,none⟩,())),str s,(some ⟨b8,0,none⟩,1,1),((1:Nat):Int),(0:Int),(s.length:Int),(i:Int),())∧i≤s.length∧m=s.length-i∧aK h no g [blk b1 [.int .u32 ((s.take i).foldl Bk 4294967295)]] [blk b8 [.string (str s)]]) s.length ⟨0,rfl,by omega,rfl,S⟩ ?_
  clear S
  rintro m s' g ⟨i,rfl,hi,rfl,S⟩
  unfold BL
  dsimp only
  refine au (fun hlt=> ?_) (fun hge=> ?_)
  ·have hlt:i<s.length:=by omega
   refine MW rfl (k:=i) rfl (List.getElem?_eq_getElem hlt) ?_
   refine(LW (S.into [0] [] [0]) s[i]).mono ?_
   rintro _ g2 ⟨rfl,S1⟩
   refine⟨rfl,?_⟩
   replace S:=S.back [0] S1
   dsimp only[bO,List.set,List.cons_append,List.nil_append] at S
   rw[al (n:=(i:Int)+1) (by omega)]
   refine⟨s.length-(i+1),by omega,i+1,rfl,by omega,rfl,?_⟩
   rw[List.take_succ_eq_append_getElem hlt,List.foldl_append]
   exact S
  ·rw[List.take_of_length_le (by omega)] at S
   exact⟨0,by omega,.inr ⟨rfl,rfl,S⟩⟩
 ·unfold vC
  dsimp only
  exact bQ (decide_eq_false (by show ¬(1:Int)<((1:Nat):Int);decide)) (af (S.cell 0 rfl rfl) ⟨rfl,S.fra⟩)
def Gr.hash (g:Gr):Int:=QX g.out2.1
theorem Ig {g:Gr} (hs:g.short):g.out2.1.length<2 ^ 60:=by
 unfold Gr.out2
 split
 ·have h1:=nN g.nodes hs.2
  have h2:=hs.1
  have h3:g.nodes.length*2 ^ 24≤1000*2 ^ 24:=Nat.mul_le_mul_right _ h2
  simp only[fi,Gr.enc,List.length_append,bI,cn,List.length_cons,List.length_nil]
  omega
 ·decide
theorem KF {g:Gv} (hp:bT h g.p (aF g.ns)) (hr:(aZ g.ns).P h) (hok:g.ok) (hs:g.gr.short):aq P lr #[g.v] h fun v h'=>v= .int .u32 g.gr.hash∧cu no h h':=by
 refine BM _ ?_
 unfold EQ
 have S:=((aK.start h no).read (row g.p (aF g.ns)) hp).read (aZ g.ns) hr
 refine aC (cs:=g.cells) S (fun b1 _ _ S=> ?_)
 dsimp only[List.nil_append,List.cons_append] at S
 refine aQ S 0 rfl (x:=g.t) rfl ?_
 refine(NL (S.row 0 rfl) (S.r 1 _ rfl) hok hs).mono ?_
 rintro _ g1 ⟨rfl,F⟩
 replace S:=S.fra0 F
 refine⟨_,_,rfl,?_⟩
 refine aC S (fun b8 _ _ S=> ?_)
 dsimp only[List.nil_append,List.cons_append] at S
 refine(Qi (S.at 1 rfl) (Ig hs)).mono ?_
 rintro _ g2 ⟨rfl,F⟩
 exact⟨_,rfl,rfl,(S.fra0 F).fra⟩
end
end Go.Proofs.YtdhpmegbmjoekaaGreatDoor.G
