/- Contracts: crc.Sum, plan.hash. -/
import Derived.Test.YtdhpmegbmjoekaaGreatDoorCModelE
namespace Go.Proofs.YtdhpmegbmjoekaaGreatDoor.G
open Go Go.Sh
set_option linter.unusedVariables false
set_option linter.unusedSimpArgs false
def Ss (r:Int):Int:=HO .u32 (fu r 1) (IntKind.wrap .u32 (3988292384*cn .u32 r 1))
def Ij:Nat→Int→Int
 |0,r=>r
 |n+1,r=>Ss (Ij n r)
def C4 (r:Int) (b:UInt8):Int:=Ij 8 (HO .u32 r (IntKind.wrap .u32 (b.toNat:Int)))
def Td (s:List UInt8):Int:=HO .u32 (IntKind.max .u32) (s.foldl C4 4294967295)
section
variable {h:af}
theorem ND {T:Nat→Prop} {R:List aY} {b:Nat} {n:Int} (S:aJ h T h [blk b [.int .u32 n]] R) (x:UInt8):
 au P uG #[.int .u8 (x.toNat:Int),.pointer (some ⟨b,0,none⟩)] h fun v a=>v= .tuple #[]∧aJ h T a [blk b [.int .u32 (C4 n x)]] R:=by
 refine Dl _ _ ?_;unfold Gk;refine ae (S.cell 0 rfl rfl) ?_;refine aE S 0 rfl (jb rfl) fun _ _ S=> ?_;dsimp only[List.set] at S;refine aP (fun m s g=> ∃i:Nat,s=(⟨b,0,none⟩,(i:Int),())∧i≤8∧m=8-i∧aJ h T g [blk b [.int .u32 (Ij i (HO .u32 n (IntKind.wrap .u32 (x.toNat:Int))))]] R) 8 ⟨0,rfl,by omega,rfl,S⟩ ?_;clear S;rintro m s g ⟨i,rfl,hi,rfl,S⟩;unfold yJ;dsimp only;refine am (fun d=> ?_) (fun c=> ?_)
 ·refine ae (S.cell 0 rfl rfl) (ae (S.cell 0 rfl rfl) ?_);refine aE S 0 rfl (jb rfl) fun _ _ S=> ?_;dsimp only[List.set] at S;rw[al (n:=(i:Int)+1) (by omega)];exact⟨8-(i+1),by omega,i+1,rfl,by omega,rfl,S⟩
 ·have:i=8:=by omega
  subst this;exact⟨rfl,S⟩
theorem Su {b:Nat} {s:List UInt8} (j:At h b [.string (str s)]) (q:s.length<2 ^ 60):au P AG #[.slice (some ⟨b,0,none⟩) 1 1] h fun v f=>v= .int .u32 (Td s)∧cp no h f:=by
 refine HJ _ _ _ ?_;unfold LY;have S:=(aJ.start h no).read (blk b [.string (str s)]) j;refine aA S (fun a _ _ S=> ?_);dsimp only[Xj,Xi] at S;refine aE S 0 rfl (jb rfl) fun o _ S=> ?_;dsimp only[List.set] at S
 refine aP (fun m d g=>(m=1∧d=(⟨a,0,none⟩,((),(⟨a,0,none⟩,())),(some ⟨b,0,none⟩,1,1),((1:Nat):Int),(0:Int),())∧aJ h no g [blk a [.int .u32 4294967295]] [blk b [.string (str s)]])∨
  (m=0∧d=(⟨a,0,none⟩,((),(⟨a,0,none⟩,())),(some ⟨b,0,none⟩,1,1),((1:Nat):Int),(1:Int),())∧aJ h no g [blk a [.int .u32 (s.foldl C4 4294967295)]] [blk b [.string (str s)]])) 1 (.inl ⟨rfl,rfl,S⟩) ?_
 clear S;rintro m d g (⟨rfl,rfl,S⟩|⟨rfl,rfl,S⟩)
 ·unfold xG;dsimp only;refine cI (decide_eq_true (by show(0:Int)<((1:Nat):Int);decide)) (aB rfl (k:=0) rfl (U3 _) ?_);refine oU (n:=str s) (S.cellR 0 rfl rfl) ?_;rw[da];refine aP (fun m d g=> ∃i:Nat,d=(⟨a,0,none⟩,((),(⟨a,0,none⟩,())),str s,(some ⟨b,0,none⟩,1,1),((1:Nat):Int),(0:Int),(s.length:Int),(i:Int),())∧i≤s.length∧m=s.length-i∧aJ h no g [blk a [.int .u32 ((s.take i).foldl C4 4294967295)]] [blk b [.string (str s)]]) s.length ⟨0,rfl,by omega,rfl,S⟩ ?_;clear S;rintro m d g ⟨i,rfl,hi,rfl,S⟩;unfold Dm;dsimp only;refine am (fun c=> ?_) (fun l=> ?_)
  ·have c:i<s.length:=by omega
   refine KV rfl (k:=i) rfl (aO c) ?_;refine(ND (S.into [0] [] [0]) s[i]).mono ?_;rintro _ p ⟨rfl,e⟩;refine⟨rfl,?_⟩;replace S:=S.back [0] e;dsimp only[bE,List.set,Xi,Xj] at S;rw[al (n:=(i:Int)+1) (by omega)];refine⟨s.length-(i+1),by omega,i+1,rfl,by omega,rfl,?_⟩;rw[py c,Vk];exact S
  ·rw[N6 (by omega)] at S;exact⟨0,by omega,.inr ⟨rfl,rfl,S⟩⟩
 ·unfold xG;dsimp only;exact bQ (decide_eq_false (by show ¬(1:Int)<((1:Nat):Int);decide)) (ae (S.cell 0 rfl rfl) ⟨rfl,S.fra⟩)
def Gr.hash (g:Gr):Int:=Td g.out2.1
theorem vx {g:Gr} (a:g.short):g.out2.1.length<2 ^ 60:=by
 unfold Gr.out2;split
 ·have c:=tR g.nodes a.2;have b:=a.1;have d:g.nodes.length*2 ^ 24≤1000*2 ^ 24:=Vn _ b;simp only[fO,Gr.enc,Rb,bU,cM,UY,Vf];omega
 ·decide
theorem Rh {g:Gv} (d:bI h g.p (aF g.ns)) (e:(aU g.ns).P h) (a:g.ok) (b:g.gr.short):au P uH #[g.v] h fun v c=>v= .int .u32 g.gr.hash∧cp no h c:=by
 refine Dn _ ?_;unfold Gl;have S:=((aJ.start h no).read (row g.p (aF g.ns)) d).read (aU g.ns) e;refine aA (cs:=g.cells) S (fun f _ _ S=> ?_);dsimp only[Xj,Xi] at S;refine aN S 0 rfl (x:=g.t) rfl ?_;refine(Pz (S.row 0 rfl) (S.r 1 _ rfl) a b).mono ?_;rintro _ j ⟨rfl,F⟩;replace S:=S.fra0 F;refine⟨_,_,rfl,?_⟩;refine aA S (fun i _ _ S=> ?_);dsimp only[Xj,Xi] at S;refine(Su (S.at 1 rfl) (vx b)).mono ?_;rintro _ k ⟨rfl,F⟩;exact⟨_,rfl,rfl,(S.fra0 F).fra⟩
end
end Go.Proofs.YtdhpmegbmjoekaaGreatDoor.G

