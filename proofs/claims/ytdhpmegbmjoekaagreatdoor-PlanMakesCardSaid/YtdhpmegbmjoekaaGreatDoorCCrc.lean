/- Contracts: crc.Sum, plan.hash. -/
import Derived.Test.YtdhpmegbmjoekaaGreatDoorCModelE
namespace Go.Proofs.YtdhpmegbmjoekaaGreatDoor.G
open Go Go.Sh
set_option linter.unusedVariables false
set_option linter.unusedSimpArgs false
def yO(r:Int):Int:=pb .u32 (fV r 1) (IntKind.wrap .u32 (3988292384*cF .u32 r 1))
def ql:Nat→Int→Int
 |0,r=>r
 |n+1,r=>yO (ql n r)
def nO(r:Int)(b:UInt8):Int:=ql 8 (pb .u32 r (IntKind.wrap .u32 (b.toNat:Int)))
def HX(s:List UInt8):Int:=pb .u32 (IntKind.max .u32) (s.foldl nO 4294967295)
section
variable {h:ah}
theorem MU{T:Nat→Prop}{R:List bc}{b:Nat}{n:Int}(S:aG h T h [aJ b [.int .u32 n]] R)(x:UInt8):
 au P tS #[.int .u8 (x.toNat:Int),.pointer (some ⟨b,0,none⟩)] h fun v a=>v= .tuple #[]∧aG h T a [aJ b [.int .u32 (nO n x)]] R:=by
 refine De _ _ ?_;refine ae (S.c 0) ?_;refine ck S 0 fun _ _ S=> ?_;refine aO (fun m s g=> ∃i:Nat,s=(⟨b,0,none⟩,(i:Int),())∧i≤8∧m=8-i∧aG h T g [aJ b [.int .u32 (ql i (pb .u32 n (IntKind.wrap .u32 (x.toNat:Int))))]] R) 8 ⟨0,rfl,by omega,rfl,S⟩ ?_;rintro m s g ⟨i,rfl,hi,rfl,S⟩;dsimp only;refine aq (fun e=> ?_) (fun d=> ?_)
 ·refine ae (S.c 0) (ae (S.c 0) ?_);refine ck S 0 fun _ _ S=> ?_;rw[al (n:=(i:Int)+1) (by omega)];exact⟨8-(i+1),by omega,i+1,rfl,by omega,rfl,S⟩
 ·have:i=8:=by omega
  subst this;exact⟨rfl,S⟩
theorem SR{b:Nat}{s:List UInt8}(l:At h b [.string (str s)])(r:s.length<2 ^ 60):au P zi #[.slice (some ⟨b,0,none⟩) 1 1] h fun v j=>v= .int .u32 (HX s)∧cd no h j:=by
 refine GX _ _ _ ?_;have S:=(aG.start h no).read (aJ b [.string (str s)]) l;refine aA S (fun a _ _ S=> ?_);refine ck S 0 fun p _ S=> ?_
 refine aO (fun m e g=>(m=1∧e=(⟨a,0,none⟩,((),(⟨a,0,none⟩,())),(some ⟨b,0,none⟩,1,1),((1:Nat):Int),(0:Int),())∧aG h no g [aJ a [.int .u32 4294967295]] [aJ b [.string (str s)]])∨
  (m=0∧e=(⟨a,0,none⟩,((),(⟨a,0,none⟩,())),(some ⟨b,0,none⟩,1,1),((1:Nat):Int),(1:Int),())∧aG h no g [aJ a [.int .u32 (s.foldl nO 4294967295)]] [aJ b [.string (str s)]])) 1 (.inl ⟨rfl,rfl,S⟩) ?_
 rintro m e g (⟨rfl,rfl,S⟩|⟨rfl,rfl,S⟩)
 ·unfold wX;refine cC (decide_eq_true (by show(0:Int)<((1:Nat):Int);decide)) (aC rfl (k:=0) rfl (VX _) ?_);refine oB (n:=str s) (S.cellR 0 rfl rfl) ?_;rw[cu];refine aO (fun m e g=> ∃i:Nat,e=(⟨a,0,none⟩,((),(⟨a,0,none⟩,())),str s,(some ⟨b,0,none⟩,1,1),((1:Nat):Int),(0:Int),(s.length:Int),(i:Int),())∧i≤s.length∧m=s.length-i∧aG h no g [aJ a [.int .u32 ((s.take i).foldl nO 4294967295)]] [aJ b [.string (str s)]]) s.length ⟨0,rfl,by omega,rfl,S⟩ ?_;rintro m e g ⟨i,rfl,hi,rfl,S⟩;dsimp only;refine aq (fun d=> ?_) (fun o=> ?_)
  ·have d:i<s.length:=by omega
   refine G9 rfl (k:=i) rfl (bo d) ?_;refine(MU (S.into [0] [] [0]) s[i]).mono ?_;rintro _ q ⟨rfl,f⟩;refine⟨rfl,?_⟩;replace S:=S.back [0] f;rw[al (n:=(i:Int)+1) (by omega)];refine⟨s.length-(i+1),by omega,i+1,rfl,by omega,rfl,?_⟩;rw[gD d,V7];exact S
  ·rw[py (by omega)]at S;exact⟨0,by omega,.inr ⟨rfl,rfl,S⟩⟩
 ·unfold wX;exact bG (decide_eq_false (by show ¬(1:Int)<((1:Nat):Int);decide)) (ae (S.c 0) ⟨rfl,S.fra⟩)
def Gr.hash(g:Gr):Int:=HX g.out2.1
theorem Am{g:Gr}(a:g.short):g.out2.1.length<2 ^ 60:=by
 unfold Gr.out2;split
 ·have b:=nQ g.nodes a.2;have c:=a.1;simp only[dV,Gr.enc,Tz,bO,cG,VS,V9];omega
 ·decide
theorem Q7{g:Gv}(d:bD h g.p (aD g.ns))(e:(aM g.ns).P h)(a:g.ok)(b:g.gr.short):au P tT #[g.v] h fun v c=>v= .int .u32 g.gr.hash∧cd no h c:=by
 refine Df _ ?_;have S:=((aG.start h no).read (row g.p (aD g.ns)) d).read (aM g.ns) e;refine aA (cs:=g.cells) S (fun f _ _ S=> ?_);refine aL S 0 rfl (x:=g.t) rfl ?_;refine(O0 (S.ro 0) (S.rd 1) a b).mono ?_;rintro _ j ⟨rfl,F⟩;replace S:=S.fra0 F;refine⟨_,_,rfl,?_⟩;refine aA S (fun i _ _ S=> ?_);refine(SR (S.ap 1) (Am b)).mono ?_;rintro _ k ⟨rfl,F⟩;exact⟨_,rfl,rfl,(S.fra0 F).fra⟩
