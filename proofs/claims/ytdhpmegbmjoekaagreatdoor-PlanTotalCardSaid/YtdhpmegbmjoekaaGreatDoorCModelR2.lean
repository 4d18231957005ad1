/- CModelR CModelR2, in one text. -/
import Derived.Test.YtdhpmegbmjoekaaGreatDoorCModelE
section
namespace Go.Proofs.YtdhpmegbmjoekaaGreatDoor.G
open Go Go.Sh
set_option linter.unusedVariables false
set_option linter.unusedSimpArgs false
abbrev ot (b:Nat) (s:List UInt8) (bad:Bool):bi:=blk b [.string (str s),.bool bad]
def EB (xs:List Int):List UInt8:=low (IntKind.wrap .u64 xs.length) 2++words xs
theorem iJ (xs:List Int):(EB xs).length=2+4*xs.length:=by simp[EB,bS,cn]
def GN (xs:List Int):Prop:=xs.length≤65535∧bo fz fD xs
instance (xs:List Int):Decidable (GN xs):=by unfold GN;infer_instance
theorem KM {xs:List Int} (h:GN xs):EB xs=rowB xs:=by unfold EB rowB;rw[if_neg (by have:=h.1;omega)]
def Nd.encR (n:Nd):List UInt8:=
 dg [n.kind,n.inn.length]++dg n.inn++dg [n.width,n.size,n.step,n.gap,n.left,n.right]++EB n.weights++EB n.bias++Sh.low (IntKind.wrap .u64 n.mult) 2++dg [n.shift]++words [n.low,n.high]++dg [n.post]
theorem Nd.encR_length (n:Nd):n.encR.length≤26+n.inn.length+4*n.weights.length+4*n.bias.length:=by
 simp only[Nd.encR,List.length_append,bI,bS,cn,iJ,List.length_cons,List.length_nil]
 omega
theorem Nd.encR_eq {n:Nd} (h:n.fit):n.encR=n.enc:=by
 unfold Nd.encR Nd.enc
 rw[KM h.2.2.2.1,KM h.2.2.2.2.1]
theorem yj: ∀(l:List Nd),(∀n∈l,n.short)→(l.flatMap Nd.encR).length≤l.length*2 ^ 24
 |[],_=>by simp
 |n::r,h=>by
  have h1:=yj r fun x hx=>h x (by simp[hx])
  have h2:=n.encR_length
  have h3:=h n (by simp)
  unfold Nd.short at h3
  simp only[List.flatMap_cons,List.length_append,List.length_cons,Nat.add_mul]
  omega
theorem Is: ∀(l:List Nd),(∀n∈l,n.fit)→l.flatMap Nd.encR=l.flatMap Nd.enc
 |[],_=>rfl
 |n::r,h=>by rw[List.flatMap_cons,List.flatMap_cons,Nd.encR_eq (h n (by simp)),Is r fun x hx=>h x (by simp[hx])]
theorem nb (b:Bool) (p:Prop) [Decidable p]:(b|| !decide p)=false↔b=false∧p:=by cases b<;>simp
theorem It {a b:Bool} (h:a=false↔b=false):a=b:=by cases a<;>cases b<;>simp_all
section
variable {h:ae} {T:Nat→Prop} {R:List bi} {b:Nat} {s:List UInt8} {bad:Bool}
theorem Po (x lo hi:Int):aq P qp #[.int .i64 x,.int .i64 lo,.int .i64 hi] h fun v h'=>v= .bool (decide (lo≤x∧x≤hi))∧h'=h:=by
 refine D8 _ _ _ ?_
 unfold G4
 refine au (fun h1=>⟨?_,rfl⟩) (fun h1=>⟨?_,rfl⟩)
 ·congr 1;rw[decide_eq_decide];omega
 ·rw[decide_eq_false (by omega)]
theorem GO (S:aK h T h [ot b s bad] R) (x:Int) (n:Nat) (hn:n<2 ^ 30) (lo hi:Int) (hl:s.length<2 ^ 60):
 aq P eG #[.pointer (some ⟨b,0,none⟩),.int .i64 x,.int .i64 n,.int .i64 lo,.int .i64 hi] h fun v h'=>v= .tuple #[]∧aK h T h' [ot b (s++low (IntKind.wrap .u64 x) n) (bad|| !decide (bo lo hi [x]))] R:=by
 refine vD _ _ _ _ _ ?_
 unfold uX
 have ef:decide (bo lo hi [x])=decide (lo≤x∧x≤hi):=by rw[decide_eq_decide];unfold bo;simp
 rw[ef]
 refine(Po x lo hi).mono ?_
 rintro _ _ ⟨rfl,rfl⟩
 refine⟨_,rfl,?_⟩
 refine tz (fun e=> ?_) (fun e=> ?_)
 ·(repeat (first|with_reducible refine bK ?_|((with_reducible refine xS ?_);refine uf (S.cell 0 rfl rfl) ?_)|((with_reducible refine tw ?_);refine aJ S 0 rfl (Nat.le_of_ble_eq_true rfl) (fun _ _ S=> ?_);try dsimp only[List.set,List.cons_append,List.nil_append] at S)))
  refine(EI (n:=n) (su x) hn).mono ?_
  rintro _ _ ⟨rfl,F⟩
  refine⟨_,rfl,?_⟩
  replace S:=S.fra0 F
  (repeat (first|((with_reducible refine tx ?_);refine bf (S.cell 0 rfl rfl) ?_)))
  refine kK (by rw[cE,cE,bS];omega) ?_
  rw[jF]
  (repeat (first|with_reducible refine bK ?_|((with_reducible refine tw ?_);refine aJ S 0 rfl (Nat.le_of_ble_eq_true rfl) (fun _ _ S=> ?_);try dsimp only[List.set,List.cons_append,List.nil_append] at S)))
  rw[e,Bool.or_true]
  exact⟨rfl,S⟩
 ·(repeat (first|with_reducible refine bK ?_|((with_reducible refine xS ?_);refine uf (S.cell 0 rfl rfl) ?_)))
  refine(EI (n:=n) (su x) hn).mono ?_
  rintro _ _ ⟨rfl,F⟩
  refine⟨_,rfl,?_⟩
  replace S:=S.fra0 F
  (repeat (first|((with_reducible refine tx ?_);refine bf (S.cell 0 rfl rfl) ?_)))
  refine kK (by rw[cE,cE,bS];omega) ?_
  rw[jF]
  (repeat (first|with_reducible refine bK ?_|((with_reducible refine tw ?_);refine aJ S 0 rfl (Nat.le_of_ble_eq_true rfl) (fun _ _ S=> ?_);try dsimp only[List.set,List.cons_append,List.nil_append] at S)))
  rw[e,Bool.or_false]
  exact⟨rfl,S⟩
theorem qS (S:aK h T h [ot b s bad] R) (x:Int) (hl:s.length<2 ^ 60):
 aq P cC #[.pointer (some ⟨b,0,none⟩),.int .i64 x] h fun v h'=>v= .tuple #[]∧aK h T h' [ot b (s++dg [x]) (bad|| !decide (bo 0 255 [x]))] R:=by
 refine vE _ _ ?_
 unfold uY
 refine(GO S x 1 (by decide) 0 255 hl).mono ?_
 rintro _ _ ⟨rfl,S⟩
 exact⟨rfl,rfl,by simpa[dg,Mq] using S⟩
theorem yk (S:aK h T h [ot b s bad] R) (x:Int) (hl:s.length<2 ^ 60):
 aq P dm #[.pointer (some ⟨b,0,none⟩),.int .i64 x] h fun v h'=>v= .tuple #[]∧aK h T h' [ot b (s++words [x]) (bad|| !decide (bo fz fD [x]))] R:=by
 refine uD _ _ ?_
 unfold sF
 refine(GO S x 4 (by decide) fz fD hl).mono ?_
 rintro _ _ ⟨rfl,S⟩
 exact⟨rfl,rfl,by simpa[words] using S⟩
theorem wA {lo hi:Int} {xs:List Int} {i:Nat} (hi':i<xs.length) (bd:Bool):((bd|| !decide (bo lo hi (xs.take i)))|| !decide (bo lo hi [xs[i]]))=(bd|| !decide (bo lo hi (xs.take (i+1)))):=by
 rw[QZ]
 congr 2
 rw[decide_eq_decide,iu hi']
 unfold bo;simp
theorem N0 (S:aK h T h [ot b s bad] R) (ix:Nat) {q:Option Addr} {k d:Nat} {xs:List Int} (ex:R[ix]? =some (row q (az xs))) (hk:xs.length=k) (hk2:k≤2 ^ 20) (hl:s.length<2 ^ 50):
 aq P gQ #[.pointer (some ⟨b,0,none⟩),.slice q k d] h fun v h'=>v= .tuple #[]∧aK h T h' [ot b (s++EB xs) (bad|| !decide (GN xs))] R:=by
 refine vG _ _ _ _ ?_
 unfold uZ
 refine(GO S (k:Int) 2 (by decide) 0 65535 (by omega)).mono ?_
 rintro _ _ ⟨rfl,S0⟩
 refine⟨rfl,?_⟩
 generalize hbd:(bad|| !decide (bo 0 65535 [(k:Int)]))=bd at S0
 refine aT (fun m s' g=> ∃(i:Nat),s'=(some ⟨b,0,none⟩,(q,k,d),(i:Int),())∧i≤k∧m=k-i∧aK h T g [ot b (s++(low (IntKind.wrap .u64 k) 2++words (xs.take i))) (bd|| !decide (bo fz fD (xs.take i)))] R) k
  ⟨0,rfl,by omega,rfl,by simpa[words,cD] using S0⟩ ?_
 clear S0
 rintro m s' g ⟨i,rfl,hi',rfl,S⟩
 unfold pl
 dsimp only
 refine au (fun hlt=> ?_) (fun hge=> ?_)
 ·have hix:i<xs.length:=by omega
  have hx:=S.row ix ex
  obtain⟨aa,rfl⟩:=hx.some_of (by rw[aB];omega)
  refine aG rfl rfl (by omega) ?_
  simp only[Int.toNat_natCast,Nat.mul_one]
  refine af (hx.cell (aN (List.getElem?_eq_getElem hix))) ?_
  have P0:=S.into [0] [] []
  refine(yk P0 xs[i] (by simp only[List.length_append,bS,cn,List.length_take];omega)).mono ?_
  rintro _ _ ⟨rfl,S1⟩
  refine⟨rfl,?_⟩
  replace S:=S.back [0] S1
  try dsimp only[bO,List.set,List.cons_append,List.nil_append] at S
  rw[al (by omega)]
  refine⟨k-(i+1),by omega,i+1,rfl,by omega,rfl,?_⟩
  have ew:s++(low (IntKind.wrap .u64 k) 2++words (xs.take i))++words [xs[i]]=s++(low (IntKind.wrap .u64 k) 2++words (xs.take (i+1))):=by
   rw[vB hix];simp[words,List.append_assoc]
  rw[ew,wA hix] at S
  exact S
 ·have:i=k:=by omega
  subst this
  rw[List.take_of_length_le (by omega)] at S
  refine⟨by trivial,?_⟩
  have e1:(bd|| !decide (bo fz fD xs))=(bad|| !decide (GN xs)):=by
   rw[←hbd,QZ]
   congr 2
   rw[decide_eq_decide]
   unfold GN
   have:bo 0 65535 [(i:Int)]↔xs.length≤65535:=by unfold bo;simp;omega
   rw[this]
  rw[e1] at S
  unfold EB
  rw[hk]
  exact S
theorem DS {xs:List Int} {i:Nat} (hi:i<xs.length):dg (xs.take (i+1))=dg (xs.take i)++dg [xs[i]]:=by
 rw[EJ hi];simp[dg]
theorem Pp (S:aK h T h [ot b s bad] R) (ir:Nat) {nv:Nv} (er:R[ir]? =some nv.rows) (hok:nv.ok) (hs:nv.nd.short) (hl:s.length<2 ^ 40):
 aq P iP #[.pointer (some ⟨b,0,none⟩),nv.v] h fun v h'=>v= .tuple #[]∧aK h T h' [ot b (s++nv.nd.encR) (bad|| !decide nv.nd.fit)] R:=by
 refine uE _ _ ?_
 unfold sG
 obtain⟨ok1,ok2,ok3⟩:=hok
 have hi20:nv.inn.xs.length≤2 ^ 20:=hs.1
 have hw20:nv.weights.xs.length≤2 ^ 20:=hs.2.1
 have hb20:nv.bias.xs.length≤2 ^ 20:=hs.2.2
 have el:=ok1.1
 have e0:Sh.pick R [ir]=[nv.rows]:=by simp only[Sh.pick,er]
 refine aC (cs:=nv.cells) S fun b1 h1 _ S=> ?_
 dsimp only[List.cons_append,List.nil_append] at S
 (repeat (first|((with_reducible refine aU ?_);refine af (S.cell 1 rfl rfl) ?_)))
 refine(qS (S.into [0] [] []) nv.kind (by omega)).mono ?_
 rintro _ _ ⟨rfl,S1⟩
 refine⟨rfl,?_⟩
 replace S:=S.back [0] S1
 try dsimp only[bO,List.set,List.cons_append,List.nil_append] at S
 (repeat (first|((with_reducible refine bZ ?_);refine am (S.cell 1 rfl rfl) ?_)))
 refine(qS (S.into [0] [] []) ((nv.inn.l:Nat):Int) (by rw[List.length_append,bI,List.length_cons,List.length_nil];omega)).mono ?_
 rintro _ _ ⟨rfl,S1⟩
 refine⟨rfl,?_⟩
 replace S:=S.back [0] S1
 try dsimp only[bO,List.set,List.cons_append,List.nil_append] at S
 generalize hbd:(bad|| !decide (bo 0 255 [nv.kind])|| !decide (bo 0 255 [((nv.inn.l:Nat):Int)]))=bd at S
 have hb0:bd=false↔bad=false∧bo 0 255 [nv.kind,((nv.inn.l:Nat):Int)]:=by
  rw[←hbd,nb,nb]
  simp only[bV,cD,and_true,and_assoc]
 clear hbd
 have ehd:s++dg [nv.kind]++dg [((nv.inn.l:Nat):Int)]=s++dg [nv.kind,((nv.inn.l:Nat):Int)]:=by simp[dg,List.append_assoc]
 rw[ehd] at S
 generalize hhd:s++dg [nv.kind,((nv.inn.l:Nat):Int)]=hd at S
 have hhl:hd.length=s.length+2:=by rw[←hhd,List.length_append,bI];rfl
 refine aT (fun m s' g=> ∃(i:Nat),s'=(some ⟨b,0,none⟩,⟨b1,0,none⟩,(i:Int),())∧i≤nv.inn.l∧m=nv.inn.l-i∧aK h T g [ot b (hd++dg (nv.inn.xs.take i)) (bd|| !decide (bo 0 255 (nv.inn.xs.take i))),blk b1 nv.cells] R) nv.inn.l
  ⟨0,rfl,by omega,rfl,by simpa[dg,cD] using S⟩ ?_
 clear S
 rintro m s' g ⟨i,rfl,hi',rfl,S⟩
 unfold nT
 dsimp only
 (repeat (first|((with_reducible refine bZ ?_);refine am (S.cell 1 rfl rfl) ?_)))
 dsimp only[Nv.t]
 refine au (fun hlt=> ?_) (fun hge=> ?_)
 ·have hix:i<nv.inn.xs.length:=by omega
  have hx:bT g nv.inn.p (az nv.inn.xs):=S.readF ir (l:=[nv.inn.row,nv.weights.row,nv.bias.row]) (f:=nv.inn.row) (by simp) er
  obtain⟨aa,ea⟩:=hx.some_of (by rw[aB];omega)
  (repeat (first|((with_reducible refine bZ ?_);refine am (S.cell 1 rfl rfl) ?_)))
  dsimp only[Nv.t]
  refine aG ea rfl (by omega) ?_
  simp only[Int.toNat_natCast,Nat.mul_one]
  rw[ea] at hx
  refine af (hx.cell (aN (List.getElem?_eq_getElem hix))) ?_
  refine(qS (S.into [0] [] []) nv.inn.xs[i] (by rw[List.length_append,bI,List.length_take];omega)).mono ?_
  rintro _ _ ⟨rfl,S1⟩
  refine⟨rfl,?_⟩
  replace S:=S.back [0] S1
  try dsimp only[bO,List.set,List.cons_append,List.nil_append] at S
  rw[al (by omega)]
  refine⟨nv.inn.l-(i+1),by omega,i+1,rfl,by omega,rfl,?_⟩
  rw[wA hix,List.append_assoc,←DS hix] at S
  exact S
 ·have hie:i=nv.inn.l:=by omega
  rw[hie,List.take_of_length_le (by omega)] at S
  generalize hbd2:(bd|| !decide (bo 0 255 nv.inn.xs))=bd2 at S
  have hb2:bd2=false↔(bad=false∧bo 0 255 [nv.kind,((nv.inn.l:Nat):Int)])∧bo 0 255 nv.inn.xs:=by rw[←hbd2,nb,hb0]
  clear hbd2 hb0
  (repeat (first|((with_reducible refine aU ?_);refine af (S.cell 1 rfl rfl) ?_)))
  refine aC S (fun b19 _ _ S=> ?_)
  dsimp only[List.cons_append,List.nil_append] at S
  refine cG S 2 rfl rfl (gO (l:=[nv.width,nv.size,nv.step,nv.gap,nv.left,nv.right])) fun h2 _ S=> ?_
  dsimp only[List.set] at S
  refine aT (fun m s' g=> ∃(i:Nat),s'=(some ⟨b,0,none⟩,⟨b1,0,none⟩,⟨b19,0,none⟩,(i:Int),())∧i≤6∧m=6-i∧aK h T g [ot b (hd++dg nv.inn.xs++dg ([nv.width,nv.size,nv.step,nv.gap,nv.left,nv.right].take i)) (bd2|| !decide (bo 0 255 ([nv.width,nv.size,nv.step,nv.gap,nv.left,nv.right].take i))),blk b1 nv.cells,
   blk b19 (az [nv.width,nv.size,nv.step,nv.gap,nv.left,nv.right])] R) 6
   ⟨0,rfl,by omega,rfl,by rw[List.take_zero,show dg []=[] from rfl,List.append_nil,decide_eq_true (cD 0 255),Bool.not_true,Bool.or_false];exact S⟩ ?_
  clear S
  rintro m s' g ⟨i,rfl,hi',rfl,S⟩
  unfold nS
  dsimp only
  refine au (fun hlt=> ?_) (fun hge=> ?_)
  ·have hix:i<[nv.width,nv.size,nv.step,nv.gap,nv.left,nv.right].length:=by simp only[List.length_cons,List.length_nil];omega
   refine ig (by omega) (by omega) ?_
   simp only[Int.toNat_natCast,Nat.mul_one]
   have hx:=bT.of_at (S.at 2 rfl)
   generalize hl6:[nv.width,nv.size,nv.step,nv.gap,nv.left,nv.right]=l6 at S hx hix
   refine af (hx.cell (aN (List.getElem?_eq_getElem hix))) ?_
   refine(qS (S.into [0] [] []) l6[i] (by simp only[List.length_append,bI,List.length_take];omega)).mono ?_
   rintro _ _ ⟨rfl,S1⟩
   refine⟨rfl,?_⟩
   replace S:=S.back [0] S1
   try dsimp only[bO,List.set,List.cons_append,List.nil_append] at S
   rw[al (by omega)]
   refine⟨6-(i+1),by omega,i+1,rfl,by omega,rfl,?_⟩
   rw[wA hix,List.append_assoc (hd++_),←DS hix] at S
   exact S
  ·have hie:i=6:=by omega
   have htk:[nv.width,nv.size,nv.step,nv.gap,nv.left,nv.right].take 6=[nv.width,nv.size,nv.step,nv.gap,nv.left,nv.right]:=rfl
   rw[hie,htk] at S
   replace S:=S.pw [0,1]
   dsimp only[Sh.pick,List.getElem?_cons_zero,List.getElem?_cons_succ] at S
   generalize hbd3:(bd2|| !decide (bo 0 255 [nv.width,nv.size,nv.step,nv.gap,nv.left,nv.right]))=bd3 at S
   have hb3:bd3=false↔bd2=false∧bo 0 255 [nv.width,nv.size,nv.step,nv.gap,nv.left,nv.right]:=by rw[←hbd3,nb]
   rw[hb2] at hb3
   clear hbd3 hb2
   generalize hh3:hd++dg nv.inn.xs++dg [nv.width,nv.size,nv.step,nv.gap,nv.left,nv.right]=hd3 at S
   have hl3:hd3.length≤2 ^ 40+2 ^ 21:=by rw[←hh3];simp only[List.length_append,bI,List.length_cons,List.length_nil];omega
   (repeat (first|((with_reducible refine bZ ?_);refine am (S.cell 1 rfl rfl) ?_)))
   have P0:=S.into [0] [] [ir]
   rw[e0] at P0
   have P1:=P0.oneOf 0 (l:=[nv.inn.row,nv.weights.row,nv.bias.row]) (f:=nv.weights.row) (by simp)
   dsimp only[Sh.pick,List.getElem?_cons_zero,List.getElem?_cons_succ,List.nil_append,List.set] at P1
   refine(N0 P1 0 rfl ok2.1 (by have:=ok2.1;omega) (by omega)).mono ?_
   rintro _ _ ⟨rfl,S1⟩
   refine⟨rfl,?_⟩
   replace S:=S.back [0] S1
   try dsimp only[bO,List.set,List.cons_append,List.nil_append] at S
   (repeat (first|((with_reducible refine bZ ?_);refine am (S.cell 1 rfl rfl) ?_)))
   have P0:=S.into [0] [] [ir]
   rw[e0] at P0
   have P1:=P0.oneOf 0 (l:=[nv.inn.row,nv.weights.row,nv.bias.row]) (f:=nv.bias.row) (by simp)
   dsimp only[Sh.pick,List.getElem?_cons_zero,List.getElem?_cons_succ,List.nil_append,List.set] at P1
   refine(N0 P1 0 rfl ok3.1 (by have:=ok3.1;omega) (by simp only[List.length_append,iJ];omega)).mono ?_
   rintro _ _ ⟨rfl,S1⟩
   refine⟨rfl,?_⟩
   replace S:=S.back [0] S1
   try dsimp only[bO,List.set,List.cons_append,List.nil_append] at S
   (repeat (first|((with_reducible refine aU ?_);refine af (S.cell 1 rfl rfl) ?_)))
   refine(GO (S.into [0] [] []) nv.mult 2 (by decide) 0 65535 (by simp only[List.length_append,iJ];omega)).mono ?_
   rintro _ _ ⟨rfl,S1⟩
   refine⟨rfl,?_⟩
   replace S:=S.back [0] S1
   try dsimp only[bO,List.set,List.cons_append,List.nil_append] at S
   (repeat (first|((with_reducible refine aU ?_);refine af (S.cell 1 rfl rfl) ?_)))
   refine(qS (S.into [0] [] []) nv.shift (by simp only[List.length_append,iJ,bS];omega)).mono ?_
   rintro _ _ ⟨rfl,S1⟩
   refine⟨rfl,?_⟩
   replace S:=S.back [0] S1
   try dsimp only[bO,List.set,List.cons_append,List.nil_append] at S
   (repeat (first|((with_reducible refine aU ?_);refine af (S.cell 1 rfl rfl) ?_)))
   refine(yk (S.into [0] [] []) nv.low (by simp only[List.length_append,iJ,bS,bI,List.length_cons,List.length_nil];omega)).mono ?_
   rintro _ _ ⟨rfl,S1⟩
   refine⟨rfl,?_⟩
   replace S:=S.back [0] S1
   try dsimp only[bO,List.set,List.cons_append,List.nil_append] at S
   (repeat (first|((with_reducible refine aU ?_);refine af (S.cell 1 rfl rfl) ?_)))
   refine(yk (S.into [0] [] []) nv.high (by simp only[List.length_append,iJ,bS,bI,cn,List.length_cons,List.length_nil];omega)).mono ?_
   rintro _ _ ⟨rfl,S1⟩
   refine⟨rfl,?_⟩
   replace S:=S.back [0] S1
   try dsimp only[bO,List.set,List.cons_append,List.nil_append] at S
   (repeat (first|((with_reducible refine aU ?_);refine af (S.cell 1 rfl rfl) ?_)))
   refine(qS (S.into [0] [] []) nv.post (by simp only[List.length_append,iJ,bS,bI,cn,List.length_cons,List.length_nil];omega)).mono ?_
   rintro _ _ ⟨rfl,S1⟩
   refine⟨rfl,?_⟩
   replace S:=S.back [0] S1
   try dsimp only[bO,List.set,List.cons_append,List.nil_append] at S
   refine⟨by trivial,?_⟩
   have e1:hd3++EB nv.weights.xs++EB nv.bias.xs++low (IntKind.wrap .u64 nv.mult) 2++dg [nv.shift]++words [nv.low]++words [nv.high]++dg [nv.post]=s++nv.nd.encR:=by
    rw[←hh3,←hhd,←el]
    simp only[Nd.encR,Nv.nd,List.append_assoc]
    simp[words,List.append_assoc]
   have e2:(bd3|| !decide (GN nv.weights.xs)|| !decide (GN nv.bias.xs)|| !decide (bo 0 65535 [nv.mult])|| !decide (bo 0 255 [nv.shift])|| !decide (bo fz fD [nv.low])|| !decide (bo fz fD [nv.high])|| !decide (bo 0 255 [nv.post]))=(bad|| !decide nv.nd.fit):=by
    apply It
    rw[nb,nb,nb,nb,nb,nb,nb,nb,hb3,←el]
    simp only[Nd.fit,Nv.nd,GN,bV,cD,and_true,and_assoc]
   rw[e1,e2] at S
   exact S.pw [0]
end
end Go.Proofs.YtdhpmegbmjoekaaGreatDoor.G
end
section
namespace Go.Proofs.YtdhpmegbmjoekaaGreatDoor.G
open Go Go.Sh
set_option linter.unusedVariables false
set_option linter.unusedSimpArgs false
theorem FL {h:ae} {g:Gv} (hp:bT h g.p (aF g.ns)) (hr:(aZ g.ns).P h) (hok:g.ok) (hs:g.gr.short):
 aq P iy #[g.v] h fun v h'=>v= .tuple #[.string (str g.gr.out2.1),.int .i64 g.gr.out2.2]∧cu no h h':=by
 refine wT _ ?_
 unfold wS
 have S:=((aK.start h no).read (row g.p (aF g.ns)) hp).read (aZ g.ns) hr
 dsimp only[List.cons_append,List.nil_append] at S
 obtain⟨gok1,gok2,gok3⟩:=hok
 have hn1000:g.l≤1000:=by have:=hs.1;simp[Gv.gr] at this;omega
 refine aC S (fun b1 _ _ S=> ?_)
 have em:(ByteArray.mk #[69,65,82,49])=str fi:=rfl
 rw[em]
 refine aC S (fun b3 _ _ S=> ?_)
 replace S:=S.pw [1,0]
 dsimp only[Sh.pick,List.getElem?_cons_zero,List.getElem?_cons_succ,List.cons_append,List.nil_append] at S
 have hml:fi.length=4:=rfl
 (repeat (first|((with_reducible refine aU ?_);refine af (S.cell 1 rfl rfl) ?_)))
 refine(qS (S.into [0] [] []) g.width (by omega)).mono ?_
 rintro _ _ ⟨rfl,S1⟩
 refine⟨rfl,?_⟩
 replace S:=S.back [0] S1
 try dsimp only[bO,List.set,List.cons_append,List.nil_append] at S
 (repeat (first|((with_reducible refine aU ?_);refine af (S.cell 1 rfl rfl) ?_)))
 refine(yk (S.into [0] [] []) g.low (by simp only[List.length_append,bI,List.length_cons,List.length_nil];omega)).mono ?_
 rintro _ _ ⟨rfl,S1⟩
 refine⟨rfl,?_⟩
 replace S:=S.back [0] S1
 try dsimp only[bO,List.set,List.cons_append,List.nil_append] at S
 (repeat (first|((with_reducible refine aU ?_);refine af (S.cell 1 rfl rfl) ?_)))
 refine(yk (S.into [0] [] []) g.high (by simp only[List.length_append,bI,cn,List.length_cons,List.length_nil];omega)).mono ?_
 rintro _ _ ⟨rfl,S1⟩
 refine⟨rfl,?_⟩
 replace S:=S.back [0] S1
 try dsimp only[bO,List.set,List.cons_append,List.nil_append] at S
 (repeat (first|((with_reducible refine bZ ?_);refine am (S.cell 1 rfl rfl) ?_)))
 refine(qS (S.into [0] [] []) ((g.l:Nat):Int) (by simp only[List.length_append,bI,cn,List.length_cons,List.length_nil];omega)).mono ?_
 rintro _ _ ⟨rfl,S1⟩
 refine⟨rfl,?_⟩
 replace S:=S.back [0] S1
 try dsimp only[bO,List.set,List.cons_append,List.nil_append] at S
 generalize hhd:(fi++dg [g.width]++words [g.low]++words [g.high]++dg [((g.l:Nat):Int)]:List UInt8)=hd at S
 have hhl:hd.length=14:=by rw[←hhd];simp only[List.length_append,bI,cn,List.length_cons,List.length_nil,hml]
 generalize hbd:(false|| !decide (bo 0 255 [g.width])|| !decide (bo fz fD [g.low])|| !decide (bo fz fD [g.high])|| !decide (bo 0 255 [((g.l:Nat):Int)]))=bd at S
 have hbd2:bd=false↔(bo 0 255 [g.width]∧bo fz fD [g.low,g.high]∧bo 0 255 [((g.l:Nat):Int)]):=by
  rw[←hbd,nb,nb,nb,nb];simp only[true_and,bV,cD,and_true,and_assoc]
 clear hbd
 refine aT (fun m s g'=> ∃(i:Nat) (bd:Bool),s=(⟨b1,0,none⟩,⟨b3,0,none⟩,(i:Int),())∧i≤g.l∧m=g.l-i∧
  (bd=false↔((bo 0 255 [g.width]∧bo fz fD [g.low,g.high]∧bo 0 255 [((g.l:Nat):Int)])∧ ∀n∈g.gr.nodes.take i,n.fit))∧
  aK h no g' [ot b3 (hd++(g.gr.nodes.take i).flatMap Nd.encR) bd,
   blk b1 [.int .i64 g.width,.int .i64 g.low,.int .i64 g.high,.slice g.p g.l g.c,.int .i64 g.out]] [row g.p (aF g.ns),aZ g.ns]) g.l
  ⟨0,bd,rfl,by omega,rfl,by rw[hbd2];simp,by rw[List.take_zero,List.flatMap_nil,List.append_nil];exact S⟩ ?_
 clear hbd2 S bd
 rintro m s g' ⟨i,bd,rfl,hi',rfl,hbd,S⟩
 unfold qZ
 dsimp only
 have henc:=yj (g.gr.nodes.take i) fun n hn=>hs.2 n (List.mem_of_mem_take hn)
 have hb8:(g.gr.nodes.take i).length*2 ^ 24≤1000*2 ^ 24:=Nat.mul_le_mul_right _ (by rw[List.length_take];omega)
 have hb9:(hd++(g.gr.nodes.take i).flatMap Nd.encR).length<2 ^ 36:=by rw[List.length_append];omega
 (repeat (first|((with_reducible refine bZ ?_);refine am (S.cell 1 rfl rfl) ?_)))
 refine au (fun hlt=> ?_) (fun hge=> ?_)
 ·have hix:i<g.ns.length:=by omega
  (repeat (first|((with_reducible refine bZ ?_);refine am (S.cell 1 rfl rfl) ?_)))
  have hx:=S.row 0 rfl
  obtain⟨aa,ea⟩:=hx.some_of (by rw[bY];omega)
  rw[ea] at hx
  refine aG ea rfl (by omega) ?_
  simp only[Int.toNat_natCast]
  refine kD hx (List.getElem?_eq_getElem hix) ?_
  have hmem:g.ns[i]∈g.ns:=List.getElem_mem hix
  have hnd:g.gr.nodes[i]? =some g.ns[i].nd:=by simp[Gv.gr,hix]
  generalize hnv:g.ns[i]=nv at hmem hnd
  have P1:=(S.into [0] [] [1]).oneOf 0 (f:=nv.rows) (List.mem_map.2 ⟨_,hmem,rfl⟩)
  refine(Pp P1 0 rfl (gok3 _ hmem) (hs.2 _ (List.mem_of_getElem? hnd)) (by omega)).mono ?_
  rintro _ _ ⟨rfl,S1⟩
  refine⟨rfl,?_⟩
  replace S:=S.back [0] S1
  try dsimp only[bO,List.set,List.cons_append,List.nil_append] at S
  rw[al (by omega)]
  have hin:i<g.gr.nodes.length:=by simp[Gv.gr];omega
  have hge:g.gr.nodes[i]=nv.nd:=by rw[List.getElem?_eq_getElem hin] at hnd;exact Option.some.inj hnd
  have e1:(g.gr.nodes.take (i+1)).flatMap Nd.encR=(g.gr.nodes.take i).flatMap Nd.encR++nv.nd.encR:=by
   rw[List.take_succ_eq_append_getElem hin,List.flatMap_append,hge];simp
  refine⟨g.l-(i+1),by omega,i+1,bd|| !decide nv.nd.fit,rfl,by omega,rfl,?_,?_⟩
  ·rw[Bool.or_eq_false_iff,hbd,Bool.not_eq_false',decide_eq_true_eq,List.take_succ_eq_append_getElem hin,hge,and_assoc]
   constructor
   ·rintro⟨h1,h2,h3⟩
    refine⟨h1,fun n hn=> ?_⟩
    rcases List.mem_append.1 hn with hn|hn
    ·exact h2 n hn
    ·simp only[List.mem_singleton] at hn;subst hn;exact h3
   ·rintro⟨h1,h2⟩;exact⟨h1,fun n hn=>h2 n (List.mem_append_left _ hn),h2 _ (List.mem_append_right _ (by simp))⟩
  ·rw[e1,←List.append_assoc]
   exact S
 ·have hie:i=g.l:=by omega
  subst hie
  have htk:g.gr.nodes.take g.l=g.gr.nodes:=List.take_of_length_le (by simp[Gv.gr];omega)
  rw[htk] at S hb9
  (repeat (first|((with_reducible refine aU ?_);refine af (S.cell 1 rfl rfl) ?_)))
  refine(qS (S.into [0] [] []) g.out (by omega)).mono ?_
  rintro _ _ ⟨rfl,S1⟩
  refine⟨rfl,?_⟩
  replace S:=S.back [0] S1
  try dsimp only[bO,List.set,List.cons_append,List.nil_append] at S
  (repeat (first|with_reducible refine bK ?_|((with_reducible refine zl ?_);refine tA (S.cell 0 rfl rfl) ?_)))
  have e1:(bd|| !decide (bo 0 255 [g.out]))= !decide g.gr.fit:=by
   apply It
   rw[Bool.or_eq_false_iff,hbd,htk,Bool.not_eq_false',decide_eq_true_eq,Bool.not_eq_false',decide_eq_true_eq,←gok1]
   simp only[Gr.fit,Gv.gr,List.length_map,and_assoc]
  rw[e1] at S ⊢
  by_cases hf:g.gr.fit
  ·have eo:g.gr.out2=(fi++g.gr.enc,0):=by unfold Gr.out2;rw[if_pos hf]
   rw[eo]
   refine bQ (by simp[hf]) ?_
   (repeat (first|with_reducible refine bK ?_|((with_reducible refine xS ?_);refine uf (S.cell 0 rfl rfl) ?_)))
   refine⟨?_,S.fra⟩
   have:fi++g.gr.enc=hd++g.gr.nodes.flatMap Nd.encR++dg [g.out]:=by
    rw[←hhd,←gok1,Is _ hf.2.2.2.1]
    simp only[Gr.enc,Gv.gr,List.length_map,List.append_assoc]
    simp[words,List.append_assoc]
   rw[this]
  ·have eo:g.gr.out2=([],22):=by unfold Gr.out2;rw[if_neg hf]
   rw[eo]
   exact cq (by simp[hf]) ⟨rfl,S.fra⟩
end Go.Proofs.YtdhpmegbmjoekaaGreatDoor.G
end
