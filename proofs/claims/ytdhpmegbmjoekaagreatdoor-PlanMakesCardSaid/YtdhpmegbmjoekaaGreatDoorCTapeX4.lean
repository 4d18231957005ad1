/- CTapeX3 CTapeX4, in one text. -/
import Derived.Test.YtdhpmegbmjoekaaGreatDoorCNode
set_option linter.unusedSimpArgs false
set_option linter.unusedVariables false
namespace Go.Proofs.YtdhpmegbmjoekaaGreatDoor.G
open Go Go.Sh
section
abbrev rd(b:Nat)(a:Nat)(s:List UInt8)(e:Int):bc:=aJ b [.int .i64 a,.string (str s),.int .i64 e]
abbrev rf(b:Nat)(a:Nat)(s:List UInt8)(e:Int):bc:=aJ b [.string (str s),.int .i64 a,.int .i64 e]
structure St where
 at_:Nat
 err:Int
def rget(s:List UInt8)(t:St)(n:Nat):Int×St:=
 if t.err≠0 then(0,t) else if(s.length:Int)-t.at_<n then(0,⟨t.at_,11⟩) else(sw ((s.drop t.at_).take n),⟨t.at_+n,0⟩)
def St.ok(s:List UInt8)(t:St):Prop:=t.at_≤s.length∧(t.err=0∨t.err=11)
theorem bZ{s:List UInt8}{t:St}(h:t.ok s)(n:Nat):(rget s t n).2.ok s:=by
 unfold rget;split
 ·exact h
 ·split
  ·exact⟨h.1,.inr rfl⟩
  ·exact⟨by simp only;omega,.inl rfl⟩
theorem cT(s:List UInt8)(t:St)(n:Nat):0≤(rget s t n).1∧(rget s t n).1<256 ^ n:=by
 have a:(0:Int)<256 ^ n:=XV (by decide);unfold rget;split
 ·exact⟨by simp,a⟩
 ·split
  ·exact⟨by simp,a⟩
  ·exact xe _ n (by simp;omega)
section
variable {h:ah} {T:Nat→Prop} {b:Nat} {s:List UInt8} {t:St}
theorem JN(a:At h b [.int .i64 t.at_,.string (str s),.int .i64 t.err])(d:t.ok s)(e:s.length<2 ^ 62):
 au P gL #[.pointer (some ⟨b,0,none⟩)] h fun v c=>v= .int .i64 ((s.length:Int)-t.at_)∧c=h:=by
 have:=d.1;refine sI _ ?_;refine bG rfl (bx (bx (oB (a.cell rfl) ?_)));refine(L4 (a.cell rfl)).mono ?_;rintro _ _ ⟨rfl,rfl⟩;refine⟨_,rfl,a.cell rfl,?_,rfl⟩;rw[cu,al (by omega)]
theorem JO(a:At h b [.string (str s),.int .i64 t.at_,.int .i64 t.err])(d:t.ok s)(e:s.length<2 ^ 62):
 au P gw #[.pointer (some ⟨b,0,none⟩)] h fun v c=>v= .int .i64 ((s.length:Int)-t.at_)∧c=h:=by
 have:=d.1;refine qp _ ?_;refine bx (bx (oB (a.cell rfl) (ae (a.cell rfl) ⟨?_,rfl⟩)));rw[cu,al (by omega)]
theorem QN(S:aG h T h [rd b t.at_ s t.err] [])(L:t.ok s)(K:s.length<2 ^ 62){n:Nat}(M:n≤8):
 au P fO #[.pointer (some ⟨b,0,none⟩),.int .i64 n] h fun v E=>v= .int .u64 (rget s t n).1∧aG h T E [rd b (rget s t n).2.at_ s (rget s t n).2.err] []:=by
 refine ua _ _ ?_;refine⟨fun r g=>r=(some ⟨b,0,none⟩,(n:Int),())∧g=h∧t.err=0,?_,?_⟩
 ·rintro r g ⟨rfl,rfl,l⟩;unfold mQ;dsimp only;refine(JN (S.ap 0) L K).mono ?_;rintro _ g ⟨rfl,rfl⟩;refine⟨_,rfl,?_⟩;refine aq (fun p=> ?_) (fun o=> ?_)
  ·have e:rget s t n=(0,⟨t.at_,11⟩):=by unfold rget;rw[if_neg (by simpa using l),if_pos p]
   rw[e]
   (repeat (first|with_reducible refine bx ?_|((with_reducible refine m7 ?_);refine be S 0 rfl (OU rfl) (fun _ _ S=> ?_);try dsimp only[List.set,Yg,Yh]at S)));exact⟨rfl,S⟩
  ·have e:rget s t n=(sw ((s.drop t.at_).take n),⟨t.at_+n,0⟩):=by unfold rget;rw[if_neg (by simpa using l),if_neg o]
   rw[e];generalize A:s.drop t.at_=d;have H:d.length=s.length-t.at_:=by rw[←A,Wh]
   refine aO (fun m r z=>z=g∧ ∃i:Nat,r=(some ⟨b,0,none⟩,(n:Int),sw (d.take i),(n:Int),(i:Int),())∧i≤n∧m=n-i) n ⟨rfl,0,by simp[sw],by omega,rfl⟩ ?_;rintro m r z ⟨rfl,i,rfl,hi,rfl⟩;dsimp only;refine aq (fun p=> ?_) (fun o=> ?_)
   ·(repeat (first|with_reducible refine bx ?_|((with_reducible refine uy ?_);refine oB (S.c 0) ?_)));refine(L4 (S.c 0)).mono ?_;rintro _ _ ⟨rfl,rfl⟩;refine⟨_,rfl,?_⟩
    (repeat (first|((with_reducible refine uz ?_);refine aX (S.c 0) ?_)));rw[al (by omega),al (by omega)];have j:i<d.length:=by omega
    have F:s[t.at_+i]? =some d[i]:=by rw[←Wz,A,bo j]
    refine G9 (k:=t.at_+i) rfl (by omega) F ?_;refine⟨by omega,n-(i+1),by omega,by trivial,i+1,?_,by omega,rfl⟩;have G:d[i].toNat<256:=UInt8.toNat_lt _;have q:=xe (d.take i) i (by simp;omega);have C:min (8*(i:Int)).toNat 64=8*i:=by omega
    have u:(2:Int) ^ (8*i)=256 ^ i:=by rw[Int.pow_mul];rfl
    have J:(256:Int) ^ (i+1)≤256 ^ 8:=by
     exact zO (by omega)
    have B:(d[i].toNat:Int)*256 ^ i+sw (d.take i)<256 ^ (i+1):=by
     rw[Xt];have I:(d[i].toNat:Int)*256 ^ i≤255*256 ^ i:=Xq (by omega) (Int.le_of_lt (XV (by decide)));omega
    have a:0≤(d[i].toNat:Int)*256 ^ i:=WA (by omega) (Int.le_of_lt (XV (by decide)));have D:zC .u64 (IntKind.wrap .u64 (d[i].toNat:Int)) (8*i)=(d[i].toNat:Int)*2 ^ (8*i):=by
     unfold zC;rw[fl (d[i].toNat:Int),W4 (by omega) (by omega),u,fl,W4 a (by omega)]
    rw[C,D,Rs (by rw[u];exact q) (by omega) (by rw[u];omega),u,←Fh (bo j),al (by omega)];rfl
   ·have y:i=n:=by omega
    subst y
    (repeat (first|with_reducible refine bx ?_));refine(L3 (x:=(t.at_:Int)) (i:Int) S rfl).mono ?_;rintro _ _ ⟨rfl,w⟩;refine⟨rfl,rfl,?_⟩;rw[al (by omega)]at w;rw[l]at w;exact w
 ·refine bG rfl ?_
  (repeat (first|with_reducible refine bx ?_|((with_reducible refine aV ?_);refine ae (S.c 0) ?_)));refine oz (fun f=> ?_) (fun l=>⟨rfl,rfl,by simpa using l⟩);have f:t.err≠0:=by simpa using f
  have e:rget s t n=(0,t):=by unfold rget;rw[if_pos f]
  rw[e];exact⟨rfl,S⟩
theorem sD(S:aG h T h [rf b t.at_ s t.err] [])(A:t.ok s)(G:s.length<2 ^ 62){n:Nat}(I:n≤8):
 au P bV #[.pointer (some ⟨b,0,none⟩),.int .i64 n] h fun v E=>v= .int .u64 (rget s t n).1∧aG h T E [rf b (rget s t n).2.at_ s (rget s t n).2.err] []:=by
 refine sF _ _ ?_;refine⟨fun l g=>l=(some ⟨b,0,none⟩,(n:Int),())∧g=h∧t.err=0∧ ¬(s.length:Int)-t.at_<n,?_,?_⟩
 ·rintro l g ⟨rfl,p,d,f⟩;subst p;dsimp only;have e:rget s t n=(sw ((s.drop t.at_).take n),⟨t.at_+n,0⟩):=by unfold rget;rw[if_neg (by simpa using d),if_neg f]
  rw[e];refine aO (fun m l u=>u=g∧ ∃j:Nat,l=(some ⟨b,0,none⟩,(n:Int),sw ((s.drop (t.at_+n-j)).take j),(n:Int)-1-j,())∧j≤n∧m=n-j) n ⟨rfl,0,by rw[al (by omega)];simp[sw],by omega,rfl⟩ ?_;rintro m l u ⟨rfl,j,rfl,H,rfl⟩;dsimp only;refine aq (fun i=> ?_) (fun w=> ?_)
  ·(repeat (first|with_reducible refine bx ?_|((with_reducible refine aV ?_);refine ae (S.c 0) ?_)|((with_reducible refine uy ?_);refine oB (S.c 0) ?_)));rw[al (by omega),al (by omega)];have y:t.at_+n-(j+1)<s.length:=by omega
   refine G9 (k:=t.at_+n-(j+1)) rfl (by omega) (bo y) ?_;refine⟨n-(j+1),by omega,by trivial,j+1,?_,by omega,rfl⟩;have F:s[t.at_+n-(j+1)].toNat<256:=UInt8.toNat_lt _;have z:=xe ((s.drop (t.at_+n-j)).take j) j (by simp;omega);have r:(256:Int) ^ (j+1)≤256 ^ 8:=by
    exact zO (by omega)
   rw[Xt]at r;have B:(s.drop (t.at_+n-(j+1))).take (j+1)=s[t.at_+n-(j+1)]::(s.drop (t.at_+n-j)).take j:=by
    rw[V6 y,List.take_succ_cons,show t.at_+n-(j+1)+1=t.at_+n-j by omega]
   rw[B];simp only[sw];generalize sw ((s.drop (t.at_+n-j)).take j)=x at *;rw[fl (x*256),W4 (by omega) (by omega),fl (s[t.at_+n-(j+1)].toNat:Int),W4 (by omega) (by omega),fl,W4 (by omega) (by omega)];have C:x*256+(s[t.at_+n-(j+1)].toNat:Int)=s[t.at_+n-(j+1)].toNat+256*x:=by omega
   have D:(n:Int)-1-j-1=(n:Int)-1-((j+1:Nat):Int):=by omega
   rw[C,D]
  ·have q:j=n:=by omega
   subst q
   (repeat (first|with_reducible refine bx ?_|((with_reducible refine aV ?_);refine ae (S.c 0) ?_)|((with_reducible refine m7 ?_);refine be S 0 rfl (OU rfl) (fun _ _ S=> ?_);try dsimp only[List.set,Yg,Yh]at S)));rw[al (by omega),d]at S;rw[show t.at_+j-j=t.at_ by omega];exact⟨rfl,S⟩
 ·(repeat (first|with_reducible refine bx ?_|((with_reducible refine aV ?_);refine ae (S.c 0) ?_)));refine oz (fun a=> ?_) (fun d=> ?_)
  ·have a:t.err≠0:=by simpa using a
   have o:t.err=11:=by exact A.2.resolve_left a
   have e:rget s t n=(0,t):=by unfold rget;rw[if_pos a]
   rw[e,o]
   (repeat (first|with_reducible refine bx ?_|((with_reducible refine m7 ?_);refine be S 0 rfl (OU rfl) (fun _ _ S=> ?_);try dsimp only[List.set,Yg,Yh]at S)));exact⟨rfl,S⟩
  ·have d:t.err=0:=by simpa using d
   refine(JO (S.ap 0) A G).mono ?_;rintro _ _ ⟨rfl,rfl⟩;refine⟨_,rfl,?_⟩;refine aq (fun i=> ?_) (fun f=>⟨rfl,rfl,d,f⟩);have e:rget s t n=(0,⟨t.at_,11⟩):=by unfold rget;rw[if_neg (by simpa using d),if_pos i]
   rw[e]
   (repeat (first|with_reducible refine bx ?_|((with_reducible refine m7 ?_);refine be S 0 rfl (OU rfl) (fun _ _ S=> ?_);try dsimp only[List.set,Yg,Yh]at S)));exact⟨rfl,S⟩
end
end
section
def iR(x:Int):Int:=IntKind.wrap .i32 x
theorem Gt(x:Int): -2147483648≤iR x∧iR x<2147483648:=by unfold iR;rw[ux];omega
def rw(s:List UInt8):Nat→St→Option (List Int)×St
 |0,t=>(some [],t)
 |n+1,t=>if(rget s t 4).2.err≠0 then(none,(rget s t 4).2) else((rw s n (rget s t 4).2).1.map (iR (rget s t 4).1:: ·),(rw s n (rget s t 4).2).2)
def rrow(s:List UInt8)(t:St):List Int×St:=((rw s (rget s t 2).1.toNat (rget s t 2).2).1.getD [],(rw s (rget s t 2).1.toNat (rget s t 2).2).2)
theorem SO{s:List UInt8}: ∀(n:Nat){t:St},t.ok s→(rw s n t).2.ok s
 |0,_,h=>h
 |n+1,t,h=>by
  simp only[rw];split
  ·exact bZ h 4
  ·exact SO n (bZ h 4)
theorem oH{s:List UInt8}{t:St}(h:t.ok s):(rrow s t).2.ok s:=SO _ (bZ h 2)
section
variable {h:ah} {T:Nat→Prop} {b:Nat} {s:List UInt8} {t:St}
theorem TK(s:List UInt8):au P tJ #[.string (str s)] h fun v c=> ∃b,v= .pointer (some ⟨b,0,none⟩)∧aG h no c [rd b 0 s 0] []:=by
 refine CT _ ?_;have S:=aG.start h no;refine aA S (fun a _ _ S=> ?_);exact⟨a,rfl,S⟩
theorem Ss(s:List UInt8):au P qE #[.string (str s)] h fun v c=> ∃b,v= .pointer (some ⟨b,0,none⟩)∧aG h no c [rf b 0 s 0] []:=by
 refine Bg _ ?_;have S:=aG.start h no;refine aA S (fun a _ _ S=> ?_);exact⟨a,rfl,S⟩
theorem MN{x:Int}(c:aB h ⟨b,2,none⟩=some (.int .i64 x)):au P ig #[.pointer (some ⟨b,0,none⟩)] h fun v a=>v= .int .i64 x∧a=h:=by
 refine ub _ ?_;refine bG rfl (bx ?_);exact ae c ⟨rfl,rfl⟩
theorem HM(S:aG h T h [rd b t.at_ s t.err] [])(d:t.ok s)(c:s.length<2 ^ 62):
 au P fg #[.pointer (some ⟨b,0,none⟩)] h fun v a=>v= .int .i64 (rget s t 1).1∧aG h T a [rd b (rget s t 1).2.at_ s (rget s t 1).2.err] []:=by
 refine sK _ ?_;unfold pB;refine(QN (n:=1) S d c (by decide)).mono ?_;rintro _ _ ⟨rfl,S⟩;have:=cT s t 1;exact⟨_,rfl,by rw[al (by omega)],S⟩
theorem JP(S:aG h T h [rd b t.at_ s t.err] [])(d:t.ok s)(c:s.length<2 ^ 62):
 au P gu #[.pointer (some ⟨b,0,none⟩)] h fun v a=>v= .int .i64 (rget s t 2).1∧aG h T a [rd b (rget s t 2).2.at_ s (rget s t 2).2.err] []:=by
 refine qS _ ?_;unfold ob;refine(QN (n:=2) S d c (by decide)).mono ?_;rintro _ _ ⟨rfl,S⟩;have:=cT s t 2;exact⟨_,rfl,by rw[al (by omega)],S⟩
theorem yH(S:aG h T h [rd b t.at_ s t.err] [])(d:t.ok s)(c:s.length<2 ^ 62):
 au P dl #[.pointer (some ⟨b,0,none⟩)] h fun v a=>v= .int .i64 (iR (rget s t 4).1)∧aG h T a [rd b (rget s t 4).2.at_ s (rget s t 4).2.err] []:=by
 refine sM _ ?_;unfold pD;refine(QN (n:=4) S d c (by decide)).mono ?_;rintro _ _ ⟨rfl,S⟩;have:=Gt (rget s t 4).1;exact⟨_,rfl,by rw[al (by unfold iR at this;omega)];rfl,S⟩
theorem yI(S:aG h T h [rf b t.at_ s t.err] [])(f:t.ok s)(e:s.length<2 ^ 62):
 au P df #[.pointer (some ⟨b,0,none⟩)] h fun v a=>v= .int .i64 (iR (rget s t 4).1)∧aG h T a [rf b (rget s t 4).2.at_ s (rget s t 4).2.err] []:=by
 refine qq _ ?_;unfold nT;refine(sD (n:=4) S f e (by decide)).mono ?_;rintro _ _ ⟨rfl,S⟩;refine⟨_,rfl,?_⟩;have g:=cT s t 4;dsimp only;rw[al (by omega)];refine aq (fun c=>⟨?_,S⟩) (fun d=>⟨?_,S⟩)
 ·rw[al (by omega)];unfold iR;rw[ux];congr 1;omega
 ·unfold iR;rw[ux];congr 1;omega
theorem QO(S:aG h T h [rd b t.at_ s t.err] [])(C:t.ok s)(B:s.length<2 ^ 62):
 au P ij #[.pointer (some ⟨b,0,none⟩)] h fun v z=> ∃p l c,v= .slice p l c∧l=(rrow s t).1.length∧aG h T z [rd b (rrow s t).2.at_ s (rrow s t).2.err,own 1 p l c (az (rrow s t).1)] []:=by
 refine uc _ ?_;unfold sj;refine(JP S C B).mono ?_;rintro _ g ⟨rfl,S⟩;refine⟨_,rfl,?_⟩;have N:=cT s t 2;have x:=bZ C 2;have j:rrow s t=((rw s (rget s t 2).1.toNat (rget s t 2).2).1.getD [],(rw s (rget s t 2).1.toNat (rget s t 2).2).2):=rfl;generalize (rget s t 2).2=t1 at *;generalize M:(rget s t 2).1.toNat=n at *;rw[show(rget s t 2).1=(n:Int) by omega];replace S:=S.nil 1
 refine aO (fun m D y=> ∃(i:Nat)(p:Option Addr)(c:Nat)(d:List Int)(f:St),D=(some ⟨b,0,none⟩,(p,i,c),(n:Int),(i:Int),())∧i≤n∧m=n-i∧d.length=i∧f.ok s∧
  rw s n t1=((rw s (n-i) f).1.map (d++ ·),(rw s (n-i) f).2)∧aG h T y [rd b f.at_ s f.err,own 1 p i c (az d)] []) n
  ⟨0,none,0,[],t1,rfl,by omega,rfl,rfl,x,by simp,S⟩ ?_
 rintro m D y ⟨i,p,c,d,f,rfl,hi,rfl,A,q,a,S⟩;dsimp only;refine aq (fun I=> ?_) (fun G=> ?_)
 ·refine(yH (t:=f) (S.into [0] [] []) q B).mono ?_;rintro _ L ⟨rfl,E⟩;refine⟨_,rfl,?_⟩;replace S:=S.back [0] E;refine(MN (S.c 0)).mono ?_;rintro _ _ ⟨rfl,rfl⟩;refine⟨_,rfl,?_⟩;obtain⟨k,H⟩: ∃k,n-i=k+1:=⟨n-i-1,by omega⟩;rw[H]at a;simp only[rw]at a;refine oz (fun o=> ?_) (fun r=> ?_)
  ·have o:(rget s f 4).2.err≠0:=by simpa using o
   rw[if_pos o]at a;rw[j,a];refine⟨none,0,0,rfl,rfl,?_⟩;exact(S.nil 1).pick [0,2] []
  ·have r: ¬(rget s f 4).2.err≠0:=by simpa using r
   rw[if_neg r]at a;refine aA S (fun K _ _ S=> ?_);refine cI S 1 (ys:=az [iR (rget s f 4).1]) rfl rfl (by decide) (by omega) (bD.of_at (S.ap 2)) rfl (by simp[az,ib]) fun J O F z w S=> ?_;rw[al (by omega)];subst w;refine⟨n-(i+1),by omega,i+1,J,F,d++[iR (rget s f 4).1],(rget s f 4).2,rfl,by omega,rfl,by simp[A],bZ q 4,?_,?_⟩
   ·rw[show n-(i+1)=k by omega,a];simp[Function.comp_def]
   ·have e:az d++az [iR (rget s f 4).1]=az (d++[iR (rget s f 4).1]):=by simp[az]
    rw[e]at S;exact S.pick [0,1] []
 ·have u:i=n:=by omega
  subst u;rw[WD]at a;simp only[rw]at a;rw[j,a];refine⟨p,i,c,rfl,?_,?_⟩
  ·simp[A]
  ·simp only[Option.map_some,XI,Wd];exact S
theorem QP(S:aG h T h [rf b t.at_ s t.err] [])(H:t.ok s)(G:s.length<2 ^ 62):
 au P gR #[.pointer (some ⟨b,0,none⟩)] h fun v F=> ∃p l c,v= .slice p l c∧l=(rrow s t).1.length∧aG h T F [rf b (rrow s t).2.at_ s (rrow s t).2.err,own 1 p l c (az (rrow s t).1)] []:=by
 refine sG _ ?_;unfold pu;refine(sD (n:=2) S H G (by decide)).mono ?_;rintro _ g ⟨rfl,S⟩;refine⟨_,rfl,?_⟩;have X:=cT s t 2;have D:=bZ H 2;have u:(rget s t 2).2.err≠0→(rget s t 2).1=0:=by
  unfold rget;split
  ·intro _;rfl
  ·split
   ·intro _;rfl
   ·intro h;exact absurd rfl h
 have o:rrow s t=((rw s (rget s t 2).1.toNat (rget s t 2).2).1.getD [],(rw s (rget s t 2).1.toNat (rget s t 2).2).2):=rfl;dsimp only;rw[al (by omega)];generalize (rget s t 2).2=t1 at *;generalize W:(rget s t 2).1.toNat=n at *;rw[show(rget s t 2).1=(n:Int) by omega];replace S:=S.nil 1
 refine aO (fun m I E=> ∃(i:Nat)(p:Option Addr)(l c:Nat)(j:List Int)(f:St),I=(some ⟨b,0,none⟩,(n:Int),(p,l,c),(i:Int),())∧i≤n∧m=n-i∧l=i∧j.length=l∧f.ok s∧
  (f.err=0→rw s n t1=((rw s (n-i) f).1.map (j++ ·),(rw s (n-i) f).2))∧(f.err≠0→((rw s n t1).1.getD []=[]∧(rw s n t1).2=f))∧aG h T E [rf b f.at_ s f.err,own 1 p l c (az j)] []) n
  ⟨0,none,0,0,[],t1,rfl,by omega,rfl,rfl,rfl,D,by simp,fun d=> ?_,S⟩ ?_
 ·have h0:=u d;have:n=0:=by omega
  subst this;exact⟨rfl,rfl⟩
 rintro m I E ⟨i,p,l,c,j,f,rfl,hi,rfl,rfl,L,x,a,q,S⟩;dsimp only;refine aq (fun O=> ?_) (fun M=> ?_)
 ·(repeat (first|with_reducible refine bx ?_|((with_reducible refine aV ?_);refine ae (S.c 0) ?_)));refine oz (fun r=> ?_) (fun d=> ?_)
  ·have r:f.err=0:=by simpa using r
   have a:=a r;refine(yI (t:=f) (S.into [0] [] []) x G).mono ?_;rintro _ V ⟨rfl,J⟩;refine⟨_,rfl,?_⟩;replace S:=S.back [0] J;obtain⟨k,N⟩: ∃k,n-l=k+1:=⟨n-l-1,by omega⟩;rw[N]at a;simp only[rw]at a;refine aA S (fun U _ _ S=> ?_);refine cI S 1 (ys:=az [iR (rget s f 4).1]) rfl rfl (by decide) (by omega) (bD.of_at (S.ap 2)) rfl (by simp[az,ib]) fun R Q K F C S=> ?_;rw[al (by omega)];refine⟨n-(l+1),by omega,l+1,R,Q,K,j++[iR (rget s f 4).1],(rget s f 4).2,rfl,by omega,rfl,C,by simp;omega,bZ x 4,fun A=> ?_,fun w=> ?_,?_⟩
   ·rw[if_neg (by simpa using A)]at a;rw[show n-(l+1)=k by omega,a];simp[Function.comp_def]
   ·rw[if_pos w]at a;rw[a];exact⟨rfl,rfl⟩
   ·have e:az j++az [iR (rget s f 4).1]=az (j++[iR (rget s f 4).1]):=by simp[az]
    rw[e]at S;exact S.pick [0,1] []
  ·have d:f.err≠0:=by simpa using d
   obtain⟨y,z⟩:=q d
   (repeat (first|with_reducible refine bx ?_|((with_reducible refine aV ?_);refine ae (S.c 0) ?_)));refine cC (by simpa using d) ?_;rw[o,y,z];exact⟨none,0,0,rfl,rfl,(S.nil 1).pick [0,2] []⟩
 ·have B:l=n:=by omega
  (repeat (first|with_reducible refine bx ?_|((with_reducible refine aV ?_);refine ae (S.c 0) ?_)));refine oz (fun d=> ?_) (fun r=> ?_)
  ·have d:f.err≠0:=by simpa using d
   obtain⟨y,z⟩:=q d;rw[o,y,z];exact⟨none,0,0,rfl,rfl,(S.nil 1).pick [0,2] []⟩
  ·have r:f.err=0:=by simpa using r
   have a:=a r;subst B;rw[WD]at a;simp only[rw]at a;rw[o,a];refine⟨p,l,c,rfl,?_,?_⟩
   ·simp[L]
   ·simp only[Option.map_some,XI,Wd];exact S
end
theorem JQ{p q:Option Addr}{l c j r:Nat}{h:ah}{xs ys:List Int}(u:bD h p (az xs))(A:xs.length=l)(w:bD h q (az ys))(B:ys.length=j)(C:l<2 ^ 62):
 au P qQ #[.slice p l c,.slice q j r] h fun v k=>v= .bool (decide (xs=ys))∧k=h:=by
 refine BE _ _ _ _ _ _ ?_;refine oz (fun e=> ?_) (fun e=> ?_)
 ·have z:l≠j:=by simp at e;omega
  exact⟨by rw[decide_eq_false];intro n;subst n;omega,rfl⟩
 ·have y:l=j:=by simp at e;omega
  refine aO (fun m s k=>k=h∧ ∃i:Nat,s=((p,l,c),(q,j,r),(i:Int),())∧i≤l∧m=l-i∧xs.take i=ys.take i) l ⟨rfl,0,rfl,by omega,by omega,rfl⟩ ?_;rintro m s k ⟨rfl,i,rfl,hi,rfl,o⟩;dsimp only;refine aq (fun g=> ?_) (fun x=> ?_)
  ·have g:i<l:=by omega
   obtain⟨a,rfl⟩:=u.some_of (by rw[av];omega);obtain⟨b,rfl⟩:=w.some_of (by rw[av];omega);refine aC rfl rfl g (aC rfl rfl (by omega) ?_);simp only[hC,VO];have d:i<xs.length:=by omega
   have f:i<ys.length:=by omega
   refine ae (u.cell (aF (bo d))) (ae (w.cell (aF (bo f))) ?_);refine oz (fun e=> ?_) (fun e=> ?_)
   ·refine⟨?_,by trivial⟩;rw[decide_eq_false];intro n;subst n;simp at e
   ·rw[al (by omega)];refine⟨l-(i+1),by omega,by trivial,i+1,rfl,by omega,rfl,?_⟩;rw[gD d,gD f,o];congr 2;simpa using e
  ·refine⟨?_,by trivial⟩;rw[decide_eq_true];rw[py (by omega),py (by omega)]at o;exact o
