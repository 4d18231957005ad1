/- CTapeX3 CTapeX4, in one text. -/
import Derived.Test.YtdhpmegbmjoekaaGreatDoorCNode
set_option linter.unusedSimpArgs false
set_option linter.unusedVariables false
namespace Go.Proofs.YtdhpmegbmjoekaaGreatDoor.G
open Go Go.Sh
section
abbrev rd (b:Nat) (a:Nat) (s:List UInt8) (e:Int):aY:=blk b [.int .i64 a,.string (str s),.int .i64 e]
abbrev rf (b:Nat) (a:Nat) (s:List UInt8) (e:Int):aY:=blk b [.string (str s),.int .i64 a,.int .i64 e]
structure St where
 at_:Nat
 err:Int
def bD (s:List UInt8) (t:St) (n:Nat):Int×St:=
 if t.err≠0 then(0,t) else if(s.length:Int)-t.at_<n then(0,⟨t.at_,11⟩) else(Ag ((s.drop t.at_).take n),⟨t.at_+n,0⟩)
def St.ok (s:List UInt8) (t:St):Prop:=t.at_≤s.length∧(t.err=0∨t.err=11)
theorem cD {s:List UInt8} {t:St} (h:t.ok s) (n:Nat):(bD s t n).2.ok s:=by
 unfold bD;split
 ·exact h
 ·split
  ·exact⟨h.1,.inr rfl⟩
  ·exact⟨by simp only;omega,.inl rfl⟩
theorem fK (s:List UInt8) (t:St) (n:Nat):0≤(bD s t n).1∧(bD s t n).1<256 ^ n:=by
 have a:(0:Int)<256 ^ n:=WQ (by decide);unfold bD;split
 ·exact⟨by simp,a⟩
 ·split
  ·exact⟨by simp,a⟩
  ·exact yh _ n (by simp;omega)
section
variable {h:af} {T:Nat→Prop} {b:Nat} {s:List UInt8} {t:St}
theorem JU (a:At h b [.int .i64 t.at_,.string (str s),.int .i64 t.err]) (d:t.ok s) (e:s.length<2 ^ 62):
 au P gN #[.pointer (some ⟨b,0,none⟩)] h fun v c=>v= .int .i64 ((s.length:Int)-t.at_)∧c=h:=by
 have:=d.1;refine tE _ ?_;unfold pY;refine bQ rfl (bz (bz (oU (a.cell rfl) ?_)));refine(LW (a.cell rfl)).mono ?_;rintro _ _ ⟨rfl,rfl⟩;refine⟨_,rfl,a.cell rfl,?_,rfl⟩;rw[da,al (by omega)]
theorem JV (a:At h b [.string (str s),.int .i64 t.at_,.int .i64 t.err]) (d:t.ok s) (e:s.length<2 ^ 62):
 au P gy #[.pointer (some ⟨b,0,none⟩)] h fun v c=>v= .int .i64 ((s.length:Int)-t.at_)∧c=h:=by
 have:=d.1;refine qU _ ?_;unfold oy;refine bz (bz (oU (a.cell rfl) (ae (a.cell rfl) ⟨?_,rfl⟩)));rw[da,al (by omega)]
theorem PD (S:aJ h T h [rd b t.at_ s t.err] []) (B:t.ok s) (K:s.length<2 ^ 62) {n:Nat} (M:n≤8):
 au P fY #[.pointer (some ⟨b,0,none⟩),.int .i64 n] h fun v E=>v= .int .u64 (bD s t n).1∧aJ h T E [rd b (bD s t n).2.at_ s (bD s t n).2.err] []:=by
 refine uQ _ _ ?_;unfold sY;refine⟨fun q g=>q=(some ⟨b,0,none⟩,(n:Int),())∧g=h∧t.err=0,?_,?_⟩
 ·rintro q g ⟨rfl,rfl,j⟩;unfold np;dsimp only;refine(JU (S.at 0 rfl) B K).mono ?_;rintro _ g ⟨rfl,rfl⟩;refine⟨_,rfl,?_⟩;have L:=B.1;refine am (fun o=> ?_) (fun l=> ?_)
  ·have e:bD s t n=(0,⟨t.at_,11⟩):=by unfold bD;rw[if_neg (by simpa using j),if_pos o]
   rw[e]
   (repeat (first|with_reducible refine bz ?_|((with_reducible refine nL ?_);refine aE S 0 rfl (jb rfl) (fun _ _ S=> ?_);try dsimp only[List.set,Xi,Xj] at S)));exact⟨rfl,S⟩
  ·have e:bD s t n=(Ag ((s.drop t.at_).take n),⟨t.at_+n,0⟩):=by unfold bD;rw[if_neg (by simpa using j),if_neg l]
   rw[e];generalize z:s.drop t.at_=d;have H:d.length=s.length-t.at_:=by rw[←z,VF]
   refine aP (fun m q y=>y=g∧ ∃i:Nat,q=(some ⟨b,0,none⟩,(n:Int),Ag (d.take i),(n:Int),(i:Int),())∧i≤n∧m=n-i) n ⟨rfl,0,by simp[Ag],by omega,rfl⟩ ?_;rintro m q y ⟨rfl,i,rfl,hi,rfl⟩;unfold nl;dsimp only;refine am (fun o=> ?_) (fun l=> ?_)
   ·(repeat (first|with_reducible refine bz ?_|((with_reducible refine vf ?_);refine oU (S.cell 0 rfl rfl) ?_)));refine(LW (S.cell 0 rfl rfl)).mono ?_;rintro _ _ ⟨rfl,rfl⟩;refine⟨_,rfl,?_⟩
    (repeat (first|((with_reducible refine vg ?_);refine aX (S.cell 0 rfl rfl) ?_)));rw[al (by omega),al (by omega)];have f:i<d.length:=by omega
    have F:s[t.at_+i]? =some d[i]:=by rw[←VI,z,aO f]
    refine KV (k:=t.at_+i) rfl (by omega) F ?_;refine⟨by omega,n-(i+1),by omega,by trivial,i+1,?_,by omega,rfl⟩;have G:d[i].toNat<256:=UInt8.toNat_lt _;have p:=yh (d.take i) i (by simp;omega);have C:min (8*(i:Int)).toNat 64=8*i:=by omega
    have r:(2:Int) ^ (8*i)=256 ^ i:=by rw[Int.pow_mul];rfl
    have J:(256:Int) ^ (i+1)≤256 ^ 8:=by
     exact A6 (by omega)
    have A:(d[i].toNat:Int)*256 ^ i+Ag (d.take i)<256 ^ (i+1):=by
     rw[Ww];have I:(d[i].toNat:Int)*256 ^ i≤255*256 ^ i:=Int.mul_le_mul_of_nonneg_right (by omega) (Int.le_of_lt (WQ (by decide)));omega
    have a:0≤(d[i].toNat:Int)*256 ^ i:=Vw (by omega) (Int.le_of_lt (WQ (by decide)));have D:HP .u64 (IntKind.wrap .u64 (d[i].toNat:Int)) (8*i)=(d[i].toNat:Int)*2 ^ (8*i):=by
     unfold HP;rw[hZ (d[i].toNat:Int),V9 (by omega) (by omega),r,hZ,V9 a (by omega)]
    rw[C,D,QC (by rw[r];exact p) (by omega) (by rw[r];omega),r,←F6 (aO f),al (by omega)];rfl
   ·have w:i=n:=by omega
    subst w
    (repeat (first|with_reducible refine bz ?_));refine(LV (x:=(t.at_:Int)) (i:Int) S rfl).mono ?_;rintro _ _ ⟨rfl,u⟩;refine⟨rfl,rfl,?_⟩;rw[al (by omega)] at u;rw[j] at u;exact u
 ·refine bQ rfl ?_
  (repeat (first|with_reducible refine bz ?_|((with_reducible refine aV ?_);refine ae (S.cell 0 rfl rfl) ?_)));refine oT (fun c=> ?_) (fun j=>⟨rfl,rfl,by simpa using j⟩);have c:t.err≠0:=by simpa using c
  have e:bD s t n=(0,t):=by unfold bD;rw[if_pos c]
  rw[e];exact⟨rfl,S⟩
theorem tu (S:aJ h T h [rf b t.at_ s t.err] []) (r:t.ok s) (F:s.length<2 ^ 62) {n:Nat} (I:n≤8):
 au P bX #[.pointer (some ⟨b,0,none⟩),.int .i64 n] h fun v D=>v= .int .u64 (bD s t n).1∧aJ h T D [rf b (bD s t n).2.at_ s (bD s t n).2.err] []:=by
 refine tC _ _ ?_;unfold pS;have G:=r.1;refine⟨fun i g=>i=(some ⟨b,0,none⟩,(n:Int),())∧g=h∧t.err=0∧ ¬(s.length:Int)-t.at_<n,?_,?_⟩
 ·rintro i g ⟨rfl,o,c,d⟩;subst o;unfold mi;dsimp only;have e:bD s t n=(Ag ((s.drop t.at_).take n),⟨t.at_+n,0⟩):=by unfold bD;rw[if_neg (by simpa using c),if_neg d]
  rw[e];refine aP (fun m i u=>u=g∧ ∃j:Nat,i=(some ⟨b,0,none⟩,(n:Int),Ag ((s.drop (t.at_+n-j)).take j),(n:Int)-1-j,())∧j≤n∧m=n-j) n ⟨rfl,0,by rw[al (by omega)];simp[Ag],by omega,rfl⟩ ?_;rintro m i u ⟨rfl,j,rfl,H,rfl⟩;unfold mh;dsimp only;refine am (fun f=> ?_) (fun w=> ?_)
  ·(repeat (first|with_reducible refine bz ?_|((with_reducible refine aV ?_);refine ae (S.cell 0 rfl rfl) ?_)|((with_reducible refine vf ?_);refine oU (S.cell 0 rfl rfl) ?_)));rw[al (by omega),al (by omega)];have y:t.at_+n-(j+1)<s.length:=by omega
   refine KV (k:=t.at_+n-(j+1)) rfl (by omega) (aO y) ?_;refine⟨n-(j+1),by omega,by trivial,j+1,?_,by omega,rfl⟩;have E:s[t.at_+n-(j+1)].toNat<256:=UInt8.toNat_lt _;have z:=yh ((s.drop (t.at_+n-j)).take j) j (by simp;omega);have q:(256:Int) ^ (j+1)≤256 ^ 8:=by
    exact A6 (by omega)
   rw[Ww] at q;have A:(s.drop (t.at_+n-(j+1))).take (j+1)=s[t.at_+n-(j+1)]::(s.drop (t.at_+n-j)).take j:=by
    rw[Vb y,List.take_succ_cons,show t.at_+n-(j+1)+1=t.at_+n-j by omega]
   rw[A];simp only[Ag];generalize Ag ((s.drop (t.at_+n-j)).take j)=x at *;rw[hZ (x*256),V9 (by omega) (by omega),hZ (s[t.at_+n-(j+1)].toNat:Int),V9 (by omega) (by omega),hZ,V9 (by omega) (by omega)];have B:x*256+(s[t.at_+n-(j+1)].toNat:Int)=s[t.at_+n-(j+1)].toNat+256*x:=by omega
   have C:(n:Int)-1-j-1=(n:Int)-1-((j+1:Nat):Int):=by omega
   rw[B,C]
  ·have p:j=n:=by omega
   subst p
   (repeat (first|with_reducible refine bz ?_|((with_reducible refine aV ?_);refine ae (S.cell 0 rfl rfl) ?_)|((with_reducible refine nL ?_);refine aE S 0 rfl (jb rfl) (fun _ _ S=> ?_);try dsimp only[List.set,Xi,Xj] at S)));rw[al (by omega),c] at S;rw[show t.at_+j-j=t.at_ by omega];exact⟨rfl,S⟩
 ·(repeat (first|with_reducible refine bz ?_|((with_reducible refine aV ?_);refine ae (S.cell 0 rfl rfl) ?_)));refine oT (fun a=> ?_) (fun c=> ?_)
  ·have a:t.err≠0:=by simpa using a
   have l:t.err=11:=by exact r.2.resolve_left a
   have e:bD s t n=(0,t):=by unfold bD;rw[if_pos a]
   rw[e,l]
   (repeat (first|with_reducible refine bz ?_|((with_reducible refine nL ?_);refine aE S 0 rfl (jb rfl) (fun _ _ S=> ?_);try dsimp only[List.set,Xi,Xj] at S)));exact⟨rfl,S⟩
  ·have c:t.err=0:=by simpa using c
   refine(JV (S.at 0 rfl) r F).mono ?_;rintro _ _ ⟨rfl,rfl⟩;refine⟨_,rfl,?_⟩;refine am (fun f=> ?_) (fun d=>⟨rfl,rfl,c,d⟩);have e:bD s t n=(0,⟨t.at_,11⟩):=by unfold bD;rw[if_neg (by simpa using c),if_pos f]
   rw[e]
   (repeat (first|with_reducible refine bz ?_|((with_reducible refine nL ?_);refine aE S 0 rfl (jb rfl) (fun _ _ S=> ?_);try dsimp only[List.set,Xi,Xj] at S)));exact⟨rfl,S⟩
end
end
section
def jD (x:Int):Int:=IntKind.wrap .i32 x
theorem NI (x:Int): -2147483648≤jD x∧jD x<2147483648:=by unfold jD;rw[zP];omega
def rw(s:List UInt8):Nat→St→Option (List Int)×St
 |0,t=>(some [],t)
 |n+1,t=>if(bD s t 4).2.err≠0 then(none,(bD s t 4).2) else((rw s n (bD s t 4).2).1.map (jD (bD s t 4).1:: ·),(rw s n (bD s t 4).2).2)
def rrow (s:List UInt8) (t:St):List Int×St:=((rw s (bD s t 2).1.toNat (bD s t 2).2).1.getD [],(rw s (bD s t 2).1.toNat (bD s t 2).2).2)
theorem RJ {s:List UInt8}: ∀(n:Nat) {t:St},t.ok s→(rw s n t).2.ok s
 |0,_,h=>h
 |n+1,t,h=>by
  simp only[rw];split
  ·exact cD h 4
  ·exact RJ n (cD h 4)
theorem wg {s:List UInt8} {t:St} (h:t.ok s):(rrow s t).2.ok s:=RJ _ (cD h 2)
section
variable {h:af} {T:Nat→Prop} {b:Nat} {s:List UInt8} {t:St}
theorem SA (s:List UInt8):au P ux #[.string (str s)] h fun v c=> ∃b,v= .pointer (some ⟨b,0,none⟩)∧aJ h no c [rd b 0 s 0] []:=by
 refine D5 _ ?_;unfold GA;have S:=aJ.start h no;refine aA S (fun a _ _ S=> ?_);exact⟨a,rfl,S⟩
theorem Rq (s:List UInt8):au P rr #[.string (str s)] h fun v c=> ∃b,v= .pointer (some ⟨b,0,none⟩)∧aJ h no c [rf b 0 s 0] []:=by
 refine Ci _ ?_;unfold Dz;have S:=aJ.start h no;refine aA S (fun a _ _ S=> ?_);exact⟨a,rfl,S⟩
theorem Mw {x:Int} (c:aD h ⟨b,2,none⟩=some (.int .i64 x)):au P iD #[.pointer (some ⟨b,0,none⟩)] h fun v a=>v= .int .i64 x∧a=h:=by
 refine uR _ ?_;unfold sZ;refine bQ rfl (bz ?_);exact ae c ⟨rfl,rfl⟩
theorem Io (S:aJ h T h [rd b t.at_ s t.err] []) (d:t.ok s) (c:s.length<2 ^ 62):
 au P fB #[.pointer (some ⟨b,0,none⟩)] h fun v a=>v= .int .i64 (bD s t 1).1∧aJ h T a [rd b (bD s t 1).2.at_ s (bD s t 1).2.err] []:=by
 refine tG _ ?_;unfold qb;refine(PD (n:=1) S d c (by decide)).mono ?_;rintro _ _ ⟨rfl,S⟩;have:=fK s t 1;exact⟨_,rfl,by rw[al (by omega)],S⟩
theorem JW (S:aJ h T h [rd b t.at_ s t.err] []) (d:t.ok s) (c:s.length<2 ^ 62):
 au P gx #[.pointer (some ⟨b,0,none⟩)] h fun v a=>v= .int .i64 (bD s t 2).1∧aJ h T a [rd b (bD s t 2).2.at_ s (bD s t 2).2.err] []:=by
 refine rK _ ?_;unfold oJ;refine(PD (n:=2) S d c (by decide)).mono ?_;rintro _ _ ⟨rfl,S⟩;have:=fK s t 2;exact⟨_,rfl,by rw[al (by omega)],S⟩
theorem z8 (S:aJ h T h [rd b t.at_ s t.err] []) (d:t.ok s) (c:s.length<2 ^ 62):
 au P dt #[.pointer (some ⟨b,0,none⟩)] h fun v a=>v= .int .i64 (jD (bD s t 4).1)∧aJ h T a [rd b (bD s t 4).2.at_ s (bD s t 4).2.err] []:=by
 refine tH _ ?_;unfold qd;refine(PD (n:=4) S d c (by decide)).mono ?_;rintro _ _ ⟨rfl,S⟩;have:=NI (bD s t 4).1;exact⟨_,rfl,by rw[al (by unfold jD at this;omega)];rfl,S⟩
theorem z9 (S:aJ h T h [rf b t.at_ s t.err] []) (f:t.ok s) (e:s.length<2 ^ 62):
 au P dh #[.pointer (some ⟨b,0,none⟩)] h fun v a=>v= .int .i64 (jD (bD s t 4).1)∧aJ h T a [rf b (bD s t 4).2.at_ s (bD s t 4).2.err] []:=by
 refine qV _ ?_;unfold oz;refine(tu (n:=4) S f e (by decide)).mono ?_;rintro _ _ ⟨rfl,S⟩;refine⟨_,rfl,?_⟩;have g:=fK s t 4;dsimp only;rw[al (by omega)];refine am (fun c=>⟨?_,S⟩) (fun d=>⟨?_,S⟩)
 ·rw[al (by omega)];unfold jD;rw[zP];congr 1;omega
 ·unfold jD;rw[zP];congr 1;omega
theorem PE (S:aJ h T h [rd b t.at_ s t.err] []) (C:t.ok s) (B:s.length<2 ^ 62):
 au P iE #[.pointer (some ⟨b,0,none⟩)] h fun v z=> ∃p l c,v= .slice p l c∧l=(rrow s t).1.length∧aJ h T z [rd b (rrow s t).2.at_ s (rrow s t).2.err,own 1 p l c (az (rrow s t).1)] []:=by
 refine uS _ ?_;unfold ta;refine(JW S C B).mono ?_;rintro _ g ⟨rfl,S⟩;refine⟨_,rfl,?_⟩;have N:=fK s t 2;have x:=cD C 2;have j:rrow s t=((rw s (bD s t 2).1.toNat (bD s t 2).2).1.getD [],(rw s (bD s t 2).1.toNat (bD s t 2).2).2):=rfl;generalize (bD s t 2).2=t1 at *;generalize M:(bD s t 2).1.toNat=n at *;rw[show(bD s t 2).1=(n:Int) by omega];replace S:=S.nil 1
 refine aP (fun m D y=> ∃(i:Nat) (p:Option Addr) (c:Nat) (d:List Int) (f:St),D=(some ⟨b,0,none⟩,(p,i,c),(n:Int),(i:Int),())∧i≤n∧m=n-i∧d.length=i∧f.ok s∧
  rw s n t1=((rw s (n-i) f).1.map (d++ ·),(rw s (n-i) f).2)∧aJ h T y [rd b f.at_ s f.err,own 1 p i c (az d)] []) n
  ⟨0,none,0,[],t1,rfl,by omega,rfl,rfl,x,by simp,S⟩ ?_
 rintro m D y ⟨i,p,c,d,f,rfl,hi,rfl,A,q,a,S⟩;unfold ny;dsimp only;refine am (fun I=> ?_) (fun G=> ?_)
 ·refine(z8 (t:=f) (S.into [0] [] []) q B).mono ?_;rintro _ L ⟨rfl,E⟩;refine⟨_,rfl,?_⟩;replace S:=S.back [0] E;refine(Mw (S.cell 0 rfl rfl)).mono ?_;rintro _ _ ⟨rfl,rfl⟩;refine⟨_,rfl,?_⟩;obtain⟨k,H⟩: ∃k,n-i=k+1:=⟨n-i-1,by omega⟩;rw[H] at a;simp only[rw] at a;refine oT (fun o=> ?_) (fun r=> ?_)
  ·have o:(bD s f 4).2.err≠0:=by simpa using o
   rw[if_pos o] at a;rw[j,a];refine⟨none,0,0,rfl,rfl,?_⟩;exact(S.nil 1).pick [0,2] []
  ·have r: ¬(bD s f 4).2.err≠0:=by simpa using r
   rw[if_neg r] at a;refine aA S (fun K _ _ S=> ?_);refine cK S 1 (ys:=az [jD (bD s f 4).1]) rfl rfl (by decide) (by omega) (bI.of_at (S.at 2 rfl)) rfl (by simp[az,lK]) fun J O F z w S=> ?_;rw[al (by omega)];subst w;refine⟨n-(i+1),by omega,i+1,J,F,d++[jD (bD s f 4).1],(bD s f 4).2,rfl,by omega,rfl,by simp[A],cD q 4,?_,?_⟩
   ·rw[show n-(i+1)=k by omega,a];simp[Function.comp_def]
   ·have e:az d++az [jD (bD s f 4).1]=az (d++[jD (bD s f 4).1]):=by simp[az]
    rw[e] at S;exact S.pick [0,1] []
 ·have u:i=n:=by omega
  subst u;rw[VJ] at a;simp only[rw] at a;rw[j,a];refine⟨p,i,c,rfl,?_,?_⟩
  ·simp[A]
  ·simp only[Option.map_some,WJ,Vh];exact S
theorem PF (S:aJ h T h [rf b t.at_ s t.err] []) (H:t.ok s) (G:s.length<2 ^ 62):
 au P gU #[.pointer (some ⟨b,0,none⟩)] h fun v F=> ∃p l c,v= .slice p l c∧l=(rrow s t).1.length∧aJ h T F [rf b (rrow s t).2.at_ s (rrow s t).2.err,own 1 p l c (az (rrow s t).1)] []:=by
 refine tD _ ?_;unfold pT;refine(tu (n:=2) S H G (by decide)).mono ?_;rintro _ g ⟨rfl,S⟩;refine⟨_,rfl,?_⟩;have X:=fK s t 2;have D:=cD H 2;have u:(bD s t 2).2.err≠0→(bD s t 2).1=0:=by
  unfold bD;split
  ·intro _;rfl
  ·split
   ·intro _;rfl
   ·intro h;exact absurd rfl h
 have o:rrow s t=((rw s (bD s t 2).1.toNat (bD s t 2).2).1.getD [],(rw s (bD s t 2).1.toNat (bD s t 2).2).2):=rfl;dsimp only;rw[al (by omega)];generalize (bD s t 2).2=t1 at *;generalize W:(bD s t 2).1.toNat=n at *;rw[show(bD s t 2).1=(n:Int) by omega];replace S:=S.nil 1
 refine aP (fun m I E=> ∃(i:Nat) (p:Option Addr) (l c:Nat) (j:List Int) (f:St),I=(some ⟨b,0,none⟩,(n:Int),(p,l,c),(i:Int),())∧i≤n∧m=n-i∧l=i∧j.length=l∧f.ok s∧
  (f.err=0→rw s n t1=((rw s (n-i) f).1.map (j++ ·),(rw s (n-i) f).2))∧(f.err≠0→((rw s n t1).1.getD []=[]∧(rw s n t1).2=f))∧aJ h T E [rf b f.at_ s f.err,own 1 p l c (az j)] []) n
  ⟨0,none,0,0,[],t1,rfl,by omega,rfl,rfl,rfl,D,by simp,fun d=> ?_,S⟩ ?_
 ·have h0:=u d;have:n=0:=by omega
  subst this;exact⟨rfl,rfl⟩
 rintro m I E ⟨i,p,l,c,j,f,rfl,hi,rfl,rfl,L,x,a,q,S⟩;unfold mj;dsimp only;refine am (fun O=> ?_) (fun M=> ?_)
 ·(repeat (first|with_reducible refine bz ?_|((with_reducible refine aV ?_);refine ae (S.cell 0 rfl rfl) ?_)));refine oT (fun r=> ?_) (fun d=> ?_)
  ·have r:f.err=0:=by simpa using r
   have a:=a r;refine(z9 (t:=f) (S.into [0] [] []) x G).mono ?_;rintro _ V ⟨rfl,J⟩;refine⟨_,rfl,?_⟩;replace S:=S.back [0] J;obtain⟨k,N⟩: ∃k,n-l=k+1:=⟨n-l-1,by omega⟩;rw[N] at a;simp only[rw] at a;refine aA S (fun U _ _ S=> ?_);refine cK S 1 (ys:=az [jD (bD s f 4).1]) rfl rfl (by decide) (by omega) (bI.of_at (S.at 2 rfl)) rfl (by simp[az,lK]) fun R Q K F C S=> ?_;rw[al (by omega)];refine⟨n-(l+1),by omega,l+1,R,Q,K,j++[jD (bD s f 4).1],(bD s f 4).2,rfl,by omega,rfl,C,by simp;omega,cD x 4,fun A=> ?_,fun w=> ?_,?_⟩
   ·rw[if_neg (by simpa using A)] at a;rw[show n-(l+1)=k by omega,a];simp[Function.comp_def]
   ·rw[if_pos w] at a;rw[a];exact⟨rfl,rfl⟩
   ·have e:az j++az [jD (bD s f 4).1]=az (j++[jD (bD s f 4).1]):=by simp[az]
    rw[e] at S;exact S.pick [0,1] []
  ·have d:f.err≠0:=by simpa using d
   obtain⟨y,z⟩:=q d
   (repeat (first|with_reducible refine bz ?_|((with_reducible refine aV ?_);refine ae (S.cell 0 rfl rfl) ?_)));refine cI (by simpa using d) ?_;rw[o,y,z];exact⟨none,0,0,rfl,rfl,(S.nil 1).pick [0,2] []⟩
 ·have B:l=n:=by omega
  (repeat (first|with_reducible refine bz ?_|((with_reducible refine aV ?_);refine ae (S.cell 0 rfl rfl) ?_)));refine oT (fun d=> ?_) (fun r=> ?_)
  ·have d:f.err≠0:=by simpa using d
   obtain⟨y,z⟩:=q d;rw[o,y,z];exact⟨none,0,0,rfl,rfl,(S.nil 1).pick [0,2] []⟩
  ·have r:f.err=0:=by simpa using r
   have a:=a r;subst B;rw[VJ] at a;simp only[rw] at a;rw[o,a];refine⟨p,l,c,rfl,?_,?_⟩
   ·simp[L]
   ·simp only[Option.map_some,WJ,Vh];exact S
end
theorem PG {p q:Option Addr} {l c j r:Nat} {h:af} {xs ys:List Int} (u:bI h p (az xs)) (A:xs.length=l) (w:bI h q (az ys)) (B:ys.length=j) (C:l<2 ^ 62):
 au P rH #[.slice p l c,.slice q j r] h fun v k=>v= .bool (decide (xs=ys))∧k=h:=by
 refine CC _ _ _ _ _ _ ?_;unfold D3;refine oT (fun e=> ?_) (fun e=> ?_)
 ·have z:l≠j:=by simp at e;omega
  exact⟨by rw[decide_eq_false];intro n;subst n;omega,rfl⟩
 ·have y:l=j:=by simp at e;omega
  refine aP (fun m s k=>k=h∧ ∃i:Nat,s=((p,l,c),(q,j,r),(i:Int),())∧i≤l∧m=l-i∧xs.take i=ys.take i) l ⟨rfl,0,rfl,by omega,by omega,rfl⟩ ?_;rintro m s k ⟨rfl,i,rfl,hi,rfl,o⟩;unfold w9;dsimp only;refine am (fun g=> ?_) (fun x=> ?_)
  ·have g:i<l:=by omega
   obtain⟨a,rfl⟩:=u.some_of (by rw[av];omega);obtain⟨b,rfl⟩:=w.some_of (by rw[av];omega);refine aB rfl rfl g (aB rfl rfl (by omega) ?_);simp only[oe,US];have d:i<xs.length:=by omega
   have f:i<ys.length:=by omega
   refine ae (u.cell (aI (aO d))) (ae (w.cell (aI (aO f))) ?_);refine oT (fun e=> ?_) (fun e=> ?_)
   ·refine⟨?_,by trivial⟩;rw[decide_eq_false];intro n;subst n;simp at e
   ·rw[al (by omega)];refine⟨l-(i+1),by omega,by trivial,i+1,rfl,by omega,rfl,?_⟩;rw[py d,py f,o];congr 2;simpa using e
  ·refine⟨?_,by trivial⟩;rw[decide_eq_true];rw[N6 (by omega),N6 (by omega)] at o;exact o
end
end Go.Proofs.YtdhpmegbmjoekaaGreatDoor.G

