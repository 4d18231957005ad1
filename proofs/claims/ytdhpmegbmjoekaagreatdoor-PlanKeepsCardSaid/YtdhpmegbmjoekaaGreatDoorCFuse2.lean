/- CSlices CFuse CFuse2, in one text. -/
import Derived.Test.YtdhpmegbmjoekaaGreatDoorCGraph5
set_option linter.unusedVariables false
set_option linter.unusedSimpArgs false
namespace Go.Proofs.YtdhpmegbmjoekaaGreatDoor.G
open Go Go.Sh
section
theorem G8 {ns:List Nv}: ∀y∈aF ns,lK y=true:=by
 intro y a;unfold aF at a;obtain⟨l,b,a⟩:=List.mem_flatten.1 a;obtain⟨n,_,rfl⟩:=U5.1 b;exact bu (l:=cS) rfl y a
section
variable {h:af}
theorem Bb {p:Option Addr} {l c:Nat} {xs:List Int} (g:bI h p (az xs)) (t:xs.length=l) (n:l<2 ^ 40):
 au P dK #[.slice p l c] h fun v f=> ∃d b,v= .slice d l b∧aJ h no f [own 1 d l b (az xs)] []:=by
 refine nY _ _ _ ?_;unfold lB;have S:=(aJ.start h no).read (row p (az xs)) g;cases p with
 |none=>
  have e:xs.length=0:=by
   cases hxl:xs.length with
   |zero=>rfl
   |succ k=>
    obtain⟨a,ea⟩:=g.some_of (by rw[av];omega);cases ea
  have i:xs=[]:=Vm.1 e;have j:l=0:=by omega
  subst i j;exact cI rfl ⟨none,0,rfl,yu (S.nil 1)⟩
 |some q=>
  refine bQ rfl ?_;refine aA (cs:=[]) S fun r s _ S=> ?_;replace S:=S.toOwn 0 1 0 0 rfl (U3 _);refine cK S 0 (ys:=az xs) rfl rfl (by decide) (by omega) (S.row 0 rfl) (by rw[av];omega) cX fun d o b f m S=> ?_;have:o=l:=by omega
  subst this;exact⟨d,b,rfl,S.pick [0] []⟩
theorem Ns {p:Option Addr} {l c:Nat} {ns:List Nv} (g:bI h p (aF ns)) (t:ns.length=l) (n:l<2 ^ 20):
 au P dJ #[.slice p l c] h fun v f=> ∃d b,v= .slice d l b∧aJ h no f [own 15 d l b (aF ns)] []:=by
 refine jx _ _ _ ?_;unfold gE;have S:=(aJ.start h no).read (row p (aF ns)) g;cases p with
 |none=>
  have e:ns.length=0:=by
   cases hxl:ns.length with
   |zero=>rfl
   |succ k=>
    obtain⟨a,ea⟩:=g.some_of (by rw[bW];omega);cases ea
  have i:ns=[]:=Vm.1 e;have j:l=0:=by omega
  subst i j;exact cI rfl ⟨none,0,rfl,yu (S.nil 15)⟩
 |some q=>
  refine bQ rfl ?_;refine aA (cs:=[]) S fun r s _ S=> ?_;replace S:=S.toOwn 0 15 0 0 rfl (U3 _);refine cK S 0 (ys:=aF ns) rfl rfl (by decide) (by omega) (S.row 0 rfl) (by rw[bW];omega) G8 fun d o b f m S=> ?_;have:o=l:=by omega
  subst this;exact⟨d,b,rfl,S.pick [0] []⟩
theorem H8 {p:Option Addr} {l c:Nat} {xs:List Int} (j:bI h p (az xs)) (u:xs.length=l) (n:l<2 ^ 62) (v:Int):
 au P fP #[.slice p l c,.int .i64 v] h fun r f=>r= .bool (decide (v∈xs))∧f=h:=by
 refine me _ _ _ _ ?_;unfold jV;have I:au P gQ #[.slice p l c,.int .i64 v] h fun r f=> ∃i:Int,r= .int .i64 i∧(0≤i↔v∈xs)∧f=h:=by
  refine nZ _ _ _ _ ?_;unfold lH;refine aP (fun m s g=>g=h∧ ∃i:Nat,s=((p,l,c),v,(l:Int),(i:Int),())∧i≤l∧m=l-i∧v∉xs.take i) l ⟨rfl,0,rfl,by omega,rfl,by simp⟩ ?_;rintro m s g ⟨rfl,i,rfl,hi,rfl,a⟩;unfold jU;dsimp only;refine am (fun o=> ?_) (fun k=> ?_)
  ·have b:i<xs.length:=by omega
   obtain⟨t,rfl⟩:=j.some_of (by rw[av];omega);refine aB rfl rfl (by omega) ?_;simp only[oe,US];refine ae (j.cell (aI (aO b))) ?_;refine aH (fun e=>⟨_,rfl,⟨fun _=>by rw[e];exact UU b,fun _=>by omega⟩,by trivial⟩) (fun e=> ?_);rw[al (by omega)];refine⟨l-(i+1),by omega,by trivial,i+1,rfl,by omega,rfl,fun d=> ?_⟩;rw[py b] at d;rcases UX.1 d with d|d
   ·exact a d
   ·simp only[SH] at d;exact e d
  ·rw[N6 (by omega)] at a;exact⟨_,rfl,⟨fun h=>by omega,fun q=>absurd q a⟩,rfl⟩
 refine I.mono ?_;rintro _ _ ⟨i,rfl,hi,rfl⟩;refine⟨_,rfl,?_,rfl⟩;congr 1;rw[decide_eq_decide];exact hi
theorem Nt (p:Option Addr) (l c:Nat):au P gB #[.slice p l c] h fun v d=> ∃b,v= .func (.func cB) #[] #[.pointer (some ⟨b,0,none⟩)]∧aJ h no d [blk b [.slice p l c]] []:=by
 refine nA _ _ _ ?_;unfold kz;have S:=aJ.start h no;refine aA (cs:=[.slice p l c]) S fun a e _ S=> ?_;exact⟨a,rfl,S⟩
end
def fI (a:List Int) (x:Int):List Int:=if a.getLast? =some x then a else a++[x]
def nQ (xs:List Int):List Int:=xs.foldl fI []
theorem G9 (xs:List Int) (x:Int):nQ (xs++[x])=fI (nQ xs) x:=by simp[nQ,Vk]
theorem Nu (xs:List Int) (x:Int):(nQ (xs++[x])).getLast? =some x:=by
 rw[G9];unfold fI;split
 ·rename_i h;exact h
 ·simp
theorem vS {xs:List Int} {i:Nat} (d:1≤i) (hi:i<xs.length):nQ (xs.take (i+1))=if xs[i]=xs[i-1] then nQ (xs.take i) else nQ (xs.take i)++[xs[i]]:=by
 rw[py hi,G9];have e:xs.take i=xs.take (i-1)++[xs[i-1]]:=by
  have:=py (l:=xs) (i:=i-1) (by omega);rw[←this];congr 1;omega
 unfold fI;have b:(nQ (xs.take i)).getLast? =some xs[i-1]:=by rw[e];exact Nu _ _
 rw[b];by_cases a:xs[i]=xs[i-1]
 ·rw[if_pos (by rw[a]),if_pos a]
 ·rw[if_neg (fun h=>a (Option.some.inj h).symm),if_neg a]
theorem JG (xs:List Int):(nQ xs).length≤xs.length:=by
 have: ∀(l a:List Int),(l.foldl fI a).length≤a.length+l.length:=by
  intro l
  induction l with
  |nil=>intro a;simp
  |cons x r b=>
   intro a;rw[Wb];have:=b (fI a x);have d:(fI a x).length≤a.length+1:=by unfold fI;split<;>simp
   simp only[UY];omega
 have:=this xs [];simpa[nQ] using this
theorem qB.prefix1 {h:af} {base:Nat} {p:Option Addr} {l c k:Nat} {xs:List Value} (o:qB h base 1 p l c xs) (n:k≤l):qB h base 1 p k c (xs.take k):=by
 obtain⟨j,m,⟨rfl,rfl,rfl⟩|⟨b,f,rfl,g,d,a,i⟩⟩:=o
 ·have:k=0:=by omega
  subst this;exact⟨by simp,U3 _,.inl ⟨rfl,rfl,rfl⟩⟩
 ·refine⟨by rw[U0];omega,by omega,.inr ⟨b,f,rfl,g,d,a,?_⟩⟩;have e:(xs.take k).length=k:=by rw[U0];omega
  rw[e]
  conv=>rhs;rw[←i,WO,VY (by omega)]
section
variable {h0 h:af} {T:Nat→Prop} {W R:List aY} {p:Option Addr} {l c:Nat} {xs:List Int}
theorem Nw (S:aJ h0 T h W R) (i:Nat) (e:W[i]? =some (own 1 p l c (az xs))) (aj:l<2 ^ 40):
 au P go #[.slice p l c] h fun v h'=> ∃l',v= .slice p l' c∧aJ h0 T h' (W.set i (own 1 p l' c (az (nQ xs)))) R:=by
 refine mI _ _ _ ?_;unfold kg;have H:i<W.length:=(Pt.1 e).1;have o:=S.own i e;have a:xs.length=l:=by have:=o.1;rw[av] at this;omega
 have I:=o.2.1;have same: ∀{g:af},aJ h0 T g W R→nQ xs=xs→aJ h0 T g (W.set i (own 1 p l c (az (nQ xs)))) R:=fun S ec=>S.turn i e _ (fun G=>by rw[ec];exact G) fun _ E=>E;refine am (fun h2=>⟨l,rfl,same S ?_⟩) (fun h2=> ?_)
 ·match xs,a with
  |[],_=>rfl
  |[x],_=>rfl
  |_::_::_,a=>simp at a;omega
 obtain⟨b,rfl⟩: ∃b,p=some ⟨b,0,none⟩:=by
  obtain⟨_,_,⟨_,h0,_⟩|⟨b,cs,rfl,_⟩⟩:=o
  ·omega
  ·exact⟨b,rfl⟩
 refine aP (fun m s g=> ∃k:Nat,s=((some ⟨b,0,none⟩,l,c),(k:Int),())∧1≤k∧k≤l∧m=l-k∧nQ (xs.take k)=xs.take k∧aJ h0 T g W R) (l-1) ⟨1,rfl,by omega,by omega,rfl,?_,S⟩ ?_
 ·match xs,a with
  |[],_=>rfl
  |x::r,_=>rfl
 clear S o;rintro m s g ⟨k,rfl,C,hk,rfl,t,S⟩;unfold i8;dsimp only;refine am (fun an=> ?_) (fun ad=> ?_)
 ·have u:k<xs.length:=by omega
  have D:bI g (some ⟨b,0,none⟩) (az xs):=(S.own i e).row;have N:IntKind.wrap .i64 ((k:Int)-1)=((k-1:Nat):Int):=by rw[al (by omega)];omega
  rw[N];refine aB rfl rfl (by omega) (aB rfl rfl (by omega) ?_);simp only[oe,US];refine ae (D.cell (aI (aO u))) (ae (D.cell (aI (aO (i:=k-1) (by omega)))) ?_);refine aH (fun O=> ?_) (fun O=> ?_)
  ·refine ko (n:=k) rfl (by omega) ?_;have F:=S.own i e;have I:=F.2.1;rw[if_neg (show ¬c=k by omega)];simp only[Option.map_some,US,aQ,SI];have d:nQ (xs.take (k+1))=xs.take k:=by rw[vS C u,if_pos O,t]
   refine aP (fun m s g=> ∃(j q:Nat) (f:List Int),s=((some ⟨b,0,none⟩,l,c),(q:Int),(some ⟨b,k,none⟩,l-k,c-k),((j-k:Nat):Int),())∧k+1≤j∧j≤l∧m=l-j∧f.length=l∧(nQ (xs.take j)).length=q∧1≤q∧q≤j-1∧f.take q=nQ (xs.take j)∧f.drop (j-1)=xs.drop (j-1)∧
    aJ h0 T g (W.set i (own 1 (some ⟨b,0,none⟩) l c (az f))) R) (l-(k+1)) ⟨k+1,k,xs,by rw[show k+1-k=1 by omega];rfl,by omega,by omega,rfl,a,by rw[d,U0];omega,C,by omega,by rw[d],rfl,S.turn i e _ (fun G=>G) fun _ E=>E⟩ ?_
   clear S F D;rintro m s g ⟨j,q,f,rfl,ag,hj,rfl,J,V,X,ao,y,w,S⟩;have K:(W.set i (own 1 (some ⟨b,0,none⟩) l c (az f)))[i]? =some (own 1 (some ⟨b,0,none⟩) l c (az f)):=by rw[Ve H]
   unfold i7;dsimp only;refine am (fun ab=> ?_) (fun aa=> ?_)
   ·have B:j<xs.length:=by omega
    have row:bI g (some ⟨b,0,none⟩) (az f):=(S.own i K).row;have g1:f[j]? =some xs[j]:=by
     have:=congrArg (fun z:List Int=>z[1]?) w;simp only[VI] at this;rw[show j-1+1=j by omega] at this;rw[this,aO B]
    have g2:f[j-1]? =some xs[j-1]:=by
     have:=congrArg (fun z:List Int=>z[0]?) w;simp only[VI,Va] at this;rw[this,aO (by omega)]
    have L:=row.cell (aI g1);have Z:=row.cell (aI g2);simp only[aQ,SI] at L Z;have M:IntKind.wrap .i64 (((j-k:Nat):Int)-1)=((j-k-1:Nat):Int):=by rw[al (by omega)];omega
    rw[M];refine aB rfl rfl (by omega) (aB rfl rfl (by omega) ?_);simp only[oe,US,aQ];rw[show k+(j-k)=j by omega,show k+(j-k-1)=j-1 by omega];refine ae L (ae Z (bh (fun U=> ?_) (fun Q=> ?_)))
    ·refine aB rfl rfl (by omega) ?_;simp only[oe,US,aQ];rw[show k+(j-k)=j by omega];refine ae L (aB rfl rfl (by omega) ?_)
     try simp only[oe,US]
     refine EO S i K (k:=q) (by rw[av];omega) fun g3 _ S=> ?_;rw[bA,V7] at S;have A:=vS (xs:=xs) (i:=j) (by omega) B;rw[if_neg U] at A;rw[al (n:=(q:Int)+1) (by omega),al (n:=((j-k:Nat):Int)+1) (by omega)];refine⟨l-(j+1),by omega,j+1,q+1,f.set q xs[j],?_,by omega,by omega,rfl,by rw[U1];exact J,by rw[A,Rb,V];rfl,by omega,by omega,?_,?_,S⟩
     ·rw[show j+1-k=(j-k)+1 by omega];rfl
     ·rw[A,←y,py (by rw[U1];omega),Wq,List.take_set_of_le (U3 _)]
     ·rw[show j+1-1=j by omega,List.drop_set_of_lt (by omega)];have:=congrArg (fun z:List Int=>z.drop 1) w;simp only[W9] at this;rw[show j-1+1=j by omega] at this;exact this
    ·have A:=vS (xs:=xs) (i:=j) (by omega) B;rw[if_pos Q] at A;rw[al (n:=((j-k:Nat):Int)+1) (by omega)];refine⟨l-(j+1),by omega,j+1,q,f,?_,by omega,by omega,rfl,J,by rw[A];exact V,X,by omega,by rw[A];exact y,?_,S⟩
     ·rw[show j+1-k=(j-k)+1 by omega];rfl
     ·rw[show j+1-1=j by omega];have:=congrArg (fun z:List Int=>z.drop 1) w;simp only[W9] at this;rw[show j-1+1=j by omega] at this;exact this
   ·have ai:j=l:=by omega
    have Y:xs.take j=xs:=N6 (by omega);rw[Y] at V y;have I:=(S.own i K).2.1;refine ko (n:=q) rfl (by omega) ?_;rw[if_neg (show ¬c=q by omega)];simp only[Option.map_some,US];have hz:(Builtin.zeroCells (Value.int .i64 0).cells (l-q)).toList=az (List.replicate (l-q) 0):=by
     have:Builtin.zeroCells (Value.int .i64 0).cells (l-q)=((List.replicate (l-q) [Value.int .i64 0]).flatten).toArray:=by
      rw[←yi [Value.int .i64 0] 1 rfl (l-q)];apply Array.ext';simp[Builtin.zeroCells,Value.cells]
     rw[this,ib];simp[az]
    refine⟨fun h=>absurd h (by omega),fun _=> ?_⟩;rw[hz];refine Si S i K (k:=q) (by rw[av,av,UZ];omega) cX fun g3 _ S=> ?_;rw[V7] at S;refine ko (n:=q) rfl (by omega) ?_;simp only[aQ,ite_self,Nat.sub_zero,Va];refine⟨q,rfl,?_⟩;have e3:=S.turn i (Ve H) (own 1 (some ⟨b,0,none⟩) q c (az (nQ xs))) (fun G=> ?_) (fun _ E=>E)
    ·rw[V7] at e3;exact e3
    ·have hp:=qB.prefix1 G (k:=q) (by omega);have et:((az f).take q++az (List.replicate (l-q) 0)++(az f).drop (q+(az (List.replicate (l-q) 0)).length)).take q=az (nQ xs):=by
      rw[U6,V3 (by rw[U0,av];omega),WO,Nat.min_self,vL,y]
     rw[et] at hp;exact hp
  ·rw[al (by omega)];refine⟨l-(k+1),by omega,k+1,rfl,by omega,by omega,rfl,?_,S⟩;rw[vS C u,if_neg O,t,py u]
 ·refine⟨l,rfl,same S ?_⟩;have:k=l:=by omega
  subst this;rw[N6 (by omega)] at t;exact t
end
end
section
def H9 (ss:List Sl):Prop:=ss.Pairwise fun s t=> ∀a b:Addr,s.p=some a→t.p=some b→a.block≠b.block
def Sl.own (s:Sl):aY:=Sh.own 1 s.p s.l s.c (az s.xs)
def fy (ss:List Sl):aY:=
 {P:=fun h=>(∀s∈ss,s.own.P h)∧H9 ss,foot:=fun i=> ∃s∈ss,s.own.foot i,
  lt:=fun a ⟨s,hs,d⟩=>s.own.lt (a.1 s hs) d,
  loc:=fun a e hs=>⟨fun s hm=>s.own.loc (a.1 s hm) e fun b d=>hs b ⟨s,hm,d⟩,a.2⟩}
section
variable {h0 h:af} {T:Nat→Prop} {W R:List aY}
theorem Mn (S:aJ h0 T h W R):aJ h0 T h (W++[fy []]) R:=by
 have:=S.add (W1:=[fy []]) (R1:=[]) (U:=no) (aJ.one (cp.refl _ _) ⟨by simp,List.Pairwise.nil⟩ fun b ⟨s,a,_⟩=>by simp at a) fun b e d=>d;exact this
theorem Q3 (S:aJ h0 T h W R) (l:List Nat) (i j:Nat) {ss:List Sl} {s:Sl} (o:W[i]? =some (fy ss)) (q:W[j]? =some s.own) (v:(l++[i,j]).Nodup:=by decide):
 aJ h0 T h (Sh.pick W l++[fy (ss++[s])]) R:=by
 have n:=S.join l [i,j] v;have x:Sh.pick W [i,j]=[fy ss,s.own]:=by simp only[Sh.pick,o,q]
 rw[x] at n;have m:i≠j:=by
  have:=(Wa.1 v).2.1;simp at this;exact this
 have k: ∀t∈ss,∀a b:Addr,t.p=some a→s.p=some b→a.block≠b.block:=fun t d a b z f g=>
  S.ww i j _ _ o q m a.block ⟨t,d,a,z,rfl⟩ ⟨b,f,g.symm⟩
 have e:(Sh.pick W l++[bP [fy ss,s.own]])[(Sh.pick W l).length]? =some (bP [fy ss,s.own]):=by rw[VE]
 have S3:=n.turn (Sh.pick W l).length e (fy (ss++[s])) (fun H=>by
  have r:=H (fy ss) (by simp);have y:=H s.own (by simp);refine⟨fun t d=> ?_,?_⟩
  ·rcases UX.1 d with d|d
   ·exact r.1 t d
   ·simp only[SH] at d;subst d;exact y
  ·unfold H9;rw[VK];exact⟨r.2,WG _ _,fun t d u w=>by simp only[SH] at w;subst w;exact k t d⟩) (fun b ⟨t,d,f⟩=>by
  rcases UX.1 d with d|d
  ·exact⟨fy ss,by simp,t,d,f⟩
  ·simp only[SH] at d;subst d;exact⟨t.own,by simp,f⟩)
 rw[VB _ _ (U3 _),VJ] at S3;exact S3
theorem Pl (S:aJ h0 T h W R) (i:Nat) {ss:List Sl} {j k:Nat} {s:Sl} {a:Addr} {v:Int} {K:af→Prop} (e:W[i]? =some (fy ss)) (I:ss[j]? =some s) (U:s.p=some a) (hk:k<s.xs.length)
 (H: ∀C,aJ h0 T C (W.set i (fy (ss.set j {s with xs:=s.xs.set k v}))) R→K C):aW h (Addr.add a k) (.int .i64 v) K:=by
 have O:=S.w i _ e;have Q:=UR I;have Y:aJ h s.own.foot h [s.own] []:=aJ.one (cp.refl _ _) (O.1 s Q) fun b x _=>x;have Z:([s.own]:List aY)[0]? =some (Sh.own 1 (some a) s.l s.c (az s.xs)):=by rw[←U];rfl
 refine EO Y 0 Z (by rw[av];exact hk) fun C _ B=>H C ?_;rw[bA] at B;have o':({s with xs:=s.xs.set k v}:Sl).own.P C:=by
  have:=B.w 0 _ rfl;unfold Sl.own;rw[U];exact this
 have y:j<ss.length:=(Pt.1 I).1;have u:ss[j]=s:=by rw[aO y] at I;exact Option.some.inj I
 refine S.upd i e _ (B.fra.mono fun b _ x=>⟨s,Q,x⟩) ⟨fun t M=> ?_,?_⟩ fun b x=> .inl ?_
 ·obtain⟨m,d,rfl⟩:=Xa.1 M;rw[U1] at d;by_cases o:j=m
  ·subst o;rw[Wq];exact o'
  ·rw[Xd o];refine ss[m].own.loc (O.1 _ (UU d)) B.fra.size fun b x=>B.fra.same b (ss[m].own.lt (O.1 _ (UU d)) x) ?_;rintro⟨N,D,E⟩;obtain⟨G,g,r⟩:=x;have f:=O.2;unfold H9 at f;rw[List.pairwise_iff_getElem] at f;rcases Nat.lt_or_ge j m with J|aa
   ·exact f j m y d J N G (by rw[u];exact D) g (by rw[E,r])
   ·exact f m j d y (by omega) G N g (by rw[u];exact D) (by rw[E,r])
 ·have f:=O.2;unfold H9 at f ⊢;rw[List.pairwise_iff_getElem] at f ⊢;intro m n z A L;rw[U1] at z A;have X: ∀q (V:q<ss.length),((ss.set j {s with xs:=s.xs.set k v})[q]'(by rw[U1];exact V)).p=ss[q].p:=fun q V=>by
   by_cases F:j=q
   ·subst F;rw[Wq,u]
   ·rw[Xd F]
  rw[X m z,X n A];exact f m n z A L
 ·obtain⟨t,M,G,g,r⟩:=x;obtain⟨m,d,rfl⟩:=Xa.1 M;rw[U1] at d;refine⟨ss[m],UU d,G,?_,r⟩;by_cases o:j=m
  ·subst o;rw[Wq] at g;rw[u];exact g
  ·rw[Xd o] at g;exact g
theorem zY {ss:List Sl} {s:Sl} (O:(fy ss).P h) (a:s∈ss):bI h s.p (az s.xs):=qB.row (O.1 s a)
end
theorem Ha {α:Type} (f:α→List Value) (c:Nat) (a: ∀x,(f x).length=c): ∀(l:List α) (i j:Nat) (x y:α) (v:Value),l[i]? =some x→j<c→(f x).set j v=f y→(l.map f).flatten.set (i*c+j) v=((l.set i y).map f).flatten
 |[],i,j,x,y,v,h,_,_=>by simp at h
 |z::r,0,j,x,y,v,h,hj,e=>by
  simp at h;subst h;rw[Vg,VW,Nat.zero_mul,SI,List.set_append_left _ _ (by rw[a];exact hj),e];rfl
 |z::r,i+1,j,x,y,v,h,hj,e=>by
  rw[Vg,VW,VB _ _ (by rw[a,Vt];omega),a];have:=Ha f c a r i j x y v (by simpa using h) hj e;rw[show(i+1)*c+j-c=i*c+j by rw[Vt];omega,this];rfl
theorem Fb {ns:List Nv} {i j:Nat} {n a:Nv} {v:Value} (h:ns[i]? =some n) (b:j<15) (e:n.cells.set j v=a.cells):(aF ns).set (i*15+j) v=aF (ns.set i a):=
 Ha Nv.cells 15 Nv.cells_length ns i j n a v h b e
theorem kq (a:Addr) (K:Addr→Prop):cu (some a) K=K a:=propext ⟨fun⟨b,e,k⟩=>by cases e;exact k,fun k=>⟨a,rfl,k⟩⟩
theorem dz (n:Nv):n.cells=[.int .i64 n.kind,n.inn.v,.int .i64 n.width,.int .i64 n.size,.int .i64 n.step,.int .i64 n.gap,.int .i64 n.left,.int .i64 n.right,n.weights.v,n.bias.v,.int .i64 n.mult,.int .i64 n.shift,.int .i64 n.low,.int .i64 n.high,.int .i64 n.post]:=rfl
theorem JH (n:Nv) (x:Int):n.cells.set 14 (.int .i64 x)=({n with post:=x}:Nv).cells:=by rw[dz,dz];rfl
theorem Pm (n:Nv) (x:Int):n.cells.set 10 (.int .i64 x)=({n with mult:=x}:Nv).cells:=by rw[dz,dz];rfl
theorem Nx (n:Nv) (x:Int):n.cells.set 11 (.int .i64 x)=({n with shift:=x}:Nv).cells:=by rw[dz,dz];rfl
theorem Q4 (n:Nv) (x:Int):n.cells.set 12 (.int .i64 x)=({n with low:=x}:Nv).cells:=by rw[dz,dz];rfl
theorem Pn (n:Nv) (x:Int):n.cells.set 13 (.int .i64 x)=({n with high:=x}:Nv).cells:=by rw[dz,dz];rfl
theorem Q5 (n:Nv) (x:Sl):n.cells.set 1 x.v=({n with inn:=x}:Nv).cells:=by rw[dz,dz];rfl
theorem JI (n:Nv) (x:Sl):n.cells.set 8 x.v=({n with weights:=x}:Nv).cells:=by rw[dz,dz];rfl
theorem Po (n:Nv) (x:Sl):n.cells.set 9 x.v=({n with bias:=x}:Nv).cells:=by rw[dz,dz];rfl
def pG (a u:Nd):Option Nd:=
 if u.kind=10∧a.post=0 then some {a with post:=1,mult:=u.mult,shift:=u.shift}
 else if u.kind=9∧cn .i64 a.post 2=0 then some {a with post:=FL .i64 a.post 2,low:=u.low,high:=u.high}
 else none
def B1 (a u:Nv):Nv:=
 if u.kind=10∧a.post=0 then{a with post:=1,mult:=u.mult,shift:=u.shift}
 else if u.kind=9∧cn .i64 a.post 2=0 then{a with post:=FL .i64 a.post 2,low:=u.low,high:=u.high}
 else a
theorem Sn (a u:Nv):(B1 a u).nd=(pG a.nd u.nd).getD a.nd:=by
 have k:u.nd.kind=u.kind:=rfl;have p:a.nd.post=a.post:=rfl;unfold B1 pG;rw[k,p];split
 ·rfl
 ·split
  ·rfl
  ·rfl
theorem qH (a u:Nv):(B1 a u).inn=a.inn∧(B1 a u).weights=a.weights∧(B1 a u).bias=a.bias:=by
 unfold B1;split
 ·exact⟨rfl,rfl,rfl⟩
 ·split
  ·exact⟨rfl,rfl,rfl⟩
  ·exact⟨rfl,rfl,rfl⟩
section
variable {h0 h:af} {T:Nat→Prop} {W R:List aY}
theorem Mo (S:aJ h0 T h W R) (i:Nat) {b l c a:Nat} {ns:List Nv} {I:Nv} (e:W[i]? =some (own 15 (some ⟨b,0,none⟩) l c (aF ns))) (C:ns[a]? =some I) {x y z:Int} {t u:Nat} {E F G:Nv} (V:I.cells.set 14 (.int .i64 x)=E.cells) (X:E.cells.set t (.int .i64 y)=F.cells) (Y:F.cells.set u (.int .i64 z)=G.cells) (r:t<15) (s:u<15) {K:af→Prop} (H: ∀g,aJ h0 T g (W.set i (own 15 (some ⟨b,0,none⟩) l c (aF (ns.set a G)))) R→K g):
 aW h ⟨b,a*15+14,none⟩ (.int .i64 x) fun M=>aW M ⟨b,a*15+t,none⟩ (.int .i64 y) fun N=>aW N ⟨b,a*15+u,none⟩ (.int .i64 z) K:=by
 have o:i<W.length:=(Pt.1 e).1;have d:a<ns.length:=(Pt.1 C).1;have st: ∀{g:af} {m:List Nv} {j:Nat} {n w:Nv} {v:Int} {K:af→Prop},aJ h0 T g (W.set i (own 15 (some ⟨b,0,none⟩) l c (aF m))) R→m[a]? =some n→j<15→n.cells.set j (.int .i64 v)=w.cells→(∀f,aJ h0 T f (W.set i (own 15 (some ⟨b,0,none⟩) l c (aF (m.set a w)))) R→K f)→aW g ⟨b,a*15+j,none⟩ (.int .i64 v) K:=by
  intro g m j n w v K S D Q q H;have U:a<m.length:=(Pt.1 D).1;have:=EO S i (K:=K) (v:= .int .i64 v) (Ve o) (k:=a*15+j) (by rw[bW];omega) fun f _ A=>H f (by rw[V7,Fb D Q q] at A;exact A);rw[aQ,SI] at this;exact this
 refine st (m:=ns) (S.turn i e _ (fun P=>P) fun _ O=>O) C (by decide) V fun Z J=> ?_;refine st J (by rw[Ve d]) r X fun g2 B=> ?_;rw[V7] at B;refine st B (by rw[Ve d]) s Y fun L S3=> ?_;rw[V7] at S3;exact H L S3
theorem So (S:aJ h0 T h W R) (i:Nat) {b l c f H:Nat} {ns:List Nv} {d a:Nv} (e:W[i]? =some (own 15 (some ⟨b,0,none⟩) l c (aF ns))) (s:ns[f]? =some d) (u:ns[H]? =some a):
 au P uD #[.pointer (some ⟨b,f*15,none⟩),.pointer (some ⟨b,H*15,none⟩)] h fun v J=>v= .bool (pG d.nd a.nd).isSome∧aJ h0 T J (W.set i (own 15 (some ⟨b,0,none⟩) l c (aF (ns.set f (B1 d a))))) R:=by
 refine Es _ _ ?_;unfold GL;have M:i<W.length:=(Pt.1 e).1;have G:f<ns.length:=(Pt.1 s).1;have r: ∀{k j:Nat} {n:Nv} {v:Value},ns[k]? =some n→j<15→n.cells[j]? =some v→aD h ⟨b,k*15+j,none⟩=some v:=fun t N O=>by
  have:=(S.own i e).row.cell (i:=_*15+_) (by rw[lm t N];exact O);rw[aQ,SI] at this;exact this
 have A:a.nd.kind=a.kind:=rfl;have B:d.nd.post=d.post:=rfl;have z:(pG d.nd a.nd)=none→aJ h0 T h (W.set i (own 15 (some ⟨b,0,none⟩) l c (aF (ns.set f (B1 d a))))) R:=fun t=>by
  have I:B1 d a=d:=by
   unfold pG at t;rw[A,B] at t;unfold B1;split at t
   ·cases t
   ·rename_i m;split at t
    ·cases t
    ·rename_i o;rw[if_neg m,if_neg o]
  have es:ns.set f d=ns:=by
   rw[aO G] at s;rw[←Option.some.inj s,V4]
  rw[I,es];exact S.turn i e _ (fun L=>L) fun _ K=>K
 have scale:a.kind=10→d.post=0→aW h ⟨b,f*15+14,none⟩ (.int .i64 1) fun m=>aW m ⟨b,f*15+10,none⟩ (.int .i64 a.mult) fun o=>aW o ⟨b,f*15+11,none⟩ (.int .i64 a.shift) fun F=>
  Value.bool true= .bool (pG d.nd a.nd).isSome∧aJ h0 T F (W.set i (own 15 (some ⟨b,0,none⟩) l c (aF (ns.set f (B1 d a))))) R:=fun m o=>by
  refine Mo S i e s (JH d 1) (Pm _ a.mult) (Nx _ a.shift) (by decide) (by decide) fun g C=> ?_;have D:B1 d a={d with post:=1,mult:=a.mult,shift:=a.shift}:=by unfold B1;rw[if_pos ⟨m,o⟩]
  have E:(pG d.nd a.nd).isSome=true:=by unfold pG;rw[A,B,if_pos ⟨m,o⟩];rfl
  rw[D,E];exact⟨rfl,C⟩
 have clamp: ¬(a.kind=10∧d.post=0)→a.kind=9→cn .i64 d.post 2=0→aW h ⟨b,f*15+14,none⟩ (.int .i64 (FL .i64 d.post 2)) fun m=>aW m ⟨b,f*15+12,none⟩ (.int .i64 a.low) fun o=>aW o ⟨b,f*15+13,none⟩ (.int .i64 a.high) fun F=>
  Value.bool true= .bool (pG d.nd a.nd).isSome∧aJ h0 T F (W.set i (own 15 (some ⟨b,0,none⟩) l c (aF (ns.set f (B1 d a))))) R:=fun h0 m o=>by
  refine Mo S i e s (JH d (FL .i64 d.post 2)) (Q4 _ a.low) (Pn _ a.high) (by decide) (by decide) fun g C=> ?_;have D:B1 d a={d with post:=FL .i64 d.post 2,low:=a.low,high:=a.high}:=by unfold B1;rw[if_neg h0,if_pos ⟨m,o⟩]
  have E:(pG d.nd a.nd).isSome=true:=by unfold pG;rw[A,B,if_neg h0,if_pos ⟨m,o⟩];rfl
  rw[D,E];exact⟨rfl,C⟩
 have q: ¬(a.kind=10∧d.post=0)→ ¬(a.kind=9∧cn .i64 d.post 2=0)→Value.bool false= .bool (pG d.nd a.nd).isSome∧aJ h0 T h (W.set i (own 15 (some ⟨b,0,none⟩) l c (aF (ns.set f (B1 d a))))) R:=fun m o=>by
  have e:pG d.nd a.nd=none:=by unfold pG;rw[A,B,if_neg m,if_neg o]
  rw[e];exact⟨rfl,z e⟩
 simp only[kq,aQ];refine ae (n:=a.kind) (r (j:=0) u (by decide) rfl) (aH (fun y=> ?_) (fun y=> ?_))
 ·refine ae (n:=d.post) (r s (by decide) rfl) (aH (fun x=> ?_) (fun x=> ?_))
  ·refine ae (n:=a.mult) (r u (by decide) rfl) (ae (n:=a.shift) (r u (by decide) rfl) ?_);exact scale y x
  ·refine ae (n:=a.kind) (r (j:=0) u (by decide) rfl) (aH (fun w=>absurd w (by omega)) (fun w=> ?_));exact q (fun h=>x h.2) (fun h=>w h.1)
 ·refine ae (n:=a.kind) (r (j:=0) u (by decide) rfl) (aH (fun w=> ?_) (fun w=> ?_))
  ·refine ae (n:=d.post) (r s (by decide) rfl) (aH (fun x=> ?_) (fun x=> ?_))
   ·refine ae (n:=d.post) (r s (by decide) rfl) (ae (n:=a.low) (r u (by decide) rfl) (ae (n:=a.high) (r u (by decide) rfl) ?_));exact clamp (fun h=>y h.1) w x
   ·exact q (fun h=>y h.1) (fun h=>x h.2)
  ·exact q (fun h=>y h.1) (fun h=>w h.1)
end
end
section
def vT (ns:List Nv):List aY:=ns.flatMap fun n=>[n.weights.own,n.bias.own]
theorem Pp (ns:List Nv) (n:Nv):vT (ns++[n])=vT ns++[n.weights.own]++[n.bias.own]:=by simp[vT]
theorem Sl.own_row {s:Sl} {h:af} (o:s.own.P h):bI h s.p (az s.xs):=qB.row o
section
variable {h:af}
theorem Sq {gv:Gv} (G:gv.ok) (U:bI h gv.p (aF gv.ns)) (hr:(aU gv.ns).P h) (hl:gv.l<2 ^ 20) (hs: ∀n∈gv.ns,n.inn.l<2 ^ 40∧n.weights.l<2 ^ 40∧n.bias.l<2 ^ 40):
 au P xR #[gv.v] h fun v h'=> ∃f:Gv,v=f.v∧f.gr=gv.gr∧f.ok∧f.l=gv.l∧aJ h no h' [own 15 f.p f.l f.c (aF f.ns),fy (f.ns.map Nv.inn),bP (vT f.ns)] []:=by
 refine FT _ ?_;unfold IU;have M:=G.1;have S:=((aJ.start h no).read (row gv.p (aF gv.ns)) U).read (aU gv.ns) hr;refine aA (cs:=gv.cells) S fun b1 h1 _ S=> ?_;dsimp only[Xj,Xi] at S;refine aA S fun b3 h2 _ S=> ?_;dsimp only[Xj,Xi] at S;refine ak (p:=gv.p) (l:=gv.l) (c:=gv.c) (S.cell 0 rfl rfl) ?_;refine(Ns (S.row 0 rfl) M hl).mono ?_;rintro _ g3 ⟨B,o,rfl,C⟩;replace S:=S.add C fun _ _ h=>h;dsimp only[Xj,Xi] at S;refine⟨_,_,_,rfl,?_⟩;refine aE S 0 rfl (jb rfl) fun g4 _ S=> ?_;dsimp only[List.set] at S;refine ak (p:=B) (l:=gv.l) (c:=o) (S.cell 0 rfl rfl) ?_;replace S:=(Mn S).reads0;dsimp only[Xj,Xi] at S
 refine aP (fun mm s g=> ∃(i:Nat) (d:List Nv),s=(⟨b1,0,none⟩,⟨b3,0,none⟩,(gv.l:Int),(i:Int),())∧i≤gv.l∧mm=gv.l-i∧d.map Nv.nd=gv.ns.map Nv.nd∧d.drop i=gv.ns.drop i∧(∀n∈d,n.ok)∧
  aJ h no g [blk b1 ({gv with p:=B,c:=o}:Gv).cells,blk b3 (aL bT (zT bT)),own 15 B gv.l o (aF d),fy ((d.take i).map Nv.inn),bP (vT (d.take i))] [row gv.p (aF gv.ns),aU gv.ns]) gv.l ⟨0,gv.ns,rfl,by omega,rfl,rfl,rfl,G.2.2,S⟩ ?_
 clear S;rintro mm s g ⟨i,d,rfl,hi,rfl,F,L,Q,S⟩;have an:d.length=gv.l:=by rw[←M];have:=congrArg List.length F;simpa using this
 unfold BM;simp only[kq,aQ,SI];refine am (fun ar=> ?_) (fun ao=> ?_)
 ·have E:i<d.length:=by omega
  have N:i<gv.ns.length:=by omega
  obtain⟨a,en⟩: ∃n,gv.ns[i]? =some n:=⟨_,aO N⟩;have J:d[i]? =some a:=by
   have:=congrArg (fun z:List Nv=>z[0]?) L;simp only[VI,Va] at this;rw[this];exact en
  have u:=UR en;have m:=G.2.2 a u;have I:=hs a u;refine ak (p:=B) (l:=gv.l) (c:=o) (S.cell 0 rfl rfl) ?_;obtain⟨b,eb⟩: ∃b,B=some ⟨b,0,none⟩:=by
   obtain⟨_,_,⟨_,h0,_⟩|⟨b,cs,e,_⟩⟩:=S.own 2 rfl
   ·omega
   ·exact⟨b,e⟩
  subst eb;refine aB rfl rfl (by omega) ?_;simp only[oe,aQ,SI];have A: ∀{g:af} {W:List aY} {k:Nat} {j:Nat} {v:Value},aJ h no g W [row gv.p (aF gv.ns),aU gv.ns]→W[k]? =some (own 15 (some ⟨b,0,none⟩) gv.l o (aF d))→j<15→a.cells[j]? =some v→aD g ⟨b,i*15+j,none⟩=some v:=fun S e hj hv=>by
   have:=(S.own _ e).row.cell (i:=i*15+_) (by rw[lm J hj];exact hv);rw[aQ,SI] at this;exact this
  refine ak (p:=a.inn.p) (l:=a.inn.l) (c:=a.inn.c) (A S (k:=2) rfl (by decide) rfl) (ak (p:=a.weights.p) (l:=a.weights.l) (c:=a.weights.c) (A S (k:=2) rfl (by decide) rfl) (ak (p:=a.bias.p) (l:=a.bias.l) (c:=a.bias.c) (A S (k:=2) rfl (by decide) rfl) ?_));have w: ∀{g:af} {W:List aY},aJ h no g W [row gv.p (aF gv.ns),aU gv.ns]→a.rows.P g:=fun S=>S.r 1 _ rfl _ (U2 u);refine(Bb (w S a.inn.row (by simp)) m.1.1 I.1).mono ?_;rintro _ g5 ⟨X,c20,rfl,C⟩;replace S:=S.add C fun _ _ h=>h;dsimp only[Xj,Xi] at S;refine⟨_,_,_,rfl,aX (A S (k:=2) rfl (by decide) rfl) (aX (A S (k:=2) rfl (by decide) rfl) ?_)⟩;refine(Bb (w S a.weights.row (by simp)) m.2.1.1 I.2.1).mono ?_;rintro _ g6 ⟨Y,c22,rfl,C⟩;replace S:=S.add C fun _ _ h=>h;dsimp only[Xj,Xi] at S;refine⟨_,_,_,rfl,aX (A S (k:=2) rfl (by decide) rfl) (aX (A S (k:=2) rfl (by decide) rfl) ?_)⟩;refine(Bb (w S a.bias.row (by simp)) m.2.2.1 I.2.2).mono ?_;rintro _ g7 ⟨Z,c24,rfl,C⟩;replace S:=S.add C fun _ _ h=>h;dsimp only[Xj,Xi] at S;refine⟨_,_,_,rfl,aX (A S (k:=2) rfl (by decide) rfl) (aX (A S (k:=2) rfl (by decide) rfl) ?_)⟩
  have st: ∀{g:af} {W:List aY} {d:List Nv} {n n':Nv} {j:Nat} {v:Value} {K:af→Prop},aJ h no g W [row gv.p (aF gv.ns),aU gv.ns]→W[2]? =some (own 15 (some ⟨b,0,none⟩) gv.l o (aF d))→d[i]? =some n→j<15→n.cells.set j v=n'.cells→
   (∀g',aJ h no g' (W.set 2 (own 15 (some ⟨b,0,none⟩) gv.l o (aF (d.set i n')))) [row gv.p (aF gv.ns),aU gv.ns]→K g')→aW g ⟨b,i*15+j,none⟩ v K:=by
   intro g W d n n' j v K S e hm hj q H;have ap:i<d.length:=(Pt.1 hm).1;have:=EO S 2 (K:=K) (v:=v) e (k:=i*15+j) (by rw[bW];omega) fun g' _ S'=>H g' (by rw[Fb hm hj q] at S';exact S');rw[aQ,SI] at this;exact this
  refine st S rfl J (by decide) (Q5 a ⟨X,a.inn.l,c20,a.inn.xs⟩) fun g8 S=> ?_;dsimp only[List.set] at S;refine st S rfl (by rw[Ve E]) (by decide) (JI _ ⟨Y,a.weights.l,c22,a.weights.xs⟩) fun g9 S=> ?_;dsimp only[List.set] at S;refine st S rfl (by rw[V7,Ve E]) (by decide) (Po _ ⟨Z,a.bias.l,c24,a.bias.xs⟩) fun ai S=> ?_;dsimp only[List.set] at S;rw[V7,V7] at S;obtain⟨y,D⟩: ∃y:Nv,y={a with inn:=⟨X,a.inn.l,c20,a.inn.xs⟩,weights:=⟨Y,a.weights.l,c22,a.weights.xs⟩,bias:=⟨Z,a.bias.l,c24,a.bias.xs⟩}:=⟨_,rfl⟩;have aa:=(S.own 5 rfl).2.1;have ab:=(S.own 6 rfl).2.1;have ad:=(S.own 7 rfl).2.1;have S':aJ h no ai [blk b1 ({gv with p:=some ⟨b,0,none⟩,c:=o}:Gv).cells,blk b3 (aL bT (zT bT)),own 15 (some ⟨b,0,none⟩) gv.l o (aF (d.set i y)),fy ((d.take i).map Nv.inn),bP (vT (d.take i)),y.inn.own,y.weights.own,y.bias.own] [row gv.p (aF gv.ns),aU gv.ns]:=by rw[D];exact S
  have S2:=Q3 S' [0,1,2,4,6,7] 3 5 rfl rfl;have S3:=S2.joinR [0,1,2,5,6] 3 4 rfl rfl;have S4:=S3.joinR [0,1,2,4] 5 3 rfl rfl;have ag:(d.set i y).take (i+1)=d.take i++[y]:=by
   rw[py (by rw[U1];exact E),Wq,List.take_set_of_le (U3 _)]
  have V:y.nd=a.nd:=by rw[D];rfl
  rw[al (by omega)];refine⟨gv.l-(i+1),by omega,i+1,d.set i y,rfl,by omega,rfl,?_,?_,fun n U=> ?_,?_⟩
  ·rw[WL,V,F];have:(gv.ns.map Nv.nd)[i]? =some a.nd:=by rw[UW,en];rfl
   have O:i<(gv.ns.map Nv.nd).length:=by rw[UT];exact N
   rw[aO O] at this;rw[←Option.some.inj this,V4]
  ·rw[List.drop_set_of_lt (by omega)];have:=congrArg (fun z:List Nv=>z.drop 1) L;simpa[W9,Nat.add_comm] using this
  ·rcases Wc U with U|rfl
   ·exact Q n U
   ·rw[D];exact⟨⟨m.1.1,aa⟩,⟨m.2.1.1,ab⟩,⟨m.2.2.1,ad⟩⟩
  ·rw[ag,U4,Pp];exact S4
 ·have aj:i=d.length:=by omega
  subst aj;rw[Wv] at S;refine aN S 0 rfl (x:=({gv with p:=B,c:=o}:Gv).t) rfl ?_;refine cA S 1 rfl rfl (bu rfl) fun g5 _ S=> ?_;dsimp only[List.set] at S;refine aN S 1 rfl (x:=({gv with p:=B,c:=o}:Gv).t) rfl ?_;exact⟨{gv with p:=B,c:=o,ns:=d},rfl,by unfold Gv.gr;rw[←F],⟨an,(S.own 2 rfl).2.1,Q⟩,rfl,yu (S.pw [2,3,4])⟩
end
end
end Go.Proofs.YtdhpmegbmjoekaaGreatDoor.G

