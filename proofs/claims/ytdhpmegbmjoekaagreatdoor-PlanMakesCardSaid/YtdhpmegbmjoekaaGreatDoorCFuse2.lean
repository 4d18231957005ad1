/- CSlices CFuse CFuse2, in one text. -/
import Derived.Test.YtdhpmegbmjoekaaGreatDoorCGraph5
set_option linter.unusedVariables false
set_option linter.unusedSimpArgs false
namespace Go.Proofs.YtdhpmegbmjoekaaGreatDoor.G
open Go Go.Sh
section
theorem F4{ns:List Nv}: ∀y∈aD ns,ib y=true:=by
 intro y a;unfold aD at a;obtain⟨l,b,a⟩:=List.mem_flatten.1 a;obtain⟨n,_,rfl⟩:=VZ.1 b;exact aW (l:=cJ) rfl y a
section
variable {h:ah}
theorem zZ{p:Option Addr}{l c:Nat}{xs:List Int}(g:bD h p (az xs))(t:xs.length=l)(n:l<2 ^ 40):
 au P dA #[.slice p l c] h fun v f=> ∃d b,v= .slice d l b∧aG h no f [own 1 d l b (az xs)] []:=by
 refine nG _ _ _ ?_;have S:=(aG.start h no).read (row p (az xs)) g;cases p with
 |none=>
  have e:xs.length=0:=by
   cases hxl:xs.length with
   |zero=>rfl
   |succ k=>
    obtain⟨a,ea⟩:=g.some_of (by rw[av];omega);cases ea
  have i:xs=[]:=Wn.1 e;have j:l=0:=by omega
  subst i j;exact cC rfl ⟨none,0,rfl,yy (S.nil 1)⟩
 |some q=>
  refine bG rfl ?_;refine aA (cs:=[]) S fun r s _ S=> ?_;replace S:=S.toOwn 0 1 0 0 rfl (VX _);refine cI S 0 (ys:=az xs) rfl rfl (by decide) (by omega) (S.ro 0) (by rw[av];omega) dc fun d o b f m S=> ?_;have:o=l:=by omega
  subst this;exact⟨d,b,rfl,S.pick [0] []⟩
theorem N3{p:Option Addr}{l c:Nat}{ns:List Nv}(g:bD h p (aD ns))(t:ns.length=l)(n:l<2 ^ 20):
 au P dz #[.slice p l c] h fun v f=> ∃d b,v= .slice d l b∧aG h no f [own 15 d l b (aD ns)] []:=by
 refine jm _ _ _ ?_;have S:=(aG.start h no).read (row p (aD ns)) g;cases p with
 |none=>
  have e:ns.length=0:=by
   cases hxl:ns.length with
   |zero=>rfl
   |succ k=>
    obtain⟨a,ea⟩:=g.some_of (by rw[bE];omega);cases ea
  have i:ns=[]:=Wn.1 e;have j:l=0:=by omega
  subst i j;exact cC rfl ⟨none,0,rfl,yy (S.nil 15)⟩
 |some q=>
  refine bG rfl ?_;refine aA (cs:=[]) S fun r s _ S=> ?_;replace S:=S.toOwn 0 15 0 0 rfl (VX _);refine cI S 0 (ys:=aD ns) rfl rfl (by decide) (by omega) (S.ro 0) (by rw[bE];omega) F4 fun d o b f m S=> ?_;have:o=l:=by omega
  subst this;exact⟨d,b,rfl,S.pick [0] []⟩
theorem Hp{p:Option Addr}{l c:Nat}{xs:List Int}(j:bD h p (az xs))(u:xs.length=l)(n:l<2 ^ 62)(v:Int):
 au P fA #[.slice p l c,.int .i64 v] h fun r f=>r= .bool (decide (v∈xs))∧f=h:=by
 refine lD _ _ _ _ ?_;unfold jI;have I:au P gO #[.slice p l c,.int .i64 v] h fun r f=> ∃i:Int,r= .int .i64 i∧(0≤i↔v∈xs)∧f=h:=by
  refine nK _ _ _ _ ?_;refine aO (fun m s g=>g=h∧ ∃i:Nat,s=((p,l,c),v,(l:Int),(i:Int),())∧i≤l∧m=l-i∧v∉xs.take i) l ⟨rfl,0,rfl,by omega,rfl,by simp⟩ ?_;rintro m s g ⟨rfl,i,rfl,hi,rfl,a⟩;dsimp only;refine aq (fun o=> ?_) (fun k=> ?_)
  ·have b:i<xs.length:=by omega
   obtain⟨t,rfl⟩:=j.some_of (by rw[av];omega);refine aC rfl rfl (by omega) ?_;simp only[hC,VO];refine ae (j.cell (aF (bo b))) ?_;refine aH (fun e=>⟨_,rfl,⟨fun _=>by rw[e];exact VN b,fun _=>by omega⟩,by trivial⟩) (fun e=> ?_);rw[al (by omega)];refine⟨l-(i+1),by omega,by trivial,i+1,rfl,by omega,rfl,fun d=> ?_⟩;rw[gD b]at d;rcases VW.1 d with d|d
   ·exact a d
   ·simp only[VK]at d;exact e d
  ·rw[py (by omega)]at a;exact⟨_,rfl,⟨fun h=>by omega,fun q=>absurd q a⟩,rfl⟩
 refine I.mono ?_;rintro _ _ ⟨i,rfl,hi,rfl⟩;refine⟨_,rfl,?_,rfl⟩;congr 1;rw[decide_eq_decide];exact hi
theorem N4(p:Option Addr)(l c:Nat):au P gz #[.slice p l c] h fun v d=> ∃b,v= .func (.func cE) #[] #[.pointer (some ⟨b,0,none⟩)]∧aG h no d [aJ b [.slice p l c]] []:=by
 refine mS _ _ _ ?_;have S:=aG.start h no;refine aA (cs:=[.slice p l c]) S fun a e _ S=> ?_;exact⟨a,rfl,S⟩
end
def fr(a:List Int)(x:Int):List Int:=if a.getLast? =some x then a else a++[x]
def nA(xs:List Int):List Int:=xs.foldl fr []
theorem F5(xs:List Int)(x:Int):nA (xs++[x])=fr (nA xs) x:=by simp[nA,V7]
theorem N5(xs:List Int)(x:Int):(nA (xs++[x])).getLast? =some x:=by
 rw[F5];unfold fr;split
 ·rename_i h;exact h
 ·simp
theorem vm{xs:List Int}{i:Nat}(d:1≤i)(hi:i<xs.length):nA (xs.take (i+1))=if xs[i]=xs[i-1] then nA (xs.take i) else nA (xs.take i)++[xs[i]]:=by
 rw[gD hi,F5];have e:xs.take i=xs.take (i-1)++[xs[i-1]]:=by
  have:=gD (l:=xs) (i:=i-1) (by omega);rw[←this];congr 1;omega
 unfold fr;have b:(nA (xs.take i)).getLast? =some xs[i-1]:=by rw[e];exact N5 _ _
 rw[b];by_cases a:xs[i]=xs[i-1]
 ·rw[if_pos (by rw[a]),if_pos a]
 ·rw[if_neg (fun h=>a (Option.some.inj h).symm),if_neg a]
theorem Jk(xs:List Int):(nA xs).length≤xs.length:=by
 have: ∀(l a:List Int),(l.foldl fr a).length≤a.length+l.length:=by
  intro l
  induction l with
  |nil=>intro a;simp
  |cons x r b=>
   intro a;rw[Wg];have:=b (fr a x);have d:(fr a x).length≤a.length+1:=by unfold fr;split<;>simp
   simp only[VS];omega
 have:=this xs [];simpa[nA] using this
theorem m8.prefix1{h:ah}{base:Nat}{p:Option Addr}{l c k:Nat}{xs:List Value}(o:m8 h base 1 p l c xs)(n:k≤l):m8 h base 1 p k c (xs.take k):=by
 obtain⟨j,m,⟨rfl,rfl,rfl⟩|⟨b,f,rfl,g,d,a,i⟩⟩:=o
 ·have:k=0:=by omega
  subst this;exact⟨by simp,VX _,.inl ⟨rfl,rfl,rfl⟩⟩
 ·refine⟨by rw[VV];omega,by omega,.inr ⟨b,f,rfl,g,d,a,?_⟩⟩;have e:(xs.take k).length=k:=by rw[VV];omega
  rw[e]
  conv=>rhs;rw[←i,List.take_take,Xd (by omega)]
section
variable {h0 h:ah} {T:Nat→Prop} {W R:List bc} {p:Option Addr} {l c:Nat} {xs:List Int}
theorem N6(S:aG h0 T h W R)(i:Nat)(e:W[i]? =some (own 1 p l c (az xs)))(aj:l<2 ^ 40):
 au P gj #[.slice p l c] h fun v h'=> ∃l',v= .slice p l' c∧aG h0 T h' (W.set i (own 1 p l' c (az (nA xs)))) R:=by
 refine lY _ _ _ ?_;have F:i<W.length:=(R8.1 e).1;have o:=S.own i e;have a:xs.length=l:=by have:=o.1;rw[av]at this;omega
 have Q:=o.2.1;have same: ∀{g:ah},aG h0 T g W R→nA xs=xs→aG h0 T g (W.set i (own 1 p l c (az (nA xs)))) R:=fun S ec=>S.turn i e _ (fun E=>by rw[ec];exact E) fun _ D=>D;refine aq (fun h2=>⟨l,rfl,same S ?_⟩) (fun h2=> ?_)
 ·match xs,a with
  |[],_=>rfl
  |[x],_=>rfl
  |_::_::_,a=>simp at a;omega
 obtain⟨b,rfl⟩: ∃b,p=some ⟨b,0,none⟩:=by
  obtain⟨_,_,⟨_,h0,_⟩|⟨b,cs,rfl,_⟩⟩:=o
  ·omega
  ·exact⟨b,rfl⟩
 refine aO (fun m s g=> ∃k:Nat,s=((some ⟨b,0,none⟩,l,c),(k:Int),())∧1≤k∧k≤l∧m=l-k∧nA (xs.take k)=xs.take k∧aG h0 T g W R) (l-1) ⟨1,rfl,by omega,by omega,rfl,?_,S⟩ ?_
 ·match xs,a with
  |[],_=>rfl
  |x::r,_=>rfl
 rintro m s g ⟨k,rfl,C,hk,rfl,t,S⟩;dsimp only;refine aq (fun an=> ?_) (fun ad=> ?_)
 ·have u:k<xs.length:=by omega
  have H:bD g (some ⟨b,0,none⟩) (az xs):=(S.own i e).row;have L:IntKind.wrap .i64 ((k:Int)-1)=((k-1:Nat):Int):=by rw[al (by omega)];omega
  rw[L];refine aC rfl rfl (by omega) (aC rfl rfl (by omega) ?_);simp only[hC,VO];refine ae (H.cell (aF (bo u))) (ae (H.cell (aF (bo (i:=k-1) (by omega)))) ?_);refine aH (fun N=> ?_) (fun N=> ?_)
  ·refine iH (n:=k) rfl (by omega) ?_;have M:=S.own i e;have Q:=M.2.1;rw[if_neg (show ¬c=k by omega)];simp only[Option.map_some,VO,aR,SN];have d:nA (xs.take (k+1))=xs.take k:=by rw[vm C u,if_pos N,t]
   refine aO (fun m s g=> ∃(j q:Nat)(f:List Int),s=((some ⟨b,0,none⟩,l,c),(q:Int),(some ⟨b,k,none⟩,l-k,c-k),((j-k:Nat):Int),())∧k+1≤j∧j≤l∧m=l-j∧f.length=l∧(nA (xs.take j)).length=q∧1≤q∧q≤j-1∧f.take q=nA (xs.take j)∧f.drop (j-1)=xs.drop (j-1)∧
    aG h0 T g (W.set i (own 1 (some ⟨b,0,none⟩) l c (az f))) R) (l-(k+1)) ⟨k+1,k,xs,by rw[show k+1-k=1 by omega];rfl,by omega,by omega,rfl,a,by rw[d,VV];omega,C,by omega,by rw[d],rfl,S.turn i e _ (fun E=>E) fun _ D=>D⟩ ?_
   rintro m s g ⟨j,q,f,rfl,ag,hj,rfl,G,V,X,ao,y,w,S⟩;have J:(W.set i (own 1 (some ⟨b,0,none⟩) l c (az f)))[i]? =some (own 1 (some ⟨b,0,none⟩) l c (az f)):=by rw[V4 F]
   dsimp only;refine aq (fun ab=> ?_) (fun aa=> ?_)
   ·have B:j<xs.length:=by omega
    have row:bD g (some ⟨b,0,none⟩) (az f):=(S.own i J).row;have g1:f[j]? =some xs[j]:=by
     have:=congrArg (fun z:List Int=>z[1]?) w;simp only[Wz]at this;rw[show j-1+1=j by omega]at this;rw[this,bo B]
    have g2:f[j-1]? =some xs[j-1]:=by
     have:=congrArg (fun z:List Int=>z[0]?) w;simp only[Wz,We]at this;rw[this,bo (by omega)]
    have I:=row.cell (aF g1);have Z:=row.cell (aF g2);simp only[aR,SN]at I Z;have K:IntKind.wrap .i64 (((j-k:Nat):Int)-1)=((j-k-1:Nat):Int):=by rw[al (by omega)];omega
    rw[K];refine aC rfl rfl (by omega) (aC rfl rfl (by omega) ?_);simp only[hC,VO,aR];rw[show k+(j-k)=j by omega,show k+(j-k-1)=j-1 by omega];refine ae I (ae Z (bh (fun U=> ?_) (fun O=> ?_)))
    ·refine aC rfl rfl (by omega) ?_;simp only[hC,VO,aR];rw[show k+(j-k)=j by omega];refine ae I (aC rfl rfl (by omega) ?_)
     try simp only[hC,VO]
     refine AK S i J (k:=q) (by rw[av];omega) fun g3 _ S=> ?_;rw[bB,Xc]at S;have A:=vm (xs:=xs) (i:=j) (by omega) B;rw[if_neg U]at A;rw[al (n:=(q:Int)+1) (by omega),al (n:=((j-k:Nat):Int)+1) (by omega)];refine⟨l-(j+1),by omega,j+1,q+1,f.set q xs[j],?_,by omega,by omega,rfl,by rw[VU];exact G,by rw[A,Tz,V];rfl,by omega,by omega,?_,?_,S⟩
     ·rw[show j+1-k=(j-k)+1 by omega];rfl
     ·rw[A,←y,gD (by rw[VU];omega),Xl,List.take_set_of_le (VX _)]
     ·rw[show j+1-1=j by omega,List.drop_set_of_lt (by omega)];have:=congrArg (fun z:List Int=>z.drop 1) w;simp only[XT]at this;rw[show j-1+1=j by omega]at this;exact this
    ·have A:=vm (xs:=xs) (i:=j) (by omega) B;rw[if_pos O]at A;rw[al (n:=((j-k:Nat):Int)+1) (by omega)];refine⟨l-(j+1),by omega,j+1,q,f,?_,by omega,by omega,rfl,G,by rw[A];exact V,X,by omega,by rw[A];exact y,?_,S⟩
     ·rw[show j+1-k=(j-k)+1 by omega];rfl
     ·rw[show j+1-1=j by omega];have:=congrArg (fun z:List Int=>z.drop 1) w;simp only[XT]at this;rw[show j-1+1=j by omega]at this;exact this
   ·have ai:j=l:=by omega
    have Y:xs.take j=xs:=py (by omega);rw[Y]at V y;refine iH (n:=q) rfl (by omega) ?_;rw[if_neg (show ¬c=q by omega)];simp only[Option.map_some,VO];have hz:(Builtin.zeroCells (Value.int .i64 0).cells (l-q)).toList=az (List.replicate (l-q) 0):=by
     have:Builtin.zeroCells (Value.int .i64 0).cells (l-q)=((List.replicate (l-q) [Value.int .i64 0]).flatten).toArray:=by
      rw[←xf [Value.int .i64 0] 1 rfl (l-q)];apply Array.ext';simp[Builtin.zeroCells,Value.cells]
     rw[this,iG];simp[az]
    refine⟨fun h=>absurd h (by omega),fun _=> ?_⟩;rw[hz];refine Tg S i J (k:=q) (by rw[av,av,VQ];omega) dc fun g3 _ S=> ?_;rw[Xc]at S;refine iH (n:=q) rfl (by omega) ?_;simp only[aR,ite_self,Nat.sub_zero,We];refine⟨q,rfl,?_⟩;have e3:=S.turn i (V4 F) (own 1 (some ⟨b,0,none⟩) q c (az (nA xs))) (fun E=> ?_) (fun _ D=>D)
    ·rw[Xc]at e3;exact e3
    ·have hp:=m8.prefix1 E (k:=q) (by omega);have et:((az f).take q++az (List.replicate (l-q) 0)++(az f).drop (q+(az (List.replicate (l-q) 0)).length)).take q=az (nA xs):=by
      rw[VY,W6 (by rw[VV,av];omega),List.take_take,Nat.min_self,vd,y]
     rw[et]at hp;exact hp
  ·rw[al (by omega)];refine⟨l-(k+1),by omega,k+1,rfl,by omega,by omega,rfl,?_,S⟩;rw[vm C u,if_neg N,t,gD u]
 ·refine⟨l,rfl,same S ?_⟩;have:k=l:=by omega
  subst this;rw[py (by omega)]at t;exact t
end
end
section
def Hq(ss:List Sl):Prop:=ss.Pairwise fun s t=> ∀a b:Addr,s.p=some a→t.p=some b→a.block≠b.block
def Sl.own(s:Sl):bc:=Sh.own 1 s.p s.l s.c (az s.xs)
def dw(ss:List Sl):bc:=
 {P:=fun h=>(∀s∈ss,s.own.P h)∧Hq ss,foot:=fun i=> ∃s∈ss,s.own.foot i,
  lt:=fun a ⟨s,hs,d⟩=>s.own.lt (a.1 s hs) d,
  loc:=fun a e hs=>⟨fun s hm=>s.own.loc (a.1 s hm) e fun b d=>hs b ⟨s,hm,d⟩,a.2⟩}
section
variable {h0 h:ah} {T:Nat→Prop} {W R:List bc}
theorem yw(S:aG h0 T h W R):aG h0 T h (W++[dw []]) R:=by
 have:=S.add (W1:=[dw []]) (R1:=[]) (U:=no) (aG.one (cd.refl _ _) ⟨by simp,List.Pairwise.nil⟩ fun b ⟨s,a,_⟩=>by simp at a) fun b e d=>d;exact this
theorem Hr(S:aG h0 T h W R)(l:List Nat)(i j:Nat){ss:List Sl}{s:Sl}(o:W[i]? =some (dw ss))(q:W[j]? =some s.own)(v:(l++[i,j]).Nodup:=by decide):
 aG h0 T h (Sh.pick W l++[dw (ss++[s])]) R:=by
 have n:=S.join l [i,j] v;have x:Sh.pick W [i,j]=[dw ss,s.own]:=by simp only[Sh.pick,o,q]
 rw[x]at n;have m:i≠j:=by
  have:=(W5.1 v).2.1;simp at this;exact this
 have k: ∀t∈ss,∀a b:Addr,t.p=some a→s.p=some b→a.block≠b.block:=fun t d a b z f g=>
  S.ww i j _ _ o q m a.block ⟨t,d,a,z,rfl⟩ ⟨b,f,g.symm⟩
 have e:(Sh.pick W l++[cM [dw ss,s.own]])[(Sh.pick W l).length]? =some (cM [dw ss,s.own]):=by rw[WS]
 have S3:=n.turn (Sh.pick W l).length e (dw (ss++[s])) (fun H=>by
  have r:=H (dw ss) (by simp);have y:=H s.own (by simp);refine⟨fun t d=> ?_,?_⟩
  ·rcases VW.1 d with d|d
   ·exact r.1 t d
   ·simp only[VK]at d;subst d;exact y
  ·unfold Hq;rw[WL];exact⟨r.2,XG _ _,fun t d u w=>by simp only[VK]at w;subst w;exact k t d⟩) (fun b ⟨t,d,f⟩=>by
  rcases VW.1 d with d|d
  ·exact⟨dw ss,by simp,t,d,f⟩
  ·simp only[VK]at d;subst d;exact⟨t.own,by simp,f⟩)
 rw[Wy _ _ (VX _),WD]at S3;exact S3
theorem Qf(S:aG h0 T h W R)(i:Nat){ss:List Sl}{j k:Nat}{s:Sl}{a:Addr}{v:Int}{K:ah→Prop}(e:W[i]? =some (dw ss))(I:ss[j]? =some s)(U:s.p=some a)(hk:k<s.xs.length)
 (H: ∀C,aG h0 T C (W.set i (dw (ss.set j {s with xs:=s.xs.set k v}))) R→K C):aQ h (Addr.add a k) (.int .i64 v) K:=by
 have O:=S.w i _ e;have Q:=VL I;have Y:aG h s.own.foot h [s.own] []:=aG.one (cd.refl _ _) (O.1 s Q) fun b x _=>x;have Z:([s.own]:List bc)[0]? =some (Sh.own 1 (some a) s.l s.c (az s.xs)):=by rw[←U];rfl
 refine AK Y 0 Z (by rw[av];exact hk) fun C _ B=>H C ?_;rw[bB]at B;have o':({s with xs:=s.xs.set k v}:Sl).own.P C:=by
  have:=B.wd 0;rw[U];exact this
 have y:j<ss.length:=(R8.1 I).1;have u:ss[j]=s:=by rw[bo y]at I;exact Option.some.inj I
 refine S.upd i e _ (B.fra.mono fun b _ x=>⟨s,Q,x⟩) ⟨fun t M=> ?_,?_⟩ fun b x=> .inl ?_
 ·obtain⟨m,d,rfl⟩:=Ya.1 M;rw[VU]at d;by_cases o:j=m
  ·subst o;rw[Xl];exact o'
  ·rw[Ye o];refine ss[m].own.loc (O.1 _ (VN d)) B.fra.size fun b x=>B.fra.same b (ss[m].own.lt (O.1 _ (VN d)) x) ?_;rintro⟨N,D,E⟩;obtain⟨G,g,r⟩:=x;have f:=O.2;unfold Hq at f;rw[List.pairwise_iff_getElem]at f;rcases Nat.lt_or_ge j m with J|aa
   ·exact f j m y d J N G (by rw[u];exact D) g (by rw[E,r])
   ·exact f m j d y (by omega) G N g (by rw[u];exact D) (by rw[E,r])
 ·have f:=O.2;unfold Hq at f ⊢;rw[List.pairwise_iff_getElem]at f ⊢;intro m n z A L;rw[VU]at z A;have X: ∀q (V:q<ss.length),((ss.set j {s with xs:=s.xs.set k v})[q]'(by rw[VU];exact V)).p=ss[q].p:=fun q V=>by
   by_cases F:j=q
   ·subst F;rw[Xl,u]
   ·rw[Ye F]
  rw[X m z,X n A];exact f m n z A L
 ·obtain⟨t,M,G,g,r⟩:=x;obtain⟨m,d,rfl⟩:=Ya.1 M;rw[VU]at d;refine⟨ss[m],VN d,G,?_,r⟩;by_cases o:j=m
  ·subst o;rw[Xl]at g;rw[u];exact g
  ·rw[Ye o]at g;exact g
theorem qf{ss:List Sl}{s:Sl}(O:(dw ss).P h)(a:s∈ss):bD h s.p (az s.xs):=m8.row (O.1 s a)
end
theorem F6{α:Type}(f:α→List Value)(c:Nat)(a: ∀x,(f x).length=c): ∀(l:List α)(i j:Nat)(x y:α)(v:Value),l[i]? =some x→j<c→(f x).set j v=f y→(l.map f).flatten.set (i*c+j) v=((l.set i y).map f).flatten
 |[],i,j,x,y,v,h,_,_=>by simp at h
 |z::r,0,j,x,y,v,h,hj,e=>by
  simp at h;subst h;rw[Wc,WR,WH,SN,List.set_append_left _ _ (by rw[a];exact hj),e];rfl
 |z::r,i+1,j,x,y,v,h,hj,e=>by
  rw[Wc,WR,Wy _ _ (by rw[a,Wr];omega),a];have:=F6 f c a r i j x y v (by simpa using h) hj e;rw[show(i+1)*c+j-c=i*c+j by rw[Wr];omega,this];rfl
theorem D4{ns:List Nv}{i j:Nat}{n a:Nv}{v:Value}(h:ns[i]? =some n)(b:j<15)(e:n.cells.set j v=a.cells):(aD ns).set (i*15+j) v=aD (ns.set i a):=
 F6 Nv.cells 15 Nv.cells_length ns i j n a v h b e
theorem j8(a:Addr)(K:Addr→Prop):cB (some a) K=K a:=propext ⟨fun⟨b,e,k⟩=>by cases e;exact k,fun k=>⟨a,rfl,k⟩⟩
theorem dq(n:Nv):n.cells=[.int .i64 n.kind,n.inn.v,.int .i64 n.width,.int .i64 n.size,.int .i64 n.step,.int .i64 n.gap,.int .i64 n.left,.int .i64 n.right,n.weights.v,n.bias.v,.int .i64 n.mult,.int .i64 n.shift,.int .i64 n.low,.int .i64 n.high,.int .i64 n.post]:=rfl
theorem yx(n:Nv)(x:Int):n.cells.set 14 (.int .i64 x)=({n with post:=x}:Nv).cells:=by rw[dq,dq];rfl
theorem Jl(n:Nv)(x:Int):n.cells.set 10 (.int .i64 x)=({n with mult:=x}:Nv).cells:=by rw[dq,dq];rfl
theorem F7(n:Nv)(x:Int):n.cells.set 11 (.int .i64 x)=({n with shift:=x}:Nv).cells:=by rw[dq,dq];rfl
theorem MA(n:Nv)(x:Int):n.cells.set 12 (.int .i64 x)=({n with low:=x}:Nv).cells:=by rw[dq,dq];rfl
theorem Jm(n:Nv)(x:Int):n.cells.set 13 (.int .i64 x)=({n with high:=x}:Nv).cells:=by rw[dq,dq];rfl
theorem Hs(n:Nv)(x:Sl):n.cells.set 1 x.v=({n with inn:=x}:Nv).cells:=by rw[dq,dq];rfl
theorem Jn(n:Nv)(x:Sl):n.cells.set 8 x.v=({n with weights:=x}:Nv).cells:=by rw[dq,dq];rfl
theorem Qg(n:Nv)(x:Sl):n.cells.set 9 x.v=({n with bias:=x}:Nv).cells:=by rw[dq,dq];rfl
def nF(a u:Nd):Option Nd:=
 if u.kind=10∧a.post=0 then some {a with post:=1,mult:=u.mult,shift:=u.shift}
 else if u.kind=9∧cF .i64 a.post 2=0 then some {a with post:=B3 .i64 a.post 2,low:=u.low,high:=u.high}
 else none
def wm(a u:Nv):Nv:=
 if u.kind=10∧a.post=0 then{a with post:=1,mult:=u.mult,shift:=u.shift}
 else if u.kind=9∧cF .i64 a.post 2=0 then{a with post:=B3 .i64 a.post 2,low:=u.low,high:=u.high}
 else a
theorem Qh(a u:Nv):(wm a u).nd=(nF a.nd u.nd).getD a.nd:=by
 have k:u.nd.kind=u.kind:=rfl;have p:a.nd.post=a.post:=rfl;unfold wm nF;rw[k,p];split
 ·rfl
 ·split
  ·rfl
  ·rfl
theorem nB(a u:Nv):(wm a u).inn=a.inn∧(wm a u).weights=a.weights∧(wm a u).bias=a.bias:=by
 unfold wm;split
 ·exact⟨rfl,rfl,rfl⟩
 ·split
  ·exact⟨rfl,rfl,rfl⟩
  ·exact⟨rfl,rfl,rfl⟩
section
variable {h0 h:ah} {T:Nat→Prop} {W R:List bc}
theorem MB(S:aG h0 T h W R)(i:Nat){b l c a:Nat}{ns:List Nv}{I:Nv}(e:W[i]? =some (own 15 (some ⟨b,0,none⟩) l c (aD ns)))(C:ns[a]? =some I){x y z:Int}{t u:Nat}{E F G:Nv}(V:I.cells.set 14 (.int .i64 x)=E.cells)(X:E.cells.set t (.int .i64 y)=F.cells)(Y:F.cells.set u (.int .i64 z)=G.cells)(r:t<15)(s:u<15){K:ah→Prop}(H: ∀g,aG h0 T g (W.set i (own 15 (some ⟨b,0,none⟩) l c (aD (ns.set a G)))) R→K g):
 aQ h ⟨b,a*15+14,none⟩ (.int .i64 x) fun M=>aQ M ⟨b,a*15+t,none⟩ (.int .i64 y) fun N=>aQ N ⟨b,a*15+u,none⟩ (.int .i64 z) K:=by
 have o:i<W.length:=(R8.1 e).1;have d:a<ns.length:=(R8.1 C).1;have st: ∀{g:ah}{m:List Nv}{j:Nat}{n w:Nv}{v:Int}{K:ah→Prop},aG h0 T g (W.set i (own 15 (some ⟨b,0,none⟩) l c (aD m))) R→m[a]? =some n→j<15→n.cells.set j (.int .i64 v)=w.cells→(∀f,aG h0 T f (W.set i (own 15 (some ⟨b,0,none⟩) l c (aD (m.set a w)))) R→K f)→aQ g ⟨b,a*15+j,none⟩ (.int .i64 v) K:=by
  intro g m j n w v K S D Q q H;have U:a<m.length:=(R8.1 D).1;have:=AK S i (K:=K) (v:= .int .i64 v) (V4 o) (k:=a*15+j) (by rw[bE];omega) fun f _ A=>H f (by rw[Xc,D4 D Q q]at A;exact A);rw[aR,SN]at this;exact this
 refine st (m:=ns) (S.turn i e _ (fun P=>P) fun _ O=>O) C (by decide) V fun Z J=> ?_;refine st J (by rw[V4 d]) r X fun g2 B=> ?_;rw[Xc]at B;refine st B (by rw[V4 d]) s Y fun L S3=> ?_;rw[Xc]at S3;exact H L S3
theorem Tu(S:aG h0 T h W R)(i:Nat){b l c f H:Nat}{ns:List Nv}{d a:Nv}(e:W[i]? =some (own 15 (some ⟨b,0,none⟩) l c (aD ns)))(s:ns[f]? =some d)(u:ns[H]? =some a):
 au P tP #[.pointer (some ⟨b,f*15,none⟩),.pointer (some ⟨b,H*15,none⟩)] h fun v J=>v= .bool (nF d.nd a.nd).isSome∧aG h0 T J (W.set i (own 15 (some ⟨b,0,none⟩) l c (aD (ns.set f (wm d a))))) R:=by
 refine Da _ _ ?_;unfold Fy;have G:f<ns.length:=(R8.1 s).1;have r: ∀{k j:Nat}{n:Nv}{v:Value},ns[k]? =some n→j<15→n.cells[j]? =some v→aB h ⟨b,k*15+j,none⟩=some v:=fun t M N=>by
  have:=(S.own i e).row.cell (i:=_*15+_) (by rw[iu t M];exact N);rw[aR,SN]at this;exact this
 have A:a.nd.kind=a.kind:=rfl;have B:d.nd.post=d.post:=rfl;have z:(nF d.nd a.nd)=none→aG h0 T h (W.set i (own 15 (some ⟨b,0,none⟩) l c (aD (ns.set f (wm d a))))) R:=fun t=>by
  have I:wm d a=d:=by
   unfold nF at t;rw[A,B]at t;unfold wm;split at t
   ·cases t
   ·rename_i m;split at t
    ·cases t
    ·rename_i o;rw[if_neg m,if_neg o]
  have es:ns.set f d=ns:=by
   rw[bo G]at s;rw[←Option.some.inj s,WJ]
  rw[I,es];exact S.turn i e _ (fun L=>L) fun _ K=>K
 have scale:a.kind=10→d.post=0→aQ h ⟨b,f*15+14,none⟩ (.int .i64 1) fun m=>aQ m ⟨b,f*15+10,none⟩ (.int .i64 a.mult) fun o=>aQ o ⟨b,f*15+11,none⟩ (.int .i64 a.shift) fun F=>
  Value.bool true= .bool (nF d.nd a.nd).isSome∧aG h0 T F (W.set i (own 15 (some ⟨b,0,none⟩) l c (aD (ns.set f (wm d a))))) R:=fun m o=>by
  refine MB S i e s (yx d 1) (Jl _ a.mult) (F7 _ a.shift) (by decide) (by decide) fun g C=> ?_;have D:wm d a={d with post:=1,mult:=a.mult,shift:=a.shift}:=by unfold wm;rw[if_pos ⟨m,o⟩]
  have E:(nF d.nd a.nd).isSome=true:=by unfold nF;rw[A,B,if_pos ⟨m,o⟩];rfl
  rw[D,E];exact⟨rfl,C⟩
 have clamp: ¬(a.kind=10∧d.post=0)→a.kind=9→cF .i64 d.post 2=0→aQ h ⟨b,f*15+14,none⟩ (.int .i64 (B3 .i64 d.post 2)) fun m=>aQ m ⟨b,f*15+12,none⟩ (.int .i64 a.low) fun o=>aQ o ⟨b,f*15+13,none⟩ (.int .i64 a.high) fun F=>
  Value.bool true= .bool (nF d.nd a.nd).isSome∧aG h0 T F (W.set i (own 15 (some ⟨b,0,none⟩) l c (aD (ns.set f (wm d a))))) R:=fun h0 m o=>by
  refine MB S i e s (yx d (B3 .i64 d.post 2)) (MA _ a.low) (Jm _ a.high) (by decide) (by decide) fun g C=> ?_;have D:wm d a={d with post:=B3 .i64 d.post 2,low:=a.low,high:=a.high}:=by unfold wm;rw[if_neg h0,if_pos ⟨m,o⟩]
  have E:(nF d.nd a.nd).isSome=true:=by unfold nF;rw[A,B,if_neg h0,if_pos ⟨m,o⟩];rfl
  rw[D,E];exact⟨rfl,C⟩
 have q: ¬(a.kind=10∧d.post=0)→ ¬(a.kind=9∧cF .i64 d.post 2=0)→Value.bool false= .bool (nF d.nd a.nd).isSome∧aG h0 T h (W.set i (own 15 (some ⟨b,0,none⟩) l c (aD (ns.set f (wm d a))))) R:=fun m o=>by
  have e:nF d.nd a.nd=none:=by unfold nF;rw[A,B,if_neg m,if_neg o]
  rw[e];exact⟨rfl,z e⟩
 simp only[j8,aR];refine ae (n:=a.kind) (r (j:=0) u (by decide) rfl) (aH (fun y=> ?_) (fun y=> ?_))
 ·refine ae (n:=d.post) (r s (by decide) rfl) (aH (fun x=> ?_) (fun x=> ?_))
  ·refine ae (n:=a.mult) (r u (by decide) rfl) (ae (n:=a.shift) (r u (by decide) rfl) ?_);exact scale y x
  ·refine ae (n:=a.kind) (r (j:=0) u (by decide) rfl) (aH (fun w=>absurd w (by omega)) (fun w=> ?_));exact q (fun h=>x h.2) (fun h=>w h.1)
 ·refine ae (n:=a.kind) (r (j:=0) u (by decide) rfl) (aH (fun w=> ?_) (fun w=> ?_))
  ·refine ae (n:=d.post) (r s (by decide) rfl) (aH (fun x=> ?_) (fun x=> ?_))
   ·refine ae (n:=d.post) (r s (by decide) rfl) (ae (n:=a.low) (r u (by decide) rfl) (ae (n:=a.high) (r u (by decide) rfl) ?_));exact clamp (fun h=>y h.1) w x
   ·exact q (fun h=>y h.1) (fun h=>x h.2)
  ·exact q (fun h=>y h.1) (fun h=>w h.1)
end
end
section
def vG(ns:List Nv):List bc:=ns.flatMap fun n=>[n.weights.own,n.bias.own]
theorem Qi(ns:List Nv)(n:Nv):vG (ns++[n])=vG ns++[n.weights.own]++[n.bias.own]:=by simp[vG]
theorem Sl.own_row{s:Sl}{h:ah}(o:s.own.P h):bD h s.p (az s.xs):=m8.row o
section
variable {h:ah}
theorem Tw{gv:Gv}(G:gv.ok)(U:bD h gv.p (aD gv.ns))(hr:(aM gv.ns).P h)(hl:gv.l<2 ^ 20)(hs: ∀n∈gv.ns,n.inn.l<2 ^ 40∧n.weights.l<2 ^ 40∧n.bias.l<2 ^ 40):
 au P wH #[gv.v] h fun v h'=> ∃f:Gv,v=f.v∧f.gr=gv.gr∧f.ok∧f.l=gv.l∧aG h no h' [own 15 f.p f.l f.c (aD f.ns),dw (f.ns.map Nv.inn),cM (vG f.ns)] []:=by
 refine E2 _ ?_;have M:=G.1;have S:=((aG.start h no).read (row gv.p (aD gv.ns)) U).read (aM gv.ns) hr;refine aA (cs:=gv.cells) S fun b1 h1 _ S=> ?_;refine aA S fun b3 h2 _ S=> ?_;refine ak (p:=gv.p) (l:=gv.l) (c:=gv.c) (S.c 0) ?_;refine(N3 (S.row 0 rfl) M hl).mono ?_;rintro _ g3 ⟨B,o,rfl,C⟩;replace S:=S.add C fun _ _ h=>h;refine⟨_,_,_,rfl,?_⟩;refine ck S 0 fun g4 _ S=> ?_;refine ak (p:=B) (l:=gv.l) (c:=o) (S.c 0) ?_;replace S:=(yw S).reads0
 refine aO (fun mm s g=> ∃(i:Nat)(d:List Nv),s=(⟨b1,0,none⟩,⟨b3,0,none⟩,(gv.l:Int),(i:Int),())∧i≤gv.l∧mm=gv.l-i∧d.map Nv.nd=gv.ns.map Nv.nd∧d.drop i=gv.ns.drop i∧(∀n∈d,n.ok)∧
  aG h no g [aJ b1 ({gv with p:=B,c:=o}:Gv).cells,aJ b3 (aK bz (zT bz)),own 15 B gv.l o (aD d),dw ((d.take i).map Nv.inn),cM (vG (d.take i))] [row gv.p (aD gv.ns),aM gv.ns]) gv.l ⟨0,gv.ns,rfl,by omega,rfl,rfl,rfl,G.2.2,S⟩ ?_
 rintro mm s g ⟨i,d,rfl,hi,rfl,F,L,Q,S⟩;have an:d.length=gv.l:=by rw[←M];have:=congrArg List.length F;simpa using this
 unfold AD;simp only[j8,aR,SN];refine aq (fun ar=> ?_) (fun ao=> ?_)
 ·have E:i<d.length:=by omega
  have N:i<gv.ns.length:=by omega
  obtain⟨a,en⟩: ∃n,gv.ns[i]? =some n:=⟨_,bo N⟩;have J:d[i]? =some a:=by
   have:=congrArg (fun z:List Nv=>z[0]?) L;simp only[Wz,We]at this;rw[this];exact en
  have u:=VL en;have m:=G.2.2 a u;have I:=hs a u;refine ak (p:=B) (l:=gv.l) (c:=o) (S.c 0) ?_;obtain⟨b,eb⟩: ∃b,B=some ⟨b,0,none⟩:=by
   obtain⟨_,_,⟨_,h0,_⟩|⟨b,cs,e,_⟩⟩:=S.own 2 rfl
   ·omega
   ·exact⟨b,e⟩
  subst eb;refine aC rfl rfl (by omega) ?_;simp only[hC,aR,SN];have A: ∀{g:ah}{W:List bc}{k:Nat}{j:Nat}{v:Value},aG h no g W [row gv.p (aD gv.ns),aM gv.ns]→W[k]? =some (own 15 (some ⟨b,0,none⟩) gv.l o (aD d))→j<15→a.cells[j]? =some v→aB g ⟨b,i*15+j,none⟩=some v:=fun S e hj hv=>by
   have:=(S.own _ e).row.cell (i:=i*15+_) (by rw[iu J hj];exact hv);rw[aR,SN]at this;exact this
  refine ak (p:=a.inn.p) (l:=a.inn.l) (c:=a.inn.c) (A S (k:=2) rfl (by decide) rfl) (ak (p:=a.weights.p) (l:=a.weights.l) (c:=a.weights.c) (A S (k:=2) rfl (by decide) rfl) (ak (p:=a.bias.p) (l:=a.bias.l) (c:=a.bias.c) (A S (k:=2) rfl (by decide) rfl) ?_));have w: ∀{g:ah}{W:List bc},aG h no g W [row gv.p (aD gv.ns),aM gv.ns]→a.rows.P g:=fun S=>S.r 1 _ rfl _ (V1 u);refine(zZ (w S a.inn.row (by simp)) m.1.1 I.1).mono ?_;rintro _ g5 ⟨X,c20,rfl,C⟩;replace S:=S.add C fun _ _ h=>h;refine⟨_,_,_,rfl,aX (A S (k:=2) rfl (by decide) rfl) (aX (A S (k:=2) rfl (by decide) rfl) ?_)⟩;refine(zZ (w S a.weights.row (by simp)) m.2.1.1 I.2.1).mono ?_;rintro _ g6 ⟨Y,c22,rfl,C⟩;replace S:=S.add C fun _ _ h=>h;refine⟨_,_,_,rfl,aX (A S (k:=2) rfl (by decide) rfl) (aX (A S (k:=2) rfl (by decide) rfl) ?_)⟩;refine(zZ (w S a.bias.row (by simp)) m.2.2.1 I.2.2).mono ?_;rintro _ g7 ⟨Z,c24,rfl,C⟩;replace S:=S.add C fun _ _ h=>h;dsimp only[Yh,Yg]at S;refine⟨_,_,_,rfl,aX (A S (k:=2) rfl (by decide) rfl) (aX (A S (k:=2) rfl (by decide) rfl) ?_)⟩
  have st: ∀{g:ah}{W:List bc}{d:List Nv}{n n':Nv}{j:Nat}{v:Value}{K:ah→Prop},aG h no g W [row gv.p (aD gv.ns),aM gv.ns]→W[2]? =some (own 15 (some ⟨b,0,none⟩) gv.l o (aD d))→d[i]? =some n→j<15→n.cells.set j v=n'.cells→
   (∀g',aG h no g' (W.set 2 (own 15 (some ⟨b,0,none⟩) gv.l o (aD (d.set i n')))) [row gv.p (aD gv.ns),aM gv.ns]→K g')→aQ g ⟨b,i*15+j,none⟩ v K:=by
   intro g W d n n' j v K S e hm hj q H;have ap:i<d.length:=(R8.1 hm).1;have:=AK S 2 (K:=K) (v:=v) e (k:=i*15+j) (by rw[bE];omega) fun g' _ S'=>H g' (by rw[D4 hm hj q]at S';exact S');rw[aR,SN]at this;exact this
  refine st S rfl J (by decide) (Hs a ⟨X,a.inn.l,c20,a.inn.xs⟩) fun g8 S=> ?_;refine st S rfl (by rw[V4 E]) (by decide) (Jn _ ⟨Y,a.weights.l,c22,a.weights.xs⟩) fun g9 S=> ?_;refine st S rfl (by rw[Xc,V4 E]) (by decide) (Qg _ ⟨Z,a.bias.l,c24,a.bias.xs⟩) fun ai S=> ?_;dsimp only[List.set]at S;rw[Xc,Xc]at S;obtain⟨y,D⟩: ∃y:Nv,y={a with inn:=⟨X,a.inn.l,c20,a.inn.xs⟩,weights:=⟨Y,a.weights.l,c22,a.weights.xs⟩,bias:=⟨Z,a.bias.l,c24,a.bias.xs⟩}:=⟨_,rfl⟩;have aa:=(S.own 5 rfl).2.1;have ab:=(S.own 6 rfl).2.1;have ad:=(S.own 7 rfl).2.1;have S':aG h no ai [aJ b1 ({gv with p:=some ⟨b,0,none⟩,c:=o}:Gv).cells,aJ b3 (aK bz (zT bz)),own 15 (some ⟨b,0,none⟩) gv.l o (aD (d.set i y)),dw ((d.take i).map Nv.inn),cM (vG (d.take i)),y.inn.own,y.weights.own,y.bias.own] [row gv.p (aD gv.ns),aM gv.ns]:=by rw[D];exact S
  have S2:=Hr S' [0,1,2,4,6,7] 3 5 rfl rfl;have S3:=S2.joinR [0,1,2,5,6] 3 4 rfl rfl;have S4:=S3.joinR [0,1,2,4] 5 3 rfl rfl;have ag:(d.set i y).take (i+1)=d.take i++[y]:=by
   rw[gD (by rw[VU];exact E),Xl,List.take_set_of_le (VX _)]
  have V:y.nd=a.nd:=by rw[D];rfl
  rw[al (by omega)];refine⟨gv.l-(i+1),by omega,i+1,d.set i y,rfl,by omega,rfl,?_,?_,fun n U=> ?_,?_⟩
  ·rw[XH,V,F];have:(gv.ns.map Nv.nd)[i]? =some a.nd:=by rw[VP,en];rfl
   have O:i<(gv.ns.map Nv.nd).length:=by rw[Ug];exact N
   rw[bo O]at this;rw[←Option.some.inj this,WJ]
  ·rw[List.drop_set_of_lt (by omega)];have:=congrArg (fun z:List Nv=>z.drop 1) L;simpa[XT,Nat.add_comm] using this
  ·rcases Xe U with U|rfl
   ·exact Q n U
   ·rw[D];exact⟨⟨m.1.1,aa⟩,⟨m.2.1.1,ab⟩,⟨m.2.2.1,ad⟩⟩
  ·rw[ag,V2,Qi];exact S4
 ·have aj:i=d.length:=by omega
  subst aj;rw[Xr]at S;refine aL S 0 rfl (x:=({gv with p:=B,c:=o}:Gv).t) rfl ?_;refine bP S 1 rfl rfl (aW rfl) fun g5 _ S=> ?_;refine aL S 1 rfl (x:=({gv with p:=B,c:=o}:Gv).t) rfl ?_;exact⟨{gv with p:=B,c:=o,ns:=d},rfl,by unfold Gv.gr;rw[←F],⟨an,(S.own 2 rfl).2.1,Q⟩,rfl,yy (S.pw [2,3,4])⟩
