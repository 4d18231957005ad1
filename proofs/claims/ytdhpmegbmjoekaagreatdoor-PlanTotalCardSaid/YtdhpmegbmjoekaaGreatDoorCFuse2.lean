/- CSlices CFuse CFuse2, in one text. -/
import Derived.Test.YtdhpmegbmjoekaaGreatDoorCGraph5
section
namespace Go.Proofs.YtdhpmegbmjoekaaGreatDoor.G
open Go Go.Sh
set_option linter.unusedVariables false
set_option linter.unusedSimpArgs false
theorem Fn {ns:List Nv}: ∀y∈aF ns,mC y=true:=by
 intro y hy
 unfold aF at hy
 obtain⟨l,hl,hy⟩:=List.mem_flatten.1 hy
 obtain⟨n,_,rfl⟩:=List.mem_map.1 hl
 exact bC (l:=da) rfl y hy
section
variable {h:ae}
theorem zq {p:Option Addr} {l c:Nat} {xs:List Int} (hx:bT h p (az xs)) (hl:xs.length=l) (hl2:l<2 ^ 40):
 aq P cX #[.slice p l c] h fun v h'=> ∃p' c',v= .slice p' l c'∧aK h no h' [own 1 p' l c' (az xs)] []:=by
 refine nH _ _ _ ?_
 unfold lu
 have S:=(aK.start h no).read (row p (az xs)) hx
 cases p with
 |none=>
  have hx0:xs.length=0:=by
   cases hxl:xs.length with
   |zero=>rfl
   |succ k=>
    obtain⟨a,ea⟩:=hx.some_of (by rw[aB];omega)
    cases ea
  have e0:xs=[]:=List.length_eq_zero_iff.1 hx0
  have el:l=0:=by omega
  subst e0 el
  exact cq rfl ⟨none,0,rfl,GQ (S.nil 1)⟩
 |some q=>
  refine bQ rfl ?_
  refine aC (cs:=[]) S fun b1 h1 _ S=> ?_
  replace S:=S.toOwn 0 1 0 0 rfl (Nat.le_refl _)
  refine dI S 0 (ys:=az xs) rfl rfl (by decide) (by omega) (S.row 0 rfl) (by rw[aB];omega) gO fun p' l' c' h' hl' S=> ?_
  have:l'=l:=by omega
  subst this
  exact⟨p',c',rfl,S.pick [0] []⟩
theorem Lu {p:Option Addr} {l c:Nat} {ns:List Nv} (hx:bT h p (aF ns)) (hl:ns.length=l) (hl2:l<2 ^ 20):
 aq P cQ #[.slice p l c] h fun v h'=> ∃p' c',v= .slice p' l c'∧aK h no h' [own 15 p' l c' (aF ns)] []:=by
 refine ji _ _ _ ?_
 unfold gw
 have S:=(aK.start h no).read (row p (aF ns)) hx
 cases p with
 |none=>
  have hx0:ns.length=0:=by
   cases hxl:ns.length with
   |zero=>rfl
   |succ k=>
    obtain⟨a,ea⟩:=hx.some_of (by rw[bY];omega)
    cases ea
  have e0:ns=[]:=List.length_eq_zero_iff.1 hx0
  have el:l=0:=by omega
  subst e0 el
  exact cq rfl ⟨none,0,rfl,GQ (S.nil 15)⟩
 |some q=>
  refine bQ rfl ?_
  refine aC (cs:=[]) S fun b1 h1 _ S=> ?_
  replace S:=S.toOwn 0 15 0 0 rfl (Nat.le_refl _)
  refine dI S 0 (ys:=aF ns) rfl rfl (by decide) (by omega) (S.row 0 rfl) (by rw[bY];omega) Fn fun p' l' c' h' hl' S=> ?_
  have:l'=l:=by omega
  subst this
  exact⟨p',c',rfl,S.pick [0] []⟩
theorem Gm {p:Option Addr} {l c:Nat} {xs:List Int} (hx:bT h p (az xs)) (hl:xs.length=l) (hl2:l<2 ^ 62) (v:Int):
 aq P dC #[.slice p l c,.int .i64 v] h fun r h'=>r= .bool (decide (v∈xs))∧h'=h:=by
 refine lL _ _ _ _ ?_
 unfold jL
 have I:aq P eT #[.slice p l c,.int .i64 v] h fun r h'=> ∃i:Int,r= .int .i64 i∧(0≤i↔v∈xs)∧h'=h:=by
  refine nG _ _ _ _ ?_
  unfold lf
  refine aT (fun m s g=>g=h∧ ∃i:Nat,s=((p,l,c),v,(l:Int),(i:Int),())∧i≤l∧m=l-i∧v∉xs.take i) l ⟨rfl,0,rfl,by omega,rfl,by simp⟩ ?_
  rintro m s g ⟨rfl,i,rfl,hi,rfl,hall⟩
  unfold jK
  dsimp only
  refine au (fun hlt=> ?_) (fun hge=> ?_)
  ·have hix:i<xs.length:=by omega
   obtain⟨aa,rfl⟩:=hx.some_of (by rw[aB];omega)
   refine aG rfl rfl (by omega) ?_
   simp only[Int.toNat_natCast,Nat.mul_one]
   refine af (hx.cell (aN (List.getElem?_eq_getElem hix))) ?_
   refine aO (fun e=>⟨_,rfl,⟨fun _=>by rw[e];exact List.getElem_mem hix,fun _=>by omega⟩,by trivial⟩) (fun e=> ?_)
   rw[al (by omega)]
   refine⟨l-(i+1),by omega,by trivial,i+1,rfl,by omega,rfl,fun hj=> ?_⟩
   rw[List.take_succ_eq_append_getElem hix] at hj
   rcases List.mem_append.1 hj with hj|hj
   ·exact hall hj
   ·simp only[List.mem_singleton] at hj;exact e hj
  ·rw[List.take_of_length_le (by omega)] at hall
   exact⟨_,rfl,⟨fun h=>by omega,fun hv=>absurd hv hall⟩,rfl⟩
 refine I.mono ?_
 rintro _ _ ⟨i,rfl,hi,rfl⟩
 refine⟨_,rfl,?_,rfl⟩
 congr 1
 rw[decide_eq_decide]
 exact hi
theorem Lw (p:Option Addr) (l c:Nat):aq P dX #[.slice p l c] h fun v h'=> ∃b,v= .func (.func bX) #[] #[.pointer (some ⟨b,0,none⟩)]∧aK h no h' [blk b [.slice p l c]] []:=by
 refine ng _ _ _ ?_
 unfold kA
 have S:=aK.start h no
 refine aC (cs:=[.slice p l c]) S fun b1 h1 _ S=> ?_
 exact⟨b1,rfl,S⟩
end
def ft (acc:List Int) (x:Int):List Int:=if acc.getLast? =some x then acc else acc++[x]
def ny (xs:List Int):List Int:=xs.foldl ft []
theorem Fo (xs:List Int) (x:Int):ny (xs++[x])=ft (ny xs) x:=by simp[ny,List.foldl_append]
theorem Lx (xs:List Int) (x:Int):(ny (xs++[x])).getLast? =some x:=by
 rw[Fo];unfold ft
 split
 ·rename_i h;exact h
 ·simp
theorem uk {xs:List Int} {i:Nat} (h1:1≤i) (hi:i<xs.length):ny (xs.take (i+1))=if xs[i]=xs[i-1] then ny (xs.take i) else ny (xs.take i)++[xs[i]]:=by
 rw[List.take_succ_eq_append_getElem hi,Fo]
 have e:xs.take i=xs.take (i-1)++[xs[i-1]]:=by
  have:=List.take_succ_eq_append_getElem (l:=xs) (i:=i-1) (by omega)
  rw[←this];congr 1;omega
 unfold ft
 have hl:(ny (xs.take i)).getLast? =some xs[i-1]:=by rw[e];exact Lx _ _
 rw[hl]
 by_cases hx:xs[i]=xs[i-1]
 ·rw[if_pos (by rw[hx]),if_pos hx]
 ·rw[if_neg (fun h=>hx (Option.some.inj h).symm),if_neg hx]
theorem HT (xs:List Int):(ny xs).length≤xs.length:=by
 have: ∀(l acc:List Int),(l.foldl ft acc).length≤acc.length+l.length:=by
  intro l
  induction l with
  |nil=>intro acc;simp
  |cons x r ih=>
   intro acc
   rw[List.foldl_cons]
   have:=ih (ft acc x)
   have h2:(ft acc x).length≤acc.length+1:=by unfold ft;split<;>simp
   simp only[List.length_cons];omega
 have:=this xs []
 simpa[ny] using this
theorem qF.prefix1 {h:ae} {base:Nat} {p:Option Addr} {l c k:Nat} {xs:List Value} (o:qF h base 1 p l c xs) (hk:k≤l):qF h base 1 p k c (xs.take k):=by
 obtain⟨h1,h2,⟨rfl,rfl,rfl⟩|⟨b,cs,rfl,hb,hat,hlen,ht⟩⟩:=o
 ·have:k=0:=by omega
  subst this
  exact⟨by simp,Nat.le_refl _,.inl ⟨rfl,rfl,rfl⟩⟩
 ·refine⟨by rw[List.length_take];omega,by omega,.inr ⟨b,cs,rfl,hb,hat,hlen,?_⟩⟩
  have e:(xs.take k).length=k:=by rw[List.length_take];omega
  rw[e]
  conv=>rhs;rw[←ht,List.take_take,Nat.min_eq_left (by omega)]
section
variable {h0 h:ae} {T:Nat→Prop} {W R:List bi} {p:Option Addr} {l c:Nat} {xs:List Int}
theorem Ly (S:aK h0 T h W R) (i:Nat) (e:W[i]? =some (own 1 p l c (az xs))) (hl2:l<2 ^ 40):
 aq P dM #[.slice p l c] h fun v h'=> ∃l',v= .slice p l' c∧aK h0 T h' (W.set i (own 1 p l' c (az (ny xs)))) R:=by
 refine mz _ _ _ ?_
 unfold ke
 have hiW:i<W.length:=(List.getElem?_eq_some_iff.1 e).1
 have o:=S.own i e
 have hlen:xs.length=l:=by have:=o.1;rw[aB] at this;omega
 have hlc:=o.2.1
 have same: ∀{g:ae},aK h0 T g W R→ny xs=xs→aK h0 T g (W.set i (own 1 p l c (az (ny xs)))) R:=fun S ec=>S.turn i e _ (fun hh=>by rw[ec];exact hh) fun _ hb=>hb
 refine au (fun h2=>⟨l,rfl,same S ?_⟩) (fun h2=> ?_)
 ·match xs,hlen with
  |[],_=>rfl
  |[x],_=>rfl
  |_::_::_,hlen=>simp at hlen;omega
 obtain⟨b,rfl⟩: ∃b,p=some ⟨b,0,none⟩:=by
  obtain⟨_,_,⟨_,h0,_⟩|⟨b,cs,rfl,_⟩⟩:=o
  ·omega
  ·exact⟨b,rfl⟩
 refine aT (fun m s g=> ∃k:Nat,s=((some ⟨b,0,none⟩,l,c),(k:Int),())∧1≤k∧k≤l∧m=l-k∧ny (xs.take k)=xs.take k∧aK h0 T g W R) (l-1) ⟨1,rfl,by omega,by omega,rfl,?_,S⟩ ?_
 ·match xs,hlen with
  |[],_=>rfl
  |x::r,_=>rfl
 clear S o
 rintro m s g ⟨k,rfl,hk1,hk,rfl,hck,S⟩
 unfold i7
 dsimp only
 refine au (fun hlt=> ?_) (fun hge=> ?_)
 ·have hkx:k<xs.length:=by omega
  have rw0:bT g (some ⟨b,0,none⟩) (az xs):=(S.own i e).row
  have ek1:IntKind.wrap .i64 ((k:Int)-1)=((k-1:Nat):Int):=by rw[al (by omega)];omega
  rw[ek1]
  refine aG rfl rfl (by omega) (aG rfl rfl (by omega) ?_)
  simp only[Int.toNat_natCast,Nat.mul_one]
  refine af (rw0.cell (aN (List.getElem?_eq_getElem hkx))) (af (rw0.cell (aN (List.getElem?_eq_getElem (i:=k-1) (by omega)))) ?_)
  refine aO (fun hd=> ?_) (fun hd=> ?_)
  ·refine ja (n:=k) rfl (by omega) ?_
   have hcl:=S.own i e
   have hlc:=hcl.2.1
   rw[if_neg (show ¬c=k by omega)]
   simp only[Option.map_some,Nat.mul_one,aY,Nat.zero_add]
   have hstart:ny (xs.take (k+1))=xs.take k:=by rw[uk hk1 hkx,if_pos hd,hck]
   refine aT (fun m s g=> ∃(j q:Nat) (ys:List Int),s=((some ⟨b,0,none⟩,l,c),(q:Int),(some ⟨b,k,none⟩,l-k,c-k),((j-k:Nat):Int),())∧k+1≤j∧j≤l∧m=l-j∧ys.length=l∧(ny (xs.take j)).length=q∧1≤q∧q≤j-1∧ys.take q=ny (xs.take j)∧ys.drop (j-1)=xs.drop (j-1)∧
    aK h0 T g (W.set i (own 1 (some ⟨b,0,none⟩) l c (az ys))) R) (l-(k+1)) ⟨k+1,k,xs,by rw[show k+1-k=1 by omega];rfl,by omega,by omega,rfl,hlen,by rw[hstart,List.length_take];omega,hk1,by omega,by rw[hstart],rfl,S.turn i e _ (fun hh=>hh) fun _ hb=>hb⟩ ?_
   clear S hcl rw0
   rintro m s g ⟨j,q,ys,rfl,hj1,hj,rfl,hyl,hq,hq1,hqj,hyt,hyd,S⟩
   have e2:(W.set i (own 1 (some ⟨b,0,none⟩) l c (az ys)))[i]? =some (own 1 (some ⟨b,0,none⟩) l c (az ys)):=by rw[List.getElem?_set_self hiW]
   unfold i5
   dsimp only
   refine au (fun hlt2=> ?_) (fun hge2=> ?_)
   ·have hjx:j<xs.length:=by omega
    have row:bT g (some ⟨b,0,none⟩) (az ys):=(S.own i e2).row
    have g1:ys[j]? =some xs[j]:=by
     have:=congrArg (fun z:List Int=>z[1]?) hyd
     simp only[List.getElem?_drop] at this
     rw[show j-1+1=j by omega] at this
     rw[this,List.getElem?_eq_getElem hjx]
    have g2:ys[j-1]? =some xs[j-1]:=by
     have:=congrArg (fun z:List Int=>z[0]?) hyd
     simp only[List.getElem?_drop,Nat.add_zero] at this
     rw[this,List.getElem?_eq_getElem (by omega)]
    have c1:=row.cell (aN g1)
    have c2:=row.cell (aN g2)
    simp only[aY,Nat.zero_add] at c1 c2
    have ej1:IntKind.wrap .i64 (((j-k:Nat):Int)-1)=((j-k-1:Nat):Int):=by rw[al (by omega)];omega
    rw[ej1]
    refine aG rfl rfl (by omega) (aG rfl rfl (by omega) ?_)
    simp only[Int.toNat_natCast,Nat.mul_one,aY]
    rw[show k+(j-k)=j by omega,show k+(j-k-1)=j-1 by omega]
    refine af c1 (af c2 (bj (fun hne=> ?_) (fun heq=> ?_)))
    ·refine aG rfl rfl (by omega) ?_
     simp only[Int.toNat_natCast,Nat.mul_one,aY]
     rw[show k+(j-k)=j by omega]
     refine af c1 (aG rfl rfl (by omega) ?_)
     try simp only[Int.toNat_natCast,Nat.mul_one]
     refine C9 S i e2 (k:=q) (by rw[aB];omega) fun g3 _ S=> ?_
     rw[ck,List.set_set] at S
     have hc:=uk (xs:=xs) (i:=j) (by omega) hjx
     rw[if_neg hne] at hc
     rw[al (n:=(q:Int)+1) (by omega),al (n:=((j-k:Nat):Int)+1) (by omega)]
     refine⟨l-(j+1),by omega,j+1,q+1,ys.set q xs[j],?_,by omega,by omega,rfl,by rw[List.length_set];exact hyl,by rw[hc,List.length_append,hq];rfl,by omega,by omega,?_,?_,S⟩
     ·rw[show j+1-k=(j-k)+1 by omega];rfl
     ·rw[hc,←hyt,List.take_succ_eq_append_getElem (by rw[List.length_set];omega),List.getElem_set_self,List.take_set_of_le (Nat.le_refl _)]
     ·rw[show j+1-1=j by omega,List.drop_set_of_lt (by omega)]
      have:=congrArg (fun z:List Int=>z.drop 1) hyd
      simp only[List.drop_drop] at this
      rw[show j-1+1=j by omega] at this
      exact this
    ·have hc:=uk (xs:=xs) (i:=j) (by omega) hjx
     rw[if_pos heq] at hc
     rw[al (n:=((j-k:Nat):Int)+1) (by omega)]
     refine⟨l-(j+1),by omega,j+1,q,ys,?_,by omega,by omega,rfl,hyl,by rw[hc];exact hq,hq1,by omega,by rw[hc];exact hyt,?_,S⟩
     ·rw[show j+1-k=(j-k)+1 by omega];rfl
     ·rw[show j+1-1=j by omega]
      have:=congrArg (fun z:List Int=>z.drop 1) hyd
      simp only[List.drop_drop] at this
      rw[show j-1+1=j by omega] at this
      exact this
   ·have hjl:j=l:=by omega
    have hxt:xs.take j=xs:=List.take_of_length_le (by omega)
    rw[hxt] at hq hyt
    have hlc:=(S.own i e2).2.1
    refine ja (n:=q) rfl (by omega) ?_
    rw[if_neg (show ¬c=q by omega)]
    simp only[Option.map_some,Nat.mul_one]
    have hz:(Builtin.zeroCells (Value.int .i64 0).cells (l-q)).toList=az (List.replicate (l-q) 0):=by
     have:Builtin.zeroCells (Value.int .i64 0).cells (l-q)=((List.replicate (l-q) [Value.int .i64 0]).flatten).toArray:=by
      rw[←wh [Value.int .i64 0] 1 rfl (l-q)]
      apply Array.ext'
      simp[Builtin.zeroCells,Value.cells]
     rw[this,lH];simp[az]
    refine⟨fun h=>absurd h (by omega),fun _=> ?_⟩
    rw[hz]
    refine P5 S i e2 (k:=q) (by rw[aB,aB,List.length_replicate];omega) gO fun g3 _ S=> ?_
    rw[List.set_set] at S
    refine ja (n:=q) rfl (by omega) ?_
    simp only[aY,ite_self,Nat.sub_zero,Nat.add_zero]
    refine⟨q,rfl,?_⟩
    have e3:=S.turn i (List.getElem?_set_self hiW) (own 1 (some ⟨b,0,none⟩) q c (az (ny xs))) (fun hh=> ?_) (fun _ hb=>hb)
    ·rw[List.set_set] at e3;exact e3
    ·have hp:=qF.prefix1 hh (k:=q) (by omega)
     have et:((az ys).take q++az (List.replicate (l-q) 0)++(az ys).drop (q+(az (List.replicate (l-q) 0)).length)).take q=az (ny xs):=by
      rw[List.append_assoc,List.take_append_of_le_length (by rw[List.length_take,aB];omega),List.take_take,Nat.min_self,ud,hyt]
     rw[et] at hp
     exact hp
  ·rw[al (by omega)]
   refine⟨l-(k+1),by omega,k+1,rfl,by omega,by omega,rfl,?_,S⟩
   rw[uk hk1 hkx,if_neg hd,hck,List.take_succ_eq_append_getElem hkx]
 ·refine⟨l,rfl,same S ?_⟩
  have:k=l:=by omega
  subst this
  rw[List.take_of_length_le (by omega)] at hck
  exact hck
end
end Go.Proofs.YtdhpmegbmjoekaaGreatDoor.G
end
section
namespace Go.Proofs.YtdhpmegbmjoekaaGreatDoor.G
open Go Go.Sh
set_option linter.unusedVariables false
set_option linter.unusedSimpArgs false
def Gn (ss:List Sl):Prop:=ss.Pairwise fun s t=> ∀a b:Addr,s.p=some a→t.p=some b→a.block≠b.block
def Sl.own (s:Sl):bi:=Sh.own 1 s.p s.l s.c (az s.xs)
def fe (ss:List Sl):bi:=
 {P:=fun h=>(∀s∈ss,s.own.P h)∧Gn ss,foot:=fun i=> ∃s∈ss,s.own.foot i,
  lt:=fun a ⟨s,hs,hb⟩=>s.own.lt (a.1 s hs) hb,
  loc:=fun a hsz hs=>⟨fun s hm=>s.own.loc (a.1 s hm) hsz fun b hb=>hs b ⟨s,hm,hb⟩,a.2⟩}
section
variable {h0 h:ae} {T:Nat→Prop} {W R:List bi}
theorem Kq (S:aK h0 T h W R):aK h0 T h (W++[fe []]) R:=by
 have:=S.add (W1:=[fe []]) (R1:=[]) (U:=no) (aK.one (cu.refl _ _) ⟨by simp,List.Pairwise.nil⟩ fun b ⟨s,hs,_⟩=>by simp at hs) fun b hb hu=>hu
 exact this
theorem OT (S:aK h0 T h W R) (l:List Nat) (i j:Nat) {ss:List Sl} {s:Sl} (e1:W[i]? =some (fe ss)) (e2:W[j]? =some s.own) (hl:(l++[i,j]).Nodup:=by decide):
 aK h0 T h (Sh.pick W l++[fe (ss++[s])]) R:=by
 have S2:=S.join l [i,j] hl
 have ep:Sh.pick W [i,j]=[fe ss,s.own]:=by simp only[Sh.pick,e1,e2]
 rw[ep] at S2
 have hij:i≠j:=by
  have:=(List.nodup_append.1 hl).2.1
  simp at this;exact this
 have hap: ∀t∈ss,∀a b:Addr,t.p=some a→s.p=some b→a.block≠b.block:=fun t ht a b ha hb hab=>
  S.ww i j _ _ e1 e2 hij a.block ⟨t,ht,a,ha,rfl⟩ ⟨b,hb,hab.symm⟩
 have e:(Sh.pick W l++[cA [fe ss,s.own]])[(Sh.pick W l).length]? =some (cA [fe ss,s.own]):=by rw[List.getElem?_concat_length]
 have S3:=S2.turn (Sh.pick W l).length e (fe (ss++[s])) (fun H=>by
  have h1:=H (fe ss) (by simp)
  have h2:=H s.own (by simp)
  refine⟨fun t ht=> ?_,?_⟩
  ·rcases List.mem_append.1 ht with ht|ht
   ·exact h1.1 t ht
   ·simp only[List.mem_singleton] at ht;subst ht;exact h2
  ·unfold Gn
   rw[List.pairwise_append]
   exact⟨h1.2,List.pairwise_singleton _ _,fun t ht u hu=>by simp only[List.mem_singleton] at hu;subst hu;exact hap t ht⟩) (fun b ⟨t,ht,hb⟩=>by
  rcases List.mem_append.1 ht with ht|ht
  ·exact⟨fe ss,by simp,t,ht,hb⟩
  ·simp only[List.mem_singleton] at ht;subst ht;exact⟨t.own,by simp,hb⟩)
 rw[List.set_append_right _ _ (Nat.le_refl _),Nat.sub_self] at S3
 exact S3
theorem Nb (S:aK h0 T h W R) (i:Nat) {ss:List Sl} {j k:Nat} {s:Sl} {a:Addr} {v:Int} {K:ae→Prop} (e:W[i]? =some (fe ss)) (hj:ss[j]? =some s) (hp:s.p=some a) (hk:k<s.xs.length)
 (H: ∀h',aK h0 T h' (W.set i (fe (ss.set j {s with xs:=s.xs.set k v}))) R→K h'):bu h (Addr.add a k) (.int .i64 v) K:=by
 have O:=S.w i _ e
 have hm:=List.mem_of_getElem? hj
 have S1:aK h s.own.foot h [s.own] []:=aK.one (cu.refl _ _) (O.1 s hm) fun b hb _=>hb
 have e1:([s.own]:List bi)[0]? =some (Sh.own 1 (some a) s.l s.c (az s.xs)):=by rw[←hp];rfl
 refine C9 S1 0 e1 (by rw[aB];exact hk) fun h' _ S2=>H h' ?_
 rw[ck] at S2
 have o':({s with xs:=s.xs.set k v}:Sl).own.P h':=by
  have:=S2.w 0 _ rfl
  unfold Sl.own
  rw[hp];exact this
 have hjl:j<ss.length:=(List.getElem?_eq_some_iff.1 hj).1
 have hsj:ss[j]=s:=by rw[List.getElem?_eq_getElem hjl] at hj;exact Option.some.inj hj
 refine S.upd i e _ (S2.fra.mono fun b _ hb=>⟨s,hm,hb⟩) ⟨fun t ht=> ?_,?_⟩ fun b hb=> .inl ?_
 ·obtain⟨m,hml,rfl⟩:=List.mem_iff_getElem.1 ht
  rw[List.length_set] at hml
  by_cases hmj:j=m
  ·subst hmj;rw[List.getElem_set_self];exact o'
  ·rw[List.getElem_set_ne hmj]
   refine ss[m].own.loc (O.1 _ (List.getElem_mem hml)) S2.fra.size fun b hb=>S2.fra.same b (ss[m].own.lt (O.1 _ (List.getElem_mem hml)) hb) ?_
   rintro⟨a1,ha1,hb1⟩
   obtain⟨a2,ha2,hb2⟩:=hb
   have hpw:=O.2
   unfold Gn at hpw
   rw[List.pairwise_iff_getElem] at hpw
   rcases Nat.lt_or_ge j m with hlt|hge
   ·exact hpw j m hjl hml hlt a1 a2 (by rw[hsj];exact ha1) ha2 (by rw[hb1,hb2])
   ·exact hpw m j hml hjl (by omega) a2 a1 ha2 (by rw[hsj];exact ha1) (by rw[hb1,hb2])
 ·have hpw:=O.2
  unfold Gn at hpw ⊢
  rw[List.pairwise_iff_getElem] at hpw ⊢
  intro m n hm' hn' hmn
  rw[List.length_set] at hm' hn'
  have pe: ∀q (hq:q<ss.length),((ss.set j {s with xs:=s.xs.set k v})[q]'(by rw[List.length_set];exact hq)).p=ss[q].p:=fun q hq=>by
   by_cases hqj:j=q
   ·subst hqj;rw[List.getElem_set_self,hsj]
   ·rw[List.getElem_set_ne hqj]
  rw[pe m hm',pe n hn']
  exact hpw m n hm' hn' hmn
 ·obtain⟨t,ht,a2,ha2,hb2⟩:=hb
  obtain⟨m,hml,rfl⟩:=List.mem_iff_getElem.1 ht
  rw[List.length_set] at hml
  refine⟨ss[m],List.getElem_mem hml,a2,?_,hb2⟩
  by_cases hmj:j=m
  ·subst hmj;rw[List.getElem_set_self] at ha2;rw[hsj];exact ha2
  ·rw[List.getElem_set_ne hmj] at ha2;exact ha2
theorem xY {ss:List Sl} {s:Sl} (O:(fe ss).P h) (hs:s∈ss):bT h s.p (az s.xs):=qF.row (O.1 s hs)
end
theorem Fp {α:Type} (f:α→List Value) (c:Nat) (hc: ∀x,(f x).length=c): ∀(l:List α) (i j:Nat) (x y:α) (v:Value),l[i]? =some x→j<c→(f x).set j v=f y→(l.map f).flatten.set (i*c+j) v=((l.set i y).map f).flatten
 |[],i,j,x,y,v,h,_,_=>by simp at h
 |z::r,0,j,x,y,v,h,hj,e=>by
  simp at h;subst h
  rw[List.map_cons,List.flatten_cons,Nat.zero_mul,Nat.zero_add,List.set_append_left _ _ (by rw[hc];exact hj),e];rfl
 |z::r,i+1,j,x,y,v,h,hj,e=>by
  rw[List.map_cons,List.flatten_cons,List.set_append_right _ _ (by rw[hc,Nat.add_mul];omega),hc]
  have:=Fp f c hc r i j x y v (by simpa using h) hj e
  rw[show(i+1)*c+j-c=i*c+j by rw[Nat.add_mul];omega,this];rfl
theorem Dm {ns:List Nv} {i j:Nat} {n n':Nv} {v:Value} (h:ns[i]? =some n) (hj:j<15) (e:n.cells.set j v=n'.cells):(aF ns).set (i*15+j) v=aF (ns.set i n'):=
 Fp Nv.cells 15 Nv.cells_length ns i j n n' v h hj e
theorem kl (a:Addr) (K:Addr→Prop):cH (some a) K=K a:=propext ⟨fun⟨b,e,k⟩=>by cases e;exact k,fun k=>⟨a,rfl,k⟩⟩
theorem dp (n:Nv):n.cells=[.int .i64 n.kind,n.inn.v,.int .i64 n.width,.int .i64 n.size,.int .i64 n.step,.int .i64 n.gap,.int .i64 n.left,.int .i64 n.right,n.weights.v,n.bias.v,.int .i64 n.mult,.int .i64 n.shift,.int .i64 n.low,.int .i64 n.high,.int .i64 n.post]:=rfl
theorem HU (n:Nv) (x:Int):n.cells.set 14 (.int .i64 x)=({n with post:=x}:Nv).cells:=by rw[dp,dp];rfl
theorem Nc (n:Nv) (x:Int):n.cells.set 10 (.int .i64 x)=({n with mult:=x}:Nv).cells:=by rw[dp,dp];rfl
theorem Lz (n:Nv) (x:Int):n.cells.set 11 (.int .i64 x)=({n with shift:=x}:Nv).cells:=by rw[dp,dp];rfl
theorem OU (n:Nv) (x:Int):n.cells.set 12 (.int .i64 x)=({n with low:=x}:Nv).cells:=by rw[dp,dp];rfl
theorem Nf (n:Nv) (x:Int):n.cells.set 13 (.int .i64 x)=({n with high:=x}:Nv).cells:=by rw[dp,dp];rfl
theorem OV (n:Nv) (x:Sl):n.cells.set 1 x.v=({n with inn:=x}:Nv).cells:=by rw[dp,dp];rfl
theorem HV (n:Nv) (x:Sl):n.cells.set 8 x.v=({n with weights:=x}:Nv).cells:=by rw[dp,dp];rfl
theorem Ng (n:Nv) (x:Sl):n.cells.set 9 x.v=({n with bias:=x}:Nv).cells:=by rw[dp,dp];rfl
def qK (a u:Nd):Option Nd:=
 if u.kind=10∧a.post=0 then some {a with post:=1,mult:=u.mult,shift:=u.shift}
 else if u.kind=9∧cS .i64 a.post 2=0 then some {a with post:=DW .i64 a.post 2,low:=u.low,high:=u.high}
 else none
def Ac (a u:Nv):Nv:=
 if u.kind=10∧a.post=0 then{a with post:=1,mult:=u.mult,shift:=u.shift}
 else if u.kind=9∧cS .i64 a.post 2=0 then{a with post:=DW .i64 a.post 2,low:=u.low,high:=u.high}
 else a
theorem P9 (a u:Nv):(Ac a u).nd=(qK a.nd u.nd).getD a.nd:=by
 have k:u.nd.kind=u.kind:=rfl
 have p:a.nd.post=a.post:=rfl
 unfold Ac qK
 rw[k,p]
 split
 ·rfl
 ·split
  ·rfl
  ·rfl
theorem pS (a u:Nv):(Ac a u).inn=a.inn∧(Ac a u).weights=a.weights∧(Ac a u).bias=a.bias:=by
 unfold Ac;split
 ·exact⟨rfl,rfl,rfl⟩
 ·split
  ·exact⟨rfl,rfl,rfl⟩
  ·exact⟨rfl,rfl,rfl⟩
section
variable {h0 h:ae} {T:Nat→Prop} {W R:List bi}
theorem Kr (S:aK h0 T h W R) (i:Nat) {b l c ka:Nat} {ns:List Nv} {na:Nv} (e:W[i]? =some (own 15 (some ⟨b,0,none⟩) l c (aF ns))) (ha:ns[ka]? =some na) {x y z:Int} {j1 j2:Nat} {n1 n2 n3:Nv} (q1:na.cells.set 14 (.int .i64 x)=n1.cells) (q2:n1.cells.set j1 (.int .i64 y)=n2.cells) (q3:n2.cells.set j2 (.int .i64 z)=n3.cells) (hj1:j1<15) (hj2:j2<15) {K:ae→Prop} (H: ∀g,aK h0 T g (W.set i (own 15 (some ⟨b,0,none⟩) l c (aF (ns.set ka n3)))) R→K g):
 bu h ⟨b,ka*15+14,none⟩ (.int .i64 x) fun h1=>bu h1 ⟨b,ka*15+j1,none⟩ (.int .i64 y) fun h2=>bu h2 ⟨b,ka*15+j2,none⟩ (.int .i64 z) K:=by
 have hiW:i<W.length:=(List.getElem?_eq_some_iff.1 e).1
 have hka:ka<ns.length:=(List.getElem?_eq_some_iff.1 ha).1
 have st: ∀{g:ae} {m:List Nv} {j:Nat} {n n':Nv} {v:Int} {K:ae→Prop},aK h0 T g (W.set i (own 15 (some ⟨b,0,none⟩) l c (aF m))) R→m[ka]? =some n→j<15→n.cells.set j (.int .i64 v)=n'.cells→(∀g',aK h0 T g' (W.set i (own 15 (some ⟨b,0,none⟩) l c (aF (m.set ka n')))) R→K g')→bu g ⟨b,ka*15+j,none⟩ (.int .i64 v) K:=by
  intro g m j n n' v K S hm hj q H
  have hkm:ka<m.length:=(List.getElem?_eq_some_iff.1 hm).1
  have:=C9 S i (K:=K) (v:= .int .i64 v) (List.getElem?_set_self hiW) (k:=ka*15+j) (by rw[bY];omega) fun g' _ S'=>H g' (by rw[List.set_set,Dm hm hj q] at S';exact S')
  rw[aY,Nat.zero_add] at this
  exact this
 refine st (m:=ns) (S.turn i e _ (fun hh=>hh) fun _ hb=>hb) ha (by decide) q1 fun g1 S1=> ?_
 refine st S1 (by rw[List.getElem?_set_self hka]) hj1 q2 fun g2 S2=> ?_
 rw[List.set_set] at S2
 refine st S2 (by rw[List.getElem?_set_self hka]) hj2 q3 fun g3 S3=> ?_
 rw[List.set_set] at S3
 exact H g3 S3
theorem Qa (S:aK h0 T h W R) (i:Nat) {b l c ka ku:Nat} {ns:List Nv} {na nu:Nv} (e:W[i]? =some (own 15 (some ⟨b,0,none⟩) l c (aF ns))) (ha:ns[ka]? =some na) (hu:ns[ku]? =some nu):
 aq P ob #[.pointer (some ⟨b,ka*15,none⟩),.pointer (some ⟨b,ku*15,none⟩)] h fun v h'=>v= .bool (qK na.nd nu.nd).isSome∧aK h0 T h' (W.set i (own 15 (some ⟨b,0,none⟩) l c (aF (ns.set ka (Ac na nu))))) R:=by
 refine BA _ _ ?_
 unfold EL
 have hiW:i<W.length:=(List.getElem?_eq_some_iff.1 e).1
 have hka:ka<ns.length:=(List.getElem?_eq_some_iff.1 ha).1
 have ld: ∀{k j:Nat} {n:Nv} {v:Value},ns[k]? =some n→j<15→n.cells[j]? =some v→aD h ⟨b,k*15+j,none⟩=some v:=fun hn hj hv=>by
  have:=(S.own i e).row.cell (i:=_*15+_) (by rw[mN hn hj];exact hv)
  rw[aY,Nat.zero_add] at this
  exact this
 have ek:nu.nd.kind=nu.kind:=rfl
 have ep:na.nd.post=na.post:=rfl
 have stay:(qK na.nd nu.nd)=none→aK h0 T h (W.set i (own 15 (some ⟨b,0,none⟩) l c (aF (ns.set ka (Ac na nu))))) R:=fun hn=>by
  have et:Ac na nu=na:=by
   unfold qK at hn
   rw[ek,ep] at hn
   unfold Ac
   split at hn
   ·cases hn
   ·rename_i h1
    split at hn
    ·cases hn
    ·rename_i h2
     rw[if_neg h1,if_neg h2]
  have es:ns.set ka na=ns:=by
   rw[List.getElem?_eq_getElem hka] at ha
   rw[←Option.some.inj ha,List.set_getElem_self]
  rw[et,es]
  exact S.turn i e _ (fun hh=>hh) fun _ hb=>hb
 have scale:nu.kind=10→na.post=0→bu h ⟨b,ka*15+14,none⟩ (.int .i64 1) fun h1=>bu h1 ⟨b,ka*15+10,none⟩ (.int .i64 nu.mult) fun h2=>bu h2 ⟨b,ka*15+11,none⟩ (.int .i64 nu.shift) fun h3=>
  Value.bool true= .bool (qK na.nd nu.nd).isSome∧aK h0 T h3 (W.set i (own 15 (some ⟨b,0,none⟩) l c (aF (ns.set ka (Ac na nu))))) R:=fun h1 h2=>by
  refine Kr S i e ha (HU na 1) (Nc _ nu.mult) (Lz _ nu.shift) (by decide) (by decide) fun g S'=> ?_
  have e1:Ac na nu={na with post:=1,mult:=nu.mult,shift:=nu.shift}:=by unfold Ac;rw[if_pos ⟨h1,h2⟩]
  have e2:(qK na.nd nu.nd).isSome=true:=by unfold qK;rw[ek,ep,if_pos ⟨h1,h2⟩];rfl
  rw[e1,e2];exact⟨rfl,S'⟩
 have clamp: ¬(nu.kind=10∧na.post=0)→nu.kind=9→cS .i64 na.post 2=0→bu h ⟨b,ka*15+14,none⟩ (.int .i64 (DW .i64 na.post 2)) fun h1=>bu h1 ⟨b,ka*15+12,none⟩ (.int .i64 nu.low) fun h2=>bu h2 ⟨b,ka*15+13,none⟩ (.int .i64 nu.high) fun h3=>
  Value.bool true= .bool (qK na.nd nu.nd).isSome∧aK h0 T h3 (W.set i (own 15 (some ⟨b,0,none⟩) l c (aF (ns.set ka (Ac na nu))))) R:=fun h0 h1 h2=>by
  refine Kr S i e ha (HU na (DW .i64 na.post 2)) (OU _ nu.low) (Nf _ nu.high) (by decide) (by decide) fun g S'=> ?_
  have e1:Ac na nu={na with post:=DW .i64 na.post 2,low:=nu.low,high:=nu.high}:=by unfold Ac;rw[if_neg h0,if_pos ⟨h1,h2⟩]
  have e2:(qK na.nd nu.nd).isSome=true:=by unfold qK;rw[ek,ep,if_neg h0,if_pos ⟨h1,h2⟩];rfl
  rw[e1,e2];exact⟨rfl,S'⟩
 have nope: ¬(nu.kind=10∧na.post=0)→ ¬(nu.kind=9∧cS .i64 na.post 2=0)→Value.bool false= .bool (qK na.nd nu.nd).isSome∧aK h0 T h (W.set i (own 15 (some ⟨b,0,none⟩) l c (aF (ns.set ka (Ac na nu))))) R:=fun h1 h2=>by
  have e:qK na.nd nu.nd=none:=by unfold qK;rw[ek,ep,if_neg h1,if_neg h2]
  rw[e];exact⟨rfl,stay e⟩
 simp only[kl,aY]
 refine af (n:=nu.kind) (ld (j:=0) hu (by decide) rfl) (aO (fun k1=> ?_) (fun k1=> ?_))
 ·refine af (n:=na.post) (ld ha (by decide) rfl) (aO (fun p1=> ?_) (fun p1=> ?_))
  ·refine af (n:=nu.mult) (ld hu (by decide) rfl) (af (n:=nu.shift) (ld hu (by decide) rfl) ?_)
   exact scale k1 p1
  ·refine af (n:=nu.kind) (ld (j:=0) hu (by decide) rfl) (aO (fun k2=>absurd k2 (by omega)) (fun k2=> ?_))
   exact nope (fun h=>p1 h.2) (fun h=>k2 h.1)
 ·refine af (n:=nu.kind) (ld (j:=0) hu (by decide) rfl) (aO (fun k2=> ?_) (fun k2=> ?_))
  ·refine af (n:=na.post) (ld ha (by decide) rfl) (aO (fun p1=> ?_) (fun p1=> ?_))
   ·refine af (n:=na.post) (ld ha (by decide) rfl) (af (n:=nu.low) (ld hu (by decide) rfl) (af (n:=nu.high) (ld hu (by decide) rfl) ?_))
    exact clamp (fun h=>k1 h.1) k2 p1
   ·exact nope (fun h=>k1 h.1) (fun h=>p1 h.2)
  ·exact nope (fun h=>k1 h.1) (fun h=>k2 h.1)
end
end Go.Proofs.YtdhpmegbmjoekaaGreatDoor.G
end
section
namespace Go.Proofs.YtdhpmegbmjoekaaGreatDoor.G
open Go Go.Sh
set_option linter.unusedVariables false
set_option linter.unusedSimpArgs false
def ul (ns:List Nv):List bi:=ns.flatMap fun n=>[n.weights.own,n.bias.own]
theorem Nh (ns:List Nv) (n:Nv):ul (ns++[n])=ul ns++[n.weights.own]++[n.bias.own]:=by simp[ul]
theorem Sl.own_row {s:Sl} {h:ae} (o:s.own.P h):bT h s.p (az s.xs):=qF.row o
section
variable {h:ae}
theorem Qb {gv:Gv} (hok:gv.ok) (hn:bT h gv.p (aF gv.ns)) (hr:(aZ gv.ns).P h) (hl:gv.l<2 ^ 20) (hs: ∀n∈gv.ns,n.inn.l<2 ^ 40∧n.weights.l<2 ^ 40∧n.bias.l<2 ^ 40):
 aq P qo #[gv.v] h fun v h'=> ∃gv':Gv,v=gv'.v∧gv'.gr=gv.gr∧gv'.ok∧gv'.l=gv.l∧aK h no h' [own 15 gv'.p gv'.l gv'.c (aF gv'.ns),fe (gv'.ns.map Nv.inn),cA (ul gv'.ns)] []:=by
 refine Eo _ ?_
 unfold Hc
 have hgl:=hok.1
 have S:=((aK.start h no).read (row gv.p (aF gv.ns)) hn).read (aZ gv.ns) hr
 refine aC (cs:=gv.cells) S fun b1 h1 _ S=> ?_
 dsimp only[List.nil_append,List.cons_append] at S
 refine aC S fun b3 h2 _ S=> ?_
 dsimp only[List.nil_append,List.cons_append] at S
 refine am (p:=gv.p) (l:=gv.l) (c:=gv.c) (S.cell 0 rfl rfl) ?_
 refine(Lu (S.row 0 rfl) hgl hl).mono ?_
 rintro _ g3 ⟨p7,c7,rfl,S1⟩
 replace S:=S.add S1 fun _ _ h=>h
 dsimp only[List.nil_append,List.cons_append] at S
 refine⟨_,_,_,rfl,?_⟩
 refine aJ S 0 rfl (Nat.le_of_ble_eq_true rfl) fun g4 _ S=> ?_
 dsimp only[List.set] at S
 refine am (p:=p7) (l:=gv.l) (c:=c7) (S.cell 0 rfl rfl) ?_
 replace S:=(Kq S).reads0
 dsimp only[List.nil_append,List.cons_append] at S
 refine aT (fun mm s g=> ∃(i:Nat) (ms:List Nv),s=(⟨b1,0,none⟩,⟨b3,0,none⟩,(gv.l:Int),(i:Int),())∧i≤gv.l∧mm=gv.l-i∧ms.map Nv.nd=gv.ns.map Nv.nd∧ms.drop i=gv.ns.drop i∧(∀n∈ms,n.ok)∧
  aK h no g [blk b1 ({gv with p:=p7,c:=c7}:Gv).cells,blk b3 (aP bP (zT bP)),own 15 p7 gv.l c7 (aF ms),fe ((ms.take i).map Nv.inn),cA (ul (ms.take i))] [row gv.p (aF gv.ns),aZ gv.ns]) gv.l ⟨0,gv.ns,rfl,by omega,rfl,rfl,rfl,hok.2.2,S⟩ ?_
 clear S
 rintro mm s g ⟨i,ms,rfl,hi,rfl,hnd,hdr,hmo,S⟩
 have hml:ms.length=gv.l:=by rw[←hgl];have:=congrArg List.length hnd;simpa using this
 unfold zV
 simp only[kl,aY,Nat.zero_add]
 refine au (fun hlt=> ?_) (fun hge=> ?_)
 ·have him:i<ms.length:=by omega
  have hig:i<gv.ns.length:=by omega
  obtain⟨nv,en⟩: ∃n,gv.ns[i]? =some n:=⟨_,List.getElem?_eq_getElem hig⟩
  have enm:ms[i]? =some nv:=by
   have:=congrArg (fun z:List Nv=>z[0]?) hdr
   simp only[List.getElem?_drop,Nat.add_zero] at this
   rw[this];exact en
  have hmem:=List.mem_of_getElem? en
  have nok:=hok.2.2 nv hmem
  have hsz:=hs nv hmem
  refine am (p:=p7) (l:=gv.l) (c:=c7) (S.cell 0 rfl rfl) ?_
  obtain⟨b,eb⟩: ∃b,p7=some ⟨b,0,none⟩:=by
   obtain⟨_,_,⟨_,h0,_⟩|⟨b,cs,e,_⟩⟩:=S.own 2 rfl
   ·omega
   ·exact⟨b,e⟩
  subst eb
  refine aG rfl rfl (by omega) ?_
  simp only[Int.toNat_natCast,aY,Nat.zero_add]
  have ld: ∀{g:ae} {W:List bi} {k:Nat} {j:Nat} {v:Value},aK h no g W [row gv.p (aF gv.ns),aZ gv.ns]→W[k]? =some (own 15 (some ⟨b,0,none⟩) gv.l c7 (aF ms))→j<15→nv.cells[j]? =some v→aD g ⟨b,i*15+j,none⟩=some v:=fun S e hj hv=>by
   have:=(S.own _ e).row.cell (i:=i*15+_) (by rw[mN enm hj];exact hv)
   rw[aY,Nat.zero_add] at this
   exact this
  refine am (p:=nv.inn.p) (l:=nv.inn.l) (c:=nv.inn.c) (ld S (k:=2) rfl (by decide) rfl) (am (p:=nv.weights.p) (l:=nv.weights.l) (c:=nv.weights.c) (ld S (k:=2) rfl (by decide) rfl) (am (p:=nv.bias.p) (l:=nv.bias.l) (c:=nv.bias.c) (ld S (k:=2) rfl (by decide) rfl) ?_))
  have nrow: ∀{g:ae} {W:List bi},aK h no g W [row gv.p (aF gv.ns),aZ gv.ns]→nv.rows.P g:=fun S=>S.r 1 _ rfl _ (List.mem_map_of_mem hmem)
  refine(zq (nrow S nv.inn.row (by simp)) nok.1.1 hsz.1).mono ?_
  rintro _ g5 ⟨p20,c20,rfl,S1⟩
  replace S:=S.add S1 fun _ _ h=>h
  dsimp only[List.nil_append,List.cons_append] at S
  refine⟨_,_,_,rfl,bf (ld S (k:=2) rfl (by decide) rfl) (bf (ld S (k:=2) rfl (by decide) rfl) ?_)⟩
  refine(zq (nrow S nv.weights.row (by simp)) nok.2.1.1 hsz.2.1).mono ?_
  rintro _ g6 ⟨p22,c22,rfl,S1⟩
  replace S:=S.add S1 fun _ _ h=>h
  dsimp only[List.nil_append,List.cons_append] at S
  refine⟨_,_,_,rfl,bf (ld S (k:=2) rfl (by decide) rfl) (bf (ld S (k:=2) rfl (by decide) rfl) ?_)⟩
  refine(zq (nrow S nv.bias.row (by simp)) nok.2.2.1 hsz.2.2).mono ?_
  rintro _ g7 ⟨p24,c24,rfl,S1⟩
  replace S:=S.add S1 fun _ _ h=>h
  dsimp only[List.nil_append,List.cons_append] at S
  refine⟨_,_,_,rfl,bf (ld S (k:=2) rfl (by decide) rfl) (bf (ld S (k:=2) rfl (by decide) rfl) ?_)⟩
  have st: ∀{g:ae} {W:List bi} {ms:List Nv} {n n':Nv} {j:Nat} {v:Value} {K:ae→Prop},aK h no g W [row gv.p (aF gv.ns),aZ gv.ns]→W[2]? =some (own 15 (some ⟨b,0,none⟩) gv.l c7 (aF ms))→ms[i]? =some n→j<15→n.cells.set j v=n'.cells→
   (∀g',aK h no g' (W.set 2 (own 15 (some ⟨b,0,none⟩) gv.l c7 (aF (ms.set i n')))) [row gv.p (aF gv.ns),aZ gv.ns]→K g')→bu g ⟨b,i*15+j,none⟩ v K:=by
   intro g W ms n n' j v K S e hm hj q H
   have hkm:i<ms.length:=(List.getElem?_eq_some_iff.1 hm).1
   have:=C9 S 2 (K:=K) (v:=v) e (k:=i*15+j) (by rw[bY];omega) fun g' _ S'=>H g' (by rw[Dm hm hj q] at S';exact S')
   rw[aY,Nat.zero_add] at this
   exact this
  refine st S rfl enm (by decide) (OV nv ⟨p20,nv.inn.l,c20,nv.inn.xs⟩) fun g8 S=> ?_
  dsimp only[List.set] at S
  refine st S rfl (by rw[List.getElem?_set_self him]) (by decide) (HV _ ⟨p22,nv.weights.l,c22,nv.weights.xs⟩) fun g9 S=> ?_
  dsimp only[List.set] at S
  refine st S rfl (by rw[List.set_set,List.getElem?_set_self him]) (by decide) (Ng _ ⟨p24,nv.bias.l,c24,nv.bias.xs⟩) fun g10 S=> ?_
  dsimp only[List.set] at S
  rw[List.set_set,List.set_set] at S
  obtain⟨n3,en3⟩: ∃n3:Nv,n3={nv with inn:=⟨p20,nv.inn.l,c20,nv.inn.xs⟩,weights:=⟨p22,nv.weights.l,c22,nv.weights.xs⟩,bias:=⟨p24,nv.bias.l,c24,nv.bias.xs⟩}:=⟨_,rfl⟩
  have eo1:=(S.own 5 rfl).2.1
  have eo2:=(S.own 6 rfl).2.1
  have eo3:=(S.own 7 rfl).2.1
  have S':aK h no g10 [blk b1 ({gv with p:=some ⟨b,0,none⟩,c:=c7}:Gv).cells,blk b3 (aP bP (zT bP)),own 15 (some ⟨b,0,none⟩) gv.l c7 (aF (ms.set i n3)),fe ((ms.take i).map Nv.inn),cA (ul (ms.take i)),n3.inn.own,n3.weights.own,n3.bias.own] [row gv.p (aF gv.ns),aZ gv.ns]:=by rw[en3];exact S
  have S2:=OT S' [0,1,2,4,6,7] 3 5 rfl rfl
  have S3:=S2.joinR [0,1,2,5,6] 3 4 rfl rfl
  have S4:=S3.joinR [0,1,2,4] 5 3 rfl rfl
  have etk:(ms.set i n3).take (i+1)=ms.take i++[n3]:=by
   rw[List.take_succ_eq_append_getElem (by rw[List.length_set];exact him),List.getElem_set_self,List.take_set_of_le (Nat.le_refl _)]
  have n3nd:n3.nd=nv.nd:=by rw[en3];rfl
  rw[al (by omega)]
  refine⟨gv.l-(i+1),by omega,i+1,ms.set i n3,rfl,by omega,rfl,?_,?_,fun n hn=> ?_,?_⟩
  ·rw[List.map_set,n3nd,hnd]
   have:(gv.ns.map Nv.nd)[i]? =some nv.nd:=by rw[List.getElem?_map,en];rfl
   have hlt':i<(gv.ns.map Nv.nd).length:=by rw[List.length_map];exact hig
   rw[List.getElem?_eq_getElem hlt'] at this
   rw[←Option.some.inj this,List.set_getElem_self]
  ·rw[List.drop_set_of_lt (by omega)]
   have:=congrArg (fun z:List Nv=>z.drop 1) hdr
   simpa[List.drop_drop,Nat.add_comm] using this
  ·rcases List.mem_or_eq_of_mem_set hn with hn|rfl
   ·exact hmo n hn
   ·rw[en3];exact⟨⟨nok.1.1,eo1⟩,⟨nok.2.1.1,eo2⟩,⟨nok.2.2.1,eo3⟩⟩
  ·rw[etk,List.map_append,Nh]
   exact S4
 ·have hil:i=ms.length:=by omega
  subst hil
  rw[List.take_length] at S
  refine aQ S 0 rfl (x:=({gv with p:=p7,c:=c7}:Gv).t) rfl ?_
  refine cG S 1 rfl rfl (bC rfl) fun g5 _ S=> ?_
  dsimp only[List.set] at S
  refine aQ S 1 rfl (x:=({gv with p:=p7,c:=c7}:Gv).t) rfl ?_
  exact⟨{gv with p:=p7,c:=c7,ns:=ms},rfl,by unfold Gv.gr;rw[←hnd],⟨hml,(S.own 2 rfl).2.1,hmo⟩,rfl,GQ (S.pw [2,3,4])⟩
end
end Go.Proofs.YtdhpmegbmjoekaaGreatDoor.G
end
