/- CRngV CPRight CPRight2 CPTot, in one text. -/
import Derived.Test.YtdhpmegbmjoekaaGreatDoorCRng2
import Derived.Test.YtdhpmegbmjoekaaGreatDoorCReachV
import Derived.Test.YtdhpmegbmjoekaaGreatDoorCKeep12
import Derived.Test.YtdhpmegbmjoekaaGreatDoorCFld2
import Derived.Test.YtdhpmegbmjoekaaGreatDoorCPlan3
import Derived.Test.YtdhpmegbmjoekaaGreatDoorCLaw22
import Derived.Test.YtdhpmegbmjoekaaGreatDoorCTapeX4
section
namespace Go.Proofs.YtdhpmegbmjoekaaGreatDoor.G
open Go Go.Sh
set_option linter.unusedVariables false
set_option linter.unusedSimpArgs false
def Rg.in_ (r:Rg):Prop:= ¬(r.alo< -68719476736∨r.ahi>68719476736)
instance (r:Rg):Decidable r.in_:=by unfold Rg.in_;infer_instance
structure RE (g:Gr) (W:Int→Int) (V:Int→Rg):Prop where
 z:V 0=fC g.low g.high
 n: ∀(i:Nat) (n:Nd),g.nodes[i]? =some n→V ((i:Int)+1)=fy n (W (n.inn.getD 0 0)) (n.inn.map V)
theorem Bn {g:Gr} {W R:Int→Int} {pos:Int→Nat} (rt:bJ g W R pos) {V:Int→Rg} (hV:RE g W V): ∀(m k:Nat) (os:List Rg),m+k=(cU g.nodes).length→os.length=g.nodes.length+1→(∀x∈(0::(cU g.nodes).take k:List Int),os.getD x.toNat Rg.zero=V x)→
 ((jr g.nodes W ((cU g.nodes).drop k) os).isSome=true↔ ∀x∈(cU g.nodes).drop k,(V x).in_)
 |0,k,os,hm,hl,ho=>by
  rw[List.drop_of_length_le (by omega)]
  exact⟨fun _ x hx=>(by cases hx),fun _=>rfl⟩
 |m+1,k,os,hm,hl,ho=>by
  have hk:k<(cU g.nodes).length:=by omega
  have hxm:=fT g.nodes g.nodes.length _ (List.getElem_mem hk)
  obtain⟨i,ex⟩: ∃i:Nat,(cU g.nodes)[k]=(i:Int)+1:=⟨((cU g.nodes)[k]-1).toNat,by have:1≤(cU g.nodes)[k]:=hxm.1;omega⟩
  have hx2:(cU g.nodes)[k]≤(g.nodes.length:Int):=hxm.2
  rw[ex] at hx2
  obtain⟨n,en⟩: ∃n,g.nodes[i]? =some n:=⟨_,List.getElem?_eq_getElem (by omega)⟩
  have hin:n.inn.map (fun j=>os.getD j.toNat Rg.zero)=n.inn.map V:=List.map_congr_left fun j hj=>ho j (zu rt.ordered hk ex en hj)
  rw[List.drop_eq_getElem_cons hk,ex,wE (n:=n) (by rw[show((i:Int)+1).toNat-1=i by omega];exact en),hin,←hV.n i n en,show((i:Int)+1).toNat=i+1 by omega]
  have htk:(0::(cU g.nodes).take (k+1):List Int)=(0::(cU g.nodes).take k)++[(i:Int)+1]:=by rw[List.take_succ_eq_append_getElem hk,ex];rfl
  by_cases hb:(V ((i:Int)+1)).alo< -68719476736∨(V ((i:Int)+1)).ahi>68719476736
  ·rw[if_pos hb]
   exact⟨fun h=>(by cases h),fun h=>absurd hb (h _ List.mem_cons_self)⟩
  ·rw[if_neg hb,Bn rt hV m (k+1) _ (by omega) (by rw[List.length_set];exact hl) (fun x hx=> ?_)]
   ·exact⟨fun h x hx=>by rcases List.mem_cons.1 hx with rfl|hx;exact hb;exact h x hx,fun h x hx=>h x (List.mem_cons_of_mem _ hx)⟩
   ·rw[htk] at hx
    have hx0:0≤x:=by
     rcases List.mem_append.1 hx with h|h
     ·rcases List.mem_cons.1 h with rfl|h
      ·exact Int.le_refl _
      ·have:=(fT g.nodes g.nodes.length x (List.mem_of_mem_take h)).1;omega
     ·simp only[List.mem_singleton] at h;omega
    by_cases hxi:x=(i:Int)+1
    ·subst hxi
     rw[show((i:Int)+1).toNat=i+1 by omega,List.getD_eq_getElem?_getD,List.getElem?_set_self (by omega)];rfl
    ·rw[List.getD_eq_getElem?_getD,List.getElem?_set_ne (by omega),←List.getD_eq_getElem?_getD]
     rcases List.mem_append.1 hx with h|h
     ·exact ho x h
     ·simp only[List.mem_singleton] at h;exact absurd h hxi
theorem Bo {g:Gr} {W R:Int→Int} {pos:Int→Nat} (rt:bJ g W R pos) {V:Int→Rg} (hV:RE g W V):(g.ranges W).isSome=true↔ ∀(i:Nat),i<g.nodes.length→(V ((i:Int)+1)).in_:=by
 have K:=Bn rt hV (cU g.nodes).length 0 (fC g.low g.high::List.replicate g.nodes.length .zero) (by omega) (by simp) (fun x hx=>by
  have:x=0:=by simpa using hx
  subst this
  rw[hV.z];rfl)
 rw[List.drop_zero] at K
 unfold Gr.ranges
 rw[K]
 refine⟨fun h i hi=>h _ (pQ rt.ordered (by omega) (by omega)),fun h x hx=> ?_⟩
 have hm:=fT g.nodes g.nodes.length x hx
 have:=h (x-1).toNat (by omega)
 rw[show(((x-1).toNat:Nat):Int)+1=x by omega] at this
 exact this
abbrev LH:=Int×Int×Bool
def ym (v:LH):Rg:=⟨v.1,v.2.1,0,0⟩
theorem Bp {n:Nd} {w:Int} {rs rs':List Rg} (h1:rs.map Rg.lo=rs'.map Rg.lo) (h2:rs.map Rg.hi=rs'.map Rg.hi):fy n w rs=fy n w rs':=by
 have gl: ∀(l:List Rg),(l.getD 0 Rg.zero).lo=(l.map Rg.lo).getD 0 0:=fun l=>by cases l<;>rfl
 have gh: ∀(l:List Rg),(l.getD 0 Rg.zero).hi=(l.map Rg.hi).getD 0 0:=fun l=>by cases l<;>rfl
 have fl: ∀(b:Int) (l:List Rg),wD b l=(l.map Rg.lo).foldl (fun x y=>if y<x then y else x) b:=fun b l=>by unfold wD;rw[List.foldl_map]
 have fh: ∀(b:Int) (l:List Rg),nL b l=(l.map Rg.hi).foldl (fun x y=>if y>x then y else x) b:=fun b l=>by unfold nL;rw[List.foldl_map]
 have sl: ∀(l:List Rg),kZ Rg.lo l=(l.map Rg.lo).foldl (fun s x=>fc (s+x)) 0:=fun l=>by unfold kZ;rw[List.foldl_map]
 have sh: ∀(l:List Rg),kZ Rg.hi l=(l.map Rg.hi).foldl (fun s x=>fc (s+x)) 0:=fun l=>by unfold kZ;rw[List.foldl_map]
 unfold fy
 rw[gl rs,gl rs',gh rs,gh rs',fl,fl,fh,fh,sl,sl,sh,sh,h1,h2]
def KO (n:Nd) (vs:List LH) (w:Int):LH:=((fy n w (vs.map ym)).lo,(fy n w (vs.map ym)).hi,decide (fy n w (vs.map ym)).in_&&vs.all fun v=>v.2.2)
theorem FN (x m s:Int): -2147483648≤gG x m s∧gG x m s≤2147483647:=by
 unfold gG
 split
 ·split
  ·exact GZ _
  ·split<;>decide
 ·decide
theorem Iy {a u x:Nd} {ws:List Int} (ht:qK a u=some x) (hc:a.chk ws=0) (y:Int):mM x y=if u.kind=10 then gG (mM a y) u.mult u.shift else io (mM a y) u.low u.high:=by
 rcases DF ht with ⟨hk,hp,rfl⟩|⟨hk,hp,rfl⟩
 ·rw[if_pos hk]
  have e1:mM a y=iX y:=by
   unfold mM
   dsimp only
   rw[if_neg (fun h=>h (NE hp).2),if_neg (fun h=>h (NE hp).1)]
  rw[e1]
  unfold mM
  dsimp only
  rw[if_neg (by decide+kernel),if_pos (by decide+kernel)]
 ·rw[if_neg (by omega)]
  have e1:mM a y=if cS .i64 a.post 1≠0 then gG (iX y) a.mult a.shift else iX y:=by
   unfold mM
   dsimp only
   rw[if_neg (fun h=>h hp)]
  rw[e1]
  unfold mM
  dsimp only
  rcases Qd hc hp with h|h
  ·rw[h,if_pos (by decide+kernel),if_neg (by decide+kernel),if_neg (by decide+kernel)]
  ·rw[h,if_pos (by decide+kernel),if_pos (by decide+kernel),if_pos (by decide+kernel)]
theorem DY {a x:Nd} (hw:x.weights=a.weights) (hb:x.bias=a.bias) (l u:Int) (k:Nat):mL x l u k=mL a l u k:=by
 have e1:x.each=a.each:=by unfold Nd.each;rw[hw,hb]
 have e2: ∀c,x.ends l u c=a.ends l u c:=fun c=>by unfold Nd.ends;rw[e1,hw,hb]
 unfold mL
 rw[funext e2]
theorem Qw:QW KO where
 inn n l vs w h:=rfl
 take a u x ws vs w ht hw ha hu:=by
  obtain⟨t1,t2,t3,t4,t5,t6,t7,t8,t9,t10⟩:=LL ht
  have hku:u.kind=10∨u.kind=9:=(gV ht).2.2.2.2
  have hp:gM x=gM a:=by unfold gM;rw[t1,t4,t7,t8]
  obtain⟨l,u1,eN⟩: ∃l u1,∀n:Nd,jb n.kind→gM n=gM a→fy n w (vs.map ym)=cO n l u1:=
   ⟨if fc ((gM a).1+(gM a).2)>0 then(if 0<wD ((vs.map ym).getD 0 .zero).lo (vs.map ym) then 0 else wD ((vs.map ym).getD 0 .zero).lo (vs.map ym)) else wD ((vs.map ym).getD 0 .zero).lo (vs.map ym),
    if fc ((gM a).1+(gM a).2)>0 then(if 0>nL ((vs.map ym).getD 0 .zero).hi (vs.map ym) then 0 else nL ((vs.map ym).getD 0 .zero).hi (vs.map ym)) else nL ((vs.map ym).getD 0 .zero).hi (vs.map ym),fun n hn hq=>by
    unfold fy
    rw[if_pos hn,hq]⟩
  have eA:=eN a hw rfl
  have eX:=eN x (by rw[t1];exact hw) hp
  have eE:=DY t9 t10 l u1
  have hbl:x.bias.length=a.bias.length:=by rw[t10]
  obtain⟨z,ez⟩: ∃z:Int→Int,z=fun y=>if u.kind=10 then gG y u.mult u.shift else io y u.low u.high:=⟨_,rfl⟩
  have hz: ∀y,mM x y=z (mM a y):=fun y=>by rw[ez];exact Iy ht ha y
  have nwu: ¬jb u.kind:=by rintro(h|h|h)<;>omega
  have npu:fc ((gM u).1+(gM u).2)=0:=by
   unfold gM
   rw[if_neg (by rintro(h|h|h|h)<;>omega),if_neg (by omega)];rfl
  have zr: ∀y,-68719476736≤z y∧z y≤68719476736:=fun y=>by
   rw[ez]
   dsimp only
   have s5:=(iH hu).2.2.2.2.2.2.2.2.2.1.2.2.2.2
   obtain⟨_,_,⟨sl1,sl2⟩,⟨sh1,sh2⟩,slh⟩:=s5
   split
   ·have:=FN y u.mult u.shift;omega
   ·have q1: -2147483648≤u.low:=sl1
    have q2:u.high≤2147483647:=sh2
    unfold io
    split
    ·omega
    ·split<;>omega
  have eU: ∀(p q:Int),fy u (a.wid ws) [ym (p,q,true)]=fC (z p) (z q):=fun p q=>by
   have e1:wD ([ym (p,q,true)].getD 0 Rg.zero).lo [ym (p,q,true)]=p:=by show(if p<p then p else p)=p;split<;>rfl
   have e2:nL ([ym (p,q,true)].getD 0 Rg.zero).hi [ym (p,q,true)]=q:=by show(if q>q then q else q)=q;split<;>rfl
   unfold fy
   rw[if_neg nwu,if_neg (by rintro(h|h)<;>omega),if_neg (by omega),npu,e1,e2,ez]
   have n0: ¬(0:Int)>0:=by decide
   simp only[if_neg n0]
   rcases hku with h|h
   ·rw[if_neg (by omega),if_pos h,if_pos h,if_pos h]
   ·rw[if_pos h,if_neg (by omega),if_neg (by omega)]
  have eU2: ∀(v:LH),fy u (a.wid ws) ([v].map ym)=fC (z v.1) (z v.2.1):=fun v=>eU v.1 v.2.1
  unfold KO
  rw[eU2,eX,eA]
  have o1:(cO x l u1).lo=z (cO a l u1).lo:=by unfold cO;rw[hbl,eE];exact hz _
  have o2:(cO x l u1).hi=z (cO a l u1).hi:=by unfold cO;rw[hbl,eE];exact hz _
  have o3:(cO x l u1).in_↔(cO a l u1).in_:=by unfold cO Rg.in_;rw[hbl,eE]
  have o4:(fC (z (cO a l u1).lo) (z (cO a l u1).hi)).in_:=by
   have q1:=zr (cO a l u1).lo
   have q2:=zr (cO a l u1).hi
   unfold fC Rg.in_
   dsimp only
   omega
  rw[o1,o2,decide_eq_true o4]
  have o5:decide (cO x l u1).in_=decide (cO a l u1).in_:=by rw[decide_eq_decide];exact o3
  rw[o5]
  simp[fC]
theorem FO {g:Gr} {W R:Int→Int} {pos:Int→Nat} (rt0:bJ g W R pos) (h:(g.ranges W).isSome=true): ∃(W' R':Int→Int) (pos':Int→Nat),bJ (cR g) W' R' pos'∧((cR g).ranges W').isSome=true:=by
 have rt:=rt0.posG
 obtain⟨φ,pos',rt',K⟩:=Jv rt
 obtain⟨Lo,Hi,rc⟩:=HX rt.ordered R
 obtain⟨φ1,pos1,rt1,rc1,_,_,_,_,_,_,hlv,_⟩:=FC rt rc
 refine⟨W ∘ φ,R ∘ φ,pos',rt',?_⟩
 obtain⟨V,v0,hV⟩:=Gx rt.ordered (fC g.low g.high) (fun i n l=>fy n (W (n.inn.getD 0 0)) l)
 have fit:=(Bo rt ⟨v0,hV⟩).1 h
 have lh: ∀{V:Int→Rg} {U:Int→LH} {l:List Int},(∀j∈l,(U j).1=(V j).lo∧(U j).2.1=(V j).hi)→((l.map U).map ym).map Rg.lo=(l.map V).map Rg.lo∧((l.map U).map ym).map Rg.hi=(l.map V).map Rg.hi:=fun{V U l} hl=>by
  simp only[List.map_map]
  exact⟨List.map_congr_left fun j hj=>(hl j hj).1,List.map_congr_left fun j hj=>(hl j hj).2⟩
 obtain⟨U,eU⟩: ∃U:Int→LH,U=fun x=>((V x).lo,(V x).hi,true):=⟨_,rfl⟩
 obtain⟨U',u0,uo,hU⟩:=K Qw U fun i n en=>by
  have hi:=(List.getElem?_eq_some_iff.1 en).1
  have l1:=lh (V:=V) (U:=U) (l:=n.inn) fun j _=>by rw[eU];exact⟨rfl,rfl⟩
  have e1:fy n (W (n.inn.getD 0 0)) ((n.inn.map U).map ym)=V ((i:Int)+1):=by rw[hV i n en];exact Bp l1.1 l1.2
  unfold KO
  rw[e1,decide_eq_true (fit i hi)]
  have ha:(n.inn.map U).all (fun v=>v.2.2)=true:=by rw[List.all_map,eU];simp
  rw[ha,eU];rfl
 have flo:(cR g).low=g.low∧(cR g).high=g.high:=by unfold cR;rw[if_pos (by rw[rt.look])];exact⟨rfl,rfl⟩
 obtain⟨V',v0',hV'⟩:=Gx rt'.ordered (fC (cR g).low (cR g).high) (fun i n l=>fy n ((W ∘ φ) (n.inn.getD 0 0)) l)
 refine(Bo rt' ⟨v0',hV'⟩).2 ?_
 have inr: ∀{i:Nat} {n:Nd},(cR g).nodes[i]? =some n→ ∀j∈n.inn,0≤j∧j≤((cR g).nodes.length:Int):=fun en=>(rt'.node en).2.2.2.2
 have same: ∀(p:Nat) (x:Int),posG (cR g).nodes x=p→0≤x→x≤((cR g).nodes.length:Int)→(U' x).1=(V' x).lo∧(U' x).2.1=(V' x).hi:=by
  intro p
  induction p using Nat.strongRecOn with
  |ind p ih=>
   intro x hp h0 h1
   by_cases hx:x=0
   ·subst hx
    rw[u0,v0',eU,flo.1,flo.2]
    dsimp only
    rw[v0]
    exact⟨rfl,rfl⟩
   ·obtain⟨i,rfl⟩: ∃i:Nat,x=(i:Int)+1:=⟨(x-1).toNat,by omega⟩
    obtain⟨n,en⟩: ∃n,(cR g).nodes[i]? =some n:=⟨_,List.getElem?_eq_getElem (by omega)⟩
    have l1:=lh (V:=V') (U:=U') (l:=n.inn) fun j hj=>by
     have hjr:=inr en j hj
     have:=mH rt'.ordered en hj
     exact ih (posG (cR g).nodes j) (by omega) j rfl hjr.1 hjr.2
    have e1:fy n ((W ∘ φ) (n.inn.getD 0 0)) ((n.inn.map U').map ym)=V' ((i:Int)+1):=by rw[hV' i n en];exact Bp l1.1 l1.2
    rw[hU i n en]
    unfold KO
    rw[e1]
    exact⟨rfl,rfl⟩
 have flag: ∀x,Lv (cR g).nodes (cR g).out x→(U' x).2.2=true:=by
  intro x hx
  induction hx with
  |out=>rw[uo,eU]
  |inn h1 en hj ih=>
   rw[hU _ _ en] at ih
   unfold KO at ih
   rw[Bool.and_eq_true,List.all_map,List.all_eq_true] at ih
   exact ih.2 _ hj
 intro i hi
 obtain⟨n,en⟩: ∃n,(cR g).nodes[i]? =some n:=⟨_,List.getElem?_eq_getElem hi⟩
 have f:=flag _ (hlv i hi)
 rw[hU i n en] at f
 unfold KO at f
 rw[Bool.and_eq_true,decide_eq_true_iff] at f
 have l1:=lh (V:=V') (U:=U') (l:=n.inn) fun j hj=>by
  have hjr:=inr en j hj
  exact same _ j rfl hjr.1 hjr.2
 have e1:fy n ((W ∘ φ) (n.inn.getD 0 0)) ((n.inn.map U').map ym)=V' ((i:Int)+1):=by rw[hV' i n en];exact Bp l1.1 l1.2
 rw[←e1];exact f.1
end Go.Proofs.YtdhpmegbmjoekaaGreatDoor.G
end
section
namespace Go.Proofs.YtdhpmegbmjoekaaGreatDoor.G
open Go Go.Sh
set_option linter.unusedVariables false
set_option linter.unusedSimpArgs false
section
variable {h:ae} {gv:Gv} {W R Lo Hi:Int→Int} {pos:Int→Nat}
theorem Og (hok:gv.ok) (hn:bT h gv.p (aF gv.ns)) (hr:(aZ gv.ns).P h) (hT:KT h) (rt:bJ gv.gr W R pos) (hf:(gv.gr.ranges W).isSome=true):aq P ml #[gv.v] h fun v h'=>v= .bool true∧cu no h h':=by
 refine rA _ ?_
 unfold vM
 have S:=(((aK.start h no).read (blk 0 (az aS)) hT).read (row gv.p (aF gv.ns)) hn).read (aZ gv.ns) hr
 refine aC (cs:=gv.cells) S fun b1 h1 _ S=> ?_
 dsimp only[List.nil_append,List.cons_append] at S
 refine aQ S 0 rfl (x:=gv.t) rfl ?_
 refine(EG hok (S.row 1 rfl) (S.r 2 _ rfl) (rt.sizes hok) (S.r 0 _ rfl) rt).mono ?_
 rintro _ g2 ⟨⟨q,m,d,rfl⟩,F⟩
 refine⟨_,_,_,_,rfl,?_,(S.fra0 F).fra⟩
 rw[if_pos hf];rfl
theorem DZ {a:Addr} {r:Nat} {M:Int→Option Int} (ha:aD h a=some (.map (some r))) (hm:(um r M).P h) (j:Int):aq P cg #[.int .i64 j,.pointer (some a)] h fun v h'=>v= .bool ((M j).getD 0==0)∧h'=h:=by
 refine uG _ _ ?_
 unfold sS
 exact⟨_,ha,gy hm ⟨_,rfl,rfl,rfl⟩⟩
theorem FP {a:Addr} {r:Nat} {M:Int→Option Int} (ha:aD h a=some (.map (some r))) (hm:(um r M).P h) {p:Option Addr} {l c:Nat} {xs:List Int} (hx:bT h p (az xs)) (hl:xs.length=l) (hl2:l<2 ^ 62):
 aq P bh #[.slice p l c,.func (.func cg) #[] #[.pointer (some a)]] h fun v h'=>v= .bool (decide (∃j∈xs,(M j).getD 0=0))∧h'=h:=by
 refine fq _ _ _ _ ?_
 unfold dj
 have I:aq P bv #[.slice p l c,.func (.func cg) #[] #[.pointer (some a)]] h fun v h'=> ∃i:Int,v= .int .i64 i∧(0≤i↔ ∃j∈xs,(M j).getD 0=0)∧h'=h:=by
  refine fQ _ _ _ _ ?_
  unfold dA
  refine aT (fun m s g=>g=h∧ ∃i:Nat,s=((p,l,c),((),(a,())),(l:Int),(i:Int),())∧i≤l∧m=l-i∧ ∀j∈xs.take i,(M j).getD 0≠0) l ⟨rfl,0,rfl,by omega,rfl,by simp⟩ ?_
  rintro m s g ⟨rfl,i,rfl,hi,rfl,hall⟩
  unfold di
  dsimp only
  refine au (fun hlt=> ?_) (fun hge=> ?_)
  ·have hix:i<xs.length:=by omega
   obtain⟨aa,rfl⟩:=hx.some_of (by rw[aB];omega)
   refine aG rfl rfl (by omega) ?_
   simp only[Int.toNat_natCast,Nat.mul_one]
   refine af (hx.cell (aN (List.getElem?_eq_getElem hix))) ?_
   refine(DZ ha hm xs[i]).mono ?_
   rintro _ _ ⟨rfl,rfl⟩
   refine⟨_,rfl,?_⟩
   refine aO (fun hz=>⟨_,rfl,⟨fun _=>⟨_,List.getElem_mem hix,hz⟩,fun _=>by omega⟩,rfl⟩) (fun hz=> ?_)
   rw[al (by omega)]
   refine⟨l-(i+1),by omega,by trivial,i+1,rfl,by omega,rfl,fun j hj=> ?_⟩
   rw[List.take_succ_eq_append_getElem hix] at hj
   rcases List.mem_append.1 hj with hj|hj
   ·exact hall j hj
   ·simp only[List.mem_singleton] at hj;subst hj;exact hz
  ·rw[List.take_of_length_le (by omega)] at hall
   exact⟨_,rfl,⟨fun h=>by omega,fun⟨j,hj,e⟩=>absurd e (hall j hj)⟩,rfl⟩
 refine I.mono ?_
 rintro _ _ ⟨i,rfl,hi,rfl⟩
 refine⟨_,rfl,?_,rfl⟩
 congr 1
 rw[decide_eq_decide]
 exact hi
theorem GU (hok:gv.ok) (hn:bT h gv.p (aF gv.ns)) (hr:(aZ gv.ns).P h) (rt:bJ gv.gr W R pos) {o:Sl} (ook:o.ok) (eo:o.xs=cU gv.gr.nodes) (ho:bT h o.p (az o.xs)):
 aq P j9 #[.slice gv.p gv.l gv.c,o.v] h fun v h'=>v= .bool true∧cu no h h':=by
 refine xd _ _ _ _ _ _ ?_
 unfold xc
 have hgl:=hok.1
 have hgn:gv.gr.nodes.length=gv.l:=by rw[←hgl];simp[Gv.gr]
 have hl12:gv.l≤12:=by have:=(bW rt.first).2.1;omega
 have hol:o.l=gv.l:=by rw[←ook.1,eo,rt.ordered,hgn]
 have S:=(((aK.start h no).read (row gv.p (aF gv.ns)) hn).read (aZ gv.ns) hr).read (row o.p (az o.xs)) ho
 refine Gw .i64 S fun r2 h1 _ S=> ?_
 dsimp only[List.nil_append,List.cons_append] at S
 refine oU S 0 rfl fun h2 S=> ?_
 rw[Bi,oT] at S
 dsimp only[List.set] at S
 refine aC (cs:=[.map none]) S fun b4 h3 _ S=> ?_
 dsimp only[List.nil_append,List.cons_append] at S
 refine aJ S 1 rfl (Nat.le_of_ble_eq_true rfl) fun h4 _ S=> ?_
 dsimp only[List.set] at S
 refine aT (fun mm s g=> ∃(k:Nat) (M:Int→Option Int),s=((gv.p,gv.l,gv.c),(o.p,o.l,o.c),⟨b4,0,none⟩,(o.p,o.l,o.c),(o.l:Int),(k:Int),())∧k≤gv.l∧mm=gv.l-k∧(∀n,(M n).getD 0=if n∈(0::o.xs.take k:List Int) then 1 else 0)∧
  aK h no g [um r2 M,blk b4 [.map (some r2)]] [row gv.p (aF gv.ns),aZ gv.ns,row o.p (az o.xs)]) gv.l ⟨0,_,rfl,by omega,rfl,?_,S⟩ ?_
 ·intro n
  unfold tH
  by_cases h0:n=0
  ·simp[h0]
  ·simp[h0]
 clear S
 rintro mm s g ⟨k,M,rfl,hk,rfl,hM,S⟩
 unfold rB
 dsimp only
 refine au (fun hlt=> ?_) (fun hge=> ?_)
 ·have hk2:k<gv.l:=by omega
  have hkl:k<o.xs.length:=by rw[ook.1];omega
  have hkg:k<(cU gv.gr.nodes).length:=by rw[←eo];exact hkl
  have hxm:=fT gv.gr.nodes gv.gr.nodes.length o.xs[k] (by simp only[eo];exact List.getElem_mem hkg)
  obtain⟨i,ex⟩: ∃i:Nat,o.xs[k]=(i:Int)+1:=⟨(o.xs[k]-1).toNat,by have:=hxm.1;omega⟩
  rw[ex,hgn] at hxm
  have hil:i<gv.l:=by omega
  obtain⟨nv,en⟩: ∃n,gv.ns[i]? =some n:=⟨_,List.getElem?_eq_getElem (by omega)⟩
  have eko:o.xs[k]? =some ((i:Int)+1):=by rw[List.getElem?_eq_getElem hkl,ex]
  have A:=Pd hok (rt.sizes hok) rt hk2 (by rw[←eo];exact eko) en
  have exg:(cU gv.gr.nodes)[k]=(i:Int)+1:=(List.getElem?_eq_some_iff.1 (by rw[←eo];exact eko)).2
  have hahead: ∀j∈nv.inn.xs,j∈(0::o.xs.take k:List Int):=fun j hj=>by rw[eo];exact zu rt.ordered hkg exg A.at_ hj
  have hnew:((i:Int)+1)∉(0::o.xs.take k:List Int):=by
   intro hh
   have hnd:=qH gv.gr.nodes gv.gr.nodes.length
   have hcons:bR gv.gr.nodes gv.gr.nodes.length=0::o.xs:=by rw[eo];exact eC _ _
   rw[hcons] at hnd
   rcases List.mem_cons.1 hh with h|h
   ·omega
   ·have hnd2:=(List.nodup_cons.1 hnd).2
    have:=hnd2
    rw[←List.take_append_drop k o.xs,List.drop_eq_getElem_cons hkl,ex] at this
    exact(List.nodup_append.1 this).2.2 _ h _ List.mem_cons_self rfl
  have ro:=S.row 2 rfl
  obtain⟨ao,eao⟩:=ro.some_of (by rw[aB];omega)
  rw[eao] at ro
  have rn:=S.row 0 rfl
  obtain⟨an,ean⟩:=rn.some_of (by rw[bY];omega)
  rw[ean] at rn
  refine aG eao (k:=k) rfl (by omega) ?_
  simp only[Int.toNat_natCast,Nat.mul_one]
  refine af (ro.cell (aN eko)) (au (fun h=>absurd h (by omega)) (fun _=>au (fun h=>absurd h (by omega)) (fun _=> ?_)))
  refine⟨some r2,S.cell 1 rfl rfl,gy (S.w 0 _ rfl) ⟨_,rfl,?_⟩⟩
  rw[hM,if_neg hnew]
  refine au (fun h=>absurd h (by decide)) (fun _=> ?_)
  rw[al (n:=(i:Int)+1-1) (by omega),show(i:Int)+1-1=(i:Int) by omega]
  refine aG ean (k:=i) rfl hil ?_
  simp only[Int.toNat_natCast]
  refine am (p:=nv.inn.p) (l:=nv.inn.l) (c:=nv.inn.c) (by rw[ug _ _ (by decide)];exact rn.cell (by rw[mN en (by decide)];rfl)) ?_
  have irow:bT g nv.inn.p (az nv.inn.xs):=S.r 1 _ rfl nv.rows A.rows nv.inn.row (by simp)
  refine(FP (a:=⟨b4,0,none⟩) (S.cell 1 rfl rfl) (S.w 0 _ rfl) irow A.ilen (by have:=A.i4;omega)).mono ?_
  rintro _ g2 ⟨rfl,eg⟩
  subst eg
  refine⟨_,rfl,au (fun hc=> ?_) (fun _=> ?_)⟩
  ·exfalso
   obtain⟨j,hj,e⟩:=hc
   rw[hM,if_pos (hahead j hj)] at e
   exact absurd e (by decide)
  ·refine⟨some r2,S.cell 1 rfl rfl,?_⟩
   refine oU S 0 rfl fun g3 S=> ?_
   rw[oT] at S
   dsimp only[List.set] at S
   rw[al (n:=(k:Int)+1) (by omega)]
   refine⟨gv.l-(k+1),by omega,k+1,_,rfl,by omega,rfl,fun n=> ?_,S⟩
   have htk:(0::o.xs.take (k+1):List Int)=(0::o.xs.take k)++[(i:Int)+1]:=by rw[List.take_succ_eq_append_getElem hkl,ex];rfl
   rw[htk]
   unfold tH
   by_cases hni:n=(i:Int)+1
   ·rw[if_pos hni,if_pos (by rw[hni];exact List.mem_append_right _ (by simp))];rfl
   ·rw[if_neg hni,hM]
    by_cases hm:n∈(0::o.xs.take k:List Int)
    ·rw[if_pos hm,if_pos (List.mem_append_left _ hm)]
    ·rw[if_neg hm,if_neg (fun h=>by rcases List.mem_append.1 h with h|h;exact hm h;exact hni (by simpa using h))]
 ·refine⟨?_,S.fra⟩
  rw[hol];simp
theorem EC {a:Addr} {rs:List Rn} {i:Nat} {x:Rn} (r:bT h (some a) (eP rs)) (e:rs[i]? =some x):aD h (a.add (i*3))=some (.int .i64 x.pos)∧aD h ((a.add (i*3)).add 1)=some (.int .i64 x.width)∧aD h ((a.add (i*3)).add 2)=some (.int .i64 x.room):=by
 refine⟨r.cell (i:=i*3) (by have:=tO e (j:=0) (by omega);rw[Nat.add_zero] at this;rw[this];rfl),?_,?_⟩
 all_goals
  rw[ug _ _ (by decide)]
  refine r.cell ?_
  rw[tO e (by omega)];rfl
theorem Mg (hok:gv.ok) (hn:bT h gv.p (aF gv.ns)) (hr:(aZ gv.ns).P h) (hT:KT h) (rt:bJ gv.gr W R pos) (rc:Reach gv.gr.nodes R Lo Hi) {rp:Option Addr} {rl rcp:Nat} {rs:List Rn} (hrow:bT h rp (eP rs)) (hrl:rs.length=rl) (hl:rl=gv.l+1)
 (hx: ∀x:Nat,x<gv.l+1→ ∃y,rs[x]? =some y∧y.width=W x∧y.room=(gv.gr.rooms R Hi).getD x 0):
 aq P og #[gv.v,.slice rp rl rcp] h fun v h'=>v= .bool true∧cu no h h':=by
 refine Cb _ _ _ _ ?_
 unfold ES
 have hgl:=hok.1
 have hgn:gv.gr.nodes.length=gv.l:=by rw[←hgl];simp[Gv.gr]
 have hl12:gv.l≤12:=by have:=(bW rt.first).2.1;omega
 have hs:=rt.sizes hok
 obtain⟨rml,rmb⟩:=FF hok rt rc
 have S:=((((aK.start h no).read (blk 0 (az aS)) hT).read (row gv.p (aF gv.ns)) hn).read (aZ gv.ns) hr).read (row rp (eP rs)) hrow
 refine aC (cs:=gv.cells) S fun b1 h1 _ S=> ?_
 dsimp only[List.nil_append,List.cons_append] at S
 refine aQ S 0 rfl (x:=gv.t) rfl (aQ S 0 rfl (x:=gv.t) rfl ?_)
 refine(tR hok (S.row 1 rfl) (S.r 2 _ rfl) hs (S.r 0 _ rfl)).mono ?_
 rintro _ g2 ⟨w,rfl,wok,ew,S1⟩
 rw[rt.look,hgn] at ew
 replace S:=S.add S1 fun _ _ h=>h
 dsimp only[List.cons_append,List.nil_append] at S
 have lenW:w.l=gv.l+1:=by rw[←wok.1,ew];simp
 refine⟨_,_,_,rfl,eW S 0 rfl rfl ?_⟩
 refine(Ic hok (S.row 1 rfl) (S.r 2 _ rfl) hs (S.r 0 _ rfl) rt rc).mono ?_
 rintro _ g3 ⟨bm,rfl,S1⟩
 replace S:=S.add S1 fun _ _ h=>h
 dsimp only[List.cons_append,List.nil_append] at S
 refine⟨_,_,_,rfl,eW S 0 rfl rfl ?_⟩
 refine bj (fun hne=>absurd (by omega) hne) (fun _=> ?_)
 refine aT (fun m s g=> ∃i:Nat,s=((w.p,w.l,w.c),(some ⟨bm,0,none⟩,gv.l+1,gv.l+1),(rp,rl,rcp),(rl:Int),(i:Int),())∧i≤rl∧m=rl-i∧
  aK h no g [blk b1 gv.cells,own 1 w.p w.l w.c (az w.xs),blk bm (az (gv.gr.rooms R Hi))] [blk 0 (az aS),row gv.p (aF gv.ns),aZ gv.ns,row rp (eP rs)]) rl ⟨0,rfl,by omega,rfl,S⟩ ?_
 clear S S1
 rintro m s g ⟨i,rfl,hi,rfl,S⟩
 unfold xg
 dsimp only
 refine au (fun hlt=> ?_) (fun hge=>⟨rfl,S.fra⟩)
 have hlt:i<rl:=by omega
 obtain⟨y,ey,y1,y2⟩:=hx i (by omega)
 have rr:=S.row 3 rfl
 obtain⟨ra,era⟩:=rr.some_of (by rw[mD];omega)
 rw[era] at rr
 obtain⟨c0,c1,c2⟩:=EC rr ey
 refine aG era (k:=i) rfl hlt ?_
 simp only[Int.toNat_natCast,Nat.mul_one]
 refine af c0 (af c1 (af c2 ?_))
 refine aC S fun b14 g2 _ S=> ?_
 dsimp only[List.nil_append,List.cons_append] at S
 refine aJ S 3 rfl (Nat.le_of_ble_eq_true rfl) fun _ _ S=> ?_
 dsimp only[List.set] at S
 refine aJ S 3 rfl (Nat.le_of_ble_eq_true rfl) fun _ _ S=> ?_
 dsimp only[List.set] at S
 refine aJ S 3 rfl (Nat.le_of_ble_eq_true rfl) fun g5 _ S=> ?_
 dsimp only[List.set] at S
 have wr:=(S.own 1 rfl).row
 obtain⟨wa,ewa⟩:=wr.some_of (by rw[aB,wok.1];omega)
 rw[ewa] at wr
 refine aG ewa (k:=i) rfl (by omega) (af (S.cell 3 rfl rfl) ?_)
 refine af (n:=W (i:Int)) (wr.cell (aN (by rw[ew,List.getElem?_map,List.getElem?_range (by omega)];rfl))) ?_
 refine bj (fun hne=>absurd y1 hne) (fun _=> ?_)
 refine aG rfl (k:=i) rfl (by omega) (af (S.cell 3 rfl rfl) ?_)
 simp only[aY,Nat.zero_add]
 refine af (n:=(gv.gr.rooms R Hi).getD i 0) (S.cell 2 rfl (aN (by rw[List.getD_eq_getElem?_getD,List.getElem?_eq_getElem (by omega)];rfl))) ?_
 refine au (fun h=>absurd h (by rw[y2];omega)) (fun _=> ?_)
 rw[al (n:=(i:Int)+1) (by omega)]
 exact⟨rl-(i+1),by omega,i+1,rfl,by omega,rfl,S.pw [0,1,2]⟩
end
end Go.Proofs.YtdhpmegbmjoekaaGreatDoor.G
end
section
namespace Go.Proofs.YtdhpmegbmjoekaaGreatDoor.G
open Go Go.Sh
set_option linter.unusedVariables false
set_option linter.unusedSimpArgs false
section
variable {h:ae}
theorem FQ {p:Option Addr} {l c:Nat} {bs:List Bool} (hx:bT h p (GS bs)) (hl:bs.length=l) (hl2:l<2 ^ 62) (hall: ∀b∈bs,b=false):aq P dq #[.slice p l c,.bool true] h fun v h'=>v= .bool false∧h'=h:=by
 refine kF _ _ _ _ ?_
 unfold iZ
 have I:aq P dO #[.slice p l c,.bool true] h fun v h'=>v= .int .i64 (-1)∧h'=h:=by
  refine lV _ _ _ _ ?_
  unfold jZ
  refine aT (fun m s g=>g=h∧ ∃i:Nat,s=((p,l,c),true,(l:Int),(i:Int),())∧i≤l∧m=l-i) l ⟨rfl,0,rfl,by omega,rfl⟩ ?_
  rintro m s g ⟨rfl,i,rfl,hi,rfl⟩
  unfold iY
  dsimp only
  refine au (fun hlt=> ?_) (fun hge=>⟨rfl,rfl⟩)
  have hix:i<bs.length:=by omega
  obtain⟨aa,rfl⟩:=hx.some_of (by unfold GS;rw[List.length_map];omega)
  refine aG rfl rfl (by omega) ?_
  simp only[Int.toNat_natCast,Nat.mul_one]
  refine tA (n:=bs[i]) (hx.cell (by unfold GS;rw[List.getElem?_map,List.getElem?_eq_getElem hix];rfl)) ?_
  refine bQ (by rw[hall _ (List.getElem_mem hix)];rfl) ?_
  rw[al (by omega)]
  exact⟨l-(i+1),by omega,by trivial,i+1,rfl,by omega,rfl⟩
 refine I.mono ?_
 rintro _ _ ⟨rfl,rfl⟩
 exact⟨_,rfl,rfl,rfl⟩
theorem KP {words:Int} {rp:Option Addr} {rl rcp:Nat} {rs:List Rn} (hrow:bT h rp (eP rs)) (hrl:rs.length=rl) (hl:rl≤13) (hw:0≤words∧words≤4096)
 (hx: ∀x:Nat,x<rl→ ∃y,rs[x]? =some y∧0≤y.pos∧1≤y.room∧1≤y.width∧y.pos+y.room*y.width≤words) (hnext: ∀(x:Nat) (y z:Rn),rs[x]? =some y→rs[x+1]? =some z→y.pos+y.room*y.width≤z.pos):
 aq P mn #[.int .i64 words,.slice rp rl rcp] h fun v h'=>v= .bool true∧cu no h h':=by
 refine AG _ _ _ _ ?_
 unfold Cc
 have S:=(aK.start h no).read (row rp (eP rs)) hrow
 obtain⟨n,en⟩: ∃n:Nat,words=n:=⟨words.toNat,by omega⟩
 subst en
 refine iG S n rfl (zs:=[.bool false]) rfl rfl (by decide) (by omega) (by omega) fun b1 h1 _ S=> ?_
 dsimp only[List.nil_append,List.cons_append] at S
 rw[lH,show List.replicate n (Value.bool false)=GS (List.replicate n false) by simp[GS]] at S
 simp only[Int.toNat_natCast]
 refine aT (fun m s g=> ∃(i E:Nat) (us:List Bool),s=((n:Int),(some ⟨b1,0,none⟩,n,n),(rp,rl,rcp),(rl:Int),(i:Int),())∧i≤rl∧m=rl-i∧us.length=n∧(∀j,E≤j→us.getD j false=false)∧(∀y,rs[i]? =some y→(E:Int)≤y.pos)∧
  aK h no g [blk b1 (GS us)] [row rp (eP rs)]) rl ⟨0,0,_,rfl,by omega,rfl,List.length_replicate ..,fun j _=> ?_,fun y ey=> ?_,S⟩ ?_
 ·rw[List.getD_eq_getElem?_getD,List.getElem?_replicate];split<;>rfl
 ·obtain⟨y2,e2,h0,_⟩:=hx 0 (by have:=(List.getElem?_eq_some_iff.1 ey).1;omega)
  rw[e2] at ey;cases ey;exact h0
 clear S
 rintro m s g ⟨i,E,us,rfl,hi,rfl,hu,hE,hpos,S⟩
 unfold vd
 dsimp only
 refine au (fun hlt=> ?_) (fun hge=>⟨rfl,S.fra⟩)
 have hlt:i<rl:=by omega
 obtain⟨y,ey,p0,r1,w1,pe⟩:=hx i hlt
 have pE:=hpos y ey
 have hsz:y.room≤y.room*y.width:=by have:=Int.mul_le_mul_of_nonneg_left w1 (show 0≤y.room by omega);omega
 have rr:=S.row 0 rfl
 obtain⟨ra,era⟩:=rr.some_of (by rw[mD];omega)
 rw[era] at rr
 obtain⟨c0,c1,c2⟩:=EC rr ey
 refine aG era (k:=i) rfl hlt ?_
 simp only[Int.toNat_natCast]
 refine af c0 (af c1 (af c2 ?_))
 refine aC S fun b8 g2 _ S=> ?_
 dsimp only[List.nil_append,List.cons_append] at S
 refine aJ S 1 rfl (Nat.le_of_ble_eq_true rfl) fun _ _ S=> ?_
 dsimp only[List.set] at S
 refine aJ S 1 rfl (Nat.le_of_ble_eq_true rfl) fun _ _ S=> ?_
 dsimp only[List.set] at S
 refine aJ S 1 rfl (Nat.le_of_ble_eq_true rfl) fun g5 _ S=> ?_
 dsimp only[List.set] at S
 refine⟨fun s g=>s=((n:Int),(some ⟨b1,0,none⟩,n,n),⟨b8,0,none⟩,(rp,rl,rcp),(rl:Int),(i:Int),())∧aK h no g [blk b1 (GS us),blk b8 [.int .i64 y.pos,.int .i64 y.width,.int .i64 y.room]] [row rp (eP rs)],?_,?_⟩
 ·clear S
  rintro s g ⟨rfl,S⟩
  unfold vc
  dsimp only
  simp only[aY,Nat.zero_add,Nat.mul_one]
  refine af (S.cell 1 rfl rfl) (af (S.cell 1 rfl rfl) (af (S.cell 1 rfl rfl) (af (S.cell 1 rfl rfl) ?_)))
  obtain⟨p,ep⟩: ∃p:Nat,y.pos=p:=⟨y.pos.toNat,by omega⟩
  obtain⟨z,ez⟩: ∃z:Nat,y.room*y.width=z:=⟨(y.room*y.width).toNat,by omega⟩
  rw[ep,ez] at pe
  rw[ep] at pE
  rw[ez,ep,al (n:=(z:Int)) (by omega),al (n:=(p:Int)+(z:Int)) (by omega)]
  refine ja (n:=p+z) (by omega) (by omega) (ja (n:=p) rfl (by omega) ?_)
  rw[if_neg (by omega),show p+z-p=z by omega]
  simp only[Option.map_some,aY,Nat.zero_add]
  have sub:bT g (some ⟨b1,p,none⟩) (GS ((us.drop p).take z)):=by
   have r1:=(bT.of_at (S.at 0 rfl)).drop' p (by unfold GS;rw[List.length_map];omega)
   rw[Option.map_some,aY,Nat.zero_add] at r1
   have r2:=r1.take z
   have e:((GS us).drop p).take z=GS ((us.drop p).take z):=by unfold GS;rw[List.map_take,List.map_drop]
   rw[e] at r2
   exact r2
  refine(FQ sub (by rw[List.length_take,List.length_drop];omega) (by omega) fun b hb=> ?_).mono ?_
  ·have hb:=List.mem_of_mem_take hb
   obtain⟨j,hj,rfl⟩:=List.getElem_of_mem hb
   rw[List.length_drop] at hj
   have:=hE (p+j) (by omega)
   rw[List.getD_eq_getElem?_getD,List.getElem?_eq_getElem (by omega)] at this
   rw[List.getElem_drop];exact this
  rintro _ g3 ⟨rfl,eg⟩
  subst eg
  rw[ep] at S
  refine⟨_,rfl,bQ rfl ?_⟩
  refine aT (fun m s g=> ∃(k:Nat) (us':List Bool),s=((n:Int),(some ⟨b1,0,none⟩,n,n),(some ⟨b1,p,none⟩,z,n-p),(rp,rl,rcp),(rl:Int),(i:Int),(z:Int),(k:Int),())∧k≤z∧m=z-k∧us'.length=n∧(∀j,p+z≤j→us'.getD j false=false)∧
   aK h no g [blk b1 (GS us'),blk b8 [.int .i64 (p:Int),.int .i64 y.width,.int .i64 y.room]] [row rp (eP rs)]) z ⟨0,us,rfl,by omega,rfl,hu,fun j hj=>hE j (by omega),S⟩ ?_
  clear S sub
  rintro m s g ⟨k,us',rfl,hk,rfl,hu',hE',S⟩
  unfold sT
  dsimp only
  refine au (fun hlt2=> ?_) (fun hge2=> ?_)
  ·refine aG rfl (k:=k) rfl (by omega) ?_
   simp only[aY,Int.toNat_natCast,Nat.mul_one]
   refine aJ S 0 rfl (by unfold GS;rw[List.length_map];omega) fun g4 _ S=> ?_
   dsimp only[List.set] at S
   have e:(GS us').set (p+k) (.bool true)=GS (us'.set (p+k) true):=by unfold GS;rw[List.map_set]
   rw[e] at S
   rw[al (n:=(k:Int)+1) (by omega)]
   refine⟨z-(k+1),by omega,k+1,_,rfl,by omega,rfl,by rw[List.length_set];exact hu',fun j hj=> ?_,S⟩
   rw[List.getD_eq_getElem?_getD,List.getElem?_set_ne (by omega),←List.getD_eq_getElem?_getD]
   exact hE' j hj
  ·rw[al (n:=(i:Int)+1) (by omega)]
   refine⟨rl-(i+1),by omega,i+1,p+z,us',rfl,by omega,rfl,hu',hE',fun y2 ey2=> ?_,S.pw [0]⟩
   have:=hnext i y y2 ey ey2
   rw[ez,ep] at this
   omega
 ·refine af (S.cell 1 rfl rfl) (au (fun h=>absurd h (by omega)) (fun _=> ?_))
  refine af (S.cell 1 rfl rfl) (au (fun h=>absurd h (by omega)) (fun _=> ?_))
  refine af (S.cell 1 rfl rfl) (au (fun h=>absurd h (by omega)) (fun _=> ?_))
  refine af (S.cell 1 rfl rfl) (au (fun h=>absurd h (by omega)) (fun _=> ?_))
  refine af (S.cell 1 rfl rfl) (af (S.cell 1 rfl rfl) (af (S.cell 1 rfl rfl) ?_))
  rw[al (n:=y.room*y.width) (by omega),al (n:=(n:Int)-y.pos) (by omega)]
  refine au (fun h=>absurd h (by omega)) (fun _=>⟨rfl,S⟩)
theorem Q3 {g:ae} {b:Nat} {pv:Pv} {K:TS bP→Prop} (hc: ∀j v,pv.cells[j]? =some v→aD g ⟨b,j,none⟩=some v) (H:K pv.g.t):aX bP g ⟨b,0,none⟩ K:=by
 refine Gk (x:=pv.g.t) (fun j v hv=> ?_) H
 rw[aY,Nat.zero_add]
 refine hc j v ?_
 have e:pv.cells=aP bP pv.g.t++[pv.o.v,.slice pv.rp pv.rl pv.rc,.int .i64 pv.words,.int .i64 pv.macs,.int .u32 pv.hash]:=rfl
 rw[e,List.getElem?_append_left (List.getElem?_eq_some_iff.1 hv).1]
 exact hv
abbrev JQ (f:FuncId) (b:Nat):Value:= .func (.func f) #[] #[.pointer (some ⟨b,0,none⟩)]
def wB (b:Nat):TS [.any,.any,.any,.any,.any,.any]:=(JQ fo b,JQ iA b,JQ iB b,JQ iC b,JQ iD b,JQ iE b,())
theorem Bq {f:FuncId} {b:Nat} {g:ae} {K:Value→ae→Prop} (H:aq P f #[.pointer (some ⟨b,0,none⟩)] g K):fw P (JQ f b) [] g K:=zp (args:=[]) (caps:=[.pointer (some ⟨b,0,none⟩)]) H
theorem Br {gv:Gv} (hok:gv.ok) (hn:bT h gv.p (aF gv.ns)) (hr:(aZ gv.ns).P h) (hs:gv.sizes) (hT:KT h) (he:gv.gr.look.e≠0):aq P gm #[gv.v] h fun v h'=>v= .tuple #[.slice none 0 0,.int .i64 gv.gr.look.e]∧cu no h h':=by
 refine oq _ ?_
 unfold qu
 have S:=(((aK.start h no).read (blk 0 (az aS)) hT).read (row gv.p (aF gv.ns)) hn).read (aZ gv.ns) hr
 refine aC (cs:=gv.cells) S fun b1 h1 _ S=> ?_
 dsimp only[List.nil_append,List.cons_append] at S
 refine aQ S 0 rfl (x:=gv.t) rfl ?_
 refine(zt hok (S.row 1 rfl) (S.r 2 _ rfl) hs.1 (fun n hm=>by have:=hs.2 n hm;omega) (S.r 0 _ rfl)).mono ?_
 rintro _ g2 ⟨rfl,F⟩
 exact⟨_,rfl,bj (fun _=>⟨rfl,(S.fra0 F).fra⟩) (fun h=>absurd h he)⟩
theorem Mi:Gv.zero.ok∧Gv.zero.sizes∧(aZ Gv.zero.ns).P h∧bT h Gv.zero.p (aF Gv.zero.ns):=⟨⟨rfl,Nat.le_refl _,fun n hn=>(by cases hn)⟩,⟨by decide,fun n hn=>(by cases hn)⟩,fun f hf=>(by cases hf),bT.nil _ _⟩
theorem GV (hT:KT h):aq P iS #[Pv.zero.v] h fun v h'=>v= .bool false∧cu no h h':=by
 refine rC _ ?_
 unfold vO
 have S:=(aK.start h no).read (blk 0 (az aS)) hT
 refine aC (cs:=Pv.zero.cells) S fun b1 h1 _ S=> ?_
 dsimp only[List.nil_append,List.cons_append] at S
 refine aT (fun m s g=>s=(wB b1,(0:Int),())∧aK h no g [blk b1 Pv.zero.cells] [blk 0 (az aS)]) 0 ⟨rfl,S⟩ ?_
 clear S
 rintro m s g ⟨rfl,S⟩
 unfold oM
 dsimp only
 refine cq rfl (ig (by decide) (by decide) ⟨JQ fo b1,rfl,?_⟩)
 have C:aq P fo #[.pointer (some ⟨b1,0,none⟩)] g fun v g'=>v= .bool false∧cu no g g':=by
  refine nU _ ?_
  unfold qm
  refine Q3 (pv:=Pv.zero) (fun j v hv=>S.cell 0 rfl hv) ?_
  refine aq.mono (K:=fun v g'=>v= .bool false∧cu no g g') (rA _ ?_) ?_
  ·unfold vM
   have S2:=(aK.start g no).read (blk 0 (az aS)) (S.r 0 _ rfl)
   refine aC (cs:=Gv.zero.cells) S2 fun b2 g2 _ S2=> ?_
   dsimp only[List.nil_append,List.cons_append] at S2
   refine aQ S2 0 rfl (x:=Gv.zero.t) rfl ?_
   have e22:Gv.zero.gr.look.e=22:=by decide+kernel
   have z:=Mi (h:=g2)
   refine(Br z.1 z.2.2.2 z.2.2.1 z.2.1 (S2.r 0 _ rfl) (by rw[e22];decide)).mono ?_
   rintro _ g3 ⟨rfl,F⟩
   exact⟨_,_,_,_,rfl,by rw[e22];rfl,(S2.fra0 F).fra⟩
  ·rintro _ g' ⟨rfl,F⟩
   exact⟨_,rfl,rfl,F⟩
 refine Bq (C.mono ?_)
 rintro _ g2 ⟨rfl,F⟩
 exact⟨_,rfl,cq rfl ⟨rfl,(S.fra0 F).fra⟩⟩
theorem KQ (hT:KT h) {pv:Pv} {W R Lo Hi W2 R2:Int→Int} {pos pos2:Int→Nat} (hok:pv.g.ok) (hn:bT h pv.g.p (aF pv.g.ns)) (hr:(aZ pv.g.ns).P h) (rt:bJ pv.g.gr W R pos) (rc:Reach pv.g.gr.nodes R Lo Hi) (rt2:bJ pv.g.gr W2 R2 pos2) (hf:(pv.g.gr.ranges W2).isSome=true)
 (ook:pv.o.ok) (eo:pv.o.xs=cU pv.g.gr.nodes) (ho:bT h pv.o.p (az pv.o.xs)) (hrow:bT h pv.rp (eP pv.rs)) (hrl:pv.rs.length=pv.rl) (hl:pv.rl=pv.g.l+1) (hw:0≤pv.words∧pv.words≤4096)
 (hx: ∀x:Nat,x<pv.rl→ ∃y,pv.rs[x]? =some y∧y.width=W x∧y.room=(pv.g.gr.rooms R Hi).getD x 0∧0≤y.pos∧1≤y.room∧1≤y.width∧y.pos+y.room*y.width≤pv.words) (hnext: ∀(x:Nat) (y z:Rn),pv.rs[x]? =some y→pv.rs[x+1]? =some z→y.pos+y.room*y.width≤z.pos)
 (hm:pv.macs=pv.g.gr.macs) (hh:pv.hash=pv.g.gr.hash):
 aq P iS #[pv.v] h fun v h'=>v= .bool true∧cu no h h':=by
 refine rC _ ?_
 unfold vO
 have hgl:pv.g.gr.nodes.length=pv.g.l:=by rw[←hok.1];simp[Gv.gr]
 have hl12:pv.g.l≤12:=by have:=(bW rt.first).2.1;omega
 have S:=((((((aK.start h no).read (blk 0 (az aS)) hT).read (row pv.g.p (aF pv.g.ns)) hn).read (aZ pv.g.ns) hr).read (row pv.o.p (az pv.o.xs)) ho)).read (row pv.rp (eP pv.rs)) hrow
 refine aC (cs:=pv.cells) S fun b1 h1 _ S=> ?_
 dsimp only[List.nil_append,List.cons_append] at S
 have key: ∀{g:ae} (i:Nat) (f:Value),aK h no g [blk b1 pv.cells] [blk 0 (az aS),row pv.g.p (aF pv.g.ns),aZ pv.g.ns,row pv.o.p (az pv.o.xs),row pv.rp (eP pv.rs)]→
  (#[(wB b1).1,(wB b1).2.1,(wB b1).2.2.1,(wB b1).2.2.2.1,(wB b1).2.2.2.2.1,(wB b1).2.2.2.2.2.1]:Array Value)[i]? =some f→fw P f [] g fun v g'=>v= .bool true∧cu no g g':=by
  intro g i f S hf'
  have gld: ∀{g:ae} {K:TS bP→Prop},aK h no g [blk b1 pv.cells] [blk 0 (az aS),row pv.g.p (aF pv.g.ns),aZ pv.g.ns,row pv.o.p (az pv.o.xs),row pv.rp (eP pv.rs)]→K pv.g.t→aX bP g ⟨b1,0,none⟩ K:=fun S H=>Q3 (fun j v hv=>S.cell 0 rfl hv) H
  have i6:i=0∨i=1∨i=2∨i=3∨i=4∨i=5:=by
   have h6:i<6:=(Array.getElem?_eq_some_iff.1 hf').1
   omega
  rcases i6 with rfl|rfl|rfl|rfl|rfl|rfl
  ·obtain rfl:=(Option.some.inj hf':JQ fo b1=f)
   refine Bq (nU _ ?_)
   unfold qm
   refine gld S ?_
   refine(Og hok (S.row 1 rfl) (S.r 2 _ rfl) (S.r 0 _ rfl) rt2 hf).mono ?_
   rintro _ g' ⟨rfl,F⟩
   exact⟨_,rfl,rfl,F⟩
  ·obtain rfl:=(Option.some.inj hf':JQ iA b1=f)
   refine Bq (xa _ ?_)
   unfold w9
   simp only[aY,Nat.zero_add]
   refine af (n:=pv.words) (S.cell 0 rfl rfl) (au (fun _=> ?_) (fun h=>absurd hw.1 h))
   refine af (n:=pv.words) (S.cell 0 rfl rfl) ⟨?_,cu.refl _ _⟩
   rw[decide_eq_true hw.2]
  ·obtain rfl:=(Option.some.inj hf':JQ iB b1=f)
   refine Bq (xf _ ?_)
   unfold xe
   simp only[aY,Nat.zero_add]
   refine am (p:=pv.g.p) (l:=pv.g.l) (c:=pv.g.c) (S.cell 0 rfl rfl) (am (p:=pv.o.p) (l:=pv.o.l) (c:=pv.o.c) (S.cell 0 rfl rfl) ?_)
   refine(GU hok (S.row 1 rfl) (S.r 2 _ rfl) rt ook eo (S.row 3 rfl)).mono ?_
   rintro _ g' ⟨rfl,F⟩
   exact⟨_,rfl,rfl,F⟩
  ·obtain rfl:=(Option.some.inj hf':JQ iC b1=f)
   refine Bq (xi _ ?_)
   unfold xh
   refine gld S ?_
   simp only[aY,Nat.zero_add]
   refine am (p:=pv.rp) (l:=pv.rl) (c:=pv.rc) (S.cell 0 rfl rfl) ?_
   refine(Mg hok (S.row 1 rfl) (S.r 2 _ rfl) (S.r 0 _ rfl) rt rc (S.row 4 rfl) hrl hl fun x hx'=> ?_).mono ?_
   ·obtain⟨y,e1,e2,e3,_⟩:=hx x (by omega)
    exact⟨y,e1,e2,e3⟩
   rintro _ g' ⟨rfl,F⟩
   exact⟨_,rfl,rfl,F⟩
  ·obtain rfl:=(Option.some.inj hf':JQ iD b1=f)
   refine Bq (xk _ ?_)
   unfold xj
   simp only[aY,Nat.zero_add]
   refine af (n:=pv.words) (S.cell 0 rfl rfl) (am (p:=pv.rp) (l:=pv.rl) (c:=pv.rc) (S.cell 0 rfl rfl) ?_)
   refine(KP (S.row 4 rfl) hrl (by omega) hw (fun x hx'=> ?_) hnext).mono ?_
   ·obtain⟨y,e1,_,_,e4,e5,e6,e7⟩:=hx x hx'
    exact⟨y,e1,e4,e5,e6,e7⟩
   rintro _ g' ⟨rfl,F⟩
   exact⟨_,rfl,rfl,F⟩
  ·obtain rfl:=(Option.some.inj hf':JQ iE b1=f)
   refine Bq (xm _ ?_)
   unfold xl
   simp only[aY,Nat.zero_add]
   have S2:=(((((aK.start g no).read (blk 0 (az aS)) (S.r 0 _ rfl)).read (row pv.g.p (aF pv.g.ns)) (S.row 1 rfl)).read (aZ pv.g.ns) (S.r 2 _ rfl))).read (blk b1 pv.cells) (S.at 0 rfl)
   refine af (n:=pv.macs) (S.cell 0 rfl rfl) (gld S ?_)
   refine(KC hok (S.row 1 rfl) (S.r 2 _ rfl) (rt.sizes hok) (S.r 0 _ rfl) rt).mono ?_
   rintro _ g2 ⟨rfl,F⟩
   replace S:=S.fra0 F
   replace S2:=S2.fra0 F
   refine⟨_,rfl,bf (S.cell 0 rfl rfl) (aO (fun _=> ?_) (fun h=>absurd hm h))⟩
   refine gld S (af (k:= .u32) (n:=pv.hash) (S.cell 0 rfl rfl) ?_)
   refine(KF (S.row 1 rfl) (S.r 2 _ rfl) hok rt.fits.2).mono ?_
   rintro _ g3 ⟨rfl,F⟩
   replace S:=S.fra0 F
   replace S2:=S2.fra0 F
   refine⟨_,rfl,bf (S.cell 0 rfl rfl) (bf (S.cell 0 rfl rfl) ⟨?_,S2.fra⟩)⟩
   rw[hh];simp
 refine aT (fun m s g=> ∃i:Nat,s=(wB b1,(i:Int),())∧i≤6∧m=6-i∧aK h no g [blk b1 pv.cells] [blk 0 (az aS),row pv.g.p (aF pv.g.ns),aZ pv.g.ns,row pv.o.p (az pv.o.xs),row pv.rp (eP pv.rs)]) 6 ⟨0,rfl,by omega,rfl,S⟩ ?_
 clear S
 rintro m s g ⟨i,rfl,hi,rfl,S⟩
 unfold oM
 dsimp only
 refine au (fun hlt=> ?_) (fun hge=>⟨rfl,S.fra⟩)
 refine ig (by omega) (by omega) ?_
 simp only[Int.toNat_natCast,Nat.mul_one]
 obtain⟨f,ef⟩: ∃f,(#[(wB b1).1,(wB b1).2.1,(wB b1).2.2.1,(wB b1).2.2.2.1,(wB b1).2.2.2.2.1,(wB b1).2.2.2.2.2.1]:Array Value)[i]? =some f:=⟨_,Array.getElem?_eq_getElem (show i<6 by omega)⟩
 refine⟨f,ef,?_⟩
 refine qL (key i f S ef) ?_
 rintro _ g2 ⟨rfl,F⟩
 refine⟨_,rfl,bQ rfl ?_⟩
 rw[al (n:=(i:Int)+1) (by omega)]
 exact⟨6-(i+1),by omega,i+1,rfl,by omega,rfl,S.fra0 F⟩
end
end Go.Proofs.YtdhpmegbmjoekaaGreatDoor.G
end
section
namespace Go.Proofs.YtdhpmegbmjoekaaGreatDoor.G
open Go Go.Sh
set_option linter.unusedVariables false
set_option linter.unusedSimpArgs false
theorem Mj (s:List UInt8):(tQ s).1.nodes.length≤255∧ ∀n∈(tQ s).1.nodes,n.inn.length≤65535∧n.weights.length≤65535∧n.bias.length≤65535:=by
 have:=L0 s
 exact⟨this.1,fun n hn=>by have:=this.2 n hn;omega⟩
structure Pr (G:Gr) (W R Lo Hi:Int→Int) (pos:Int→Nat) (W2 R2:Int→Int) (pos2:Int→Nat):Prop where
 rt:bJ G W R pos
 rc:Reach G.nodes R Lo Hi
 rt2:bJ G W2 R2 pos2
 fit:(G.ranges W2).isSome=true
 lay:(cL (G.sizesF W R Hi)).2.2=0
def Qx (h:ae) (v:Value) (h':ae):Prop:=
 (∃e:Int,e≠0∧v= .tuple #[Pv.zero.v,.int .i64 e]∧cu no h h')∨
 (∃(pv:Pv) (G:Gr) (W R Lo Hi:Int→Int) (pos:Int→Nat) (W2 R2:Int→Int) (pos2:Int→Nat),v= .tuple #[pv.v,.int .i64 0]∧cu no h h'∧Pr G W R Lo Hi pos W2 R2 pos2∧JC G W R Hi pv h h')
section
variable {h:ae} {s:List UInt8}
theorem KR (hs:s.length<2 ^ 60) (hT:KT h) (he:(tQ s).2=0) (hl:(tQ s).1.look.e≠0):aq P fO #[.string (str s)] h fun v h'=>v= .tuple #[Pv.zero.v,.int .i64 (tQ s).1.look.e]∧cu no h h':=by
 refine mV _ ?_
 unfold tT
 have S:=(aK.start h no).read (blk 0 (az aS)) hT
 refine aC (cs:=Pv.zero.cells) S (fun b1 _ _ S=> ?_)
 dsimp only[List.nil_append,List.cons_append] at S
 refine(DP (by omega)).mono ?_
 rintro _ g1 ⟨gv,rfl,gok,egr,S1⟩
 replace S:=S.add S1 fun _ _ h=>h
 dsimp only[List.cons_append,List.nil_append] at S
 refine jQ gv.t ⟨_,rfl,?_⟩
 refine aC (cs:=aP bP (zT bP)) S fun b7 g2 _ S=> ?_
 dsimp only[List.cons_append,List.nil_append] at S
 refine cG S 3 rfl rfl (bC rfl) fun g3 _ S=> ?_
 dsimp only[List.set] at S
 have hd:=Mj s
 rw[←egr] at hl hd ⊢
 have gs:gv.sizes:=by
  obtain⟨q1,q2⟩:=hd
  refine⟨?_,fun n hn=> ?_⟩
  ·have:gv.gr.nodes.length=gv.l:=by rw[←gok.1];simp[Gv.gr]
   omega
  ·have q:=q2 n.nd (List.mem_map.2 ⟨n,hn,rfl⟩)
   have ho:=gok.2.2 n hn
   have h1:=ho.1.1
   have h2:=ho.2.1.1
   have h3:=ho.2.2.1
   have h4:n.inn.xs.length≤65535:=q.1
   have h5:n.weights.xs.length≤65535:=q.2.1
   have h6:n.bias.xs.length≤65535:=q.2.2
   exact⟨by omega,by omega,by omega⟩
 refine bj (fun h=>absurd he h) (fun _=> ?_)
 refine aQ S 3 rfl (x:=gv.t) rfl ?_
 refine(Br gok (S.own 1 rfl).row (S.w 2 _ rfl) gs (S.r 0 _ rfl) hl).mono ?_
 rintro _ g4 ⟨rfl,F⟩
 replace S:=S.fra0 F
 refine⟨_,_,_,_,rfl,?_⟩
 refine bj (fun _=> ?_) (fun h=>absurd h hl)
 refine cG S 0 rfl rfl (show ∀y∈Pv.zero.cells,mC y=true from bC rfl) fun g5 _ S=> ?_
 dsimp only[List.set] at S
 exact aQ S 0 rfl (x:=Pv.zero.t) rfl ⟨rfl,S.fra⟩
theorem Mk (hs:s.length<2 ^ 60) (hT:KT h):aq P fO #[.string (str s)] h (Qx h):=by
 by_cases he:(tQ s).2=0
 ·by_cases hl:(tQ s).1.look.e=0
  ·obtain⟨W0,R0,rt⟩:=Jg hl
   obtain⟨Lo,Hi,rc⟩:=HX rt.ordered R0
   obtain⟨φ,pos1,rt1,rc1,_⟩:=FC rt rc
   refine(DM hs hT he rt rt1 rc1).mono ?_
   rintro _ h1 (⟨_,rfl,F⟩|⟨hf,pv,e,rfl,F,el,hz,ho⟩)
   ·exact .inl ⟨16,by decide,rfl,F⟩
   ·by_cases e0:e=0
    ·subst e0
     obtain⟨W2,R2,pos2,rt2,fit⟩:=FO rt hf
     exact .inr ⟨pv,cR (tQ s).1,_,_,_,_,_,W2,R2,pos2,rfl,F,⟨rt1,rc1,rt2,fit,el.symm⟩,ho rfl⟩
    ·obtain⟨e17,rfl⟩:=hz e0
     exact .inl ⟨e,e0,rfl,F⟩
  ·refine(KR hs hT he hl).mono ?_
   rintro _ h1 ⟨rfl,F⟩
   exact .inl ⟨_,hl,rfl,F⟩
 ·refine(Ie hs he).mono ?_
  rintro _ h1 ⟨rfl,F⟩
  exact .inl ⟨_,he,rfl,F⟩
theorem Iz {g:ae} {pv:Pv} {G:Gr} {W R Lo Hi:Int→Int} {pos:Int→Nat} {W2 R2:Int→Int} {pos2:Int→Nat} (r:Pr G W R Lo Hi pos W2 R2 pos2) (po:JC G W R Hi pv h g) {h':ae} (hT:KT h') (hn:bT h' pv.g.p (aF pv.g.ns)) (hr:(aZ pv.g.ns).P h') (ho:bT h' pv.o.p (az pv.o.xs)) (hrow:bT h' pv.rp (eP pv.rs)):
 aq P iS #[pv.v] h' fun v h2=>v= .bool true∧cu no h' h2:=by
 obtain⟨egr,ok,ook,eo,erl,ers,ewd,emc,ehs,bnd,_⟩:=po
 obtain⟨rt1,rc1,rt2,fit,he⟩:=r
 obtain⟨sz,esz⟩: ∃sz,G.sizesF W R Hi=sz:=⟨_,rfl⟩
 rw[esz] at he ers ewd
 obtain⟨hlay,hnn⟩:=JB he
 have G0:=KE sz 0 _ hlay hnn (by decide) (by decide) (by decide)
 have lsz:sz.length=pv.rl:=by rw[←esz,erl];simp[Gr.sizesF]
 have lat:(cL sz).1.length=pv.rl:=by rw[DL he,lsz]
 obtain⟨A,eA⟩: ∃A:Nat→Int,A=fun i=>((cL sz).1++[(cL sz).2.1]).getD i 0:=⟨_,rfl⟩
 have G1: ∀i,i≤pv.rl→0≤A i∧A i≤4096∧A i % 4=0∧(i=0→A i=0)∧(i<pv.rl→A i+sz.getD i 0≤4096∧A (i+1)=(A i+sz.getD i 0+3) / 4*4):=fun i hi=>by rw[eA];rw[←lsz] at hi ⊢;exact G0 i hi
 have aw:A pv.rl=pv.words:=by
  rw[eA,ewd]
  show((cL sz).1++[(cL sz).2.1]).getD pv.rl 0=_
  rw[←lat,List.getD_eq_getElem?_getD,List.getElem?_append_right (Nat.le_refl _),Nat.sub_self];rfl
 have bx: ∀i,i<pv.rl→pv.rs[i]? =some ⟨A i,W i,(G.rooms R Hi).getD i 0⟩∧1≤W i∧1≤(G.rooms R Hi).getD i 0∧sz.getD i 0=(G.rooms R Hi).getD i 0*W i:=by
  intro i hi
  have hb:=bnd i (by omega)
  refine⟨?_,hb.1.1,hb.2.1,?_⟩
  ·rw[ers]
   unfold Gr.rings
   rw[List.getElem?_map,List.getElem?_range (by omega),Option.map_some]
   congr 2
   rw[eA]
   show _=((cL sz).1++[(cL sz).2.1]).getD i 0
   rw[List.getD_eq_getElem?_getD,List.getD_eq_getElem?_getD,List.getElem?_append_left (by omega)]
  ·rw[←esz]
   unfold Gr.sizesF
   rw[List.getD_eq_getElem?_getD,List.getElem?_map,List.getElem?_range (by omega)];rfl
 have step: ∀i,i<pv.rl→A i+(G.rooms R Hi).getD i 0*W i≤A (i+1):=fun i hi=>by
  have:=((G1 i (by omega)).2.2.2.2 hi).2
  rw[(bx i hi).2.2.2] at this
  omega
 have upto: ∀k i,i+k=pv.rl→A i≤A pv.rl:=by
  intro k
  induction k with
  |zero=>intro i hi;rw[show i=pv.rl by omega];exact Int.le_refl _
  |succ k ih=>
   intro i hi
   have h1:=ih (i+1) (by omega)
   have h2:=step i (by omega)
   have h3:=bx i (by omega)
   have:0≤(G.rooms R Hi).getD i 0*W i:=Int.mul_nonneg (by omega) (by omega)
   omega
 have hlen:pv.rs.length=pv.rl:=by rw[ers,erl];simp[Gr.rings]
 have hgl:G.nodes.length=pv.g.l:=by rw[←ok.1,←egr];simp[Gv.gr]
 rw[←egr] at rt1 rc1 rt2 fit eo emc ehs
 refine KQ hT ok hn hr rt1 rc1 rt2 fit ook eo ho hrow hlen (by omega) (by rw[←aw];have:=G1 pv.rl (Nat.le_refl _);omega) (fun x hx=> ?_) (fun x y z ey ez=> ?_) emc ehs
 ·obtain⟨e,w1,r1,es⟩:=bx x hx
  refine⟨_,e,rfl,by rw[egr],(G1 x (by omega)).1,r1,w1,?_⟩
  have h1:=step x hx
  have h2:=upto (pv.rl-(x+1)) (x+1) (by omega)
  rw[aw] at h2
  exact Int.le_trans h1 h2
 ·have hz:=(List.getElem?_eq_some_iff.1 ez).1
  rw[hlen] at hz
  have e1:=(bx x (by omega)).1
  have e2:=(bx (x+1) hz).1
  rw[ey] at e1;cases e1
  rw[ez] at e2;cases e2
  exact step x (by omega)
theorem JR {pv:Pv} (hok:pv.g.ok) (hn:bT h pv.g.p (aF pv.g.ns)) (hr:(aZ pv.g.ns).P h) (hl:pv.g.l<2 ^ 62) (sm: ∀n∈pv.g.ns,n.small) (ook:pv.o.ok) (ol:pv.o.l<2 ^ 62) (ho:bT h pv.o.p (az pv.o.xs)) (hd:pv=Pv.zero∨pv.g.gr≠Gv.zero.gr):
 aq P mt #[pv.v,Pv.zero.v] h fun v h'=> ∃b:Bool,v= .bool b∧(b=true↔pv.g.gr=Gv.zero.gr)∧cu no h h':=by
 refine AL pv.t Pv.zero.t ?_
 unfold Cl
 have S:=(((aK.start h no).read (row pv.g.p (aF pv.g.ns)) hn).read (aZ pv.g.ns) hr).read (row pv.o.p (az pv.o.xs)) ho
 refine aC (cs:=pv.cells) S fun b1 _ _ S=> ?_
 refine aC (cs:=Pv.zero.cells) S fun b3 h4 _ S=> ?_
 dsimp only[List.nil_append,List.cons_append] at S
 have z:=Mi (h:=h4)
 refine Q3 (pv:=pv) (fun j v hv=>S.cell 0 rfl hv) (Q3 (pv:=Pv.zero) (fun j v hv=>S.cell 1 rfl hv) ?_)
 refine aq.mono (L4 hok z.1 (S.row 0 rfl) (S.r 1 _ rfl) z.2.2.2 z.2.2.1 hl sm) ?_
 rintro _ h7 ⟨b,rfl,hb,F⟩
 replace S:=S.fra0 F
 refine⟨_,rfl,am (p:=pv.o.p) (l:=pv.o.l) (c:=pv.o.c) (S.cell 0 rfl rfl) (am (p:=none) (l:=0) (c:=0) (S.cell 1 rfl rfl) ?_)⟩
 refine(NX (S.row 2 rfl) ook.1 (ys:=[]) (bT.nil _ _) rfl ol).mono ?_
 rintro _ h11 ⟨rfl,eg⟩
 subst eg
 refine⟨_,rfl,?_⟩
 rcases hd with e|hne
 ·subst e
  have hbt:b=true:=hb.2 rfl
  refine⟨fun s g=>s=(⟨b1,0,none⟩,⟨b3,0,none⟩,())∧aK h no g [blk b1 Pv.zero.cells,blk b3 Pv.zero.cells] [row Pv.zero.g.p (aF Pv.zero.g.ns),aZ Pv.zero.g.ns,row Pv.zero.o.p (az Pv.zero.o.xs)],?_,?_⟩
  ·clear S
   rintro s g ⟨rfl,S⟩
   unfold vj
   dsimp only
   refine aT (fun m s g'=>s=(⟨b1,0,none⟩,⟨b3,0,none⟩,(0:Int),())∧aK h no g' [blk b1 Pv.zero.cells,blk b3 Pv.zero.cells] [row Pv.zero.g.p (aF Pv.zero.g.ns),aZ Pv.zero.g.ns,row Pv.zero.o.p (az Pv.zero.o.xs)]) 0 ⟨rfl,S⟩ ?_
   clear S
   rintro m s g' ⟨rfl,S⟩
   unfold vi
   dsimp only
   simp only[aY,Nat.zero_add]
   refine am (p:=none) (l:=0) (c:=0) (S.cell 0 rfl rfl) (bQ rfl ?_)
   refine af (n:=0) (S.cell 0 rfl rfl) (af (n:=0) (S.cell 1 rfl rfl) (cq rfl ?_))
   refine af (n:=0) (S.cell 0 rfl rfl) (af (n:=0) (S.cell 1 rfl rfl) (cq rfl ?_))
   refine af (k:= .u32) (n:=0) (S.cell 0 rfl rfl) (af (k:= .u32) (n:=0) (S.cell 1 rfl rfl) ⟨true,rfl,⟨fun _=>rfl,fun _=>rfl⟩,S.fra⟩)
  ·rw[hbt]
   refine bQ rfl (bQ rfl ?_)
   refine am (p:=none) (l:=0) (c:=0) (S.cell 0 rfl rfl) (am (p:=none) (l:=0) (c:=0) (S.cell 1 rfl rfl) (bQ rfl ⟨rfl,S⟩))
 ·have hbf:b=false:=by
   cases b with
   |false=>rfl
   |true=>exact absurd (hb.1 rfl) hne
  refine⟨fun _ _=>False,fun _ _ h=>h.elim,?_⟩
  rw[hbf]
  exact cq rfl ⟨false,rfl,⟨fun h=>Bool.noConfusion h,fun h=>absurd h hne⟩,S.fra⟩
theorem pZ (hs:s.length<2 ^ 60) (hT:KT h):aq P fU #[.string (str s)] h fun v h'=>v= .bool true∧cu no h h':=by
 refine yT _ ?_
 unfold zO
 have S:=(aK.start h no).read (blk 0 (az aS)) hT
 refine(Mk hs (S.r 0 _ rfl)).mono ?_
 rintro _ h1 (⟨e,he,rfl,F⟩|⟨pv,G,W,R,Lo,Hi,pos,W2,R2,pos2,rfl,F,r,po⟩)
 ·replace S:=S.fra0 F
  refine jQ Pv.zero.t ⟨_,rfl,?_⟩
  refine aC (cs:=Pv.zero.cells) S fun b5 h6 _ S=> ?_
  dsimp only[List.cons_append,List.nil_append] at S
  refine cG S 0 rfl rfl (bC rfl) fun h7 _ S=> ?_
  dsimp only[List.set] at S
  refine aQ S 0 rfl (x:=Pv.zero.t) rfl ?_
  refine(GV (S.r 0 _ rfl)).mono ?_
  rintro _ h9 ⟨rfl,F⟩
  replace S:=S.fra0 F
  refine⟨_,rfl,aQ S 0 rfl (x:=Pv.zero.t) rfl ?_⟩
  have z:=Mi (h:=h9)
  refine aq.mono (JR (pv:=Pv.zero) z.1 z.2.2.2 z.2.2.1 (by decide) (fun n hn=>by cases hn) ⟨rfl,Nat.le_refl _⟩ (by decide) (bT.nil _ _) (.inl rfl)) ?_
  rintro _ h12 ⟨b,rfl,hb,F⟩
  have hbt:b=true:=hb.2 rfl
  have hne:(e==0)=false:=by simpa using he
  refine⟨_,rfl,?_⟩
  rw[hne,hbt]
  exact cq rfl ⟨rfl,(S.fra0 F).fra⟩
 ·obtain⟨egr,ok,ook,eo,erl,ers,ewd,emc,ehs,bnd,br,erp,S1⟩:=id po
  replace S:=S.add S1 fun _ _ h=>h
  dsimp only[List.cons_append,List.nil_append] at S
  refine jQ pv.t ⟨_,rfl,?_⟩
  refine aC (cs:=Pv.zero.cells) S fun b5 h6 _ S=> ?_
  dsimp only[List.cons_append,List.nil_append] at S
  refine cG S 5 rfl rfl (bC rfl) fun h7 _ S=> ?_
  dsimp only[List.set] at S
  refine aQ S 5 rfl (x:=pv.t) rfl ?_
  have rows: ∀{g:ae},aK h no g [own 15 pv.g.p pv.g.l pv.g.c (aF pv.g.ns),fe (pv.g.ns.map Nv.inn),cA (ul pv.g.ns),own 1 pv.o.p pv.o.l pv.o.c (az pv.o.xs),blk br (eP pv.rs),blk b5 pv.cells] [blk 0 (az aS)]→
   bT g pv.g.p (aF pv.g.ns)∧(aZ pv.g.ns).P g∧bT g pv.o.p (az pv.o.xs)∧bT g pv.rp (eP pv.rs):=fun S=>
   ⟨(S.own 0 rfl).row,JG (S.w 1 _ rfl) (S.w 2 _ rfl),(S.own 3 rfl).row,by rw[erp];exact bT.of_at (S.at 4 rfl)⟩
  obtain⟨r1,r2,r3,r4⟩:=rows S
  refine(Iz r po (S.r 0 _ rfl) r1 r2 r3 r4).mono ?_
  rintro _ h9 ⟨rfl,F⟩
  replace S:=S.fra0 F
  refine⟨_,rfl,aQ S 5 rfl (x:=pv.t) rfl ?_⟩
  obtain⟨r1,r2,r3,r4⟩:=rows S
  have rt:=r.rt
  have hfo:=bW rt.first
  have sz:=(show bJ pv.g.gr W R pos by rw[egr];exact rt).sizes ok
  have hgl:G.nodes.length=pv.g.l:=by rw[←ok.1,←egr];simp[Gv.gr]
  have hne:pv.g.gr≠Gv.zero.gr:=fun e=>by
   have:=hfo.1
   rw[egr] at e
   rw[e] at this
   simp[Gv.zero,Gv.gr] at this
  have hol:pv.o.l=G.nodes.length:=by rw[←ook.1,eo,rt.ordered]
  refine aq.mono (JR ok r1 r2 (by omega) (fun n hn=>by have:=sz.2 n hn;exact⟨by omega,by omega,by omega⟩) ook (by omega) r3 (.inr hne)) ?_
  rintro _ h12 ⟨b,rfl,hb,F⟩
  have hbf:b=false:=by
   cases b with
   |false=>rfl
   |true=>exact absurd (hb.1 rfl) hne
  refine⟨_,rfl,?_⟩
  rw[hbf]
  exact cq rfl ⟨rfl,(S.fra0 F).fra⟩
theorem zy (hs:s.length<2 ^ 59) (q0 q1:Int):aq P iz #[.string (str s),.agg #[.int .i64 q0,.int .i64 q1]] h fun v h'=> ∃u:List UInt8,v= .string (str u)∧u.length≤s.length+1∧cu no h h':=by
 refine w8 _ _ _ ?_
 unfold w7
 have S:=aK.start h no
 refine aC (cs:=[.int .i64 q0,.int .i64 q1]) S fun b1 h2 _ S=> ?_
 dsimp only[List.nil_append,List.cons_append] at S
 rw[cE]
 refine aO (fun h0=>⟨s,rfl,by omega,S.fra⟩) (fun h0=> ?_)
 refine ig (by decide) (by decide) ?_
 refine af (n:=q0) (S.cell 0 rfl rfl) ⟨h0,h0,?_⟩
 obtain⟨k,ek,hk⟩:=DA q0 (n:=s.length) (by omega) (by omega)
 rw[ek]
 refine ig (by decide) (by decide) ?_
 refine af (n:=q1) (S.cell 0 rfl rfl) (au (fun _=> ?_) (fun _=> ?_))
 ·refine ja (n:=k) rfl (by omega) ?_
  rw[jP]
  exact⟨_,rfl,by rw[List.length_take,List.length_drop];omega,S.fra⟩
 ·refine ja (n:=k) rfl (by omega) ?_
  refine ig (by decide) (by decide) ?_
  rw[al (n:=(k:Int)+1) (by omega)]
  refine ja (n:=k+1) rfl (by omega) ?_
  refine af (n:=q1) (S.cell 0 rfl rfl) ?_
  refine aC (cs:=[.int .u8 (IntKind.wrap .u8 q1)]) S fun b9 h10 _ S=> ?_
  dsimp only[List.nil_append,List.cons_append] at S
  refine Jf (bs:=[kX q1]) (bT.of_at (by have:=S.at 1 rfl;rw[Gi,←kY] at this;exact this)) rfl ⟨_,rfl,?_⟩
  rw[jP,jP]
  refine kK (by rw[cE,cE,List.length_singleton,List.length_take];omega) ?_
  rw[jF]
  refine kK (by rw[cE,cE,List.length_append,List.length_singleton,List.length_take,List.length_take,List.length_drop,List.length_drop];omega) ?_
  rw[jF]
  exact⟨_,rfl,by simp only[List.length_append,List.length_singleton,List.length_take,List.length_drop];omega,S.fra⟩
end
end Go.Proofs.YtdhpmegbmjoekaaGreatDoor.G
end
