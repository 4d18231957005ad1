/- What is fused tells the same: values of nodes along the steps of the fusing; the law of frames. -/
import Derived.Test.YtdhpmegbmjoekaaGreatDoorCGood2
namespace Go.Proofs.YtdhpmegbmjoekaaGreatDoor.G
open Go Go.Sh
set_option linter.unusedVariables false
set_option linter.unusedSimpArgs false
structure QW {α:Type} (Φ:Nd→List α→Int→α):Prop where
 inn: ∀(n:Nd) (l:List Int) (vs:List α) (w:Int),l.length=n.inn.length→Φ {n with inn:=l} vs w=Φ n vs w
 take: ∀(a u x:Nd) (ws:List Int) (vs:List α) (w:Int),qK a u=some x→jb a.kind→a.chk ws=0→u.chk [a.wid ws]=0→Φ x vs w=Φ u [Φ a vs w] (a.wid ws)
def Rh {α:Type} (Φ:Nd→List α→Int→α) (ns:List Nd) (M:LM) (W:Int→Int) (V:Int→α):Prop:=
 ∀(i:Nat) (n:Nd),ns[i]? =some n→(M ((i:Int)+1)).isSome=true→V ((i:Int)+1)=Φ n (n.inn.map V) (W (n.inn.getD 0 0))
theorem DD {α:Type} (V:Int→α) (l:List Int):V (l.getD 0 0)=(l.map V).getD 0 (V 0):=by cases l<;>rfl
section
variable {α:Type} {Φ:Nd→List α→Int→α} {g:Gr} {W R:Int→Int} {pos pos':Int→Nat} {ns:List Nd} {out:Int} {M:LM} {i w:Nat} {na nu a':Nd} {st:Bc}
theorem pY.vals (hΦ:QW Φ) (r:bJ {g with nodes:=ns,out:=out} W R pos) (I:fZ ns out M pos') (s:pY ns out M i w na nu a' st) {V:Int→α} (hV:Rh Φ ns M W V): ∃V':Int→α,Rh Φ st.1 st.2.2 W V'∧V' 0=V 0∧V' st.2.1=V out:=by
 obtain⟨hW,hR⟩:=s.same r I
 have hinn:=s.inn I
 have hlive:=s.live I
 have hne:=s.ne I
 refine⟨fun x=>if x=(i:Int)+1 then V ((w:Int)+1) else V x,fun q n' en hl=> ?_,if_neg (by omega),?_⟩
 ·obtain⟨hMq,hqw⟩:=(s.some I _).1 hl
  obtain⟨n,m,en0,em,hm,e,hlen,hVi,hmem⟩:=s.node I en
  have hρ:=hVi (fun x=>if x=(w:Int)+1 then(i:Int)+1 else x) (by
   show(if(w:Int)+1=(w:Int)+1 then(i:Int)+1 else _)=if(i:Int)+1=(w:Int)+1 then _ else _
   rw[if_pos rfl,if_neg (by omega)])
  have hin:n'.inn.map (fun x=>if x=(i:Int)+1 then V ((w:Int)+1) else V x)=n.inn.map (fun x=>if x=(i:Int)+1 then V ((w:Int)+1) else V x):=by
   have key: ∀l:List Int,l.map (fun x=>if x=(i:Int)+1 then V ((w:Int)+1) else V x)=(l.map fun x=>if x=(w:Int)+1 then(i:Int)+1 else x).map (fun x=>if x=(i:Int)+1 then V ((w:Int)+1) else V x):=fun l=>by
    rw[List.map_map]
    refine List.map_congr_left fun x _=> ?_
    show(if x=(i:Int)+1 then V ((w:Int)+1) else V x)=if(if x=(w:Int)+1 then(i:Int)+1 else x)=(i:Int)+1 then V ((w:Int)+1) else V (if x=(w:Int)+1 then(i:Int)+1 else x)
    by_cases h1:x=(w:Int)+1
    ·have h3: ¬x=(i:Int)+1:=by omega
     rw[if_neg h3]
     simp only[if_pos h1]
     rw[if_pos trivial,h1]
    ·simp only[if_neg h1]
   rw[key n'.inn,key n.inn,hρ]
  have hin2:n.inn.map (fun x=>if x=(i:Int)+1 then V ((w:Int)+1) else V x)=n.inn.map V:=List.map_congr_left fun j hj=>by
   have hne:j≠(i:Int)+1:=fun hj1=>by
    subst hj1
    have hq:q<ns.length:=(List.getElem?_eq_some_iff.1 en0).1
    have:=hlive.2 q hq hMq (by rw[fS en0];exact hj)
    omega
   exact if_neg hne
  have hWd:W (n'.inn.getD 0 0)=W (n.inn.getD 0 0):=by rw[DD W,DD W,hVi W hW]
  rw[hin,hin2,hWd,e,hΦ.inn m n'.inn _ _ (by rw[hlen,hm]),em]
  by_cases hq:q=i
  ·subst hq
   have ena:=s.ea
   rw[en0] at ena;cases ena
   rw[if_pos rfl]
   dsimp only
   rw[if_pos rfl]
   have e1:=hV q na en0 hMq
   have e2:=hV w nu s.eu hlive.1
   rw[hinn] at e2
   have hc:=r.chk q na en0
   have hcu:=r.chk w nu s.eu
   rw[hinn] at hcu
   have hwq:=r.wid q na en0
   have hcu:nu.chk [na.wid (na.inn.map W)]=0:=by rw[←hwq];exact hcu
   rw[e2]
   show Φ nu [V ((q:Int)+1)] (W ((q:Int)+1))=_
   rw[e1,hwq]
   exact(hΦ.take na nu a' (na.inn.map W) (na.inn.map V) (W (na.inn.getD 0 0)) s.tk s.we hc hcu).symm
  ·rw[if_neg hq]
   dsimp only
   rw[if_neg (by omega)]
   exact hV q n en0 hMq
 ·have ho:st.2.1=if out=(w:Int)+1 then(i:Int)+1 else out:=by rw[s.st]
  dsimp only
  rw[ho]
  by_cases h:out=(w:Int)+1
  ·rw[if_pos h,if_pos rfl,h]
  ·rw[if_neg h,if_neg (fun h2=>s.no h2.symm)]
theorem FA (hΦ:QW Φ) {V:Int→α}: ∀(k:Nat) (s:Bc),fZ s.1 s.2.1 s.2.2 pos'→bJ {g with nodes:=s.1,out:=s.2.1} W R pos→Rh Φ s.1 s.2.2 W V→ ∃V':Int→α,Rh Φ (cY k s).1 (cY k s).2.2 W V'∧V' 0=V 0∧V' (cY k s).2.1=V s.2.1
 |0,s,I,r,c=>⟨V,c,rfl,rfl⟩
 |k+1,s,I,r,c=>by
  unfold cY
  cases e:gW s.1 s.2.1 s.2.2 with
  |none=>exact⟨V,c,rfl,rfl⟩
  |some t=>
   obtain⟨i,w,na,nu,a',st,_⟩:=mG I e
   obtain⟨V',q1,q2,q3⟩:=st.vals hΦ r I c
   obtain⟨V'',p1,p2,p3⟩:=FA hΦ k t (st.inv I) (st.right r I) q1
   exact⟨V'',p1,p2.trans q2,p3.trans q3⟩
theorem DE: ∀(k:Nat) (s:Bc),fZ s.1 s.2.1 s.2.2 pos'→bJ {g with nodes:=s.1,out:=s.2.1} W R pos→fZ (cY k s).1 (cY k s).2.1 (cY k s).2.2 pos'∧bJ {g with nodes:=(cY k s).1,out:=(cY k s).2.1} W R pos
 |0,s,I,r=>⟨I,r⟩
 |k+1,s,I,r=>by
  unfold cY
  cases e:gW s.1 s.2.1 s.2.2 with
  |none=>exact⟨I,r⟩
  |some t=>
   obtain⟨i,w,na,nu,a',st,_⟩:=mG I e
   exact DE k t (st.inv I) (st.right r I)
end
theorem Jv {g:Gr} {W R:Int→Int} (r:bJ g W R (posG g.nodes)): ∃(φ:Int→Int) (pos:Int→Nat),bJ (cR g) (W ∘ φ) (R ∘ φ) pos∧
 ∀{α:Type} {Φ:Nd→List α→Int→α},QW Φ→ ∀V:Int→α,(∀(i:Nat) (n:Nd),g.nodes[i]? =some n→V ((i:Int)+1)=Φ n (n.inn.map V) (W (n.inn.getD 0 0)))→
  ∃V':Int→α,V' 0=V 0∧V' (cR g).out=V g.out∧ ∀(i:Nat) (n:Nd),(cR g).nodes[i]? =some n→V' ((i:Int)+1)=Φ n (n.inn.map V') ((W ∘ φ) (n.inn.getD 0 0)):=by
 have e0:g.look.e=0:=by rw[r.look]
 have I:=uj e0
 have K:=DE (g:=g) (g.nodes.length+1) (g.nodes,g.out,kj g.nodes g.out) I r
 have eF:cR g=fb g (cY (g.nodes.length+1) (g.nodes,g.out,kj g.nodes g.out)):=by unfold cR;rw[if_pos e0]
 have Vs: ∀{α:Type} {Φ:Nd→List α→Int→α},QW Φ→ ∀V:Int→α,(∀(i:Nat) (n:Nd),g.nodes[i]? =some n→V ((i:Int)+1)=Φ n (n.inn.map V) (W (n.inn.getD 0 0)))→_:=fun{α Φ} hΦ V hV=>FA (g:=g) hΦ (V:=V) (g.nodes.length+1) (g.nodes,g.out,kj g.nodes g.out) I r (fun i n en _=>hV i n en)
 rw[eF]
 generalize cY (g.nodes.length+1) (g.nodes,g.out,kj g.nodes g.out)=F at K Vs
 obtain⟨ns,out,M⟩:=F
 obtain⟨I2,r2⟩:=K
 dsimp only at I2 r2 Vs
 refine⟨wt M ns.length,_,wy r2 I2,fun{α Φ} hΦ V hV=> ?_⟩
 obtain⟨V',q1,q2,q3⟩:=Vs hΦ V hV
 refine⟨fun x=>V' (wt M ns.length x),by dsimp only;rw[nB];exact q2,by dsimp only;rw[H9 I2];exact q3,fun k n' en=> ?_⟩
 obtain⟨i,n,h1,h2,h3,rfl⟩:=tN en
 have hi:=(List.getElem?_eq_some_iff.1 h3).1
 have hb:=pV I2 h1 h3 id
 rw[List.map_id] at hb
 have hu:wt M ns.length ((k:Int)+1)=(i:Int)+1:=by rw[←h2];exact wu hi h1
 have hin:(n.ren (cZ ns M ns.length).2).inn.map (fun x=>V' (wt M ns.length x))=n.inn.map V':=by
  conv=>rhs;rw[←hb]
  rw[List.map_map];rfl
 have hW:W (wt M ns.length ((n.ren (cZ ns M ns.length).2).inn.getD 0 0))=W (n.inn.getD 0 0):=by
  have h4:=DD (wt M ns.length) (n.ren (cZ ns M ns.length).2).inn
  rw[nB] at h4
  have hb:(n.ren (cZ ns M ns.length).2).inn.map (wt M ns.length)=n.inn:=hb
  rw[h4,hb]
 dsimp only
 rw[hu,hin,q1 i n h3 h1]
 show _=Φ _ _ (W (wt M ns.length ((n.ren (cZ ns M ns.length).2).inn.getD 0 0)))
 rw[hW]
 exact(hΦ.inn n _ _ _ (by show(List.map _ _).length=_;rw[List.length_map])).symm
theorem NE {x:Int} (h:x=0):cS .i64 x 1=0∧cS .i64 x 2=0:=by subst h;exact⟨R8,R9⟩
theorem DF {a u x:Nd} (h:qK a u=some x):(u.kind=10∧a.post=0∧x={a with post:=1,mult:=u.mult,shift:=u.shift})∨(u.kind=9∧cS .i64 a.post 2=0∧x={a with post:=DW .i64 a.post 2,low:=u.low,high:=u.high}):=by
 unfold qK at h
 split at h
 ·rename_i hc;cases h;exact .inl ⟨hc.1,hc.2,rfl⟩
 ·split at h
  ·rename_i hc;cases h;exact .inr ⟨hc.1,hc.2,rfl⟩
  ·cases h
theorem LL {a u x:Nd} (h:qK a u=some x):x.kind=a.kind∧x.inn=a.inn∧x.width=a.width∧x.size=a.size∧x.step=a.step∧x.gap=a.gap∧x.left=a.left∧x.right=a.right∧x.weights=a.weights∧x.bias=a.bias:=by
 rcases DF h with ⟨_,_,rfl⟩|⟨_,_,rfl⟩<;>exact⟨rfl,rfl,rfl,rfl,rfl,rfl,rfl,rfl,rfl,rfl⟩
theorem Qd {a:Nd} {ws:List Int} (h:a.chk ws=0) (h2:cS .i64 a.post 2=0):a.post=0∨a.post=1:=by
 have c5:=(iH h).2.2.2.2.1
 have:a.post=0∨a.post=1∨a.post=2∨a.post=3:=by omega
 rcases this with h|h|h|h
 ·exact .inl h
 ·exact .inr h
 ·exfalso;rw[h,a22] at h2;exact absurd h2 (by decide)
 ·exfalso;rw[h,a32] at h2;exact absurd h2 (by decide)
end Go.Proofs.YtdhpmegbmjoekaaGreatDoor.G
