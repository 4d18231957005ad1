/- CBnd CBnd2 CRng CRng2, in one text. -/
import Derived.Test.YtdhpmegbmjoekaaGreatDoorCSat
import Derived.Test.YtdhpmegbmjoekaaGreatDoorCKindP3
import Derived.Test.YtdhpmegbmjoekaaGreatDoorCRight
section
namespace Go.Proofs.YtdhpmegbmjoekaaGreatDoor.G
open Go Go.Sh
set_option linter.unusedVariables false
set_option linter.unusedSimpArgs false
structure Rg where
 lo:Int
 hi:Int
 alo:Int
 ahi:Int
def Rg.cells (r:Rg):List Value:=[.int .i64 r.lo,.int .i64 r.hi,.int .i64 r.alo,.int .i64 r.ahi]
abbrev Rg.v (r:Rg):Value:= .agg #[.int .i64 r.lo,.int .i64 r.hi,.int .i64 r.alo,.int .i64 r.ahi]
def fC (l u:Int):Rg:=⟨l,u,l,u⟩
def ED (ws:List Int) (b l u:Int):Int×Int:=ws.foldl (fun s w=>if w<0 then(fc (s.1+fc (w*u)),fc (s.2+fc (w*l))) else(fc (s.1+fc (w*l)),fc (s.2+fc (w*u)))) (b,b)
def Nd.each (n:Nd):Nat:=n.weights.length / n.bias.length
def Nd.ends (n:Nd) (l u:Int) (c:Nat):Int×Int:=ED ((n.weights.drop (c*n.each)).take n.each) (n.bias.getD c 0) l u
def mL (n:Nd) (l u:Int) (k:Nat):Int×Int:=(List.range k).foldl (fun s c=>(if(n.ends l u c).1<s.1 then(n.ends l u c).1 else s.1,if(n.ends l u c).2>s.2 then(n.ends l u c).2 else s.2)) (n.ends l u 0)
def cO (n:Nd) (l u:Int):Rg:=
 ⟨mM n (mL n l u n.bias.length).1,mM n (mL n l u n.bias.length).2,(mL n l u n.bias.length).1,(mL n l u n.bias.length).2⟩
section
variable {h:ae}
theorem qb {h0:ae} {T:Nat→Prop} {W R:List bi} {b:Nat} {r0 r1 r2 r3:Value} (S:aK h0 T h (blk b [r0,r1,r2,r3]::W) R) (r:Rg) {K:Value→ae→Prop} (H: ∀h',aK h0 T h' (blk b r.cells::W) R→K r.v h'):
 bu h ⟨b,0,none⟩ (.int .i64 r.lo) fun h1=>bu h1 ⟨b,1,none⟩ (.int .i64 r.hi) fun h2=>bu h2 ⟨b,2,none⟩ (.int .i64 r.alo) fun h3=>bu h3 ⟨b,3,none⟩ (.int .i64 r.ahi) fun h4=>
  ah .i64 h4 ⟨b,0,none⟩ fun n0=>ah .i64 h4 ⟨b,1,none⟩ fun n1=>ah .i64 h4 ⟨b,2,none⟩ fun n2=>ah .i64 h4 ⟨b,3,none⟩ fun n3=>K (.agg #[.int .i64 n0,.int .i64 n1,.int .i64 n2,.int .i64 n3]) h4:=by
 refine aJ S 0 rfl (Nat.le_of_ble_eq_true rfl) fun _ _ S=> ?_
 dsimp only[List.set] at S
 refine aJ S 0 rfl (Nat.le_of_ble_eq_true rfl) fun _ _ S=> ?_
 dsimp only[List.set] at S
 refine aJ S 0 rfl (Nat.le_of_ble_eq_true rfl) fun _ _ S=> ?_
 dsimp only[List.set] at S
 refine aJ S 0 rfl (Nat.le_of_ble_eq_true rfl) fun _ _ S=> ?_
 dsimp only[List.set] at S
 exact af (S.cell 0 rfl rfl) (af (S.cell 0 rfl rfl) (af (S.cell 0 rfl rfl) (af (S.cell 0 rfl rfl) (H _ S))))
theorem wC (l u:Int):aq P eS #[.int .i64 l,.int .i64 u] h fun v h'=>v=(fC l u).v∧cu no h h':=by
 refine AW _ _ ?_
 unfold CF
 have S:=aK.start h no
 refine aC S (fun b1 _ _ S=> ?_)
 dsimp only[List.nil_append] at S
 exact qb S (fC l u) (K:=fun v g=>v=(fC l u).v∧cu no h g) fun h' S=>⟨rfl,S.fra⟩
theorem JS {n:Nd} {c:Nat} (hc:c<n.bias.length):(c+1)*n.each≤n.weights.length:=by
 unfold Nd.each
 exact Nat.le_trans (Nat.mul_le_mul_right _ hc) (Nat.mul_div_le _ _)
theorem GW {nv:Nv} (hok:nv.ok) (hr:nv.rows.P h) {b1 b2 b3 b4:Nat} {l u:Int} (h8:aD h ⟨b1,8,none⟩=some nv.weights.v) (h9:aD h ⟨b1,9,none⟩=some nv.bias.v)
 (he:aD h ⟨b2,0,none⟩=some (.int .i64 (nv.nd.each:Int))) (hu:aD h ⟨b3,0,none⟩=some (.int .i64 u)) (hl:aD h ⟨b4,0,none⟩=some (.int .i64 l)) {c:Nat} (hc:c<nv.bias.l) (hw:nv.weights.l<2 ^ 40) (hb:nv.bias.l<2 ^ 40):
 aq P fJ #[.int .i64 (c:Int),.pointer (some ⟨b1,0,none⟩),.pointer (some ⟨b2,0,none⟩),.pointer (some ⟨b3,0,none⟩),.pointer (some ⟨b4,0,none⟩)] h
  fun v h'=>v= .tuple #[.int .i64 (nv.nd.ends l u c).1,.int .i64 (nv.nd.ends l u c).2]∧h'=h:=by
 refine th _ _ _ _ _ ?_
 unfold rK
 have hbr:bT h nv.bias.p (az nv.bias.xs):=hr nv.bias.row (by simp)
 have hwr:bT h nv.weights.p (az nv.weights.xs):=hr nv.weights.row (by simp)
 have lb:nv.bias.xs.length=nv.bias.l:=hok.2.2.1
 have lw:nv.weights.xs.length=nv.weights.l:=hok.2.1.1
 have lc:nv.weights.l≤nv.weights.c:=hok.2.1.2
 have hE:(c+1)*nv.nd.each≤nv.weights.l:=by have:=JS (n:=nv.nd) (c:=c) (by show c<nv.bias.xs.length;omega);rw[←lw];exact this
 have hE2:(c+1)*nv.nd.each=c*nv.nd.each+nv.nd.each:=by rw[Nat.add_mul,Nat.one_mul]
 obtain⟨ab,eb⟩:=hbr.some_of (by rw[aB];omega)
 have cb:aD h (ab.add c)=some (.int .i64 (nv.nd.bias.getD c 0)):=by
  rw[eb] at hbr
  refine hbr.cell (aN ?_)
  show nv.bias.xs[c]? =some (nv.bias.xs.getD c 0)
  rw[List.getD_eq_getElem?_getD,List.getElem?_eq_getElem (by omega)];rfl
 simp only[aY,Nat.zero_add,Int.toNat_natCast,Nat.mul_one]
 refine am h9 (aG eb (k:=c) rfl hc (af cb (am h9 (aG eb (k:=c) rfl hc (af cb (am h8 (af he (af he ?_))))))))
 have c1:((c:Int)+1)*(nv.nd.each:Int)=(((c+1)*nv.nd.each:Nat):Int):=by push_cast;rfl
 have c2:(c:Int)*(nv.nd.each:Int)=((c*nv.nd.each:Nat):Int):=by push_cast;rfl
 rw[al (n:=(c:Int)+1) (by omega),c1,c2,al (by omega),al (by omega)]
 refine ja rfl (by omega) (ja rfl (by omega) ?_)
 have eL:(c+1)*nv.nd.each-c*nv.nd.each=nv.nd.each:=by omega
 rw[eL]
 obtain⟨q,eq⟩: ∃q,(if nv.weights.c=c*nv.nd.each then nv.weights.p else Option.map (fun a=>a.add (c*nv.nd.each)) nv.weights.p)=q:=⟨_,rfl⟩
 rw[eq]
 have wc: ∀i,i<nv.nd.each→ ∃a,q=some a∧aD h (a.add i)=some (.int .i64 ((nv.nd.weights.drop (c*nv.nd.each)).getD i 0)):=by
  intro i hi
  rw[if_neg (by omega)] at eq
  have rd:=hwr.drop' (c*nv.nd.each) (by rw[aB];omega)
  rw[eq] at rd
  obtain⟨a,ea⟩:=rd.some_of (by rw[List.length_drop,aB];omega)
  refine⟨a,ea,?_⟩
  rw[ea] at rd
  refine rd.cell ?_
  have:(az nv.weights.xs).drop (c*nv.nd.each)=az (nv.weights.xs.drop (c*nv.nd.each)):=by unfold az;rw[List.map_drop]
  rw[this]
  refine aN ?_
  show(nv.weights.xs.drop (c*nv.nd.each))[i]? =some ((nv.weights.xs.drop (c*nv.nd.each)).getD i 0)
  rw[List.getD_eq_getElem?_getD,List.getElem?_eq_getElem (by rw[List.length_drop];omega)];rfl
 refine aT (fun m s g=>g=h∧ ∃i:Nat,s=(⟨b3,0,none⟩,⟨b4,0,none⟩,(ED ((nv.nd.weights.drop (c*nv.nd.each)).take i) (nv.nd.bias.getD c 0) l u).1,(ED ((nv.nd.weights.drop (c*nv.nd.each)).take i) (nv.nd.bias.getD c 0) l u).2,(q,nv.nd.each,nv.weights.c-c*nv.nd.each),(nv.nd.each:Int),(i:Int),())∧i≤nv.nd.each∧m=nv.nd.each-i) nv.nd.each ⟨rfl,0,rfl,by omega,rfl⟩ ?_
 rintro m s g ⟨rfl,i,rfl,hi,rfl⟩
 unfold m9
 dsimp only
 refine au (fun hlt=> ?_) (fun hge=> ?_)
 ·have hlt:i<nv.nd.each:=by omega
  obtain⟨a,ea,ca⟩:=wc i hlt
  refine aG ea (k:=i) rfl hlt ?_
  simp only[Int.toNat_natCast,Nat.mul_one]
  refine af ca ?_
  have hlen:i<(nv.nd.weights.drop (c*nv.nd.each)).length:=by rw[List.length_drop];show i<nv.weights.xs.length-_;omega
  have step:ED ((nv.nd.weights.drop (c*nv.nd.each)).take (i+1)) (nv.nd.bias.getD c 0) l u=(fun(s:Int×Int) (w:Int)=>if w<0 then(fc (s.1+fc (w*u)),fc (s.2+fc (w*l))) else(fc (s.1+fc (w*l)),fc (s.2+fc (w*u)))) (ED ((nv.nd.weights.drop (c*nv.nd.each)).take i) (nv.nd.bias.getD c 0) l u) ((nv.nd.weights.drop (c*nv.nd.each)).getD i 0):=by
   have eg:(nv.nd.weights.drop (c*nv.nd.each)).getD i 0=(nv.nd.weights.drop (c*nv.nd.each))[i]:=by rw[List.getD_eq_getElem?_getD,List.getElem?_eq_getElem hlen];rfl
   unfold ED
   rw[List.take_succ_eq_append_getElem hlen,List.foldl_append,eg];rfl
  rw[al (n:=(i:Int)+1) (by omega)]
  refine au (fun hn=> ?_) (fun hn=> ?_)
  ·refine af hu (af hl ⟨nv.nd.each-(i+1),by omega,by trivial,i+1,?_,by omega,rfl⟩)
   rw[step];dsimp only;rw[if_pos hn];rfl
  ·refine af hl (af hu ⟨nv.nd.each-(i+1),by omega,by trivial,i+1,?_,by omega,rfl⟩)
   rw[step];dsimp only;rw[if_neg hn];rfl
 ·have:i=nv.nd.each:=by omega
  subst this
  exact⟨rfl,by trivial⟩
theorem IA {nv:Nv} (hok:nv.ok) (hr:nv.rows.P h) (hw:nv.weights.l<2 ^ 40) (hb:nv.bias.l<2 ^ 40) (hb0:1≤nv.bias.l) (l u:Int):
 aq P eD #[nv.v,.int .i64 l,.int .i64 u] h fun v h'=>v=(cO nv.nd l u).v∧cu no h h':=by
 refine vQ _ _ _ ?_
 unfold vt
 have lb:nv.bias.xs.length=nv.bias.l:=hok.2.2.1
 have lw:nv.weights.xs.length=nv.weights.l:=hok.2.1.1
 have S:=(aK.start h no).read nv.rows hr
 refine aC (cs:=nv.cells) S (fun b1 _ _ S=> ?_)
 dsimp only[List.nil_append,List.cons_append] at S
 refine aC S (fun b3 _ _ S=> ?_)
 dsimp only[List.nil_append,List.cons_append] at S
 refine aC S (fun b5 _ _ S=> ?_)
 dsimp only[List.nil_append,List.cons_append] at S
 refine aC S (fun b7 _ _ S=> ?_)
 dsimp only[List.nil_append,List.cons_append] at S
 refine am (p:=nv.weights.p) (l:=nv.weights.l) (c:=nv.weights.c) (S.cell 0 rfl rfl) (am (p:=nv.bias.p) (l:=nv.bias.l) (c:=nv.bias.c) (S.cell 0 rfl rfl) ⟨by omega,?_⟩)
 have ee:Int.tdiv ((nv.weights.l:Nat):Int) ((nv.bias.l:Nat):Int)=(nv.nd.each:Int):=by
  have:nv.nd.each=nv.weights.l / nv.bias.l:=by show nv.weights.xs.length / nv.bias.xs.length=_;rw[lw,lb]
  rw[this];rfl
 have el:nv.nd.each≤nv.weights.l:=by
  have:=JS (n:=nv.nd) (c:=0) (by show 0<nv.bias.xs.length;omega)
  rw[Nat.zero_add,Nat.one_mul] at this
  exact Nat.le_trans this (by rw[←lw];exact Nat.le_refl _)
 rw[ee,al (n:=(nv.nd.each:Int)) (by omega)]
 refine aC S (fun b11 _ _ S=> ?_)
 dsimp only[List.nil_append,List.cons_append] at S
 refine aJ S 4 rfl (Nat.le_of_ble_eq_true rfl) fun _ _ S=> ?_
 dsimp only[List.set] at S
 refine aC S (fun b14 g0 _ S=> ?_)
 dsimp only[List.nil_append,List.cons_append] at S
 refine(GW (c:=0) hok (S.r 0 _ rfl) (S.cell 0 rfl rfl) (S.cell 0 rfl rfl) (S.cell 4 rfl rfl) (S.cell 2 rfl rfl) (S.cell 1 rfl rfl) (by omega) hw hb).mono ?_
 rintro _ g1 ⟨rfl,rfl⟩
 refine⟨_,_,rfl,?_⟩
 refine aJ S 5 rfl (Nat.le_of_ble_eq_true rfl) fun _ _ S=> ?_
 dsimp only[List.set] at S
 refine aJ S 5 rfl (Nat.le_of_ble_eq_true rfl) fun _ _ S=> ?_
 dsimp only[List.set] at S
 refine am (p:=nv.bias.p) (l:=nv.bias.l) (c:=nv.bias.c) (S.cell 0 rfl rfl) ?_
 refine aT (fun m s g=> ∃i:Nat,s=(⟨b1,0,none⟩,⟨b7,0,none⟩,((),(⟨b1,0,none⟩,⟨b11,0,none⟩,⟨b5,0,none⟩,⟨b3,0,none⟩,())),⟨b14,0,none⟩,(nv.bias.l:Int),(i:Int),())∧i≤nv.bias.l∧m=nv.bias.l-i∧
  aK h no g [blk b1 nv.cells,blk b3 [.int .i64 l],blk b5 [.int .i64 u],blk b7 [.int .i64 0,.int .i64 0,.int .i64 0,.int .i64 0],blk b11 [.int .i64 (nv.nd.each:Int)],blk b14 [.int .i64 0,.int .i64 0,.int .i64 (mL nv.nd l u i).1,.int .i64 (mL nv.nd l u i).2]] [nv.rows]) nv.bias.l ⟨0,rfl,by omega,rfl,S⟩ ?_
 clear S
 rintro m s g ⟨i,rfl,hi,rfl,S⟩
 unfold pB
 dsimp only
 simp only[aY,Nat.zero_add]
 refine au (fun hlt=> ?_) (fun hge=> ?_)
 ·refine(GW (c:=i) hok (S.r 0 _ rfl) (S.cell 0 rfl rfl) (S.cell 0 rfl rfl) (S.cell 4 rfl rfl) (S.cell 2 rfl rfl) (S.cell 1 rfl rfl) (by omega) hw hb).mono ?_
  rintro _ g1 ⟨rfl,rfl⟩
  refine⟨_,_,rfl,?_⟩
  refine af (S.cell 5 rfl rfl) (af (S.cell 5 rfl rfl) ?_)
  refine aJ S 5 rfl (Nat.le_of_ble_eq_true rfl) fun _ _ S=> ?_
  dsimp only[List.set] at S
  refine aJ S 5 rfl (Nat.le_of_ble_eq_true rfl) fun _ _ S=> ?_
  dsimp only[List.set] at S
  rw[al (n:=(i:Int)+1) (by omega)]
  refine⟨nv.bias.l-(i+1),by omega,i+1,rfl,by omega,rfl,?_⟩
  have e:mL nv.nd l u (i+1)=(if(nv.nd.ends l u i).1<(mL nv.nd l u i).1 then(nv.nd.ends l u i).1 else(mL nv.nd l u i).1,if(nv.nd.ends l u i).2>(mL nv.nd l u i).2 then(nv.nd.ends l u i).2 else(mL nv.nd l u i).2):=by
   unfold mL;rw[List.range_succ,List.foldl_append];rfl
  rw[e]
  exact S
 ·have ei:i=nv.nd.bias.length:=by show i=nv.bias.xs.length;omega
  subst ei
  refine aQ S 0 rfl (x:=nv.t) rfl (af (S.cell 5 rfl rfl) (aQ S 0 rfl (x:=nv.t) rfl (af (S.cell 5 rfl rfl) ?_)))
  refine(JX nv _).mono ?_
  rintro _ g1 ⟨rfl,F1⟩
  replace S:=S.fra0 F1
  refine⟨_,rfl,bf (S.cell 5 rfl rfl) (eW S 0 rfl rfl ?_)⟩
  refine(JX nv _).mono ?_
  rintro _ g2 ⟨rfl,F2⟩
  replace S:=S.fra0 F2
  refine⟨_,rfl,bf (S.cell 5 rfl rfl) (eW S 0 rfl rfl ?_)⟩
  refine aJ S 5 rfl (Nat.le_of_ble_eq_true rfl) fun _ _ S=> ?_
  dsimp only[List.set] at S
  refine eW S 0 rfl rfl ?_
  refine aJ S 5 rfl (Nat.le_of_ble_eq_true rfl) fun _ _ S=> ?_
  dsimp only[List.set] at S
  refine af (S.cell 5 rfl rfl) (af (S.cell 5 rfl rfl) (af (S.cell 5 rfl rfl) (af (S.cell 5 rfl rfl) ?_)))
  exact qb (S.pw [3]) (cO nv.nd l u) (K:=fun v g=>v=(cO nv.nd l u).v∧cu no h g) fun h' S=>⟨rfl,S.fra⟩
end
end Go.Proofs.YtdhpmegbmjoekaaGreatDoor.G
end
section
namespace Go.Proofs.YtdhpmegbmjoekaaGreatDoor.G
open Go Go.Sh
set_option linter.unusedVariables false
set_option linter.unusedSimpArgs false
def jc (rs:List Rg):List Value:=(rs.map Rg.cells).flatten
theorem jV (rs:List Rg):(jc rs).length=rs.length*4:=pL Rg.cells 4 (fun _=>rfl) rs
theorem GX {rs:List Rg} {i j:Nat} {x:Rg} (h:rs[i]? =some x) (hj:j<4):(jc rs)[i*4+j]? =x.cells[j]? :=ue Rg.cells 4 (fun _=>rfl) rs i j x h hj
def gM (n:Nd):Int×Int:=if dD n.kind then(n.left,n.right) else if n.kind=12 then(fc (n.size-1),0) else(0,0)
def Rg.zero:Rg:=⟨0,0,0,0⟩
def wD (b:Int) (rs:List Rg):Int:=rs.foldl (fun l r=>if r.lo<l then r.lo else l) b
def nL (b:Int) (rs:List Rg):Int:=rs.foldl (fun u r=>if r.hi>u then r.hi else u) b
def kZ (f:Rg→Int) (rs:List Rg):Int:=rs.foldl (fun s r=>fc (s+f r)) 0
def fy (n:Nd) (w:Int) (rs:List Rg):Rg:=
 let l0:=wD (rs.getD 0 .zero).lo rs
 let u0:=nL (rs.getD 0 .zero).hi rs
 let l:=if fc ((gM n).1+(gM n).2)>0 then(if 0<l0 then 0 else l0) else l0
 let u:=if fc ((gM n).1+(gM n).2)>0 then(if 0>u0 then 0 else u0) else u0
 if jb n.kind then cO n l u else if n.kind=4∨n.kind=12 then⟨l,u,fc (n.size*l),fc (n.size*u)⟩
 else if n.kind=7 then⟨yp (rs.map Rg.lo),yp (rs.map Rg.hi),kZ Rg.lo rs,kZ Rg.hi rs⟩
 else if n.kind=9 then fC (io l n.low n.high) (io u n.low n.high)
 else if n.kind=10 then fC (gG l n.mult n.shift) (gG u n.mult n.shift)
 else if n.kind=11 then fC 0 (fc (w-1)) else fC l u
section
variable {h:ae}
theorem JT (nv:Nv) (hT:KT h):aq P ln #[nv.v] h fun v h'=>v= .tuple #[.int .i64 (gM nv.nd).1,.int .i64 (gM nv.nd).2]∧cu no h h':=by
 refine CH _ ?_
 unfold EZ
 have S:=(aK.start h no).read (blk 0 (az aS)) hT
 refine aC (cs:=nv.cells) S fun b1 h1 _ S=> ?_
 dsimp only[List.cons_append,List.nil_append] at S
 have e:gM nv.nd=if dD nv.kind then(nv.left,nv.right) else if nv.kind=12 then(fc (nv.size-1),0) else(0,0):=rfl
 rw[e]
 refine aQ S 0 rfl (x:=nv.t) rfl ?_
 refine(jG nv 1 (S.r 0 _ rfl)).mono ?_
 rintro _ _ ⟨rfl,F⟩
 refine⟨_,rfl,?_⟩
 replace S:=S.fra0 F
 refine au (fun h2=> ?_) (fun h2=> ?_)
 ·rw[Gl] at h2
  rw[if_pos h2]
  exact af (n:=nv.left) (S.cell 0 rfl rfl) (af (n:=nv.right) (S.cell 0 rfl rfl) ⟨rfl,S.fra⟩)
 ·rw[Gl] at h2
  rw[if_neg h2]
  refine aQ S 0 rfl (x:=nv.t) rfl ?_
  refine(jG nv 16 (S.r 0 _ rfl)).mono ?_
  rintro _ _ ⟨rfl,F⟩
  refine⟨_,rfl,?_⟩
  replace S:=S.fra0 F
  refine au (fun h3=> ?_) (fun h3=> ?_)
  ·rw[Kn] at h3
   rw[if_pos h3]
   exact af (n:=nv.size) (S.cell 0 rfl rfl) ⟨rfl,S.fra⟩
  ·rw[Kn] at h3
   rw[if_neg h3]
   exact⟨rfl,S.fra⟩
theorem Bd {a:Addr} {rs:List Rg} {i:Nat} {x:Rg} (r:bT h (some a) (jc rs)) (e:rs[i]? =some x):aD h (a.add (i*4))=some (.int .i64 x.lo)∧aD h ((a.add (i*4)).add 1)=some (.int .i64 x.hi)∧aD h ((a.add (i*4)).add 2)=some (.int .i64 x.alo)∧aD h ((a.add (i*4)).add 3)=some (.int .i64 x.ahi):=by
 refine⟨r.cell (i:=i*4) (by have:=GX e (j:=0) (by omega);rw[Nat.add_zero] at this;rw[this];rfl),?_,?_,?_⟩
 all_goals
  rw[ug _ _ (by decide)]
  refine r.cell ?_
  rw[GX e (by omega)];rfl
abbrev Oa:=Option Addr×Nat×Nat
def JU (h:ae) (nv:Nv) (w:Int) (b1 b3 b9:Nat) (p:Option Addr) (l c:Nat) (rs:List Rg) (mm:Nat) (s:Int×Addr×Addr×Int×Int×Oa×Oa×Addr×Oa×Int×Int×Unit) (g:ae):Prop:=
 ∃(i:Nat) (p1 p2:Option Addr) (c1 c2:Nat),s=(w,⟨b1,0,none⟩,⟨b3,0,none⟩,wD (rs.getD 0 .zero).lo (rs.take i),nL (rs.getD 0 .zero).hi (rs.take i),(p1,i,c1),(p2,i,c2),⟨b9,0,none⟩,(p,l,c),(l:Int),(i:Int),())∧i≤l∧mm=l-i∧
  aK h no g [blk b3 Rg.zero.cells,blk b1 nv.cells,blk b9 [.int .i64 0,.int .i64 0,.int .i64 (kZ Rg.lo (rs.take i)),.int .i64 (kZ Rg.hi (rs.take i))],own 1 p1 i c1 (az ((rs.take i).map Rg.lo)),own 1 p2 i c2 (az ((rs.take i).map Rg.hi))] [blk 0 (az aS),nv.rows,row p (jc rs)]
theorem uR {rs:List Rg} {i:Nat} (hi:i<rs.length) (f:Rg→Int):az ((rs.take i).map f)++az [f rs[i]]=az ((rs.take (i+1)).map f):=by
 rw[List.take_succ_eq_append_getElem hi,List.map_append];unfold az;rw[List.map_append];rfl
theorem IB {nv:Nv} (hok:nv.ok) (hw:nv.weights.l<2 ^ 40) (hb:nv.bias.l<2 ^ 40) (hwe:jb nv.kind→1≤nv.bias.l) {p:Option Addr} {l c:Nat} {rs:List Rg} (hl:rs.length=l) (hl1:1≤l) (hl2:l<2 ^ 40) (w:Int) {b1 b3 b9 mm:Nat} {s} {g:ae} (I:JU h nv w b1 b3 b9 p l c rs mm s g):
 oO (fun v h'=>v=(fy nv.nd w rs).v∧cu no h h') (fun s' h'=> ∃m,m<mm∧JU h nv w b1 b3 b9 p l c rs m s' h') s.1 s.2.1 s.2.2.1 s.2.2.2.1 s.2.2.2.2.1 s.2.2.2.2.2.1.1 s.2.2.2.2.2.1.2.1 s.2.2.2.2.2.1.2.2 s.2.2.2.2.2.2.1.1 s.2.2.2.2.2.2.1.2.1 s.2.2.2.2.2.2.1.2.2 s.2.2.2.2.2.2.2.1 s.2.2.2.2.2.2.2.2.1.1 s.2.2.2.2.2.2.2.2.1.2.1 s.2.2.2.2.2.2.2.2.1.2.2 s.2.2.2.2.2.2.2.2.2.1 s.2.2.2.2.2.2.2.2.2.2.1 g:=by
 obtain⟨i,p1,p2,c1,c2,rfl,hi,rfl,S⟩:=I
 unfold oO
 dsimp only
 simp only[aY,Nat.zero_add]
 refine au (fun hlt=> ?_) (fun hge=> ?_)
 ·have hlt:i<l:=by omega
  have hlt':i<rs.length:=by omega
  obtain⟨a,ea⟩:=(S.row 2 rfl).some_of (by rw[jV];omega)
  have hrow:=S.row 2 rfl
  rw[ea] at hrow
  obtain⟨k0,k1,k2,k3⟩:=Bd hrow (List.getElem?_eq_getElem hlt')
  refine aG ea (k:=i) rfl hlt ?_
  simp only[Int.toNat_natCast]
  refine af k0 (af k1 (af k2 (af k3 ?_)))
  refine aC S (fun b21 g2 _ S=> ?_)
  dsimp only[List.nil_append,List.cons_append] at S
  refine aJ S 5 rfl (Nat.le_of_ble_eq_true rfl) fun _ _ S=> ?_
  dsimp only[List.set] at S
  refine aJ S 5 rfl (Nat.le_of_ble_eq_true rfl) fun _ _ S=> ?_
  dsimp only[List.set] at S
  refine aJ S 5 rfl (Nat.le_of_ble_eq_true rfl) fun _ _ S=> ?_
  dsimp only[List.set] at S
  refine aJ S 5 rfl (Nat.le_of_ble_eq_true rfl) fun g3 _ S=> ?_
  dsimp only[List.set] at S
  refine af (S.cell 5 rfl rfl) (af (S.cell 5 rfl rfl) (af (S.cell 5 rfl rfl) (af (S.cell 5 rfl rfl) ?_)))
  obtain⟨x,ex⟩: ∃x,rs[i]=x:=⟨_,rfl⟩
  rw[ex] at S ⊢
  have eL:=uR hlt' Rg.lo
  have eH:=uR hlt' Rg.hi
  rw[ex] at eL eH
  have fin: ∀{g4:ae} {q1 q2:Option Addr} {m1 m2 d1 d2:Nat},m1=i+1→m2=i+1→aK h no g4 [blk b3 Rg.zero.cells,blk b1 nv.cells,blk b9 [.int .i64 0,.int .i64 0,.int .i64 (kZ Rg.lo (rs.take i)),.int .i64 (kZ Rg.hi (rs.take i))],own 1 q1 m1 d1 (az ((rs.take i).map Rg.lo)++az [x.lo]),own 1 q2 m2 d2 (az ((rs.take i).map Rg.hi)++az [x.hi]),blk b21 [.int .i64 x.lo,.int .i64 x.hi,.int .i64 x.alo,.int .i64 x.ahi]] [blk 0 (az aS),nv.rows,row p (jc rs)]→
   ah .i64 g4 ⟨b9,2,none⟩ fun n39=>ah .i64 g4 ⟨b21,0,none⟩ fun n40=>ah .i64 g4 ⟨b9,3,none⟩ fun n41=>ah .i64 g4 ⟨b21,1,none⟩ fun n42=>bu g4 ⟨b9,2,none⟩ (.int .i64 (IntKind.wrap .i64 (n39+n40))) fun h43=>aD h43 ⟨b21,1,none⟩=some (.int .i64 n42)∧bu h43 ⟨b9,3,none⟩ (.int .i64 (IntKind.wrap .i64 (n41+n42))) fun h44=>
    ∃m,m<l-i∧JU h nv w b1 b3 b9 p l c rs m (w,⟨b1,0,none⟩,⟨b3,0,none⟩,(if x.lo<wD (rs.getD 0 .zero).lo (rs.take i) then x.lo else wD (rs.getD 0 .zero).lo (rs.take i)),(if x.hi>nL (rs.getD 0 .zero).hi (rs.take i) then x.hi else nL (rs.getD 0 .zero).hi (rs.take i)),(q1,m1,d1),(q2,m2,d2),⟨b9,0,none⟩,(p,l,c),(l:Int),IntKind.wrap .i64 ((i:Int)+1),()) h44:=by
   intro g4 q1 q2 m1 m2 d1 d2 e1 e2 S
   subst e1 e2
   refine af (S.cell 2 rfl rfl) (af (S.cell 5 rfl rfl) (af (S.cell 2 rfl rfl) (af (S.cell 5 rfl rfl) ?_)))
   refine aJ S 2 rfl (Nat.le_of_ble_eq_true rfl) fun _ _ S=> ?_
   dsimp only[List.set] at S
   refine bf (S.cell 5 rfl rfl) ?_
   refine aJ S 2 rfl (Nat.le_of_ble_eq_true rfl) fun _ _ S=> ?_
   dsimp only[List.set] at S
   rw[al (n:=(i:Int)+1) (by omega)]
   refine⟨l-(i+1),by omega,i+1,q1,q2,d1,d2,?_,by omega,rfl,?_⟩
   ·unfold wD nL
    rw[List.take_succ_eq_append_getElem hlt',List.foldl_append,List.foldl_append,ex];rfl
   ·have s1:kZ Rg.lo (rs.take (i+1))=IntKind.wrap .i64 (kZ Rg.lo (rs.take i)+x.lo):=by unfold kZ;rw[List.take_succ_eq_append_getElem hlt',List.foldl_append,ex];rfl
    have s2:kZ Rg.hi (rs.take (i+1))=IntKind.wrap .i64 (kZ Rg.hi (rs.take i)+x.hi):=by unfold kZ;rw[List.take_succ_eq_append_getElem hlt',List.foldl_append,ex];rfl
    rw[s1,s2,←eL,←eH]
    exact S.pw [0,1,2,3,4]
  have one: ∀{y:Int},∀z∈az [y],mC z=true:=fun z hz=>by simp only[az,List.map_cons,List.map_nil,List.mem_singleton] at hz;subst hz;rfl
  refine⟨?_,?_⟩
  ·refine aC (cs:=az [x.lo]) S (fun b31 g4 _ S=> ?_)
   dsimp only[List.nil_append,List.cons_append] at S
   refine⟨?_,?_⟩
   ·refine dI S 3 (ys:=az [x.lo]) rfl rfl (by decide) (by omega) (bT.of_at (S.at 6 rfl)) rfl one fun q1 m1 d1 g5 e1 S=> ?_
    dsimp only[List.set] at S
    refine bf (S.cell 5 rfl rfl) (bf (S.cell 5 rfl rfl) ?_)
    refine aC (cs:=az [x.hi]) S (fun b35 g6 _ S=> ?_)
    dsimp only[List.nil_append,List.cons_append] at S
    refine dI S 4 (ys:=az [x.hi]) rfl rfl (by decide) (by omega) (bT.of_at (S.at 7 rfl)) rfl one fun q2 m2 d2 g7 e2 S=> ?_
    dsimp only[List.set] at S
    exact bf (S.cell 5 rfl rfl) (bf (S.cell 5 rfl rfl) (fin e1 e2 (S.pw [0,1,2,3,4,5])))
   ·refine aC (cs:=az [x.hi]) S (fun b45 g6 _ S=> ?_)
    dsimp only[List.nil_append,List.cons_append] at S
    refine dI S 3 (ys:=az [x.lo]) rfl rfl (by decide) (by omega) (bT.of_at (S.at 6 rfl)) rfl one fun q1 m1 d1 g5 e1 S=> ?_
    dsimp only[List.set] at S
    refine bf (S.cell 5 rfl rfl) (bf (S.cell 5 rfl rfl) ?_)
    refine dI S 4 (ys:=az [x.hi]) rfl rfl (by decide) (by omega) (bT.of_at (S.at 7 rfl)) rfl one fun q2 m2 d2 g7 e2 S=> ?_
    dsimp only[List.set] at S
    exact bf (S.cell 5 rfl rfl) (bf (S.cell 5 rfl rfl) (fin e1 e2 (S.pw [0,1,2,3,4,5])))
  ·refine aC (cs:=az [x.hi]) S (fun b57 g4 _ S=> ?_)
   dsimp only[List.nil_append,List.cons_append] at S
   refine aC (cs:=az [x.lo]) S (fun b59 g6 _ S=> ?_)
   dsimp only[List.nil_append,List.cons_append] at S
   refine dI S 3 (ys:=az [x.lo]) rfl rfl (by decide) (by omega) (bT.of_at (S.at 7 rfl)) rfl one fun q1 m1 d1 g5 e1 S=> ?_
   dsimp only[List.set] at S
   refine bf (S.cell 5 rfl rfl) (bf (S.cell 5 rfl rfl) ?_)
   refine dI S 4 (ys:=az [x.hi]) rfl rfl (by decide) (by omega) (bT.of_at (S.at 6 rfl)) rfl one fun q2 m2 d2 g7 e2 S=> ?_
   dsimp only[List.set] at S
   exact bf (S.cell 5 rfl rfl) (bf (S.cell 5 rfl rfl) (fin e1 e2 (S.pw [0,1,2,3,4,5])))
 ·have ei:i=l:=by omega
  subst ei
  rw[List.take_of_length_le (by omega)] at S ⊢
  refine aQ S 1 rfl (x:=nv.t) rfl ?_
  refine(JT nv (S.r 0 _ rfl)).mono ?_
  rintro _ g2 ⟨rfl,F⟩
  replace S:=S.fra0 F
  refine⟨_,_,rfl,?_⟩
  obtain⟨L,eL⟩: ∃L,(if fc ((gM nv.nd).1+(gM nv.nd).2)>0 then(if 0<wD (rs.getD 0 .zero).lo rs then 0 else wD (rs.getD 0 .zero).lo rs) else wD (rs.getD 0 .zero).lo rs)=L:=⟨_,rfl⟩
  obtain⟨U,eU⟩: ∃U,(if fc ((gM nv.nd).1+(gM nv.nd).2)>0 then(if 0>nL (rs.getD 0 .zero).hi rs then 0 else nL (rs.getD 0 .zero).hi rs) else nL (rs.getD 0 .zero).hi rs)=U:=⟨_,rfl⟩
  have eN:fy nv.nd w rs=if jb nv.kind then cO nv.nd L U else if nv.kind=4∨nv.kind=12 then⟨L,U,fc (nv.size*L),fc (nv.size*U)⟩ else if nv.kind=7 then⟨yp (rs.map Rg.lo),yp (rs.map Rg.hi),kZ Rg.lo rs,kZ Rg.hi rs⟩
   else if nv.kind=9 then fC (io L nv.low nv.high) (io U nv.low nv.high) else if nv.kind=10 then fC (gG L nv.mult nv.shift) (gG U nv.mult nv.shift) else if nv.kind=11 then fC 0 (fc (w-1)) else fC L U:=by
   rw[←eL,←eU];rfl
  refine⟨fun s g=>s=(w,⟨b1,0,none⟩,⟨b3,0,none⟩,L,U,(p1,i,c1),(p2,i,c2),⟨b9,0,none⟩,())∧aK h no g [blk b3 Rg.zero.cells,blk b1 nv.cells,blk b9 [.int .i64 0,.int .i64 0,.int .i64 (kZ Rg.lo rs),.int .i64 (kZ Rg.hi rs)],own 1 p1 i c1 (az (rs.map Rg.lo)),own 1 p2 i c2 (az (rs.map Rg.hi))] [blk 0 (az aS),nv.rows,row p (jc rs)],?_,?_⟩
  ·rw[eN]
   clear S F hge
   rintro s g ⟨rfl,S⟩
   unfold tl
   dsimp only
   simp only[aY,Nat.zero_add]
   have kd:aD g ⟨b1,0,none⟩=some (.int .i64 nv.kind):=S.cell 1 rfl rfl
   have wgh:jb nv.kind→aX A1 g ⟨b1,0,none⟩ fun x79=>aq P eD #[(bz A1 x79),(.int .i64 L),(.int .i64 U)] g fun v81 h80=> ∃n82 n83 n84 n85:Int,v81=(.agg #[(.int .i64 n82),(.int .i64 n83),(.int .i64 n84),(.int .i64 n85)])∧
    bu h80 ⟨b3,0,none⟩ (.int .i64 n82) fun h1=>bu h1 ⟨b3,1,none⟩ (.int .i64 n83) fun h2=>bu h2 ⟨b3,2,none⟩ (.int .i64 n84) fun h3=>bu h3 ⟨b3,3,none⟩ (.int .i64 n85) fun h4=>
    ah .i64 h4 ⟨b3,0,none⟩ fun n0=>ah .i64 h4 ⟨b3,1,none⟩ fun n1=>ah .i64 h4 ⟨b3,2,none⟩ fun n2=>ah .i64 h4 ⟨b3,3,none⟩ fun n3=>Value.agg #[.int .i64 n0,.int .i64 n1,.int .i64 n2,.int .i64 n3]=(cO nv.nd L U).v∧cu no h h4:=by
    intro hk
    refine aQ S 1 rfl (x:=nv.t) rfl ?_
    refine(IA hok (S.r 1 _ rfl) hw hb (hwe hk) L U).mono ?_
    rintro _ g2 ⟨rfl,F⟩
    replace S:=S.fra0 F
    exact⟨_,_,_,_,rfl,qb S (cO nv.nd L U) (K:=fun v g=>v=(cO nv.nd L U).v∧cu no h g) fun h' S=>⟨rfl,S.fra⟩⟩
   have sme: ∀{l u:Int} {g:ae},aK h no g [blk b3 Rg.zero.cells,blk b1 nv.cells,blk b9 [.int .i64 0,.int .i64 0,.int .i64 (kZ Rg.lo rs),.int .i64 (kZ Rg.hi rs)],own 1 p1 i c1 (az (rs.map Rg.lo)),own 1 p2 i c2 (az (rs.map Rg.hi))] [blk 0 (az aS),nv.rows,row p (jc rs)]→
    aq P eS #[.int .i64 l,.int .i64 u] g fun v h'=> ∃n82 n83 n84 n85:Int,v=(.agg #[(.int .i64 n82),(.int .i64 n83),(.int .i64 n84),(.int .i64 n85)])∧
    bu h' ⟨b3,0,none⟩ (.int .i64 n82) fun h1=>bu h1 ⟨b3,1,none⟩ (.int .i64 n83) fun h2=>bu h2 ⟨b3,2,none⟩ (.int .i64 n84) fun h3=>bu h3 ⟨b3,3,none⟩ (.int .i64 n85) fun h4=>
    ah .i64 h4 ⟨b3,0,none⟩ fun n0=>ah .i64 h4 ⟨b3,1,none⟩ fun n1=>ah .i64 h4 ⟨b3,2,none⟩ fun n2=>ah .i64 h4 ⟨b3,3,none⟩ fun n3=>Value.agg #[.int .i64 n0,.int .i64 n1,.int .i64 n2,.int .i64 n3]=(fC l u).v∧cu no h h4:=by
    intro l u g S
    refine(wC l u).mono ?_
    rintro _ g2 ⟨rfl,F⟩
    replace S:=S.fra0 F
    exact⟨_,_,_,_,rfl,qb S (fC l u) (K:=fun v g=>v=(fC l u).v∧cu no h g) fun h' S=>⟨rfl,S.fra⟩⟩
   refine af kd (aO (fun k1=> ?_) (fun k1=>aO (fun k2=> ?_) (fun k2=>aO (fun k6=> ?_) (fun k6=> ?_))))
   ·rw[if_pos (.inl k1)];exact wgh (.inl k1)
   ·rw[if_pos (.inr (.inl k2))];exact wgh (.inr (.inl k2))
   ·rw[if_pos (.inr (.inr k6))];exact wgh (.inr (.inr k6))
   rw[if_neg (by rintro(h|h|h)<;>omega)]
   refine aO (fun k4=> ?_) (fun k4=>aO (fun k12=> ?_) (fun k12=> ?_))
   ·rw[if_pos (.inl k4)]
    refine af (n:=nv.size) (S.cell 1 rfl rfl) (af (n:=nv.size) (S.cell 1 rfl rfl) ?_)
    exact qb S ⟨L,U,fc (nv.size*L),fc (nv.size*U)⟩ (K:=fun v g=>v=(⟨L,U,fc (nv.size*L),fc (nv.size*U)⟩:Rg).v∧cu no h g) fun h' S=>⟨rfl,S.fra⟩
   ·rw[if_pos (.inr k12)]
    refine af (n:=nv.size) (S.cell 1 rfl rfl) (af (n:=nv.size) (S.cell 1 rfl rfl) ?_)
    exact qb S ⟨L,U,fc (nv.size*L),fc (nv.size*U)⟩ (K:=fun v g=>v=(⟨L,U,fc (nv.size*L),fc (nv.size*U)⟩:Rg).v∧cu no h g) fun h' S=>⟨rfl,S.fra⟩
   rw[if_neg (by rintro(h|h)<;>omega)]
   refine aO (fun k7=> ?_) (fun k7=> ?_)
   ·rw[if_pos k7]
    refine(Mm (S.own 3 rfl).row (by rw[List.length_map];exact hl) (by omega)).mono ?_
    rintro _ g2 ⟨rfl,F⟩
    replace S:=S.fra0 F
    refine⟨_,rfl,?_⟩
    refine(Mm (S.own 4 rfl).row (by rw[List.length_map];exact hl) (by omega)).mono ?_
    rintro _ g3 ⟨rfl,F⟩
    replace S:=S.fra0 F
    refine⟨_,rfl,?_⟩
    refine aJ S 2 rfl (Nat.le_of_ble_eq_true rfl) fun _ _ S=> ?_
    dsimp only[List.set] at S
    refine aJ S 2 rfl (Nat.le_of_ble_eq_true rfl) fun _ _ S=> ?_
    dsimp only[List.set] at S
    refine af (S.cell 2 rfl rfl) (af (S.cell 2 rfl rfl) (af (S.cell 2 rfl rfl) (af (S.cell 2 rfl rfl) ?_)))
    exact qb S ⟨yp (rs.map Rg.lo),yp (rs.map Rg.hi),kZ Rg.lo rs,kZ Rg.hi rs⟩ (K:=fun v g=>v=(⟨yp (rs.map Rg.lo),yp (rs.map Rg.hi),kZ Rg.lo rs,kZ Rg.hi rs⟩:Rg).v∧cu no h g) fun h' S=>⟨rfl,S.fra⟩
   rw[if_neg k7]
   refine aO (fun k9=> ?_) (fun k9=> ?_)
   ·rw[if_pos k9]
    refine af (n:=nv.low) (S.cell 1 rfl rfl) (af (n:=nv.high) (S.cell 1 rfl rfl) (af (n:=nv.low) (S.cell 1 rfl rfl) (af (n:=nv.high) (S.cell 1 rfl rfl) ?_)))
    refine(so _ _ _).mono ?_
    rintro _ g2 ⟨rfl,rfl⟩
    refine⟨_,rfl,bf (S.cell 1 rfl rfl) (bf (S.cell 1 rfl rfl) ?_)⟩
    refine(so _ _ _).mono ?_
    rintro _ g3 ⟨rfl,rfl⟩
    refine⟨_,rfl,bf (S.cell 1 rfl rfl) (bf (S.cell 1 rfl rfl) ?_)⟩
    refine(wC _ _).mono ?_
    rintro _ g4 ⟨rfl,F⟩
    replace S:=S.fra0 F
    refine⟨_,_,_,_,rfl,bf (S.cell 1 rfl rfl) (bf (S.cell 1 rfl rfl) (bf (S.cell 1 rfl rfl) (bf (S.cell 1 rfl rfl) ?_)))⟩
    exact qb S (fC (io L nv.low nv.high) (io U nv.low nv.high)) (K:=fun v g=>v=(fC (io L nv.low nv.high) (io U nv.low nv.high)).v∧cu no h g) fun h' S=>⟨rfl,S.fra⟩
   rw[if_neg k9]
   refine aO (fun k10=> ?_) (fun k10=> ?_)
   ·rw[if_pos k10]
    refine af (n:=nv.mult) (S.cell 1 rfl rfl) (af (n:=nv.shift) (S.cell 1 rfl rfl) (af (n:=nv.mult) (S.cell 1 rfl rfl) (af (n:=nv.shift) (S.cell 1 rfl rfl) ?_)))
    refine(Bv _ _ _).mono ?_
    rintro _ g2 ⟨rfl,F⟩
    replace S:=S.fra0 F
    refine⟨_,rfl,bf (S.cell 1 rfl rfl) (bf (S.cell 1 rfl rfl) ?_)⟩
    refine(Bv _ _ _).mono ?_
    rintro _ g3 ⟨rfl,F⟩
    replace S:=S.fra0 F
    refine⟨_,rfl,bf (S.cell 1 rfl rfl) (bf (S.cell 1 rfl rfl) ?_)⟩
    refine(wC _ _).mono ?_
    rintro _ g4 ⟨rfl,F⟩
    replace S:=S.fra0 F
    refine⟨_,_,_,_,rfl,bf (S.cell 1 rfl rfl) (bf (S.cell 1 rfl rfl) (bf (S.cell 1 rfl rfl) (bf (S.cell 1 rfl rfl) ?_)))⟩
    exact qb S (fC (gG L nv.mult nv.shift) (gG U nv.mult nv.shift)) (K:=fun v g=>v=(fC (gG L nv.mult nv.shift) (gG U nv.mult nv.shift)).v∧cu no h g) fun h' S=>⟨rfl,S.fra⟩
   rw[if_neg k10]
   refine aO (fun k11=> ?_) (fun k11=> ?_)
   ·rw[if_pos k11];exact sme S
   ·rw[if_neg k11];exact sme S
  ·refine au (fun hp=> ?_) (fun hp=> ?_)
   ·rw[if_pos hp] at eL eU
    rw[eL,eU]
    exact⟨rfl,S⟩
   ·rw[if_neg hp] at eL eU
    rw[eL,eU]
    exact⟨rfl,S⟩
theorem Oh {nv:Nv} (hok:nv.ok) (hr:nv.rows.P h) (hT:KT h) (hw:nv.weights.l<2 ^ 40) (hb:nv.bias.l<2 ^ 40) (hwe:jb nv.kind→1≤nv.bias.l) {p:Option Addr} {l c:Nat} {rs:List Rg} (hx:bT h p (jc rs)) (hl:rs.length=l) (hl1:1≤l) (hl2:l<2 ^ 40) (w:Int):
 aq P lY #[nv.v,.int .i64 w,.slice p l c] h fun v h'=>v=(fy nv.nd w rs).v∧cu no h h':=by
 refine A9 _ _ _ _ _ ?_
 unfold CQ
 have S:=(((aK.start h no).read (blk 0 (az aS)) hT).read nv.rows hr).read (row p (jc rs)) hx
 refine aC (cs:=nv.cells) S (fun b1 _ _ S=> ?_)
 dsimp only[List.nil_append,List.cons_append] at S
 refine aC (cs:=Rg.zero.cells) S (fun b3 g2 _ S=> ?_)
 dsimp only[List.nil_append,List.cons_append] at S
 obtain⟨a,ea⟩:=(S.row 2 rfl).some_of (by rw[jV];omega)
 have hrow:=S.row 2 rfl
 rw[ea] at hrow
 obtain⟨k0,k1,k2,k3⟩:=Bd (i:=0) hrow (List.getElem?_eq_getElem (by omega))
 refine aG ea (k:=0) rfl (by omega) (aG ea (k:=0) rfl (by omega) ?_)
 refine af k0 (af k1 ?_)
 refine aC S (fun b9 g3 _ S=> ?_)
 dsimp only[List.nil_append,List.cons_append] at S
 refine aJ S 2 rfl (Nat.le_of_ble_eq_true rfl) fun _ _ S=> ?_
 dsimp only[List.set] at S
 refine aJ S 2 rfl (Nat.le_of_ble_eq_true rfl) fun _ _ S=> ?_
 dsimp only[List.set] at S
 refine aJ S 2 rfl (Nat.le_of_ble_eq_true rfl) fun _ _ S=> ?_
 dsimp only[List.set] at S
 refine aJ S 2 rfl (Nat.le_of_ble_eq_true rfl) fun _ _ S=> ?_
 dsimp only[List.set] at S
 have S2:=((S.pw [1,0,2]).nil 1).nil 1
 have eg:rs.getD 0 .zero=rs[0]:=by rw[List.getD_eq_getElem?_getD,List.getElem?_eq_getElem (by omega)];rfl
 refine aT (JU h nv w b1 b3 b9 p l c rs) l ⟨0,none,none,0,0,by rw[eg];rfl,by omega,rfl,S2⟩ ?_
 intro mm s g I
 exact IB hok hw hb hwe hl hl1 hl2 w I
end
end Go.Proofs.YtdhpmegbmjoekaaGreatDoor.G
end
section
namespace Go.Proofs.YtdhpmegbmjoekaaGreatDoor.G
open Go Go.Sh
set_option linter.unusedVariables false
set_option linter.unusedSimpArgs false
def JV:List Value→Nat→List Value→List Value
 |xs,_,[]=>xs
 |xs,k,v::r=>JV (xs.set k v) (k+1) r
theorem EE: ∀(vs xs:List Value) (k j:Nat),(JV xs k vs)[j]? =if k≤j∧j<k+vs.length∧j<xs.length then vs[j-k]? else xs[j]?
 |[],xs,k,j=>by rw[if_neg (by simp only[List.length_nil];omega)];rfl
 |v::r,xs,k,j=>by
  have ih:=EE r (xs.set k v) (k+1) j
  show(JV (xs.set k v) (k+1) r)[j]? =_
  rw[ih,List.length_set]
  by_cases h1:k+1≤j∧j<k+1+r.length∧j<xs.length
  ·rw[if_pos h1,if_pos (by simp only[List.length_cons];omega)]
   have:j-k=(j-(k+1))+1:=by omega
   rw[this,List.getElem?_cons_succ]
  ·rw[if_neg h1]
   by_cases h2:j=k
   ·subst h2
    by_cases h3:j<xs.length
    ·rw[if_pos (by simp only[List.length_cons];omega),List.getElem?_set_self h3,Nat.sub_self];rfl
    ·rw[if_neg (fun h=>h3 h.2.2),List.getElem?_eq_none (by rw[List.length_set];omega),List.getElem?_eq_none (by omega)]
   ·rw[if_neg (by simp only[List.length_cons];omega),List.getElem?_set_ne (fun h=>h2 h.symm)]
theorem Bs {α:Type} (f:α→List Value) (c:Nat) (hc: ∀x,(f x).length=c) (h0:0<c) {l:List α} {i:Nat} (x:α) (hi:i<l.length):JV (l.map f).flatten (i*c) (f x)=((l.set i x).map f).flatten:=by
 apply List.ext_getElem?
 intro j
 rw[EE,hc]
 have hl:=pL f c hc l
 have hl2:=pL f c hc (l.set i x)
 rw[List.length_set] at hl2
 have e:j=(j / c)*c+j % c:=by rw[Nat.mul_comm];exact(Nat.div_add_mod j c).symm
 have hm:j % c<c:=Nat.mod_lt _ h0
 have hic:i*c+c≤l.length*c:=by have:=Nat.mul_le_mul_right c (show i+1≤l.length from hi);rw[Nat.add_mul,Nat.one_mul] at this;exact this
 by_cases h1:j / c<l.length
 ·obtain⟨y,ey⟩: ∃y,(l.set i x)[j / c]? =some y:=⟨_,List.getElem?_eq_getElem (by rw[List.length_set];exact h1)⟩
  have r2:=ue f c hc (l.set i x) (j / c) (j % c) y ey hm
  rw[←e] at r2
  rw[r2]
  by_cases h2:j / c=i
  ·have:y=x:=by rw[←h2,List.getElem?_set_self h1] at ey;exact(Option.some.inj ey).symm
   subst this
   have hj:j=i*c+j % c:=by rw[←h2];exact e
   rw[if_pos ⟨by omega,by omega,by omega⟩]
   congr 1;omega
  ·rw[List.getElem?_set_ne (fun h=>h2 h.symm)] at ey
   have r1:=ue f c hc l (j / c) (j % c) y ey hm
   rw[←e] at r1
   rw[if_neg,r1]
   rintro⟨a1,a2,_⟩
   have:j / c=i:=Nat.div_eq_of_lt_le a1 (by rw[Nat.add_mul,Nat.one_mul];omega)
   exact h2 this
 ·have hj:l.length*c≤j:=by
   have:=Nat.mul_le_mul_right c (show l.length≤j / c by omega)
   omega
  rw[if_neg (by omega),List.getElem?_eq_none (by omega),List.getElem?_eq_none (by omega)]
theorem yn {rs:List Rg} {i:Nat} (hi:i<rs.length) (x:Rg):(((((jc rs).set (i*4) (.int .i64 x.lo)).set (i*4+1) (.int .i64 x.hi)).set (i*4+2) (.int .i64 x.alo)).set (i*4+3) (.int .i64 x.ahi))=jc (rs.set i x):=
 Bs Rg.cells 4 (fun _=>rfl) (by decide) x hi
theorem EF: ∀n,(List.replicate n Rg.zero.cells).flatten=jc (List.replicate n .zero)
 |n=>by unfold jc;rw[List.map_replicate]
def jr (ns:List Nd) (W:Int→Int):List Int→List Rg→Option (List Rg)
 |[],o=>some o
 |i::r,o=>
  match ns[i.toNat-1]? with
  |none=>some o
  |some n=>
   if(fy n (W (n.inn.getD 0 0)) (n.inn.map fun k=>o.getD k.toNat .zero)).alo< -68719476736∨(fy n (W (n.inn.getD 0 0)) (n.inn.map fun k=>o.getD k.toNat .zero)).ahi>68719476736 then none
   else jr ns W r (o.set i.toNat (fy n (W (n.inn.getD 0 0)) (n.inn.map fun k=>o.getD k.toNat .zero)))
theorem wE {ns:List Nd} {W:Int→Int} {i:Int} {r:List Int} {o:List Rg} {n:Nd} (e:ns[i.toNat-1]? =some n):jr ns W (i::r) o=
 if(fy n (W (n.inn.getD 0 0)) (n.inn.map fun k=>o.getD k.toNat Rg.zero)).alo< -68719476736∨(fy n (W (n.inn.getD 0 0)) (n.inn.map fun k=>o.getD k.toNat Rg.zero)).ahi>68719476736 then none
 else jr ns W r (o.set i.toNat (fy n (W (n.inn.getD 0 0)) (n.inn.map fun k=>o.getD k.toNat Rg.zero))):=by rw[jr,e]
def Gr.ranges (g:Gr) (W:Int→Int):Option (List Rg):=jr g.nodes W (cU g.nodes) (fC g.low g.high::List.replicate g.nodes.length .zero)
def Gv.sizes (gv:Gv):Prop:=gv.l<2 ^ 20∧ ∀n∈gv.ns,n.inn.l<2 ^ 20∧n.weights.l<2 ^ 40∧n.bias.l<2 ^ 40
section
variable {h:ae} {gv:Gv} {W R:Int→Int} {pos:Int→Nat}
theorem Bt (hok:gv.ok) (hn:bT h gv.p (aF gv.ns)) (hr:(aZ gv.ns).P h) (hs:gv.sizes) (hT:KT h):aq P fI #[gv.v] h (xZ gv.gr.look h):=
 Ku hok hn hr hs.1 (fun n hm=>by have:=hs.2 n hm;omega) hT
def PH (xs:List Int) (h:ae) (v:Value) (h':ae):Prop:= ∃q:Sl,v=q.v∧q.ok∧q.xs=xs∧aK h no h' [own 1 q.p q.l q.c (az q.xs)] []
theorem tR (hok:gv.ok) (hn:bT h gv.p (aF gv.ns)) (hr:(aZ gv.ns).P h) (hs:gv.sizes) (hT:KT h):aq P dS #[gv.v] h (PH gv.gr.look.widths h):=by
 refine xC _ ?_
 unfold xB
 have S:=(((aK.start h no).read (blk 0 (az aS)) hT).read (row gv.p (aF gv.ns)) hn).read (aZ gv.ns) hr
 refine aC (cs:=gv.cells) S fun b1 h1 _ S=> ?_
 dsimp only[List.nil_append,List.cons_append] at S
 refine aQ S 0 rfl (x:=gv.t) rfl ?_
 refine(Bt hok (S.row 1 rfl) (S.r 2 _ rfl) hs (S.r 0 _ rfl)).mono ?_
 rintro _ g3 ⟨o,w,r,rfl,_,ew,_,_,wok,_,S1⟩
 replace S:=S.add S1 fun _ _ h=>h
 dsimp only[List.cons_append,List.nil_append] at S
 refine⟨_,_,_,_,_,_,_,_,_,_,rfl,?_⟩
 refine aC (cs:=[.slice none 0 0,.slice none 0 0,.slice none 0 0]) S fun b10 _ _ S=> ?_
 dsimp only[List.cons_append,List.nil_append] at S
 refine aJ S 4 rfl (Nat.le_of_ble_eq_true rfl) fun _ _ S=> ?_
 dsimp only[List.set] at S
 refine aJ S 4 rfl (Nat.le_of_ble_eq_true rfl) fun _ _ S=> ?_
 dsimp only[List.set] at S
 refine aJ S 4 rfl (Nat.le_of_ble_eq_true rfl) fun _ _ S=> ?_
 dsimp only[List.set] at S
 exact am (S.cell 4 rfl rfl) ⟨w,rfl,wok,ew,GQ (S.pw [2])⟩
theorem Bu (hok:gv.ok) (hn:bT h gv.p (aF gv.ns)) (hr:(aZ gv.ns).P h) (hs:gv.sizes) (hT:KT h):aq P hC #[gv.v] h (PH gv.gr.look.order h):=by
 refine yY _ ?_
 unfold zQ
 have S:=(((aK.start h no).read (blk 0 (az aS)) hT).read (row gv.p (aF gv.ns)) hn).read (aZ gv.ns) hr
 refine aC (cs:=gv.cells) S fun b1 h1 _ S=> ?_
 dsimp only[List.nil_append,List.cons_append] at S
 refine aQ S 0 rfl (x:=gv.t) rfl ?_
 refine(Bt hok (S.row 1 rfl) (S.r 2 _ rfl) hs (S.r 0 _ rfl)).mono ?_
 rintro _ g3 ⟨o,w,r,rfl,eo,_,_,ook,_,_,S1⟩
 replace S:=S.add S1 fun _ _ h=>h
 dsimp only[List.cons_append,List.nil_append] at S
 refine⟨_,_,_,_,_,_,_,_,_,_,rfl,?_⟩
 refine aC (cs:=[.slice none 0 0,.slice none 0 0,.slice none 0 0]) S fun b10 _ _ S=> ?_
 dsimp only[List.cons_append,List.nil_append] at S
 refine aJ S 4 rfl (Nat.le_of_ble_eq_true rfl) fun _ _ S=> ?_
 dsimp only[List.set] at S
 refine aJ S 4 rfl (Nat.le_of_ble_eq_true rfl) fun _ _ S=> ?_
 dsimp only[List.set] at S
 refine aJ S 4 rfl (Nat.le_of_ble_eq_true rfl) fun _ _ S=> ?_
 dsimp only[List.set] at S
 exact am (S.cell 4 rfl rfl) ⟨o,rfl,ook,eo,GQ (S.pw [1])⟩
theorem GY (hok:gv.ok) (hn:bT h gv.p (aF gv.ns)) (hr:(aZ gv.ns).P h) (hs:gv.sizes) (hT:KT h):aq P je #[gv.v] h (PH gv.gr.look.rates h):=by
 refine yv _ ?_
 unfold zB
 have S:=(((aK.start h no).read (blk 0 (az aS)) hT).read (row gv.p (aF gv.ns)) hn).read (aZ gv.ns) hr
 refine aC (cs:=gv.cells) S fun b1 h1 _ S=> ?_
 dsimp only[List.nil_append,List.cons_append] at S
 refine aQ S 0 rfl (x:=gv.t) rfl ?_
 refine(Bt hok (S.row 1 rfl) (S.r 2 _ rfl) hs (S.r 0 _ rfl)).mono ?_
 rintro _ g3 ⟨o,w,r,rfl,_,_,er,_,_,rok,S1⟩
 replace S:=S.add S1 fun _ _ h=>h
 dsimp only[List.cons_append,List.nil_append] at S
 refine⟨_,_,_,_,_,_,_,_,_,_,rfl,?_⟩
 refine aC (cs:=[.slice none 0 0,.slice none 0 0,.slice none 0 0]) S fun b10 _ _ S=> ?_
 dsimp only[List.cons_append,List.nil_append] at S
 refine aJ S 4 rfl (Nat.le_of_ble_eq_true rfl) fun _ _ S=> ?_
 dsimp only[List.set] at S
 refine aJ S 4 rfl (Nat.le_of_ble_eq_true rfl) fun _ _ S=> ?_
 dsimp only[List.set] at S
 refine aJ S 4 rfl (Nat.le_of_ble_eq_true rfl) fun _ _ S=> ?_
 dsimp only[List.set] at S
 exact am (S.cell 4 rfl rfl) ⟨r,rfl,rok,er,GQ (S.pw [3])⟩
end
end Go.Proofs.YtdhpmegbmjoekaaGreatDoor.G
end
section
namespace Go.Proofs.YtdhpmegbmjoekaaGreatDoor.G
open Go Go.Sh
set_option linter.unusedVariables false
set_option linter.unusedSimpArgs false
theorem sk {α:Type} {A:List α} {z x:α} {n j:Nat} (hA:A.length=j) (hj:j<n):(A++List.replicate (n-j) z).set j x=(A++[x])++List.replicate (n-(j+1)) z:=by
 rw[show n-j=(n-(j+1))+1 by omega,List.replicate_succ,List.set_append,if_neg (by omega),hA,Nat.sub_self,List.set_cons_zero,List.append_assoc];rfl
theorem uS {α β:Type} (f:α→β) {l:List α} {j:Nat} (hj:j<l.length):(l.take (j+1)).map f=(l.take j).map f++[f l[j]]:=by
 rw[List.take_succ_eq_append_getElem hj,List.map_append];rfl
theorem bJ.node {g:Gr} {W R:Int→Int} {pos:Int→Nat} (r:bJ g W R pos) {i:Nat} {n:Nd} (e:g.nodes[i]? =some n):1≤n.inn.length∧n.inn.length≤4∧(jb n.kind→1≤n.bias.length)∧dw n.kind 1 12∧ ∀j∈n.inn,0≤j∧j≤(g.nodes.length:Int):=by
 have c:=iH (r.chk i n e)
 simp only[List.length_map] at c
 obtain⟨c1,c2,_,c4,_,c6,c7,_,_,c10,_⟩:=c
 refine⟨c2,?_,?_,c4,fun j hj=>(bW r.first).2.2.2.2.2 n (List.mem_of_getElem? e) j hj⟩
 ·by_cases hm:dv n.kind
  ·exact(c6 hm).2
  ·rw[c7 hm];decide
 ·intro hw
  have s:=c10.2.2.2.1 hw
  have hd:1≤(n.inn.map W).getD 0 0:=by
   have hm:(n.inn.map W).getD 0 0∈n.inn.map W:=by
    rw[List.getD_eq_getElem?_getD,List.getElem?_eq_getElem (by rw[List.length_map];omega)]
    exact List.getElem_mem _
   exact(c1 _ hm).1
  have s2:=s.2.1
  by_cases h2:n.kind=2
  ·rw[if_pos h2] at s2;omega
  ·rw[if_neg h2] at s2
   have:=c10.2.2.1 (by rcases hw with h|h|h;exact .inl h;exact absurd h h2;exact .inr h)
   omega
section
variable {h:ae} {gv:Gv} {W R:Int→Int} {pos:Int→Nat} {b1 b9:Nat} {o w:Sl} {Q:Value→ae→Prop} {K1:(Addr×Oa×Oa×Oa×Int×Int×Unit)→ae→Prop}
theorem FR (hok:gv.ok) (hs:gv.sizes) (rt:bJ gv.gr W R pos) (eo:o.xs=cU gv.gr.nodes) (ook:o.ok) (ew:w.xs=(List.range (gv.gr.nodes.length+1)).map fun x:Nat=>W x) (wok:w.ok)
 {k:Nat} (hk:k<gv.l) {os:List Rg} (hos:os.length=gv.l+1) {g:ae}
 (S:aK h no g [blk b1 gv.cells,own 1 w.p w.l w.c (az w.xs),blk b9 (jc os),own 1 o.p o.l o.c (az o.xs)] [blk 0 (az aS),row gv.p (aF gv.ns),aZ gv.ns])
 (H: ∀g' os',os'.length=gv.l+1→jr gv.gr.nodes W (o.xs.drop k) os=jr gv.gr.nodes W (o.xs.drop (k+1)) os'→
  aK h no g' [blk b1 gv.cells,own 1 w.p w.l w.c (az w.xs),blk b9 (jc os'),own 1 o.p o.l o.c (az o.xs)] [blk 0 (az aS),row gv.p (aF gv.ns),aZ gv.ns]→
  K1 (⟨b1,0,none⟩,(w.p,w.l,w.c),(some ⟨b9,0,none⟩,gv.l+1,gv.l+1),(o.p,o.l,o.c),(o.l:Int),((k+1:Nat):Int),()) g')
 (HE: ∀g',cu no h g'→jr gv.gr.nodes W (o.xs.drop k) os=none→Q (.tuple #[.slice none 0 0,.int .i64 16]) g'):
 jx Q K1 ⟨b1,0,none⟩ w.p w.l w.c (some ⟨b9,0,none⟩) (gv.l+1) (gv.l+1) o.p o.l o.c (o.l:Int) (k:Int) g:=by
 have hgl:=hok.1
 have hgn:gv.gr.nodes.length=gv.l:=by rw[←hgl];simp[Gv.gr]
 have f:=bW rt.first
 have hl12:gv.l≤12:=by have:=f.2.1;omega
 have hord:=rt.ordered
 have hkl:k<o.xs.length:=by rw[eo,hord,hgn];exact hk
 have hol:o.l=gv.l:=by rw[←ook.1,eo,hord,hgn]
 have hwl:w.l=gv.l+1:=by rw[←wok.1,ew,List.length_map,List.length_range,hgn]
 have hxm:=fT gv.gr.nodes gv.gr.nodes.length o.xs[k] (by rw[eo] at hkl;simp only[eo];exact List.getElem_mem hkl)
 obtain⟨i,ex⟩: ∃i:Nat,o.xs[k]=(i:Int)+1:=⟨(o.xs[k]-1).toNat,by have:=hxm.1;omega⟩
 rw[ex,hgn] at hxm
 have hil:i<gv.l:=by omega
 obtain⟨nv,en⟩: ∃n,gv.ns[i]? =some n:=⟨_,List.getElem?_eq_getElem (by omega)⟩
 have hmem:=List.mem_of_getElem? en
 have nok:=hok.2.2 nv hmem
 have hsz:=hs.2 nv hmem
 have ilen:nv.inn.xs.length=nv.inn.l:=nok.1.1
 have endi:gv.gr.nodes[i]? =some nv.nd:=by show(gv.ns.map Nv.nd)[i]? =_;rw[List.getElem?_map,en];rfl
 obtain⟨n1,n4,nwe,nkd,ninn⟩:=rt.node endi
 have n1':1≤nv.inn.l:=by rw[←ilen];exact n1
 have n4':nv.inn.l≤4:=by rw[←ilen];exact n4
 have nrow: ∀{g:ae} {W2:List bi},aK h no g W2 [blk 0 (az aS),row gv.p (aF gv.ns),aZ gv.ns]→nv.rows.P g:=fun S=>S.r 2 _ rfl nv.rows (List.mem_map_of_mem hmem)
 have irow: ∀{g:ae} {W2:List bi},aK h no g W2 [blk 0 (az aS),row gv.p (aF gv.ns),aZ gv.ns]→bT g nv.inn.p (az nv.inn.xs):=fun S=>nrow S nv.inn.row (by simp)
 have hdrop:jr gv.gr.nodes W (o.xs.drop k) os=if(fy nv.nd (W (nv.inn.xs.getD 0 0)) (nv.inn.xs.map fun k=>os.getD k.toNat Rg.zero)).alo< -68719476736∨(fy nv.nd (W (nv.inn.xs.getD 0 0)) (nv.inn.xs.map fun k=>os.getD k.toNat Rg.zero)).ahi>68719476736 then none
  else jr gv.gr.nodes W (o.xs.drop (k+1)) (os.set (i+1) (fy nv.nd (W (nv.inn.xs.getD 0 0)) (nv.inn.xs.map fun k=>os.getD k.toNat Rg.zero))):=by
  rw[List.drop_eq_getElem_cons hkl,ex,wE (n:=nv.nd) (by rw[show((i:Int)+1).toNat-1=i by omega];exact endi),show((i:Int)+1).toNat=i+1 by omega];rfl
 unfold jx
 refine cq (decide_eq_true (by omega)) ?_
 obtain⟨ao,eao⟩:=(S.own 3 rfl).row.some_of (by rw[aB];omega)
 have co:aD g (ao.add k)=some (.int .i64 ((i:Int)+1)):=by
  have:=(S.own 3 rfl).row
  rw[eao] at this
  rw[←ex]
  exact this.cell (aN (List.getElem?_eq_getElem hkl))
 obtain⟨an,ean⟩:=(S.row 1 rfl).some_of (by rw[bY];omega)
 simp only[aY,Nat.zero_add,Int.toNat_natCast,Nat.mul_one]
 refine aG eao (k:=k) rfl (by omega) (af co ?_)
 refine am (p:=gv.p) (l:=gv.l) (c:=gv.c) (S.cell 0 rfl rfl) ?_
 rw[al (n:=(i:Int)+1-1) (by omega),show(i:Int)+1-1=(i:Int) by omega]
 refine aG ean (k:=i) rfl hil ?_
 simp only[Int.toNat_natCast]
 refine kD (by have:=S.row 1 rfl;rw[ean] at this;exact this) en ?_
 refine aC (cs:=aP da (zT da)) S fun b33 g2 _ S=> ?_
 dsimp only[List.cons_append,List.nil_append] at S
 refine cG S 4 rfl rfl (bC rfl) fun g3 _ S=> ?_
 dsimp only[List.set] at S
 refine am (p:=nv.inn.p) (l:=nv.inn.l) (c:=nv.inn.c) (S.cell 4 rfl rfl) ?_
 refine iG S nv.inn.l rfl (zs:=Rg.zero.cells) rfl rfl (by decide) (by omega) (by omega) fun b37 g4 _ S=> ?_
 dsimp only[List.cons_append,List.nil_append] at S
 rw[EF] at S
 refine am (p:=nv.inn.p) (l:=nv.inn.l) (c:=nv.inn.c) (S.cell 4 rfl rfl) ?_
 refine aT (fun mm s g=> ∃j:Nat,s=(⟨b1,0,none⟩,(w.p,w.l,w.c),(some ⟨b9,0,none⟩,gv.l+1,gv.l+1),(i:Int)+1,⟨b33,0,none⟩,(some ⟨b37,0,none⟩,nv.inn.l,nv.inn.l),(o.p,o.l,o.c),(o.l:Int),(k:Int),(nv.inn.p,nv.inn.l,nv.inn.c),(nv.inn.l:Int),(j:Int),())∧j≤nv.inn.l∧mm=nv.inn.l-j∧
  aK h no g [blk b1 gv.cells,own 1 w.p w.l w.c (az w.xs),blk b9 (jc os),own 1 o.p o.l o.c (az o.xs),blk b33 nv.cells,blk b37 (jc ((nv.inn.xs.take j).map (fun k=>os.getD k.toNat Rg.zero)++List.replicate (nv.inn.l-j) Rg.zero))] [blk 0 (az aS),row gv.p (aF gv.ns),aZ gv.ns]) nv.inn.l ⟨0,rfl,by omega,rfl,S⟩ ?_
 clear S
 rintro mm s g ⟨j,rfl,hj,rfl,S⟩
 unfold pC
 dsimp only
 simp only[aY,Nat.zero_add,Int.toNat_natCast,Nat.mul_one]
 have wrow: ∀{x:Int},0≤x→x≤(gv.l:Int)→ ∃a,w.p=some a∧aD g (a.add x.toNat)=some (.int .i64 (W x)):=by
  intro x x0 x1
  obtain⟨aw,eaw⟩:=(S.own 1 rfl).row.some_of (by rw[aB,wok.1];omega)
  refine⟨aw,eaw,?_⟩
  have:=(S.own 1 rfl).row
  rw[eaw] at this
  refine this.cell (aN ?_)
  rw[ew,List.getElem?_map,List.getElem?_range (by omega)]
  show some (W (x.toNat:Int))=_
  rw[show(x.toNat:Int)=x by omega]
 refine au (fun hlt=> ?_) (fun hge=> ?_)
 ·have hlt:j<nv.inn.l:=by omega
  have hlt':j<nv.inn.xs.length:=by omega
  obtain⟨ai,eai⟩:=(irow S).some_of (by rw[aB];omega)
  have ci:aD g (ai.add j)=some (.int .i64 nv.inn.xs[j]):=by
   have:=irow S
   rw[eai] at this
   exact this.cell (aN (List.getElem?_eq_getElem hlt'))
  have hjr:=ninn nv.inn.xs[j] (List.getElem_mem hlt')
  rw[hgn] at hjr
  obtain⟨x,exx⟩: ∃x:Nat,nv.inn.xs[j]=x:=⟨nv.inn.xs[j].toNat,by omega⟩
  rw[exx] at ci hjr
  refine aG eai (k:=j) rfl hlt (af ci ?_)
  have hx:os[x]? =some (os.getD x Rg.zero):=by rw[List.getD_eq_getElem?_getD,List.getElem?_eq_getElem (by omega)];rfl
  have rc:=Bd (a:=⟨b9,0,none⟩) (bT.of_at (S.at 2 rfl)) hx
  simp only[aY,Nat.zero_add] at rc
  obtain⟨r0,r1,r2,r3⟩:=rc
  refine aG rfl (k:=x) rfl (by omega) ?_
  simp only[aY,Nat.zero_add,Int.toNat_natCast]
  refine af r0 (af r1 (af r2 (af r3 ?_)))
  refine aG rfl (k:=j) rfl hlt ?_
  simp only[aY,Nat.zero_add,Int.toNat_natCast]
  have hlen:((nv.inn.xs.take j).map (fun k=>os.getD k.toNat Rg.zero)).length=j:=by rw[List.length_map,List.length_take];omega
  have hfl:(jc ((nv.inn.xs.take j).map (fun k=>os.getD k.toNat Rg.zero)++List.replicate (nv.inn.l-j) Rg.zero)).length=nv.inn.l*4:=by rw[jV,List.length_append,hlen,List.length_replicate];congr 1;omega
  refine aJ S 5 rfl (by omega) fun _ _ S=> ?_
  dsimp only[List.set] at S
  refine aJ S 5 rfl (by rw[List.length_set];omega) fun _ _ S=> ?_
  dsimp only[List.set] at S
  refine aJ S 5 rfl (by rw[List.length_set,List.length_set];omega) fun _ _ S=> ?_
  dsimp only[List.set] at S
  refine aJ S 5 rfl (by rw[List.length_set,List.length_set,List.length_set];omega) fun _ _ S=> ?_
  dsimp only[List.set] at S
  rw[yn (by rw[List.length_append,hlen,List.length_replicate];omega) (os.getD x Rg.zero),sk hlen hlt] at S
  have e2:=uS (fun k:Int=>os.getD k.toNat Rg.zero) hlt'
  rw[exx,Int.toNat_natCast] at e2
  rw[←e2] at S
  rw[al (n:=(j:Int)+1) (by omega)]
  exact⟨nv.inn.l-(j+1),by omega,j+1,rfl,by omega,rfl,S⟩
 ·have ej:j=nv.inn.l:=by omega
  subst ej
  rw[List.take_of_length_le (by omega),Nat.sub_self,List.replicate_zero,List.append_nil] at S
  refine aQ S 4 rfl (x:=nv.t) rfl ?_
  refine am (p:=nv.inn.p) (l:=nv.inn.l) (c:=nv.inn.c) (S.cell 4 rfl rfl) ?_
  obtain⟨ai,eai⟩:=(irow S).some_of (by rw[aB];omega)
  obtain⟨x0,ex0⟩: ∃x0,nv.inn.xs[0]? =some x0:=⟨_,List.getElem?_eq_getElem (by omega)⟩
  have hx0:nv.inn.xs.getD 0 0=x0:=by rw[List.getD_eq_getElem?_getD,ex0];rfl
  have hxr:=ninn x0 (List.mem_of_getElem? ex0)
  rw[hgn] at hxr
  have ci:aD g (ai.add 0)=some (.int .i64 x0):=by
   have:=irow S
   rw[eai] at this
   exact this.cell (aN ex0)
  refine aG eai (k:=0) rfl (by omega) (af ci ?_)
  obtain⟨aw,eaw,cw⟩:=wrow hxr.1 hxr.2
  refine aG eaw (k:=x0.toNat) (by omega) (by omega) (af cw ?_)
  refine(Oh nok (nrow S) (S.r 0 _ rfl) hsz.2.1 hsz.2.2 (fun hk=>by have:=nwe hk;rw[←nok.2.2.1];exact this) (bT.of_at (S.at 5 rfl)) (by rw[List.length_map];exact ilen) n1' (by omega) (W x0)).mono ?_
  rintro _ g2 ⟨rfl,F⟩
  replace S:=S.fra0 F
  refine⟨_,_,_,_,rfl,?_⟩
  obtain⟨y,ey⟩: ∃y,fy nv.nd (W x0) (nv.inn.xs.map fun k=>os.getD k.toNat Rg.zero)=y:=⟨_,rfl⟩
  rw[hx0,ey] at hdrop
  rw[ey]
  refine aG rfl (k:=i+1) rfl (by omega) ?_
  rw[show((i:Int)+1).toNat=i+1 by omega]
  simp only[aY,Nat.zero_add]
  have hfl:(jc os).length=(gv.l+1)*4:=by rw[jV,hos]
  refine aJ S 2 rfl (by omega) fun _ _ S=> ?_
  dsimp only[List.set] at S
  refine aJ S 2 rfl (by rw[List.length_set];omega) fun _ _ S=> ?_
  dsimp only[List.set] at S
  refine aJ S 2 rfl (by rw[List.length_set,List.length_set];omega) fun _ _ S=> ?_
  dsimp only[List.set] at S
  refine aJ S 2 rfl (by rw[List.length_set,List.length_set,List.length_set];omega) fun _ _ S=> ?_
  dsimp only[List.set] at S
  rw[yn (by omega) y] at S
  have hy:(os.set (i+1) y)[i+1]? =some y:=List.getElem?_set_self (by omega)
  have rc:=Bd (a:=⟨b9,0,none⟩) (bT.of_at (S.at 2 rfl)) hy
  simp only[aY,Nat.zero_add] at rc
  obtain⟨_,_,r2,r3⟩:=rc
  refine aG rfl (k:=i+1) rfl (by omega) ?_
  simp only[aY,Nat.zero_add]
  refine af r2 (au (fun hlo=> ?_) (fun hlo=> ?_))
  ·exact HE _ S.fra (by rw[hdrop,if_pos (.inl hlo)])
  ·refine aG rfl (k:=i+1) rfl (by omega) ?_
   simp only[aY,Nat.zero_add]
   refine af r3 (au (fun hhi=> ?_) (fun hhi=> ?_))
   ·exact HE _ S.fra (by rw[hdrop,if_pos (.inr hhi)])
   ·rw[al (n:=(k:Int)+1) (by omega)]
    refine H _ (os.set (i+1) y) (by rw[List.length_set];exact hos) ?_ (S.pw [0,1,2,3])
    rw[hdrop,if_neg (by rintro(h|h);exact hlo h;exact hhi h)]
theorem EG (hok:gv.ok) (hn:bT h gv.p (aF gv.ns)) (hr:(aZ gv.ns).P h) (hs:gv.sizes) (hT:KT h) (rt:bJ gv.gr W R pos):
 aq P gm #[gv.v] h fun v h'=>(∃(q:Option Addr) (m d:Nat),v= .tuple #[.slice q m d,.int .i64 (if(gv.gr.ranges W).isSome then 0 else 16)])∧cu no h h':=by
 refine oq _ ?_
 unfold qu
 have hgl:=hok.1
 have hgn:gv.gr.nodes.length=gv.l:=by rw[←hgl];simp[Gv.gr]
 have hl12:gv.l≤12:=by have:=(bW rt.first).2.1;omega
 have S:=(((aK.start h no).read (blk 0 (az aS)) hT).read (row gv.p (aF gv.ns)) hn).read (aZ gv.ns) hr
 refine aC (cs:=gv.cells) S fun b1 h1 _ S=> ?_
 dsimp only[List.nil_append,List.cons_append] at S
 refine aQ S 0 rfl (x:=gv.t) rfl ?_
 refine(zt hok (S.row 1 rfl) (S.r 2 _ rfl) hs.1 (fun n hm=>by have:=hs.2 n hm;omega) (S.r 0 _ rfl)).mono ?_
 rintro _ g2 ⟨rfl,F⟩
 replace S:=S.fra0 F
 have el:=rt.look
 refine⟨_,rfl,bj (fun he=>absurd (by rw[el]) he) (fun _=> ?_)⟩
 refine aQ S 0 rfl (x:=gv.t) rfl ?_
 refine(tR hok (S.row 1 rfl) (S.r 2 _ rfl) hs (S.r 0 _ rfl)).mono ?_
 rintro _ g3 ⟨⟨wp,wl,wc,wx⟩,rfl,wok,ew,S1⟩
 have ew':wx=(List.range (gv.gr.nodes.length+1)).map fun x:Nat=>W x:=by rw[el] at ew;exact ew
 obtain rfl:wl=gv.l+1:=by have:=wok.1;dsimp only at this;rw[←this,ew',List.length_map,List.length_range,hgn]
 dsimp only at S1
 replace S:=S.add S1 fun _ _ h=>h
 dsimp only[List.cons_append,List.nil_append] at S
 refine⟨_,_,_,rfl,?_⟩
 refine iG S (gv.l+1) rfl (zs:=Rg.zero.cells) rfl rfl (by decide) (by omega) (by omega) fun b9 g4 _ S=> ?_
 dsimp only[List.cons_append,List.nil_append] at S
 rw[EF] at S
 refine af (n:=gv.low) (S.cell 0 rfl rfl) (af (n:=gv.high) (S.cell 0 rfl rfl) ?_)
 refine(wC _ _).mono ?_
 rintro _ g5 ⟨rfl,F⟩
 replace S:=S.fra0 F
 refine⟨_,_,_,_,rfl,?_⟩
 simp only[Int.toNat_natCast]
 refine aG rfl (k:=0) rfl (by omega) ?_
 simp only[aY,Nat.zero_add,Int.toNat_zero,Nat.zero_mul]
 have hfl:(jc (List.replicate (gv.l+1) .zero)).length=(gv.l+1)*4:=by rw[jV,List.length_replicate]
 refine aJ S 2 rfl (by omega) fun _ _ S=> ?_
 dsimp only[List.set] at S
 refine aJ S 2 rfl (by rw[List.length_set];omega) fun _ _ S=> ?_
 dsimp only[List.set] at S
 refine aJ S 2 rfl (by rw[List.length_set,List.length_set];omega) fun _ _ S=> ?_
 dsimp only[List.set] at S
 refine aJ S 2 rfl (by rw[List.length_set,List.length_set,List.length_set];omega) fun _ _ S=> ?_
 dsimp only[List.set] at S
 have e0:=yn (rs:=List.replicate (gv.l+1) .zero) (i:=0) (by rw[List.length_replicate];omega) (fC gv.low gv.high)
 simp only[Nat.zero_mul,Nat.zero_add] at e0
 rw[e0] at S
 refine aQ S 0 rfl (x:=gv.t) rfl ?_
 refine(Bu hok (S.row 1 rfl) (S.r 2 _ rfl) hs (S.r 0 _ rfl)).mono ?_
 rintro _ g6 ⟨o,rfl,ook,eo,S1⟩
 rw[el] at eo
 replace S:=S.add S1 fun _ _ h=>h
 dsimp only[List.cons_append,List.nil_append] at S
 have hol:o.l=gv.l:=by rw[←ook.1,eo,rt.ordered,hgn]
 refine⟨_,_,_,rfl,?_⟩
 refine aT (fun mm s g=> ∃(k:Nat) (os:List Rg),s=(⟨b1,0,none⟩,(wp,gv.l+1,wc),(some ⟨b9,0,none⟩,gv.l+1,gv.l+1),(o.p,o.l,o.c),(o.l:Int),(k:Int),())∧k≤gv.l∧mm=gv.l-k∧os.length=gv.l+1∧gv.gr.ranges W=jr gv.gr.nodes W (o.xs.drop k) os∧
  aK h no g [blk b1 gv.cells,own 1 wp (gv.l+1) wc (az wx),blk b9 (jc os),own 1 o.p o.l o.c (az o.xs)] [blk 0 (az aS),row gv.p (aF gv.ns),aZ gv.ns]) gv.l ⟨0,_,rfl,by omega,rfl,by rw[List.length_set,List.length_replicate],?_,S⟩ ?_
 ·rw[List.drop_zero,eo,List.replicate_succ,List.set_cons_zero]
  unfold Gr.ranges
  rw[hgn];rfl
 clear S e0 hfl
 rintro mm s g ⟨k,os,rfl,hk,rfl,hos,er,S⟩
 dsimp only
 by_cases hlt:k<gv.l
 ·refine FR (w:=⟨wp,gv.l+1,wc,wx⟩) hok hs rt eo ook ew' wok hlt hos S (fun g' os' hos' e' S'=> ?_) (fun g' F' e'=> ?_)
  ·exact⟨gv.l-(k+1),by omega,k+1,os',rfl,by omega,rfl,hos',by rw[er,e'],S'⟩
  ·rw[er,e'];exact⟨⟨_,_,_,rfl⟩,F'⟩
 ·unfold jx
  refine bQ (decide_eq_false (by omega)) ?_
  rw[List.drop_of_length_le (by rw[ook.1];omega)] at er
  rw[er]
  exact⟨⟨_,_,_,rfl⟩,S.fra⟩
end
end Go.Proofs.YtdhpmegbmjoekaaGreatDoor.G
end
