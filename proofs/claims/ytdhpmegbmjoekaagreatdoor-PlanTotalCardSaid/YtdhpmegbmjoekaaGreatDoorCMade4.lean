/- CMade CMade2 CMade3 CMade4, in one text. -/
import Derived.Test.YtdhpmegbmjoekaaGreatDoorCKind14d
section
namespace Go.Proofs.YtdhpmegbmjoekaaGreatDoor.G
open Go Go.Sh
set_option linter.unusedVariables false
set_option linter.unusedSimpArgs false
abbrev rP (r:Nat) (p:Option Addr) (l c a:Nat):bi:=blk r [.slice p l c,.int .i64 a]
abbrev Ky (size step gap left right:Int):Prop:=dw size 1 4∧dw step 1 3∧dw gap 1 3∧dw left 0 ((size-1)*gap)∧dw right 0 ((size-1)*gap)
inductive GoodN (ins ws:List Int):Bool→Nd→Prop
 |add (st:Bool):2≤ins.length→(∀x∈ws,x=ws.getD 0 0)→GoodN ins ws st ⟨7,ins,0,0,0,0,0,0,[],[],0,0,0,0,0⟩
 |join (st:Bool):2≤ins.length→gN ws≤16→GoodN ins ws st ⟨8,ins,0,0,0,0,0,0,[],[],0,0,0,0,0⟩
 |conv (width size step gap left right:Int) (ww bb:List Int):Ky size step gap left right→dw width 1 3→(ww.length:Int)=width*size*ws.getD 0 0→(bb.length:Int)=width→bo (-9) 9 ww→bo (-50) 50 bb→
  GoodN ins ws false ⟨1,ins.take 1,width,size,step,gap,left,right,ww,bb,0,0,0,0,0⟩
 |depth (size step gap left right:Int) (ww bb:List Int):Ky size step gap left right→(ww.length:Int)=size*ws.getD 0 0→(bb.length:Int)=ws.getD 0 0→bo (-9) 9 ww→bo (-50) 50 bb→
  GoodN ins ws false ⟨2,ins.take 1,0,size,step,gap,left,right,ww,bb,0,0,0,0,0⟩
 |pool (k size step gap left right:Int):k=3∨k=4→Ky size step gap left right→GoodN ins ws false ⟨k,ins.take 1,0,size,step,gap,left,right,[],[],0,0,0,0,0⟩
 |smooth (size:Int):dw size 1 5→GoodN ins ws false ⟨12,ins.take 1,0,size,0,0,0,0,[],[],0,0,0,0,0⟩
 |whole:GoodN ins ws false ⟨5,ins.take 1,0,0,0,0,0,0,[],[],0,0,0,0,0⟩
 |dense (st:Bool) (width:Int) (ww bb:List Int):dw width 1 3→(ww.length:Int)=width*ws.getD 0 0→(bb.length:Int)=width→bo (-12) 12 ww→bo (-5000) 5000 bb→
  GoodN ins ws st ⟨6,ins.take 1,width,0,0,0,0,0,ww,bb,0,0,0,0,0⟩
 |clamp (st:Bool) (low high:Int):dw low (-150) 49→dw high low (low+299)→GoodN ins ws st ⟨9,ins.take 1,0,0,0,0,0,0,[],[],0,0,low,high,0⟩
 |scale (st:Bool) (mult shift:Int):dw mult 0 32767→dw shift 0 19→GoodN ins ws st ⟨10,ins.take 1,0,0,0,0,0,0,[],[],mult,shift,0,0,0⟩
 |best (st:Bool):GoodN ins ws st ⟨11,ins.take 1,0,0,0,0,0,0,[],[],0,0,0,0,0⟩
section
variable {h0 h:ae} {T:Nat→Prop} {W R:List bi} {r l c a:Nat} {p:Option Addr} {L:List Int}
theorem DA (x:Int) {n:Nat} (h0:0<n) (h1:n<2 ^ 60): ∃k:Nat,Int.tmod (IntKind.wrap .i64 (Int.tmod x n+n)) n=k∧k<n:=by
 have hb:=Jc x (m:=n) (by omega)
 rw[al (by omega)]
 have h2:0≤Int.tmod x n+n:=by omega
 rw[Int.tmod_eq_emod_of_nonneg h2]
 have h3:=Int.emod_nonneg (Int.tmod x n+n) (b:=n) (by omega)
 have h4:=Int.emod_lt_of_pos (Int.tmod x n+n) (b:=n) (by omega)
 exact⟨((Int.tmod x n+n) % n).toNat,by omega,by omega⟩
theorem cF (S:aK h0 T h W R) (ir iL:Nat) (er:W[ir]? =some (rP r p l c a)) (eL:R[iL]? =some (row p (az L))) (hL:L.length=l) (ha:a≤l) (hl:l<2 ^ 62) (n:Nat) (h1:1≤n) (h2:n<2 ^ 60):
 aq P aV #[.pointer (some ⟨r,0,none⟩),.int .i64 n] h fun v h'=> ∃(k a':Nat),v= .int .i64 k∧k<n∧a'≤l∧aK h0 T h' (W.set ir (rP r p l c a')) R:=by
 refine uF _ _ ?_
 unfold sH
 refine bK (bK (af (S.cell ir er rfl) (am (S.cell ir er rfl) (au (fun h3=>⟨0,a,rfl,by omega,ha,S.turn ir er _ (fun h=>h) fun _ h=>h⟩) fun h3=>bK (af (S.cell ir er rfl) (bK ?_))))))
 rw[al (n:=(a:Int)+1) (by omega)]
 have ea:(a:Int)+1=((a+1:Nat):Int):=by omega
 rw[ea]
 refine aJ S ir er (k:=1) (Nat.le_of_ble_eq_true rfl) fun h' _ S=> ?_
 have hi:ir<W.length:=(List.getElem?_eq_some_iff.1 er).1
 have er':(W.set ir (rP r p l c (a+1)))[ir]? =some (rP r p l c (a+1)):=by rw[List.getElem?_set_self hi]
 have S':aK h0 T h' (W.set ir (rP r p l c (a+1))) R:=S
 refine bK (bK (am (S'.cell ir er' rfl) (af (S'.cell ir er' rfl) ?_)))
 have ea2:IntKind.wrap .i64 (((a+1:Nat):Int)-1)=(a:Int):=by rw[al (by omega)];omega
 rw[ea2]
 have hx:=S'.row iL eL
 obtain⟨aa,rfl⟩:=hx.some_of (by rw[aB];omega)
 refine aG rfl rfl (by omega) ?_
 simp only[Int.toNat_natCast,Nat.mul_one]
 refine af (hx.cell (aN (List.getElem?_eq_getElem (by omega)))) ⟨by omega,by omega,?_⟩
 obtain⟨k,ek,hk⟩:=DA (L[a]'(by omega)) h1 h2
 rw[ek]
 exact⟨k,a+1,rfl,hk,by omega,S'⟩
theorem uu (S:aK h T h [rP r p l c a] R) (iL:Nat) (eL:R[iL]? =some (row p (az L))) (hL:L.length=l) (ha:a≤l) (hl:l<2 ^ 62) (m:Nat) (hm:m≤2 ^ 20) (lo:Int) (hlo: -2 ^ 20≤lo∧lo≤2 ^ 20) (n:Nat) (h1:1≤n) (h2:n<2 ^ 30):
 aq P dh #[.pointer (some ⟨r,0,none⟩),.int .i64 m,.int .i64 lo,.int .i64 n] h fun v h'=> ∃(q:Option Addr) (k d a':Nat) (xs:List Int),v= .slice q k d∧xs.length=m∧k=m∧bo lo (lo+n-1) xs∧a'≤l∧aK h T h' [rP r p l c a',own 1 q k d (az xs)] R:=by
 refine vK _ _ _ _ ?_
 unfold u6
 replace S:=S.nil 1
 dsimp only[List.cons_append,List.nil_append] at S
 refine aT (fun m' s g=> ∃(i a':Nat) (q:Option Addr) (k d:Nat) (xs:List Int),s=(some ⟨r,0,none⟩,(m:Int),lo,(n:Int),(q,k,d),(i:Int),())∧i≤m∧m'=m-i∧xs.length=i∧k=i∧bo lo (lo+n-1) xs∧a'≤l∧aK h T g [rP r p l c a',own 1 q k d (az xs)] R) m
  ⟨0,a,none,0,0,[],rfl,by omega,rfl,rfl,rfl,cD _ _,ha,S⟩ ?_
 rintro m' s g ⟨i,a',q,k,d,xs,rfl,hi',rfl,hxl,rfl,hf,ha',S⟩
 unfold pn
 dsimp only
 refine au (fun hlt=> ?_) (fun hge=> ?_)
 ·refine(cF S 0 iL rfl eL hL ha' hl n h1 (by omega)).mono ?_
  rintro _ g2 ⟨x,a2,rfl,hx,ha2,S⟩
  refine⟨_,rfl,?_⟩
  dsimp only[List.set] at S ⊢
  rw[al (n:=lo+(x:Int)) (by omega)]
  refine aC S (fun b4 _ _ S=> ?_)
  dsimp only[List.cons_append,List.nil_append] at S
  refine dI S 1 (ys:=az [lo+(x:Int)]) rfl rfl (by decide) (by omega) (bT.of_at (S.at 2 rfl)) rfl gO fun p' l' c' h' hl' S=> ?_
  dsimp only[List.set] at S
  rw[al (by omega)]
  have ei:az xs++az [lo+(x:Int)]=az (xs++[lo+(x:Int)]):=by simp[az]
  rw[ei] at S
  refine⟨m-(k+1),by omega,k+1,a2,p',l',c',xs++[lo+(x:Int)],rfl,by omega,rfl,by simp;omega,hl',?_,ha2,S.pw [0,1]⟩
  intro y hy
  rcases List.mem_append.1 hy with hy|hy
  ·exact hf y hy
  ·simp only[List.mem_singleton] at hy;subst hy;omega
 ·have:k=m:=by omega
  subst this
  exact⟨q,k,d,a',xs,rfl,hxl,rfl,hf,ha',S⟩
theorem qO (S:aK h T h [rP r p l c a] R) (iL:Nat) (eL:R[iL]? =some (row p (az L))) (hL:L.length=l) (ha:a≤l) (hl:l<2 ^ 62) {nv:Nv} (hk:dD nv.kind):
 aq P dk #[.pointer (some ⟨r,0,none⟩),nv.v] h fun v h'=> ∃(a':Nat) (size step gap left right:Int),v=({nv with size:=size,step:=step,gap:=gap,left:=left,right:=right}:Nv).v∧Ky size step gap left right∧a'≤l∧aK h T h' [rP r p l c a'] R:=by
 refine rZ _ _ ?_
 unfold pm
 refine aC (cs:=nv.cells) S fun b1 h1 _ S=> ?_
 refine aC S fun b3 h2 _ S=> ?_
 dsimp only[List.cons_append,List.nil_append] at S
 refine(cF S 0 iL rfl eL hL ha hl 4 (by decide) (by decide)).mono ?_
 rintro _ g ⟨k1,a1,rfl,hk1,ha1,S⟩
 refine⟨_,rfl,?_⟩
 dsimp only[List.set] at S ⊢
 rw[al (n:=1+(k1:Int)) (by omega)]
 refine aJ S 1 rfl (k:=3) (Nat.le_of_ble_eq_true rfl) fun h' _ S=> ?_
 refine(cF S 0 iL rfl eL hL ha1 hl 3 (by decide) (by decide)).mono ?_
 rintro _ g ⟨k2,a2,rfl,hk2,ha2,S⟩
 refine⟨_,rfl,?_⟩
 dsimp only[List.set] at S ⊢
 rw[al (n:=1+(k2:Int)) (by omega)]
 refine aJ S 1 rfl (k:=4) (Nat.le_of_ble_eq_true rfl) fun h' _ S=> ?_
 refine(cF S 0 iL rfl eL hL ha2 hl 3 (by decide) (by decide)).mono ?_
 rintro _ g ⟨k3,a3,rfl,hk3,ha3,S⟩
 refine⟨_,rfl,?_⟩
 dsimp only[List.set] at S ⊢
 rw[al (n:=1+(k3:Int)) (by omega)]
 refine aJ S 1 rfl (k:=5) (Nat.le_of_ble_eq_true rfl) fun h' _ S=> ?_
 have S2:aK h T h' [rP r p l c a3,blk b1 ({nv with size:=1+(k1:Int),step:=1+(k2:Int),gap:=1+(k3:Int)}:Nv).cells,blk b3 (aP da (zT da))] R:=S
 clear S
 have S:=S2
 clear S2
 generalize hn2:({nv with size:=1+(k1:Int),step:=1+(k2:Int),gap:=1+(k3:Int)}:Nv)=n2 at S
 have hsz:n2.size=1+(k1:Int):=by rw[←hn2]
 have hgp:n2.gap=1+(k3:Int):=by rw[←hn2]
 have hkd:n2.kind=nv.kind:=by rw[←hn2]
 have hsp:n2.nd.span=(n2.size-1)*n2.gap+1:=by
  show zz n2.kind n2.size n2.gap=_
  unfold zz
  rw[hkd,if_neg (by omega),if_pos hk]
 have hm:0≤(n2.size-1)*n2.gap∧(n2.size-1)*n2.gap≤9:=jW (x:=3) (y:=3) (by omega) (by omega)
 obtain⟨m,em⟩: ∃m:Nat,(n2.size-1)*n2.gap+1=m:=⟨((n2.size-1)*n2.gap+1).toNat,by omega⟩
 rw[em] at hsp
 refine aQ S 1 rfl (x:=n2.t) rfl ?_
 refine(tS n2 (by omega) (by omega)).mono ?_
 rintro _ _ ⟨rfl,F⟩
 refine⟨_,rfl,?_⟩
 replace S:=S.fra0 F
 rw[hsp]
 refine(cF S 0 iL rfl eL hL ha3 hl m (by omega) (by omega)).mono ?_
 rintro _ g ⟨k4,a4,rfl,hk4,ha4,S⟩
 refine⟨_,rfl,?_⟩
 dsimp only[List.set] at S ⊢
 refine aJ S 1 rfl (k:=6) (Nat.le_of_ble_eq_true rfl) fun h' _ S=> ?_
 have S2:aK h T h' [rP r p l c a4,blk b1 ({n2 with left:=(k4:Int)}:Nv).cells,blk b3 (aP da (zT da))] R:=S
 clear S
 have S:=S2
 clear S2
 refine aQ S 1 rfl (x:=({n2 with left:=(k4:Int)}:Nv).t) rfl ?_
 have hsp2:({n2 with left:=(k4:Int)}:Nv).nd.span=m:=hsp
 refine(tS ({n2 with left:=(k4:Int)}:Nv) (by show-2 ^ 20≤n2.size∧n2.size≤2 ^ 20;omega) (by show-2 ^ 20≤n2.gap∧n2.gap≤2 ^ 20;omega)).mono ?_
 rintro _ _ ⟨rfl,F⟩
 refine⟨_,rfl,?_⟩
 replace S:=S.fra0 F
 rw[hsp2]
 refine(cF S 0 iL rfl eL hL ha4 hl m (by omega) (by omega)).mono ?_
 rintro _ g ⟨k5,a5,rfl,hk5,ha5,S⟩
 refine⟨_,rfl,?_⟩
 dsimp only[List.set] at S ⊢
 refine aJ S 1 rfl (k:=7) (Nat.le_of_ble_eq_true rfl) fun h' _ S=> ?_
 have S2:aK h T h' [rP r p l c a5,blk b1 ({n2 with left:=(k4:Int),right:=(k5:Int)}:Nv).cells,blk b3 (aP da (zT da))] R:=S
 clear S
 have S:=S2
 clear S2
 refine aQ S 1 rfl (x:=({n2 with left:=(k4:Int),right:=(k5:Int)}:Nv).t) rfl ?_
 refine cG S 2 rfl rfl (bC rfl) fun h4 _ S=> ?_
 dsimp only[List.set] at S
 refine aQ S 2 rfl (x:=({n2 with left:=(k4:Int),right:=(k5:Int)}:Nv).t) rfl ?_
 refine⟨a5,1+(k1:Int),1+(k2:Int),1+(k3:Int),(k4:Int),(k5:Int),by rw[←hn2],⟨by omega,by omega,by omega,?_,?_⟩,ha5,S.pw [0]⟩
 ·rw[hsz,hgp] at em;omega
 ·rw[hsz,hgp] at em;omega
end
end Go.Proofs.YtdhpmegbmjoekaaGreatDoor.G
end
section
namespace Go.Proofs.YtdhpmegbmjoekaaGreatDoor.G
open Go Go.Sh
set_option linter.unusedVariables false
set_option linter.unusedSimpArgs false
def Nv.zero:Nv:=⟨0,Sl.nil,0,0,0,0,0,0,Sl.nil,Sl.nil,0,0,0,0,0⟩
theorem Sl.nil_ok:Sl.nil.ok:=⟨rfl,Nat.le_refl _⟩
def wq:List Int:=[1,2,3,4,12,1,5,6,9,10,11,6]
theorem LG: ∀k:Nat,k<12→(∃K,wq[k]? =some K∧(K=1∨K=2∨K=6∨K=3∨K=4∨K=12∨K=9∨K=10∨K=5∨K=11)∧(7≤k→K=6∨K=9∨K=10∨K=11)):=by
 intro k hk
 have:k=0∨k=1∨k=2∨k=3∨k=4∨k=5∨k=6∨k=7∨k=8∨k=9∨k=10∨k=11:=by omega
 rcases this with rfl|rfl|rfl|rfl|rfl|rfl|rfl|rfl|rfl|rfl|rfl|rfl<;>exact⟨_,rfl,by omega,by omega⟩
section
variable {h0 h:ae} {T:Nat→Prop} {W R:List bi} {r l c a:Nat} {p:Option Addr} {L ins ws:List Int} {still:Bool}
def H5 (T:Nat→Prop) (h:ae) (R:List bi) (r:Nat) (p:Option Addr) (l c:Nat) (ins ws:List Int) (still:Bool) (v:Value) (h':ae):Prop:=
 ∃(nv:Nv) (a':Nat),v=nv.v∧nv.ok∧nv.inn.l≤2 ^ 20∧nv.weights.l≤2 ^ 20∧nv.bias.l≤2 ^ 20∧GoodN ins ws still nv.nd∧a'≤l∧aK h T h' [rP r p l c a',nv.rows] R
theorem jq {g:ae} {nv:Nv} {t8 n9:Nat} {xs:List Value} (S:aK h T g [rP r p l c a,blk t8 xs,blk n9 nv.cells,nv.inn.row,nv.weights.row,nv.bias.row] R) (hx:xs.length=15) (ha:a≤l) (hok:nv.ok)
 (hs:nv.inn.l≤2 ^ 20∧nv.weights.l≤2 ^ 20∧nv.bias.l≤2 ^ 20) (hg:GoodN ins ws still nv.nd):
 aX da g ⟨n9,0,none⟩ fun x=>bt (aP da x) g ⟨t8,0,none⟩ 0 fun g2=>aX da g2 ⟨t8,0,none⟩ fun y=>H5 T h R r p l c ins ws still (bz da y) g2:=by
 refine aQ S 2 rfl (x:=nv.t) rfl ?_
 refine cG S 1 rfl (by rw[hx];rfl) (bC rfl) fun g2 _ S=> ?_
 dsimp only[List.set] at S
 refine aQ S 1 rfl (x:=nv.t) rfl ?_
 exact⟨nv,a,rfl,hok,hs.1,hs.2.1,hs.2.2,hg,ha,S.join [0] [3,4,5]⟩
theorem im (S:aK h0 T h W R):aK h0 T h (W++[Sl.nil.row]) R:=by
 have S2:=S.nil 1
 have hi:W.length<(W++[own 1 none 0 0 []]).length:=by simp
 have e:(W++[own 1 none 0 0 []])[W.length]? =some (own 1 none 0 0 []):=by rw[List.getElem?_concat_length]
 have S3:=S2.turn W.length e Sl.nil.row (fun o=>qF.row o) (fun b hb=>by obtain⟨_,a,ha,_⟩:=hb;cases ha)
 rw[List.set_append_right _ _ (Nat.le_refl _),Nat.sub_self] at S3
 exact S3
theorem own_row {q:Option Addr} {k d i:Nat} {xs:List Int} (S:aK h0 T h W R) (e:W[i]? =some (own 1 q k d (az xs))):aK h0 T h (W.set i (Sl.row ⟨q,k,d,xs⟩)) R:=
 S.turn i e _ (fun o=>qF.row o) fun b hb=>hb.2
theorem kL {q:Option Addr} {k d i:Nat} {xs:List Int} (S:aK h0 T h W R) (e:W[i]? =some (own 1 q k d (az xs))):(Sl.mk q k d xs).ok:=by
 have o:=S.own i e
 have:=o.1
 rw[aB] at this
 exact⟨by simpa using this,o.2.1⟩
set_option maxHeartbeats 2000000 in
theorem Jt {g:ae} {nv:Nv} {t8 n9 bk k:Nat} {w:Int} {xs:List Value} {K0:Int} {inn:Sl} (hnv:nv={Nv.zero with kind:=K0,inn:=inn}) (hix:inn.xs=ins.take 1) (hiok:inn.ok)
 (S:aK h T g [rP r p l c a,blk t8 xs,blk n9 nv.cells,inn.row,blk bk (az wq)] R) (hx:xs.length=15) (iL:Nat) (eL:R[iL]? =some (row p (az L))) (hL:L.length=l) (ha:a≤l) (hl:l<2 ^ 62)
 (hk:k<12) (hks:still=true→7≤k) (hw:w=ws.getD 0 0) (hw2:1≤w∧w≤16):
 mW (H5 T h R r p l c ins ws still) (some ⟨r,0,none⟩) ⟨t8,0,none⟩ ⟨n9,0,none⟩ w ⟨bk,0,none⟩ (k:Int) g:=by
 unfold mW
 obtain⟨K,eK,hK,hKs⟩:=LG k hk
 have hkl:wq.length=12:=rfl
 have inl:inn.l≤1:=by have:=hiok.1;rw[hix,List.length_take] at this;omega
 have hns:K=1∨K=2∨K=3∨K=4∨K=12∨K=5→still=false:=fun h=>by
  cases hst:still
  ·rfl
  ·have:=hKs (hks hst);omega
 obtain⟨wn,ewn⟩: ∃wn:Nat,w=wn:=⟨w.toNat,by omega⟩
 refine ig (by omega) (by omega) ?_
 simp only[Int.toNat_natCast,Nat.mul_one]
 have hck:aD g (Addr.add ⟨bk,0,none⟩ k)=some (.int .i64 K):=by rw[aY,Nat.zero_add];exact S.cell 4 rfl (aN eK)
 refine af hck ?_
 refine aJ S 2 rfl (k:=0) (Nat.le_of_ble_eq_true rfl) fun g2 _ S=> ?_
 have S2:aK h T g2 [rP r p l c a,blk t8 xs,blk n9 ({Nv.zero with kind:=K,inn:=inn}:Nv).cells,inn.row,blk bk (az wq)] R:=by rw[hnv] at S;exact S
 clear S
 have S:=S2.pw [0,1,2,3]
 clear S2 hnv
 dsimp only[Sh.pick,List.getElem?_cons_zero,List.getElem?_cons_succ] at S
 refine af (n:=K) (S.cell 2 rfl rfl) ?_
 refine aO (fun k1=> ?_) (fun k1=>aO (fun k2=> ?_) (fun k2=>aO (fun k3=> ?_) (fun k3=>aO (fun k4=> ?_) (fun k4=>aO (fun k5=> ?_) (fun k5=>aO (fun k6=> ?_) (fun k6=>aO (fun k7=> ?_) (fun k7=>aO (fun k8=> ?_) (fun k8=> ?_))))))))
 ·
  subst k1
  obtain rfl:=hns (by omega)
  refine aQ S 2 rfl (x:=({Nv.zero with kind:=1,inn:=inn}:Nv).t) rfl ?_
  have P0:=S.into [0] [] [iL]
  rw[show Sh.pick R [iL]=[row p (az L)] by simp only[Sh.pick,eL]] at P0
  refine(qO P0 0 rfl hL ha hl (.inl rfl)).mono ?_
  rintro _ g3 ⟨a1,size,step,gap,left,right,rfl,hwin,ha1,S1⟩
  replace S:=S.back [0] S1
  dsimp only[bO,List.set] at S
  refine jQ (Nv.t _) ⟨rfl,?_⟩
  refine cG S 2 rfl rfl (bC rfl) fun g4 _ S=> ?_
  dsimp only[List.set] at S
  refine(cF S 0 iL rfl eL hL ha1 hl 3 (by decide) (by decide)).mono ?_
  rintro _ g5 ⟨x1,a2,rfl,hx1,ha2,S⟩
  refine⟨_,rfl,?_⟩
  dsimp only[List.set] at S ⊢
  rw[al (n:=1+(x1:Int)) (by omega)]
  refine aJ S 2 rfl (k:=2) (Nat.le_of_ble_eq_true rfl) fun g6 _ S=> ?_
  refine af (n:=1+(x1:Int)) (S.cell 2 rfl rfl) (af (n:=size) (S.cell 2 rfl rfl) ?_)
  obtain⟨h1,h2,h3,h4,h5⟩:=hwin
  obtain⟨sn,esn⟩: ∃sn:Nat,size=sn:=⟨size.toNat,by omega⟩
  have b1:=jW (a:=1+(x1:Int)) (b:=size) (x:=3) (y:=4) (by omega) (by omega)
  have b2:=jW (a:=(1+(x1:Int))*size) (b:=w) (x:=12) (y:=16) (by omega) (by omega)
  rw[al (n:=(1+(x1:Int))*size) (by omega),al (n:=(1+(x1:Int))*size*w) (by omega)]
  obtain⟨m,em⟩: ∃m:Nat,(1+(x1:Int))*size*w=m:=⟨((1+(x1:Int))*size*w).toNat,by omega⟩
  rw[em]
  have P0:=S.into [0] [] [iL]
  rw[show Sh.pick R [iL]=[row p (az L)] by simp only[Sh.pick,eL]] at P0
  refine(uu P0 0 rfl hL ha2 hl m (by omega) (-9) (by omega) 19 (by decide) (by decide)).mono ?_
  rintro _ g7 ⟨q1,l1,d1,a3,ww,rfl,hwl,hl1,hwf,ha3,S1⟩
  replace S:=S.back [0] S1
  refine⟨_,_,_,rfl,?_⟩
  dsimp only[bO,List.set] at S
  refine aJ S 2 rfl (k:=8) (Nat.le_of_ble_eq_true rfl) fun g8 _ S=> ?_
  refine af (n:=1+(x1:Int)) (S.cell 2 rfl rfl) ?_
  have P0:=S.into [0] [] [iL]
  rw[show Sh.pick R [iL]=[row p (az L)] by simp only[Sh.pick,eL]] at P0
  have e1x:1+(x1:Int)=((1+x1:Nat):Int):=by omega
  rw[e1x] at S P0 ⊢
  refine(uu P0 0 rfl hL ha3 hl (1+x1) (by omega) (-50) (by omega) 101 (by decide) (by decide)).mono ?_
  rintro _ g9 ⟨q2,l2,d2,a4,bb,rfl,hbl,hl2,hbf,ha4,S1⟩
  replace S:=S.back [0] S1
  refine⟨_,_,_,rfl,?_⟩
  dsimp only[bO,List.set] at S
  refine aJ S 2 rfl (k:=9) (Nat.le_of_ble_eq_true rfl) fun g10 _ S=> ?_
  have ok1:=kL (i:=4) S rfl
  have ok2:=kL (i:=5) S rfl
  replace S:=own_row (i:=4) S rfl
  replace S:=own_row (i:=5) S rfl
  refine jq (nv:=⟨1,inn,((1+x1:Nat):Int),size,step,gap,left,right,⟨q1,l1,d1,ww⟩,⟨q2,l2,d2,bb⟩,0,0,0,0,0⟩) S hx ha4 ⟨hiok,ok1,ok2⟩ ⟨by show inn.l≤_;omega,by show l1≤_;omega,by show l2≤_;omega⟩ ?_
  have:=GoodN.conv (ins:=ins) (ws:=ws) ((1+x1:Nat):Int) size step gap left right ww bb ⟨h1,h2,h3,h4,h5⟩ (by omega) (by rw[←hw,←e1x];omega) (by omega) hwf hbf
  rw[←hix] at this
  exact this
 ·
  subst k2
  obtain rfl:=hns (by omega)
  refine aQ S 2 rfl (x:=({Nv.zero with kind:=2,inn:=inn}:Nv).t) rfl ?_
  have P0:=S.into [0] [] [iL]
  rw[show Sh.pick R [iL]=[row p (az L)] by simp only[Sh.pick,eL]] at P0
  refine(qO P0 0 rfl hL ha hl (.inr (.inl rfl))).mono ?_
  rintro _ g3 ⟨a1,size,step,gap,left,right,rfl,hwin,ha1,S1⟩
  replace S:=S.back [0] S1
  dsimp only[bO,List.set] at S
  refine jQ (Nv.t _) ⟨rfl,?_⟩
  refine cG S 2 rfl rfl (bC rfl) fun g4 _ S=> ?_
  dsimp only[List.set] at S
  refine af (n:=size) (S.cell 2 rfl rfl) ?_
  obtain⟨h1,h2,h3,h4,h5⟩:=hwin
  have b1:=jW (a:=size) (b:=w) (x:=4) (y:=16) (by omega) (by omega)
  rw[al (n:=size*w) (by omega)]
  obtain⟨m,em⟩: ∃m:Nat,size*w=m:=⟨(size*w).toNat,by omega⟩
  rw[em]
  have P0:=S.into [0] [] [iL]
  rw[show Sh.pick R [iL]=[row p (az L)] by simp only[Sh.pick,eL]] at P0
  refine(uu P0 0 rfl hL ha1 hl m (by omega) (-9) (by omega) 19 (by decide) (by decide)).mono ?_
  rintro _ g7 ⟨q1,l1,d1,a3,ww,rfl,hwl,hl1,hwf,ha3,S1⟩
  replace S:=S.back [0] S1
  refine⟨_,_,_,rfl,?_⟩
  dsimp only[bO,List.set] at S
  refine aJ S 2 rfl (k:=8) (Nat.le_of_ble_eq_true rfl) fun g8 _ S=> ?_
  have P0:=S.into [0] [] [iL]
  rw[show Sh.pick R [iL]=[row p (az L)] by simp only[Sh.pick,eL]] at P0
  rw[ewn]
  refine(uu P0 0 rfl hL ha3 hl wn (by omega) (-50) (by omega) 101 (by decide) (by decide)).mono ?_
  rintro _ g9 ⟨q2,l2,d2,a4,bb,rfl,hbl,hl2,hbf,ha4,S1⟩
  replace S:=S.back [0] S1
  refine⟨_,_,_,rfl,?_⟩
  dsimp only[bO,List.set] at S
  refine aJ S 2 rfl (k:=9) (Nat.le_of_ble_eq_true rfl) fun g10 _ S=> ?_
  have ok1:=kL (i:=4) S rfl
  have ok2:=kL (i:=5) S rfl
  replace S:=own_row (i:=4) S rfl
  replace S:=own_row (i:=5) S rfl
  refine jq (nv:=⟨2,inn,0,size,step,gap,left,right,⟨q1,l1,d1,ww⟩,⟨q2,l2,d2,bb⟩,0,0,0,0,0⟩) S hx ha4 ⟨hiok,ok1,ok2⟩ ⟨by show inn.l≤_;omega,by show l1≤_;omega,by show l2≤_;omega⟩ ?_
  have:=GoodN.depth (ins:=ins) (ws:=ws) size step gap left right ww bb ⟨h1,h2,h3,h4,h5⟩ (by rw[←hw];omega) (by omega) hwf hbf
  rw[←hix] at this
  exact this
 ·
  subst k3
  refine(cF S 0 iL rfl eL hL ha hl 3 (by decide) (by decide)).mono ?_
  rintro _ g5 ⟨x1,a2,rfl,hx1,ha2,S⟩
  refine⟨_,rfl,?_⟩
  dsimp only[List.set] at S ⊢
  rw[al (n:=1+(x1:Int)) (by omega)]
  refine aJ S 2 rfl (k:=2) (Nat.le_of_ble_eq_true rfl) fun g6 _ S=> ?_
  refine af (n:=1+(x1:Int)) (S.cell 2 rfl rfl) ?_
  have b1:=jW (a:=1+(x1:Int)) (b:=w) (x:=3) (y:=16) (by omega) (by omega)
  rw[al (n:=(1+(x1:Int))*w) (by omega)]
  obtain⟨m,em⟩: ∃m:Nat,(1+(x1:Int))*w=m:=⟨((1+(x1:Int))*w).toNat,by omega⟩
  rw[em]
  have P0:=S.into [0] [] [iL]
  rw[show Sh.pick R [iL]=[row p (az L)] by simp only[Sh.pick,eL]] at P0
  refine(uu P0 0 rfl hL ha2 hl m (by omega) (-12) (by omega) 25 (by decide) (by decide)).mono ?_
  rintro _ g7 ⟨q1,l1,d1,a3,ww,rfl,hwl,hl1,hwf,ha3,S1⟩
  replace S:=S.back [0] S1
  refine⟨_,_,_,rfl,?_⟩
  dsimp only[bO,List.set] at S
  refine aJ S 2 rfl (k:=8) (Nat.le_of_ble_eq_true rfl) fun g8 _ S=> ?_
  refine af (n:=1+(x1:Int)) (S.cell 2 rfl rfl) ?_
  have P0:=S.into [0] [] [iL]
  rw[show Sh.pick R [iL]=[row p (az L)] by simp only[Sh.pick,eL]] at P0
  have e1x:1+(x1:Int)=((1+x1:Nat):Int):=by omega
  rw[e1x] at S P0 ⊢
  refine(uu P0 0 rfl hL ha3 hl (1+x1) (by omega) (-5000) (by omega) 10001 (by decide) (by decide)).mono ?_
  rintro _ g9 ⟨q2,l2,d2,a4,bb,rfl,hbl,hl2,hbf,ha4,S1⟩
  replace S:=S.back [0] S1
  refine⟨_,_,_,rfl,?_⟩
  dsimp only[bO,List.set] at S
  refine aJ S 2 rfl (k:=9) (Nat.le_of_ble_eq_true rfl) fun g10 _ S=> ?_
  have ok1:=kL (i:=4) S rfl
  have ok2:=kL (i:=5) S rfl
  replace S:=own_row (i:=4) S rfl
  replace S:=own_row (i:=5) S rfl
  refine jq (nv:=⟨6,inn,((1+x1:Nat):Int),0,0,0,0,0,⟨q1,l1,d1,ww⟩,⟨q2,l2,d2,bb⟩,0,0,0,0,0⟩) S hx ha4 ⟨hiok,ok1,ok2⟩ ⟨by show inn.l≤_;omega,by show l1≤_;omega,by show l2≤_;omega⟩ ?_
  have:=GoodN.dense (ins:=ins) (ws:=ws) still ((1+x1:Nat):Int) ww bb (by omega) (by rw[←hw,←e1x];omega) (by omega) hwf hbf
  rw[←hix] at this
  exact this
 ·
  subst k4
  obtain rfl:=hns (by omega)
  refine aQ S 2 rfl (x:=({Nv.zero with kind:=3,inn:=inn}:Nv).t) rfl ?_
  have P0:=S.into [0] [] [iL]
  rw[show Sh.pick R [iL]=[row p (az L)] by simp only[Sh.pick,eL]] at P0
  refine(qO P0 0 rfl hL ha hl (.inr (.inr (.inl rfl)))).mono ?_
  rintro _ g3 ⟨a1,size,step,gap,left,right,rfl,hwin,ha1,S1⟩
  replace S:=S.back [0] S1
  dsimp only[bO,List.set] at S
  refine jQ (Nv.t _) ⟨rfl,?_⟩
  refine cG S 2 rfl rfl (bC rfl) fun g4 _ S=> ?_
  dsimp only[List.set] at S
  replace S:=im (im S)
  refine jq (nv:=⟨3,inn,0,size,step,gap,left,right,Sl.nil,Sl.nil,0,0,0,0,0⟩) S hx ha1 ⟨hiok,Sl.nil_ok,Sl.nil_ok⟩ ⟨by show inn.l≤_;omega,by show 0≤_;omega,by show 0≤_;omega⟩ ?_
  have:=GoodN.pool (ins:=ins) (ws:=ws) 3 size step gap left right (.inl rfl) hwin
  rw[←hix] at this
  exact this
 ·
  subst k5
  obtain rfl:=hns (by omega)
  refine aQ S 2 rfl (x:=({Nv.zero with kind:=4,inn:=inn}:Nv).t) rfl ?_
  have P0:=S.into [0] [] [iL]
  rw[show Sh.pick R [iL]=[row p (az L)] by simp only[Sh.pick,eL]] at P0
  refine(qO P0 0 rfl hL ha hl (.inr (.inr (.inr rfl)))).mono ?_
  rintro _ g3 ⟨a1,size,step,gap,left,right,rfl,hwin,ha1,S1⟩
  replace S:=S.back [0] S1
  dsimp only[bO,List.set] at S
  refine jQ (Nv.t _) ⟨rfl,?_⟩
  refine cG S 2 rfl rfl (bC rfl) fun g4 _ S=> ?_
  dsimp only[List.set] at S
  replace S:=im (im S)
  refine jq (nv:=⟨4,inn,0,size,step,gap,left,right,Sl.nil,Sl.nil,0,0,0,0,0⟩) S hx ha1 ⟨hiok,Sl.nil_ok,Sl.nil_ok⟩ ⟨by show inn.l≤_;omega,by show 0≤_;omega,by show 0≤_;omega⟩ ?_
  have:=GoodN.pool (ins:=ins) (ws:=ws) 4 size step gap left right (.inr rfl) hwin
  rw[←hix] at this
  exact this
 ·
  subst k6
  obtain rfl:=hns (by omega)
  refine(cF S 0 iL rfl eL hL ha hl 5 (by decide) (by decide)).mono ?_
  rintro _ g5 ⟨x1,a2,rfl,hx1,ha2,S⟩
  refine⟨_,rfl,?_⟩
  dsimp only[List.set] at S ⊢
  rw[al (n:=1+(x1:Int)) (by omega)]
  refine aJ S 2 rfl (k:=3) (Nat.le_of_ble_eq_true rfl) fun g6 _ S=> ?_
  replace S:=im (im S)
  refine jq (nv:=⟨12,inn,0,1+(x1:Int),0,0,0,0,Sl.nil,Sl.nil,0,0,0,0,0⟩) S hx ha2 ⟨hiok,Sl.nil_ok,Sl.nil_ok⟩ ⟨by show inn.l≤_;omega,by show 0≤_;omega,by show 0≤_;omega⟩ ?_
  have:=GoodN.smooth (ins:=ins) (ws:=ws) (1+(x1:Int)) (by omega)
  rw[←hix] at this
  exact this
 ·
  subst k7
  refine(cF S 0 iL rfl eL hL ha hl 200 (by decide) (by decide)).mono ?_
  rintro _ g5 ⟨x1,a2,rfl,hx1,ha2,S⟩
  refine⟨_,rfl,?_⟩
  dsimp only[List.set] at S ⊢
  rw[al (n:=(x1:Int)-150) (by omega)]
  refine aJ S 2 rfl (k:=12) (Nat.le_of_ble_eq_true rfl) fun g6 _ S=> ?_
  refine af (n:=(x1:Int)-150) (S.cell 2 rfl rfl) ?_
  refine(cF S 0 iL rfl eL hL ha2 hl 300 (by decide) (by decide)).mono ?_
  rintro _ g7 ⟨x2,a3,rfl,hx2,ha3,S⟩
  refine⟨_,rfl,?_⟩
  dsimp only[List.set] at S ⊢
  refine bf (S.cell 2 rfl rfl) ?_
  rw[al (n:=(x1:Int)-150+(x2:Int)) (by omega)]
  refine aJ S 2 rfl (k:=13) (Nat.le_of_ble_eq_true rfl) fun g8 _ S=> ?_
  replace S:=im (im S)
  refine jq (nv:=⟨9,inn,0,0,0,0,0,0,Sl.nil,Sl.nil,0,0,(x1:Int)-150,(x1:Int)-150+(x2:Int),0⟩) S hx ha3 ⟨hiok,Sl.nil_ok,Sl.nil_ok⟩ ⟨by show inn.l≤_;omega,by show 0≤_;omega,by show 0≤_;omega⟩ ?_
  have:=GoodN.clamp (ins:=ins) (ws:=ws) still ((x1:Int)-150) ((x1:Int)-150+(x2:Int)) (by omega) (by omega)
  rw[←hix] at this
  exact this
 ·
  subst k8
  refine(cF S 0 iL rfl eL hL ha hl 32768 (by decide) (by decide)).mono ?_
  rintro _ g5 ⟨x1,a2,rfl,hx1,ha2,S⟩
  refine⟨_,rfl,?_⟩
  dsimp only[List.set] at S ⊢
  refine aJ S 2 rfl (k:=10) (Nat.le_of_ble_eq_true rfl) fun g6 _ S=> ?_
  refine(cF S 0 iL rfl eL hL ha2 hl 20 (by decide) (by decide)).mono ?_
  rintro _ g7 ⟨x2,a3,rfl,hx2,ha3,S⟩
  refine⟨_,rfl,?_⟩
  dsimp only[List.set] at S ⊢
  refine aJ S 2 rfl (k:=11) (Nat.le_of_ble_eq_true rfl) fun g8 _ S=> ?_
  replace S:=im (im S)
  refine jq (nv:=⟨10,inn,0,0,0,0,0,0,Sl.nil,Sl.nil,(x1:Int),(x2:Int),0,0,0⟩) S hx ha3 ⟨hiok,Sl.nil_ok,Sl.nil_ok⟩ ⟨by show inn.l≤_;omega,by show 0≤_;omega,by show 0≤_;omega⟩ ?_
  have:=GoodN.scale (ins:=ins) (ws:=ws) still (x1:Int) (x2:Int) (by omega) (by omega)
  rw[←hix] at this
  exact this
 ·
  replace S:=im (im S)
  refine jq (nv:=⟨K,inn,0,0,0,0,0,0,Sl.nil,Sl.nil,0,0,0,0,0⟩) S hx ha ⟨hiok,Sl.nil_ok,Sl.nil_ok⟩ ⟨by show inn.l≤_;omega,by show 0≤_;omega,by show 0≤_;omega⟩ ?_
  rcases(show K=5∨K=11 by omega) with rfl|rfl
  ·obtain rfl:=hns (by omega)
   have:=GoodN.whole (ins:=ins) (ws:=ws)
   rw[←hix] at this
   exact this
  ·have:=GoodN.best (ins:=ins) (ws:=ws) still
   rw[←hix] at this
   exact this
end
end Go.Proofs.YtdhpmegbmjoekaaGreatDoor.G
end
section
namespace Go.Proofs.YtdhpmegbmjoekaaGreatDoor.G
open Go Go.Sh
set_option linter.unusedVariables false
set_option linter.unusedSimpArgs false
section
variable {h0 h:ae} {T:Nat→Prop} {W R:List bi} {r l c a:Nat} {p:Option Addr} {L ins ws:List Int} {still:Bool}
theorem Ju {g:ae} {K0:Int} {inn:Sl} {t8 n9:Nat} {w:Int} {xs:List Value} (hix:inn.xs=ins.take 1) (hiok:inn.ok)
 (S:aK h T g [rP r p l c a,blk t8 xs,blk n9 ({Nv.zero with kind:=K0,inn:=inn}:Nv).cells,inn.row] R) (hx:xs.length=15) (iL:Nat) (eL:R[iL]? =some (row p (az L))) (hL:L.length=l) (ha:a≤l) (hl:l<2 ^ 62)
 (hw:w=ws.getD 0 0) (hw2:1≤w∧w≤16):
 mX (H5 T h R r p l c ins ws still) (some ⟨r,0,none⟩) still ⟨t8,0,none⟩ ⟨n9,0,none⟩ w g:=by
 unfold mX
 refine aC (cs:=[.int .i64 0,.int .i64 0,.int .i64 0,.int .i64 0,.int .i64 0,.int .i64 0,.int .i64 0,.int .i64 0,.int .i64 0,.int .i64 0,.int .i64 0,.int .i64 0]) S fun bk h1 _ S=> ?_
 refine cG S 4 rfl rfl (gO (l:=wq)) fun h2 _ S=> ?_
 have S2:aK h T h2 [rP r p l c a,blk t8 xs,blk n9 ({Nv.zero with kind:=K0,inn:=inn}:Nv).cells,inn.row,blk bk (az wq)] R:=S
 clear S
 refine(cF S2 0 iL rfl eL hL ha hl 12 (by decide) (by decide)).mono ?_
 rintro _ g5 ⟨x1,a2,rfl,hx1,ha2,S⟩
 refine⟨_,rfl,?_⟩
 dsimp only[List.set] at S ⊢
 refine⟨fun s g=> ∃k a':Nat,s=(some ⟨r,0,none⟩,⟨t8,0,none⟩,⟨n9,0,none⟩,w,⟨bk,0,none⟩,(k:Int),())∧k<12∧(still=true→7≤k)∧a'≤l∧aK h T g [rP r p l c a',blk t8 xs,blk n9 ({Nv.zero with kind:=K0,inn:=inn}:Nv).cells,inn.row,blk bk (az wq)] R,?_,?_⟩
 ·rintro s g ⟨k,a',rfl,hk,hks,ha',S⟩
  exact Jt rfl hix hiok S hx iL eL hL ha' hl hk hks hw hw2
 ·refine tz (fun hst=> ?_) (fun hst=>⟨x1,a2,rfl,hx1,by simp[hst],ha2,S⟩)
  refine(cF S 0 iL rfl eL hL ha2 hl 5 (by decide) (by decide)).mono ?_
  rintro _ g6 ⟨x2,a3,rfl,hx2,ha3,S⟩
  refine⟨_,rfl,?_⟩
  dsimp only[List.set] at S ⊢
  rw[al (by omega)]
  exact⟨7+x2,a3,rfl,by omega,fun _=>by omega,ha3,S⟩
set_option maxHeartbeats 1000000 in
theorem Ny {ip wp:Option Addr} {il ic wl wc:Nat} (S:aK h T h [rP r p l c a,own 1 ip il ic (az ins)] R) (iL iw:Nat) (eL:R[iL]? =some (row p (az L))) (hL:L.length=l) (ha:a≤l) (hl:l<2 ^ 62)
 (ew:R[iw]? =some (row wp (az ws))) (hwl:ws.length=wl) (hil:il=wl) (h12:wl=1∨wl=2) (hfit:bo 1 16 ws):
 aq P mc #[.pointer (some ⟨r,0,none⟩),.slice ip il ic,.slice wp wl wc,.bool still] h (H5 T h R r p l c ins ws still):=by
 refine As _ _ _ _ _ _ _ _ ?_
 unfold BQ
 have hin:=kL (i:=1) S rfl
 have hil2:ins.length=il:=hin.1
 have hilc:il≤ic:=hin.2
 refine aC S fun b1 h1 _ S=> ?_
 refine aC S fun b3 h2 _ S=> ?_
 dsimp only[List.cons_append,List.nil_append] at S
 refine cG S 3 rfl rfl (bC (l:=da) (x:=({Nv.zero with inn:=⟨ip,il,ic,ins⟩}:Nv).t) rfl) fun h3 _ S=> ?_
 have S2:aK h T h3 [rP r p l c a,own 1 ip il ic (az ins),blk b1 (aP da (zT da)),blk b3 ({Nv.zero with inn:=⟨ip,il,ic,ins⟩}:Nv).cells] R:=S
 clear S
 have S:=S2
 clear S2
 have hwr:=S.row iw ew
 obtain⟨aw,rfl⟩:=hwr.some_of (by rw[aB];omega)
 have hw0:=hfit ws[0] (List.getElem_mem (by omega))
 have e0:ws.getD 0 0=ws[0]:=dK (by omega)
 refine aG rfl (k:=0) rfl (by omega) ?_
 refine af (n:=ws.getD 0 0) (hwr.cell (i:=0) (aN (by rw[List.getElem?_eq_getElem (by omega),e0]))) ?_
 rw[←e0] at hw0
 generalize hwg:ws.getD 0 0=w at hw0 ⊢
 refine⟨fun s g=>s=(some ⟨r,0,none⟩,still,⟨b1,0,none⟩,⟨b3,0,none⟩,w,())∧ ∃(K0:Int) (inn:Sl) (a':Nat),inn.xs=ins.take 1∧inn.ok∧a'≤l∧aK h T g [rP r p l c a',blk b1 (aP da (zT da)),blk b3 ({Nv.zero with kind:=K0,inn:=inn}:Nv).cells,inn.row] R,?_,?_⟩
 ·rintro s g ⟨rfl,K0,inn,a',hix,hiok,ha',S⟩
  exact Ju hix hiok S rfl iL eL hL ha' hl hwg.symm hw0
 ·refine au (fun h1=> ?_) (fun h1=> ?_)
  ·refine aJ S 3 rfl (k:=0) (Nat.le_of_ble_eq_true rfl) fun h4 _ S=> ?_
   have hrow:=own_row (i:=1) S rfl
   have S2:aK h T h4 [rP r p l c a,(Sl.mk ip il ic ins).row,blk b1 (aP da (zT da)),blk b3 ({Nv.zero with kind:=8,inn:=⟨ip,il,ic,ins⟩}:Nv).cells] R:=hrow
   clear S hrow
   have S:=S2.pw [0,2,3,1]
   clear S2
   dsimp only[Sh.pick,List.getElem?_cons_zero,List.getElem?_cons_succ] at S
   refine aT (fun m s g=> ∃(i:Nat) (same:Bool),s=(some ⟨r,0,none⟩,(ip,il,ic),(some aw,wl,wc),still,⟨b1,0,none⟩,⟨b3,0,none⟩,w,gN (ws.take i),same,(i:Int),())∧i≤wl∧m=wl-i∧(same=true↔ ∀x∈ws.take i,x=w)∧
    aK h T g [rP r p l c a,blk b1 (aP da (zT da)),blk b3 ({Nv.zero with kind:=8,inn:=⟨ip,il,ic,ins⟩}:Nv).cells,(Sl.mk ip il ic ins).row] R) wl ⟨0,true,rfl,by omega,rfl,by simp,S⟩ ?_
   rintro m s g ⟨i,same,rfl,hi',rfl,hsame,S⟩
   unfold u7
   dsimp only
   refine au (fun hlt=> ?_) (fun hge=> ?_)
   ·have hix:i<ws.length:=by omega
    have hc:=(S.row iw ew).cell (aN (List.getElem?_eq_getElem hix))
    have hsr:=jz (oZ i hfit)
    rw[List.length_take] at hsr
    have hxi:=hfit ws[i] (List.getElem_mem hix)
    have etk:=List.take_succ_eq_append_getElem hix
    refine aG rfl rfl (by omega) ?_
    simp only[Int.toNat_natCast,Nat.mul_one]
    refine af hc ?_
    rw[al (n:=gN (ws.take i)+ws[i]) (by omega),al (n:=(i:Int)+1) (by omega),←oY hix]
    refine tz (fun e=>aG rfl rfl (by omega) (af hc ⟨wl-(i+1),by omega,i+1,_,rfl,by omega,rfl,?_,S⟩)) (fun e=>⟨wl-(i+1),by omega,i+1,false,rfl,by omega,rfl,?_,S⟩)
    ·rw[beq_iff_eq,etk]
     constructor
     ·intro h9 x hx
      rcases List.mem_append.1 hx with hx|hx
      ·exact hsame.1 e x hx
      ·simp only[List.mem_singleton] at hx;subst hx;exact h9
     ·intro h9;exact h9 _ (List.mem_append_right _ (by simp))
    ·constructor
     ·intro h9;cases h9
     ·intro h9
      rw[hsame.2 (fun x hx=>h9 x (by rw[etk];exact List.mem_append_left _ hx))] at e
      cases e
   ·have hie:i=wl:=by omega
    subst hie
    rw[List.take_of_length_le (by omega)] at hsame ⊢
    have i2:2≤ins.length:=by omega
    have fin: ∀(K:Int) (g:ae) (a':Nat),a'≤l→GoodN ins ws still (⟨K,ins,0,0,0,0,0,0,[],[],0,0,0,0,0⟩:Nd)→aK h T g [rP r p l c a',blk b1 (aP da (zT da)),blk b3 ({Nv.zero with kind:=K,inn:=⟨ip,il,ic,ins⟩}:Nv).cells,(Sl.mk ip il ic ins).row] R→
     aX da g ⟨b3,0,none⟩ fun x=>bt (aP da x) g ⟨b1,0,none⟩ 0 fun g2=>aX da g2 ⟨b1,0,none⟩ fun y=>H5 T h R r p l c ins ws still (bz da y) g2:=by
     intro K g a' ha' hgood S
     replace S:=im (im S)
     exact jq (nv:=⟨K,⟨ip,il,ic,ins⟩,0,0,0,0,0,0,Sl.nil,Sl.nil,0,0,0,0,0⟩) S rfl ha' ⟨hin,Sl.nil_ok,Sl.nil_ok⟩ ⟨by show il≤_;omega,by show 0≤_;omega,by show 0≤_;omega⟩ hgood
    have cut: ∀(g:ae) (a':Nat),a'≤l→aK h T g [rP r p l c a',blk b1 (aP da (zT da)),blk b3 ({Nv.zero with kind:=8,inn:=⟨ip,il,ic,ins⟩}:Nv).cells,(Sl.mk ip il ic ins).row] R→
     qy 1 ic fun l134=>bu g (Addr.add ⟨b3,0,none⟩ 1) (.slice (if ic=0 then ip else Option.map (fun a=>a.add (0*1)) ip) (l134-0) (ic-0)) fun h135=>
      (some (⟨r,0,none⟩:Addr),still,(⟨b1,0,none⟩:Addr),(⟨b3,0,none⟩:Addr),w,())=(some ⟨r,0,none⟩,still,⟨b1,0,none⟩,⟨b3,0,none⟩,w,())∧ ∃(K0:Int) (inn:Sl) (a':Nat),inn.xs=ins.take 1∧inn.ok∧a'≤l∧aK h T h135 [rP r p l c a',blk b1 (aP da (zT da)),blk b3 ({Nv.zero with kind:=K0,inn:=inn}:Nv).cells,inn.row] R:=by
     intro g a' ha' S
     refine ja (n:=1) rfl (by omega) ?_
     rw[Rx]
     refine aJ S 2 rfl (k:=1) (Nat.le_of_ble_eq_true rfl) fun h135 _ S=> ?_
     refine⟨rfl,8,⟨ip,1,ic,ins.take 1⟩,a',rfl,⟨by simp;omega,by show 1≤ic;omega⟩,ha',?_⟩
     exact S.turn 3 rfl (Sl.mk ip 1 ic (ins.take 1)).row (fun hh=>by
      have:=bT.take hh 1
      rw[ud] at this
      exact this) (fun b hb=>⟨fun hh=>hb.1 (by
       have:ins=[]:=by simpa[az] using hh
       rw[this];rfl),hb.2⟩)
    refine tz (fun e=> ?_) (fun e=> ?_)
    ·have hall:=hsame.1 e
     rw[←hwg] at hall
     refine au (fun h5=> ?_) (fun h5=> ?_)
     ·refine aJ S 2 rfl (k:=0) (Nat.le_of_ble_eq_true rfl) fun h5 _ S=> ?_
      exact fin 7 h5 a ha (.add _ i2 hall) S
     ·refine(cF S 0 iL rfl eL hL ha hl 2 (by decide) (by decide)).mono ?_
      rintro _ g6 ⟨x2,a3,rfl,hx2,ha3,S⟩
      refine⟨_,rfl,?_⟩
      dsimp only[List.set] at S ⊢
      refine aO (fun h6=> ?_) (fun h6=>au (fun h7=>fin 8 _ a3 ha3 (.join _ i2 h7) S) (fun h7=>cut _ a3 ha3 S))
      refine aJ S 2 rfl (k:=0) (Nat.le_of_ble_eq_true rfl) fun h5 _ S=> ?_
      exact fin 7 h5 a3 ha3 (.add _ i2 hall) S
    ·exact au (fun h7=>fin 8 _ a ha (.join _ i2 h7) S) (fun h7=>cut _ a ha S)
  ·have hrow:=own_row (i:=1) S rfl
   have S2:aK h T h3 [rP r p l c a,(Sl.mk ip il ic ins).row,blk b1 (aP da (zT da)),blk b3 ({Nv.zero with inn:=⟨ip,il,ic,ins⟩}:Nv).cells] R:=hrow
   refine⟨rfl,0,⟨ip,il,ic,ins⟩,a,?_,hin,ha,S2.pw [0,2,3,1]⟩
   rw[List.take_of_length_le (by omega)]
end
end Go.Proofs.YtdhpmegbmjoekaaGreatDoor.G
end
section
namespace Go.Proofs.YtdhpmegbmjoekaaGreatDoor.G
open Go Go.Sh
set_option linter.unusedVariables false
set_option linter.unusedSimpArgs false
def gF (n:Nat) (x:Int):Int:=if x>0 then(n:Int)+1-x else x
def Kz (n:Nat) (nd:Nd):Nd:={nd with inn:=nd.inn.map (gF n)}
def Gr.turned (g:Gr):Gr:=⟨g.width,g.low,g.high,(g.nodes.map (Kz g.nodes.length)).reverse,(g.nodes.length:Int)+1-g.out⟩
theorem mJ {l:List bi} {h:ae} (H:(cA l).P h) {f:bi} (hf:f∈l):f.P h:=H f hf
theorem Nz {ns:List Nv} {h:ae} (hi: ∀n∈ns,n.inn.row.P h) (hw: ∀n∈ns,n.weights.row.P h∧n.bias.row.P h):(aZ ns).P h:=by
 intro f hf
 obtain⟨n,hn,rfl⟩:=List.mem_map.1 hf
 intro g hg
 simp only[List.mem_cons,List.not_mem_nil,or_false] at hg
 rcases hg with rfl|rfl|rfl
 ·exact hi n hn
 ·exact(hw n hn).1
 ·exact(hw n hn).2
section
variable {h:ae} {T:Nat→Prop} {R:List bi}
set_option maxHeartbeats 1000000 in
theorem NA {g:Gv} (S:aK h T h [own 15 g.p g.l g.c (aF g.ns),aZ g.ns] R) (hok: ∀n∈g.ns,n.ok) (hl:g.l≤100) (hgl:g.ns.length=g.l) (hs: ∀n∈g.ns,n.inn.l≤2 ^ 20∧n.weights.l≤2 ^ 20∧n.bias.l≤2 ^ 20)
 (hin: ∀n∈g.ns,∀x∈n.inn.xs,0≤x∧x≤2 ^ 20) (hout:0≤g.out∧g.out≤2 ^ 20):
 aq P go #[g.v] h fun v h'=> ∃g':Gv,v=g'.v∧g'.ok∧g'.gr=g.gr.turned∧(∀n∈g'.ns,n.inn.l≤2 ^ 20∧n.weights.l≤2 ^ 20∧n.bias.l≤2 ^ 20)∧aK h T h' [own 15 g'.p g'.l g'.c (aF g'.ns),aZ g'.ns] R:=by
 refine w6 _ ?_
 unfold w5
 refine aC (cs:=g.cells) S fun b1 h1 _ S=> ?_
 refine aC S fun b3 h2 _ S=> ?_
 dsimp only[List.cons_append,List.nil_append] at S
 (repeat (first|((with_reducible refine aU ?_);refine af (S.cell 2 rfl rfl) ?_)|((with_reducible refine bZ ?_);refine am (S.cell 2 rfl rfl) ?_)))
 try dsimp only[Gv.t]
 refine aC S fun b10 h3 _ S=> ?_
 dsimp only[List.cons_append,List.nil_append] at S
 rw[al (n:=((g.l:Nat):Int)+1) (by omega),al (n:=((g.l:Nat):Int)+1-g.out) (by omega)]
 refine cG S 4 rfl rfl (bC (l:=bP) (x:=(⟨g.width,g.low,g.high,none,0,0,((g.l:Nat):Int)+1-g.out,[]⟩:Gv).t) rfl) fun h8 _ S=> ?_
 have S2:aK h T h8 [own 15 g.p g.l g.c (aF g.ns),aZ g.ns,blk b1 g.cells,blk b3 (aP bP (zT bP)),blk b10 (⟨g.width,g.low,g.high,none,0,0,((g.l:Nat):Int)+1-g.out,[]⟩:Gv).cells] R:=S
 clear S
 have S:=(S2.nil 15).reads0
 clear S2
 dsimp only[List.cons_append,List.nil_append] at S
 refine aT (fun m s g2=> ∃(i:Nat) (q:Option Addr) (k d:Nat) (news:List Nv),s=(⟨b1,0,none⟩,⟨b3,0,none⟩,(g.l:Int),⟨b10,0,none⟩,(i:Int),())∧i≤g.l∧i=m∧news.length=g.l-i∧k=g.l-i∧
  news.map Nv.nd=((g.ns.drop i).map fun n=>Kz g.l n.nd).reverse∧(∀n∈news,n.ok∧n.inn.l≤2 ^ 20∧n.weights.l≤2 ^ 20∧n.bias.l≤2 ^ 20∧ ∃o∈g.ns,n.weights=o.weights∧n.bias=o.bias)∧
  aK h T g2 [own 15 g.p g.l g.c (aF g.ns),aZ g.ns,blk b1 g.cells,blk b3 (aP bP (zT bP)),blk b10 (⟨g.width,g.low,g.high,q,k,d,((g.l:Nat):Int)+1-g.out,[]⟩:Gv).cells,own 15 q k d (aF news),cA (news.map fun n=>n.inn.row)] R) g.l
  ⟨g.l,none,0,0,[],rfl,by omega,rfl,by simp,by omega,by rw[List.drop_of_length_le (by omega)];rfl,(by intro n hn;cases hn),S⟩ ?_
 clear S
 rintro m s g2 ⟨i,q,k,d,news,rfl,hi,rfl,hnl,hk,hmap,hall,S⟩
 unfold rz
 dsimp only
 refine au (fun hge=> ?_) (fun hlt=> ?_)
 ·obtain⟨j,rfl⟩: ∃j,i=j+1:=⟨i-1,by omega⟩
  have hj:j<g.ns.length:=by omega
  have ej:IntKind.wrap .i64 (((j+1:Nat):Int)-1)=(j:Int):=by rw[al (by omega)];omega
  rw[ej]
  (repeat (first|((with_reducible refine bZ ?_);refine am (S.cell 2 rfl rfl) ?_)))
  try dsimp only[Gv.t]
  have hrow:=(S.own 0 rfl).row
  obtain⟨aa,ea⟩:=hrow.some_of (by rw[bY];omega)
  rw[ea] at hrow
  refine aG ea rfl (by omega) ?_
  simp only[Int.toNat_natCast]
  refine kD hrow (List.getElem?_eq_getElem hj) ?_
  have hmem:g.ns[j]∈g.ns:=List.getElem_mem hj
  have edrop:g.ns.drop j=g.ns[j]::g.ns.drop (j+1):=List.drop_eq_getElem_cons hj
  generalize g.ns[j]=nv at hmem edrop
  obtain⟨nok1,nok2,nok3⟩:=hok nv hmem
  obtain⟨ns1,ns2,ns3⟩:=hs nv hmem
  refine aC S fun b21 h1 _ S=> ?_
  refine cG S 7 rfl rfl (bC rfl) fun h2 _ S=> ?_
  refine aC (cs:=[]) S fun b24 h3 _ S=> ?_
  dsimp only[List.set,List.cons_append,List.nil_append] at S
  refine am (p:=nv.inn.p) (l:=nv.inn.l) (c:=nv.inn.c) (S.cell 7 rfl rfl) ?_
  replace S:=S.toOwn 8 1 0 0 rfl (Nat.le_refl _)
  dsimp only[List.set] at S
  have hir:bT h3 nv.inn.p (az nv.inn.xs):=(S.w 1 _ rfl) nv.rows (List.mem_map.2 ⟨nv,hmem,rfl⟩) nv.inn.row (by simp)
  refine dI S 8 (ys:=az nv.inn.xs) rfl rfl (by decide) (by omega) hir (by rw[aB,Nat.mul_one];exact nok1.1) gO fun p' l' c' h' hl' S=> ?_
  dsimp only[List.set,List.take,List.nil_append,Nat.zero_mul] at S
  have hl'':l'=nv.inn.xs.length:=by rw[nok1.1];omega
  refine aT (fun m s g3=> ∃(x:Nat),s=(⟨b1,0,none⟩,⟨b3,0,none⟩,(g.l:Int),⟨b10,0,none⟩,((j+1:Nat):Int),⟨b21,0,none⟩,(p',l',c'),(x:Int),())∧x≤l'∧m=l'-x∧
   aK h T g3 [own 15 g.p g.l g.c (aF g.ns),aZ g.ns,blk b1 g.cells,blk b3 (aP bP (zT bP)),blk b10 (⟨g.width,g.low,g.high,q,k,d,((g.l:Nat):Int)+1-g.out,[]⟩:Gv).cells,own 15 q k d (aF news),cA (news.map fun n=>n.inn.row),
    blk b21 nv.cells,own 1 p' l' c' (az ((nv.inn.xs.take x).map (gF g.l)++nv.inn.xs.drop x))] R) l' ⟨0,rfl,by omega,rfl,S⟩ ?_
  clear S hir
  rintro m s g3 ⟨x,rfl,hx,rfl,S⟩
  unfold rv
  dsimp only
  refine au (fun hlt=> ?_) (fun hge2=> ?_)
  ·have hxl:x<nv.inn.xs.length:=by omega
   have hlen:((nv.inn.xs.take x).map (gF g.l)++nv.inn.xs.drop x).length=l':=by simp;omega
   have hgx:((nv.inn.xs.take x).map (gF g.l)++nv.inn.xs.drop x)[x]? =some nv.inn.xs[x]:=by
    rw[List.getElem?_append_right (by simp;omega)]
    simp only[List.length_map,List.length_take,Nat.min_eq_left (Nat.le_of_lt hxl),Nat.sub_self,List.getElem?_drop,Nat.add_zero]
    exact List.getElem?_eq_getElem hxl
   obtain⟨ap,rfl⟩:=(S.own 8 rfl).row.some_of (by rw[aB];omega)
   have hxr:=hin nv hmem _ (List.getElem_mem hxl)
   have hcell:=(S.own 8 rfl).row.cell (aN hgx)
   have next: ∀g4 ys,ys=(nv.inn.xs.take (x+1)).map (gF g.l)++nv.inn.xs.drop (x+1)→aK h T g4 [own 15 g.p g.l g.c (aF g.ns),aZ g.ns,blk b1 g.cells,blk b3 (aP bP (zT bP)),blk b10 (⟨g.width,g.low,g.high,q,k,d,((g.l:Nat):Int)+1-g.out,[]⟩:Gv).cells,own 15 q k d (aF news),cA (news.map fun n=>n.inn.row),blk b21 nv.cells,own 1 (some ap) l' c' (az ys)] R→
    ∃m,m<l'-x∧ ∃x':Nat,(((⟨b1,0,none⟩:Addr),(⟨b3,0,none⟩:Addr),(g.l:Int),(⟨b10,0,none⟩:Addr),((j+1:Nat):Int),(⟨b21,0,none⟩:Addr),(some ap,l',c'),(x:Int)+1,()):Addr×Addr×Int×Addr×Int×Addr×(Option Addr×Nat×Nat)×Int×Unit)=(⟨b1,0,none⟩,⟨b3,0,none⟩,(g.l:Int),⟨b10,0,none⟩,((j+1:Nat):Int),⟨b21,0,none⟩,(some ap,l',c'),(x':Int),())∧x'≤l'∧m=l'-x'∧
     aK h T g4 [own 15 g.p g.l g.c (aF g.ns),aZ g.ns,blk b1 g.cells,blk b3 (aP bP (zT bP)),blk b10 (⟨g.width,g.low,g.high,q,k,d,((g.l:Nat):Int)+1-g.out,[]⟩:Gv).cells,own 15 q k d (aF news),cA (news.map fun n=>n.inn.row),blk b21 nv.cells,own 1 (some ap) l' c' (az ((nv.inn.xs.take x').map (gF g.l)++nv.inn.xs.drop x'))] R:=
    fun g4 ys hy S=>⟨l'-(x+1),by omega,x+1,rfl,by omega,rfl,by rw[←hy];exact S⟩
   have estep: ∀v,v=gF g.l nv.inn.xs[x]→((nv.inn.xs.take x).map (gF g.l)++nv.inn.xs.drop x).set x v=(nv.inn.xs.take (x+1)).map (gF g.l)++nv.inn.xs.drop (x+1):=by
    rintro v rfl
    rw[List.set_append_right _ _ (by simp;omega)]
    simp only[List.length_map,List.length_take,Nat.min_eq_left (Nat.le_of_lt hxl),Nat.sub_self]
    rw[List.drop_eq_getElem_cons hxl,List.set_cons_zero,List.take_succ_eq_append_getElem hxl,List.map_append,List.append_assoc];rfl
   refine aG rfl rfl (by omega) ?_
   simp only[Int.toNat_natCast,Nat.mul_one]
   refine af hcell ?_
   rw[al (n:=(x:Int)+1) (by omega)]
   refine au (fun hpos=> ?_) (fun hneg=>next _ _ ?_ S)
   ·refine aG rfl rfl (by omega) ?_
    refine af hcell (aG rfl rfl (by omega) ?_)
    rw[al (n:=((g.l:Nat):Int)+1) (by omega),al (n:=((g.l:Nat):Int)+1-nv.inn.xs[x]) (by omega)]
    refine C9 S 8 rfl (by rw[aB];omega) fun h2 _ S=> ?_
    dsimp only[List.set] at S
    have e: ∀zs:List Int,(az zs).set x (.int .i64 (((g.l:Nat):Int)+1-nv.inn.xs[x]))=az (zs.set x (((g.l:Nat):Int)+1-nv.inn.xs[x])):=fun zs=>by simp[az,List.map_set]
    rw[e] at S
    exact next _ _ (estep _ (by unfold gF;rw[if_pos hpos])) S
   ·rw[←estep nv.inn.xs[x] (by unfold gF;rw[if_neg hneg])]
    apply List.ext_getElem?
    intro y
    by_cases hy:y=x
    ·subst hy;rw[List.getElem?_set_self (by omega),hgx]
    ·rw[List.getElem?_set_ne (Ne.symm hy)]
  ·have hxe:x=l':=by omega
   rw[hxe,List.take_of_length_le (by omega),List.drop_of_length_le (by omega),List.append_nil] at S
   refine aJ S 7 rfl (k:=1) (Nat.le_of_ble_eq_true rfl) fun h2 _ S=> ?_
   have hsl:=kL (i:=8) S rfl
   replace S:=own_row (i:=8) S rfl
   generalize hinn:(Sl.mk p' l' c' (nv.inn.xs.map (gF g.l)))=inn at S hsl
   have S2:aK h T h2 [own 15 g.p g.l g.c (aF g.ns),aZ g.ns,blk b1 g.cells,blk b3 (aP bP (zT bP)),blk b10 (⟨g.width,g.low,g.high,q,k,d,((g.l:Nat):Int)+1-g.out,[]⟩:Gv).cells,own 15 q k d (aF news),cA (news.map fun n=>n.inn.row),
    blk b21 ({nv with inn:=inn}:Nv).cells,inn.row] R:=by rw[←hinn];rw[←hinn] at S;exact S
   clear S
   have S:=S2
   clear S2
   refine am (p:=q) (l:=k) (c:=d) (S.cell 4 rfl rfl) ?_
   refine aQ S 7 rfl (x:=({nv with inn:=inn}:Nv).t) rfl ?_
   refine aC S fun b39 h3 _ S=> ?_
   dsimp only[List.cons_append,List.nil_append] at S
   refine dI S 5 (ys:=({nv with inn:=inn}:Nv).cells) rfl rfl (by decide) (by omega) (bT.of_at (S.at 9 rfl)) rfl (bC rfl) fun p2 l2 c2 h4 hl2 S=> ?_
   dsimp only[List.set] at S
   refine aJ S 4 rfl (k:=3) (Nat.le_of_ble_eq_true rfl) fun h5 _ S=> ?_
   rw[al (by omega)]
   have eji:((j+1:Nat):Int)-1=(j:Int):=by omega
   rw[eji]
   have S3:=S.joinR [0,1,2,3,4,5] 6 8 rfl rfl
   refine⟨j,by omega,j,p2,l2,c2,news++[{nv with inn:=inn}],rfl,by omega,rfl,by simp;omega,by omega,?_,?_,?_⟩
   ·rw[edrop,List.map_append,hmap]
    simp only[List.map_cons,List.map_nil,List.reverse_cons]
    congr 2
    rw[←hinn];rfl
   ·intro n hn
    rcases List.mem_append.1 hn with hn|hn
    ·exact hall n hn
    ·simp only[List.mem_singleton] at hn;subst hn
     exact⟨⟨hsl,nok2,nok3⟩,by rw[←hinn];show l'≤_;omega,ns2,ns3,nv,hmem,rfl,rfl⟩
   ·rw[jX,List.map_append]
    have en:aF [({nv with inn:=inn}:Nv)]=({nv with inn:=inn}:Nv).cells:=by simp[aF]
    rw[en]
    exact S3
 ·have hi0:i=0:=by omega
  subst hi0
  have c0:aD g2 ⟨b10,0,none⟩=some (.int .i64 g.width):=S.cell 4 rfl rfl
  have c1:aD g2 (Addr.add ⟨b10,0,none⟩ 1)=some (.int .i64 g.low):=S.cell 4 rfl rfl
  have c2:aD g2 (Addr.add ⟨b10,0,none⟩ 2)=some (.int .i64 g.high):=S.cell 4 rfl rfl
  have S4:=S.join [5] [1,6]
  dsimp only[Sh.pick,List.getElem?_cons_zero,List.getElem?_cons_succ,List.cons_append,List.nil_append] at S4
  have hnl0:news.length=g.l:=by omega
  have hk0:k=g.l:=by omega
  have done: ∀g3,aK h T g3 [own 15 q k d (aF news),cA [aZ g.ns,cA (news.map fun n=>n.inn.row)]] R→ ∃g':Gv,(⟨g.width,g.low,g.high,q,k,d,((g.l:Nat):Int)+1-g.out,news⟩:Gv).v=g'.v∧g'.ok∧g'.gr=g.gr.turned∧(∀n∈g'.ns,n.inn.l≤2 ^ 20∧n.weights.l≤2 ^ 20∧n.bias.l≤2 ^ 20)∧aK h T g3 [own 15 g'.p g'.l g'.c (aF g'.ns),aZ g'.ns] R:=by
   intro g3 S
   refine⟨⟨g.width,g.low,g.high,q,k,d,((g.l:Nat):Int)+1-g.out,news⟩,rfl,⟨by show news.length=k;omega,(S.own 0 rfl).2.1,fun n hn=>(hall n hn).1⟩,?_,fun n hn=>⟨(hall n hn).2.1,(hall n hn).2.2.1,(hall n hn).2.2.2.1⟩,?_⟩
   ·have hgn:g.gr.nodes.length=g.l:=by simp[Gv.gr];omega
    show(⟨g.width,g.low,g.high,news.map Nv.nd,((g.l:Nat):Int)+1-g.out⟩:Gr)=_
    rw[hmap,List.drop_zero]
    unfold Gr.turned
    rw[hgn]
    simp only[Gv.gr,List.map_map]
    rfl
   ·refine S.turn 1 rfl (aZ news) (fun H=>Nz (fun n hn=>mJ (mJ H (f:=cA (news.map fun n=>n.inn.row)) (by simp)) (List.mem_map.2 ⟨n,hn,rfl⟩)) (fun n hn=> ?_)) (fun b ⟨f,hf,hb⟩=> ?_)
    ·obtain⟨_,_,_,_,o,ho,e1,e2⟩:=hall n hn
     have:=mJ (mJ H (f:=aZ g.ns) (by simp)) (f:=o.rows) (List.mem_map.2 ⟨o,ho,rfl⟩)
     rw[e1,e2]
     exact⟨mJ this (by simp),mJ this (by simp)⟩
    ·obtain⟨n,hn,rfl⟩:=List.mem_map.1 hf
     obtain⟨_,_,_,_,o,ho,e1,e2⟩:=hall n hn
     obtain⟨f2,hf2,hb⟩:=hb
     simp only[List.mem_cons,List.not_mem_nil,or_false] at hf2
     rcases hf2 with rfl|rfl|rfl
     ·exact⟨_,List.mem_cons_of_mem _ (List.mem_singleton.2 rfl),_,List.mem_map.2 ⟨n,hn,rfl⟩,hb⟩
     ·rw[e1] at hb;exact⟨_,List.mem_cons_self,o.rows,List.mem_map.2 ⟨o,ho,rfl⟩,_,by simp,hb⟩
     ·rw[e2] at hb;exact⟨_,List.mem_cons_self,o.rows,List.mem_map.2 ⟨o,ho,rfl⟩,_,by simp,hb⟩
  refine aQ S 4 rfl (x:=(⟨g.width,g.low,g.high,q,k,d,((g.l:Nat):Int)+1-g.out,[]⟩:Gv).t) rfl ?_
  refine cG S 3 rfl rfl (bC rfl) fun g3 _ S=> ?_
  dsimp only[List.set] at S
  refine aQ S 3 rfl (x:=(⟨g.width,g.low,g.high,q,k,d,((g.l:Nat):Int)+1-g.out,[]⟩:Gv).t) rfl ?_
  have S5:=S.join [5] [1,6]
  exact done g3 S5
end
end Go.Proofs.YtdhpmegbmjoekaaGreatDoor.G
end
