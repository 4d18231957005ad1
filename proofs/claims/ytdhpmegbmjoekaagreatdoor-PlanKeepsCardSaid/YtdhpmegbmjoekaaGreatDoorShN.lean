/- ShA ShB ShM ShN, in one text. -/
import Derived.Test.YtdhpmegbmjoekaaGreatDoorShS
set_option linter.unusedSimpArgs false
set_option linter.unusedVariables false
namespace Go.Sh
section
theorem zO (x:Int) (m k:Nat) (j:m+1=2 ^ k) (i:k<63):cn .i64 x (m:Int)=x % ((m:Int)+1):=by
 have e:IntKind.i64.bits=64:=rfl;have c:(BitVec.ofInt 64 (m:Int)).toNat=m:=by
  rw[BitVec.toNat_ofInt];have:m<2 ^ 64:=by
   have:(2:Nat) ^ k≤2 ^ 62:=VT (by omega) (by omega);omega
  simp;omega
 have a:(0:Int)<(m:Int)+1:=by omega
 have d:((BitVec.ofInt 64 x&&& BitVec.ofInt 64 (m:Int)).toNat:Int)=x % ((m:Int)+1):=by
  rw[BitVec.toNat_and,c,BitVec.toNat_ofInt];have:m=2 ^ k-1:=by omega
  rw[this,Nat.and_two_pow_sub_one_eq_mod];have f:((2 ^ k:Nat):Int) ∣ ((2 ^ 64:Nat):Int):=by
   refine⟨((2 ^ (64-k):Nat):Int),?_⟩;rw[←W6,←Nat.pow_add];congr 2;omega
  have g:(0:Int)≤x % ((2 ^ 64:Nat):Int):=Wx _ (by decide);rw[Int.natCast_emod,Int.toNat_of_nonneg g,Int.emod_emod_of_dvd _ f];congr 1;have:(1:Nat)≤2 ^ k:=Nat.one_le_two_pow;omega
 unfold cn;rw[e,d];have h0:=Wx x (b:=(m:Int)+1) (by omega);have h:=WD x a;have:(2:Nat) ^ k≤2 ^ 62:=VT (by omega) (by omega);exact al ⟨by omega,by omega⟩
theorem KS (x:Int) {m:Int} (a:0<m): -m<Int.tmod x m∧Int.tmod x m<m:=by
 constructor
 ·have:=Int.lt_tmod_of_pos x a;omega
 ·exact Int.tmod_lt_of_pos x a
end
section
def FM (bs:List UInt8):List Value:=bs.map fun b=>Value.int .u8 (b.toNat:Int)
def str (bs:List UInt8):ByteArray:=⟨bs.toArray⟩
theorem EJ (bs:List UInt8):(FM bs).length=bs.length:=by simp[FM]
theorem KU (a b:List UInt8):FM (a++b)=FM a++FM b:=by simp[FM]
theorem QA (bs:List UInt8): ∀y∈FM bs,lK y=true:=by
 intro y a;simp only[FM,U5] at a;obtain⟨b,_,rfl⟩:=a;rfl
theorem rV (a b:List UInt8):str a++str b=str (a++b):=by
 apply ByteArray.ext;simp[str,ByteArray.data_append]
theorem da (a:List UInt8):(str a).size=a.length:=by simp[str,ByteArray.size]
theorem QB (a:List UInt8) (i:Nat):(str a)[i]? =a[i]? :=by
 by_cases h:i<a.length
 ·rw[aO h,getElem?_pos (str a) i (by rw[da];exact h)];rfl
 ·rw[Vc (by omega),getElem?_neg (str a) i (by rw[da];exact h)]
theorem Jn (bs:List UInt8): ∀(n i:Nat) (r:List UInt8),bs.length-i=n→ByteArray.toList.loop (str bs) i r=r.reverse++bs.drop i
 |0,i,r,h=>by
  unfold ByteArray.toList.loop;rw[if_neg (by rw[da];omega),List.drop_eq_nil_of_le (by omega),Vh]
 |n+1,i,r,h=>by
  unfold ByteArray.toList.loop;have hi:i<bs.length:=by omega
  rw[if_pos (by rw[da];exact hi),Jn bs n (i+1) _ (by omega)];have:(str bs).get! i=bs[i]:=by simp[str,ByteArray.get!,hi]
  rw[this,List.reverse_cons,U6,Vb hi];rfl
theorem EK (bs:List UInt8):(str bs).toList=bs:=by
 unfold ByteArray.toList;rw[Jn bs bs.length 0 [] rfl];rfl
theorem EL (a b:List UInt8):((str a).toList==(str b).toList)=decide (a=b):=by
 rw[EK,EK,VQ];simp
theorem OV {p:Option Addr} {n:Nat} {h:af} {bs:List UInt8} {K:ByteArray→Prop} (r:bI h p (FM bs)) (a:bs.length=n) (H:K (str bs)):Qx p n h K:=
 ⟨bs,r.readO (by rw[EJ];exact a),H⟩
theorem KV {s:ByteArray} {bs:List UInt8} {i:Int} {k:Nat} {b:UInt8} {K:UInt8→Prop} (c:s=str bs) (hi:i=k) (a:bs[k]? =some b) (H:K b):CR s i K:=by
 subst c;subst hi;exact⟨by omega,b,by rw[oe,QB];exact a,H⟩
theorem vJ {a b:ByteArray} {K:Unit→Prop} (h:a.size+b.size<2 ^ 62) (H:K ()):zC a b K:=by
 have e:IntKind.max .i64=2 ^ 63-1:=by decide
 exact⟨by rw[e];omega,H⟩
def vK (x:Int):UInt8:=UInt8.ofNat (x % 256).toNat
theorem Mb (x:Int):IntKind.wrap .u8 x=x % 256:=by
 simp only[IntKind.wrap,IntKind.bits,IntKind.signed];simp
theorem pF (x:Int):((vK x).toNat:Int)=x % 256:=by
 unfold vK;have h0:=Wx x (b:=256) (by decide);have a:=WD x (b:=256) (by decide);rw[UInt8.toNat_ofNat',WV (by omega),Int.toNat_of_nonneg h0]
theorem hZ (x:Int):IntKind.wrap .u64 x=x % 18446744073709551616:=by
 simp only[IntKind.wrap,IntKind.bits,IntKind.signed];simp
theorem zP (x:Int):IntKind.wrap .i32 x=(x+2147483648) % 4294967296-2147483648:=by
 simp only[IntKind.wrap,IntKind.bits,IntKind.signed];simp;omega
theorem M6 (x:Int) (n:Nat):fu x n=x / 2 ^ n:=by
 unfold fu;exact Int.fdiv_eq_ediv_of_nonneg _ (Int.pow_nonneg (by decide))
theorem zQ (x:Int) (i:Nat):x / 256 ^ i / 256=x / 256 ^ (i+1):=by
 rw[Ww,←WW (Int.pow_nonneg (by decide))]
def low (x:Int):Nat→List UInt8
 |0=>[]
 |n+1=>vK x::low (x / 256) n
theorem ce (x:Int) (n:Nat):(low x n).length=n:=by
 induction n generalizing x with
 |zero=>rfl
 |succ n a=>simp[low,a]
theorem EM (x:Int): ∀(n:Nat),low x (n+1)=low x n++[vK (x / 256 ^ n)]
 |0=>by simp[low]
 |n+1=>by
  rw[low,EM (x / 256) n,low,Int.pow_succ',WW (show(0:Int)≤256 by decide)];rfl
def Ag:List UInt8→Int
 |[]=>0
 |b::r=>b.toNat+256*Ag r
theorem Mc (x:Int): ∀(n:Nat),Ag (low x n)=x % 256 ^ n
 |0=>by simp[low,Ag]
 |n+1=>by
  simp only[low,Ag,pF,Mc (x / 256) n];have a:(0:Int)<256 ^ n:=WQ (by decide);rw[Ww,W0 (256 ^ n) 256];rw[Int.emod_def,Int.emod_def (x / 256),Int.emod_def x (256*256 ^ n),←WW (show(0:Int)≤256 by decide)];rw[Int.mul_sub,Int.mul_assoc];omega
theorem qz: ∀(a:List UInt8),0≤Ag a∧Ag a<256 ^ a.length
 |[]=>by simp[Ag]
 |b::r=>by
  obtain⟨h0,c⟩:=qz r;have d:b.toNat<256:=UInt8.toNat_lt b;simp only[Ag,UY,Ww];omega
theorem oR (bs:List UInt8) (i j:Nat):(str bs).extract i j=str ((bs.drop i).take (j-i)):=by
 apply ByteArray.ext;simp[str,ByteArray.data_extract]
theorem EN: ∀(a b:List UInt8),Ag (a++b)=Ag a+256 ^ a.length*Ag b
 |[],b=>by simp[Ag]
 |x::r,b=>by
  simp only[Xi,Ag,EN r b,UY,Ww];rw[Int.mul_add,W0 (256 ^ r.length) 256,Int.mul_assoc];omega
theorem F6 {bs:List UInt8} {i:Nat} {b:UInt8} (a:bs[i]? =some b):Ag (bs.take (i+1))=Ag (bs.take i)+b.toNat*256 ^ i:=by
 have hi:=(Pt.1 a).1;have c:=(Pt.1 a).2;rw[py hi,EN,c,U0,VY (by omega)];simp only[Ag];rw[Int.mul_zero,Int.add_zero,W0]
theorem A6 {a b:Nat} (h:a≤b):(256:Int) ^ a≤256 ^ b:=by
 have:=Int.ofNat_le.2 (VT (show 0<256 by decide) h);rw[V6,V6] at this;exact this
theorem yh (bs:List UInt8) (n:Nat) (h:bs.length≤n):0≤Ag bs∧Ag bs<256 ^ n:=by
 obtain⟨h0,a⟩:=qz bs;exact⟨h0,Int.lt_of_lt_of_le a (A6 h)⟩
theorem QC {x y:Int} {k:Nat} (b:0≤x∧x<2 ^ k) (l:0≤y) (i:y*2 ^ k+x<2 ^ 64):FL .u64 x (y*2 ^ k)=x+y*2 ^ k:=by
 obtain⟨a,rfl⟩:=Int.eq_ofNat_of_zero_le b.1;obtain⟨c,rfl⟩:=Int.eq_ofNat_of_zero_le l;have g:a<2 ^ k:=by
  apply Int.ofNat_lt.1;rw[V6];exact b.2
 have j:c*2 ^ k+a<2 ^ 64:=by
  apply Int.ofNat_lt.1;rw[Int.natCast_add,W6,V6,V6];exact i
 have d:(BitVec.ofInt 64 (a:Int)).toNat=a:=by
  rw[BitVec.ofInt_natCast,BitVec.toNat_ofNat,WV (by omega)]
 have e:(BitVec.ofInt 64 ((c:Int)*2 ^ k)).toNat=c*2 ^ k:=by
  have:((c:Int)*2 ^ k)=((c*2 ^ k:Nat):Int):=by rw[W6,V6];rfl
  rw[this,BitVec.ofInt_natCast,BitVec.toNat_ofNat,WV (by omega)]
 unfold FL;have h:IntKind.u64.bits=64:=rfl;rw[h,BitVec.toNat_or,d,e];have f:a|||c*2 ^ k=c*2 ^ k+a:=by
  rw[Nat.or_comm,Nat.mul_comm,←Nat.two_pow_add_eq_or_of_lt g]
 rw[f,hZ,V9 (by omega) (by omega),Int.natCast_add,W6,V6];exact Int.add_comm _ _
end
section
theorem aJ.pw {h0 h:af} {T:Nat→Prop} {W R:List aY} (S:aJ h0 T h W R) (l:List Nat) (c:l.Nodup:=by decide):aJ h0 T h (Sh.pick W l) R:=
 ⟨S.fra,fun k f a=>by obtain⟨i,_,hi⟩:=dy a;exact S.w i f hi,S.r,fun k f a=>by obtain⟨i,_,hi⟩:=dy a;exact S.ok i f hi,nK S.ww c,
  fun i j f g a b=>by obtain⟨d,_,hi⟩:=dy a;exact S.wr d j f g hi b⟩
theorem aJ.turn {h0 h:af} {T:Nat→Prop} {W R:List aY} (S:aJ h0 T h W R) (i:Nat) {f:aY} (e:W[i]? =some f) (a:aY) (d:f.P h→a.P h) (g: ∀b,a.foot b→f.foot b):aJ h0 T h (W.set i a) R:=
 S.upd i e a (cp.refl _ _) (d (S.w i f e)) fun b c=> .inl (g b c)
theorem aJ.toOwn {h0 h:af} {T:Nat→Prop} {W R:List aY} (S:aJ h0 T h W R) (i:Nat) (sz l c:Nat) {b:Nat} {cs:List Value} (g:cs.length=c*sz) (k:l≤c) (e:W[i]? =some (blk b cs):=by rfl):
 aJ h0 T h (W.set i (Sh.own sz (some ⟨b,0,none⟩) l c (cs.take (l*sz)))) R:=by
 refine S.turn i e _ (fun d=> ?_) fun j n=> ?_
 ·have f:l*sz≤cs.length:=by rw[g];exact Vn _ k
  refine⟨by rw[U0];omega,k,.inr ⟨b,cs,rfl,V1 _,d,g,?_⟩⟩;rw[U0,VY f]
 ·obtain⟨a,m,rfl⟩:=n;cases m;rfl
theorem yi (zs:List Value) (sz:Nat) (a:zs.length=sz): ∀(n:Nat),(List.range (n*sz)).map (fun i=>zs.toArray[i % zs.toArray.size]!)=(List.replicate n zs).flatten
 |0=>by simp
 |n+1=>by
  rw[List.replicate_succ',List.flatten_append,←yi zs sz a n,Vt,WE,List.range_add,U4];congr 1;simp only[VW,List.flatten_nil,Vh,VP];apply Vo;intro i;by_cases hi:i<sz
  ·rw[UW,Vj hi];simp only[Option.map_some,Function.comp_apply];have:(n*sz+i) % zs.toArray.size=i:=by
    simp only[List.size_toArray,a];rw[Nat.mul_comm,Nat.mul_add_mod,WV hi]
   rw[this,aO (by omega)];simp[a,hi]
  ·rw[Vc (by simp;omega),Vc (by omega)]
theorem dQ {h0 h:af} {T:Nat→Prop} {W R:List aY} (S:aJ h0 T h W R) {e sz a:Nat} {z:Value} {l:Int} {zs:List Value} {K:Nat→af→Prop} (n:Nat) (i:l=n) (j:z.cells=zs.toArray) (d:zs.length=sz) (c:sz≠0) (k:n<2 ^ 62) (g:a*n≤2 ^ 48)
 (H: ∀b h',b=h.size→aJ h0 T h' (W++[blk b (List.replicate n zs).flatten]) R→K b h'):qM e sz a z l l h K:=by
 subst i;refine⟨c,by omega,WR _,by omega,by exact_mod_cast g,?_⟩;have f:((Array.range ((n:Int).toNat*sz)).map (z.cells[· % z.cells.size]!))=(List.replicate n zs).flatten.toArray:=by
  rw[j,oe,←yi zs sz d n];apply Array.ext';simp[Array.toList_map,Array.toList_range]
 rw[f];exact aA S H
theorem ib (n:Nat) (v:Value):(List.replicate n [v]).flatten=List.replicate n v:=by
 induction n with
 |zero=>rfl
 |succ n a=>rw[VO,VW,a,VO];rfl
theorem EO {h0 h:af} {T:Nat→Prop} {W R:List aY} (S:aJ h0 T h W R) (i:Nat) {sz:Nat} {a:Addr} {l c k:Nat} {xs:List Value} {v:Value} {K:af→Prop} (e:W[i]? =some (own sz (some a) l c xs)) (y:k<xs.length)
 (H: ∀d,d.size=h.size→aJ h0 T d (W.set i (own sz (some a) l c (xs.set k v))) R→K d):aW h (Addr.add a k) v K:=by
 obtain⟨q,r,⟨m,_⟩|⟨b,p,m,s,n,g,o⟩⟩:=S.own i e
 ·cases m
 ·cases m;rw[aQ,SI];have w:xs.length≤p.length:=by rw[←o];simp;omega
  refine OY n (by omega) fun d x f t=>H d x (S.upd i e _ (t.mono fun j _ u=>⟨_,rfl,u.symm⟩) ⟨?_,r,.inr ⟨b,_,rfl,s,f,by simpa using g,?_⟩⟩ fun _ h=> .inl h)
  ·simpa using q
  ·rw[U1,List.take_set,o]
end
section
theorem Sf {s:Sc} {h:af} {a:Addr} {x:s.T} {K:s.T→Prop} (b:aD h a=some (s.mk x)) (H:K x):ST s h a K:=by
 cases s
 case slice=>exact⟨x.1,x.2.1,x.2.2,b,H⟩
 all_goals exact⟨x,b,H⟩
theorem Jo: ∀{l:List Sc} {h:af} {a:Addr} {i:Nat} {x:TS l} {K:TS l→Prop},(∀j v,(aL l x)[j]? =some v→aD h (Addr.add a (i+j))=some v)→K x→Kw l h a i K
 |[],_,_,_,_,_,_,H=>H
 |s::r,h,a,i,x,K,hc,H=>by
  refine Sf (x:=x.1) (by have:=hc 0 (s.mk x.1) rfl;rwa [Va] at this) ?_;refine Jo (x:=x.2) (fun j v b=> ?_) H;have:=hc (j+1) v (by simpa[aL] using b)
  rwa [show i+(j+1)=i+1+j by omega] at this
theorem H2 {l:List Sc} {h:af} {a:Addr} {x:TS l} {K:TS l→Prop} (b: ∀j v,(aL l x)[j]? =some v→aD h (Addr.add a j)=some v) (H:K x):aT l h a K:=
 Jo (fun j v c=>by rw[SI];exact b j v c) H
theorem At.agg {h:af} {b:Nat} {cs vs:List Value} (a:At h b cs) (d:cs=vs): ∀j v,vs[j]? =some v→aD h (Addr.add ⟨b,0,none⟩ j)=some v:=fun j v c=>by
 rw[aQ,SI];exact a.cell (by rw[d];exact c)
theorem aN {h0 h:af} {T:Nat→Prop} {W R:List aY} (S:aJ h0 T h W R) (i:Nat) {b:Nat} {cs:List Value} {l:List Sc} {x:TS l} {K:TS l→Prop} (e:W[i]? =some (blk b cs)) (a:cs=aL l x) (H:K x):aT l h ⟨b,0,none⟩ K:=
 H2 ((S.at i e).agg a) H
theorem H3 {h:af} {K:Prop} (k:Nat) {a:Addr}: ∀{b:List Value} {i:Nat},(∀j v,b[j]? =some v→aD h (Addr.add a (i+j))=some v)→K→di (cf k a b i) h K
 |[],_,_,H=>H
 |y::r,i,hc,H=>by
  refine⟨by have:=hc 0 y rfl;rwa [Va] at this,H3 k (fun j v c=> ?_) H⟩;have:=hc (j+1) v (by simpa using c)
  rwa [show i+(j+1)=i+1+j by omega] at this
theorem cR {h0 h:af} {T:Nat→Prop} {W R:List aY} (S:aJ h0 T h W R) (i:Nat) {b k:Nat} {cs vs:List Value} {K:Prop} (e:W[i]? =some (blk b cs)) (c:cs=vs) (H:K):di (cf k ⟨b,0,none⟩ vs 0) h K:=
 H3 k (fun j v a=>by rw[SI];exact(S.at i e).agg c j v a) H
theorem Sg {s:Sc} (x:s.T) {K:s.T→Prop} (H:K x):SU s K:=by
 cases s
 case slice=>exact⟨x.1,x.2.1,x.2.2,H⟩
 all_goals exact⟨x,H⟩
theorem iU: ∀{l:List Sc} (x:TS l) {K:TS l→Prop},K x→Ez l K
 |[],_,_,H=>H
 |s::r,x,K,H=>Sg x.1 (iU x.2 H)
def Sc.plain:Sc→Bool
 | .any=>false
 |_=>true
theorem bu: ∀{l:List Sc} {x:TS l},l.all Sc.plain=true→ ∀y∈aL l x,lK y=true
 |[],_,_,y,a=>by cases a
 |s::r,x,hl,y,a=>by
  simp only[List.all_cons,U9] at hl;rcases U7.1 a with rfl|a
  ·cases s<;>first|rfl|(exact absurd hl.1 (by decide))
  ·exact bu hl.2 y a
theorem Md: ∀{l:List Sc} {x:TS l},(aL l x).length=l.length
 |[],_=>rfl
 |s::r,x=>by simp[aL,Md (l:=r)]
theorem cA {h0 h:af} {T:Nat→Prop} {W R:List aY} (S:aJ h0 T h W R) (i:Nat) {b:Nat} {cs vs:List Value} {K:af→Prop} (e:W[i]? =some (blk b cs)) (j:cs.length=vs.length) (d: ∀y∈vs,lK y=true)
 (H: ∀a,a.size=h.size→aJ h0 T a (W.set i (blk b vs)) R→K a):bj vs h ⟨b,0,none⟩ 0 K:=by
 refine nM vs h cs 0 0 (S.at i e) (by omega) d fun a g c f=>H a g (S.upd i e _ f ?_ fun _ h=> .inl h);have:cs.take (0+0)++vs++cs.drop (0+0+vs.length)=vs:=by
  rw[Wf,Xj,Vq (by omega),Vh]
 rw[this] at c;exact c
theorem Si {h0 h:af} {T:Nat→Prop} {W R:List aY} (S:aJ h0 T h W R) (i:Nat) {sz:Nat} {a:Addr} {l c k:Nat} {xs vs:List Value} {K:af→Prop} (e:W[i]? =some (own sz (some a) l c xs)) (D:k+vs.length≤xs.length) (u: ∀y∈vs,lK y=true)
 (H: ∀f,f.size=h.size→aJ h0 T f (W.set i (own sz (some a) l c (xs.take k++vs++xs.drop (k+vs.length)))) R→K f):bj vs h (Addr.add a k) 0 K:=by
 obtain⟨B,C,⟨n,_⟩|⟨b,d,n,v,o,m,q⟩⟩:=S.own i e
 ·cases n
 ·cases n;rw[aQ,SI];have z:xs.length≤d.length:=by rw[←q];simp;omega
  refine nM vs h d k 0 o (by omega) u fun f A g w=>H f A (S.upd i e _ (w.mono fun j _ p=>⟨_,rfl,p.symm⟩) ⟨?_,C,.inr ⟨b,_,rfl,v,g,?_,?_⟩⟩ fun _ h=> .inl h)
  ·rw[←B];simp;omega
  ·rw[←m];simp;omega
  ·simp only[Va];have r:(xs.take k++vs++xs.drop (k+vs.length)).length=xs.length:=by simp;omega
   have s:xs.take k=d.take k:=by rw[←q,WO,VY (by omega)]
   rw[r,s];apply Vo;intro j;by_cases p:j<xs.length
   ·rw[Wl,if_pos p];by_cases x:j<k+vs.length
    ·rw[VC (l₁:=d.take k++vs) (l₂:=d.drop (k+vs.length)) (by simp only[Rb,U0];omega),VC (l₁:=d.take k++vs) (l₂:=xs.drop (k+vs.length)) (by simp only[Rb,U0];omega)]
    ·rw[Vp (l₁:=d.take k++vs) (l₂:=d.drop (k+vs.length)) (by simp only[Rb,U0];omega),Vp (l₁:=d.take k++vs) (l₂:=xs.drop (k+vs.length)) (by simp only[Rb,U0];omega),VI,VI];have t:xs[k+vs.length+(j-(d.take k++vs).length)]? =d[k+vs.length+(j-(d.take k++vs).length)]? :=by
      conv=>lhs;rw[←q]
      rw[Wl,if_pos];simp;omega
     rw[t]
   ·rw[Vc (by simp;omega),Vc (by simp;omega)]
theorem aJ.join {h0 h:af} {T:Nat→Prop} {W R:List aY} (S:aJ h0 T h W R) (l m:List Nat) (G:(l++m).Nodup:=by decide):aJ h0 T h (Sh.pick W l++[bP (Sh.pick W m)]) R:=by
 have q:=Wa.1 G;have P:=S.pw l q.1;have key: ∀(i:Nat) (f:aY),(Sh.pick W l++[bP (Sh.pick W m)])[i]? =some f→(i<(Sh.pick W l).length∧(Sh.pick W l)[i]? =some f)∨(i=(Sh.pick W l).length∧f=bP (Sh.pick W m)):=fun i f a=>by
  rw[Vy] at a;split at a
  ·exact .inl ⟨by assumption,a⟩
  ·rw[WF] at a;split at a
   ·cases a;exact .inr ⟨by omega,rfl⟩
   ·cases a
 have o: ∀g∈Sh.pick W m,∃i,i∈m∧W[i]? =some g:=fun g c=>by
  obtain⟨k,F⟩:=List.getElem?_of_mem c;exact dy F
 have t:(bP (Sh.pick W m)).P h:=fun g c=>by obtain⟨i,_,hi⟩:=o g c;exact S.w i g hi
 have e: ∀(i:Nat) (f:aY),(Sh.pick W l)[i]? =some f→ ∀b,f.foot b→(bP (Sh.pick W m)).foot b→False:=fun i f a b n ⟨g,c,p⟩=>by
  obtain⟨B,x,hi⟩:=dy a;obtain⟨H,A,z⟩:=o g c;exact S.ww B H f g hi z (q.2.2 _ x _ A) b n p
 refine⟨S.fra,fun i f a=> ?_,S.r,fun i f a b n s=> ?_,fun i j f g a c y b n d=> ?_,fun i j f g a c b n d=> ?_⟩
 ·rcases key i f a with ⟨_,a⟩|⟨_,rfl⟩
  ·exact P.w i f a
  ·exact t
 ·rcases key i f a with ⟨_,a⟩|⟨_,rfl⟩
  ·exact P.ok i f a b n s
  ·obtain⟨g,c,p⟩:=n;obtain⟨j,_,z⟩:=o g c;exact S.ok j g z b p s
 ·rcases key i f a with ⟨D,a⟩|⟨D,rfl⟩<;>rcases key j g c with ⟨E,c⟩|⟨E,rfl⟩
  ·exact P.ww i j f g a c y b n d
  ·exact e i f a b n d
  ·exact e j g c b d n
  ·omega
 ·rcases key i f a with ⟨_,a⟩|⟨_,rfl⟩
  ·exact P.wr i j f g a c b n d
  ·obtain⟨C,u,v⟩:=n;obtain⟨B,_,hi⟩:=o C u;exact S.wr B j C g hi c b v d
theorem aJ.joinR {h0 h:af} {T:Nat→Prop} {W R:List aY} (S:aJ h0 T h W R) (l:List Nat) (i j:Nat) {A:List aY} {f:aY} (k:W[i]? =some (bP A)) (m:W[j]? =some f) (o:(l++[i,j]).Nodup:=by decide):
 aJ h0 T h (Sh.pick W l++[bP (A++[f])]) R:=by
 have c:=S.join l [i,j] o;have n:Sh.pick W [i,j]=[bP A,f]:=by simp only[Sh.pick,k,m]
 rw[n] at c;have e:(Sh.pick W l++[bP [bP A,f]])[(Sh.pick W l).length]? =some (bP [bP A,f]):=by rw[VE]
 have S3:=c.turn (Sh.pick W l).length e (bP (A++[f])) (fun H g a=>by
  rcases UX.1 a with a|a
  ·exact H (bP A) (by simp) g a
  ·simp only[SH] at a;subst a;exact H g (by simp)) (fun b ⟨g,a,d⟩=>by
  rcases UX.1 a with a|a
  ·exact⟨bP A,by simp,g,a,d⟩
  ·simp only[SH] at a;subst a;exact⟨g,by simp,d⟩)
 rw[VB _ _ (U3 _),VJ] at S3;exact S3
theorem aJ.reads0 {h0 h:af} {T:Nat→Prop} {W R:List aY} (S:aJ h0 T h W R):aJ h0 T h (W++[bP []]) R:=
 S.join (List.range W.length) [] (by simpa using WX)|>fun P=>by
  have:Sh.pick W (List.range W.length)=W:=by
   have key: ∀(A B:List aY),Sh.pick (A++B) ((List.range B.length).map (· +A.length))=B:=by
    intro A B
    induction B generalizing A with
    |nil=>rfl
    |cons f B c=>
     rw[UY,List.range_succ_eq_map,Vg,VP];simp only[Sh.pick];rw[Vp (by omega)];simp only[SI,VJ,List.getElem?_cons_zero];congr 1;have a:=c (A++[f]);simp only[U6,List.singleton_append,Rb,Wo] at a;have b:List.map ((fun x=>x+A.length) ∘ Nat.succ) (List.range B.length)=List.map (fun x=>x+(A.length+1)) (List.range B.length):=by
      apply U8;intro i _;simp;omega
     rw[b];exact a
   simpa using key [] W
  rw[this] at P;exact P
theorem oS {l:List Sc} {h:af} {a:Addr} {K:TS l→Prop} (H:aT l h a K):aT l h a K:=H
theorem aH {a b:Int} {A B:Prop} (c:a=b→A) (d:a≠b→B):aG (a==b) A B:=⟨fun e=>c (by simpa using e),fun e=>d (by simpa using e)⟩
theorem bh {a b:Int} {A B:Prop} (c:a≠b→A) (d:a=b→B):aG (a !=b) A B:=⟨fun e=>c (by simpa using e),fun e=>d (by simpa using e)⟩
theorem bG {b:Bool} {A B:Prop} (h:aG b B A):aG (!b) A B:=⟨fun e=>h.2 (by simpa using e),fun e=>h.1 (by simpa using e)⟩
theorem eD {b:Bool} {A:Prop} {B:Prop} (h:b=true→A) (a:b=false→B):aG b A B:=⟨h,a⟩
end
end Go.Sh

