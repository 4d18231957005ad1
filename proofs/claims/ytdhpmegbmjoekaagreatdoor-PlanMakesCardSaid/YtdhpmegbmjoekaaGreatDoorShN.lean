/- ShA ShB ShM ShN, in one text. -/
import Derived.Test.YtdhpmegbmjoekaaGreatDoorShS
set_option linter.unusedSimpArgs false
set_option linter.unusedVariables false
namespace Go.Sh
open Go.IntKind renaming wrap→kn
section
theorem yf(x:Int)(m k:Nat)(j:m+1=2 ^ k)(i:k<63):cF .i64 x (m:Int)=x % ((m:Int)+1):=by
 have e:IntKind.i64.bits=64:=rfl;have c:(BitVec.ofInt 64 (m:Int)).toNat=m:=by
  rw[BitVec.toNat_ofInt];have:m<2 ^ 64:=by
   have:(2:Nat) ^ k≤2 ^ 62:=WG (by omega) (by omega);omega
  simp;omega
 have a:(0:Int)<(m:Int)+1:=by omega
 have d:((BitVec.ofInt 64 x&&& BitVec.ofInt 64 (m:Int)).toNat:Int)=x % ((m:Int)+1):=by
  rw[BitVec.toNat_and,c,BitVec.toNat_ofInt];have:m=2 ^ k-1:=by omega
  rw[this,Nat.and_two_pow_sub_one_eq_mod];have f:((2 ^ k:Nat):Int) ∣ ((2 ^ 64:Nat):Int):=by
   refine⟨((2 ^ (64-k):Nat):Int),?_⟩;rw[←XD,←Nat.pow_add];congr 2;omega
  have g:(0:Int)≤x % ((2 ^ 64:Nat):Int):=XC _ (by decide);rw[Int.natCast_emod,Yd g,Int.emod_emod_of_dvd _ f];congr 1;have:(1:Nat)≤2 ^ k:=Nat.one_le_two_pow;omega
 unfold cF;rw[e,d];have h0:=XC x (b:=(m:Int)+1) (by omega);have h:=XS x a;have:(2:Nat) ^ k≤2 ^ 62:=WG (by omega) (by omega);exact al ⟨by omega,by omega⟩
theorem K6(x:Int){m:Int}(a:0<m): -m<Int.tmod x m∧Int.tmod x m<m:=by
 constructor
 ·have:=Int.lt_tmod_of_pos x a;omega
 ·exact Int.tmod_lt_of_pos x a
end
section
def Ez(bs:List UInt8):List Value:=bs.map fun b=>Value.int .u8 (b.toNat:Int)
def str(bs:List UInt8):ByteArray:=⟨bs.toArray⟩
theorem Dq(bs:List UInt8):(Ez bs).length=bs.length:=by simp[Ez]
theorem K7(a b:List UInt8):Ez (a++b)=Ez a++Ez b:=by simp[Ez]
theorem Rp(bs:List UInt8): ∀y∈Ez bs,ib y=true:=by
 intro y a;simp only[Ez,VZ]at a;obtain⟨b,_,rfl⟩:=a;rfl
theorem jC(a b:List UInt8):str a++str b=str (a++b):=by
 apply ByteArray.ext;simp[str,ByteArray.data_append]
theorem cu(a:List UInt8):(str a).size=a.length:=by simp[str,ByteArray.size]
theorem Rq(a:List UInt8)(i:Nat):(str a)[i]? =a[i]? :=by
 by_cases h:i<a.length
 ·rw[bo h,getElem?_pos (str a) i (by rw[cu];exact h)];rfl
 ·rw[V3 (by omega),getElem?_neg (str a) i (by rw[cu];exact h)]
theorem Td(s:ByteArray): ∃a:List UInt8,s=str a:=⟨s.data.toList,by simp[str]⟩
theorem IG(bs:List UInt8): ∀(n i:Nat)(r:List UInt8),bs.length-i=n→ByteArray.toList.loop (str bs) i r=r.reverse++bs.drop i
 |0,i,r,h=>by
  unfold ByteArray.toList.loop;rw[if_neg (by rw[cu];omega),List.drop_eq_nil_of_le (by omega),Wd]
 |n+1,i,r,h=>by
  unfold ByteArray.toList.loop;have hi:i<bs.length:=by omega
  rw[if_pos (by rw[cu];exact hi),IG bs n (i+1) _ (by omega)];have:(str bs).get! i=bs[i]:=by simp[str,ByteArray.get!,hi]
  rw[this,List.reverse_cons,VY,V6 hi];rfl
theorem Dr(bs:List UInt8):(str bs).toList=bs:=by
 unfold ByteArray.toList;rw[IG bs bs.length 0 [] rfl];rfl
theorem Ds(a b:List UInt8):((str a).toList==(str b).toList)=decide (a=b):=by
 rw[Dr,Dr,WF];simp
theorem K8{p:Option Addr}{n:Nat}{h:ah}{bs:List UInt8}{K:ByteArray→Prop}(r:bD h p (Ez bs))(a:bs.length=n)(H:K (str bs)):Pl p n h K:=
 ⟨bs,r.readO (by rw[Dq];exact a),H⟩
theorem G9{s:ByteArray}{bs:List UInt8}{i:Int}{k:Nat}{b:UInt8}{K:UInt8→Prop}(c:s=str bs)(hi:i=k)(a:bs[k]? =some b)(H:K b):zB s i K:=by
 subst c;subst hi;exact⟨by omega,b,by rw[hC,Rq];exact a,H⟩
theorem kv{a b:ByteArray}{K:Unit→Prop}(h:a.size+b.size<2 ^ 62)(H:K ()):oo a b K:=by
 have e:IntKind.max .i64=2 ^ 63-1:=by decide
 exact⟨by rw[e];omega,H⟩
def kH(x:Int):UInt8:=UInt8.ofNat (x % 256).toNat
theorem Ha(x:Int):kn .u8 x=x % 256:=by
 simp only[kn,IntKind.bits,IntKind.signed];simp
theorem kI(x:Int):((kH x).toNat:Int)=x % 256:=by
 unfold kH;have h0:=XC x (b:=256) (by decide);have a:=XS x (b:=256) (by decide);rw[UInt8.toNat_ofNat',XZ (by omega),Yd h0]
theorem fl(x:Int):kn .u64 x=x % 18446744073709551616:=by
 simp only[kn,IntKind.bits,IntKind.signed];simp
theorem ux(x:Int):kn .i32 x=(x+2147483648) % 4294967296-2147483648:=by
 simp only[kn,IntKind.bits,IntKind.signed];simp;omega
theorem vc(x:Int)(n:Nat):fV x n=x / 2 ^ n:=by
 unfold fV;exact Int.fdiv_eq_ediv_of_nonneg _ (Int.pow_nonneg (by decide))
theorem yg(x:Int)(i:Nat):x / 256 ^ i / 256=x / 256 ^ (i+1):=by
 rw[Xt,←X0 (Int.pow_nonneg (by decide))]
def low(x:Int):Nat→List UInt8
 |0=>[]
 |n+1=>kH x::low (x / 256) n
theorem ce(x:Int)(n:Nat):(low x n).length=n:=by
 induction n generalizing x with
 |zero=>rfl
 |succ n a=>simp[low,a]
theorem Dt(x:Int): ∀(n:Nat),low x (n+1)=low x n++[kH (x / 256 ^ n)]
 |0=>by simp[low]
 |n+1=>by
  rw[low,Dt (x / 256) n,low,Int.pow_succ',X0 (show(0:Int)≤256 by decide)];rfl
def sw:List UInt8→Int
 |[]=>0
 |b::r=>b.toNat+256*sw r
theorem Hb(x:Int): ∀(n:Nat),sw (low x n)=x % 256 ^ n
 |0=>by simp[low,sw]
 |n+1=>by
  simp only[low,sw,kI,Hb (x / 256) n];have a:(0:Int)<256 ^ n:=XV (by decide);rw[Xt,XQ (256 ^ n) 256];rw[Int.emod_def,Int.emod_def (x / 256),Int.emod_def x (256*256 ^ n),←X0 (show(0:Int)≤256 by decide)];rw[Int.mul_sub,XY];omega
theorem pS: ∀(a:List UInt8),0≤sw a∧sw a<256 ^ a.length
 |[]=>by simp[sw]
 |b::r=>by
  obtain⟨h0,c⟩:=pS r;have d:b.toNat<256:=UInt8.toNat_lt b;simp only[sw,VS,Xt];omega
theorem gJ(bs:List UInt8)(i j:Nat):(str bs).extract i j=str ((bs.drop i).take (j-i)):=by
 apply ByteArray.ext;simp[str,ByteArray.data_extract]
theorem Du: ∀(a b:List UInt8),sw (a++b)=sw a+256 ^ a.length*sw b
 |[],b=>by simp[sw]
 |x::r,b=>by
  simp only[Yg,sw,Du r b,VS,Xt];rw[Int.mul_add,XQ (256 ^ r.length) 256,XY];omega
theorem Fh{bs:List UInt8}{i:Nat}{b:UInt8}(a:bs[i]? =some b):sw (bs.take (i+1))=sw (bs.take i)+b.toNat*256 ^ i:=by
 have hi:=(R8.1 a).1;have c:=(R8.1 a).2;rw[gD hi,Du,c,VV,Xd (by omega)];simp only[sw];rw[Int.mul_zero,Int.add_zero,XQ]
theorem zO{a b:Nat}(h:a≤b):(256:Int) ^ a≤256 ^ b:=by
 have:=Int.ofNat_le.2 (WG (show 0<256 by decide) h);rw[WN,WN]at this;exact this
theorem xe(bs:List UInt8)(n:Nat)(h:bs.length≤n):0≤sw bs∧sw bs<256 ^ n:=by
 obtain⟨h0,a⟩:=pS bs;exact⟨h0,Int.lt_of_lt_of_le a (zO h)⟩
theorem Rs{x y:Int}{k:Nat}(b:0≤x∧x<2 ^ k)(l:0≤y)(i:y*2 ^ k+x<2 ^ 64):B3 .u64 x (y*2 ^ k)=x+y*2 ^ k:=by
 obtain⟨a,rfl⟩:=Int.eq_ofNat_of_zero_le b.1;obtain⟨c,rfl⟩:=Int.eq_ofNat_of_zero_le l;have g:a<2 ^ k:=by
  apply Int.ofNat_lt.1;rw[WN];exact b.2
 have j:c*2 ^ k+a<2 ^ 64:=by
  apply Int.ofNat_lt.1;rw[Int.natCast_add,XD,WN,WN];exact i
 have d:(BitVec.ofInt 64 (a:Int)).toNat=a:=by
  rw[BitVec.ofInt_natCast,BitVec.toNat_ofNat,XZ (by omega)]
 have e:(BitVec.ofInt 64 ((c:Int)*2 ^ k)).toNat=c*2 ^ k:=by
  have:((c:Int)*2 ^ k)=((c*2 ^ k:Nat):Int):=by rw[XD,WN];rfl
  rw[this,BitVec.ofInt_natCast,BitVec.toNat_ofNat,XZ (by omega)]
 unfold B3;have h:IntKind.u64.bits=64:=rfl;rw[h,BitVec.toNat_or,d,e];have f:a|||c*2 ^ k=c*2 ^ k+a:=by
  rw[Nat.or_comm,Nat.mul_comm,←Nat.two_pow_add_eq_or_of_lt g]
 rw[f,fl,W4 (by omega) (by omega),Int.natCast_add,XD,WN];exact Int.add_comm _ _
end
section
theorem aG.pw{h0 h:ah}{T:Nat→Prop}{W R:List bc}(S:aG h0 T h W R)(l:List Nat)(c:l.Nodup:=by decide):aG h0 T h (Sh.pick W l) R:=
 ⟨S.fra,fun k f a=>by obtain⟨i,_,hi⟩:=cY a;exact S.w i f hi,S.r,fun k f a=>by obtain⟨i,_,hi⟩:=cY a;exact S.ok i f hi,m6 S.ww c,
  fun i j f g a b=>by obtain⟨d,_,hi⟩:=cY a;exact S.wr d j f g hi b⟩
theorem aG.settle{h0 h:ah}{T:Nat→Prop}{W R:List bc}(S:aG h0 T h W R)(l m:List Nat)(o:(l++m).Nodup:=by decide):aG h0 T h (Sh.pick W l) (R++Sh.pick W m):=by
 have b:=W5.1 o;have P:=S.pw l b.1;refine⟨P.fra,P.w,fun k f a=> ?_,P.ok,P.ww,fun i j f g a c=> ?_⟩
 ·rw[Wm]at a;split at a
  ·exact S.r k f a
  ·obtain⟨i,_,hi⟩:=cY a;exact S.w i f hi
 ·rw[Wm]at c;split at c
  ·exact P.wr i j f g a c
  ·obtain⟨p,d,hi⟩:=cY a;obtain⟨q,e,n⟩:=cY c;exact S.ww p q f g hi n (b.2.2 _ d _ e)
theorem aG.turn{h0 h:ah}{T:Nat→Prop}{W R:List bc}(S:aG h0 T h W R)(i:Nat){f:bc}(e:W[i]? =some f)(a:bc)(d:f.P h→a.P h)(g: ∀b,a.foot b→f.foot b):aG h0 T h (W.set i a) R:=
 S.upd i e a (cd.refl _ _) (d (S.w i f e)) fun b c=> .inl (g b c)
theorem aG.toOwn{h0 h:ah}{T:Nat→Prop}{W R:List bc}(S:aG h0 T h W R)(i:Nat)(sz l c:Nat){b:Nat}{cs:List Value}(g:cs.length=c*sz)(k:l≤c)(e:W[i]? =some (aJ b cs):=by rfl):
 aG h0 T h (W.set i (Sh.own sz (some ⟨b,0,none⟩) l c (cs.take (l*sz)))) R:=by
 refine S.turn i e _ (fun d=> ?_) fun j n=> ?_
 ·have f:l*sz≤cs.length:=by rw[g];exact Wu _ k
  refine⟨by rw[VV];omega,k,.inr ⟨b,cs,rfl,WV _,d,g,?_⟩⟩;rw[VV,Xd f]
 ·obtain⟨a,m,rfl⟩:=n;cases m;rfl
theorem xf(zs:List Value)(sz:Nat)(a:zs.length=sz): ∀(n:Nat),(List.range (n*sz)).map (fun i=>zs.toArray[i % zs.toArray.size]!)=(List.replicate n zs).flatten
 |0=>by simp
 |n+1=>by
  rw[List.replicate_succ',Yb,←xf zs sz a n,Wr,XK,List.range_add,V2];congr 1;simp only[WR,List.flatten_nil,Wd,Xa];apply Wk;intro i;by_cases hi:i<sz
  ·rw[VP,Wa hi];simp only[Option.map_some,Function.comp_apply];have:(n*sz+i) % zs.toArray.size=i:=by
    simp only[List.size_toArray,a];rw[Nat.mul_comm,Nat.mul_add_mod,XZ hi]
   rw[this,bo (by omega)];simp[a,hi]
  ·rw[V3 (by simp;omega),V3 (by omega)]
theorem dM{h0 h:ah}{T:Nat→Prop}{W R:List bc}(S:aG h0 T h W R){e sz a:Nat}{z:Value}{l:Int}{zs:List Value}{K:Nat→ah→Prop}(n:Nat)(i:l=n)(j:z.cells=zs.toArray)(d:zs.length=sz)(c:sz≠0)(k:n<2 ^ 62)(g:a*n≤2 ^ 48)
 (H: ∀b h',b=h.size→aG h0 T h' (W++[aJ b (List.replicate n zs).flatten]) R→K b h'):q6 e sz a z l l h K:=by
 subst i;refine⟨c,by omega,Xx _,by omega,by exact_mod_cast g,?_⟩;have f:((Array.range ((n:Int).toNat*sz)).map (z.cells[· % z.cells.size]!))=(List.replicate n zs).flatten.toArray:=by
  rw[j,hC,←xf zs sz d n];apply Array.ext';simp[Array.toList_map,Array.toList_range]
 rw[f];exact aA S H
theorem iG(n:Nat)(v:Value):(List.replicate n [v]).flatten=List.replicate n v:=by
 induction n with
 |zero=>rfl
 |succ n a=>rw[Wp,WR,a,Wp];rfl
theorem AK{h0 h:ah}{T:Nat→Prop}{W R:List bc}(S:aG h0 T h W R)(i:Nat){sz:Nat}{a:Addr}{l c k:Nat}{xs:List Value}{v:Value}{K:ah→Prop}(e:W[i]? =some (own sz (some a) l c xs))(y:k<xs.length)
 (H: ∀d,d.size=h.size→aG h0 T d (W.set i (own sz (some a) l c (xs.set k v))) R→K d):aQ h (Addr.add a k) v K:=by
 obtain⟨q,r,⟨m,_⟩|⟨b,p,m,s,n,g,o⟩⟩:=S.own i e
 ·cases m
 ·cases m;rw[aR,SN];have w:xs.length≤p.length:=by rw[←o];simp;omega
  refine kY n (by omega) fun d x f t=>H d x (S.upd i e _ (t.mono fun j _ u=>⟨_,rfl,u.symm⟩) ⟨?_,r,.inr ⟨b,_,rfl,s,f,by simpa using g,?_⟩⟩ fun _ h=> .inl h)
  ·simpa using q
  ·rw[VU,List.take_set,o]
end
section
theorem Te{s:Sc}{h:ah}{a:Addr}{x:s.T}{K:s.T→Prop}(b:aB h a=some (s.mk x))(H:K x):TZ s h a K:=by
 cases s
 case slice=>exact⟨x.1,x.2.1,x.2.2,b,H⟩
 all_goals exact⟨x,b,H⟩
theorem IH: ∀{l:List Sc}{h:ah}{a:Addr}{i:Nat}{x:TS l}{K:TS l→Prop},(∀j v,(aK l x)[j]? =some v→aB h (Addr.add a (i+j))=some v)→K x→KJ l h a i K
 |[],_,_,_,_,_,_,H=>H
 |s::r,h,a,i,x,K,hc,H=>by
  refine Te (x:=x.1) (by have:=hc 0 (s.mk x.1) rfl;rwa [We]at this) ?_;refine IH (x:=x.2) (fun j v b=> ?_) H;have:=hc (j+1) v (by simpa[aK] using b)
  rwa [show i+(j+1)=i+1+j by omega]at this
theorem Hc{l:List Sc}{h:ah}{a:Addr}{x:TS l}{K:TS l→Prop}(b: ∀j v,(aK l x)[j]? =some v→aB h (Addr.add a j)=some v)(H:K x):aT l h a K:=
 IH (fun j v c=>by rw[SN];exact b j v c) H
theorem At.agg{h:ah}{b:Nat}{cs vs:List Value}(a:At h b cs)(d:cs=vs): ∀j v,vs[j]? =some v→aB h (Addr.add ⟨b,0,none⟩ j)=some v:=fun j v c=>by
 rw[aR,SN];exact a.cell (by rw[d];exact c)
theorem aL{h0 h:ah}{T:Nat→Prop}{W R:List bc}(S:aG h0 T h W R)(i:Nat){b:Nat}{cs:List Value}{l:List Sc}{x:TS l}{K:TS l→Prop}(e:W[i]? =some (aJ b cs))(a:cs=aK l x)(H:K x):aT l h ⟨b,0,none⟩ K:=
 Hc ((S.at i e).agg a) H
theorem Me{h:ah}{K:Prop}(k:Nat){a:Addr}: ∀{b:List Value}{i:Nat},(∀j v,b[j]? =some v→aB h (Addr.add a (i+j))=some v)→K→dX (cQ k a b i) h K
 |[],_,_,H=>H
 |y::r,i,hc,H=>by
  refine⟨by have:=hc 0 y rfl;rwa [We]at this,Me k (fun j v c=> ?_) H⟩;have:=hc (j+1) v (by simpa using c)
  rwa [show i+(j+1)=i+1+j by omega]at this
theorem da{h0 h:ah}{T:Nat→Prop}{W R:List bc}(S:aG h0 T h W R)(i:Nat){b k:Nat}{cs vs:List Value}{K:Prop}(e:W[i]? =some (aJ b cs))(c:cs=vs)(H:K):dX (cQ k ⟨b,0,none⟩ vs 0) h K:=
 Me k (fun j v a=>by rw[SN];exact(S.at i e).agg c j v a) H
theorem Tf{s:Sc}(x:s.T){K:s.T→Prop}(H:K x):T0 s K:=by
 cases s
 case slice=>exact⟨x.1,x.2.1,x.2.2,H⟩
 all_goals exact⟨x,H⟩
theorem fy: ∀{l:List Sc}(x:TS l){K:TS l→Prop},K x→zD l K
 |[],_,_,H=>H
 |s::r,x,K,H=>Tf x.1 (fy x.2 H)
def Sc.plain:Sc→Bool
 | .any=>false
 |_=>true
theorem aW: ∀{l:List Sc}{x:TS l},l.all Sc.plain=true→ ∀y∈aK l x,ib y=true
 |[],_,_,y,a=>by cases a
 |s::r,x,hl,y,a=>by
  simp only[List.all_cons,V8]at hl;rcases V5.1 a with rfl|a
  ·cases s<;>first|rfl|(exact absurd hl.1 (by decide))
  ·exact aW hl.2 y a
theorem Mf: ∀{l:List Sc}{x:TS l},(aK l x).length=l.length
 |[],_=>rfl
 |s::r,x=>by simp[aK,Mf (l:=r)]
theorem bP{h0 h:ah}{T:Nat→Prop}{W R:List bc}(S:aG h0 T h W R)(i:Nat){b:Nat}{cs vs:List Value}{K:ah→Prop}(e:W[i]? =some (aJ b cs))(j:cs.length=vs.length)(d: ∀y∈vs,ib y=true)
 (H: ∀a,a.size=h.size→aG h0 T a (W.set i (aJ b vs)) R→K a):aZ vs h ⟨b,0,none⟩ 0 K:=by
 refine m9 vs h cs 0 0 (S.at i e) (by omega) d fun a g c f=>H a g (S.upd i e _ f ?_ fun _ h=> .inl h);have:cs.take (0+0)++vs++cs.drop (0+0+vs.length)=vs:=by
  rw[WK,Yh,Wj (by omega),Wd]
 rw[this]at c;exact c
theorem Tg{h0 h:ah}{T:Nat→Prop}{W R:List bc}(S:aG h0 T h W R)(i:Nat){sz:Nat}{a:Addr}{l c k:Nat}{xs vs:List Value}{K:ah→Prop}(e:W[i]? =some (own sz (some a) l c xs))(D:k+vs.length≤xs.length)(u: ∀y∈vs,ib y=true)
 (H: ∀f,f.size=h.size→aG h0 T f (W.set i (own sz (some a) l c (xs.take k++vs++xs.drop (k+vs.length)))) R→K f):aZ vs h (Addr.add a k) 0 K:=by
 obtain⟨B,C,⟨n,_⟩|⟨b,d,n,v,o,m,q⟩⟩:=S.own i e
 ·cases n
 ·cases n;rw[aR,SN];have z:xs.length≤d.length:=by rw[←q];simp;omega
  refine m9 vs h d k 0 o (by omega) u fun f A g w=>H f A (S.upd i e _ (w.mono fun j _ p=>⟨_,rfl,p.symm⟩) ⟨?_,C,.inr ⟨b,_,rfl,v,g,?_,?_⟩⟩ fun _ h=> .inl h)
  ·rw[←B];simp;omega
  ·rw[←m];simp;omega
  ·simp only[We];have r:(xs.take k++vs++xs.drop (k+vs.length)).length=xs.length:=by simp;omega
   have s:xs.take k=d.take k:=by rw[←q,List.take_take,Xd (by omega)]
   rw[r,s];apply Wk;intro j;by_cases p:j<xs.length
   ·rw[Xk,if_pos p];by_cases x:j<k+vs.length
    ·rw[WE (l₁:=d.take k++vs) (l₂:=d.drop (k+vs.length)) (by simp only[Tz,VV];omega),WE (l₁:=d.take k++vs) (l₂:=xs.drop (k+vs.length)) (by simp only[Tz,VV];omega)]
    ·rw[Wl (l₁:=d.take k++vs) (l₂:=d.drop (k+vs.length)) (by simp only[Tz,VV];omega),Wl (l₁:=d.take k++vs) (l₂:=xs.drop (k+vs.length)) (by simp only[Tz,VV];omega),Wz,Wz];have t:xs[k+vs.length+(j-(d.take k++vs).length)]? =d[k+vs.length+(j-(d.take k++vs).length)]? :=by
      conv=>lhs;rw[←q]
      rw[Xk,if_pos];simp;omega
     rw[t]
   ·rw[V3 (by simp;omega),V3 (by simp;omega)]
theorem aG.join{h0 h:ah}{T:Nat→Prop}{W R:List bc}(S:aG h0 T h W R)(l m:List Nat)(G:(l++m).Nodup:=by decide):aG h0 T h (Sh.pick W l++[cM (Sh.pick W m)]) R:=by
 have q:=W5.1 G;have P:=S.pw l q.1;have key: ∀(i:Nat)(f:bc),(Sh.pick W l++[cM (Sh.pick W m)])[i]? =some f→(i<(Sh.pick W l).length∧(Sh.pick W l)[i]? =some f)∨(i=(Sh.pick W l).length∧f=cM (Sh.pick W m)):=fun i f a=>by
  rw[Wm]at a;split at a
  ·exact .inl ⟨by assumption,a⟩
  ·rw[XF]at a;split at a
   ·cases a;exact .inr ⟨by omega,rfl⟩
   ·cases a
 have o: ∀g∈Sh.pick W m,∃i,i∈m∧W[i]? =some g:=fun g c=>by
  obtain⟨k,F⟩:=List.getElem?_of_mem c;exact cY F
 have t:(cM (Sh.pick W m)).P h:=fun g c=>by obtain⟨i,_,hi⟩:=o g c;exact S.w i g hi
 have e: ∀(i:Nat)(f:bc),(Sh.pick W l)[i]? =some f→ ∀b,f.foot b→(cM (Sh.pick W m)).foot b→False:=fun i f a b n ⟨g,c,p⟩=>by
  obtain⟨B,x,hi⟩:=cY a;obtain⟨H,A,z⟩:=o g c;exact S.ww B H f g hi z (q.2.2 _ x _ A) b n p
 refine⟨S.fra,fun i f a=> ?_,S.r,fun i f a b n s=> ?_,fun i j f g a c y b n d=> ?_,fun i j f g a c b n d=> ?_⟩
 ·rcases key i f a with ⟨_,a⟩|⟨_,rfl⟩
  ·exact P.w i f a
  ·exact t
 ·rcases key i f a with ⟨_,a⟩|⟨_,rfl⟩
  ·exact P.ok i f a b n s
  ·obtain⟨g,c,p⟩:=n;obtain⟨j,_,z⟩:=o g c;exact S.ok j g z b p s
 ·rcases key i f a with ⟨D,a⟩|⟨D,rfl⟩<;>rcases key j g c with ⟨E,c⟩|⟨E,rfl⟩
  ·exact P.ww i j f g a c y b n d
  ·exact e i f a b n d
  ·exact e j g c b d n
  ·omega
 ·rcases key i f a with ⟨_,a⟩|⟨_,rfl⟩
  ·exact P.wr i j f g a c b n d
  ·obtain⟨C,u,v⟩:=n;obtain⟨B,_,hi⟩:=o C u;exact S.wr B j C g hi c b v d
theorem aG.joinR{h0 h:ah}{T:Nat→Prop}{W R:List bc}(S:aG h0 T h W R)(l:List Nat)(i j:Nat){A:List bc}{f:bc}(k:W[i]? =some (cM A))(m:W[j]? =some f)(o:(l++[i,j]).Nodup:=by decide):
 aG h0 T h (Sh.pick W l++[cM (A++[f])]) R:=by
 have c:=S.join l [i,j] o;have n:Sh.pick W [i,j]=[cM A,f]:=by simp only[Sh.pick,k,m]
 rw[n]at c;have e:(Sh.pick W l++[cM [cM A,f]])[(Sh.pick W l).length]? =some (cM [cM A,f]):=by rw[WS]
 have S3:=c.turn (Sh.pick W l).length e (cM (A++[f])) (fun H g a=>by
  rcases VW.1 a with a|a
  ·exact H (cM A) (by simp) g a
  ·simp only[VK]at a;subst a;exact H g (by simp)) (fun b ⟨g,a,d⟩=>by
  rcases VW.1 a with a|a
  ·exact⟨cM A,by simp,g,a,d⟩
  ·simp only[VK]at a;subst a;exact⟨g,by simp,d⟩)
 rw[Wy _ _ (VX _),WD]at S3;exact S3
theorem aG.reads0{h0 h:ah}{T:Nat→Prop}{W R:List bc}(S:aG h0 T h W R):aG h0 T h (W++[cM []]) R:=
 S.join (List.range W.length) [] (by simpa using X1)|>fun P=>by
  have:Sh.pick W (List.range W.length)=W:=by
   have key: ∀(A B:List bc),Sh.pick (A++B) ((List.range B.length).map (· +A.length))=B:=by
    intro A B
    induction B generalizing A with
    |nil=>rfl
    |cons f B c=>
     rw[VS,List.range_succ_eq_map,Wc,Xa];simp only[Sh.pick];rw[Wl (by omega)];simp only[SN,WD,List.getElem?_cons_zero];congr 1;have a:=c (A++[f]);simp only[VY,List.singleton_append,Tz,WQ]at a;have b:List.map ((fun x=>x+A.length) ∘ Nat.succ) (List.range B.length)=List.map (fun x=>x+(A.length+1)) (List.range B.length):=by
      apply Wf;intro i _;simp;omega
     rw[b];exact a
   simpa using key [] W
  rw[this]at P;exact P
theorem oy{l:List Sc}{h:ah}{a:Addr}{K:TS l→Prop}(H:aT l h a K):aT l h a K:=H
theorem aH{a b:Int}{A B:Prop}(c:a=b→A)(d:a≠b→B):aI (a==b) A B:=⟨fun e=>c (by simpa using e),fun e=>d (by simpa using e)⟩
theorem bh{a b:Int}{A B:Prop}(c:a≠b→A)(d:a=b→B):aI (a !=b) A B:=⟨fun e=>c (by simpa using e),fun e=>d (by simpa using e)⟩
theorem bJ{b:Bool}{A B:Prop}(h:aI b B A):aI (!b) A B:=⟨fun e=>h.2 (by simpa using e),fun e=>h.1 (by simpa using e)⟩
theorem cX{b:Bool}{A:Prop}{B:Prop}(h:b=true→A)(a:b=false→B):aI b A B:=⟨h,a⟩
