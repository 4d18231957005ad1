/- ShA ShB ShM ShN, in one text. -/
import Derived.Test.YtdhpmegbmjoekaaGreatDoorShS
section
set_option linter.unusedVariables false
namespace Go.Sh
theorem C2 (x:Int) (m k:Nat) (hm:m+1=2 ^ k) (hk:k<63):cS .i64 x (m:Int)=x % ((m:Int)+1):=by
 have hb:IntKind.i64.bits=64:=rfl
 have e1:(BitVec.ofInt 64 (m:Int)).toNat=m:=by
  rw[BitVec.toNat_ofInt]
  have:m<2 ^ 64:=by
   have:(2:Nat) ^ k≤2 ^ 62:=Nat.pow_le_pow_right (by omega) (by omega)
   omega
  simp;omega
 have hpos:(0:Int)<(m:Int)+1:=by omega
 have e2:((BitVec.ofInt 64 x&&& BitVec.ofInt 64 (m:Int)).toNat:Int)=x % ((m:Int)+1):=by
  rw[BitVec.toNat_and,e1,BitVec.toNat_ofInt]
  have:m=2 ^ k-1:=by omega
  rw[this,Nat.and_two_pow_sub_one_eq_mod]
  have hd:((2 ^ k:Nat):Int) ∣ ((2 ^ 64:Nat):Int):=by
   refine⟨((2 ^ (64-k):Nat):Int),?_⟩
   rw[←Int.natCast_mul,←Nat.pow_add]
   congr 2;omega
  have hp:(0:Int)≤x % ((2 ^ 64:Nat):Int):=Int.emod_nonneg _ (by decide)
  rw[Int.natCast_emod,Int.toNat_of_nonneg hp,Int.emod_emod_of_dvd _ hd]
  congr 1
  have:(1:Nat)≤2 ^ k:=Nat.one_le_two_pow
  omega
 unfold cS
 rw[hb,e2]
 have h0:=Int.emod_nonneg x (b:=(m:Int)+1) (by omega)
 have h1:=Int.emod_lt_of_pos x hpos
 have:(2:Nat) ^ k≤2 ^ 62:=Nat.pow_le_pow_right (by omega) (by omega)
 exact al ⟨by omega,by omega⟩
theorem Jc (x:Int) {m:Int} (hm:0<m): -m<Int.tmod x m∧Int.tmod x m<m:=by
 constructor
 ·have:=Int.lt_tmod_of_pos x hm;omega
 ·exact Int.tmod_lt_of_pos x hm
end Go.Sh
end
section
set_option linter.unusedVariables false
namespace Go.Sh
def DX (bs:List UInt8):List Value:=bs.map fun b=>Value.int .u8 (b.toNat:Int)
def str (bs:List UInt8):ByteArray:=⟨bs.toArray⟩
theorem C3 (bs:List UInt8):(DX bs).length=bs.length:=by simp[DX]
theorem Jd (a b:List UInt8):DX (a++b)=DX a++DX b:=by simp[DX]
theorem Oz (bs:List UInt8): ∀y∈DX bs,mC y=true:=by
 intro y hy
 simp only[DX,List.mem_map] at hy
 obtain⟨b,_,rfl⟩:=hy;rfl
theorem jF (a b:List UInt8):str a++str b=str (a++b):=by
 apply ByteArray.ext
 simp[str,ByteArray.data_append]
theorem cE (a:List UInt8):(str a).size=a.length:=by simp[str,ByteArray.size]
theorem OB (a:List UInt8) (i:Nat):(str a)[i]? =a[i]? :=by
 by_cases h:i<a.length
 ·rw[List.getElem?_eq_getElem h,getElem?_pos (str a) i (by rw[cE];exact h)]
  rfl
 ·rw[List.getElem?_eq_none (by omega),getElem?_neg (str a) i (by rw[cE];exact h)]
theorem P2 (s:ByteArray): ∃bs:List UInt8,s=str bs:=⟨s.data.toList,by simp[str]⟩
theorem HF (bs:List UInt8): ∀(n i:Nat) (r:List UInt8),bs.length-i=n→ByteArray.toList.loop (str bs) i r=r.reverse++bs.drop i
 |0,i,r,h=>by
  unfold ByteArray.toList.loop
  rw[if_neg (by rw[cE];omega),List.drop_eq_nil_of_le (by omega),List.append_nil]
 |n+1,i,r,h=>by
  unfold ByteArray.toList.loop
  have hi:i<bs.length:=by omega
  rw[if_pos (by rw[cE];exact hi),HF bs n (i+1) _ (by omega)]
  have:(str bs).get! i=bs[i]:=by simp[str,ByteArray.get!,hi]
  rw[this,List.reverse_cons,List.append_assoc,List.drop_eq_getElem_cons hi]
  rfl
theorem C4 (bs:List UInt8):(str bs).toList=bs:=by
 unfold ByteArray.toList
 rw[HF bs bs.length 0 [] rfl]
 rfl
theorem Je (a b:List UInt8):((str a).toList==(str b).toList)=decide (a=b):=by
 rw[C4,C4,Bool.eq_iff_iff];simp
theorem Jf {p:Option Addr} {n:Nat} {h:ae} {bs:List UInt8} {K:ByteArray→Prop} (r:bT h p (DX bs)) (hl:bs.length=n) (H:K (str bs)):ME p n h K:=
 ⟨bs,r.readO (by rw[C3];exact hl),H⟩
theorem MW {s:ByteArray} {bs:List UInt8} {i:Int} {k:Nat} {b:UInt8} {K:UInt8→Prop} (hs:s=str bs) (hi:i=k) (hb:bs[k]? =some b) (H:K b):vT s i K:=by
 subst hs;subst hi
 exact⟨by omega,b,by rw[Int.toNat_natCast,OB];exact hb,H⟩
theorem kK {a b:ByteArray} {K:Unit→Prop} (h:a.size+b.size<2 ^ 62) (H:K ()):ov a b K:=by
 have e:IntKind.max .i64=2 ^ 63-1:=by decide
 exact⟨by rw[e];omega,H⟩
def kX (x:Int):UInt8:=UInt8.ofNat (x % 256).toNat
theorem Gi (x:Int):IntKind.wrap .u8 x=x % 256:=by
 simp only[IntKind.wrap,IntKind.bits,IntKind.signed];simp
theorem kY (x:Int):((kX x).toNat:Int)=x % 256:=by
 unfold kX
 have h0:=Int.emod_nonneg x (b:=256) (by decide)
 have h1:=Int.emod_lt_of_pos x (b:=256) (by decide)
 rw[UInt8.toNat_ofNat',Nat.mod_eq_of_lt (by omega),Int.toNat_of_nonneg h0]
theorem gU (x:Int):IntKind.wrap .u64 x=x % 18446744073709551616:=by
 simp only[IntKind.wrap,IntKind.bits,IntKind.signed];simp
theorem C5 (x:Int):IntKind.wrap .i32 x=(x+2147483648) % 4294967296-2147483648:=by
 simp only[IntKind.wrap,IntKind.bits,IntKind.signed];simp;omega
theorem Li (x:Int) (n:Nat):gz x n=x / 2 ^ n:=by
 unfold gz
 exact Int.fdiv_eq_ediv_of_nonneg _ (Int.pow_nonneg (by decide))
theorem xR (x:Int) (i:Nat):x / 256 ^ i / 256=x / 256 ^ (i+1):=by
 rw[Int.pow_succ,←Int.ediv_ediv_of_nonneg (Int.pow_nonneg (by decide))]
def low (x:Int):Nat→List UInt8
 |0=>[]
 |n+1=>kX x::low (x / 256) n
theorem bS (x:Int) (n:Nat):(low x n).length=n:=by
 induction n generalizing x with
 |zero=>rfl
 |succ n ih=>simp[low,ih]
theorem C6 (x:Int): ∀(n:Nat),low x (n+1)=low x n++[kX (x / 256 ^ n)]
 |0=>by simp[low]
 |n+1=>by
  rw[low,C6 (x / 256) n,low,Int.pow_succ',Int.ediv_ediv_of_nonneg (show(0:Int)≤256 by decide)]
  rfl
def uQ:List UInt8→Int
 |[]=>0
 |b::r=>b.toNat+256*uQ r
theorem Gj (x:Int): ∀(n:Nat),uQ (low x n)=x % 256 ^ n
 |0=>by simp[low,uQ]
 |n+1=>by
  simp only[low,uQ,kY,Gj (x / 256) n]
  have hp:(0:Int)<256 ^ n:=Int.pow_pos (by decide)
  rw[Int.pow_succ,Int.mul_comm (256 ^ n) 256]
  rw[Int.emod_def,Int.emod_def (x / 256),Int.emod_def x (256*256 ^ n),←Int.ediv_ediv_of_nonneg (show(0:Int)≤256 by decide)]
  rw[Int.mul_sub,Int.mul_assoc]
  omega
theorem pK: ∀(bs:List UInt8),0≤uQ bs∧uQ bs<256 ^ bs.length
 |[]=>by simp[uQ]
 |b::r=>by
  obtain⟨h0,h1⟩:=pK r
  have hb:b.toNat<256:=UInt8.toNat_lt b
  simp only[uQ,List.length_cons,Int.pow_succ]
  omega
theorem jP (bs:List UInt8) (i j:Nat):(str bs).extract i j=str ((bs.drop i).take (j-i)):=by
 apply ByteArray.ext
 simp[str,ByteArray.data_extract]
theorem C7: ∀(a b:List UInt8),uQ (a++b)=uQ a+256 ^ a.length*uQ b
 |[],b=>by simp[uQ]
 |x::r,b=>by
  simp only[List.cons_append,uQ,C7 r b,List.length_cons,Int.pow_succ]
  rw[Int.mul_add,Int.mul_comm (256 ^ r.length) 256,Int.mul_assoc]
  omega
theorem Ez {bs:List UInt8} {i:Nat} {b:UInt8} (hb:bs[i]? =some b):uQ (bs.take (i+1))=uQ (bs.take i)+b.toNat*256 ^ i:=by
 have hi:=(List.getElem?_eq_some_iff.1 hb).1
 have he:=(List.getElem?_eq_some_iff.1 hb).2
 rw[List.take_succ_eq_append_getElem hi,C7,he,List.length_take,Nat.min_eq_left (by omega)]
 simp only[uQ]
 rw[Int.mul_zero,Int.add_zero,Int.mul_comm]
theorem Ff {a b:Nat} (h:a≤b):(256:Int) ^ a≤256 ^ b:=by
 have:=Int.ofNat_le.2 (Nat.pow_le_pow_right (show 0<256 by decide) h)
 rw[Int.natCast_pow,Int.natCast_pow] at this
 exact this
theorem C8 (bs:List UInt8) (n:Nat) (h:bs.length≤n):0≤uQ bs∧uQ bs<256 ^ n:=by
 obtain⟨h0,h1⟩:=pK bs
 exact⟨h0,Int.lt_of_lt_of_le h1 (Ff h)⟩
theorem OC {x y:Int} {k:Nat} (hx:0≤x∧x<2 ^ k) (hy:0≤y) (hs:y*2 ^ k+x<2 ^ 64):DW .u64 x (y*2 ^ k)=x+y*2 ^ k:=by
 obtain⟨a,rfl⟩:=Int.eq_ofNat_of_zero_le hx.1
 obtain⟨c,rfl⟩:=Int.eq_ofNat_of_zero_le hy
 have ha:a<2 ^ k:=by
  apply Int.ofNat_lt.1
  rw[Int.natCast_pow];exact hx.2
 have hs':c*2 ^ k+a<2 ^ 64:=by
  apply Int.ofNat_lt.1
  rw[Int.natCast_add,Int.natCast_mul,Int.natCast_pow,Int.natCast_pow];exact hs
 have e1:(BitVec.ofInt 64 (a:Int)).toNat=a:=by
  rw[BitVec.ofInt_natCast,BitVec.toNat_ofNat,Nat.mod_eq_of_lt (by omega)]
 have e2:(BitVec.ofInt 64 ((c:Int)*2 ^ k)).toNat=c*2 ^ k:=by
  have:((c:Int)*2 ^ k)=((c*2 ^ k:Nat):Int):=by rw[Int.natCast_mul,Int.natCast_pow];rfl
  rw[this,BitVec.ofInt_natCast,BitVec.toNat_ofNat,Nat.mod_eq_of_lt (by omega)]
 unfold DW
 have hb:IntKind.u64.bits=64:=rfl
 rw[hb,BitVec.toNat_or,e1,e2]
 have e3:a|||c*2 ^ k=c*2 ^ k+a:=by
  rw[Nat.or_comm,Nat.mul_comm,←Nat.two_pow_add_eq_or_of_lt ha]
 rw[e3,gU,Int.emod_eq_of_lt (by omega) (by omega),Int.natCast_add,Int.natCast_mul,Int.natCast_pow]
 exact Int.add_comm _ _
end Go.Sh
end
section
set_option linter.unusedVariables false
namespace Go.Sh
theorem aK.pw {h0 h:ae} {T:Nat→Prop} {W R:List bi} (S:aK h0 T h W R) (l:List Nat) (hl:l.Nodup:=by decide):aK h0 T h (Sh.pick W l) R:=
 ⟨S.fra,fun k f hf=>by obtain⟨i,_,hi⟩:=dn hf;exact S.w i f hi,S.r,fun k f hf=>by obtain⟨i,_,hi⟩:=dn hf;exact S.ok i f hi,nl S.ww hl,
  fun i j f g hf hg=>by obtain⟨i',_,hi⟩:=dn hf;exact S.wr i' j f g hi hg⟩
theorem aK.turn {h0 h:ae} {T:Nat→Prop} {W R:List bi} (S:aK h0 T h W R) (i:Nat) {f:bi} (e:W[i]? =some f) (f':bi) (hp:f.P h→f'.P h) (hs: ∀b,f'.foot b→f.foot b):aK h0 T h (W.set i f') R:=
 S.upd i e f' (cu.refl _ _) (hp (S.w i f e)) fun b hb=> .inl (hs b hb)
theorem aK.toOwn {h0 h:ae} {T:Nat→Prop} {W R:List bi} (S:aK h0 T h W R) (i:Nat) (sz l c:Nat) {b:Nat} {cs:List Value} (hc:cs.length=c*sz) (hl:l≤c) (e:W[i]? =some (blk b cs):=by rfl):
 aK h0 T h (W.set i (Sh.own sz (some ⟨b,0,none⟩) l c (cs.take (l*sz)))) R:=by
 refine S.turn i e _ (fun hat=> ?_) fun j hj=> ?_
 ·have hle:l*sz≤cs.length:=by rw[hc];exact Nat.mul_le_mul_right _ hl
  refine⟨by rw[List.length_take];omega,hl,.inr ⟨b,cs,rfl,Nat.zero_le _,hat,hc,?_⟩⟩
  rw[List.length_take,Nat.min_eq_left hle]
 ·obtain⟨a,ha,rfl⟩:=hj;cases ha;rfl
theorem wh (zs:List Value) (sz:Nat) (hz:zs.length=sz): ∀(n:Nat),(List.range (n*sz)).map (fun i=>zs.toArray[i % zs.toArray.size]!)=(List.replicate n zs).flatten
 |0=>by simp
 |n+1=>by
  rw[List.replicate_succ',List.flatten_append,←wh zs sz hz n,Nat.add_mul,Nat.one_mul,List.range_add,List.map_append]
  congr 1
  simp only[List.flatten_cons,List.flatten_nil,List.append_nil,List.map_map]
  apply List.ext_getElem?
  intro i
  by_cases hi:i<sz
  ·rw[List.getElem?_map,List.getElem?_range hi]
   simp only[Option.map_some,Function.comp_apply]
   have:(n*sz+i) % zs.toArray.size=i:=by
    simp only[List.size_toArray,hz]
    rw[Nat.mul_comm,Nat.mul_add_mod,Nat.mod_eq_of_lt hi]
   rw[this,List.getElem?_eq_getElem (by omega)]
   simp[hz,hi]
  ·rw[List.getElem?_eq_none (by simp;omega),List.getElem?_eq_none (by omega)]
theorem iG {h0 h:ae} {T:Nat→Prop} {W R:List bi} (S:aK h0 T h W R) {e sz by_:Nat} {z:Value} {l:Int} {zs:List Value} {K:Nat→ae→Prop} (n:Nat) (hl:l=n) (hz:z.cells=zs.toArray) (hzs:zs.length=sz) (hsz:sz≠0) (hn:n<2 ^ 62) (hb:by_*n≤2 ^ 48)
 (H: ∀b h',b=h.size→aK h0 T h' (W++[blk b (List.replicate n zs).flatten]) R→K b h'):zW e sz by_ z l l h K:=by
 subst hl
 refine⟨hsz,by omega,Int.le_refl _,by omega,by exact_mod_cast hb,?_⟩
 have ec:((Array.range ((n:Int).toNat*sz)).map (z.cells[· % z.cells.size]!))=(List.replicate n zs).flatten.toArray:=by
  rw[hz,Int.toNat_natCast,←wh zs sz hzs n]
  apply Array.ext'
  simp[Array.toList_map,Array.toList_range]
 rw[ec]
 exact aC S H
theorem lH (n:Nat) (v:Value):(List.replicate n [v]).flatten=List.replicate n v:=by
 induction n with
 |zero=>rfl
 |succ n ih=>rw[List.replicate_succ,List.flatten_cons,ih,List.replicate_succ];rfl
theorem C9 {h0 h:ae} {T:Nat→Prop} {W R:List bi} (S:aK h0 T h W R) (i:Nat) {sz:Nat} {a:Addr} {l c k:Nat} {xs:List Value} {v:Value} {K:ae→Prop} (e:W[i]? =some (own sz (some a) l c xs)) (hk:k<xs.length)
 (H: ∀h',h'.size=h.size→aK h0 T h' (W.set i (own sz (some a) l c (xs.set k v))) R→K h'):bu h (Addr.add a k) v K:=by
 obtain⟨h1,h2,⟨e',_⟩|⟨b,cs,e',hb,hat,hlen,ht⟩⟩:=S.own i e
 ·cases e'
 ·cases e'
  rw[aY,Nat.zero_add]
  have hle:xs.length≤cs.length:=by rw[←ht];simp;omega
  refine MZ hat (by omega) fun h' hs hat' hf=>H h' hs (S.upd i e _ (hf.mono fun j _ hj=>⟨_,rfl,hj.symm⟩) ⟨?_,h2,.inr ⟨b,_,rfl,hb,hat',by simpa using hlen,?_⟩⟩ fun _ h=> .inl h)
  ·simpa using h1
  ·rw[List.length_set,List.take_set,ht]
end Go.Sh
end
section
namespace Go.Sh
set_option linter.unusedVariables false
theorem P3 {s:Sc} {h:ae} {a:Addr} {x:s.T} {K:s.T→Prop} (hc:aD h a=some (s.mk x)) (H:K x):QD s h a K:=by
 cases s
 case slice=>exact⟨x.1,x.2.1,x.2.2,hc,H⟩
 all_goals exact⟨x,hc,H⟩
theorem HG: ∀{l:List Sc} {h:ae} {a:Addr} {i:Nat} {x:TS l} {K:TS l→Prop},(∀j v,(aP l x)[j]? =some v→aD h (Addr.add a (i+j))=some v)→K x→IJ l h a i K
 |[],_,_,_,_,_,_,H=>H
 |s::r,h,a,i,x,K,hc,H=>by
  refine P3 (x:=x.1) (by have:=hc 0 (s.mk x.1) rfl;rwa [Nat.add_zero] at this) ?_
  refine HG (x:=x.2) (fun j v hv=> ?_) H
  have:=hc (j+1) v (by simpa[aP] using hv)
  rwa [show i+(j+1)=i+1+j by omega] at this
theorem Gk {l:List Sc} {h:ae} {a:Addr} {x:TS l} {K:TS l→Prop} (hc: ∀j v,(aP l x)[j]? =some v→aD h (Addr.add a j)=some v) (H:K x):aX l h a K:=
 HG (fun j v hv=>by rw[Nat.zero_add];exact hc j v hv) H
theorem At.agg {h:ae} {b:Nat} {cs vs:List Value} (a:At h b cs) (hx:cs=vs): ∀j v,vs[j]? =some v→aD h (Addr.add ⟨b,0,none⟩ j)=some v:=fun j v hv=>by
 rw[aY,Nat.zero_add];exact a.cell (by rw[hx];exact hv)
theorem aQ {h0 h:ae} {T:Nat→Prop} {W R:List bi} (S:aK h0 T h W R) (i:Nat) {b:Nat} {cs:List Value} {l:List Sc} {x:TS l} {K:TS l→Prop} (e:W[i]? =some (blk b cs)) (hx:cs=aP l x) (H:K x):aX l h ⟨b,0,none⟩ K:=
 Gk ((S.at i e).agg hx) H
theorem Kl {h:ae} {K:Prop} (k:Nat) {a:Addr}: ∀{vs:List Value} {i:Nat},(∀j v,vs[j]? =some v→aD h (Addr.add a (i+j))=some v)→K→gC (df k a vs i) h K
 |[],_,_,H=>H
 |y::r,i,hc,H=>by
  refine⟨by have:=hc 0 y rfl;rwa [Nat.add_zero] at this,Kl k (fun j v hv=> ?_) H⟩
  have:=hc (j+1) v (by simpa using hv)
  rwa [show i+(j+1)=i+1+j by omega] at this
theorem eW {h0 h:ae} {T:Nat→Prop} {W R:List bi} (S:aK h0 T h W R) (i:Nat) {b k:Nat} {cs vs:List Value} {K:Prop} (e:W[i]? =some (blk b cs)) (hx:cs=vs) (H:K):gC (df k ⟨b,0,none⟩ vs 0) h K:=
 Kl k (fun j v hv=>by rw[Nat.zero_add];exact(S.at i e).agg hx j v hv) H
theorem P4 {s:Sc} (x:s.T) {K:s.T→Prop} (H:K x):QE s K:=by
 cases s
 case slice=>exact⟨x.1,x.2.1,x.2.2,H⟩
 all_goals exact⟨x,H⟩
theorem jQ: ∀{l:List Sc} (x:TS l) {K:TS l→Prop},K x→E3 l K
 |[],_,_,H=>H
 |s::r,x,K,H=>P4 x.1 (jQ x.2 H)
def Sc.plain:Sc→Bool
 | .any=>false
 |_=>true
theorem bC: ∀{l:List Sc} {x:TS l},l.all Sc.plain=true→ ∀y∈aP l x,mC y=true
 |[],_,_,y,hy=>by cases hy
 |s::r,x,hl,y,hy=>by
  simp only[List.all_cons,Bool.and_eq_true] at hl
  rcases List.mem_cons.1 hy with rfl|hy
  ·cases s<;>first|rfl|(exact absurd hl.1 (by decide))
  ·exact bC hl.2 y hy
theorem Km: ∀{l:List Sc} {x:TS l},(aP l x).length=l.length
 |[],_=>rfl
 |s::r,x=>by simp[aP,Km (l:=r)]
theorem cG {h0 h:ae} {T:Nat→Prop} {W R:List bi} (S:aK h0 T h W R) (i:Nat) {b:Nat} {cs vs:List Value} {K:ae→Prop} (e:W[i]? =some (blk b cs)) (hl:cs.length=vs.length) (h1: ∀y∈vs,mC y=true)
 (H: ∀h',h'.size=h.size→aK h0 T h' (W.set i (blk b vs)) R→K h'):bt vs h ⟨b,0,none⟩ 0 K:=by
 refine np vs h cs 0 0 (S.at i e) (by omega) h1 fun h' hs hat hf=>H h' hs (S.upd i e _ hf ?_ fun _ h=> .inl h)
 have:cs.take (0+0)++vs++cs.drop (0+0+vs.length)=vs:=by
  rw[List.take_zero,List.nil_append,List.drop_of_length_le (by omega),List.append_nil]
 rw[this] at hat
 exact hat
theorem P5 {h0 h:ae} {T:Nat→Prop} {W R:List bi} (S:aK h0 T h W R) (i:Nat) {sz:Nat} {a:Addr} {l c k:Nat} {xs vs:List Value} {K:ae→Prop} (e:W[i]? =some (own sz (some a) l c xs)) (hk:k+vs.length≤xs.length) (h1: ∀y∈vs,mC y=true)
 (H: ∀h',h'.size=h.size→aK h0 T h' (W.set i (own sz (some a) l c (xs.take k++vs++xs.drop (k+vs.length)))) R→K h'):bt vs h (Addr.add a k) 0 K:=by
 obtain⟨o1,o2,⟨e',_⟩|⟨b,cs,e',hb,hat,hlen,ht⟩⟩:=S.own i e
 ·cases e'
 ·cases e'
  rw[aY,Nat.zero_add]
  have hle:xs.length≤cs.length:=by rw[←ht];simp;omega
  refine np vs h cs k 0 hat (by omega) h1 fun h' hs hat' hf=>H h' hs (S.upd i e _ (hf.mono fun j _ hj=>⟨_,rfl,hj.symm⟩) ⟨?_,o2,.inr ⟨b,_,rfl,hb,hat',?_,?_⟩⟩ fun _ h=> .inl h)
  ·rw[←o1];simp;omega
  ·rw[←hlen];simp;omega
  ·simp only[Nat.add_zero]
   have e1:(xs.take k++vs++xs.drop (k+vs.length)).length=xs.length:=by simp;omega
   have e2:xs.take k=cs.take k:=by rw[←ht,List.take_take,Nat.min_eq_left (by omega)]
   rw[e1,e2]
   apply List.ext_getElem?
   intro j
   by_cases hj:j<xs.length
   ·rw[List.getElem?_take,if_pos hj]
    by_cases hj2:j<k+vs.length
    ·rw[List.getElem?_append_left (l₁:=cs.take k++vs) (l₂:=cs.drop (k+vs.length)) (by simp only[List.length_append,List.length_take];omega),List.getElem?_append_left (l₁:=cs.take k++vs) (l₂:=xs.drop (k+vs.length)) (by simp only[List.length_append,List.length_take];omega)]
    ·rw[List.getElem?_append_right (l₁:=cs.take k++vs) (l₂:=cs.drop (k+vs.length)) (by simp only[List.length_append,List.length_take];omega),List.getElem?_append_right (l₁:=cs.take k++vs) (l₂:=xs.drop (k+vs.length)) (by simp only[List.length_append,List.length_take];omega),List.getElem?_drop,List.getElem?_drop]
     have e3:xs[k+vs.length+(j-(cs.take k++vs).length)]? =cs[k+vs.length+(j-(cs.take k++vs).length)]? :=by
      conv=>lhs;rw[←ht]
      rw[List.getElem?_take,if_pos]
      simp;omega
     rw[e3]
   ·rw[List.getElem?_eq_none (by simp;omega),List.getElem?_eq_none (by simp;omega)]
theorem aK.join {h0 h:ae} {T:Nat→Prop} {W R:List bi} (S:aK h0 T h W R) (l m:List Nat) (hl:(l++m).Nodup:=by decide):aK h0 T h (Sh.pick W l++[cA (Sh.pick W m)]) R:=by
 have hl':=List.nodup_append.1 hl
 have P:=S.pw l hl'.1
 have key: ∀(i:Nat) (f:bi),(Sh.pick W l++[cA (Sh.pick W m)])[i]? =some f→(i<(Sh.pick W l).length∧(Sh.pick W l)[i]? =some f)∨(i=(Sh.pick W l).length∧f=cA (Sh.pick W m)):=fun i f hf=>by
  rw[List.getElem?_append] at hf
  split at hf
  ·exact .inl ⟨by assumption,hf⟩
  ·rw[List.getElem?_singleton] at hf
   split at hf
   ·cases hf;exact .inr ⟨by omega,rfl⟩
   ·cases hf
 have inm: ∀g∈Sh.pick W m,∃i,i∈m∧W[i]? =some g:=fun g hg=>by
  obtain⟨k,hk⟩:=List.getElem?_of_mem hg
  exact dn hk
 have hold:(cA (Sh.pick W m)).P h:=fun g hg=>by obtain⟨i,_,hi⟩:=inm g hg;exact S.w i g hi
 have apart: ∀(i:Nat) (f:bi),(Sh.pick W l)[i]? =some f→ ∀b,f.foot b→(cA (Sh.pick W m)).foot b→False:=fun i f hf b hb ⟨g,hg,hgb⟩=>by
  obtain⟨i',hi',hi⟩:=dn hf
  obtain⟨j',hj',hj⟩:=inm g hg
  exact S.ww i' j' f g hi hj (hl'.2.2 _ hi' _ hj') b hb hgb
 refine⟨S.fra,fun i f hf=> ?_,S.r,fun i f hf b hb hlt=> ?_,fun i j f g hf hg hij b hb hb'=> ?_,fun i j f g hf hg b hb hb'=> ?_⟩
 ·rcases key i f hf with ⟨_,hf⟩|⟨_,rfl⟩
  ·exact P.w i f hf
  ·exact hold
 ·rcases key i f hf with ⟨_,hf⟩|⟨_,rfl⟩
  ·exact P.ok i f hf b hb hlt
  ·obtain⟨g,hg,hgb⟩:=hb
   obtain⟨j,_,hj⟩:=inm g hg
   exact S.ok j g hj b hgb hlt
 ·rcases key i f hf with ⟨h1,hf⟩|⟨h1,rfl⟩<;>rcases key j g hg with ⟨h2,hg⟩|⟨h2,rfl⟩
  ·exact P.ww i j f g hf hg hij b hb hb'
  ·exact apart i f hf b hb hb'
  ·exact apart j g hg b hb' hb
  ·omega
 ·rcases key i f hf with ⟨_,hf⟩|⟨_,rfl⟩
  ·exact P.wr i j f g hf hg b hb hb'
  ·obtain⟨f',hf',hfb⟩:=hb
   obtain⟨i',_,hi⟩:=inm f' hf'
   exact S.wr i' j f' g hi hg b hfb hb'
theorem aK.joinR {h0 h:ae} {T:Nat→Prop} {W R:List bi} (S:aK h0 T h W R) (l:List Nat) (i j:Nat) {A:List bi} {f:bi} (e1:W[i]? =some (cA A)) (e2:W[j]? =some f) (hl:(l++[i,j]).Nodup:=by decide):
 aK h0 T h (Sh.pick W l++[cA (A++[f])]) R:=by
 have S2:=S.join l [i,j] hl
 have ep:Sh.pick W [i,j]=[cA A,f]:=by simp only[Sh.pick,e1,e2]
 rw[ep] at S2
 have e:(Sh.pick W l++[cA [cA A,f]])[(Sh.pick W l).length]? =some (cA [cA A,f]):=by rw[List.getElem?_concat_length]
 have S3:=S2.turn (Sh.pick W l).length e (cA (A++[f])) (fun H g hg=>by
  rcases List.mem_append.1 hg with hg|hg
  ·exact H (cA A) (by simp) g hg
  ·simp only[List.mem_singleton] at hg;subst hg;exact H g (by simp)) (fun b ⟨g,hg,hb⟩=>by
  rcases List.mem_append.1 hg with hg|hg
  ·exact⟨cA A,by simp,g,hg,hb⟩
  ·simp only[List.mem_singleton] at hg;subst hg;exact⟨g,by simp,hb⟩)
 rw[List.set_append_right _ _ (Nat.le_refl _),Nat.sub_self] at S3
 exact S3
theorem aK.reads0 {h0 h:ae} {T:Nat→Prop} {W R:List bi} (S:aK h0 T h W R):aK h0 T h (W++[cA []]) R:=
 S.join (List.range W.length) [] (by simpa using List.nodup_range)|>fun P=>by
  have:Sh.pick W (List.range W.length)=W:=by
   have key: ∀(A B:List bi),Sh.pick (A++B) ((List.range B.length).map (· +A.length))=B:=by
    intro A B
    induction B generalizing A with
    |nil=>rfl
    |cons f B ih=>
     rw[List.length_cons,List.range_succ_eq_map,List.map_cons,List.map_map]
     simp only[Sh.pick]
     rw[List.getElem?_append_right (by omega)]
     simp only[Nat.zero_add,Nat.sub_self,List.getElem?_cons_zero]
     congr 1
     have h1:=ih (A++[f])
     simp only[List.append_assoc,List.singleton_append,List.length_append,List.length_singleton] at h1
     have h2:List.map ((fun x=>x+A.length) ∘ Nat.succ) (List.range B.length)=List.map (fun x=>x+(A.length+1)) (List.range B.length):=by
      apply List.map_congr_left;intro i _;simp;omega
     rw[h2];exact h1
   simpa using key [] W
  rw[this] at P
  exact P
theorem oB {l:List Sc} {h:ae} {a:Addr} {K:TS l→Prop} (H:aX l h a K):aX l h a K:=H
theorem aO {a b:Int} {A B:Prop} (ha:a=b→A) (hb:a≠b→B):aL (a==b) A B:=⟨fun e=>ha (by simpa using e),fun e=>hb (by simpa using e)⟩
theorem bj {a b:Int} {A B:Prop} (ha:a≠b→A) (hb:a=b→B):aL (a !=b) A B:=⟨fun e=>ha (by simpa using e),fun e=>hb (by simpa using e)⟩
theorem bN {b:Bool} {A B:Prop} (h:aL b B A):aL (!b) A B:=⟨fun e=>h.2 (by simpa using e),fun e=>h.1 (by simpa using e)⟩
theorem hZ {b:Bool} {A:Prop} {B:Prop} (h:b=true→A) (h':b=false→B):aL b A B:=⟨h,h'⟩
end Go.Sh
end
