/- ShA ShB ShM ShN, in one text. -/
import Derived.Test.YtdhpmegbmjoekaaGreatDoorShS
section
set_option linter.unusedVariables false
namespace Go.Sh
theorem andI_low (x:Int) (m k:Nat) (hm:m+1=2 ^ k) (hk:k<63):andI .i64 x (m:Int)=x % ((m:Int)+1):=by
 have hb:IntKind.i64.bits=64:=rfl
 have e1:(BitVec.ofInt 64 (m:Int)).toNat=m:=by
  rw[BitVec.toNat_ofInt]
  have:m<2 ^ 64:=by
   have:(2:Nat) ^ k≤2 ^ 62:=Nat.pow_le_pow_right (by omega) (by omega)
   omega
  simp;omega
 have hpos:(0:Int)<(m:Int)+1:=by omega
 have e2:((BitVec.ofInt 64 x&&& BitVec.ofInt 64 (m:Int)).toNat:Int)=x % ((m:Int)+1):=by
  rw[BitVec.toNat_and,e1,BitVec.toNat_ofInt]
  have:m=2 ^ k-1:=by omega
  rw[this,Nat.and_two_pow_sub_one_eq_mod]
  have hd:((2 ^ k:Nat):Int) ∣ ((2 ^ 64:Nat):Int):=by
   refine⟨((2 ^ (64-k):Nat):Int),?_⟩
   rw[←Int.natCast_mul,←Nat.pow_add]
   congr 2;omega
  have hp:(0:Int)≤x % ((2 ^ 64:Nat):Int):=Int.emod_nonneg _ (by decide)
  rw[Int.natCast_emod,Int.toNat_of_nonneg hp,Int.emod_emod_of_dvd _ hd]
  congr 1
  have:(1:Nat)≤2 ^ k:=Nat.one_le_two_pow
  omega
 unfold andI
 rw[hb,e2]
 have h0:=Int.emod_nonneg x (b:=(m:Int)+1) (by omega)
 have h1:=Int.emod_lt_of_pos x hpos
 have:(2:Nat) ^ k≤2 ^ 62:=Nat.pow_le_pow_right (by omega) (by omega)
 exact wrap64_in ⟨by omega,by omega⟩
theorem tmod_bound (x:Int) {m:Int} (hm:0<m): -m<Int.tmod x m∧Int.tmod x m<m:=by
 constructor
 ·have:=Int.lt_tmod_of_pos x hm;omega
 ·exact Int.tmod_lt_of_pos x hm
end Go.Sh
end
section
set_option linter.unusedVariables false
namespace Go.Sh
def u8s (bs:List UInt8):List Value:=bs.map fun b=>Value.int .u8 (b.toNat:Int)
def str (bs:List UInt8):ByteArray:=⟨bs.toArray⟩
theorem u8s_length (bs:List UInt8):(u8s bs).length=bs.length:=by simp[u8s]
theorem u8s_append (a b:List UInt8):u8s (a++b)=u8s a++u8s b:=by simp[u8s]
theorem u8s_one (bs:List UInt8): ∀y∈u8s bs,one1 y=true:=by
 intro y hy
 simp only[u8s,List.mem_map] at hy
 obtain⟨b,_,rfl⟩:=hy;rfl
theorem str_append (a b:List UInt8):str a++str b=str (a++b):=by
 apply ByteArray.ext
 simp[str,ByteArray.data_append]
theorem str_size (a:List UInt8):(str a).size=a.length:=by simp[str,ByteArray.size]
theorem str_get (a:List UInt8) (i:Nat):(str a)[i]? =a[i]? :=by
 by_cases h:i<a.length
 ·rw[List.getElem?_eq_getElem h,getElem?_pos (str a) i (by rw[str_size];exact h)]
  rfl
 ·rw[List.getElem?_eq_none (by omega),getElem?_neg (str a) i (by rw[str_size];exact h)]
theorem loop_str (bs:List UInt8): ∀(n i:Nat) (r:List UInt8),bs.length-i=n→ByteArray.toList.loop (str bs) i r=r.reverse++bs.drop i
 |0,i,r,h=>by
  unfold ByteArray.toList.loop
  rw[if_neg (by rw[str_size];omega),List.drop_eq_nil_of_le (by omega),List.append_nil]
 |n+1,i,r,h=>by
  unfold ByteArray.toList.loop
  have hi:i<bs.length:=by omega
  rw[if_pos (by rw[str_size];exact hi),loop_str bs n (i+1) _ (by omega)]
  have:(str bs).get! i=bs[i]:=by simp[str,ByteArray.get!,hi]
  rw[this,List.reverse_cons,List.append_assoc,List.drop_eq_getElem_cons hi]
  rfl
theorem str_toList (bs:List UInt8):(str bs).toList=bs:=by
 unfold ByteArray.toList
 rw[loop_str bs bs.length 0 [] rfl]
 rfl
theorem toList_beq (a b:List UInt8):((str a).toList==(str b).toList)=decide (a=b):=by
 rw[str_toList,str_toList,Bool.eq_iff_iff];simp
theorem b2sB_i {p:Option Addr} {n:Nat} {h:Heap} {bs:List UInt8} {K:ByteArray→Prop} (r:Row h p (u8s bs)) (hl:bs.length=n) (H:K (str bs)):b2sB p n h K:=
 ⟨bs,r.readO (by rw[u8s_length];exact hl),H⟩
theorem strI_i {s:ByteArray} {bs:List UInt8} {i:Int} {k:Nat} {b:UInt8} {K:UInt8→Prop} (hs:s=str bs) (hi:i=k) (hb:bs[k]? =some b) (H:K b):strI s i K:=by
 subst hs;subst hi
 exact⟨by omega,b,by rw[Int.toNat_natCast,str_get];exact hb,H⟩
theorem addStrI_i {a b:ByteArray} {K:Unit→Prop} (h:a.size+b.size<2 ^ 62) (H:K ()):addStrI a b K:=by
 have e:IntKind.max .i64=2 ^ 63-1:=by decide
 exact⟨by rw[e];omega,H⟩
def lowByte (x:Int):UInt8:=UInt8.ofNat (x % 256).toNat
theorem wrap_u8 (x:Int):IntKind.wrap .u8 x=x % 256:=by
 simp only[IntKind.wrap,IntKind.bits,IntKind.signed];simp
theorem lowByte_toNat (x:Int):((lowByte x).toNat:Int)=x % 256:=by
 unfold lowByte
 have h0:=Int.emod_nonneg x (b:=256) (by decide)
 have h1:=Int.emod_lt_of_pos x (b:=256) (by decide)
 rw[UInt8.toNat_ofNat',Nat.mod_eq_of_lt (by omega),Int.toNat_of_nonneg h0]
theorem wrap_u64 (x:Int):IntKind.wrap .u64 x=x % 18446744073709551616:=by
 simp only[IntKind.wrap,IntKind.bits,IntKind.signed];simp
theorem wrap_i32 (x:Int):IntKind.wrap .i32 x=(x+2147483648) % 4294967296-2147483648:=by
 simp only[IntKind.wrap,IntKind.bits,IntKind.signed];simp;omega
theorem shrI_ediv (x:Int) (n:Nat):shrI x n=x / 2 ^ n:=by
 unfold shrI
 exact Int.fdiv_eq_ediv_of_nonneg _ (Int.pow_nonneg (by decide))
theorem div_pow_succ (x:Int) (i:Nat):x / 256 ^ i / 256=x / 256 ^ (i+1):=by
 rw[Int.pow_succ,←Int.ediv_ediv_of_nonneg (Int.pow_nonneg (by decide))]
def low (x:Int):Nat→List UInt8
 |0=>[]
 |n+1=>lowByte x::low (x / 256) n
theorem low_length (x:Int) (n:Nat):(low x n).length=n:=by
 induction n generalizing x with
 |zero=>rfl
 |succ n ih=>simp[low,ih]
theorem low_snoc (x:Int): ∀(n:Nat),low x (n+1)=low x n++[lowByte (x / 256 ^ n)]
 |0=>by simp[low]
 |n+1=>by
  rw[low,low_snoc (x / 256) n,low,Int.pow_succ',Int.ediv_ediv_of_nonneg (show(0:Int)≤256 by decide)]
  rfl
def num:List UInt8→Int
 |[]=>0
 |b::r=>b.toNat+256*num r
theorem num_low (x:Int): ∀(n:Nat),num (low x n)=x % 256 ^ n
 |0=>by simp[low,num]
 |n+1=>by
  simp only[low,num,lowByte_toNat,num_low (x / 256) n]
  have hp:(0:Int)<256 ^ n:=Int.pow_pos (by decide)
  rw[Int.pow_succ,Int.mul_comm (256 ^ n) 256]
  rw[Int.emod_def,Int.emod_def (x / 256),Int.emod_def x (256*256 ^ n),←Int.ediv_ediv_of_nonneg (show(0:Int)≤256 by decide)]
  rw[Int.mul_sub,Int.mul_assoc]
  omega
theorem num_range: ∀(bs:List UInt8),0≤num bs∧num bs<256 ^ bs.length
 |[]=>by simp[num]
 |b::r=>by
  obtain⟨h0,h1⟩:=num_range r
  have hb:b.toNat<256:=UInt8.toNat_lt b
  simp only[num,List.length_cons,Int.pow_succ]
  omega
theorem str_extract (bs:List UInt8) (i j:Nat):(str bs).extract i j=str ((bs.drop i).take (j-i)):=by
 apply ByteArray.ext
 simp[str,ByteArray.data_extract]
theorem num_append: ∀(a b:List UInt8),num (a++b)=num a+256 ^ a.length*num b
 |[],b=>by simp[num]
 |x::r,b=>by
  simp only[List.cons_append,num,num_append r b,List.length_cons,Int.pow_succ]
  rw[Int.mul_add,Int.mul_comm (256 ^ r.length) 256,Int.mul_assoc]
  omega
theorem num_take_succ {bs:List UInt8} {i:Nat} {b:UInt8} (hb:bs[i]? =some b):num (bs.take (i+1))=num (bs.take i)+b.toNat*256 ^ i:=by
 have hi:=(List.getElem?_eq_some_iff.1 hb).1
 have he:=(List.getElem?_eq_some_iff.1 hb).2
 rw[List.take_succ_eq_append_getElem hi,num_append,he,List.length_take,Nat.min_eq_left (by omega)]
 simp only[num]
 rw[Int.mul_zero,Int.add_zero,Int.mul_comm]
theorem pow256_le {a b:Nat} (h:a≤b):(256:Int) ^ a≤256 ^ b:=by
 have:=Int.ofNat_le.2 (Nat.pow_le_pow_right (show 0<256 by decide) h)
 rw[Int.natCast_pow,Int.natCast_pow] at this
 exact this
theorem num_range' (bs:List UInt8) (n:Nat) (h:bs.length≤n):0≤num bs∧num bs<256 ^ n:=by
 obtain⟨h0,h1⟩:=num_range bs
 exact⟨h0,Int.lt_of_lt_of_le h1 (pow256_le h)⟩
theorem orI_add {x y:Int} {k:Nat} (hx:0≤x∧x<2 ^ k) (hy:0≤y) (hs:y*2 ^ k+x<2 ^ 64):orI .u64 x (y*2 ^ k)=x+y*2 ^ k:=by
 obtain⟨a,rfl⟩:=Int.eq_ofNat_of_zero_le hx.1
 obtain⟨c,rfl⟩:=Int.eq_ofNat_of_zero_le hy
 have ha:a<2 ^ k:=by
  apply Int.ofNat_lt.1
  rw[Int.natCast_pow];exact hx.2
 have hs':c*2 ^ k+a<2 ^ 64:=by
  apply Int.ofNat_lt.1
  rw[Int.natCast_add,Int.natCast_mul,Int.natCast_pow,Int.natCast_pow];exact hs
 have e1:(BitVec.ofInt 64 (a:Int)).toNat=a:=by
  rw[BitVec.ofInt_natCast,BitVec.toNat_ofNat,Nat.mod_eq_of_lt (by omega)]
 have e2:(BitVec.ofInt 64 ((c:Int)*2 ^ k)).toNat=c*2 ^ k:=by
  have:((c:Int)*2 ^ k)=((c*2 ^ k:Nat):Int):=by rw[Int.natCast_mul,Int.natCast_pow];rfl
  rw[this,BitVec.ofInt_natCast,BitVec.toNat_ofNat,Nat.mod_eq_of_lt (by omega)]
 unfold orI
 have hb:IntKind.u64.bits=64:=rfl
 rw[hb,BitVec.toNat_or,e1,e2]
 have e3:a|||c*2 ^ k=c*2 ^ k+a:=by
  rw[Nat.or_comm,Nat.mul_comm,←Nat.two_pow_add_eq_or_of_lt ha]
 rw[e3,wrap_u64,Int.emod_eq_of_lt (by omega) (by omega),Int.natCast_add,Int.natCast_mul,Int.natCast_pow]
 exact Int.add_comm _ _
end Go.Sh
end
section
set_option linter.unusedVariables false
namespace Go.Sh
theorem Sep.pw {h0 h:Heap} {T:Nat→Prop} {W R:List Fact} (S:Sep h0 T h W R) (l:List Nat) (hl:l.Nodup:=by decide):Sep h0 T h (Sh.pick W l) R:=
 ⟨S.fra,fun k f hf=>by obtain⟨i,_,hi⟩:=pick_mem hf;exact S.w i f hi,S.r,fun k f hf=>by obtain⟨i,_,hi⟩:=pick_mem hf;exact S.ok i f hi,pick_apart S.ww hl,
  fun i j f g hf hg=>by obtain⟨i',_,hi⟩:=pick_mem hf;exact S.wr i' j f g hi hg⟩
theorem Sep.turn {h0 h:Heap} {T:Nat→Prop} {W R:List Fact} (S:Sep h0 T h W R) (i:Nat) {f:Fact} (e:W[i]? =some f) (f':Fact) (hp:f.P h→f'.P h) (hs: ∀b,f'.foot b→f.foot b):Sep h0 T h (W.set i f') R:=
 S.upd i e f' (Fra.refl _ _) (hp (S.w i f e)) fun b hb=> .inl (hs b hb)
theorem Sep.toOwn {h0 h:Heap} {T:Nat→Prop} {W R:List Fact} (S:Sep h0 T h W R) (i:Nat) (sz l c:Nat) {b:Nat} {cs:List Value} (hc:cs.length=c*sz) (hl:l≤c) (e:W[i]? =some (blk b cs):=by rfl):
 Sep h0 T h (W.set i (Sh.own sz (some ⟨b,0,none⟩) l c (cs.take (l*sz)))) R:=by
 refine S.turn i e _ (fun hat=> ?_) fun j hj=> ?_
 ·have hle:l*sz≤cs.length:=by rw[hc];exact Nat.mul_le_mul_right _ hl
  refine⟨by rw[List.length_take];omega,hl,.inr ⟨b,cs,rfl,Nat.zero_le _,hat,hc,?_⟩⟩
  rw[List.length_take,Nat.min_eq_left hle]
 ·obtain⟨a,ha,rfl⟩:=hj;cases ha;rfl
theorem range_flat (zs:List Value) (sz:Nat) (hz:zs.length=sz): ∀(n:Nat),(List.range (n*sz)).map (fun i=>zs.toArray[i % zs.toArray.size]!)=(List.replicate n zs).flatten
 |0=>by simp
 |n+1=>by
  rw[List.replicate_succ',List.flatten_append,←range_flat zs sz hz n,Nat.add_mul,Nat.one_mul,List.range_add,List.map_append]
  congr 1
  simp only[List.flatten_cons,List.flatten_nil,List.append_nil,List.map_map]
  apply List.ext_getElem?
  intro i
  by_cases hi:i<sz
  ·rw[List.getElem?_map,List.getElem?_range hi]
   simp only[Option.map_some,Function.comp_apply]
   have:(n*sz+i) % zs.toArray.size=i:=by
    simp only[List.size_toArray,hz]
    rw[Nat.mul_comm,Nat.mul_add_mod,Nat.mod_eq_of_lt hi]
   rw[this,List.getElem?_eq_getElem (by omega)]
   simp[hz,hi]
  ·rw[List.getElem?_eq_none (by simp;omega),List.getElem?_eq_none (by omega)]
theorem mkI_S {h0 h:Heap} {T:Nat→Prop} {W R:List Fact} (S:Sep h0 T h W R) {e sz by_:Nat} {z:Value} {l:Int} {zs:List Value} {K:Nat→Heap→Prop} (n:Nat) (hl:l=n) (hz:z.cells=zs.toArray) (hzs:zs.length=sz) (hsz:sz≠0) (hn:n<2 ^ 62) (hb:by_*n≤2 ^ 48)
 (H: ∀b h',b=h.size→Sep h0 T h' (W++[blk b (List.replicate n zs).flatten]) R→K b h'):mkI e sz by_ z l l h K:=by
 subst hl
 refine⟨hsz,by omega,Int.le_refl _,by omega,by exact_mod_cast hb,?_⟩
 have ec:((Array.range ((n:Int).toNat*sz)).map (z.cells[· % z.cells.size]!))=(List.replicate n zs).flatten.toArray:=by
  rw[hz,Int.toNat_natCast,←range_flat zs sz hzs n]
  apply Array.ext'
  simp[Array.toList_map,Array.toList_range]
 rw[ec]
 exact newI_S S H
theorem repl_one (n:Nat) (v:Value):(List.replicate n [v]).flatten=List.replicate n v:=by
 induction n with
 |zero=>rfl
 |succ n ih=>rw[List.replicate_succ,List.flatten_cons,ih,List.replicate_succ];rfl
theorem stO_S {h0 h:Heap} {T:Nat→Prop} {W R:List Fact} (S:Sep h0 T h W R) (i:Nat) {sz:Nat} {a:Addr} {l c k:Nat} {xs:List Value} {v:Value} {K:Heap→Prop} (e:W[i]? =some (own sz (some a) l c xs)) (hk:k<xs.length)
 (H: ∀h',h'.size=h.size→Sep h0 T h' (W.set i (own sz (some a) l c (xs.set k v))) R→K h'):stI h (Addr.add a k) v K:=by
 obtain⟨h1,h2,⟨e',_⟩|⟨b,cs,e',hb,hat,hlen,ht⟩⟩:=S.own i e
 ·cases e'
 ·cases e'
  rw[add_mk,Nat.zero_add]
  have hle:xs.length≤cs.length:=by rw[←ht];simp;omega
  refine stI_i hat (by omega) fun h' hs hat' hf=>H h' hs (S.upd i e _ (hf.mono fun j _ hj=>⟨_,rfl,hj.symm⟩) ⟨?_,h2,.inr ⟨b,_,rfl,hb,hat',by simpa using hlen,?_⟩⟩ fun _ h=> .inl h)
  ·simpa using h1
  ·rw[List.length_set,List.take_set,ht]
end Go.Sh
end
section
namespace Go.Sh
set_option linter.unusedVariables false
theorem ldSc_i {s:Sc} {h:Heap} {a:Addr} {x:s.T} {K:s.T→Prop} (hc:cellH h a=some (s.mk x)) (H:K x):ldSc s h a K:=by
 cases s
 case slice=>exact⟨x.1,x.2.1,x.2.2,hc,H⟩
 all_goals exact⟨x,hc,H⟩
theorem ldAgAt_i: ∀{l:List Sc} {h:Heap} {a:Addr} {i:Nat} {x:TS l} {K:TS l→Prop},(∀j v,(mkS' l x)[j]? =some v→cellH h (Addr.add a (i+j))=some v)→K x→ldAgAt l h a i K
 |[],_,_,_,_,_,_,H=>H
 |s::r,h,a,i,x,K,hc,H=>by
  refine ldSc_i (x:=x.1) (by have:=hc 0 (s.mk x.1) rfl;rwa [Nat.add_zero] at this) ?_
  refine ldAgAt_i (x:=x.2) (fun j v hv=> ?_) H
  have:=hc (j+1) v (by simpa[mkS'] using hv)
  rwa [show i+(j+1)=i+1+j by omega] at this
theorem ldAg_i {l:List Sc} {h:Heap} {a:Addr} {x:TS l} {K:TS l→Prop} (hc: ∀j v,(mkS' l x)[j]? =some v→cellH h (Addr.add a j)=some v) (H:K x):ldAg l h a K:=
 ldAgAt_i (fun j v hv=>by rw[Nat.zero_add];exact hc j v hv) H
theorem At.agg {h:Heap} {b:Nat} {cs vs:List Value} (a:At h b cs) (hx:cs=vs): ∀j v,vs[j]? =some v→cellH h (Addr.add ⟨b,0,none⟩ j)=some v:=fun j v hv=>by
 rw[add_mk,Nat.zero_add];exact a.cell (by rw[hx];exact hv)
theorem ldAg_S {h0 h:Heap} {T:Nat→Prop} {W R:List Fact} (S:Sep h0 T h W R) (i:Nat) {b:Nat} {cs:List Value} {l:List Sc} {x:TS l} {K:TS l→Prop} (e:W[i]? =some (blk b cs)) (hx:cs=mkS' l x) (H:K x):ldAg l h ⟨b,0,none⟩ K:=
 ldAg_i ((S.at i e).agg hx) H
theorem holdW_i {h:Heap} {K:Prop} (k:Nat) {a:Addr}: ∀{vs:List Value} {i:Nat},(∀j v,vs[j]? =some v→cellH h (Addr.add a (i+j))=some v)→K→holdW (watchL k a vs i) h K
 |[],_,_,H=>H
 |y::r,i,hc,H=>by
  refine⟨by have:=hc 0 y rfl;rwa [Nat.add_zero] at this,holdW_i k (fun j v hv=> ?_) H⟩
  have:=hc (j+1) v (by simpa using hv)
  rwa [show i+(j+1)=i+1+j by omega] at this
theorem holdW_S {h0 h:Heap} {T:Nat→Prop} {W R:List Fact} (S:Sep h0 T h W R) (i:Nat) {b k:Nat} {cs vs:List Value} {K:Prop} (e:W[i]? =some (blk b cs)) (hx:cs=vs) (H:K):holdW (watchL k ⟨b,0,none⟩ vs 0) h K:=
 holdW_i k (fun j v hv=>by rw[Nat.zero_add];exact(S.at i e).agg hx j v hv) H
theorem exSc_i {s:Sc} (x:s.T) {K:s.T→Prop} (H:K x):exSc s K:=by
 cases s
 case slice=>exact⟨x.1,x.2.1,x.2.2,H⟩
 all_goals exact⟨x,H⟩
theorem exS_i: ∀{l:List Sc} (x:TS l) {K:TS l→Prop},K x→exS l K
 |[],_,_,H=>H
 |s::r,x,K,H=>exSc_i x.1 (exS_i x.2 H)
def Sc.plain:Sc→Bool
 | .any=>false
 |_=>true
theorem mkS_one: ∀{l:List Sc} {x:TS l},l.all Sc.plain=true→ ∀y∈mkS' l x,one1 y=true
 |[],_,_,y,hy=>by cases hy
 |s::r,x,hl,y,hy=>by
  simp only[List.all_cons,Bool.and_eq_true] at hl
  rcases List.mem_cons.1 hy with rfl|hy
  ·cases s<;>first|rfl|(exact absurd hl.1 (by decide))
  ·exact mkS_one hl.2 y hy
theorem mkS_len: ∀{l:List Sc} {x:TS l},(mkS' l x).length=l.length
 |[],_=>rfl
 |s::r,x=>by simp[mkS',mkS_len (l:=r)]
theorem stL_S {h0 h:Heap} {T:Nat→Prop} {W R:List Fact} (S:Sep h0 T h W R) (i:Nat) {b:Nat} {cs vs:List Value} {K:Heap→Prop} (e:W[i]? =some (blk b cs)) (hl:cs.length=vs.length) (h1: ∀y∈vs,one1 y=true)
 (H: ∀h',h'.size=h.size→Sep h0 T h' (W.set i (blk b vs)) R→K h'):storeL vs h ⟨b,0,none⟩ 0 K:=by
 refine storeL_own vs h cs 0 0 (S.at i e) (by omega) h1 fun h' hs hat hf=>H h' hs (S.upd i e _ hf ?_ fun _ h=> .inl h)
 have:cs.take (0+0)++vs++cs.drop (0+0+vs.length)=vs:=by
  rw[List.take_zero,List.nil_append,List.drop_of_length_le (by omega),List.append_nil]
 rw[this] at hat
 exact hat
theorem stLO_S {h0 h:Heap} {T:Nat→Prop} {W R:List Fact} (S:Sep h0 T h W R) (i:Nat) {sz:Nat} {a:Addr} {l c k:Nat} {xs vs:List Value} {K:Heap→Prop} (e:W[i]? =some (own sz (some a) l c xs)) (hk:k+vs.length≤xs.length) (h1: ∀y∈vs,one1 y=true)
 (H: ∀h',h'.size=h.size→Sep h0 T h' (W.set i (own sz (some a) l c (xs.take k++vs++xs.drop (k+vs.length)))) R→K h'):storeL vs h (Addr.add a k) 0 K:=by
 obtain⟨o1,o2,⟨e',_⟩|⟨b,cs,e',hb,hat,hlen,ht⟩⟩:=S.own i e
 ·cases e'
 ·cases e'
  rw[add_mk,Nat.zero_add]
  have hle:xs.length≤cs.length:=by rw[←ht];simp;omega
  refine storeL_own vs h cs k 0 hat (by omega) h1 fun h' hs hat' hf=>H h' hs (S.upd i e _ (hf.mono fun j _ hj=>⟨_,rfl,hj.symm⟩) ⟨?_,o2,.inr ⟨b,_,rfl,hb,hat',?_,?_⟩⟩ fun _ h=> .inl h)
  ·rw[←o1];simp;omega
  ·rw[←hlen];simp;omega
  ·simp only[Nat.add_zero]
   have e1:(xs.take k++vs++xs.drop (k+vs.length)).length=xs.length:=by simp;omega
   have e2:xs.take k=cs.take k:=by rw[←ht,List.take_take,Nat.min_eq_left (by omega)]
   rw[e1,e2]
   apply List.ext_getElem?
   intro j
   by_cases hj:j<xs.length
   ·rw[List.getElem?_take,if_pos hj]
    by_cases hj2:j<k+vs.length
    ·rw[List.getElem?_append_left (l₁:=cs.take k++vs) (l₂:=cs.drop (k+vs.length)) (by simp only[List.length_append,List.length_take];omega),List.getElem?_append_left (l₁:=cs.take k++vs) (l₂:=xs.drop (k+vs.length)) (by simp only[List.length_append,List.length_take];omega)]
    ·rw[List.getElem?_append_right (l₁:=cs.take k++vs) (l₂:=cs.drop (k+vs.length)) (by simp only[List.length_append,List.length_take];omega),List.getElem?_append_right (l₁:=cs.take k++vs) (l₂:=xs.drop (k+vs.length)) (by simp only[List.length_append,List.length_take];omega),List.getElem?_drop,List.getElem?_drop]
     have e3:xs[k+vs.length+(j-(cs.take k++vs).length)]? =cs[k+vs.length+(j-(cs.take k++vs).length)]? :=by
      conv=>lhs;rw[←ht]
      rw[List.getElem?_take,if_pos]
      simp;omega
     rw[e3]
   ·rw[List.getElem?_eq_none (by simp;omega),List.getElem?_eq_none (by simp;omega)]
theorem Sep.join {h0 h:Heap} {T:Nat→Prop} {W R:List Fact} (S:Sep h0 T h W R) (l m:List Nat) (hl:(l++m).Nodup:=by decide):Sep h0 T h (Sh.pick W l++[reads (Sh.pick W m)]) R:=by
 have hl':=List.nodup_append.1 hl
 have P:=S.pw l hl'.1
 have key: ∀(i:Nat) (f:Fact),(Sh.pick W l++[reads (Sh.pick W m)])[i]? =some f→(i<(Sh.pick W l).length∧(Sh.pick W l)[i]? =some f)∨(i=(Sh.pick W l).length∧f=reads (Sh.pick W m)):=fun i f hf=>by
  rw[List.getElem?_append] at hf
  split at hf
  ·exact .inl ⟨by assumption,hf⟩
  ·rw[List.getElem?_singleton] at hf
   split at hf
   ·cases hf;exact .inr ⟨by omega,rfl⟩
   ·cases hf
 have inm: ∀g∈Sh.pick W m,∃i,i∈m∧W[i]? =some g:=fun g hg=>by
  obtain⟨k,hk⟩:=List.getElem?_of_mem hg
  exact pick_mem hk
 have hold:(reads (Sh.pick W m)).P h:=fun g hg=>by obtain⟨i,_,hi⟩:=inm g hg;exact S.w i g hi
 have apart: ∀(i:Nat) (f:Fact),(Sh.pick W l)[i]? =some f→ ∀b,f.foot b→(reads (Sh.pick W m)).foot b→False:=fun i f hf b hb ⟨g,hg,hgb⟩=>by
  obtain⟨i',hi',hi⟩:=pick_mem hf
  obtain⟨j',hj',hj⟩:=inm g hg
  exact S.ww i' j' f g hi hj (hl'.2.2 _ hi' _ hj') b hb hgb
 refine⟨S.fra,fun i f hf=> ?_,S.r,fun i f hf b hb hlt=> ?_,fun i j f g hf hg hij b hb hb'=> ?_,fun i j f g hf hg b hb hb'=> ?_⟩
 ·rcases key i f hf with ⟨_,hf⟩|⟨_,rfl⟩
  ·exact P.w i f hf
  ·exact hold
 ·rcases key i f hf with ⟨_,hf⟩|⟨_,rfl⟩
  ·exact P.ok i f hf b hb hlt
  ·obtain⟨g,hg,hgb⟩:=hb
   obtain⟨j,_,hj⟩:=inm g hg
   exact S.ok j g hj b hgb hlt
 ·rcases key i f hf with ⟨h1,hf⟩|⟨h1,rfl⟩<;>rcases key j g hg with ⟨h2,hg⟩|⟨h2,rfl⟩
  ·exact P.ww i j f g hf hg hij b hb hb'
  ·exact apart i f hf b hb hb'
  ·exact apart j g hg b hb' hb
  ·omega
 ·rcases key i f hf with ⟨_,hf⟩|⟨_,rfl⟩
  ·exact P.wr i j f g hf hg b hb hb'
  ·obtain⟨f',hf',hfb⟩:=hb
   obtain⟨i',_,hi⟩:=inm f' hf'
   exact S.wr i' j f' g hi hg b hfb hb'
theorem Sep.joinR {h0 h:Heap} {T:Nat→Prop} {W R:List Fact} (S:Sep h0 T h W R) (l:List Nat) (i j:Nat) {A:List Fact} {f:Fact} (e1:W[i]? =some (reads A)) (e2:W[j]? =some f) (hl:(l++[i,j]).Nodup:=by decide):
 Sep h0 T h (Sh.pick W l++[reads (A++[f])]) R:=by
 have S2:=S.join l [i,j] hl
 have ep:Sh.pick W [i,j]=[reads A,f]:=by simp only[Sh.pick,e1,e2]
 rw[ep] at S2
 have e:(Sh.pick W l++[reads [reads A,f]])[(Sh.pick W l).length]? =some (reads [reads A,f]):=by rw[List.getElem?_concat_length]
 have S3:=S2.turn (Sh.pick W l).length e (reads (A++[f])) (fun H g hg=>by
  rcases List.mem_append.1 hg with hg|hg
  ·exact H (reads A) (by simp) g hg
  ·simp only[List.mem_singleton] at hg;subst hg;exact H g (by simp)) (fun b ⟨g,hg,hb⟩=>by
  rcases List.mem_append.1 hg with hg|hg
  ·exact⟨reads A,by simp,g,hg,hb⟩
  ·simp only[List.mem_singleton] at hg;subst hg;exact⟨g,by simp,hb⟩)
 rw[List.set_append_right _ _ (Nat.le_refl _),Nat.sub_self] at S3
 exact S3
theorem Sep.reads0 {h0 h:Heap} {T:Nat→Prop} {W R:List Fact} (S:Sep h0 T h W R):Sep h0 T h (W++[reads []]) R:=
 S.join (List.range W.length) [] (by simpa using List.nodup_range)|>fun P=>by
  have:Sh.pick W (List.range W.length)=W:=by
   have key: ∀(A B:List Fact),Sh.pick (A++B) ((List.range B.length).map (· +A.length))=B:=by
    intro A B
    induction B generalizing A with
    |nil=>rfl
    |cons f B ih=>
     rw[List.length_cons,List.range_succ_eq_map,List.map_cons,List.map_map]
     simp only[Sh.pick]
     rw[List.getElem?_append_right (by omega)]
     simp only[Nat.zero_add,Nat.sub_self,List.getElem?_cons_zero]
     congr 1
     have h1:=ih (A++[f])
     simp only[List.append_assoc,List.singleton_append,List.length_append,List.length_singleton] at h1
     have h2:List.map ((fun x=>x+A.length) ∘ Nat.succ) (List.range B.length)=List.map (fun x=>x+(A.length+1)) (List.range B.length):=by
      apply List.map_congr_left;intro i _;simp;omega
     rw[h2];exact h1
   simpa using key [] W
  rw[this] at P
  exact P
theorem ldAg_id {l:List Sc} {h:Heap} {a:Addr} {K:TS l→Prop} (H:ldAg l h a K):ldAg l h a K:=H
theorem ifB_beq {a b:Int} {A B:Prop} (ha:a=b→A) (hb:a≠b→B):ifB (a==b) A B:=⟨fun e=>ha (by simpa using e),fun e=>hb (by simpa using e)⟩
theorem ifB_bne {a b:Int} {A B:Prop} (ha:a≠b→A) (hb:a=b→B):ifB (a !=b) A B:=⟨fun e=>ha (by simpa using e),fun e=>hb (by simpa using e)⟩
theorem ifB_not {b:Bool} {A B:Prop} (h:ifB b B A):ifB (!b) A B:=⟨fun e=>h.2 (by simpa using e),fun e=>h.1 (by simpa using e)⟩
theorem ifB_known {b:Bool} {A:Prop} {B:Prop} (h:b=true→A) (h':b=false→B):ifB b A B:=⟨h,h'⟩
end Go.Sh
end
