/- CR05 COf22, in one text. -/
import Derived.Test.YtdhpmegbmjoekaaGreatDoorCR20d
import Derived.Test.YtdhpmegbmjoekaaGreatDoorCRefG
import Derived.Test.YtdhpmegbmjoekaaGreatDoorCPlan3
set_option linter.unusedVariables false
set_option linter.unusedSimpArgs false
namespace Go.Proofs.YtdhpmegbmjoekaaGreatDoor.G
open Go Go.Sh
open Go.IntKind renaming wrap→kn
section
theorem MS(k:IntKind)(x y:Int):pb k x y=pb k y x:=by unfold pb;rw[BitVec.xor_comm]
theorem Cf(x:Int):0≤kn .u32 x∧kn .u32 x<4294967296:=by
 unfold kn;simp only[IntKind.signed,IntKind.bits,Bool.false_and,Ws,if_false];omega
theorem kL{x:Int}(h:0≤x∧x<4294967296):kn .u32 x=x:=by
 unfold kn;simp only[IntKind.signed,IntKind.bits,Bool.false_and,Ws,if_false];omega
theorem HV(x y:Int):0≤pb .u32 x y∧pb .u32 x y<4294967296:=Cf _
theorem xor_zero{x:Int}(h:0≤x∧x<4294967296):pb .u32 x 0=x:=by
 have e:(BitVec.ofInt 32 x ^^^ BitVec.ofInt 32 0:BitVec 32)=BitVec.ofInt 32 x:=by rw[show BitVec.ofInt 32 0=0#32 from rfl,BitVec.xor_zero]
 have c:pb .u32 x 0=kn .u32 ((BitVec.ofInt 32 x).toNat:Int):=congrArg (fun b:BitVec 32=>kn .u32 (b.toNat:Int)) e;have a:((BitVec.ofInt 32 x).toNat:Int)=x:=by
  rw[BitVec.toNat_ofInt];omega
 rw[c,a,kL h]
theorem Q5(r:Int):cF .u32 r 1=r % 2:=by
 have c:BitVec.ofInt 32 r&&& BitVec.ofInt 32 1=BitVec.ofNat 32 ((BitVec.ofInt 32 r).toNat % 2):=by
  apply BitVec.eq_of_toNat_eq;rw[BitVec.toNat_and,show(BitVec.ofInt 32 1).toNat=2 ^ 1-1 from rfl,Nat.and_two_pow_sub_one_eq_mod,BitVec.toNat_ofNat];omega
 have a:cF .u32 r 1=kn .u32 ((BitVec.ofNat 32 ((BitVec.ofInt 32 r).toNat % 2)).toNat:Int):=congrArg (fun b:BitVec 32=>kn .u32 (b.toNat:Int)) c;rw[a,BitVec.toNat_ofNat,BitVec.toNat_ofInt];have:0≤r % 2∧r % 2<2:=by omega
 rw[kL (by omega)];omega
theorem SQ{r:Int}(h:0≤r∧r<4294967296):yO r=if Int.tmod r 2=1 then pb .u32 (kn .u32 (Int.tdiv r 2)) 3988292384 else kn .u32 (Int.tdiv r 2):=by
 have b:fV r 1=r / 2:=vc r 1;have c:Int.tdiv r 2=r / 2:=Xi h.1;have d:Int.tmod r 2=r % 2:=Int.tmod_eq_emod_of_nonneg h.1;unfold yO;rw[b,c,d,Q5,kL (x:=r / 2) (by omega)];have:r % 2=0∨r % 2=1:=by omega
 rcases this with a|a
 ·rw[a,if_neg (by omega),Int.mul_zero,kL (by omega),xor_zero (by omega)]
 ·rw[a,if_pos rfl,Int.mul_one,kL (by omega)]
theorem Kc(r:Int):0≤yO r∧yO r<4294967296:=HV _ _
theorem HW: ∀(n:Nat){r:Int},0≤r∧r<4294967296→0≤ql n r∧ql n r<4294967296
 |0,_,h=>h
 |n+1,_,_=>Kc _
section
variable {h:ah}
theorem MT{r:Int}(b:0≤r∧r<4294967296):au P qN #[.int .u32 r] h fun v a=>v= .int .u32 (yO r)∧a=h:=by
 refine BB _ ?_;rw[SQ b];exact aH (fun e=>⟨by rw[if_pos e],rfl⟩) (fun e=>⟨by rw[if_neg e],rfl⟩)
theorem OX{s:List UInt8}(p:s.length<2 ^ 60):au P tY #[.string (str s)] h fun v l=>v= .int .u32 (HX s)∧l=h:=by
 refine CR _ ?_;refine aO (fun m b g=>g=h∧ ∃i:Nat,b=(str s,(s.take i).foldl nO 4294967295,(i:Int),())∧i≤s.length∧m=s.length-i) s.length ⟨rfl,0,rfl,by omega,rfl⟩ ?_;rintro m b g ⟨rfl,i,rfl,hi,rfl⟩;unfold xG;dsimp only;rw[cu];refine aq (fun a=> ?_) (fun n=> ?_)
 ·have a:i<s.length:=by omega
  refine G9 rfl (k:=i) rfl (bo a) ?_;obtain⟨r0,c⟩: ∃r0,pb .u32 ((s.take i).foldl nO 4294967295) (kn .u32 (s[i].toNat:Int))=r0:=⟨_,rfl⟩;have h0:0≤r0∧r0<4294967296:=by rw[←c];exact HV _ _
  rw[c];refine aO (fun m b d=>d=g∧ ∃k:Nat,b=(str s,ql k r0,(i:Int),(k:Int),())∧k≤8∧m=8-k) 8 ⟨rfl,0,rfl,by omega,rfl⟩ ?_;rintro m b d ⟨rfl,k,rfl,o,rfl⟩;dsimp only;refine aq (fun f=> ?_) (fun e=> ?_)
  ·refine(MT (HW k h0)).mono ?_;rintro _ _ ⟨rfl,rfl⟩;refine⟨_,rfl,8-(k+1),by omega,rfl,k+1,?_,by omega,rfl⟩;rw[al (by omega)];rfl
  ·have:k=8:=by omega
   subst this;refine⟨s.length-(i+1),by omega,rfl,i+1,?_,by omega,rfl⟩;rw[gD a,V7,al (by omega)];have j:nO ((s.take i).foldl nO 4294967295) s[i]=ql 8 r0:=by rw[←c];rfl
   rw[Wg,List.foldl_nil,j];rfl
 ·rw[py (by omega)];refine⟨?_,rfl⟩;rw[MS];rfl
end
end
section
theorem Fn(ns:List Nd): ∀(l:List Int)(a:Nat),(∀x∈l,jO ns x≤2 ^ 40)→a+l.length*2 ^ 40≤2 ^ 60→l.foldl (fun s x=>cP (s+(jO ns x:Int))) (a:Int)=((a+(l.map (jO ns)).sum:Nat):Int)
 |[],a,_,_=>by simp
 |x::r,a,h,ha=>by
  have h0:=h x Wb;simp only[VS]at ha;rw[Wg,show cP ((a:Int)+(jO ns x:Int))=((a+jO ns x:Nat):Int) by rw[show cP ((a:Int)+(jO ns x:Int))=(a:Int)+(jO ns x:Int) from al (by omega)];rfl,Fn ns r _ (fun y b=>h y (V0 _ b)) (by omega),Wc,WX,Yf]
theorem OY{g:Gr}(a:(bK g.nodes).length=g.nodes.length)(d:g.nodes.length≤12)(c: ∀n∈g.nodes,n.cost≤2 ^ 40):g.macs=(((g.nodes.map Nd.cost).sum:Nat):Int):=by
 have b: ∀x∈bK g.nodes,jO g.nodes x≤2 ^ 40:=fun x b=>by
  unfold jO;split
  ·rename_i n e;exact c n (VL e)
  ·omega
 have:=Fn g.nodes (bK g.nodes) 0 b (by rw[a];omega);rw[SN,Jz a]at this;unfold Gr.macs Eh;rw[py (by omega)];exact this
def TT(gv:Gv)(W R Hi:Int→Int)(pv:Pv)(h a:ah):Prop:=
 pv.g=gv∧pv.o.ok∧pv.o.xs=bK gv.gr.nodes∧pv.rl=gv.gr.nodes.length+1∧pv.rs=gv.gr.rings W R Hi (bU (gv.gr.sizesF W R Hi)).1∧pv.words=(bU (gv.gr.sizesF W R Hi)).2.1∧pv.macs=gv.gr.macs∧pv.hash=gv.gr.hash∧
  aG h no a [row pv.o.p (az pv.o.xs),own 3 pv.rp pv.rl pv.rc (fu pv.rs)] []
def Vp(gv:Gv)(W R Hi:Int→Int)(h:ah)(v:Value)(b:ah):Prop:=
 ∃(a:Pv)(e:Int),v= .tuple #[a.v,.int .i64 e]∧cd no h b∧e=(bU (gv.gr.sizesF W R Hi)).2.2∧(e≠0→a=Pv.zero)∧(e=0→TT gv W R Hi a h b)
theorem OZ(r:Rn): ∀y∈r.cells,ib y=true:=by
 intro y a;simp only[Rn.cells,V5,WO,or_false]at a;rcases a with rfl|rfl|rfl<;>rfl
theorem Kd(l:List Rn)(r:Rn):fu l++r.cells=fu (l++[r]):=by unfold fu;rw[V2,Yb];simp
section
variable {h:ah} {gv:Gv} {W R Lo Hi:Int→Int} {pos:Int→Nat}
theorem Q6(u:gv.ok)(I:bD h gv.p (aD gv.ns))(a1:(aM gv.ns).P h)(hs:gv.sizes)(rt:bW gv.gr W R pos)(rc:Reach gv.gr.nodes R Lo Hi):au P wK #[gv.v] h (Vp gv W R Hi h):=by
 refine EK _ ?_;have ax:=u.1;have H:gv.gr.nodes.length=gv.l:=by rw[←ax];simp[Gv.gr]
 have f:=bX rt.first;have hb:=LG u rt rc;obtain⟨rl,rb⟩:=Gn u rt rc;have V:gv.gr.macs=(((gv.gr.nodes.map Nd.cost).sum:Nat):Int):=OY rt.ordered (by omega) fun n I=>by
  obtain⟨m,hm,rfl⟩:=VZ.1 I;have hz:=hs.2 m hm;have e1:m.nd.weights.length=m.weights.l:=(u.2.2 m hm).2.1.1;unfold Nd.cost;split<;>omega
 have S:=((aG.start h no).read (row gv.p (aD gv.ns)) I).read (aM gv.ns) a1;refine aA (cs:=gv.cells) S fun b1 T _ S=> ?_;refine aA (cs:=Pv.zero.cells) S fun b3 h2 _ S=> ?_;refine aL S 0 rfl (x:=gv.t) rfl ?_;refine(qi u (S.ro 0) (S.rd 1) (by omega) (fun n I=>by have:=hs.2 n I;omega)).mono ?_;rintro _ h3 ⟨o,w,r,rfl,ho,hw,hr,a3,aj,br,S1⟩;rw[rt.look]at ho hw hr;have e0:gv.gr.look.e=0:=by rw[rt.look]
 rw[e0];replace S:=S.add S1 fun _ _ h=>h;refine⟨_,_,_,_,_,_,_,_,_,_,rfl,?_⟩;refine aA (cs:=[.slice none 0 0,.slice none 0 0,.slice none 0 0,.int .i64 0]) S fun B _ _ S=> ?_;dsimp only[Yg,Yh]at S;refine ck S 5 fun _ _ S=> ?_;refine ck S 5 fun _ _ S=> ?_;refine ck S 5 fun _ _ S=> ?_;refine ck S 5 fun a8 _ S=> ?_;refine aL S 0 rfl (x:=gv.t) rfl ?_;refine(Oi u (S.ro 0) (S.rd 1) (fun n I=>by have:=hs.2 n I;omega) rt rc hb).mono ?_;rintro _ a9 ⟨bL,bH,L,rfl,S1⟩;rw[←V];replace S:=S.add S1 fun _ _ h=>h;refine⟨_,_,_,_,_,_,_,_,_,_,rfl,?_⟩;refine aA (cs:=[.slice none 0 0,.slice none 0 0,.slice none 0 0,.int .i64 0]) S fun C _ _ S=> ?_;refine ck S 9 fun _ _ S=> ?_;refine ck S 9 fun _ _ S=> ?_;refine ck S 9 fun _ _ S=> ?_;refine ck S 9 fun ba _ S=> ?_;refine aL S 0 rfl (x:=gv.t) rfl (ak (p:=o.p) (l:=o.l) (c:=o.c) (S.c 5) (ae (n:=gv.gr.macs) (S.c 9) ?_));refine aA (cs:=Pv.zero.cells) S fun D bb _ S=> ?_;refine bP S 10 rfl rfl (show ∀y∈(⟨gv,o,none,0,0,[],0,gv.gr.macs,0⟩:Pv).cells,ib y=true from aW rfl) fun bd _ S=> ?_;have a5:w.l=gv.l+1:=by rw[←aj.1,hw];simp[H]
 have rget: ∀x:Nat,x≤gv.l→((List.range (gv.gr.nodes.length+1)).map fun x:Nat=>W x)[x]? =some (W x):=fun x A=>by rw[VP,Wa (by omega)];rfl
 have Y: ∀{g:ah}{X:List bc}(x:Nat),x≤gv.l→aG h no g X [row gv.p (aD gv.ns),aM gv.ns]→X[3]? =some (row w.p (az w.xs))→ ∃a,w.p=some a∧aB g (a.add x)=some (.int .i64 (W (x:Int))):=fun x A S e=>by
  have r:bD _ w.p (az w.xs):=S.w 3 _ e;obtain⟨a,ea⟩:=r.some_of (by rw[av,aj.1];omega);rw[ea]at r;exact⟨a,ea,r.cell (aF (by rw[hw];exact rget x A))⟩
 have hW: ∀x:Nat,x≤gv.l→1≤W x∧W x≤16:=fun x A=>rt.wide (by omega) (by omega);obtain⟨sz,z⟩: ∃sz,gv.gr.sizesF W R Hi=sz:=⟨_,rfl⟩;have ai:sz.length=gv.l+1:=by rw[←z];simp[Gr.sizesF,H]
 have Z: ∀x:Nat,x≤gv.l→sz[x]? =some ((gv.gr.rooms R Hi).getD x 0*W x):=fun x A=>by
  rw[←z];unfold Gr.sizesF;rw[VP,Wa (by omega)];rfl
 have K: ∀x:Nat,x≤gv.l→(gv.gr.rooms R Hi)[x]? =some ((gv.gr.rooms R Hi).getD x 0)∧1≤(gv.gr.rooms R Hi).getD x 0∧(gv.gr.rooms R Hi).getD x 0≤2 ^ 43:=fun x A=>by
  have T:x<(gv.gr.rooms R Hi).length:=by omega
  rw[cA T];exact⟨bo T,rb _ (VN T)⟩
 have E: ∀x:Nat,x≤gv.l→1≤(gv.gr.rooms R Hi).getD x 0*W x∧(gv.gr.rooms R Hi).getD x 0*W x≤2 ^ 47:=fun x A=>by
  have T:=K x A;have h2:=hW x A;have h3:(gv.gr.rooms R Hi).getD x 0*W x≤2 ^ 43*16:=Wo T.2.2 h2.2 (by omega) (by omega);have h4:1*1≤(gv.gr.rooms R Hi).getD x 0*W x:=Wo T.2.1 h2.1 (by omega) (by omega);omega
 generalize ar:gv.gr.rooms R Hi=rm at S rl rb K Z E;replace S:=S.nil 1
 refine aO (fun mm s g=> ∃(i:Nat)(q:Option Addr)(d:Nat),s=(⟨b1,0,none⟩,⟨b3,0,none⟩,⟨B,0,none⟩,⟨C,0,none⟩,⟨D,0,none⟩,(q,i,d),(i:Int),())∧i≤gv.l+1∧mm=gv.l+1-i∧
  aG h no g [aJ b1 gv.cells,aJ b3 Pv.zero.cells,row o.p (az o.xs),row w.p (az w.xs),row r.p (az r.xs),aJ B [o.v,w.v,r.v,.int .i64 0],aJ bL (az ((List.range (gv.l+1)).map fun x:Nat=>Lo x)),aJ bH (az ((List.range (gv.l+1)).map fun x:Nat=>Hi x)),aJ L (az rm),
   aJ C [.slice (some ⟨bL,0,none⟩) (gv.l+1) (gv.l+1),.slice (some ⟨bH,0,none⟩) (gv.l+1) (gv.l+1),.slice (some ⟨L,0,none⟩) (gv.l+1) (gv.l+1),.int .i64 gv.gr.macs],aJ D (⟨gv,o,none,0,0,[],0,gv.gr.macs,0⟩:Pv).cells,own 1 q i d (az (sz.take i))] [row gv.p (aD gv.ns),aM gv.ns]) (gv.l+1) ⟨0,none,0,rfl,by omega,rfl,S⟩ ?_
 rintro mm s g ⟨i,q,d,rfl,hi,rfl,S⟩;unfold AA;simp only[aR,SN];refine ak (p:=gv.p) (l:=gv.l) (c:=gv.c) (S.c 0) (aq (fun j=> ?_) (fun aw=> ?_))
 ·have b:i≤gv.l:=by omega
  obtain⟨J,a0⟩:=K i b;obtain⟨wa,G,cw⟩:=Y i b S rfl;refine ak (p:=some ⟨L,0,none⟩) (l:=gv.l+1) (c:=gv.l+1) (S.c 9) (aC rfl (k:=i) rfl (by omega) ?_);simp only[aR,SN,hC,VO];refine ae (n:=rm.getD i 0) (S.cell 8 rfl (aF J)) ?_;refine ak (p:=w.p) (l:=w.l) (c:=w.c) (S.c 5) (aC G (k:=i) rfl (by omega) (ae cw ?_));have hm:=E i b;rw[al (n:=rm.getD i 0*W (i:Int)) (by omega)];refine aA (cs:=[.int .i64 (rm.getD i 0*W (i:Int))]) S fun a6 _ _ S=> ?_;refine cI S 11 (ys:=az [rm.getD i 0*W (i:Int)]) rfl rfl (by decide) (by omega) (bD.of_at (S.ap 12)) rfl dc fun p2 l2 c2 _ e2 S=> ?_;subst e2;have e3:az (sz.take i)++az [rm.getD i 0*W (i:Int)]=az (sz.take (i+1)):=by
   have j:i<sz.length:=by omega
   have:sz[i]=rm.getD i 0*W (i:Int):=by have:=Z i b;rw[bo j]at this;exact Option.some.inj this
   rw[gD j,this];unfold az;rw[V2]
  rw[e3]at S;refine⟨S.cell 8 rfl (aF J),S.c 9,?_⟩;rw[al (n:=(i:Int)+1) (by omega)];exact⟨gv.l+1-(i+1),by omega,i+1,p2,c2,rfl,by omega,rfl,S.pw [0,1,2,3,4,5,6,7,8,9,10,11]⟩
 have U:i=gv.l+1:=by omega
 subst U;rw[py (by omega)]at S;refine(LW (S.ow 11).row ai (by omega) (fun n I=> ?_)).mono ?_
 ·obtain⟨x,A⟩:=Wx.1 I;have bn:x<sz.length:=(R8.1 A).1;rw[Z x (by omega)]at A;cases A;have:=E x (by omega);omega
 rintro _ bg ⟨lp,ll,lc,rfl,aa,F1⟩;replace S:=S.add (m8.sep F1 aa) fun _ _ h=>h;refine⟨_,_,_,_,_,rfl,?_⟩;refine aA (cs:=[.slice none 0 0,.int .i64 0,.int .i64 0]) S fun O _ _ S=> ?_;refine ck S 13 fun _ _ S=> ?_;refine ck S 13 fun _ _ S=> ?_;refine ck S 13 fun bk _ S=> ?_;refine ae (n:=(bU sz).2.2) (S.c 13) (bh (fun ay=> ?_) (fun he=> ?_))
 ·refine ae (n:=(bU sz).2.2) (S.c 13) ?_;refine bP S 1 rfl rfl (show ∀y∈Pv.zero.cells,ib y=true from aW rfl) fun bm _ S=> ?_;refine⟨S.c 13,aL S 1 rfl (x:=Pv.zero.t) rfl ⟨Pv.zero,_,rfl,S.fra,by rw[z],fun _=>rfl,fun h=>absurd h ay⟩⟩
 have ad:(bU sz).1.length=gv.l+1:=by rw[Ep he,ai]
 have a2:ll=gv.l+1:=by
  have:=aa.1;rw[av,ad]at this;omega
 subst a2;obtain⟨rs,Q⟩: ∃rs,gv.gr.rings W R Hi (bU sz).1=rs:=⟨_,rfl⟩;have bq:rs.length=gv.l+1:=by rw[←Q];simp[Gr.rings,H]
 have a4: ∀x:Nat,x≤gv.l→rs[x]? =some ⟨(bU sz).1.getD x 0,W x,rm.getD x 0⟩:=fun x A=>by
  rw[←Q,←ar];unfold Gr.rings;rw[VP,Wa (by omega)];rfl
 replace S:=(S.pw [0,1,2,3,5,8,9,10,12,13]:aG h no _ [aJ b1 gv.cells,aJ b3 Pv.zero.cells,row o.p (az o.xs),row w.p (az w.xs),aJ B [o.v,w.v,r.v,.int .i64 0],aJ L (az rm),
  aJ C [.slice (some ⟨bL,0,none⟩) (gv.l+1) (gv.l+1),.slice (some ⟨bH,0,none⟩) (gv.l+1) (gv.l+1),.slice (some ⟨L,0,none⟩) (gv.l+1) (gv.l+1),.int .i64 gv.gr.macs],aJ D (⟨gv,o,none,0,0,[],0,gv.gr.macs,0⟩:Pv).cells,own 1 lp (gv.l+1) lc (az (bU sz).1),aJ O [.slice lp (gv.l+1) lc,.int .i64 (bU sz).2.1,.int .i64 (bU sz).2.2]] _).nil 3
 refine aO (fun mm s g=> ∃(i:Nat)(q:Option Addr)(d:Nat),s=(⟨b1,0,none⟩,⟨b3,0,none⟩,⟨B,0,none⟩,⟨C,0,none⟩,⟨D,0,none⟩,⟨O,0,none⟩,(i:Int),())∧i≤gv.l+1∧mm=gv.l+1-i∧
  aG h no g [aJ b1 gv.cells,aJ b3 Pv.zero.cells,row o.p (az o.xs),row w.p (az w.xs),aJ B [o.v,w.v,r.v,.int .i64 0],aJ L (az rm),
   aJ C [.slice (some ⟨bL,0,none⟩) (gv.l+1) (gv.l+1),.slice (some ⟨bH,0,none⟩) (gv.l+1) (gv.l+1),.slice (some ⟨L,0,none⟩) (gv.l+1) (gv.l+1),.int .i64 gv.gr.macs],aJ D (⟨gv,o,q,i,d,rs.take i,0,gv.gr.macs,0⟩:Pv).cells,own 1 lp (gv.l+1) lc (az (bU sz).1),aJ O [.slice lp (gv.l+1) lc,.int .i64 (bU sz).2.1,.int .i64 (bU sz).2.2],own 3 q i d (fu (rs.take i))] [row gv.p (aD gv.ns),aM gv.ns]) (gv.l+1) ⟨0,none,0,rfl,by omega,rfl,S⟩ ?_
 rintro mm s g ⟨i,q,d,rfl,hi,rfl,S⟩;unfold xH;simp only[aR,SN];refine ak (p:=gv.p) (l:=gv.l) (c:=gv.c) (S.c 0) (aq (fun j=> ?_) (fun aw=> ?_))
 ·have b:i≤gv.l:=by omega
  obtain⟨J,a0⟩:=K i b;obtain⟨wa,G,cw⟩:=Y i b S rfl;have ag: ∀{g:ah}{X:List bc},aG h no g X [row gv.p (aD gv.ns),aM gv.ns]→X[8]? =some (own 1 lp (gv.l+1) lc (az (bU sz).1))→ ∃a,lp=some a∧aB g (a.add i)=some (.int .i64 ((bU sz).1.getD i 0)):=fun S e=>by
   have r:bD _ lp (az (bU sz).1):=(S.own 8 e).row;obtain⟨a,ea⟩:=r.some_of (by rw[av];omega);rw[ea]at r;exact⟨a,ea,r.cell (aF (by rw[VT,bo (by omega)];rfl))⟩
  obtain⟨la,ab,cl⟩:=ag S rfl;refine ak (p:=q) (l:=i) (c:=d) (S.c 7) (ak (p:=lp) (l:=gv.l+1) (c:=lc) (S.c 9) (aC ab (k:=i) rfl (by omega) ?_));simp only[hC,VO];refine ae cl (ak (p:=w.p) (l:=w.l) (c:=w.c) (S.c 4) (aC G (k:=i) rfl (by omega) (ae cw ?_)));refine ak (p:=some ⟨L,0,none⟩) (l:=gv.l+1) (c:=gv.l+1) (S.c 6) (aC rfl (k:=i) rfl (by omega) ?_);simp only[aR,SN,hC];refine ae (n:=rm.getD i 0) (S.cell 5 rfl (aF J)) ?_;refine aA (cs:=(⟨(bU sz).1.getD i 0,W (i:Int),rm.getD i 0⟩:Rn).cells) S fun a7 _ _ S=> ?_;refine cI S 10 (ys:=(⟨(bU sz).1.getD i 0,W (i:Int),rm.getD i 0⟩:Rn).cells) rfl rfl (by decide) (by omega) (bD.of_at (S.ap 11)) rfl (OZ _) fun p2 l2 c2 _ e2 S=> ?_;subst e2;have e3:rs.take i++[⟨(bU sz).1.getD i 0,W (i:Int),rm.getD i 0⟩]=rs.take (i+1):=by
   have j:i<rs.length:=by omega
   have:rs[i]=⟨(bU sz).1.getD i 0,W (i:Int),rm.getD i 0⟩:=by have:=a4 i b;rw[bo j]at this;exact Option.some.inj this
   rw[gD j,this]
  rw[Kd,e3]at S;obtain⟨bs,N,ao⟩:=Y i b S rfl;obtain⟨bp,M,an⟩:=ag S rfl;rw[G]at N;cases N;rw[ab]at M;cases M;refine⟨ao,S.c 4,an,S.c 9,?_⟩;refine ck S 7 fun _ _ S=> ?_;rw[show(⟨gv,o,q,i,d,rs.take i,0,gv.gr.macs,0⟩:Pv).cells.set 6 (.slice p2 (i+1) c2)=(⟨gv,o,p2,i+1,c2,rs.take (i+1),0,gv.gr.macs,0⟩:Pv).cells from rfl]at S;rw[al (n:=(i:Int)+1) (by omega)];exact⟨gv.l+1-(i+1),by omega,i+1,p2,c2,rfl,by omega,rfl,S.pw [0,1,2,3,4,5,6,7,8,9,10]⟩
 have U:i=gv.l+1:=by omega
 subst U;rw[py (by omega)]at S;refine ae (n:=(bU sz).2.1) (S.c 9) ?_;refine ck S 7 fun _ _ S=> ?_;rw[show(⟨gv,o,q,gv.l+1,d,rs,0,gv.gr.macs,0⟩:Pv).cells.set 7 (.int .i64 (bU sz).2.1)=(⟨gv,o,q,gv.l+1,d,rs,(bU sz).2.1,gv.gr.macs,0⟩:Pv).cells from rfl]at S;refine aL S 0 rfl (x:=gv.t) rfl ?_;refine(Ak (S.ro 0) (S.rd 1) u rt.fits.2).mono ?_;rintro _ _ ⟨rfl,F⟩;replace S:=S.fra0 F;refine⟨_,_,rfl,?_⟩;refine(OX (Am rt.fits.2)).mono ?_;rintro _ _ ⟨rfl,rfl⟩;refine⟨_,rfl,?_⟩;refine ck S 7 fun _ _ S=> ?_;rw[show(⟨gv,o,q,gv.l+1,d,rs,(bU sz).2.1,gv.gr.macs,0⟩:Pv).cells.set 9 (.int .u32 (HX gv.gr.out2.1))=(⟨gv,o,q,gv.l+1,d,rs,(bU sz).2.1,gv.gr.macs,HX gv.gr.out2.1⟩:Pv).cells from rfl]at S;refine aL S 7 rfl (x:=(⟨gv,o,q,gv.l+1,d,rs,(bU sz).2.1,gv.gr.macs,HX gv.gr.out2.1⟩:Pv).t) rfl ?_;refine bP S 1 rfl rfl (aW rfl) fun _ _ S=> ?_;refine aL S 1 rfl (x:=(⟨gv,o,q,gv.l+1,d,rs,(bU sz).2.1,gv.gr.macs,HX gv.gr.out2.1⟩:Pv).t) rfl ?_;exact⟨⟨gv,o,q,gv.l+1,d,rs,(bU sz).2.1,gv.gr.macs,HX gv.gr.out2.1⟩,0,rfl,S.fra,by rw[z];exact he.symm,fun h=>absurd rfl h,fun _=>⟨rfl,a3,ho,by rw[H],by rw[z];exact Q.symm,by rw[z],rfl,rfl,yy (S.pw [2,10])⟩⟩
