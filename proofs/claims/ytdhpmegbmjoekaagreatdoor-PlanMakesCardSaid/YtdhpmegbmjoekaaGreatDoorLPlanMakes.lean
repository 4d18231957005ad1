/- PlanMakes: of any bytes the plan, or the error, is the document's: the law over heaps. -/
import Derived.Test.YtdhpmegbmjoekaaGreatDoorCMk22
namespace Go.Proofs.YtdhpmegbmjoekaaGreatDoor.G
open Go Go.Sh
set_option linter.unusedVariables false
set_option linter.unusedSimpArgs false
theorem OV{g:Gr}(h:g.short):(dV++g.enc).length<2 ^ 58:=by
 have b:=nQ g.nodes h.2;have d:=h.1;have a:dV.length=4:=rfl;unfold Gr.enc;simp only[Tz,bO,cG,VS,V9,a];omega
section
variable {h:ah} {p:Option Addr} {l c:Nat} {L:List Int}
theorem MQ{g:Gr}(h:g.short):g.out2.1.length<2 ^ 58:=by
 unfold Gr.out2;split
 ·exact OV h
 ·decide
theorem Ka(o:bD h p (az L))(i:L.length=l)(e:l≤c)(j:l<2 ^ 62)(more:Int):
 au P qD #[.slice p l c,.int .i64 more] h fun v g=> ∃s:List UInt8,s.length<2 ^ 58∧v= .string (str s)∧cd no h g:=by
 refine Bf _ _ _ _ ?_;unfold Cq;refine(P4 o i e j more).mono ?_;rintro _ u ⟨d,rfl,a,_,r,sz,S⟩;refine fy d.t ⟨rfl,?_⟩;have b:d.gr.short:=⟨by show(d.ns.map Nv.nd).length≤1000;rw[Ug,a.1];omega,fun n k=>by
  obtain⟨m,f,rfl⟩:=VZ.1 k;have q:=sz m f;have ok:=a.2.2 m f;have x:m.nd.inn.length=m.inn.l:=ok.1.1;have y:m.nd.weights.length=m.weights.l:=ok.2.1.1;have z:m.nd.bias.length=m.bias.l:=ok.2.2.1;exact⟨by omega,by omega,by omega⟩⟩
 refine(Ak (S.ow 0).row (S.wd 1) a b).mono ?_;rintro _ w ⟨rfl,F⟩;exact⟨_,_,rfl,d.gr.out2.1,MQ b,rfl,S.fra.trans F⟩
theorem OW{g:ah}{rs:List UInt8}{b1:Nat}{d e f i j:Int}(G:rs.length≤60)(S:aG h no g [aJ b1 [.int .i64 d,.int .i64 e,.int .i64 f,.int .i64 i,.int .i64 j]] [row p (az L),aJ 0 (az bl)])(q:L.length=l)(b:l≤c)(r:l<2 ^ 62):
 jv (fun v o=>v= .bool true∧cd no h o) (str rs) p l c ⟨b1,0,none⟩ true g:=by
 unfold jv;have m:(ByteArray.mk #[69,65,82,49])=str dV:=rfl;have a:dV.length=4:=rfl;refine fm (by decide) (by decide) ?_;refine ae (n:=j) (S.c 0) ?_;refine(Ka (S.ro 0) q b r j).mono ?_;rintro _ x ⟨s,k,rfl,F⟩;replace S:=S.fra0 F;refine⟨_,rfl,?_⟩;refine fm (by decide) (by decide) (ae (n:=d) (S.c 0) ?_);refine fm (by decide) (by decide) (ae (n:=e) (S.c 0) ?_);refine(AY (s:=s) (by omega) d e).mono ?_;rintro _ y ⟨u,rfl,H,F⟩;replace S:=S.fra0 F;refine⟨_,rfl,?_⟩;refine fm (by decide) (by decide) (ae (n:=f) (S.c 0) ?_);refine fm (by decide) (by decide) (ae (n:=i) (S.c 0) ?_);refine(AY (s:=u) (by omega) f i).mono ?_;rintro _ z ⟨w,rfl,t,F⟩;replace S:=S.fra0 F;refine⟨_,rfl,cC rfl ?_⟩;refine(mG (s:=rs) (by omega) (S.rd 1)).mono ?_;rintro _ A ⟨rfl,F⟩;replace S:=S.fra0 F;refine⟨_,rfl,cC rfl ?_⟩;rw[m];refine kv (by rw[cu,cu,a];omega) ?_;rw[jC];refine(mG (by rw[Tz,a];omega) (S.rd 1)).mono ?_;rintro _ B ⟨rfl,F⟩;replace S:=S.fra0 F;refine⟨_,rfl,cC rfl ?_⟩;refine(mG (s:=s) (by omega) (S.rd 1)).mono ?_;rintro _ C ⟨rfl,F⟩;replace S:=S.fra0 F;refine⟨_,rfl,cC rfl ?_⟩;refine(mG (s:=u) (by omega) (S.rd 1)).mono ?_;rintro _ D ⟨rfl,F⟩;replace S:=S.fra0 F;refine⟨_,rfl,cC rfl ?_⟩;refine(mG (s:=w) (by omega) (S.rd 1)).mono ?_;rintro _ E ⟨rfl,F⟩;exact⟨_,rfl,rfl,(S.fra0 F).fra⟩
theorem Gx(q:KT h)(a:ByteArray)(x:bD h p (az L))(o:L.length=l)(j:l≤c)(t:l<2 ^ 62)(b d e f i:Int):
 au P nZ #[.string a,.slice p l c,.agg #[.int .i64 b,.int .i64 d,.int .i64 e,.int .i64 f,.int .i64 i]] h fun v m=>v= .bool true∧cd no h m:=by
 obtain⟨rs,rfl⟩:=Td a;refine tI _ _ _ _ (b,d,e,f,i,()) ?_;unfold si;have S:=((aG.start h no).read (row p (az L)) x).read (aJ 0 (az bl)) q;refine aA (cs:=[.int .i64 b,.int .i64 d,.int .i64 e,.int .i64 f,.int .i64 i]) S fun k y _ S=> ?_;dsimp only[Yg,Yh]at S;refine(LZ (S.rd 1)).mono ?_;rintro _ z ⟨rfl,F⟩;replace S:=S.fra0 F;refine⟨_,rfl,?_⟩;refine⟨fun s g=> ∃us:List UInt8,s=(str us,(p,l,c),⟨k,0,none⟩,true,())∧us.length≤60∧aG h no g [aJ k [.int .i64 b,.int .i64 d,.int .i64 e,.int .i64 f,.int .i64 i]] [row p (az L),aJ 0 (az bl)],?_,?_⟩
 ·rintro s g ⟨us,rfl,w,S⟩;exact OW w S o j t
 ·rw[cu];refine aq (fun r=> ?_) (fun u=>⟨rs,rfl,by omega,S⟩);refine iH (n:=60) rfl (by omega) ?_;rw[gJ];exact⟨_,rfl,by rw[VV];omega,S⟩
